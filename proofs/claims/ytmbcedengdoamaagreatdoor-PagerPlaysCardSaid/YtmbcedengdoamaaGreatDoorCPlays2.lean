/- Texts SrtA, FormsP, PtM, HpA, HpB, PtN, PlA, PlB, PlC, PlD, SrtB, SrtC, SrtD, SrtE, SrtF, SrtG, SrtH, PlE, RfA, PlF, PgA, LwL, FormsF, PtQ, PgB, PgC, PgD, PtR, FlA, FlB, FlC, FormsW, SuA, SuB, SuC: contracts of the program's functions, one behind the other. Conditions: those that stand in each line. -/
import Derived.Test.YtmbcedengdoamaaGreatDoorCPlays1
import Derived.Sort.LotD6
import Derived.Test.YtmbcedengdoamaaGreatDoorProg
import Derived.KernelRfl
import Derived.Sort.LotA
import Derived.MapKept
import Derived.Sort.LotC
import Derived.Sort.LotD1
import Derived.Laws.Bits64b
import Derived.Laws.Closers25b
import Derived.Sort.LotD2
import Derived.Sort.LotB
import Derived.Sort.LotD3
import Derived.Shelf.Bytes.SlCountOne
import Derived.Laws.CopyRow
import Derived.Laws.IdiomCopy
import Derived.Test.YtmbcedengdoamaaGreatDoorTie
import Derived.LaidMore
import Derived.MakeChecks
import Derived.OpenShut
import Derived.ProofKit
import Derived.Laws.Externs
section
set_option linter.unusedVariables false
set_option linter.unusedSimpArgs false
namespace Go.Proofs.YtmbcedengdoamaaGreatDoor
open Go Go.Pt Go.Sort
attribute [local irreducible] ld ldA ldV fld fldA newZ st new idx idxS idxA slc slcS slcP mkS chk nn call callV inv run runQ runU join loop held ext rng undefer s2a nxt ent IntKind.wrap
def u32s (d:Array Int):Array Value:=d.map (.int .u32)
theorem quG (d:Array Int) (i:Nat) (h:i<d.size):(u32s d)[i]?=some (.int .u32 d[i]!):=by
 unfold u32s
 simp [h]
theorem qc9 (d:Array Int):(u32s d).size=d.size:=by simp [u32s]
theorem qpK (d:Array Int) (i:Nat) (v:Int):(u32s d).setIfInBounds i (.int .u32 v)=u32s (d.setIfInBounds i v):=by
 unfold u32s
 apply Array.ext_getElem?
 intro j
 simp only [Array.getElem?_setIfInBounds,Array.getElem?_map,Array.size_map]
 by_cases hj:i=j
 ·subst hj
  by_cases hi:i<d.size <;> simp [hi]
 ·simp [hj]
structure ArrT where
 ty:TypeId
 rest:Option (Array Value)
instance:Coe TypeId ArrT:=⟨fun T=>⟨T,none⟩⟩
def ArrT.cells (T:ArrT) (c:Array Value):Array Value:=match T.rest with | none=>c | some r=>c++r
theorem ArrT.get (T:ArrT) (c:Array Value) (i:Nat) (h:i<c.size):(T.cells c)[i]?=c[i]?:=by
 unfold ArrT.cells
 split
 ·rfl
 ·rw [Array.getElem?_append_left h]
theorem ArrT.size (T:ArrT) (c:Array Value):c.size<=(T.cells c).size:=by
 unfold ArrT.cells
 split
 ·exact Nat.le_refl _
 ·rw [Array.size_append]; omega
theorem ArrT.set (T:ArrT) (c:Array Value) (i:Nat) (v:Value) (h:i<c.size):(T.cells c).setIfInBounds i v=T.cells (c.setIfInBounds i v):=by
 unfold ArrT.cells
 split
 ·rfl
 ·rename_i r _
  apply Array.ext_getElem?
  intro j
  rw [Array.getElem?_setIfInBounds,Array.getElem?_append,Array.getElem?_append,Array.size_append,Array.size_setIfInBounds,Array.getElem?_setIfInBounds]
  by_cases hij:i=j
  ·subst hij
   rw [if_pos rfl,if_pos (by omega),if_pos h,if_pos rfl,if_pos h]
  ·rw [if_neg hij,if_neg hij]
structure Arr (blk:Nat) (T:ArrT) (w0 w:World) (d:Array Int):Prop where
 fr:Fr [blk] w0 w
 blk:w.heap[blk]?=some (.cells (T.cells (u32s d)) T.ty (0,0))
theorem Arr.start {blk:Nat} {T:TypeId} {w:World} {d:Array Int} (h:w.heap[blk]?=some (.cells (u32s d) T (0,0))):Arr blk T w w d:=⟨.refl _ _,h⟩
section
variable {blk:Nat} {T:ArrT} {w0 w:World} {d:Array Int} {len cap:Nat}
theorem Arr.drew (h:Arr blk T w0 w d):Arr blk T w0 w.drew d:=⟨h.fr.drew,h.blk⟩
theorem Arr.rd (h:Arr blk T w0 w d) (n:Nat) {i:Int} {K:Int->Prop} (hi:i=n) (hn:n<len) (hl:len<=d.size/\len<=1152921504606846976) (k:K d[n]!) :
  idx ⟨some ⟨blk,0,none⟩,len,cap⟩ i 1 fun a=>ld (.int .u32) a w K:=by
 subst hi
 refine qc7 (by omega) (by omega) ?_
 refine qae h.blk d[n]! ?_ k
 rw [Int.toNat_natCast,Nat.zero_add,Nat.mul_one]
 rw [ArrT.get _ _ _ (by rw [qc9]; omega)]
 exact quG d n (by omega)
theorem Arr.wr (h:Arr blk T w0 w d) (n:Nat) {i v:Int} {K:World->Prop} (hi:i=n) (hn:n<len) (hl:len<=d.size/\len<=1152921504606846976) (k:∀ w',Arr blk T w0 w' (d.setIfInBounds n v)->K w') :
  idx ⟨some ⟨blk,0,none⟩,len,cap⟩ i 1 fun a=>st a [.int .u32 v] w K:=by
 subst hi
 refine qc7 (by omega) (by omega) ?_
 rw [Int.toNat_natCast,Nat.zero_add,Nat.mul_one]
 show st ⟨blk,n,none⟩ _ w K
 unfold st
 refine qhm (w:=w) [.int .u32 v] n 0 _ w K h.blk rfl (by have:=T.size (u32s d); rw [qc9] at this; simp; omega) (k _ ⟨?_,?_⟩)
 ·refine h.fr.trans ⟨rfl,rfl,rfl,by rw [qbR]; exact Nat.le_refl _,fun j hj hS=>?_⟩
  rw [qaG _ _ _ _ (qac h.blk),if_neg (by simpa using hS)]
 ·rw [qaG _ _ _ _ (qac h.blk),if_pos rfl]
  simp only [splice,Nat.add_zero]
  rw [ArrT.set _ _ _ _ (by rw [qc9]; omega),qpK]
theorem Arr.swap (h:Arr blk T w0 w d) (n m:Nat) {i j:Int} {K:World->Prop} (hi:i=n) (hj:j=m) (hn:n<len) (hm:m<len) (hl:len<=d.size/\len<=1152921504606846976) (k:∀ w',Arr blk T w0 w' (swp d n m)->K w') :
  idx ⟨some ⟨blk,0,none⟩,len,cap⟩ j 1 fun a=>ld (.int .u32) a w fun x=>idx ⟨some ⟨blk,0,none⟩,len,cap⟩ i 1 fun a=>ld (.int .u32) a w fun y=>
   idx ⟨some ⟨blk,0,none⟩,len,cap⟩ i 1 fun a=>st a [.int .u32 x] w fun w'=>idx ⟨some ⟨blk,0,none⟩,len,cap⟩ j 1 fun a=>st a [.int .u32 y] w' K:=by
 refine h.rd m hj hm hl ?_
 refine h.rd n hi hn hl ?_
 refine h.wr n hi hn hl fun w1 h1=>?_
 refine h1.wr m hj hm (by simpa using hl) fun w2 h2=>?_
 exact k w2 h2
theorem qfH (d:Array Int) (n m:Nat):(swp d n m).size=d.size:=by simp [swp]
end
theorem quN {x:Int} {w:World} {K:Bool->World->Prop} (hk:K false w):call Tryz.prog 173 [.int .u32 x] [.one .bool] w K:=by
 apply qpU
 unfold qmq
 simpa using hk
theorem qbb {x y:Int} {w:World} {K:Bool->World->Prop} (hk:K (ltInt x y) w):call Tryz.prog 153 [.int .u32 x,.int .u32 y] [.one .bool] w K:=by
 apply qqx
 unfold qnL
 refine quN ?_
 exact cond_false rfl hk
theorem swo:SWO ltInt:=⟨fun x=>by simp [ltInt],fun x y z h1 h2=>by simp [ltInt] at *; omega,fun x y z h1 h2=>by simp [ltInt] at *; omega⟩
theorem wi (x:Int) (h:-9223372036854775808<=x/\x<=9223372036854775807):IntKind.i64.wrap x=x:=IntWalk.i64_in x h
theorem qv9 {blk:Nat} {T:ArrT} {w0 w:World} {d:Array Int} {len cap a b:Nat} {K:Unit->World->Prop} (h:Arr blk T w0 w d) (hab:a<=b) (hb:b<=len) (hl:len<=d.size/\len<=1152921504606846976)
  (hk:∀ w',Arr blk T w0 w' (insertionSort ltInt d a b)->K () w'):call Tryz.prog 147 [.slice (some ⟨blk,0,none⟩) len cap,.int .i64 a,.int .i64 b] [] w K:=by
 refine qbr (data:=⟨some ⟨blk,0,none⟩,len,cap⟩) ?_
 unfold qa7
 rw [wi _ (by omega)]
 refine qag (fun x w'=>∃ (i:Nat) (d':Array Int),x=i/\a+1<=i/\Arr blk T w0 w' d'/\d'.size=d.size/\insOuter ltInt a b i d'=insOuter ltInt a b (a+1) d) (fun x _=>((b:Int)-x).toNat)
  ⟨a+1,d,by omega,by omega,h,rfl,rfl⟩ ?_
 rintro x w1 ⟨i,d1,rfl,hi,h,hs1,he1⟩ X hX
 refine qaa (fun hc=>?_) (fun hc=>?_)
 ·have hib:i<b:=by have:=of_decide_eq_true hc; omega
  refine qag (fun y w'=>∃ (j:Nat) (d':Array Int),y=j/\j<=i/\Arr blk T w0 w' d'/\d'.size=d.size/\insInner ltInt a j d'=insInner ltInt a i d1) (fun y _=>y.toNat)
   ⟨i,d1,rfl,by omega,h,hs1,rfl⟩ ?_
  rintro y w2 ⟨j,d2,rfl,hj,h,hs2,he2⟩ Z hZ
  refine qaf (fun c w'=>c=(decide (a<j)&&ltInt d2[j]! d2[j-1]!)/\Arr blk T w0 w' d2) ?_ ?_
  ·refine qaa (fun hc=>?_) (fun hc=>?_)
   ·have hc':a<j:=by have:=of_decide_eq_true hc; omega
    refine h.drew.rd j rfl (by omega) (by omega) ?_
    refine h.drew.rd (j-1) (by rw [wi _ (by omega)]; omega) (by omega) (by omega) ?_
    refine qbb ?_
    exact ⟨by simp [hc'],h.drew⟩
   ·have hc':¬ a<j:=by have:=of_decide_eq_false hc; omega
    exact ⟨by simp [hc'],h.drew⟩
  ·rintro c w3 ⟨rfl,h⟩
   refine qaa (fun hc=>?_) (fun hc=>?_)
   ·simp only [Bool.and_eq_true,decide_eq_true_eq] at hc
    obtain ⟨k,rfl⟩:∃ k,j=k+1:=⟨j-1,by omega⟩
    refine h.drew.swap (k+1) k rfl (by rw [wi _ (by omega)]; omega) (by omega) (by omega) (by omega) fun w4 h=>?_
    refine hZ _ _ ⟨k,_,by rw [wi _ (by omega)]; omega,by omega,h,by rw [qfH]; exact hs2,?_⟩ (by rw [wi _ (by omega)]; omega)
    rw [<- he2,insInner,if_pos (by simpa using hc)]
   ·rw [wi _ (by omega)]
    refine hX _ _ ⟨i+1,d2,by omega,by omega,h,hs2,?_⟩ (by omega)
    rw [<- he1,insOuter.eq_1 ltInt a b i d1,if_pos hib,<- he2]
    cases j with
    | zero=>rfl
    | succ k=>
     rw [insInner,if_neg]
     simpa using hc
 ·have hib:¬ i<b:=by have:=of_decide_eq_false hc; omega
  rw [insOuter.eq_1 ltInt a b i d1,if_neg hib] at he1
  refine hk _ ?_
  unfold insertionSort
  rw [<- he1]
  exact h
end Go.Proofs.YtmbcedengdoamaaGreatDoor
end
section
set_option linter.unusedVariables false
set_option maxRecDepth 100000
namespace Go.Proofs.YtmbcedengdoamaaGreatDoor
open Go Go.Pt
def qof  (K:((Option Addr))->World->Prop) (w:World):Prop:=new (Obj.map #[] 0) w fun a b=>new (Obj.cells #[.slice none 0 0,.map (some a)] 172) b fun c d=>K (some ⟨c,0,none⟩) d
def qtC:List Ann:=[.n,.n]
theorem qqC {w K} (hF:qof  K w):call Tryz.prog 100 [] [.one .ptr] w K:=qad (an:=qtC) Tryz.func100 hF
def qhH (p:Option Addr) (K:Int->World->Prop) (w:World):Prop:=nn p fun a=>ld .slice a w fun b=>K (↑b.len:Int) w
def qns:List Ann:=[.n,.n]
theorem qlL {p w K} (hF:qhH p K w):call Tryz.prog 43 [.pointer p] [.one (.int .i64)] w K:=qad (an:=qns) Tryz.func43 hF
def qdN (a:Sl) (b:Sl) (K:Bool->World->Prop) (w:World):Prop:=cond (!(↑a.len:Int)==(↑b.len:Int)) (K false w) (loop (Int) (fun c (d:Int) e=>cond (decide (d<(↑a.len:Int))) (idx a d 1 fun f=>ld (.int .u32) f (World.drew e) fun (g:Int)=>idx b d 1 fun h=>ld (.int .u32) h (World.drew e) fun (i:Int)=>cond (!g==i) (K false (World.drew e)) (c (IntKind.wrap .i64 (d+1)) (World.drew e))) (K true e)) 0 w)
def qiQ:List Ann:=[.n,.n,.n,.n,.n,.n,.l [(5,.one (.int .i64))],.n,.n,.n,.n,.o [[0,1,2,3,4,5,6,7,8]],.n,.n]
theorem qht {a b w K} (hF:qdN a b K w):call Tryz.prog 31 [.slice a.a a.len a.cap,.slice b.a b.len b.cap] [.one .bool] w K:=qad (an:=qiQ) Tryz.func31 hF
def qgx (p:Option Addr) (K:Sl->World->Prop) (w:World):Prop:=nn p fun b=>ld .slice b w fun c=>call Tryz.prog 82 ([.slice c.a c.len c.cap]) ([.one .slice]) w fun d e=>call Tryz.prog 91 ([.slice d.a d.len d.cap]) [] e fun (f:PUnit) g=>K d g
def qmt:List Ann:=[.n,.n,.n,.n]
theorem qkv {p w K} (hF:qgx p K w):call Tryz.prog 40 [.pointer p] [.one .slice] w K:=qad (an:=qmt) Tryz.func40 hF
def qhI (p:Option Addr) (n:Int) (K:Bool->World->Prop) (w:World):Prop:=call Tryz.prog 93 ([.pointer p,.int .u32 n]) ([.one .bool]) w fun (a:Bool) b=>cond a (K false b) (nn p fun c=>ld .map ⟨c.block,c.off+1,none⟩ b fun (d:Option Nat)=>runU ((Instr.mapUpdate 170 (.map d) (.int .u32 n) (.int .i64 1)).run Tryz.prog b) fun e=>nn p fun f=>call Tryz.prog 94 ([Value.iface 175 (.pointer (some f)),Value.iface 29 (.int .u32 n)]) [] e fun (g:PUnit) h=>K true h)
def qnv:List Ann:=[.n,.n,.n,.n,.n,.n,.n]
theorem qlC {p n w K} (hF:qhI p n K w):call Tryz.prog 44 [.pointer p,.int .u32 n] [.one .bool] w K:=qad (an:=qnv) Tryz.func44 hF
def qgn (p:Option Addr) (K:(Int×Bool)->World->Prop) (w:World):Prop:=nn p fun a=>ld .slice a w fun b=>cond ((↑b.len:Int)==0) (K ((0,false)) w) (nn p fun c=>call Tryz.prog 92 ([Value.iface 175 (.pointer (some c))]) ([.one .any]) w fun (d:Value) e=>runQ [.one (.int .u32),.one .bool] (fun f=>(Instr.typeAssert d 20 29 true).run Tryz.prog f) e fun (g:Int×Bool)=>nn p fun h=>ld .map ⟨h.block,h.off+1,none⟩ e fun (i:Option Nat)=>run [] ((Builtin.delete_ (#[170,29]) 0 (#[.map i,.int .u32 g.fst])).run Tryz.prog e) fun (j:PUnit) k=>K g k)
def qlY:List Ann:=[.n,.n,.n,.n,.n,.n,.n]
theorem qkF {p w K} (hF:qgn p K w):call Tryz.prog 41 [.pointer p] [.one (.int .u32),.one .bool] w K:=qad (an:=qlY) Tryz.func41 hF
def qg6 (p:Option Addr) (n:Int) (K:Bool->World->Prop) (w:World):Prop:=nn p fun a=>ld .map ⟨a.block,a.off+1,none⟩ w fun (b:Option Nat)=>runQ [.one (.int .i64)] (fun c=>(Instr.lookup 170 (.map b) (.int .u32 n) false).run Tryz.prog c) w fun (d:Int)=>K (d==1) w
def qnt:List Ann:=[.n,.n]
theorem qlN {p n w K} (hF:qg6 p n K w):call Tryz.prog 93 [.pointer p,.int .u32 n] [.one .bool] w K:=qad (an:=qnt) Tryz.func93 hF
def qeA (l:Sl) (n:Int) (K:Bool->World->Prop) (w:World):Prop:=loop (Int) (fun a (b:Int) c=>cond (decide (b<(↑l.len:Int))) (idx l b 1 fun d=>ld (.int .u32) d c fun (e:Int)=>cond (e==n) (K true c) (a (IntKind.wrap .i64 (b+1)) c)) (K false c)) 0 w
def qkc:List Ann:=[.n,.n,.n,.l [(5,.one (.int .i64))],.n,.n,.n,.n,.n,.n]
theorem qio {l n w K} (hF:qeA l n K w):call Tryz.prog 14 [.slice l.a l.len l.cap,.int .u32 n] [.one .bool] w K:=qad (an:=qkc) Tryz.func14 hF
def qgy (p:Option Addr) (K:((Option Addr))->World->Prop) (w:World):Prop:=call Tryz.prog 100 [] ([.one .ptr]) w fun a b=>nn p fun c=>ld .slice c b fun d=>loop (Int) (fun e (f:Int) g=>cond (decide (f<(↑d.len:Int))) (idx d f 1 fun h=>ld (.int .u32) h g fun (i:Int)=>call Tryz.prog 44 ([.pointer a,.int .u32 i]) ([.one .bool]) g fun (j:Bool) k=>e (IntKind.wrap .i64 (f+1)) k) (K a g)) 0 b
def ql9:List Ann:=[.n,.n,.n,.n,.l [(12,.one (.int .i64))],.n,.n,.n,.n,.n]
theorem qkw {p w K} (hF:qgy p K w):call Tryz.prog 136 [.pointer p] [.one .ptr] w K:=qad (an:=ql9) Tryz.func136 hF
def qeL (l:Sl) (n:Int) (K:Sl->World->Prop) (w:World):Prop:=new (Obj.cells #[] 29) w fun b c=>loop (Sl×Bool×Int) (fun d (e:Sl×Bool×Int) f=>cond (decide (e.snd.snd<(↑l.len:Int))) (join (Sl×Bool) (fun g=>join (Sl×Bool) (fun h=>join (Bool) (fun i=>cond (!e.snd.fst) (idx l e.snd.snd 1 fun j=>ld (.int .u32) j f fun (k:Int)=>i (decide (k>=n)) f) (i false f)) fun (m:Bool) o=>cond m (new (Obj.cells #[.int .u32 n] 29) o fun p q=>run [.one .slice] ((Builtin.append_ (#[27,27]) 27 (#[.slice e.fst.a e.fst.len e.fst.cap,.slice (some ⟨p,0,none⟩) 1 1])).run Tryz.prog q) fun r s=>h ((r,true)) s) (h ((e.fst,e.snd.fst)) o)) fun (t:Sl×Bool) u=>idx l e.snd.snd 1 fun v=>ld (.int .u32) v u fun (x:Int)=>cond (!x==n) (idx l e.snd.snd 1 fun y=>ld (.int .u32) y u fun (z:Int)=>new (Obj.cells #[.int .u32 z] 29) u fun A B=>run [.one .slice] ((Builtin.append_ (#[27,27]) 27 (#[.slice t.fst.a t.fst.len t.fst.cap,.slice (some ⟨A,0,none⟩) 1 1])).run Tryz.prog B) fun C D=>g ((C,t.snd)) D) (g t u)) fun (E:Sl×Bool) F=>d ((E.fst,E.snd,IntKind.wrap .i64 (e.snd.snd+1))) F) (join (Sl) (fun G=>cond (!e.snd.fst) (new (Obj.cells #[.int .u32 n] 29) f fun H I=>run [.one .slice] ((Builtin.append_ (#[27,27]) 27 (#[.slice e.fst.a e.fst.len e.fst.cap,.slice (some ⟨H,0,none⟩) 1 1])).run Tryz.prog I) fun J L=>G J L) (G e.fst f)) fun M N=>K M N)) (({ a:=some ⟨b,0,none⟩,len:=0,cap:=0 },false,0)) c
def qjT:List Ann:=[.n,.n,.n,.n,.n,.l [(5,.one .slice),(6,.one .bool),(7,.one (.int .i64))],.n,.n,.j [(5,.one .slice),(6,.one .bool)],.j [(5,.one .slice),(6,.one .bool)],.j [(24,.one .bool)],.n,.n,.j [(5,.one .slice)],.n,.n]
theorem qhR {l n w K} (hF:qeL l n K w):call Tryz.prog 15 [.slice l.a l.len l.cap,.int .u32 n] [.one .slice] w K:=qad (an:=qjT) Tryz.func15 hF
def qcP (s:Sl) (K:Sl->World->Prop) (w:World):Prop:=cond (Option.isNone s.a) (K ({ a:=none,len:=0,cap:=0 }) w) (new (Obj.cells #[] 29) w fun b c=>run [.one .slice] ((Builtin.append_ (#[27,27]) 27 (#[.slice (some ⟨b,0,none⟩) 0 0,.slice s.a s.len s.cap])).run Tryz.prog c) fun d e=>K d e)
def qoE:List Ann:=[.n,.n,.n,.n,.n]
theorem qdu {s w K} (hF:qcP s K w):call Tryz.prog 82 [.slice s.a s.len s.cap] [.one .slice] w K:=qad (an:=qoE) Tryz.func82 hF
def qmP (h:Value) (x:Value) (K:Unit->World->Prop) (w:World):Prop:=inv Tryz.prog h "Push" [x] [] w fun (a:PUnit) b=>inv Tryz.prog h "Len" [] ([.one (.int .i64)]) b fun (c:Int) d=>call Tryz.prog 127 ([h,.int .i64 (IntKind.wrap .i64 (c-1))]) [] d fun (e:PUnit) f=>K () f
def qrC:List Ann:=[.n]
theorem qqm {h x w K} (hF:qmP h x K w):call Tryz.prog 94 [h,x] [] w K:=qad (an:=qrC) Tryz.func94 hF
def qnM (h:Value) (K:Value->World->Prop) (w:World):Prop:=inv Tryz.prog h "Len" [] ([.one (.int .i64)]) w fun (a:Int) b=>inv Tryz.prog h "Swap" ([.int .i64 0,.int .i64 (IntKind.wrap .i64 (a-1))]) [] b fun (c:PUnit) d=>call Tryz.prog 126 ([h,.int .i64 0,.int .i64 (IntKind.wrap .i64 (a-1))]) ([.one .bool]) d fun (e:Bool) f=>inv Tryz.prog h "Pop" [] ([.one .any]) f fun (g:Value) i=>K g i
def qtN:List Ann:=[.n,.n,.n,.n,.n]
theorem qqW {h w K} (hF:qnM h K w):call Tryz.prog 92 [h] [.one .any] w K:=qad (an:=qtN) Tryz.func92 hF
def qqf (h:Value) (j:Int) (K:Unit->World->Prop) (w:World):Prop:=loop (Int) (fun a (b:Int) c=>join (Bool) (fun d=>cond (IntKind.wrap .i64 (Int.tdiv (IntKind.wrap .i64 (b-1)) 2)==b) (d true c) (inv Tryz.prog h "Less" ([.int .i64 b,.int .i64 (IntKind.wrap .i64 (Int.tdiv (IntKind.wrap .i64 (b-1)) 2))]) ([.one .bool]) c fun (e:Bool) f=>d (!e) f)) fun (g:Bool) i=>cond g (K () i) (inv Tryz.prog h "Swap" ([.int .i64 (IntKind.wrap .i64 (Int.tdiv (IntKind.wrap .i64 (b-1)) 2)),.int .i64 b]) [] i fun (k:PUnit) l=>a (IntKind.wrap .i64 (Int.tdiv (IntKind.wrap .i64 (b-1)) 2)) l)) j w
def qt8:List Ann:=[.l [(1,.one (.int .i64))],.n,.n,.j [(17,.one .bool)],.n]
theorem qsz {h j w K} (hF:qqf h j K w):call Tryz.prog 127 [h,.int .i64 j] [] w K:=qad (an:=qt8) Tryz.func127 hF
def qmN (h:Value) (i0:Int) (n:Int) (K:Bool->World->Prop) (w:World):Prop:=join (Int) (fun a=>loop (Int) (fun b (c:Int) d=>join (Bool) (fun e=>cond (decide (IntKind.wrap .i64 (IntKind.wrap .i64 (2*c)+1)>=n)) (e true d) (e (decide (IntKind.wrap .i64 (IntKind.wrap .i64 (2*c)+1)<0)) d)) fun (f:Bool) g=>cond f (a c g) (join (Int) (fun i=>join (Bool) (fun j=>cond (decide (IntKind.wrap .i64 (IntKind.wrap .i64 (IntKind.wrap .i64 (2*c)+1)+1)<n)) (inv Tryz.prog h "Less" ([.int .i64 (IntKind.wrap .i64 (IntKind.wrap .i64 (IntKind.wrap .i64 (2*c)+1)+1)),.int .i64 (IntKind.wrap .i64 (IntKind.wrap .i64 (2*c)+1))]) ([.one .bool]) g fun (k:Bool) l=>j k l) (j false g)) fun (m:Bool) o=>cond m (i (IntKind.wrap .i64 (IntKind.wrap .i64 (IntKind.wrap .i64 (2*c)+1)+1)) o) (i (IntKind.wrap .i64 (IntKind.wrap .i64 (2*c)+1)) o)) fun (p:Int) q=>inv Tryz.prog h "Less" ([.int .i64 p,.int .i64 c]) ([.one .bool]) q fun (r:Bool) s=>cond (!r) (a c s) (inv Tryz.prog h "Swap" ([.int .i64 c,.int .i64 p]) [] s fun (t:PUnit) u=>b p u))) i0 w) fun (v:Int) x=>K (decide (v>i0)) x
def qrZ:List Ann:=[.n,.n,.j [(7,.one (.int .i64))],.l [(7,.one (.int .i64))],.n,.n,.j [(21,.one .bool)],.n,.j [(9,.one (.int .i64))],.n,.j [(33,.one .bool)],.n,.n,.n,.n]
theorem qo4 {h i0 n w K} (hF:qmN h i0 n K w):call Tryz.prog 126 [h,.int .i64 i0,.int .i64 n] [.one .bool] w K:=qad (an:=qrZ) Tryz.func126 hF
def qiP (r:Sl) (K:Int->World->Prop) (w:World):Prop:=K (↑r.len:Int) w
def qot:List Ann:=[.n,.n]
theorem qm3 {r w K} (hF:qiP r K w):call Tryz.prog 194 [.slice r.a r.len r.cap] [.one (.int .i64)] w K:=qad (an:=qot) Tryz.func194 hF
def qhn (r:Sl) (i:Int) (k:Int) (K:Bool->World->Prop) (w:World):Prop:=idx r i 1 fun a=>ld (.int .u32) a (World.drew w) fun (b:Int)=>idx r k 1 fun c=>ld (.int .u32) c (World.drew w) fun (d:Int)=>K (decide (b<d)) (World.drew w)
def qne:List Ann:=[.n,.n,.o [[0,1,2,3,4,5,6,7,8,9]]]
theorem qlA {r i k w K} (hF:qhn r i k K w):call Tryz.prog 195 [.slice r.a r.len r.cap,.int .i64 i,.int .i64 k] [.one .bool] w K:=qad (an:=qne) Tryz.func195 hF
def qg0 (r:Sl) (i:Int) (k:Int) (K:Unit->World->Prop) (w:World):Prop:=idx r k 1 fun a=>ld (.int .u32) a (World.drew w) fun (b:Int)=>idx r i 1 fun c=>ld (.int .u32) c (World.drew w) fun (d:Int)=>idx r i 1 fun e=>st e ([.int .u32 b]) (World.drew w) fun f=>idx r k 1 fun g=>st g ([.int .u32 d]) f fun h=>K () h
def qm7:List Ann:=[.o [[0,1,2,3,4,5,6,7,8,9,10,11,12,13,14,15]]]
theorem qlO {r i k w K} (hF:qg0 r i k K w):call Tryz.prog 196 [.slice r.a r.len r.cap,.int .i64 i,.int .i64 k] [] w K:=qad (an:=qm7) Tryz.func196 hF
def qiG (r:Option Addr) (K:Value->World->Prop) (w:World):Prop:=nn r fun b=>ld .slice b (World.drew w) fun c=>nn r fun d=>ld .slice d (World.drew w) fun e=>idx c (IntKind.wrap .i64 ((↑e.len:Int)-1)) 1 fun f=>ld (.int .u32) f (World.drew w) fun (g:Int)=>nn r fun h=>ld .slice h (World.drew (World.drew w)) fun i=>nn r fun j=>ld .slice j (World.drew (World.drew w)) fun k=>slc i none (some (IntKind.wrap .i64 ((↑k.len:Int)-1))) none 1 fun l=>nn r fun m=>st m ([.slice l.a l.len l.cap]) (World.drew (World.drew w)) fun n=>K (Value.iface 29 (.int .u32 g)) n
def qoB:List Ann:=[.n,.n,.o [[0,1,2,3,4,5,6,7,8,9,10]],.n,.o [[0,1,2,3,4,5,6,7,8,9,10,11]],.n]
theorem qmY {r w K} (hF:qiG r K w):call Tryz.prog 197 [.pointer r] [.one .any] w K:=qad (an:=qoB) Tryz.func197 hF
def qhh (r:Option Addr) (x:Value) (K:Unit->World->Prop) (w:World):Prop:=runQ [.one (.int .u32),.one .bool] (fun b=>(Instr.typeAssert x 20 29 true).run Tryz.prog b) w fun (c:Int×Bool)=>cond c.snd (nn r fun d=>ld .slice d w fun e=>new (Obj.cells #[.int .u32 c.fst] 29) w fun f g=>run [.one .slice] ((Builtin.append_ (#[169,169]) 169 (#[.slice e.a e.len e.cap,.slice (some ⟨f,0,none⟩) 1 1])).run Tryz.prog g) fun h i=>nn r fun j=>st j ([.slice h.a h.len h.cap]) i fun k=>K () k) (K () w)
def qnj:List Ann:=[.n,.n]
theorem qlQ {r x w K} (hF:qhh r x K w):call Tryz.prog 198 [.pointer r,x] [] w K:=qad (an:=qnj) Tryz.func198 hF
end Go.Proofs.YtmbcedengdoamaaGreatDoor
end
section
set_option linter.unusedVariables false
namespace Go.Pt
open Go
variable {P:Program} {w:World}
def methodOf (P:Program) (t:TypeId) (name:String):Option (FuncId×Bool):=
 match (P.info? t).bind fun i=>i.methods.find? (·.name==name) with
 | some m=>bif m.path.isEmpty then m.func else none
 | none=>none
theorem qm1 {t:TypeId} {v:Value} {name:String} {f:FuncId} {p:Bool} (h:methodOf P t name=some (f,p)) (fuel:Nat) :
  ∃ wr,(Go.method (fuel+1) t v name).run P w=(do let r <- receiverAt t (.val v) p (some wr); pure (f,r):Sem (FuncId×Value)).run P w:=by
 unfold methodOf at h
 cases hi:P.info? t with
 | none=>rw [hi] at h; cases h
 | some i=>
  rw [hi] at h
  simp only [Option.bind_some] at h
  cases hm:i.methods.find? (·.name==name) with
  | none=>rw [hm] at h; cases h
  | some m=>
   rw [hm] at h
   dsimp only at h
   cases hp:m.path.isEmpty with
   | false=>rw [hp] at h; cases h
   | true=>
    rw [hp] at h
    change m.func=some (f,p) at h
    have hpe:=Array.isEmpty_iff.1 hp
    refine ⟨(name.splitOn ".").getLastD name,?_⟩
    simp [Go.method,typeInfo,run_program,hi,hm,hpe,h,follow]
theorem qtF {t e:TypeId} {name:String} {f:FuncId} {q:Value} {args:Array Value} (h:methodOf P t name=some (f,true)) (hu:P.underlying t=some (.pointer e)) (hb:bodyless P f=false) :
  (callMethod (.iface t q) name args).run P w=.ok (.enter f (#[q]++args)) w:=by
 obtain ⟨wr,hr⟩:=qm1 (w:=w) (v:=q) h (P.types.size+Made.depth-1)
 have hm0:0<Made.depth:=by decide
 have hd:P.types.size+Made.depth-1+1=P.types.size+Made.depth:=by omega
 rw [hd] at hr
 have h2:(do let r <- receiverAt t (.val q) true (some wr); pure (f,r):Sem (FuncId×Value)).run P w=.ok (f,q) w:=by
  simp [receiverAt,run_underlying hu,Place.get]
 rw [h2] at hr
 simp [callMethod,run_program,hr,qcy hb]
theorem qsU {t e:TypeId} {name:String} {f:FuncId} {a:Addr} {v:Value} {args:Array Value} (h:methodOf P t name=some (f,false)) (hu:P.underlying t=some (.pointer e)) (hb:bodyless P f=false)
  (he:(P.underlying e).isSome=true) (hag:isAggT P e=false) (hc:w.cell? a=some v) :
  (callMethod (.iface t (.pointer (some a))) name args).run P w=.ok (.enter f (#[v]++args)) w:=by
 obtain ⟨wr,hr⟩:=qm1 (w:=w) (v:=.pointer (some a)) h (P.types.size+Made.depth-1)
 have hm0:0<Made.depth:=by decide
 have hd:P.types.size+Made.depth-1+1=P.types.size+Made.depth:=by omega
 rw [hd] at hr
 have h2:(do let r <- receiverAt t (.val (.pointer (some a))) false (some wr); pure (f,r):Sem (FuncId×Value)).run P w=.ok (f,v) w:=by
  have hs:Builtin.ssaWrapNilChk_ #[t] t #[.pointer (some a),strVal "",strVal wr]=pure (.pointer (some a)):=rfl
  simp [receiverAt,run_underlying hu,Place.get,hs,asAddr,loadVar,qbP he,hag,hc]
 rw [h2] at hr
 simp [callMethod,run_program,hr,qcy hb]
theorem qq0 {t e:TypeId} {name:String} {f:FuncId} {q:Value} {args:List Value} {ts:List Ty1} {K:ElR ts->World->Prop} (h:methodOf P t name=some (f,true)) (hu:P.underlying t=some (.pointer e)) (hb:bodyless P f=false)
  (k:call P f (q::args) ts w K):inv P (.iface t q) name args ts w K:=
 ⟨f,q::args,by rw [qtF h hu hb]; simp,k⟩
theorem qnd {t e:TypeId} {name:String} {f:FuncId} {a:Addr} {v:Value} {args:List Value} {ts:List Ty1} {K:ElR ts->World->Prop} (h:methodOf P t name=some (f,false)) (hu:P.underlying t=some (.pointer e)) (hb:bodyless P f=false)
  (he:(P.underlying e).isSome=true) (hag:isAggT P e=false) (hc:w.cell? a=some v) (k:call P f (v::args) ts w K):inv P (.iface t (.pointer (some a))) name args ts w K:=
 ⟨f,v::args,by rw [qsU h hu hb he hag hc]; simp,k⟩
end Go.Pt
end
section
set_option linter.unusedVariables false
set_option linter.unusedSimpArgs false
namespace Go.Proofs.YtmbcedengdoamaaGreatDoor
open Go Go.Pt Go.Sort
attribute [local irreducible] ld ldA ldV fld fldA newZ st new idx idxS idxA slc slcS slcP mkS chk nn call callV inv run runQ runU join loop held ext rng undefer s2a nxt ent IntKind.wrap
def plB (rb len cap:Nat) (m:Value):Obj:=.cells #[.slice (some ⟨rb,0,none⟩) len cap,m] 172 (0,0)
section
variable {pb rb len cap:Nat} {m:Value} {w0 w:World} {d:Array Int} {T:TypeId}
theorem qlS (hp:w0.heap[pb]?=some (plB rb len cap m)) (hne:rb≠pb) (h:Arr rb T w0 w d):w.cell? ⟨pb,0,none⟩=some (.slice (some ⟨rb,0,none⟩) len cap):=by
 have h1:w.heap[pb]?=some (plB rb len cap m):=by
  rw [h.fr.block pb (qac hp) (by simpa using fun e=>hne e.symm)]
  exact hp
 rw [qaj h1]
 rfl
theorem qr3 {i k:Nat} {K:Bool->World->Prop} (hp:w0.heap[pb]?=some (plB rb len cap m)) (hne:rb≠pb) (h:Arr rb T w0 w d) (hi:i<len) (hk:k<len) (hl:len<=d.size/\len<=1152921504606846976)
  (hK:∀ w',Arr rb T w0 w' d->K (ltInt d[i]! d[k]!) w') :
  inv Tryz.prog (.iface 175 (.pointer (some ⟨pb,0,none⟩))) "Less" [.int .i64 i,.int .i64 k] [.one .bool] w K:=by
 refine qnd (f:=195) (by kernel_rfl) (e:=169) (by kernel_rfl) (by kernel_rfl) (by kernel_rfl) (by kernel_rfl) (qlS hp hne h) ?_
 refine qlA (r:=⟨some ⟨rb,0,none⟩,len,cap⟩) ?_
 unfold qhn
 refine h.drew.rd i rfl hi hl ?_
 refine h.drew.rd k rfl hk hl ?_
 exact hK _ h.drew
theorem qsl {i k:Nat} {K:Unit->World->Prop} (hp:w0.heap[pb]?=some (plB rb len cap m)) (hne:rb≠pb) (h:Arr rb T w0 w d) (hi:i<len) (hk:k<len) (hl:len<=d.size/\len<=1152921504606846976)
  (hK:∀ w',Arr rb T w0 w' (swp d i k)->K () w') :
  inv Tryz.prog (.iface 175 (.pointer (some ⟨pb,0,none⟩))) "Swap" [.int .i64 i,.int .i64 k] [] w K:=by
 refine qnd (f:=196) (by kernel_rfl) (e:=169) (by kernel_rfl) (by kernel_rfl) (by kernel_rfl) (by kernel_rfl) (qlS hp hne h) ?_
 refine qlO (r:=⟨some ⟨rb,0,none⟩,len,cap⟩) ?_
 unfold qg0
 exact h.drew.swap i k rfl rfl hi hk hl hK
theorem qwc {K:Int->World->Prop} (hp:w0.heap[pb]?=some (plB rb len cap m)) (hne:rb≠pb) (h:Arr rb T w0 w d) (hK:K len w) :
  inv Tryz.prog (.iface 175 (.pointer (some ⟨pb,0,none⟩))) "Len" [] [.one (.int .i64)] w K:=by
 refine qnd (f:=194) (by kernel_rfl) (e:=169) (by kernel_rfl) (by kernel_rfl) (by kernel_rfl) (by kernel_rfl) (qlS hp hne h) ?_
 refine qm3 (r:=⟨some ⟨rb,0,none⟩,len,cap⟩) ?_
 unfold qiP
 exact hK
end
section
def IsHeap (d:Array Int) (n:Nat):Prop:=∀ i,0<i->i<n->d[(i-1) / 2]!<=d[i]!
def UpAt (d:Array Int) (n j:Nat):Prop:=(∀ i,0<i->i<n->i≠j->d[(i-1) / 2]!<=d[i]!)/\∀ i,0<i->i<n->(i-1) / 2=j->0<j->d[(j-1) / 2]!<=d[i]!
def DownAt (d:Array Int) (n j:Nat):Prop:=(∀ i,0<i->i<n->(i-1) / 2≠j->d[(i-1) / 2]!<=d[i]!)/\∀ i,0<i->i<n->(i-1) / 2=j->0<j->d[(j-1) / 2]!<=d[i]!
theorem qdf (d:Array Int) {i j:Nat} (hi:i<d.size) (hj:j<d.size) (k:Nat):(swp d i j)[k]! = if k=j then d[i]! else if k=i then d[j]! else d[k]!:=swp_get d hi hj k
theorem UpAt.step {d:Array Int} {n j:Nat} (h:UpAt d n j) (hj:0<j) (hjn:j<n) (hn:n<=d.size) (hlt:d[j]!<d[(j-1) / 2]!):UpAt (swp d ((j-1) / 2) j) n ((j-1) / 2):=by
 have hp:(j-1) / 2<d.size:=by omega
 have hq:j<d.size:=by omega
 have hne:(j-1) / 2≠j:=by omega
 constructor
 ·intro i h0 hi hij
  have a1:=h.1 i h0 hi
  have a2:=h.2 i h0 hi
  rw [qdf d hp hq,qdf d hp hq]
  by_cases e1:i=j
  ·subst e1
   rw [if_neg (by omega),if_pos rfl,if_pos rfl]
   omega
  ·rw [if_neg e1,if_neg hij]
   by_cases e2:(i-1) / 2=j
   ·rw [if_pos e2]; exact a2 e2 hj
   ·rw [if_neg e2]
    by_cases e3:(i-1) / 2=(j-1) / 2
    ·rw [if_pos e3]
     have:=a1 e1
     rw [e3] at this
     omega
    ·rw [if_neg e3]; exact a1 e1
 ·intro i h0 hi hip hjp
  have a1:=h.1 i h0 hi
  have b1:=h.1 ((j-1) / 2) hjp (by omega) hne
  rw [qdf d hp hq,qdf d hp hq]
  rw [if_neg (by omega),if_neg (by omega)]
  by_cases e1:i=j
  ·subst e1; rw [if_pos rfl]; exact b1
  ·rw [if_neg e1,if_neg (by omega)]
   have:=a1 e1
   rw [hip] at this
   omega
theorem UpAt.stop {d:Array Int} {n j:Nat} (h:UpAt d n j) (hs:j=0\/d[(j-1) / 2]!<=d[j]!):IsHeap d n:=by
 intro i h0 hi
 by_cases e:i=j
 ·subst e
  rcases hs with hs | hs
  ·omega
  ·exact hs
 ·exact h.1 i h0 hi e
theorem DownAt.step {d:Array Int} {n i c:Nat} (h:DownAt d n i) (hc:c=2*i+1\/c=2*i+2) (hcn:c<n) (hn:n<=d.size) (hlt:d[c]!<d[i]!) (hmin:∀ k,k<n->(k=2*i+1\/k=2*i+2)->d[c]!<=d[k]!):DownAt (swp d i c) n c:=by
 have hp:i<d.size:=by omega
 have hq:c<d.size:=by omega
 constructor
 ·intro k h0 hk hkc
  have a1:=h.1 k h0 hk
  have a2:=h.2 k h0 hk
  rw [qdf d hp hq,qdf d hp hq,if_neg hkc]
  by_cases e1:k=c
  ·rw [if_pos e1,if_pos (by omega)]; omega
  ·rw [if_neg e1]
   by_cases e2:k=i
   ·rw [if_pos e2]
    subst e2
    rw [if_neg (by omega)]
    exact h.2 c (by omega) hcn (by omega) h0
   ·rw [if_neg e2]
    by_cases e3:(k-1) / 2=i
    ·rw [if_pos e3]; exact hmin k hk (by omega)
    ·rw [if_neg e3]; exact a1 e3
 ·intro k h0 hk hkc hc0
  have a1:=h.1 k h0 hk (by omega)
  rw [qdf d hp hq,qdf d hp hq]
  rw [if_neg (by omega),if_pos (by omega),if_neg (by omega),if_neg (by omega)]
  rw [hkc] at a1
  exact a1
theorem DownAt.stop {d:Array Int} {n i:Nat} (h:DownAt d n i) (hs:∀ k,k<n->(k=2*i+1\/k=2*i+2)->d[i]!<=d[k]!):IsHeap d n:=by
 intro k h0 hk
 by_cases e:(k-1) / 2=i
 ·rw [e]; exact hs k hk (by omega)
 ·exact h.1 k h0 hk e
section
variable {pb rb len cap:Nat} {m:Value} {w0 w:World} {d:Array Int} {T:TypeId}
theorem qwh {j:Nat} {K:Unit->World->Prop} (hp:w0.heap[pb]?=some (plB rb len cap m)) (hne:rb≠pb) (h:Arr rb T w0 w d) (hj:j<len) (hl:len<=d.size/\len<=1152921504606846976) (hu:UpAt d len j)
  (hk:∀ d' w',PermIn 0 len d d'->IsHeap d' len->Arr rb T w0 w' d'->K () w') :
  call Tryz.prog 127 [.iface 175 (.pointer (some ⟨pb,0,none⟩)),.int .i64 j] [] w K:=by
 apply qsz
 unfold qqf
 refine qag (fun x w'=>∃ (j:Nat) (d':Array Int),x=j/\j<len/\PermIn 0 len d d'/\UpAt d' len j/\Arr rb T w0 w' d') (fun x _=>x.toNat) ⟨j,d,rfl,hj,permIn_refl _ _ _,hu,h⟩ ?_
 rintro x w1 ⟨j,d1,rfl,hj,hpm,hu,h⟩ X hX
 have hs:=hpm.1
 have e1:IntKind.i64.wrap (Int.tdiv (IntKind.i64.wrap ((j:Int)-1)) 2)=(((j-1) / 2:Nat):Int):=by
  rw [wi ((j:Int)-1) (by omega)]
  by_cases h0:j=0
  ·subst h0; decide +kernel
  ·rw [Int.tdiv_eq_ediv_of_nonneg (by omega),wi _ (by omega)]; omega
 rw [e1]
 refine qaf (fun c w'=>c=(decide (j=0)||!ltInt d1[j]! d1[(j-1) / 2]!)/\Arr rb T w0 w' d1) ?_ ?_
 ·refine qaa (fun hc=>?_) (fun hc=>?_)
  ·have h0:j=0:=by have:=beq_iff_eq.1 hc; omega
   exact ⟨by simp [h0],h⟩
  ·have h0:j≠0:=fun e=>by subst e; cases hc
   refine qr3 hp hne h hj (by omega) (by omega) fun w2 h=>?_
   exact ⟨by simp [h0],h⟩
 ·rintro c w2 ⟨rfl,h⟩
  refine qaa (fun hc=>?_) (fun hc=>?_)
  ·simp only [Bool.or_eq_true,decide_eq_true_eq,Bool.not_eq_true',ltInt,decide_eq_false_iff_not,Int.not_lt] at hc
   exact hk _ _ hpm (hu.stop hc) h
  ·simp only [Bool.or_eq_false_iff,decide_eq_false_iff_not,Bool.not_eq_false',ltInt,decide_eq_true_eq] at hc
   refine qsl hp hne h (by omega) hj (by omega) fun w3 h=>?_
   exact hX _ _ ⟨_,_,rfl,by omega,permIn_trans _ _ _ _ _ hpm (swp_permIn _ _ _ _ _ (by omega) (by omega) (by omega) hj (by omega)),hu.step (by omega) hj (by omega) hc.2,h⟩ (by omega)
theorem qva {n:Nat} {K:Bool->World->Prop} (hp:w0.heap[pb]?=some (plB rb len cap m)) (hne:rb≠pb) (h:Arr rb T w0 w d) (hn:n<=len) (hl:len<=d.size/\len<=1152921504606846976) (hu:DownAt d n 0)
  (hk:∀ b d' w',PermIn 0 n d d'->IsHeap d' n->Arr rb T w0 w' d'->K b w') :
  call Tryz.prog 126 [.iface 175 (.pointer (some ⟨pb,0,none⟩)),.int .i64 0,.int .i64 n] [.one .bool] w K:=by
 apply qo4
 unfold qmN
 refine qaf (fun _ w'=>∃ d',PermIn 0 n d d'/\IsHeap d' n/\Arr rb T w0 w' d') ?_ (fun x w' ⟨d',h1,h2,h3⟩=>hk _ d' w' h1 h2 h3)
 refine qag (fun x w'=>∃ (i:Nat) (d':Array Int),x=i/\(i<n\/i=0)/\PermIn 0 n d d'/\DownAt d' n i/\Arr rb T w0 w' d') (fun x _=>((n:Int)-x).toNat) ⟨0,d,rfl,.inr rfl,permIn_refl _ _ _,hu,h⟩ ?_
 rintro x w1 ⟨i,d1,rfl,hi,hpm,hu,h⟩ X hX
 have hs:=hpm.1
 have e1:IntKind.i64.wrap (IntKind.i64.wrap (2*(i:Int))+1)=((2*i+1:Nat):Int):=by rw [wi (2*(i:Int)) (by omega),wi _ (by omega)]; omega
 have e2:IntKind.i64.wrap (((2*i+1:Nat):Int)+1)=((2*i+2:Nat):Int):=by rw [wi _ (by omega)]; omega
 rw [e1,e2]
 refine qaf (fun c w'=>c=decide (n<=2*i+1)/\Arr rb T w0 w' d1) ?_ ?_
 ·refine qaa (fun hc=>?_) (fun hc=>?_)
  ·have h0:n<=2*i+1:=by have:=of_decide_eq_true hc; omega
   exact ⟨by simp [h0],h⟩
  ·have h0:¬ n<=2*i+1:=by have:=of_decide_eq_false hc; omega
   refine ⟨?_,h⟩
   rw [decide_eq_false h0,decide_eq_false (by omega)]
 rintro c w2 ⟨rfl,h⟩
 refine qaa (fun hc=>?_) (fun hc=>?_)
 ·have h0:=of_decide_eq_true hc
  exact ⟨d1,hpm,hu.stop (fun k hk hk2=>by omega),h⟩
 have h0:2*i+1<n:=by have:=of_decide_eq_false hc; omega
 refine qaf (fun x w'=>∃ c:Nat,x=c/\(c=2*i+1\/c=2*i+2)/\c<n/\(∀ k,k<n->(k=2*i+1\/k=2*i+2)->d1[c]!<=d1[k]!)/\Arr rb T w0 w' d1) ?_ ?_
 ·refine qaf (fun c w'=>c=(decide (2*i+2<n)&&ltInt d1[2*i+2]! d1[2*i+1]!)/\Arr rb T w0 w' d1) ?_ ?_
  ·refine qaa (fun hc=>?_) (fun hc=>?_)
   ·have h2:2*i+2<n:=by have:=of_decide_eq_true hc; omega
    refine qr3 hp hne h (by omega) (by omega) (by omega) fun w3 h=>?_
    exact ⟨by simp [h2],h⟩
   ·have h2:¬ 2*i+2<n:=by have:=of_decide_eq_false hc; omega
    exact ⟨by simp [h2],h⟩
  ·rintro c w3 ⟨rfl,h⟩
   refine qaa (fun hc=>?_) (fun hc=>?_)
   ·simp only [Bool.and_eq_true,decide_eq_true_eq,ltInt] at hc
    refine ⟨2*i+2,rfl,.inr rfl,hc.1,fun k hk hk2=>?_,h⟩
    rcases hk2 with rfl | rfl <;> omega
   ·simp only [Bool.and_eq_false_iff,decide_eq_false_iff_not,ltInt,Int.not_lt] at hc
    refine ⟨2*i+1,rfl,.inl rfl,h0,fun k hk hk2=>?_,h⟩
    rcases hk2 with rfl | rfl <;> omega
 rintro x w3 ⟨c,rfl,hcc,hcn,hmin,h⟩
 refine qr3 hp hne h (by omega) (by omega) (by omega) fun w4 h=>?_
 refine qaa (fun hc=>?_) (fun hc=>?_)
 ·simp only [Bool.not_eq_true',ltInt,decide_eq_false_iff_not,Int.not_lt] at hc
  exact ⟨d1,hpm,hu.stop (fun k hk hk2=>Int.le_trans hc (hmin k hk hk2)),h⟩
 ·simp only [Bool.not_eq_false',ltInt,decide_eq_true_eq] at hc
  refine qsl hp hne h (by omega) (by omega) (by omega) fun w5 h=>?_
  exact hX _ _ ⟨c,_,rfl,.inl hcn,permIn_trans _ _ _ _ _ hpm (swp_permIn _ _ _ _ _ (by omega) (by omega) (by omega) hcn (by omega)),hu.step hcc hcn (by omega) hc hmin,h⟩ (by omega)
end
end
end Go.Proofs.YtmbcedengdoamaaGreatDoor
end
section
set_option linter.unusedVariables false
namespace Go.Pt
open Go
structure KeyOk {α:Type} [DecidableEq α] (P:Program) (kt:TypeId) (kv:α->Value):Prop where
 desc:∃ d,P.underlying kt=some d/\∀ a b,Instr.sameNow d (kv a) (kv b)=some (decide (a=b))
 check:∀ e a w,(Instr.checkKey e 10000 kt (kv a)).run P w=.ok () w
 stays:∀ a w,(Instr.keyThatStays (kv a) (kv a)).run P w=.ok (kv a) w
theorem qtU {P:Program} {kt:TypeId} {k:IntKind} (h:P.underlying kt=some (.int k)):KeyOk P kt (fun n:Int=>Value.int k n) where
 desc:=⟨_,h,fun a b=>by simp [Instr.sameNow]; rfl⟩
 check:=fun e a w=>Go.MapKept.run_checkKey h (by simp [Go.MapKept.IsKey]) e 9999
 stays:=fun a w=>by simp [Instr.keyThatStays,Instr.sameBits]
section
variable {α:Type} [DecidableEq α]
theorem qbt {β γ:Type} (g:β->γ):∀ (l:List β) (i:Nat),(l.eraseIdx i).map g=(l.map g).eraseIdx i
 | [],_=>rfl
 | _::_,0=>rfl
 | a::l,i+1=>by simp only [List.eraseIdx_cons_succ,List.map_cons,qbt g l i]
def Ents (kv:α->Value) (es:List MapEntry) (f:List (α×Value)):Prop:=es.map (fun e=>(e.key,e.val))=f.map (fun p=>(kv p.1,p.2))
def posOf (x:α):List (α×Value)->Option (Nat×Value)
 | []=>none
 | p::r=>if x=p.1 then some (0,p.2) else (posOf x r).map fun q=>(q.1+1,q.2)
theorem qkU {kv:α->Value} {d:TypeDesc} (hd:∀ a b,Instr.sameNow d (kv a) (kv b)=some (decide (a=b))) (x:α):∀ (es:List MapEntry) (f:List (α×Value)) (i:Nat),Ents kv es f->
  Instr.findNow d (kv x) es i=some ((posOf x f).map fun q=>(i+q.1,q.2))
 | [],[],i,_=>rfl
 | [],_::_,_,h=>by simp [Ents] at h
 | _::_,[],_,h=>by simp [Ents] at h
 | e::es,p::f,i,h=>by
  simp only [Ents,List.map_cons,List.cons.injEq,Prod.mk.injEq] at h
  obtain ⟨⟨h1,h2⟩,h3⟩:=h
  simp only [Instr.findNow,h1,hd,posOf]
  by_cases hx:x=p.1
  ·simp [hx,h2]
  ·simp only [hx,decide_false,if_false]
   rw [qkU hd x es f (i+1) h3]
   cases posOf x f with
   | none=>rfl
   | some q=>simp; omega
variable {P:Program} {w:World} {kt:TypeId} {kv:α->Value}
theorem qaT (K:KeyOk P kt kv) {es:List MapEntry} {f:List (α×Value)} (h:Ents kv es f) (x:α):(Instr.findKey kt (kv x) es).run P w=.ok (posOf x f) w:=by
 obtain ⟨d,hd,hs⟩:=K.desc
 unfold Instr.findKey
 simp only [Sem.run_bind,run_underlying hd,Result.andThen_ok,qkU hs x es f 0 h,Sem.run_pure]
 congr 1
 cases posOf x f with
 | none=>rfl
 | some q=>simp
def MapAt (kv:α->Value) (w:World) (b:Nat) (f:List (α×Value)):Prop:=∃ es c,w.heap[b]?=some (.map es c)/\Ents kv es.toList f
theorem qfs {t et:TypeId} {z:Value} (ht:P.underlying t=some (.map kt et)) (hz:∀ w,(zeroValue et).run P w=.ok z w) (K:KeyOk P kt kv) {b:Nat} {f:List (α×Value)} (h:MapAt kv w b f) (x:α) :
  (Instr.lookup t (.map (some b)) (kv x) false).run P w=.ok (match posOf x f with | some q=>q.2 | none=>z) w:=by
 obtain ⟨es,c,hb,he⟩:=h
 cases hp:posOf x f with
 | none=>simp [Instr.lookup,run_underlying ht,Go.MapKept.run_getObj_map hb,K.check,qaT K he,hp,hz]
 | some q=>simp [Instr.lookup,run_underlying ht,Go.MapKept.run_getObj_map hb,K.check,qaT K he,hp]
theorem qo9 {t et:TypeId} {z:Value} (ht:P.underlying t=some (.map kt et)) (hz:∀ w,(zeroValue et).run P w=.ok z w) (K:KeyOk P kt kv) {b:Nat} {f:List (α×Value)} (h:MapAt kv w b f) (x:α) :
  (Instr.lookup t (.map (some b)) (kv x) true).run P w=.ok (match posOf x f with | some q=>.tuple #[q.2,.bool true] | none=>.tuple #[z,.bool false]) w:=by
 obtain ⟨es,c,hb,he⟩:=h
 cases hp:posOf x f with
 | none=>simp [Instr.lookup,run_underlying ht,Go.MapKept.run_getObj_map hb,K.check,qaT K he,hp,hz]
 | some q=>simp [Instr.lookup,run_underlying ht,Go.MapKept.run_getObj_map hb,K.check,qaT K he,hp]
theorem qsy {t et:TypeId} {v:Value} (ht:P.underlying t=some (.map kt et)) (K:KeyOk P kt kv) {b:Nat} {f:List (α×Value)} (h:MapAt kv w b f) (x:α) (hx:posOf x f=none) :
  ∃ o,(Instr.mapUpdate t (.map (some b)) (kv x) v).run P w=.ok () (upd w b o)/\MapAt kv (upd w b o) b (f++[(x,v)]):=by
 obtain ⟨es,c,hb,he⟩:=h
 refine ⟨.map (es.push ⟨kv x,v,c⟩) (c+1),?_,es.push ⟨kv x,v,c⟩,c+1,?_,?_⟩
 ·simp [Instr.mapUpdate,run_underlying ht,Go.MapKept.run_getObj_map hb,K.check,qaT K he,hx,Go.MapKept.run_setObj_map _ hb]
  rfl
 ·rw [qaG _ _ _ _ (qac hb),if_pos rfl]
 ·simp only [Ents] at he ⊢
  simp [he]
theorem qrM {t et ty:TypeId} (ht:P.underlying t=some (.map kt et)) (K:KeyOk P kt kv) {b:Nat} {f:List (α×Value)} (h:MapAt kv w b f) (x:α) :
  ∃ o,(Builtin.delete_ #[t,kt] ty #[.map (some b),kv x]).run P w=.ok (.tuple #[]) (upd w b o)/\MapAt kv (upd w b o) b (match posOf x f with | some q=>f.eraseIdx q.1 | none=>f):=by
 obtain ⟨es,c,hb,he⟩:=h
 cases hp:posOf x f with
 | none=>
  refine ⟨.map es c,?_,es,c,?_,he⟩
  ·simp [Builtin.delete_,run_underlying ht,Go.MapKept.run_getObj_map hb,K.check,qaT K he,hp,Go.MapKept.run_setObj_map _ hb]
   rfl
  ·rw [qaG _ _ _ _ (qac hb),if_pos rfl]
 | some q=>
  refine ⟨.map (es.eraseIdxIfInBounds q.1) c,?_,es.eraseIdxIfInBounds q.1,c,?_,?_⟩
  ·simp [Builtin.delete_,run_underlying ht,Go.MapKept.run_getObj_map hb,K.check,qaT K he,hp,Go.MapKept.run_setObj_map _ hb]
   rfl
  ·rw [qaG _ _ _ _ (qac hb),if_pos rfl]
  ·have h1:(es.eraseIdxIfInBounds q.1).toList=es.toList.eraseIdx q.1:=by simp
   rw [h1]
   simp only [Ents] at he ⊢
   rw [qbt,he,<- qbt]
end
end Go.Pt
end
section
set_option linter.unusedVariables false
set_option linter.unusedSimpArgs false
namespace Go.Proofs.YtmbcedengdoamaaGreatDoor
open Go Go.Pt Go.Sort
attribute [local irreducible] ld ldA ldV fld fldA newZ st new idx idxS idxA slc slcS slcP mkS chk nn call callV inv run runQ runU join loop held ext rng undefer s2a nxt ent IntKind.wrap
abbrev PT:TypeId:=172
abbrev u32V:Int->Value:=fun n=>Value.int .u32 n
def RowAt (w:World) (pb:Nat) (m:Value) (F:List Nat) (d:Array Int) (n:Nat):Prop:=
 (n=0/\d = #[]/\F=[]/\w.heap[pb]?=some (.cells #[.slice none 0 0,m] PT (0,0)))\/
 ∃ rb T,F=[rb]/\w.heap[pb]?=some (plB rb n d.size m)/\w.heap[rb]?=some (.cells (u32s d) T (0,0))/\rb≠pb/\n<=d.size
structure PoolAt (w:World) (pb:Nat) (F:List Nat) (l:List Int):Prop where
 ex:∃ (mb:Nat) (R:List Nat) (d:Array Int) (f:List (Int×Value)),F=pb::mb::R/\RowAt w pb (.map (some mb)) R d l.length/\MapAt u32V w mb f/\
  (d.toList.take l.length).Perm l/\IsHeap d l.length/\(f.map (·.1)).Perm l/\∀ p∈f,p.2=.int .i64 1
 sorted:l.Pairwise (· < ·)
theorem qcA:KeyOk Tryz.prog 29 u32V:=qtU (by kernel_rfl)
theorem qgG {x:Int}:∀ {f:List (Int×Value)},(∀ p∈f,p.2=Value.int .i64 1)->(posOf x f=none/\x∉f.map (·.1))\/∃ j,posOf x f=some (j,.int .i64 1)/\x∈f.map (·.1)/\(f.map (·.1))[j]?=some x
 | [],_=>.inl ⟨rfl,by simp⟩
 | p::f,h=>by
  simp only [posOf]
  by_cases hx:x=p.1
  ·rw [if_pos hx,h p (by simp)]
   exact .inr ⟨0,rfl,by simp [hx],by simp [hx]⟩
  ·rw [if_neg hx]
   rcases qgG (x:=x) (f:=f) (fun q hq=>h q (List.mem_cons_of_mem _ hq)) with ⟨h1,h2⟩ | ⟨j,h1,h2,h3⟩
   ·rw [h1]
    exact .inl ⟨rfl,by simp only [List.map_cons,List.mem_cons]; rintro (e | e); exact hx e; exact h2 e⟩
   ·rw [h1]
    exact .inr ⟨j+1,rfl,by simp only [List.map_cons,List.mem_cons]; exact .inr h2,by simpa using h3⟩
theorem PoolAt.cells {w:World} {pb:Nat} {F:List Nat} {l:List Int} (h:PoolAt w pb F l):∃ (s:Sl) (mb:Nat),w.heap[pb]?=some (.cells #[.slice s.a s.len s.cap,.map (some mb)] PT (0,0))/\s.len=l.length/\mb∈F:=by
 obtain ⟨mb,R,d,f,rfl,hr,_⟩:=h.ex
 rcases hr with ⟨h0,_,_,hb⟩ | ⟨rb,T,_,hb,_⟩
 ·exact ⟨⟨none,0,0⟩,mb,hb,h0.symm,by simp⟩
 ·exact ⟨⟨some ⟨rb,0,none⟩,_,_⟩,mb,hb,rfl,by simp⟩
theorem qfZ {w:World} {K:Option Addr->World->Prop} (hk:∀ pb F w',PoolAt w' pb F []->Fr [] w w'->(∀ b∈F,w.heap.size<=b)->K (some ⟨pb,0,none⟩) w'):call Tryz.prog 100 [] [.one .ptr] w K:=by
 apply qqC
 unfold qof
 have h:=Own.start [] w
 refine Own.new h fun mb w1 em sm h=>?_
 refine Own.new h fun pb w2 ep sp h=>?_
 refine hk pb [pb,mb] w2 ⟨⟨mb,[],#[],[],rfl,.inl ⟨rfl,rfl,rfl,?_⟩,⟨#[],0,?_,rfl⟩,by simp,fun i h0 hi=>by simp at hi,by simp,by simp⟩,List.Pairwise.nil⟩ h.fr ?_
 ·exact h.at (i:=0) rfl
 ·exact h.at (i:=1) rfl
 ·intro b hb
  simp at hb
  omega
theorem qrj {w:World} {pb:Nat} {F:List Nat} {l:List Int} {K:Int->World->Prop} (h:PoolAt w pb F l) (hk:K l.length w):call Tryz.prog 43 [.pointer (some ⟨pb,0,none⟩)] [.one (.int .i64)] w K:=by
 refine qlL (p:=some ⟨pb,0,none⟩) ?_
 unfold qhH
 obtain ⟨s,mb,hb,hl,_⟩:=h.cells
 refine qab ?_
 refine qae (c:=.slice) hb s rfl ?_
 rw [hl]; exact hk
theorem qpj {w:World} {pb:Nat} {F:List Nat} {l:List Int} {n:Int} {K:Bool->World->Prop} (h:PoolAt w pb F l) (hk:K (decide (n∈l)) w):call Tryz.prog 93 [.pointer (some ⟨pb,0,none⟩),.int .u32 n] [.one .bool] w K:=by
 refine qlN (p:=some ⟨pb,0,none⟩) ?_
 unfold qg6
 obtain ⟨mb,R,d,f,rfl,hr,hm,_,_,hf,h1⟩:=h.ex
 have hb:∃ s:Sl,w.heap[pb]?=some (.cells #[.slice s.a s.len s.cap,.map (some mb)] PT (0,0)):=by
  rcases hr with ⟨h0,_,_,hb⟩ | ⟨rb,T,_,hb,_⟩
  ·exact ⟨⟨none,0,0⟩,hb⟩
  ·exact ⟨⟨some ⟨rb,0,none⟩,_,_⟩,hb⟩
 obtain ⟨s,hb⟩:=hb
 refine qab ?_
 refine qae (c:=.map) hb (some mb) rfl ?_
 unfold runQ
 rcases qgG (x:=n) h1 with ⟨hp,hx⟩ | ⟨j,hp,hx,_⟩
 ·refine ⟨0,?_,?_⟩
  ·have:=qfs (P:=Tryz.prog) (w:=w) (t:=170) (et:=3) (z:=.int .i64 0) (by kernel_rfl) (fun w=>by kernel_rfl) qcA hm n
   rw [hp] at this
   exact this
  ·rw [show decide (n∈l)=false by rw [decide_eq_false_iff_not]; exact fun e=>hx (hf.mem_iff.2 e)] at hk
   exact hk
 ·refine ⟨1,?_,?_⟩
  ·have:=qfs (P:=Tryz.prog) (w:=w) (t:=170) (et:=3) (z:=.int .i64 0) (by kernel_rfl) (fun w=>by kernel_rfl) qcA hm n
   rw [hp] at this
   exact this
  ·rw [show decide (n∈l)=true by rw [decide_eq_true_iff]; exact hf.mem_iff.1 hx] at hk
   exact hk
theorem qjZ:∃ i,Tryz.prog.info? 29=some i/\i.zero=some (.int .u32 0)/\i.size=1/\i.bytes=4:=qdZ (by kernel_rfl)
theorem ql3 (v:Value) (k:Nat) (h:v.cells = #[v]):Builtin.zeroCells v.cells k=Array.replicate k v:=by
 rw [h]
 apply Array.ext
 ·simp [Builtin.zeroCells]
 ·intro i h1 h2
  simp [Builtin.zeroCells,Nat.mod_one]
theorem qjz (l:List Int):u32s l.toArray=(l.map (Value.int .u32)).toArray:=by simp [u32s]
theorem qcT {d:Array Int} {l:List Int} {n i:Nat} (h:d.toList.take n=l) (hi:i<n) (hd:n<=d.size):l[i]?=some d[i]!:=by
 rw [<- h,List.getElem?_take,if_pos hi]
 simp [show i<d.size by omega]
theorem qo0 {α:Type} (x:α):∀ (l:List α) (n:Nat),n<l.length->(l.set n x).take (n+1)=l.take n++[x]
 | a::l,0,_=>by simp
 | a::l,n+1,h=>by simpa using qo0 x l n (by simpa using h)
theorem qwj {w:World} {pb:Nat} {mb:Value} {R:List Nat} {d:Array Int} {n:Nat} {x:Int} {K:Unit->World->Prop} (h:RowAt w pb mb R d n) (hn:n<=1000000)
  (hk:∀ R' d' w',RowAt w' pb mb R' d' (n+1)->d'.toList.take (n+1)=d.toList.take n++[x]->Fr (pb::R) w w'->(∀ b∈R',b∈R\/w.heap.size<=b)->K () w') :
  inv Tryz.prog (.iface 175 (.pointer (some ⟨pb,0,none⟩))) "Push" [.iface 29 (.int .u32 x)] [] w K:=by
 obtain ⟨i31,hi,hz,hsz,hby⟩:=qjZ
 refine qq0 (f:=198) (by kernel_rfl) (e:=169) (by kernel_rfl) (by kernel_rfl) ?_
 refine qlQ (r:=some ⟨pb,0,none⟩) ?_
 unfold qhh
 have ta:(Instr.typeAssert (.iface 29 (.int .u32 x)) 20 29 true).run Tryz.prog w=.ok (.tuple #[.int .u32 x,.bool true]) w:=by kernel_rfl
 refine qax (ts:=[.one (.int .u32),.one .bool]) (x,true) ta ?_
 refine cond_true rfl ?_
 refine qab ?_
 have zc:∀ k,Builtin.zeroCells (Value.int .u32 0).cells k=Array.replicate k (.int .u32 0):=fun k=>ql3 _ k rfl
 rcases h with ⟨h0,hd,hR,hb⟩ | ⟨rb,T,hR,hb,hrb,hne,hnd⟩
 ·-- nil
  subst h0 hd hR
  refine qae (c:=.slice) hb ⟨none,0,0⟩ rfl ?_
  have ho:Own [pb] w w [(pb,.cells #[.slice none 0 0,mb] PT (0,0))]:=⟨by simpa using hb,by simp,.refl _ _,by simp⟩
  refine Own.new ho fun tb w1 et st1 ho=>?_
  refine qvG (P:=Tryz.prog) (e:=29) (by kernel_rfl) hi hz [.int .u32 x] (by rw [hsz]; rfl) (fun j u hj=>?_) (by omega) (by rw [hby]; omega) (by omega) fun q hq1 hq2=>?_
  ·match j,hj with
   | 0,hj=>
    have:=ho.cell (off:=0) 0 rfl rfl
    simp at hj
    subst hj
    exact this
   | j+1,hj=>simp at hj
  rw [zc]
  have ho:=ho.drew.alloc (.cells (#[Value.int .u32 x]++Array.replicate (q-1) (.int .u32 0)) 29 (0,0))
  refine qab ?_
  refine Own.st ho 2 rfl _ rfl rfl rfl fun w2 ho _=>?_
  have hnp:w1.drew.heap.size≠pb:=by
   have:=ho.nodup
   simp at this
   exact fun e=>this.1.2 e
  have hd':#[Value.int .u32 x]++Array.replicate (q-1) (.int .u32 0)=u32s (([x]++List.replicate (q-1) 0).toArray):=by
   rw [qjz]
   apply Array.ext'
   simp
  refine hk [w1.drew.heap.size] (([x]++List.replicate (q-1) 0).toArray) w2 (.inr ⟨w1.drew.heap.size,29,rfl,?_,?_,hnp,by simp⟩) (by simp) (ho.fr.mono (fun i hi _=>by simpa using hi)) (fun b hb=>?_)
  ·have:=ho.at (i:=2) rfl
   have e:(([x]++List.replicate (q-1) (0:Int)).toArray).size=q:=by simp; omega
   rw [e]
   exact this
  ·have:=ho.at (i:=0) rfl
   rw [<- hd']
   exact this
  ·simp at hb
   subst hb
   right
   have:=ho.own (w1.drew.heap.size,_) (by simp; exact .inl rfl)
   simp at this
   omega
 ·subst hR
  refine qae (c:=.slice) hb ⟨some ⟨rb,0,none⟩,n,d.size⟩ rfl ?_
  dsimp only
  have ho:Own [pb,rb] w w [(pb,plB rb n d.size mb),(rb,.cells (u32s d) T (0,0))]:=⟨by simpa using ⟨hb,hrb⟩,by simpa using fun e=>hne e.symm,.refl _ _,by simp⟩
  refine Own.new ho fun tb w1 et st1 ho=>?_
  have hnews:∀ (j:Nat) u,[Value.int .u32 x][j]?=some u->w1.cell? ((⟨tb,0,none⟩:Addr).add j)=some u:=fun j u hj=>by
   match j,hj with
   | 0,hj=>
    have:=ho.cell (off:=0) 0 rfl rfl
    simp at hj
    subst hj
    exact this
   | j+1,hj=>simp at hj
  by_cases hroom:n+1<=d.size
  ·refine qq4 (P:=Tryz.prog) (e:=29) (by kernel_rfl) hi [.int .u32 x] (ho.at (i:=2) rfl) (by rw [hsz]; rfl) hnews (by simp [Value.oneCell']) hroom (by rw [hsz,qc9]; simp; omega) ?_
   have hsp:splice (u32s d) (0+n*i31.size) [.int .u32 x]=u32s (d.setIfInBounds n x):=by
    rw [hsz,Nat.zero_add,Nat.mul_one]
    exact qpK d n x
   rw [hsp]
   have ho:=ho.upd (o':=.cells (u32s (d.setIfInBounds n x)) T (0,0)) 2 rfl
   refine qab ?_
   refine Own.st ho 1 rfl _ rfl rfl rfl fun w2 ho _=>?_
   refine hk [rb] (d.setIfInBounds n x) w2 (.inr ⟨rb,T,rfl,?_,?_,hne,by simpa using hroom⟩) ?_ (ho.fr.mono (fun i hi _=>by simpa using hi)) (fun b hb=>.inl hb)
   ·have:=ho.at (i:=1) rfl
    rw [Array.size_setIfInBounds]
    exact this
   ·exact ho.at (i:=2) rfl
   ·rw [Array.toList_setIfInBounds]
    exact qo0 x _ _ (by simp; omega)
  ·have hnd':n=d.size:=by omega
   refine qpA (P:=Tryz.prog) (e:=29) (by kernel_rfl) hi hz (d.toList.map (Value.int .u32)) [.int .u32 x] (by rw [hsz]; simp; omega) (fun j u hj=>?_) (by rw [hsz]; rfl) hnews (by omega) (by rw [hby]; omega) (by omega) fun q hq1 hq2=>?_
   ·rw [Addr.add_mk,qaj (ho.at (i:=2) rfl),Nat.zero_add]
    rw [List.getElem?_map] at hj
    unfold u32s
    rw [Array.getElem?_map]
    simpa using hj
   rw [zc]
   have hcs:(d.toList.map (Value.int .u32)).toArray++[Value.int .u32 x].toArray++Array.replicate (q-(n+1)) (.int .u32 0)=u32s ((d.toList++[x]++List.replicate (q-(n+1)) (0:Int)).toArray):=by
    rw [qjz]
    apply Array.ext'
    simp
   rw [hcs]
   have e:((d.toList++[x]++List.replicate (q-(n+1)) (0:Int)).toArray).size=q:=by simp; omega
   have ho:=ho.drew.alloc (.cells (u32s ((d.toList++[x]++List.replicate (q-(n+1)) (0:Int)).toArray)) 29 (0,0))
   refine qab ?_
   refine Own.st ho 2 rfl _ rfl rfl rfl fun w2 ho _=>?_
   have hnp:w1.drew.heap.size≠pb:=by
    have:=ho.nodup
    simp at this
    exact fun e=>this.1.2.1 e
   refine hk [w1.drew.heap.size] _ w2 (.inr ⟨w1.drew.heap.size,29,rfl,?_,ho.at (i:=0) rfl,hnp,by rw [e]; exact hq1⟩) ?_ (ho.fr.mono (fun i hi _=>by simpa using hi)) (fun b hb=>?_)
   ·have:=ho.at (i:=2) rfl
    rw [e]
    exact this
   ·rw [hnd']
    simp [List.take_append,List.take_of_length_le]
   ·simp at hb
    subst hb
    right
    show w.heap.size<=w1.heap.size
    omega
theorem qwr {w:World} {pb rb:Nat} {mb:Value} {d:Array Int} {n:Nat} {T:TypeId} {K:Value->World->Prop} (hb:w.heap[pb]?=some (plB rb (n+1) d.size mb)) (hrb:w.heap[rb]?=some (.cells (u32s d) T (0,0))) (hne:rb≠pb) (hn:n+1<=d.size) (hn2:n<=1000000)
  (hk:∀ w',w'.heap[pb]?=some (plB rb n d.size mb)->w'.heap[rb]?=some (.cells (u32s d) T (0,0))->Fr [pb] w w'->K (.iface 29 (.int .u32 d[n]!)) w') :
  inv Tryz.prog (.iface 175 (.pointer (some ⟨pb,0,none⟩))) "Pop" [] [.one .any] w K:=by
 refine qq0 (f:=197) (by kernel_rfl) (e:=169) (by kernel_rfl) (by kernel_rfl) ?_
 refine qmY (r:=some ⟨pb,0,none⟩) ?_
 unfold qiG
 have ho:Own [pb] w w [(pb,plB rb (n+1) d.size mb)]:=⟨by simpa using hb,by simp,.refl _ _,by simp⟩
 have ha:Arr rb T w w d:=.start hrb
 refine qab (Own.ld (c:=.slice) ho.drew 0 rfl ⟨some ⟨rb,0,none⟩,n+1,d.size⟩ rfl ?_)
 refine qab (Own.ld (c:=.slice) ho.drew 0 rfl ⟨some ⟨rb,0,none⟩,n+1,d.size⟩ rfl ?_)
 dsimp only
 refine ha.drew.rd n (by rw [wi _ (by omega)]; omega) (by omega) (by omega) ?_
 refine qab (Own.ld (c:=.slice) ho.drew.drew 0 rfl ⟨some ⟨rb,0,none⟩,n+1,d.size⟩ rfl ?_)
 refine qab (Own.ld (c:=.slice) ho.drew.drew 0 rfl ⟨some ⟨rb,0,none⟩,n+1,d.size⟩ rfl ?_)
 dsimp only
 rw [wi _ (by omega)]
 refine qpB ⟨by omega,by dsimp only; omega⟩ ?_
 refine qab ?_
 refine Own.st ho.drew.drew 0 rfl _ rfl rfl rfl fun w2 ho2 _=>?_
 refine hk w2 ?_ ?_ ho2.fr
 ·have:=ho2.at (i:=0) rfl
  rw [show (((n+1:Nat):Int)-1).toNat=n by omega] at this
  exact this
 ·rw [ho2.fr.block rb (qac hrb) (by simpa using hne)]
  exact hrb
theorem qcI {d d':Array Int} {n:Nat} (h:PermIn 0 n d d'):(d'.toList.take n).Perm (d.toList.take n):=by
 have:=h.2.2
 simpa [Array.toList_extract] using this
theorem quc {w:World} {pb:Nat} {mb:Value} {R:List Nat} {d:Array Int} {n:Nat} {x:Int} {K:Unit->World->Prop} (h:RowAt w pb mb R d n) (hn:n<=1000000) (hh:IsHeap d n)
  (hk:∀ R' d' w',RowAt w' pb mb R' d' (n+1)->IsHeap d' (n+1)->(d'.toList.take (n+1)).Perm (d.toList.take n++[x])->Fr (pb::R) w w'->(∀ b∈R',b∈R\/w.heap.size<=b)->K () w') :
  call Tryz.prog 94 [.iface 175 (.pointer (some ⟨pb,0,none⟩)),.iface 29 (.int .u32 x)] [] w K:=by
 have hdn:n<=d.size:=by
  rcases h with ⟨h0,_⟩ | ⟨_,_,_,_,_,_,h1⟩
  ·omega
  ·exact h1
 apply qqm
 unfold qmP
 refine qwj h hn fun R1 d1 w1 hr ht hf hR=>?_
 rcases hr with ⟨h0,_⟩ | ⟨rb,T,hR1,hb,hrb,hne,hnd⟩
 ·omega
 subst hR1
 refine qwc hb hne (.start hrb) ?_
 rw [wi _ (by omega),show ((n+1:Nat):Int)-1=(n:Nat) by omega]
 have hsame:∀ i,i<n->d1[i]! = d[i]!:=fun i hi=>by
  have h1:=qcT ht (show i<n+1 by omega) hnd
  rw [List.getElem?_append_left (by simp; omega)] at h1
  have h2:=qcT (d:=d) rfl hi hdn
  rw [h2] at h1
  exact (Option.some.inj h1).symm
 refine qwh hb hne (.start hrb) (Nat.lt_succ_self n) ⟨hnd,by omega⟩ ⟨fun i h0 hi hin=>?_,fun i h0 hi hip _=>by omega⟩ fun d2 w2 hp hH ha=>?_
 ·rw [hsame i (by omega),hsame _ (by omega)]
  exact hh i h0 (by omega)
 ·refine hk [rb] d2 w2 (.inr ⟨rb,T,rfl,?_,ha.blk,hne,by rw [hp.1]; exact hnd⟩) hH ((qcI hp).trans (by rw [ht])) (hf.trans' ha.fr fun i hi=>?_) hR
  ·rw [ha.fr.block pb (qac hb) (by simpa using fun e=>hne e.symm),hp.1]
   exact hb
  ·simp at hi
   subst hi
   rcases hR i (by simp) with h1 | h1
   ·exact .inl (List.mem_cons_of_mem _ h1)
   ·exact .inr h1
theorem IsHeap.min {d:Array Int} {n:Nat} (h:IsHeap d n):∀ i,i<n->d[0]!<=d[i]!:=by
 intro i
 induction i using Nat.strongRecOn with
 | _ i ih=>
  intro hi
  by_cases h0:i=0
  ·rw [h0]; exact Int.le_refl _
  ·exact Int.le_trans (ih ((i-1) / 2) (by omega) (by omega)) (h i (by omega) hi)
theorem qvt {w:World} {pb rb:Nat} {mb:Value} {d:Array Int} {n:Nat} {T:TypeId} {K:Value->World->Prop} (hb:w.heap[pb]?=some (plB rb (n+1) d.size mb)) (hrb:w.heap[rb]?=some (.cells (u32s d) T (0,0))) (hne:rb≠pb) (hnd:n+1<=d.size) (hn:n<=1000000) (hh:IsHeap d (n+1))
  (hk:∀ d' w',RowAt w' pb mb [rb] d' n->IsHeap d' n->(d[0]!::d'.toList.take n).Perm (d.toList.take (n+1))->Fr [pb,rb] w w'->K (.iface 29 (.int .u32 d[0]!)) w') :
  call Tryz.prog 92 [.iface 175 (.pointer (some ⟨pb,0,none⟩))] [.one .any] w K:=by
 apply qqW
 unfold qnM
 refine qwc hb hne (.start hrb) ?_
 rw [wi _ (by omega),show ((n+1:Nat):Int)-1=(n:Nat) by omega]
 refine qsl (i:=0) (k:=n) hb hne (.start hrb) (by omega) (by omega) ⟨hnd,by omega⟩ fun w1 h1=>?_
 have hs1:(swp d 0 n).size=d.size:=Sort.size_swp _ _ _
 have hat:=qdf d (i:=0) (j:=n) (by omega) (by omega)
 refine qva (n:=n) hb hne h1 (by omega) ⟨by omega,by omega⟩ ⟨fun i h0 hi hin=>?_,fun i h0 hi hip hc=>by omega⟩ fun b d2 w2 hp hH h2=>?_
 ·rw [hat,hat,if_neg (by omega),if_neg (by omega),if_neg (by omega),if_neg (by omega)]
  exact hh i h0 (by omega)
 have hs2:=hp.1
 have hb2:w2.heap[pb]?=some (plB rb (n+1) d2.size mb):=by
  rw [h2.fr.block pb (qac hb) (by simpa using fun e=>hne e.symm),hs2,hs1]
  exact hb
 refine qwr hb2 h2.blk hne (by omega) hn fun w3 g1 g2 g3=>?_
 have hlast:d2[n]! = d[0]!:=by
  rw [hp.2.1 n (.inr (Nat.le_refl _)),hat,if_pos rfl]
 rw [hlast]
 refine hk d2 w3 (.inr ⟨rb,T,rfl,g1,g2,hne,by omega⟩) hH ?_ ((h2.fr.mono (T:=[pb,rb]) (fun i hi _=>by simp at hi; simp [hi])).trans (g3.mono (fun i hi _=>by simp at hi; simp [hi])))
 have p1:=qcI hp
 have p2:=qcI (swp_permIn d 0 (n+1) 0 n (by omega) (by omega) (by omega) (by omega) (by omega))
 have e1:(swp d 0 n).toList.take (n+1)=(swp d 0 n).toList.take n++[d[0]!]:=by
  have hv:(swp d 0 n)[n]! = d[0]!:=by rw [hat,if_pos rfl]
  have hl:n<(swp d 0 n).toList.length:=by simp [hs1]; omega
  rw [List.take_succ_eq_append_getElem hl]
  congr 2
  rw [<- hv]
  simp [show n<(swp d 0 n).size by omega]
 rw [e1] at p2
 exact ((List.perm_append_singleton _ _).symm.trans (p1.append_right _)).trans p2
def ins (x:Int):List Int->List Int
 | []=>[x]
 | a::l=>if x<a then x::a::l else if x=a then a::l else a::ins x l
theorem qcS {x:Int}:∀ {l:List Int},x∉l->(ins x l).Perm (x::l)
 | [],_=>.refl _
 | a::l,h=>by
  simp only [List.mem_cons,not_or] at h
  simp only [ins]
  split
  ·exact .refl _
  ·rw [if_neg h.1]
   exact ((qcS h.2).cons a).trans (.swap x a l)
theorem qq2 {x y:Int}:∀ {l:List Int},y∈ins x l->y=x\/y∈l
 | [],h=>by simp [ins] at h; exact .inl h
 | a::l,h=>by
  simp only [ins] at h
  split at h
  ·simp only [List.mem_cons] at h ⊢; exact h
  ·split at h
   ·exact .inr h
   ·simp only [List.mem_cons] at h ⊢
    rcases h with h | h
    ·exact .inr (.inl h)
    ·rcases qq2 h with h | h
     ·exact .inl h
     ·exact .inr (.inr h)
theorem qdq {x:Int}:∀ {l:List Int},l.Pairwise (· < ·)->(ins x l).Pairwise (· < ·)
 | [],_=>by simp [ins]
 | a::l,h=>by
  have h':=List.pairwise_cons.1 h
  simp only [ins]
  split
  ·rename_i hx
   refine List.pairwise_cons.2 ⟨fun b hb=>?_,h⟩
   rcases List.mem_cons.1 hb with rfl | hb
   ·exact hx
   ·exact Int.lt_trans hx (h'.1 b hb)
  ·split
   ·exact h
   ·rename_i h1 h2
    refine List.pairwise_cons.2 ⟨fun b hb=>?_,qdq h'.2⟩
    rcases qq2 hb with rfl | hb
    ·omega
    ·exact h'.1 b hb
theorem qo7 {x:Int}:∀ {l:List Int},l.Pairwise (· < ·)->x∈l->ins x l=l
 | a::l,h,hx=>by
  have h':=List.pairwise_cons.1 h
  simp only [ins]
  rcases List.mem_cons.1 hx with rfl | hx
  ·rw [if_neg (Int.lt_irrefl _),if_pos rfl]
  ·have:=h'.1 x hx
   rw [if_neg (by omega),if_neg (by omega),qo7 h'.2 hx]
theorem qf3 {w:World} {b:Nat} (hb:b<w.heap.size) (o:Obj):Fr [b] w (upd w b o):=
 ⟨rfl,rfl,rfl,by rw [qbR]; exact Nat.le_refl _,fun j hj hS=>by rw [qaG _ _ _ _ hb,if_neg (by simpa using hS)]⟩
theorem RowAt.frame {w w':World} {pb:Nat} {m:Value} {R S:List Nat} {d:Array Int} {n:Nat} (h:RowAt w pb m R d n) (k:Fr S w w') (h1:pb∉S) (h2:∀ r∈R,r∉S):RowAt w' pb m R d n:=by
 rcases h with ⟨a,b,c,e⟩ | ⟨rb,T,a,b,c,e,f⟩
 ·exact .inl ⟨a,b,c,by rw [k.block pb (qac e) h1]; exact e⟩
 ·exact .inr ⟨rb,T,a,by rw [k.block pb (qac b) h1]; exact b,by rw [k.block rb (qac c) (h2 rb (by rw [a]; simp))]; exact c,e,f⟩
theorem qjy {α:Type} [DecidableEq α] {kv:α->Value} {w w':World} {b:Nat} {S:List Nat} {f:List (α×Value)} (h:MapAt kv w b f) (k:Fr S w w') (h1:b∉S):MapAt kv w' b f:=by
 obtain ⟨es,c,hb,he⟩:=h
 exact ⟨es,c,by rw [k.block b (qac hb) h1]; exact hb,he⟩
theorem RowAt.map_ne {w:World} {pb mb:Nat} {m:Value} {R:List Nat} {d:Array Int} {n:Nat} {f:List (Int×Value)} (h:RowAt w pb m R d n) (hm:MapAt u32V w mb f):pb≠mb/\∀ r∈R,r≠mb:=by
 obtain ⟨es,c,hb,_⟩:=hm
 rcases h with ⟨_,_,c',e⟩ | ⟨rb,T,a,b,c',e,_⟩
 ·refine ⟨fun e'=>?_,by simp [c']⟩
  subst e'
  rw [e] at hb; cases hb
 ·refine ⟨fun e'=>?_,fun r hr e'=>?_⟩
  ·subst e'
   rw [b] at hb; cases hb
  ·rw [a] at hr
   simp at hr
   subst hr e'
   rw [c'] at hb; cases hb
theorem PoolAt.frame {w w':World} {pb:Nat} {F S:List Nat} {l:List Int} (h:PoolAt w pb F l) (k:Fr S w w') (hd:∀ b∈F,b∉S):PoolAt w' pb F l:=by
 obtain ⟨⟨mb,R,d,f,rfl,hr,hm,h1,h2,h3,h4⟩,hs⟩:=h
 exact ⟨⟨mb,R,d,f,rfl,hr.frame k (hd _ (by simp)) (fun r hr=>hd r (by simp [hr])),qjy hm k (hd _ (by simp)),h1,h2,h3,h4⟩,hs⟩
theorem PoolAt.lt {w:World} {pb:Nat} {F:List Nat} {l:List Int} (h:PoolAt w pb F l):∀ b∈F,b<w.heap.size:=by
 obtain ⟨⟨mb,R,d,f,rfl,hr,⟨es,c,hb,_⟩,_⟩,_⟩:=h
 intro b hbm
 simp only [List.mem_cons] at hbm
 rcases hr with ⟨_,_,c',e⟩ | ⟨rb,T,a,b',c',e,_⟩
 ·rcases hbm with rfl | rfl | hbm
  ·exact qac e
  ·exact qac hb
  ·rw [c'] at hbm; cases hbm
 ·rcases hbm with rfl | rfl | hbm
  ·exact qac b'
  ·exact qac hb
  ·rw [a] at hbm
   simp at hbm
   subst hbm
   exact qac c'
theorem qme {w:World} {pb:Nat} {F:List Nat} {l:List Int} {n:Int} {K:Bool->World->Prop} (h:PoolAt w pb F l) (hl:l.length<=1000000)
  (hk:∀ F' w',PoolAt w' pb F' (ins n l)->Fr F w w'->(∀ b∈F',b∈F\/w.heap.size<=b)->K (decide (n∉l)) w') :
  call Tryz.prog 44 [.pointer (some ⟨pb,0,none⟩),.int .u32 n] [.one .bool] w K:=by
 refine qlC (p:=some ⟨pb,0,none⟩) ?_
 unfold qhI
 refine qpj h ?_
 by_cases hx:n∈l
 ·refine cond_true (by simpa using hx) ?_
  have:=hk F w (by rw [qo7 h.sorted hx]; exact h) (.refl _ _) (fun b hb=>.inl hb)
  simpa [hx] using this
 refine cond_false (by simpa using hx) ?_
 obtain ⟨s,mb',hcell,_,_⟩:=h.cells
 have hsort:=h.sorted
 obtain ⟨mb,R,d,f,rfl,hr,hm,hp,hh,hf,h1⟩:=h.ex
 have hmb:mb'=mb:=by
  rcases hr with ⟨_,_,_,e⟩ | ⟨rb,T,_,b,_⟩
  ·have h3:=congrArg (fun o=>match o with | some (Obj.cells cs _ _)=>cs[1]? | _=>none) (hcell.symm.trans e)
   simpa using h3
  ·have h3:=congrArg (fun o=>match o with | some (Obj.cells cs _ _)=>cs[1]? | _=>none) (hcell.symm.trans b)
   simpa [plB] using h3
 subst hmb
 refine qab ?_
 refine qae (c:=.map) hcell (some mb') rfl ?_
 have hpos:posOf n f=none:=by
  rcases qgG (x:=n) h1 with ⟨hp,_⟩ | ⟨j,_,hx',_⟩
  ·exact hp
  ·exact absurd (hf.mem_iff.1 hx') hx
 obtain ⟨o,hrun,hm1⟩:=qsy (P:=Tryz.prog) (t:=170) (et:=3) (v:=.int .i64 1) (by kernel_rfl) qcA hm n hpos
 refine qkj _ hrun ?_
 obtain ⟨hne1,hne2⟩:=hr.map_ne hm
 have hmlt:mb'<w.heap.size:=by obtain ⟨es,c,hb,_⟩:=hm; exact qac hb
 have hfr:=qf3 hmlt o
 have hr1:=hr.frame hfr (by simpa using hne1) (fun r hr=>by simpa using hne2 r hr)
 refine qab ?_
 refine quc hr1 hl hh fun R' d' w2 hr2 hh2 hp2 hf2 hR2=>?_
 have hperm:=qcS hx
 have hlen:(ins n l).length=l.length+1:=by have:=hperm.length_eq; simpa using this
 have hm2:MapAt u32V w2 mb' (f++[(n,.int .i64 1)]):=qjy hm1 hf2 (by simp only [List.mem_cons,not_or]; exact ⟨fun e=>hne1 e.symm,fun e=>hne2 _ e rfl⟩)
 have:=hk (pb::mb'::R') w2 ⟨⟨mb',R',d',f++[(n,.int .i64 1)],rfl,by rw [hlen]; exact hr2,hm2,?_,by rw [hlen]; exact hh2,?_,?_⟩,qdq hsort⟩
  ((hfr.mono (T:=pb::mb'::R) (fun i hi _=>by simp at hi; simp [hi])).trans (hf2.mono (fun i hi _=>by simp at hi; rcases hi with rfl | hi <;> simp [*]))) (fun b hb=>?_)
 ·simpa [hx] using this
 ·rw [hlen]
  exact hp2.trans (((hp.append_right [n]).trans (List.perm_append_singleton _ _)).trans hperm.symm)
 ·rw [List.map_append]
  exact ((hf.append_right _).trans (List.perm_append_singleton _ _)).trans hperm.symm
 ·intro p hp
  rcases List.mem_append.1 hp with hp | hp
  ·exact h1 p hp
  ·simp at hp; rw [hp]
 ·simp only [List.mem_cons] at hb
  rcases hb with rfl | rfl | hb
  ·exact .inl (by simp)
  ·exact .inl (by simp)
  ·rcases hR2 b hb with h' | h'
   ·exact .inl (by simp [h'])
   ·rw [qbR] at h'; exact .inr h'
theorem qgu {α:Type}:∀ (l:List α) (i:Nat) (h:i<l.length),(l[i]::l.eraseIdx i).Perm l
 | a::l,0,_=>.refl _
 | a::l,i+1,h=>by
  simp only [List.getElem_cons_succ,List.eraseIdx_cons_succ]
  exact (List.Perm.swap _ _ _).trans ((qgu l i (by simpa using h)).cons a)
def takeV:List Int->(Int×Bool)×List Int
 | []=>((0,false),[])
 | x::r=>((x,true),r)
theorem qvw {w:World} {pb:Nat} {F:List Nat} {l:List Int} {K:Int×Bool->World->Prop} (h:PoolAt w pb F l) (hl:l.length<=1000000)
  (hk:∀ F' w',PoolAt w' pb F' (takeV l).2->Fr F w w'->(∀ b∈F',b∈F\/w.heap.size<=b)->K (takeV l).1 w') :
  call Tryz.prog 41 [.pointer (some ⟨pb,0,none⟩)] [.one (.int .u32),.one .bool] w K:=by
 refine qkF (p:=some ⟨pb,0,none⟩) ?_
 unfold qgn
 have hsort:=h.sorted
 have hwhole:=h
 obtain ⟨mb,R,d,f,rfl,hr,hm,hp,hh,hf,h1⟩:=h.ex
 rcases hr with ⟨h0,hd,hR,hb⟩ | ⟨rb,T,hR,hb,hrb,hne,hnd⟩
 ·have hl0:l=[]:=List.eq_nil_of_length_eq_zero h0
  subst hl0
  refine qab ?_
  refine qae (c:=.slice) hb ⟨none,0,0⟩ rfl ?_
  refine cond_true rfl ?_
  exact hk _ w hwhole (.refl _ _) (fun b hb=>.inl hb)
 subst hR
 refine qab ?_
 refine qae (c:=.slice) hb ⟨some ⟨rb,0,none⟩,l.length,d.size⟩ rfl ?_
 match l,hl,hk,hsort,hwhole,hb,hp,hh,hf,hnd with
 | [],hl,hk,hsort,hwhole,hb,hp,hh,hf,hnd=>
  refine cond_true rfl ?_
  exact hk _ w hwhole (.refl _ _) (fun b hb=>.inl hb)
 | x::r,hl,hk,hsort,hwhole,hb,hp,hh,hf,hnd=>
  simp only [List.length_cons] at hb hp hh hnd hl ⊢
  refine cond_false (by simp; omega) ?_
  refine qab ?_
  have hne':=(show RowAt w pb (.map (some mb)) [rb] d (r.length+1) from .inr ⟨rb,T,rfl,hb,hrb,hne,hnd⟩).map_ne hm
  have hd0:d[0]! = x:=by
   have hmem:d[0]!∈x::r:=hp.mem_iff.1 (by
    have:=qcT (d:=d) rfl (show 0<r.length+1 by omega) hnd
    exact List.mem_of_getElem? this)
   have hx:x∈d.toList.take (r.length+1):=hp.mem_iff.2 (by simp)
   obtain ⟨i,hi,hix⟩:=List.getElem_of_mem hx
   have hi':i<r.length+1:=by simp at hi; omega
   have h2:=qcT (d:=d) rfl hi' hnd
   rw [List.getElem?_eq_getElem hi,hix] at h2
   have hmin:=hh.min i hi'
   rw [<- Option.some.inj h2] at hmin
   rcases List.mem_cons.1 hmem with e | e
   ·exact e
   ·have:=(List.pairwise_cons.1 hsort).1 _ e
    omega
  refine qvt hb hrb hne hnd (by omega) hh fun d2 w2 hr2 hh2 hp2 hf2=>?_
  rw [hd0] at hp2 ⊢
  have ta:(Instr.typeAssert (.iface 29 (.int .u32 x)) 20 29 true).run Tryz.prog w2=.ok (.tuple #[.int .u32 x,.bool true]) w2:=by kernel_rfl
  refine qax (ts:=[.one (.int .u32),.one .bool]) (x,true) ta ?_
  have hm2:MapAt u32V w2 mb f:=qjy hm hf2 (by simp only [List.mem_cons,List.not_mem_nil,or_false,not_or]; exact ⟨fun e=>hne'.1 e.symm,fun e=>hne'.2 rb (by simp) e.symm⟩)
  obtain ⟨s2,hc2⟩:∃ s:Sl,w2.heap[pb]?=some (.cells #[.slice s.a s.len s.cap,.map (some mb)] PT (0,0)):=by
   rcases hr2 with ⟨_,_,_,hb'⟩ | ⟨rb',T',_,hb',_⟩
   ·exact ⟨⟨none,0,0⟩,hb'⟩
   ·exact ⟨⟨some ⟨rb',0,none⟩,_,_⟩,hb'⟩
  refine qab ?_
  refine qae (c:=.map) hc2 (some mb) rfl ?_
  obtain ⟨o,hrun,hm3⟩:=qrM (P:=Tryz.prog) (t:=170) (et:=3) (kt:=29) (ty:=0) (by kernel_rfl) qcA hm2 x
  refine qpJ (ts:=[]) () _ hrun ?_
  rcases qgG (x:=x) h1 with ⟨_,hx'⟩ | ⟨j,hpos,_,hj⟩
  ·exact absurd (hf.mem_iff.2 (by simp)) hx'
  rw [hpos] at hm3
  have hmlt:mb<w2.heap.size:=by obtain ⟨es,c,hb,_⟩:=hm2; exact qac hb
  have hfr:=qf3 hmlt o
  refine hk [pb,mb,rb] (upd w2 mb o) ⟨⟨mb,[rb],d2,f.eraseIdx j,rfl,hr2.frame hfr (by simpa using hne'.1) (fun r hr=>by simpa using hne'.2 r hr),hm3,(hp2.trans hp).cons_inv,hh2,?_,fun p hp=>h1 p (List.mem_of_mem_eraseIdx hp)⟩,(List.pairwise_cons.1 hsort).2⟩
   ((hf2.mono (T:=[pb,mb,rb]) (fun i hi _=>by simp at hi; rcases hi with rfl | rfl <;> simp)).trans (hfr.mono (fun i hi _=>by simp at hi; simp [hi]))) (fun b hb=>.inl hb)
  show ((f.eraseIdx j).map (·.1)).Perm r
  rw [qbt]
  obtain ⟨hjl,hje⟩:=List.getElem?_eq_some_iff.1 hj
  have:=qgu _ _ hjl
  rw [hje] at this
  exact (this.trans hf).cons_inv
section
section
variable {blk:Nat} {T:ArrT} {w0 w:World} {d:Array Int} {len cap:Nat}
theorem qq6 {lo hi first:Nat} {K:Unit->World->Prop} (h:Arr blk T w0 w d) (hlo:lo<=hi) (hf:first+hi<=len) (hl:len<=d.size/\len<=1152921504606846976)
  (hk:∀ w',Arr blk T w0 w' (siftDown ltInt hi first lo d)->(siftDown ltInt hi first lo d).size=d.size->K () w') :
  call Tryz.prog 168 [.slice (some ⟨blk,0,none⟩) len cap,.int .i64 lo,.int .i64 hi,.int .i64 first] [] w K:=by
 refine qft (data:=⟨some ⟨blk,0,none⟩,len,cap⟩) ?_
 unfold qcG
 refine qag (fun x w'=>∃ (r:Nat) (d':Array Int),x=r/\r<=hi/\Arr blk T w0 w' d'/\d'.size=d.size/\siftDown ltInt hi first r d'=siftDown ltInt hi first lo d) (fun x _=>((hi:Int)-x).toNat)
  ⟨lo,d,rfl,hlo,h,rfl,rfl⟩ ?_
 rintro x w1 ⟨r,d1,rfl,hr,h,hs1,he1⟩ X hX
 have e1:IntKind.i64.wrap (IntKind.i64.wrap (2*(r:Int))+1)=((2*r+1:Nat):Int):=by rw [wi (2*(r:Int)) (by omega),wi _ (by omega)]; omega
 have e2:IntKind.i64.wrap (((2*r+1:Nat):Int)+1)=((2*r+2:Nat):Int):=by rw [wi _ (by omega)]; omega
 rw [e1,e2]
 have hd:=siftDown.eq_1 ltInt hi first r d1
 refine qaa (fun hc=>?_) (fun hc=>?_)
 ·have hc':2*r+1>=hi:=by have:=of_decide_eq_true hc; omega
  rw [dif_pos hc'] at hd
  rw [hd] at he1
  refine hk _ ?_ ?_
  ·rw [<- he1]; exact h
  ·rw [<- he1]; exact hs1
 ·have hc':¬ 2*r+1>=hi:=by have:=of_decide_eq_false hc; omega
  rw [dif_neg hc'] at hd
  refine qaf (fun x w'=>x=((if 2*r+1+1<hi&&ltInt d1[first+(2*r+1)]! d1[first+(2*r+1)+1]! then 2*r+2 else 2*r+1:Nat):Int)/\Arr blk T w0 w' d1) ?_ ?_
  ·refine qaf (fun c w'=>c=(decide (2*r+1+1<hi)&&ltInt d1[first+(2*r+1)]! d1[first+(2*r+1)+1]!)/\Arr blk T w0 w' d1) ?_ ?_
   ·refine qaa (fun hc=>?_) (fun hc=>?_)
    ·have hc2:2*r+1+1<hi:=by have:=of_decide_eq_true hc; omega
     refine h.drew.rd (first+(2*r+1)) (by rw [wi _ (by omega)]; omega) (by omega) (by omega) ?_
     refine h.drew.rd (first+(2*r+1)+1) (by rw [wi ((first:Int)+_) (by omega),wi _ (by omega)]; omega) (by omega) (by omega) ?_
     refine qbb ?_
     exact ⟨by simp [hc2],h.drew⟩
    ·have hc2:¬ 2*r+1+1<hi:=by have:=of_decide_eq_false hc; omega
     exact ⟨by simp [hc2],h.drew⟩
   ·rintro c w3 ⟨rfl,h⟩
    refine qaa (fun hc=>?_) (fun hc=>?_)
    ·exact ⟨by rw [if_pos hc],h⟩
    ·exact ⟨by rw [if_neg (by simpa using hc)],h⟩
  ·rintro x w3 ⟨rfl,h⟩
   have fin:∀ c:Nat,(c=2*r+1\/c=2*r+2)->c<hi->((if !ltInt d1[first+r]! d1[first+c]! then d1 else siftDown ltInt hi first c (swp d1 (first+r) (first+c)))=siftDown ltInt hi first lo d)->
     idx ⟨some ⟨blk,0,none⟩,len,cap⟩ (IntKind.i64.wrap (first+r)) 1 fun a_16=>ld (.int .u32) a_16 w3.drew fun x_17=>idx ⟨some ⟨blk,0,none⟩,len,cap⟩ (IntKind.i64.wrap (first+c)) 1 fun a_18=>ld (.int .u32) a_18 w3.drew fun x_19=>
      call Tryz.prog 153 [.int .u32 x_17,.int .u32 x_19] [.one .bool] w3.drew fun b_20 w_21=>
       bif !b_20 then K () w_21 else
        idx ⟨some ⟨blk,0,none⟩,len,cap⟩ (IntKind.i64.wrap (first+c)) 1 fun a_22=>ld (.int .u32) a_22 w_21.drew fun x_23=>idx ⟨some ⟨blk,0,none⟩,len,cap⟩ (IntKind.i64.wrap (first+r)) 1 fun a_24=>ld (.int .u32) a_24 w_21.drew fun x_25=>
         idx ⟨some ⟨blk,0,none⟩,len,cap⟩ (IntKind.i64.wrap (first+r)) 1 fun a_26=>st a_26 [.int .u32 x_23] w_21.drew fun w_27=>idx ⟨some ⟨blk,0,none⟩,len,cap⟩ (IntKind.i64.wrap (first+c)) 1 fun a_28=>st a_28 [.int .u32 x_25] w_27 fun w_29=>X c w_29:=by
    intro c hcc hch hceq
    refine h.drew.rd (first+r) (by rw [wi _ (by omega)]; omega) (by omega) (by omega) ?_
    refine h.drew.rd (first+c) (by rw [wi _ (by omega)]; omega) (by omega) (by omega) ?_
    refine qbb ?_
    refine qaa (fun hc=>?_) (fun hc=>?_)
    ·rw [if_pos hc] at hceq
     refine hk _ ?_ ?_
     ·rw [<- hceq]; exact h.drew
     ·rw [<- hceq]; exact hs1
    ·rw [if_neg (by rw [hc]; decide)] at hceq
     refine h.drew.drew.swap (first+r) (first+c) (by rw [wi _ (by omega)]; omega) (by rw [wi _ (by omega)]; omega) (by omega) (by omega) (by omega) fun w4 h=>?_
     exact hX _ _ ⟨c,_,rfl,by omega,h,by rw [qfH]; exact hs1,hceq⟩ (by omega)
   split
   ·rename_i hcc
    rw [if_pos hcc] at hd
    have hlt:2*r+2<hi:=by simp only [Bool.and_eq_true,decide_eq_true_eq] at hcc; omega
    rw [dif_pos hlt] at hd
    exact fin _ (.inr rfl) hlt (hd.symm.trans he1)
   ·rename_i hcc
    rw [if_neg hcc] at hd
    exact fin _ (.inl rfl) (by omega) (hd.symm.trans he1)
theorem quZ {a b:Nat} {K:Unit->World->Prop} (h:Arr blk T w0 w d) (hab:a<=b) (hb:b<=len) (hl:len<=d.size/\len<=1152921504606846976)
  (hk:∀ w',Arr blk T w0 w' (heapSort ltInt d a b)->K () w') :
  call Tryz.prog 148 [.slice (some ⟨blk,0,none⟩) len cap,.int .i64 a,.int .i64 b] [] w K:=by
 refine qfu (data:=⟨some ⟨blk,0,none⟩,len,cap⟩) ?_
 unfold qcF
 dsimp only
 have e0:IntKind.i64.wrap ((b:Int)-a)=((b-a:Nat):Int):=by rw [wi _ (by omega)]; omega
 have e2:IntKind.i64.wrap (Int.tdiv (IntKind.i64.wrap (((b-a:Nat):Int)-1)) 2)=(((b-a-1) / 2+1:Nat):Int)-1:=by
  rw [wi (_-1) (by omega)]
  by_cases hn:b-a=0
  ·rw [hn]; decide +kernel
  ·rw [Int.tdiv_eq_ediv_of_nonneg (by omega),wi _ (by omega)]; omega
 rw [e0,e2]
 refine qag (fun x w'=>∃ (k:Nat) (d':Array Int),x=(k:Int)-1/\k<=(b-a-1) / 2+1/\Arr blk T w0 w' d'/\d'.size=d.size/\heapBuild ltInt (b-a) a k d'=heapBuild ltInt (b-a) a ((b-a-1) / 2+1) d) (fun x _=>(x+1).toNat)
  ⟨_,d,rfl,Nat.le_refl _,h,rfl,rfl⟩ ?_
 rintro x w1 ⟨k,d1,rfl,hkk,h,hs1,he1⟩ X hX
 refine qaa (fun hc=>?_) (fun hc=>?_)
 ·have hc':1<=k:=by have:=of_decide_eq_true hc; omega
  obtain ⟨j,rfl⟩:∃ j,k=j+1:=⟨k-1,by omega⟩
  rw [show ((j+1:Nat):Int)-1=(j:Nat) by omega]
  refine qq6 h (by omega) (by omega) (by omega) fun w2 h hs=>?_
  rw [wi _ (by omega)]
  exact hX _ _ ⟨j,_,rfl,by omega,h,by rw [hs,hs1],he1⟩ (by omega)
 ·have hc':k=0:=by have:=of_decide_eq_false hc; omega
  subst hc'
  have he1':d1=heapBuild ltInt (b-a) a ((b-a-1) / 2+1) d:=he1
  rw [wi (_-1) (by omega)]
  refine qag (fun x w'=>∃ (k:Nat) (d':Array Int),x=(k:Int)-1/\k<=b-a/\Arr blk T w0 w' d'/\d'.size=d.size/\heapPop ltInt a k d'=heapPop ltInt a (b-a) d1) (fun x _=>(x+1).toNat)
   ⟨_,d1,rfl,Nat.le_refl _,h,hs1,rfl⟩ ?_
  rintro x w2 ⟨k,d2,rfl,hkk,h,hs2,he2⟩ Z hZ
  refine qaa (fun hc=>?_) (fun hc=>?_)
  ·have hc':1<=k:=by have:=of_decide_eq_true hc; omega
   obtain ⟨j,rfl⟩:∃ j,k=j+1:=⟨k-1,by omega⟩
   rw [show ((j+1:Nat):Int)-1=(j:Nat) by omega]
   refine h.drew.swap a (a+j) rfl (by rw [wi _ (by omega)]; omega) (by omega) (by omega) (by omega) fun w3 h=>?_
   refine qq6 (lo:=0) h (by omega) (by omega) (by rw [qfH]; omega) fun w4 h hs=>?_
   rw [wi _ (by omega)]
   exact hZ _ _ ⟨j,_,rfl,by omega,h,by rw [hs,qfH,hs2],he2⟩ (by omega)
  ·have hc':k=0:=by have:=of_decide_eq_false hc; omega
   subst hc'
   refine hk _ ?_
   unfold heapSort
   rw [<- he1',<- he2]
   exact h
theorem qvR {a b:Nat} {K:Unit->World->Prop} (h:Arr blk T w0 w d) (hab:a<b) (hb:b<=len) (hl:len<=d.size/\len<=1152921504606846976)
  (hk:∀ w',Arr blk T w0 w' (reverseRange d a b)->K () w') :
  call Tryz.prog 151 [.slice (some ⟨blk,0,none⟩) len cap,.int .i64 a,.int .i64 b] [] w K:=by
 refine qdD (data:=⟨some ⟨blk,0,none⟩,len,cap⟩) ?_
 unfold qbN
 rw [wi _ (by omega)]
 refine qag (fun x w'=>∃ (i j:Nat) (d':Array Int),x=((i:Int),(j:Int))/\i<=j+1/\j<b/\Arr blk T w0 w' d'/\d'.size=d.size/\reverseLoop i j d'=reverseLoop a (b-1) d) (fun x _=>(x.2-x.1).toNat)
  ⟨a,b-1,d,qbq rfl (by omega),by omega,by omega,h,rfl,rfl⟩ ?_
 rintro x w1 ⟨i,j,d1,rfl,hij,hjb,h,hs1,he1⟩ X hX
 have hd:=reverseLoop.eq_1 i j d1
 dsimp only
 refine qaa (fun hc=>?_) (fun hc=>?_)
 ·have hc':i<j:=by have:=of_decide_eq_true hc; omega
  rw [if_pos hc'] at hd
  refine h.drew.swap i j rfl rfl (by omega) (by omega) (by omega) fun w2 h=>?_
  rw [wi (_+1) (by omega),wi (_-1) (by omega)]
  exact hX _ _ ⟨i+1,j-1,_,qbq (by omega) (by omega),by omega,by omega,h,by rw [qfH,hs1],hd.symm.trans he1⟩ (by dsimp only; omega)
 ·have hc':¬ i<j:=by have:=of_decide_eq_false hc; omega
  rw [if_neg hc'] at hd
  refine hk _ ?_
  unfold reverseRange
  rw [<- he1,hd]
  exact h
end
end
section
section
variable {blk:Nat} {T:ArrT} {w0 w:World} {d:Array Int} {len cap:Nat}
theorem qgS {p:Int->Bool} {J i0:Nat} {E:Int->World->Prop} {t:Int->World->(Bool->World->Prop)->Prop} (h:Arr blk T w0 w d) (hJ:J<=1152921504606846976) (hi0:i0<=J+2)
  (hT:∀ (x:Nat) w Y,i0<=x->Arr blk T w0 w d->(∀ w',Arr blk T w0 w' d->Y (decide (x<=J)&&p d[x]!) w')->t x w Y)
  (hE:∀ w',Arr blk T w0 w' d->E (scanUp p d J i0:Nat) w') :
  loop Int (fun X x w=>join Bool (fun Y=>t x w Y) fun b w'=>bif b then X (IntKind.i64.wrap (x+1)) w' else E x w') i0 w:=by
 refine qag (fun x w'=>∃ i:Nat,x=i/\i0<=i/\i<=J+2/\Arr blk T w0 w' d/\scanUp p d J i=scanUp p d J i0) (fun x _=>((J:Int)+2-x).toNat) ⟨i0,rfl,Nat.le_refl _,hi0,h,rfl⟩ ?_
 rintro x w1 ⟨i,rfl,hi,hiJ,h,he⟩ X hX
 refine qaf (fun c w'=>c=(decide (i<=J)&&p d[i]!)/\Arr blk T w0 w' d) (hT i w1 _ hi h fun w' h=>⟨rfl,h⟩) ?_
 rintro c w2 ⟨rfl,h⟩
 have hd:=scanUp.eq_1 p d J i
 refine qaa (fun hc=>?_) (fun hc=>?_)
 ·have hc1:=hc
  simp only [Bool.and_eq_true,decide_eq_true_eq] at hc
  rw [if_pos (by simpa using hc1)] at hd
  rw [wi _ (by omega)]
  exact hX _ _ ⟨i+1,by omega,by omega,by omega,h,hd.symm.trans he⟩ (by omega)
 ·rw [if_neg (by simpa using hc)] at hd
  rw [show (i:Int)=(scanUp p d J i0:Nat) by rw [<- he,hd]]
  exact hE _ h
theorem qeT {p:Int->Bool} {i j0:Nat} {E:Int->World->Prop} {t:Int->World->(Bool->World->Prop)->Prop} (h:Arr blk T w0 w d) (hJ:j0<=1152921504606846976) (hi:1<=i)
  (hT:∀ (x:Nat) w Y,x<=j0->Arr blk T w0 w d->(∀ w',Arr blk T w0 w' d->Y (decide (i<=x)&&p d[x]!) w')->t x w Y)
  (hE:∀ w',Arr blk T w0 w' d->E (scanDown p d i j0:Nat) w') :
  loop Int (fun X x w=>join Bool (fun Y=>t x w Y) fun b w'=>bif b then X (IntKind.i64.wrap (x-1)) w' else E x w') j0 w:=by
 refine qag (fun x w'=>∃ j:Nat,x=j/\j<=j0/\Arr blk T w0 w' d/\scanDown p d i j=scanDown p d i j0) (fun x _=>x.toNat) ⟨j0,rfl,Nat.le_refl _,h,rfl⟩ ?_
 rintro x w1 ⟨j,rfl,hj,h,he⟩ X hX
 refine qaf (fun c w'=>c=(decide (i<=j)&&p d[j]!)/\Arr blk T w0 w' d) (hT j w1 _ hj h fun w' h=>⟨rfl,h⟩) ?_
 rintro c w2 ⟨rfl,h⟩
 refine qaa (fun hc=>?_) (fun hc=>?_)
 ·have hc1:=hc
  simp only [Bool.and_eq_true,decide_eq_true_eq] at hc
  obtain ⟨k,rfl⟩:∃ k,j=k+1:=⟨j-1,by omega⟩
  rw [wi _ (by omega)]
  refine hX _ _ ⟨k,by omega,by omega,h,?_⟩ (by omega)
  rw [<- he,scanDown,if_pos (by simpa using hc1)]
 ·rw [show (j:Int)=(scanDown p d i j0:Nat) by
   rw [<- he]
   cases j with
   | zero=>rfl
   | succ k=>rw [scanDown,if_neg (by simpa using hc)]]
  exact hE _ h
theorem qve {a b pivot:Nat} {K:Int×Bool->World->Prop} (h:Arr blk T w0 w d) (hap:a<=pivot) (hpb:pivot<b) (hb:b<=len) (hl:len<=d.size/\len<=1152921504606846976)
  (hk:∀ w',Arr blk T w0 w' (Sort.partition ltInt d a b pivot).2.2->K (((Sort.partition ltInt d a b pivot).1:Nat),(Sort.partition ltInt d a b pivot).2.1) w') :
  call Tryz.prog 155 [.slice (some ⟨blk,0,none⟩) len cap,.int .i64 a,.int .i64 b,.int .i64 pivot] [.one (.int .i64),.one .bool] w K:=by
 refine qe0 (data:=⟨some ⟨blk,0,none⟩,len,cap⟩) ?_
 unfold qco
 revert hk
 unfold Sort.partition
 dsimp only
 intro hk
 refine h.drew.swap a pivot rfl rfl (by omega) (by omega) (by omega) fun w1 h=>?_
 have hsz:(swp d a pivot).size=d.size:=Sort.size_swp _ _ _
 generalize swp d a pivot=d1 at h hk hsz
 have eb:IntKind.i64.wrap ((b:Int)-1)=((b-1:Nat):Int):=by rw [wi _ (by omega)]; omega
 rw [eb,wi ((a:Int)+1) (by omega),show (a:Int)+1=((a+1:Nat):Int) by omega]
 refine qgS (p:=fun x=>ltInt x d1[a]!) (J:=b-1) (i0:=a+1) h (by omega) (by omega) (fun x w Y hx h hY=>?_) fun w2 h=>?_
 ·refine qaa (fun hc=>?_) (fun hc=>?_)
  ·have hc':x<=b-1:=by have:=of_decide_eq_true hc; omega
   refine h.drew.rd x rfl (by omega) (by omega) ?_
   refine h.drew.rd a rfl (by omega) (by omega) ?_
   refine qbb ?_
   have:=hY _ h.drew
   simpa [hc'] using this
  ·have hc':¬ x<=b-1:=by have:=of_decide_eq_false hc; omega
   have:=hY _ h.drew
   simpa [hc'] using this
 have hu1:=scanUp_ge (fun x=>ltInt x d1[a]!) d1 (b-1) (a+1)
 generalize scanUp (fun x=>ltInt x d1[a]!) d1 (b-1) (a+1)=i at hk hu1 ⊢
 refine qeT (p:=fun x=>!ltInt x d1[a]!) (i:=i) (j0:=b-1) h (by omega) (by omega) (fun x w Y hx h hY=>?_) fun w3 h=>?_
 ·refine qaa (fun hc=>?_) (fun hc=>?_)
  ·have hc':i<=x:=by have:=of_decide_eq_true hc; omega
   refine h.drew.rd x rfl (by omega) (by omega) ?_
   refine h.drew.rd a rfl (by omega) (by omega) ?_
   refine qbb ?_
   have:=hY _ h.drew
   simpa [hc'] using this
  ·have hc':¬ i<=x:=by have:=of_decide_eq_false hc; omega
   have:=hY _ h.drew
   simpa [hc'] using this
 have hv1:=scanDown_le (fun x=>!ltInt x d1[a]!) d1 i (b-1)
 generalize scanDown (fun x=>!ltInt x d1[a]!) d1 i (b-1)=j at hk hv1 ⊢
 refine qaa (fun hc=>?_) (fun hc=>?_)
 ·have hc':i>j:=by have:=of_decide_eq_true hc; omega
  simp only [if_pos hc'] at hk
  exact h.drew.swap j a rfl rfl (by omega) (by omega) (by omega) fun w4 h=>hk _ h
 ·have hc':¬ i>j:=by have:=of_decide_eq_false hc; omega
  simp only [if_neg hc'] at hk
  refine h.drew.swap i j rfl rfl (by omega) (by omega) (by omega) fun w4 h=>?_
  have hsz2:(swp d1 i j).size=d1.size:=Sort.size_swp _ _ _
  generalize swp d1 i j=d2 at h hk hsz2
  rw [wi ((i:Int)+1) (by omega),wi ((j:Int)-1) (by omega)]
  refine qag (fun s w'=>∃ (i' j':Nat) (d':Array Int),s=((i':Int),(j':Int))/\a+1<=i'/\i'<=b/\j'<=b-1/\i'<=j'+2/\Arr blk T w0 w' d'/\d'.size=d.size/\partLoop ltInt a i' j' d'=partLoop ltInt a (i+1) (j-1) d2) (fun s _=>(s.2+2-s.1).toNat)
   ⟨i+1,j-1,d2,qbq (by omega) (by omega),by omega,by omega,by omega,by omega,h,by omega,rfl⟩ ?_
  rintro s w5 ⟨i',j',d3,rfl,hi1,hi2,hj1,hij,h,hs3,he⟩ X hX
  rw [partLoop_eq ltInt a i' j' d3] at he
  dsimp only
  refine qgS (p:=fun x=>ltInt x d3[a]!) (J:=j') (i0:=i') h (by omega) (by omega) (fun x w Y hx h hY=>?_) fun w6 h=>?_
  ·refine qaa (fun hc=>?_) (fun hc=>?_)
   ·have hc':x<=j':=by have:=of_decide_eq_true hc; omega
    refine h.drew.rd x rfl (by omega) (by omega) ?_
    refine h.drew.rd a rfl (by omega) (by omega) ?_
    refine qbb ?_
    have:=hY _ h.drew
    simpa [hc'] using this
   ·have hc':¬ x<=j':=by have:=of_decide_eq_false hc; omega
    have:=hY _ h.drew
    simpa [hc'] using this
  have hu1:=scanUp_ge (fun x=>ltInt x d3[a]!) d3 j' i'
  generalize scanUp (fun x=>ltInt x d3[a]!) d3 j' i'=i2 at he hu1 ⊢
  refine qeT (p:=fun x=>!ltInt x d3[a]!) (i:=i2) (j0:=j') h (by omega) (by omega) (fun x w Y hx h hY=>?_) fun w7 h=>?_
  ·refine qaa (fun hc=>?_) (fun hc=>?_)
   ·have hc':i2<=x:=by have:=of_decide_eq_true hc; omega
    refine h.drew.rd x rfl (by omega) (by omega) ?_
    refine h.drew.rd a rfl (by omega) (by omega) ?_
    refine qbb ?_
    have:=hY _ h.drew
    simpa [hc'] using this
   ·have hc':¬ i2<=x:=by have:=of_decide_eq_false hc; omega
    have:=hY _ h.drew
    simpa [hc'] using this
  have hv1:=scanDown_le (fun x=>!ltInt x d3[a]!) d3 i2 j'
  generalize scanDown (fun x=>!ltInt x d3[a]!) d3 i2 j'=j2 at he hv1 ⊢
  refine qaa (fun hc=>?_) (fun hc=>?_)
  ·have hc':i2>j2:=by have:=of_decide_eq_true hc; omega
   rw [if_pos hc'] at he
   rw [<- he] at hk
   exact h.drew.swap j2 a rfl rfl (by omega) (by omega) (by omega) fun w4 h=>hk _ h
  ·have hc':¬ i2>j2:=by have:=of_decide_eq_false hc; omega
   rw [if_neg hc'] at he
   refine h.drew.swap i2 j2 rfl rfl (by omega) (by omega) (by omega) fun w4 h=>?_
   rw [wi ((i2:Int)+1) (by omega),wi ((j2:Int)-1) (by omega)]
   exact hX _ _ ⟨i2+1,j2-1,_,qbq (by omega) (by omega),by omega,by omega,by omega,by omega,h,by rw [Sort.size_swp]; exact hs3,he⟩ (by dsimp only; omega)
theorem qs4 {a b pivot:Nat} {K:Int->World->Prop} (h:Arr blk T w0 w d) (hap:a<=pivot) (hpb:pivot<b) (hb:b<=len) (hl:len<=d.size/\len<=1152921504606846976)
  (hk:∀ w',Arr blk T w0 w' (Sort.partitionEqual ltInt d a b pivot).2->K ((Sort.partitionEqual ltInt d a b pivot).1:Nat) w') :
  call Tryz.prog 154 [.slice (some ⟨blk,0,none⟩) len cap,.int .i64 a,.int .i64 b,.int .i64 pivot] [.one (.int .i64)] w K:=by
 refine qdd (data:=⟨some ⟨blk,0,none⟩,len,cap⟩) ?_
 unfold qbB
 revert hk
 unfold Sort.partitionEqual
 intro hk
 refine h.drew.swap a pivot rfl rfl (by omega) (by omega) (by omega) fun w1 h=>?_
 have hsz:(swp d a pivot).size=d.size:=Sort.size_swp _ _ _
 generalize swp d a pivot=d2 at h hk hsz
 rw [wi ((a:Int)+1) (by omega),wi ((b:Int)-1) (by omega)]
 refine qag (fun s w'=>∃ (i' j':Nat) (d':Array Int),s=((i':Int),(j':Int))/\a+1<=i'/\i'<=b/\j'<=b-1/\i'<=j'+2/\Arr blk T w0 w' d'/\d'.size=d.size/\partEqLoop ltInt a i' j' d'=partEqLoop ltInt a (a+1) (b-1) d2) (fun s _=>(s.2+2-s.1).toNat)
  ⟨a+1,b-1,d2,qbq (by omega) (by omega),by omega,by omega,by omega,by omega,h,by omega,rfl⟩ ?_
 rintro s w5 ⟨i',j',d3,rfl,hi1,hi2,hj1,hij,h,hs3,he⟩ X hX
 rw [partEqLoop_eq ltInt a i' j' d3] at he
 dsimp only
 refine qgS (p:=fun x=>!ltInt d3[a]! x) (J:=j') (i0:=i') h (by omega) (by omega) (fun x w Y hx h hY=>?_) fun w6 h=>?_
 ·refine qaa (fun hc=>?_) (fun hc=>?_)
  ·have hc':x<=j':=by have:=of_decide_eq_true hc; omega
   refine h.drew.rd a rfl (by omega) (by omega) ?_
   refine h.drew.rd x rfl (by omega) (by omega) ?_
   refine qbb ?_
   have:=hY _ h.drew
   simpa [hc'] using this
  ·have hc':¬ x<=j':=by have:=of_decide_eq_false hc; omega
   have:=hY _ h.drew
   simpa [hc'] using this
 have hu1:=scanUp_ge (fun x=>!ltInt d3[a]! x) d3 j' i'
 generalize scanUp (fun x=>!ltInt d3[a]! x) d3 j' i'=i2 at he hu1 ⊢
 refine qeT (p:=fun x=>ltInt d3[a]! x) (i:=i2) (j0:=j') h (by omega) (by omega) (fun x w Y hx h hY=>?_) fun w7 h=>?_
 ·refine qaa (fun hc=>?_) (fun hc=>?_)
  ·have hc':i2<=x:=by have:=of_decide_eq_true hc; omega
   refine h.drew.rd a rfl (by omega) (by omega) ?_
   refine h.drew.rd x rfl (by omega) (by omega) ?_
   refine qbb ?_
   have:=hY _ h.drew
   simpa [hc'] using this
  ·have hc':¬ i2<=x:=by have:=of_decide_eq_false hc; omega
   have:=hY _ h.drew
   simpa [hc'] using this
 have hv1:=scanDown_le (fun x=>ltInt d3[a]! x) d3 i2 j'
 generalize scanDown (fun x=>ltInt d3[a]! x) d3 i2 j'=j2 at he hv1 ⊢
 refine qaa (fun hc=>?_) (fun hc=>?_)
 ·have hc':i2>j2:=by have:=of_decide_eq_true hc; omega
  rw [if_pos hc'] at he
  rw [<- he] at hk
  exact hk _ h
 ·have hc':¬ i2>j2:=by have:=of_decide_eq_false hc; omega
  rw [if_neg hc'] at he
  refine h.drew.swap i2 j2 rfl rfl (by omega) (by omega) (by omega) fun w4 h=>?_
  rw [wi ((i2:Int)+1) (by omega),wi ((j2:Int)-1) (by omega)]
  exact hX _ _ ⟨i2+1,j2-1,_,qbq (by omega) (by omega),by omega,by omega,by omega,by omega,h,by rw [Sort.size_swp]; exact hs3,he⟩ (by dsimp only; omega)
end
end
section
section
variable {blk:Nat} {T:ArrT} {w0 w:World} {d:Array Int} {len cap:Nat}
theorem quF {a b:Nat} {K:Bool->World->Prop} (h:Arr blk T w0 w d) (hab:a<b) (hb:b<=len) (hl:len<=d.size/\len<=1152921504606846976)
  (hk:∀ w',Arr blk T w0 w' (Sort.partialInsertionSort ltInt d a b).1->K (Sort.partialInsertionSort ltInt d a b).2 w') :
  call Tryz.prog 152 [.slice (some ⟨blk,0,none⟩) len cap,.int .i64 a,.int .i64 b] [.one .bool] w K:=by
 refine qcf (data:=⟨some ⟨blk,0,none⟩,len,cap⟩) ?_
 unfold qbc
 revert hk
 unfold Sort.partialInsertionSort
 intro hk
 rw [wi ((a:Int)+1) (by omega)]
 refine qag (fun x w'=>∃ (i s:Nat) (d':Array Int),x=((i:Int),5-(s:Int))/\s<=5/\a+1<=i/\i<=b/\Arr blk T w0 w' d'/\d'.size=d.size/\partialIns ltInt a b s i d'=partialIns ltInt a b 5 (a+1) d) (fun x _=>(5-x.2).toNat)
  ⟨a+1,5,d,qbq (by omega) (by omega),by omega,by omega,by omega,h,rfl,rfl⟩ ?_
 rintro x w1 ⟨i,s,d1,rfl,hs5,hi1,hi2,h,hs1,he⟩ X hX
 dsimp only
 refine qaa (fun hc=>?_) (fun hc=>?_)
 ·obtain ⟨s,rfl⟩:∃ k,s=k+1:=⟨s-1,by have:=of_decide_eq_true hc; omega⟩
  rw [partialIns_succ] at he
  refine qaf (fun x w'=>∃ (i:Nat) (d':Array Int),x=i/\a+1<=i/\i<=b/\Arr blk T w0 w' d'/\d'.size=d.size/\partialIns ltInt a b s i d'=partialIns ltInt a b 5 (a+1) d) ?_ ?_
  ·refine qag (fun x w'=>∃ k:Nat,x=k/\a+1<=k/\k<=b/\Arr blk T w0 w' d1/\scanSorted ltInt d1 b k=scanSorted ltInt d1 b i) (fun x _=>((b:Int)-x).toNat) ⟨i,rfl,hi1,hi2,h,rfl⟩ ?_
   rintro x w2 ⟨k,rfl,hk1,hk2,h,hsc⟩ Z hZ
   have hd:=scanSorted.eq_1 ltInt d1 b k
   refine qaf (fun c w'=>c=(decide (k<b)&&!ltInt d1[k]! d1[k-1]!)/\Arr blk T w0 w' d1) ?_ ?_
   ·refine qaa (fun hc=>?_) (fun hc=>?_)
    ·have hc':k<b:=by have:=of_decide_eq_true hc; omega
     refine h.drew.rd k rfl (by omega) (by omega) ?_
     refine h.drew.rd (k-1) (by rw [wi _ (by omega)]; omega) (by omega) (by omega) ?_
     refine qbb ?_
     exact ⟨by simp [hc'],h.drew⟩
    ·have hc':¬ k<b:=by have:=of_decide_eq_false hc; omega
     exact ⟨by simp [hc'],h.drew⟩
   ·rintro c w3 ⟨rfl,h⟩
    refine qaa (fun hc=>?_) (fun hc=>?_)
    ·have hc1:=hc
     simp only [Bool.and_eq_true,decide_eq_true_eq] at hc
     rw [if_pos (by simpa using hc1)] at hd
     rw [wi _ (by omega)]
     exact hZ _ _ ⟨k+1,by omega,by omega,by omega,h,hd.symm.trans hsc⟩ (by omega)
    ·rw [if_neg (by simpa using hc)] at hd
     rw [show scanSorted ltInt d1 b i=k by rw [<- hsc,hd]] at he
     unfold fixUp fixDown at he
     refine qaa (fun hc=>?_) (fun hc=>?_)
     ·have hkb:k=b:=by have:=beq_iff_eq.1 hc; omega
      rw [if_pos hkb] at he
      rw [<- he] at hk
      exact hk _ h
     ·have hkb:¬ k=b:=fun e=>by rw [e] at hc; simp at hc
      rw [if_neg hkb] at he
      rw [wi ((b:Int)-a) (by omega)]
      refine qaa (fun hc=>?_) (fun hc=>?_)
      ·have h50:b-a<50:=by have:=of_decide_eq_true hc; omega
       rw [if_pos h50] at he
       rw [<- he] at hk
       exact hk _ h
      ·have h50:¬ b-a<50:=by have:=of_decide_eq_false hc; omega
       rw [if_neg h50] at he
       refine h.drew.swap k (k-1) rfl (by rw [wi _ (by omega)]; omega) (by omega) (by omega) (by omega) fun w4 h=>?_
       have hsz2:(swp d1 k (k-1)).size=d1.size:=Sort.size_swp _ _ _
       generalize swp d1 k (k-1)=d2 at h he hsz2
       refine qaf (fun _ w'=>Arr blk T w0 w' (if k-a>=2 then shiftDown ltInt (k-1) d2 else d2)/\(if k-a>=2 then shiftDown ltInt (k-1) d2 else d2).size=d2.size) ?_ ?_
       ·rw [wi ((k:Int)-a) (by omega)]
        refine qaa (fun hc=>?_) (fun hc=>?_)
        ·have hka:k-a>=2:=by have:=of_decide_eq_true hc; omega
         simp only [if_pos hka]
         rw [wi ((k:Int)-1) (by omega)]
         refine qag (fun x w'=>∃ (j:Nat) (d':Array Int),x=j/\j<=k-1/\Arr blk T w0 w' d'/\d'.size=d2.size/\shiftDown ltInt j d'=shiftDown ltInt (k-1) d2) (fun x _=>x.toNat) ⟨k-1,d2,by omega,by omega,h,rfl,rfl⟩ ?_
         rintro x w5 ⟨j,d3,rfl,hj,h,hs3,he3⟩ Q hQ
         refine qaa (fun hc=>?_) (fun hc=>?_)
         ·obtain ⟨j,rfl⟩:∃ m,j=m+1:=⟨j-1,by have:=of_decide_eq_true hc; omega⟩
          rw [shiftDown] at he3
          refine h.drew.rd (j+1) rfl (by omega) (by omega) ?_
          refine h.drew.rd j (by rw [wi _ (by omega)]; omega) (by omega) (by omega) ?_
          refine qbb ?_
          refine qaa (fun hc=>?_) (fun hc=>?_)
          ·rw [if_pos hc] at he3
           rw [<- he3]
           exact ⟨h.drew,hs3⟩
          ·rw [if_neg (by rw [hc]; decide)] at he3
           refine h.drew.drew.swap (j+1) j rfl (by rw [wi _ (by omega)]; omega) (by omega) (by omega) (by omega) fun w6 h=>?_
           rw [wi _ (by omega)]
           exact hQ _ _ ⟨j,_,by omega,by omega,h,by rw [Sort.size_swp]; exact hs3,he3⟩ (by omega)
         ·have hj0:j=0:=by have:=of_decide_eq_false hc; omega
          subst hj0
          rw [<- he3]
          exact ⟨h,hs3⟩
        ·have hka:¬ k-a>=2:=by have:=of_decide_eq_false hc; omega
         simp only [if_neg hka]
         exact ⟨h,trivial⟩
       ·rintro _ w5 ⟨h,hs3⟩
        generalize (if k-a>=2 then shiftDown ltInt (k-1) d2 else d2)=d3 at h he hs3
        rw [wi ((b:Int)-k) (by omega)]
        refine qaa (fun hc=>?_) (fun hc=>?_)
        ·have hbk:b-k>=2:=by have:=of_decide_eq_true hc; omega
         rw [if_pos hbk] at he
         rw [wi ((k:Int)+1) (by omega)]
         refine qag (fun x w'=>∃ (j:Nat) (d':Array Int),x=j/\k+1<=j/\j<=b/\Arr blk T w0 w' d'/\d'.size=d.size/\shiftUp ltInt b j d'=shiftUp ltInt b (k+1) d3) (fun x _=>((b:Int)-x).toNat) ⟨k+1,d3,by omega,by omega,by omega,h,by omega,rfl⟩ ?_
         rintro x w6 ⟨j,d4,rfl,hj1,hj2,h,hs4,he4⟩ Q hQ
         have hd4:=shiftUp.eq_1 ltInt b j d4
         refine qaa (fun hc=>?_) (fun hc=>?_)
         ·have hjb:j<b:=by have:=of_decide_eq_true hc; omega
          rw [if_pos hjb] at hd4
          refine h.drew.rd j rfl (by omega) (by omega) ?_
          refine h.drew.rd (j-1) (by rw [wi _ (by omega)]; omega) (by omega) (by omega) ?_
          refine qbb ?_
          refine qaa (fun hc=>?_) (fun hc=>?_)
          ·rw [if_pos hc] at hd4
           rw [<- he4,hd4] at he
           exact ⟨k,d4,rfl,hk1,hk2,h.drew,hs4,he⟩
          ·rw [if_neg (by rw [hc]; decide)] at hd4
           refine h.drew.drew.swap j (j-1) rfl (by rw [wi _ (by omega)]; omega) (by omega) (by omega) (by omega) fun w6 h=>?_
           rw [wi _ (by omega)]
           exact hQ _ _ ⟨j+1,_,by omega,by omega,by omega,h,by rw [Sort.size_swp]; exact hs4,hd4.symm.trans he4⟩ (by omega)
         ·have hjb:¬ j<b:=by have:=of_decide_eq_false hc; omega
          rw [if_neg hjb] at hd4
          rw [<- he4,hd4] at he
          exact ⟨k,d4,rfl,hk1,hk2,h,hs4,he⟩
        ·have hbk:¬ b-k>=2:=by have:=of_decide_eq_false hc; omega
         rw [if_neg hbk] at he
         exact ⟨k,d3,rfl,hk1,hk2,h,by omega,he⟩
  ·rintro x w2 ⟨k,d2,rfl,hk1,hk2,h,hs2,he2⟩
   rw [wi _ (by omega)]
   exact hX _ _ ⟨k,s,d2,qbq rfl (by omega),by omega,hk1,hk2,h,hs2,he2⟩ (by dsimp only; omega)
 ·have hs0:s=0:=by have:=of_decide_eq_false hc; omega
  subst hs0
  rw [<- he] at hk
  exact hk _ h
end
end
theorem qvq {s:ByteArray} {i:Int} {K:Int->Prop} (b:UInt8) (h0:0<=i) (h:s[i.toNat]?=some b) (k:K (b.toNat:Int)):idxS s i K:=by
 unfold idxS
 exact ⟨b,⟨h0,h⟩,k⟩
theorem qeU {n k:Nat} (h:2^k<=n):bitsLen n=bitsLen (n / 2^k)+k:=by
 have h1:bitsLen n<=bitsLen (n / 2^k)+k:=by
  rw [bitsLen_le_iff,Nat.pow_add]
  have:=lt_two_pow_bitsLen (n / 2^k)
  exact (Nat.div_lt_iff_lt_mul (Nat.two_pow_pos k)).1 this
 have h2:bitsLen (n / 2^k)+k<=bitsLen n:=by
  have hn:=lt_two_pow_bitsLen n
  have hk:k<=bitsLen n:=by
   rcases Nat.lt_or_ge (bitsLen n) k with hl | hl
   ·have:=Nat.pow_le_pow_right (show 0<2 by decide) (Nat.le_of_lt hl); omega
   ·exact hl
  have:bitsLen (n / 2^k)<=bitsLen n-k:=by
   rw [bitsLen_le_iff,Nat.div_lt_iff_lt_mul (Nat.two_pow_pos k),<- Nat.pow_add,Nat.sub_add_cancel hk]
   exact hn
  omega
 omega
theorem qsj {n k:Nat} (h:n<2^k):bitsLen n<=k:=(bitsLen_le_iff n k).2 h
theorem qly (n k:Nat):Int.fdiv (n:Int) ((k:Nat):Int)=((n / k:Nat):Int):=by
 rw [Int.fdiv_eq_ediv_of_nonneg _ (by omega)]
 rfl
theorem quv {n:Nat} {w:World} {K:Int->World->Prop} (hn:n<18446744073709551616) (hk:K (bitsLen n:Nat) w):call Tryz.prog 157 [.int .u64 n] [.one (.int .i64)] w K:=by
 apply qoM
 unfold qlf
 refine qaf (fun t w'=>∃ m c:Nat,t=((m:Int),(c:Int))/\w=w'/\m<4294967296/\c<=32/\bitsLen n=bitsLen m+c) ?_ ?_
 ·refine qaa (fun hc=>?_) (fun hc=>?_)
  ·have h:=of_decide_eq_true hc
   refine ⟨n / 2^32,32,qbq (qly n (2^32)) rfl,rfl,by omega,by omega,qeU (by omega)⟩
  ·have h:=of_decide_eq_false hc
   exact ⟨n,0,rfl,rfl,by omega,by omega,rfl⟩
 rintro t w' ⟨m,c,rfl,rfl,hm,hc1,he⟩
 dsimp only
 refine qaf (fun t w'=>∃ m c:Nat,t=((m:Int),(c:Int))/\w=w'/\m<65536/\c<=48/\bitsLen n=bitsLen m+c) ?_ ?_
 ·refine qaa (fun hc=>?_) (fun hc=>?_)
  ·have h:=of_decide_eq_true hc
   refine ⟨m / 2^16,c+16,qbq (qly m (2^16)) (by rw [wi _ (by omega)]; omega),rfl,by omega,by omega,by rw [he,qeU (n:=m) (k:=16) (by omega)]; omega⟩
  ·have h:=of_decide_eq_false hc
   exact ⟨m,c,rfl,rfl,by omega,by omega,he⟩
 rintro t w' ⟨m,c,rfl,rfl,hm,hc1,he⟩
 dsimp only
 refine qaf (fun t w'=>∃ m c:Nat,t=((m:Int),(c:Int))/\w=w'/\m<256/\c<=56/\bitsLen n=bitsLen m+c) ?_ ?_
 ·refine qaa (fun hc=>?_) (fun hc=>?_)
  ·have h:=of_decide_eq_true hc
   refine ⟨m / 2^8,c+8,qbq (qly m (2^8)) (by rw [wi _ (by omega)]; omega),rfl,by omega,by omega,by rw [he,qeU (n:=m) (k:=8) (by omega)]; omega⟩
  ·have h:=of_decide_eq_false hc
   exact ⟨m,c,rfl,rfl,by omega,by omega,he⟩
 rintro t w' ⟨m,c,rfl,rfl,hm,hc1,he⟩
 dsimp only
 have hb:=qsj (n:=m) (k:=8) (by omega)
 rw [IntWalk.u8_in (m:Int) (by omega)]
 refine qvq (UInt8.ofNat (bitsLen m)) (by omega) ?_ ?_
 ·rw [Int.toNat_natCast]
  clear he hb
  revert m
  decide +kernel
 ·have e:(UInt8.ofNat (bitsLen m)).toNat=bitsLen m:=by simp; omega
  rw [e,wi (bitsLen m:Nat) (by omega),wi _ (by omega)]
  rw [he] at hk
  rw [show (c:Int)+(bitsLen m:Nat)=((bitsLen m+c:Nat):Int) by omega]
  exact hk
theorem qpo {n:Nat} {w:World} {K:Int->World->Prop} (hn:n<18446744073709551616) (hk:K (bitsLen n:Nat) w):call Tryz.prog 125 [.int .u64 n] [.one (.int .i64)] w K:=by
 apply qqU
 unfold qn5
 exact quv hn hk
section
structure Arr2 (blk:Nat) (T:ArrT) (w0 w:World) (d:Array Int) (sb:Nat) (k:IntKind) (v:Int):Prop where
 arr:Arr blk T w0 w d
 cell:∃ T2,w.heap[sb]?=some (.cells #[.int k v] T2 (0,0))
 ne:sb≠blk
 new:w0.heap.size<=sb
section
variable {blk:Nat} {T:ArrT} {w0 w:World} {d:Array Int} {len cap sb:Nat} {k:IntKind} {v:Int}
theorem Arr2.drew (h:Arr2 blk T w0 w d sb k v):Arr2 blk T w0 w.drew d sb k v:=⟨h.arr.drew,h.cell,h.ne,h.new⟩
theorem Arr2.get (h:Arr2 blk T w0 w d sb k v) {K:Int->Prop} (hk:K v):ld (.int k) ⟨sb,0,none⟩ w K:=by
 obtain ⟨T2,hc⟩:=h.cell
 exact qae hc v rfl hk
theorem Arr2.put (h:Arr2 blk T w0 w d sb k v) (u:Int) {K:World->Prop} (hk:∀ w',Arr2 blk T w0 w' d sb k u->K w'):st ⟨sb,0,none⟩ [.int k u] w K:=by
 obtain ⟨T2,hc⟩:=h.cell
 unfold st
 refine qhm (w:=w) [.int k u] 0 0 _ w K hc rfl (by simp) (hk _ ⟨⟨?_,?_⟩,⟨T2,?_⟩,h.ne,h.new⟩)
 ·refine h.arr.fr.trans' (T:=[sb]) ⟨rfl,rfl,rfl,by rw [qbR]; exact Nat.le_refl _,fun j hj hS=>?_⟩ (fun i hi=>.inr ?_)
  ·rw [qaG _ _ _ _ (qac hc),if_neg (by simpa using hS)]
  ·have:=h.new
   simp at hi; omega
 ·rw [qaG _ _ _ _ (qac hc),if_neg (fun e=>h.ne e.symm)]
  exact h.arr.blk
 ·rw [qaG _ _ _ _ (qac hc),if_pos rfl]
  rfl
theorem Arr2.mk' (h:Arr blk T w0 w d) (T2:TypeId) (u:Int) {K:Nat->World->Prop} (hk:∀ b w',Arr2 blk T w0 w' d b k u->K b w'):Pt.new (.cells #[.int k u] T2 (0,0)) w K:=by
 unfold Pt.new
 refine hk _ _ ⟨⟨h.fr.alloc _,?_⟩,⟨T2,?_⟩,?_,h.fr.size⟩
 ·have:=qac h.blk
  rw [qbs,if_neg (by omega)]
  exact h.blk
 ·rw [qbs,if_pos rfl]
 ·have:=qac h.blk
  omega
theorem qjQ {a b:Nat} {K:Int×Int->World->Prop} (h:Arr2 blk T w0 w d sb .i64 v) (ha:a<len) (hb:b<len) (hl:len<=d.size/\len<=1152921504606846976)
  (hk:∀ (p q:Nat) u w',(p=a/\q=b\/p=b/\q=a)->Arr2 blk T w0 w' d sb .i64 u->K ((p:Int),(q:Int)) w') :
  call Tryz.prog 177 [.slice (some ⟨blk,0,none⟩) len cap,.int .i64 a,.int .i64 b,.pointer (some ⟨sb,0,none⟩)] [.one (.int .i64),.one (.int .i64)] w K:=by
 refine qgd (data:=⟨some ⟨blk,0,none⟩,len,cap⟩) ?_
 unfold qcZ
 refine h.arr.drew.rd b rfl hb hl ?_
 refine h.arr.drew.rd a rfl ha hl ?_
 refine qbb ?_
 refine qaa (fun hc=>?_) (fun hc=>?_)
 ·refine qab ?_
  refine h.drew.get ?_
  refine qab ?_
  exact h.drew.put _ fun w' h=>hk b a _ _ (.inr ⟨rfl,rfl⟩) h
 ·exact hk a b _ _ (.inl ⟨rfl,rfl⟩) h.drew
theorem qnG {a b c:Nat} {K:Int->World->Prop} (h:Arr2 blk T w0 w d sb .i64 v) (ha:a<len) (hb:b<len) (hc:c<len) (hl:len<=d.size/\len<=1152921504606846976)
  (hk:∀ (p:Nat) u w',(p=a\/p=b\/p=c)->Arr2 blk T w0 w' d sb .i64 u->K (p:Int) w') :
  call Tryz.prog 172 [.slice (some ⟨blk,0,none⟩) len cap,.int .i64 a,.int .i64 b,.int .i64 c,.pointer (some ⟨sb,0,none⟩)] [.one (.int .i64)] w K:=by
 refine qga (data:=⟨some ⟨blk,0,none⟩,len,cap⟩) ?_
 unfold qdb
 dsimp only
 refine qjQ h ha hb hl fun p q u w1 hp h=>?_
 dsimp only
 refine qjQ h (by omega) hc hl fun p' q' u w1 hp' h=>?_
 dsimp only
 refine qjQ h (by omega) (by omega) hl fun p'' q'' u w1 hp'' h=>?_
 exact hk _ _ _ (by omega) h
theorem qjx {a:Nat} {K:Int->World->Prop} (h:Arr2 blk T w0 w d sb .i64 v) (ha:1<=a) (hb:a+1<len) (hl:len<=d.size/\len<=1152921504606846976)
  (hk:∀ (p:Nat) u w',(a<=p+1/\p<=a+1)->Arr2 blk T w0 w' d sb .i64 u->K (p:Int) w') :
  call Tryz.prog 171 [.slice (some ⟨blk,0,none⟩) len cap,.int .i64 a,.pointer (some ⟨sb,0,none⟩)] [.one (.int .i64)] w K:=by
 refine qdc (data:=⟨some ⟨blk,0,none⟩,len,cap⟩) ?_
 unfold qbC
 dsimp only
 rw [wi ((a:Int)-1) (by omega),wi ((a:Int)+1) (by omega),show (a:Int)-1=((a-1:Nat):Int) by omega,show (a:Int)+1=((a+1:Nat):Int) by omega]
 exact qnG h (by omega) (by omega) (by omega) hl fun p u w' hp h=>hk p u w' (by omega) h
theorem quz {a b:Nat} {K:Int×Int->World->Prop} (h:Arr blk T w0 w d) (hab:a<b) (hb:b<=len) (hl:len<=d.size/\len<=1152921504606846976)
  (hk:∀ (p:Nat) (x:Int) w',a<=p/\p<b->Arr blk T w0 w' d->K ((p:Int),x) w') :
  call Tryz.prog 150 [.slice (some ⟨blk,0,none⟩) len cap,.int .i64 a,.int .i64 b] [.one (.int .i64),.one (.int .i64)] w K:=by
 refine qd7 (data:=⟨some ⟨blk,0,none⟩,len,cap⟩) ?_
 unfold qbU
 dsimp only
 have e0:IntKind.i64.wrap ((b:Int)-a)=((b-a:Nat):Int):=by rw [wi _ (by omega)]; omega
 have e4:Int.tdiv ((b-a:Nat):Int) 4=(((b-a) / 4:Nat):Int):=by rw [Int.tdiv_eq_ediv_of_nonneg (by omega)]; omega
 have e1:∀ m:Nat,m<=3->IntKind.i64.wrap ((a:Int)+IntKind.i64.wrap (IntKind.i64.wrap (((b-a) / 4:Nat):Int)*(m:Int)))=((a+(b-a) / 4*m:Nat):Int):=by
  intro m hm
  have hq:(b-a) / 4*m<=(b-a) / 4*3:=Nat.mul_le_mul_left _ hm
  have hz:(((b-a) / 4:Nat):Int)*(m:Int)=(((b-a) / 4*m:Nat):Int):=by push_cast; rfl
  rw [wi (((b-a) / 4:Nat):Int) (by omega),hz,wi (((b-a) / 4*m:Nat):Int) (by omega),wi _ (by omega)]
  omega
 have f1:=e1 1 (by omega)
 have f2:=e1 2 (by omega)
 have f3:=e1 3 (by omega)
 simp only [Int.cast_ofNat_Int] at f1 f2 f3
 rw [e0,e4,f1,f2,f3]
 refine Arr2.mk' h _ _ fun sb w1 h=>?_
 refine qaf (fun x w'=>∃ (p:Nat) (u:Int),x=p/\a<=p/\p<b/\Arr2 blk T w0 w' d sb .i64 u) ?_ ?_
 ·refine qaa (fun hc=>?_) (fun hc=>?_)
  ·have h8:b-a>=8:=by have:=of_decide_eq_true hc; omega
   refine qaf (fun x w'=>∃ (p q r:Nat) (u:Int),x=((p:Int),(q:Int),(r:Int))/\a<=p/\p<b/\a<=q/\q<b/\a<=r/\r<b/\Arr2 blk T w0 w' d sb .i64 u) ?_ ?_
   ·refine qaa (fun hc=>?_) (fun hc=>?_)
    ·have h50:b-a>=50:=by have:=of_decide_eq_true hc; omega
     refine qjx h (by omega) (by omega) hl fun p u w2 hp h=>?_
     refine qjx h (by omega) (by omega) hl fun q u w2 hq h=>?_
     refine qjx h (by omega) (by omega) hl fun r u w2 hr h=>?_
     exact ⟨p,q,r,u,rfl,by omega,by omega,by omega,by omega,by omega,by omega,h⟩
    ·exact ⟨_,_,_,_,rfl,by omega,by omega,by omega,by omega,by omega,by omega,h⟩
   ·rintro x w2 ⟨p,q,r,u,rfl,hp1,hp2,hq1,hq2,hr1,hr2,h⟩
    dsimp only
    refine qnG h (by omega) (by omega) (by omega) hl fun m u w3 hm h=>?_
    exact ⟨m,u,rfl,by omega,by omega,h⟩
  ·exact ⟨_,_,rfl,by omega,by omega,h⟩
 ·rintro x w2 ⟨p,u,rfl,hp1,hp2,h⟩
  refine h.get ?_
  refine qaa (fun hc=>?_) (fun hc=>?_)
  ·exact hk _ _ _ ⟨hp1,hp2⟩ h.arr
  ·refine qaa (fun hc=>?_) (fun hc=>?_)
   ·exact hk _ _ _ ⟨hp1,hp2⟩ h.arr
   ·exact hk _ _ _ ⟨hp1,hp2⟩ h.arr
end
end
section
section
variable {blk:Nat} {T:ArrT} {w0 w:World} {d:Array Int} {len cap sb:Nat} {k:IntKind} {v:Int}
theorem Arr.self (h:Arr blk T w0 w d):Arr blk T w w d:=⟨.refl _ _,h.blk⟩
theorem Arr2.step (h:Arr2 blk T w0 w d sb k v) {w':World} {d':Array Int} (g:Arr blk T w w' d'):Arr2 blk T w0 w' d' sb k v:=by
 obtain ⟨T2,hc⟩:=h.cell
 refine ⟨⟨h.arr.fr.trans g.fr,g.blk⟩,⟨T2,?_⟩,h.ne,h.new⟩
 rw [g.fr.block sb (qac hc) (by simpa using h.ne)]
 exact hc
theorem qvz {K:Int->World->Prop} (h:Arr2 blk T w0 w d sb .u64 v) (hk:∀ (x:Int) w',0<=x/\x<=18446744073709551615->Arr2 blk T w0 w' d sb .u64 x->K x w') :
  call Tryz.prog 170 [.pointer (some ⟨sb,0,none⟩)] [.one (.int .u64)] w K:=by
 refine qgj (r:=some ⟨sb,0,none⟩) ?_
 unfold qc0
 refine qab (h.drew.get (qab (h.drew.get (qab (h.drew.put _ fun w1 h=>?_)))))
 refine qab (h.drew.get (qab (h.drew.get (qab (h.drew.put _ fun w1 h=>?_)))))
 refine qab (h.drew.get (qab (h.drew.get (qab (h.drew.put _ fun w1 h=>?_)))))
 refine qab (h.get ?_)
 exact hk _ _ (bits_within .xor .u64 _ _) h
theorem qv8 {n:Nat} {w:World} {K:Int->World->Prop} (hn:1<=n/\n<=1152921504606846976) (hk:K ((2^bitsLen n:Nat):Int) w):call Tryz.prog 169 [.int .i64 n] [.one (.int .u64)] w K:=by
 apply qf2
 unfold qcM
 rw [IntWalk.u64_in (n:Int) (by omega)]
 refine qpo (by omega) ?_
 refine qal (by omega) ?_
 have h1:=two_pow_bitsLen_le (n:=n) (by omega)
 have h2:bitsLen n<=61:=(bitsLen_le_iff n 61).2 (by omega)
 rw [Int.toNat_natCast,Nat.min_eq_left (by omega)]
 have e:(1:Int)*2^bitsLen n=((2^bitsLen n:Nat):Int):=by rw [Int.one_mul]; push_cast; rfl
 have hnn:(0:Int)<=((2^bitsLen n:Nat):Int):=Int.natCast_nonneg _
 rw [e,IntWalk.u64_in _ (by omega)]
 exact hk
theorem quB {a b:Nat} {K:Unit->World->Prop} (h:Arr blk T w0 w d) (hab:a<=b) (hb:b<=len) (hl:len<=d.size/\len<=1152921504606846976)
  (hk:∀ d' w',PermIn a b d d'->Arr blk T w0 w' d'->K () w') :
  call Tryz.prog 149 [.slice (some ⟨blk,0,none⟩) len cap,.int .i64 a,.int .i64 b] [] w K:=by
 refine qdj (data:=⟨some ⟨blk,0,none⟩,len,cap⟩) ?_
 unfold qbK
 have e0:IntKind.i64.wrap ((b:Int)-a)=((b-a:Nat):Int):=by rw [wi _ (by omega)]; omega
 rw [e0]
 refine qaa (fun hc=>?_) (fun hc=>?_)
 ·have h8:b-a>=8:=by have:=of_decide_eq_true hc; omega
  have e4:Int.tdiv ((b-a:Nat):Int) 4=(((b-a) / 4:Nat):Int):=by rw [Int.tdiv_eq_ediv_of_nonneg (by omega)]; omega
  have e1:IntKind.i64.wrap ((a:Int)+IntKind.i64.wrap (IntKind.i64.wrap (((b-a) / 4:Nat):Int)*2))=((a+(b-a) / 4*2:Nat):Int):=by
   rw [wi (((b-a) / 4:Nat):Int) (by omega),wi ((((b-a) / 4:Nat):Int)*2) (by omega),wi _ (by omega)]
   omega
  rw [e4,e1,IntWalk.u64_in ((b-a:Nat):Int) (by omega)]
  refine Arr2.mk' h _ _ fun sb w1 h=>?_
  refine h.put _ fun w2 h=>?_
  refine qv8 (by omega) ?_
  have hp1:=two_pow_bitsLen_le (n:=b-a) (by omega)
  have hp2:=Nat.two_pow_pos (bitsLen (b-a))
  rw [wi (_-1) (by omega),wi (_+1) (by omega)]
  refine qag (fun x w'=>∃ (i:Nat) (d':Array Int) (u:Int),x=i/\a<=i/\i<=a+(b-a) / 4*2+2/\PermIn a b d d'/\Arr2 blk T w0 w' d' sb .u64 u) (fun x _=>(((a+(b-a) / 4*2+2:Nat):Int)-x).toNat)
   ⟨a+(b-a) / 4*2-1,d,_,by omega,by omega,by omega,permIn_refl _ _ _,h⟩ ?_
  rintro x w3 ⟨i,d1,u,rfl,hi1,hi2,hp,h⟩ X hX
  have hs1:=hp.1
  refine qaa (fun hc=>?_) (fun hc=>?_)
  ·have hi3:i<=a+(b-a) / 4*2+1:=by have:=of_decide_eq_true hc; omega
   refine qvz h fun y w4 hy h=>?_
   obtain ⟨z,rfl⟩:∃ z:Nat,y=z:=⟨y.toNat,by omega⟩
   have ez:bits .and .u64 (z:Int) (IntKind.u64.wrap (((2^bitsLen (b-a):Nat):Int)-1))=((z%2^bitsLen (b-a):Nat):Int):=by
    rw [IntWalk.u64_in _ (by omega),show ((2^bitsLen (b-a):Nat):Int)-1=((2^bitsLen (b-a)-1:Nat):Int) by omega,bits_and_u64_nat z _ (by omega) (by omega),Nat.and_two_pow_sub_one_eq_mod]
   rw [ez]
   have hz:=Nat.mod_lt z hp2
   rw [wi ((z%2^bitsLen (b-a):Nat):Int) (by omega)]
   refine qaf (fun x w'=>∃ o:Nat,x=o/\o<b-a/\Arr2 blk T w0 w' d1 sb .u64 z) ?_ ?_
   ·refine qaa (fun hc=>?_) (fun hc=>?_)
    ·have:=of_decide_eq_true hc
     exact ⟨z%2^bitsLen (b-a)-(b-a),by rw [wi _ (by omega)]; omega,by omega,h⟩
    ·have:=of_decide_eq_false hc
     exact ⟨z%2^bitsLen (b-a),rfl,by omega,h⟩
   ·rintro x w5 ⟨o,rfl,ho,h⟩
    refine h.drew.arr.self.swap i (a+o) rfl (by rw [wi _ (by omega)]; omega) (by omega) (by omega) (by omega) fun w6 h6=>?_
    rw [wi _ (by omega)]
    exact hX _ _ ⟨i+1,_,_,by omega,by omega,by omega,permIn_trans _ _ _ _ _ hp (swp_permIn _ _ _ _ _ (by omega) (by omega) (by omega) (by omega) (by omega)),h.drew.step h6⟩ (by omega)
  ·exact hk d1 _ hp h.arr
 ·exact hk d _ (permIn_refl _ _ _) h
end
end
section
section
variable {blk:Nat} {T:ArrT} {len cap:Nat}
theorem qwb:∀ (n:Nat) {w0 w:World} {d:Array Int} {a b:Nat} {limit:Int} {K:Unit->World->Prop},b-a<=n->Arr blk T w0 w d->a<=b->b<=len->(len<=d.size/\len<=1152921504606846976)->Sort.Below ltInt a b d->
  (∀ d' w',PermIn a b d d'->SortedIn ltInt a b d'->Arr blk T w0 w' d'->K () w')->
  call Tryz.prog 124 [.slice (some ⟨blk,0,none⟩) len cap,.int .i64 a,.int .i64 b,.int .i64 limit] [] w K:=by
 intro n
 induction n using Nat.strongRecOn with
 | _ n ih=>
 intro w0 w d a0 b0 limit0 K hn h hab hb hl hB hk
 refine qcq (data:=⟨some ⟨blk,0,none⟩,len,cap⟩) ?_
 unfold qbA
 dsimp only
 refine qag (fun x w'=>∃ (a b:Nat) (l:Int) (wb wp:Bool) (d':Array Int),x=((a:Int),(b:Int),l,wb,wp)/\b-a<=n/\a<=b/\b<=len/\d'.size=d.size/\Sort.Below ltInt a b d'/\Arr blk T w0 w' d'/\
   ∀ R,PermIn a b d' R->SortedIn ltInt a b R->PermIn a0 b0 d R/\SortedIn ltInt a0 b0 R) (fun x _=>(x.2.1-x.1).toNat)
  ⟨a0,b0,limit0,true,true,d,rfl,hn,hab,hb,rfl,hB,h,fun R h1 h2=>⟨h1,h2⟩⟩ ?_
 rintro x w1 ⟨a,b,l,wb,wp,d1,rfl,hn1,hab,hb,hs1,hB,h,hR⟩ X hX
 dsimp only
 have e0:IntKind.i64.wrap ((b:Int)-a)=((b-a:Nat):Int):=by rw [wi _ (by omega)]; omega
 rw [e0]
 refine qaa (fun hc=>?_) (fun hc=>?_)
 ·refine qv9 h hab hb (by omega) fun w2 h=>?_
  obtain ⟨h1,h2⟩:=insertionSort_holds swo d1 a b hab (by omega)
  obtain ⟨h3,h4⟩:=hR _ h1 h2
  exact hk _ _ h3 h4 h
 have h12:12<b-a:=by have:=of_decide_eq_false hc; omega
 refine qaa (fun hc=>?_) (fun hc=>?_)
 ·refine quZ h hab hb (by omega) fun w2 h=>?_
  obtain ⟨h1,h2⟩:=heapSort_holds swo d1 a b hab (by omega)
  obtain ⟨h3,h4⟩:=hR _ h1 h2
  exact hk _ _ h3 h4 h
 refine qaf (fun _ w'=>∃ d2,PermIn a b d1 d2/\Arr blk T w0 w' d2) ?_ ?_
 ·refine qaa (fun hc=>?_) (fun hc=>?_)
  ·exact quB h hab hb (by omega) fun d2 w2 hp h=>⟨d2,hp,h⟩
  ·exact ⟨d1,permIn_refl _ _ _,h⟩
 rintro lim w2 ⟨d2,hp2,h⟩
 have hs2:=hp2.1
 refine quz h (by omega) hb (by omega) fun p hint w3 hpp h=>?_
 dsimp only
 refine qaf (fun x w'=>∃ (p:Nat) (hint:Int) (d3:Array Int),x=((p:Int),hint)/\a<=p/\p<b/\PermIn a b d1 d3/\Arr blk T w0 w' d3) ?_ ?_
 ·refine qaa (fun hc=>?_) (fun hc=>?_)
  ·refine qvR h (by omega) hb (by omega) fun w4 h=>?_
   refine ⟨(b-1)-(p-a),1,_,qbq ?_ rfl,by omega,by omega,permIn_trans _ _ _ _ _ hp2 (reverseRange_holds _ _ _ hab (by omega)),h⟩
   rw [wi ((b:Int)-1) (by omega),wi ((p:Int)-a) (by omega),wi _ (by omega)]
   omega
  ·exact ⟨p,hint,d2,rfl,hpp.1,hpp.2,hp2,h⟩
 rintro x w4 ⟨p,hint,d3,rfl,hp1,hp2,hp3,h⟩
 have hs3:=hp3.1
 dsimp only
 refine qaf (fun _ w'=>∃ d4,PermIn a b d1 d4/\Arr blk T w0 w' d4) ?_ ?_
 ·refine qaf (fun _ w'=>Arr blk T w0 w' d3) ?_ ?_
  ·refine qaa (fun hc=>?_) (fun hc=>?_)
   ·refine qaa (fun hc=>?_) (fun hc=>?_)
    ·exact h
    ·exact h
   ·exact h
  ·rintro c w5 h
   refine qaa (fun hc=>?_) (fun hc=>?_)
   ·refine quF h (by omega) hb (by omega) fun w6 h=>?_
    obtain ⟨h1,h2⟩:=partialInsertionSort_holds swo d3 a b (by omega) (by omega) (hB.perm (by omega) hp3)
    refine qaa (fun hc=>?_) (fun hc=>?_)
    ·obtain ⟨h3,h4⟩:=hR _ (permIn_trans _ _ _ _ _ hp3 h1) (h2 hc)
     exact hk _ _ h3 h4 h
    ·exact ⟨_,permIn_trans _ _ _ _ _ hp3 h1,h⟩
   ·exact ⟨d3,hp3,h⟩
 rintro _ w5 ⟨d4,hp4,h⟩
 have hs4:=hp4.1
 have hB4:=hB.perm (by omega) hp4
 refine qaf (fun c w'=>c=(decide (0<a)&&!ltInt d4[a-1]! d4[p]!)/\Arr blk T w0 w' d4) ?_ ?_
 ·refine qaa (fun hc=>?_) (fun hc=>?_)
  ·have ha:0<a:=by have:=of_decide_eq_true hc; omega
   refine h.drew.rd (a-1) (by rw [wi _ (by omega)]; omega) (by omega) (by omega) ?_
   refine h.drew.rd p rfl (by omega) (by omega) ?_
   refine qbb ?_
   exact ⟨by simp [ha],h.drew⟩
  ·have ha:¬ 0<a:=by have:=of_decide_eq_false hc; omega
   exact ⟨by simp [ha],h.drew⟩
 rintro c w6 ⟨rfl,h⟩
 refine qaa (fun hc=>?_) (fun hc=>?_)
 ·simp only [Bool.and_eq_true,decide_eq_true_eq,Bool.not_eq_true'] at hc
  have hr:=round_eq swo (partitionEqual_holds ltInt) hc.1 hp1 hp2 (by omega) hB4 hc.2 (mid:=(Sort.partitionEqual ltInt d4 a b p).1) (d4:=(Sort.partitionEqual ltInt d4 a b p).2) rfl
  refine qs4 h hp1 hp2 hb (by omega) fun w7 h=>?_
  obtain ⟨h1,h2,h3,h4,h5⟩:=hr
  refine hX _ _ ⟨_,b,lim,wb,wp,_,rfl,by omega,h2,hb,by omega,h4,h,fun R r1 r2=>?_⟩ (by dsimp only; omega)
  obtain ⟨q1,q2⟩:=h5 R r1 r2
  exact hR R (permIn_trans _ _ _ _ _ hp4 q1) q2
 ·have hr:=round_part swo (partition_holds ltInt) hp1 hp2 (by omega) hB4 (mid:=(Sort.partition ltInt d4 a b p).1) (ap:=(Sort.partition ltInt d4 a b p).2.1) (d4:=(Sort.partition ltInt d4 a b p).2.2) rfl
  refine qve h hp1 hp2 hb (by omega) fun w7 h=>?_
  obtain ⟨h1,h2,h3,h4,h5,h6,h7⟩:=hr
  dsimp only
  generalize (Sort.partition ltInt d4 a b p).1=mid at *
  generalize (Sort.partition ltInt d4 a b p).2.2=d5 at *
  rw [wi ((mid:Int)-a) (by omega),wi ((b:Int)-mid) (by omega),wi ((mid:Int)+1) (by omega),show (mid:Int)+1=((mid+1:Nat):Int) by omega]
  refine qaa (fun hc=>?_) (fun hc=>?_)
  ·have hlt:mid-a<b-mid:=by have:=of_decide_eq_true hc; omega
   refine ih (mid-a) (by omega) (Nat.le_refl _) h h1 (by omega) (by omega) h4 fun d6 w8 r1 r2 h=>?_
   obtain ⟨q1,q2⟩:=h6 d6 r1 r2
   refine hX _ _ ⟨mid+1,b,lim,_,_,d6,rfl,by omega,by omega,hb,by have:=r1.1; omega,q1,h,fun R s1 s2=>?_⟩ (by dsimp only; omega)
   obtain ⟨t1,t2⟩:=q2 R s1 s2
   exact hR R (permIn_trans _ _ _ _ _ hp4 t1) t2
  ·refine ih (b-(mid+1)) (by omega) (Nat.le_refl _) h (by omega) hb (by omega) h5 fun d6 w8 r1 r2 h=>?_
   obtain ⟨q1,q2⟩:=h7 d6 r1 r2
   refine hX _ _ ⟨a,mid,lim,_,_,d6,rfl,by omega,by omega,by omega,by have:=r1.1; omega,q1,h,fun R s1 s2=>?_⟩ (by dsimp only; omega)
   obtain ⟨t1,t2⟩:=q2 R s1 s2
   exact hR R (permIn_trans _ _ _ _ _ hp4 t1) t2
theorem qrg {w0 w:World} {d:Array Int} {K:Unit->World->Prop} (h:Arr blk T w0 w d) (hl:len<=d.size/\len<=1152921504606846976)
  (hk:∀ d' w',PermIn 0 len d d'->SortedIn ltInt 0 len d'->Arr blk T w0 w' d'->K () w') :
  call Tryz.prog 91 [.slice (some ⟨blk,0,none⟩) len cap] [] w K:=by
 refine qho (x:=⟨some ⟨blk,0,none⟩,len,cap⟩) ?_
 unfold qf8
 dsimp only
 rw [IntWalk.u64_in (len:Int) (by omega)]
 refine qpo (by omega) ?_
 exact qwb len (a:=0) (by omega) h (by omega) (Nat.le_refl _) hl (.inl rfl) hk
theorem qqk {w:World} {K:Unit->World->Prop} (hk:K () w):call Tryz.prog 91 [.slice none 0 0] [] w K:=by
 refine qho (x:=⟨none,0,0⟩) ?_
 unfold qf8
 dsimp only
 rw [IntWalk.u64_in ((0:Nat):Int) (by omega)]
 refine qpo (n:=0) (by omega) ?_
 refine qcq (data:=⟨none,0,0⟩) ?_
 unfold qbA
 refine qeB fun X hX=>?_
 refine cond_true (by decide +kernel) ?_
 refine qbr (data:=⟨none,0,0⟩) ?_
 unfold qa7
 refine qeB fun X hX=>?_
 exact cond_false (by decide +kernel) hk
end
end
theorem qt5 {w:World} {rb n cap:Nat} {d:Array Int} {T:TypeId} {K:Sl->World->Prop} (hrb:w.heap[rb]?=some (.cells (u32s d) T (0,0))) (hnd:n<=d.size) (hn:n<=1000000)
  (hk:∀ b d' cap' T' w',w'.heap[b]?=some (.cells (u32s d') T' (0,0))->n<=d'.size->n<=cap'/\cap'<=d'.size->d'.toList.take n=d.toList.take n->w.heap.size<=b->Fr [] w w'->K ⟨some ⟨b,0,none⟩,n,cap'⟩ w') :
  call Tryz.prog 82 [.slice (some ⟨rb,0,none⟩) n cap] [.one .slice] w K:=by
 obtain ⟨i31,hi,hz,hsz,hby⟩:=qjZ
 refine qdu (s:=⟨some ⟨rb,0,none⟩,n,cap⟩) ?_
 unfold qcP
 refine cond_false rfl ?_
 have ho:=Own.start [] w
 refine Own.new ho fun tb w1 et st1 ho=>?_
 have hr1:w1.heap[rb]?=some (.cells (u32s d) T (0,0)):=by rw [ho.fr.block rb (qac hrb) (by simp)]; exact hrb
 have hnews:∀ (j:Nat) u,((d.toList.take n).map (Value.int .u32))[j]?=some u->w1.cell? ((⟨rb,0,none⟩:Addr).add j)=some u:=fun j u hj=>by
  rw [Addr.add_mk,qaj hr1,Nat.zero_add]
  rw [List.getElem?_map,List.getElem?_take] at hj
  by_cases hjn:j<n
  ·rw [if_pos hjn] at hj
   unfold u32s
   rw [Array.getElem?_map]
   simpa using hj
  ·rw [if_neg hjn] at hj; cases hj
 have hlen:((d.toList.take n).map (Value.int .u32)).length=n:=by simp; omega
 dsimp only
 by_cases h0:n=0
 ·subst h0
  refine qq4 (P:=Tryz.prog) (e:=29) (by kernel_rfl) hi [] (ho.at (i:=0) rfl) (by simp) (fun j u hj=>by simp at hj) (by simp) (by omega) (by simp) ?_
  have ho2:=ho.upd (o':=.cells (splice #[] (0+0*i31.size) []) 29 (0,0)) 0 rfl
  have:=ho2.at (i:=0) rfl
  have e:u32s #[] = #[]:=by simp [u32s]
  exact hk tb #[] 0 29 _ (by rw [e]; exact this) (by simp) ⟨Nat.le_refl _,Nat.le_refl _⟩ (by simp) (by omega) ho2.fr
 ·refine qpA (P:=Tryz.prog) (e:=29) (by kernel_rfl) hi hz [] ((d.toList.take n).map (Value.int .u32)) (by simp) (fun j u hj=>by simp at hj) (by rw [hlen,hsz]; omega) hnews (by omega) (by rw [hby]; omega) (by omega) fun q hq1 hq2=>?_
  rw [ql3 _ _ rfl]
  have hcs:([]:List Value).toArray++((d.toList.take n).map (Value.int .u32)).toArray++Array.replicate (q-(0+n)) (.int .u32 0)=u32s ((d.toList.take n++List.replicate (q-(0+n)) (0:Int)).toArray):=by
   rw [qjz]
   apply Array.ext'
   simp
  rw [hcs]
  have ho:=ho.drew.alloc (.cells (u32s ((d.toList.take n++List.replicate (q-(0+n)) (0:Int)).toArray)) 29 (0,0))
  have hl:(d.toList.take n).length=n:=by simp; omega
  rw [Nat.zero_add]
  refine hk _ _ q _ _ (by have:=ho.at (i:=0) rfl; rw [Nat.zero_add] at this; exact this) (by simp; omega) ⟨by omega,by simp; omega⟩ ?_ (by show w.heap.size<=w1.heap.size; omega) (by rw [Nat.zero_add] at ho; exact ho.fr)
  show ((d.toList.take n++List.replicate (q-n) (0:Int))).take n=_
  rw [List.take_append_of_le_length (by omega),List.take_take,Nat.min_self]
theorem qbF:∀ {l1 l2:List Int},l1.Perm l2->l1.Pairwise (·<=·)->l2.Pairwise (·<=·)->l1=l2
 | [],l2,h,_,_=>h.nil_eq
 | a::l1,[],h,_,_=>absurd h.symm.nil_eq (by simp)
 | a::l1,b::l2,h,h1,h2=>by
  have h1':=List.pairwise_cons.1 h1
  have h2':=List.pairwise_cons.1 h2
  have hab:a=b:=by
   have m1:a∈b::l2:=h.mem_iff.1 (by simp)
   have m2:b∈a::l1:=h.mem_iff.2 (by simp)
   rcases List.mem_cons.1 m1 with e | e
   ·exact e
   ·rcases List.mem_cons.1 m2 with e' | e'
    ·exact e'.symm
    ·have:=h2'.1 a e
     have:=h1'.1 b e'
     omega
  subst hab
  rw [qbF h.cons_inv h1'.2 h2'.2]
def Told (w w':World) (s:Sl) (l:List Int):Prop:=
 (l=[]/\s=⟨none,0,0⟩)\/∃ b d T cap,s=⟨some ⟨b,0,none⟩,l.length,cap⟩/\w'.heap[b]?=some (.cells (u32s d) T (0,0))/\l.length<=d.size/\l.length<=cap/\d.toList.take l.length=l/\w.heap.size<=b/\cap<=d.size
theorem qko {w:World} {pb:Nat} {F:List Nat} {l:List Int} {K:Sl->World->Prop} (h:PoolAt w pb F l) (hl:l.length<=1000000)
  (hk:∀ s w',Told w w' s l->Fr [] w w'->K s w'):call Tryz.prog 40 [.pointer (some ⟨pb,0,none⟩)] [.one .slice] w K:=by
 refine qkv (p:=some ⟨pb,0,none⟩) ?_
 unfold qgx
 have hsort:=h.sorted
 obtain ⟨mb,R,d,f,rfl,hr,hm,hp,hh,hf,h1⟩:=h.ex
 rcases hr with ⟨h0,hd,hR,hb⟩ | ⟨rb,T,hR,hb,hrb,hne,hnd⟩
 ·have hl0:l=[]:=List.eq_nil_of_length_eq_zero h0
  subst hl0
  refine qab ?_
  refine qae (c:=.slice) hb ⟨none,0,0⟩ rfl ?_
  refine qdu (s:=⟨none,0,0⟩) ?_
  unfold qcP
  refine cond_true rfl ?_
  refine qqk ?_
  exact hk _ _ (.inl ⟨rfl,rfl⟩) (.refl _ _)
 ·refine qab ?_
  refine qae (c:=.slice) hb ⟨some ⟨rb,0,none⟩,l.length,d.size⟩ rfl ?_
  dsimp only
  refine qt5 hrb hnd hl fun b d' cap' T' w' c1 c2 c2' c3 c4 c5=>?_
  dsimp only
  refine qrg (.start c1) ⟨c2,by omega⟩ fun d2 w2 s1 s2 s3=>?_
  have hsz:=s1.1
  refine hk _ _ (.inr ⟨b,d2,T',cap',rfl,s3.blk,by omega,c2'.1,?_,c4,by omega⟩) (c5.trans' s3.fr fun i hi=>by simp at hi; subst hi; exact .inr c4)
  refine qbF ((qcI s1).trans (by rw [c3]; exact hp)) ?_ (hsort.imp Int.le_of_lt)
  rw [List.pairwise_iff_getElem]
  intro i j hi hj hij
  have hi':i<l.length:=by simp at hi; omega
  have hj':j<l.length:=by simp at hj; omega
  have g1:=qcT (d:=d2) rfl hi' (by omega)
  have g2:=qcT (d:=d2) rfl hj' (by omega)
  rw [List.getElem?_eq_getElem hi] at g1
  rw [List.getElem?_eq_getElem hj] at g2
  rw [Option.some.inj g1,Option.some.inj g2]
  have:=s2 i j (by omega) hij hj'
  simp [ltInt] at this
  exact this
abbrev encU:Int->List Value:=fun n=>[Value.int .u32 n]
abbrev Rd (S:List Nat) (w:World) (s:Sl) (l:List Int):Prop:=Rds encU 1 S w s l
abbrev BufU (w:World) (s:Sl) (l:List Int) (B:List Nat):Prop:=Buf encU 1 w s l B
theorem qau:∀ x,(encU x).length=1:=fun _=>rfl
theorem Rd.at {S:List Nat} {w:World} {s:Sl} {l:List Int} (h:Rd S w s l) (n:Nat) {i x:Int} {K:Int->Prop} (hi:i=n) (hx:l[n]?=some x) (k:K x):idx s i 1 fun a=>ld (.int .u32) a w K:=
 Rds.get (c:=.int .u32) (y:=x) h n hi hx rfl k
theorem qig {w:World} {s:Sl} {l:List Int} {B:List Nat} {x:Int} {T:TypeId} {K:Sl->World->Prop} (h:BufU w s l B) (hl:l.length<=1000000)
  (kk:∀ s' B' w',BufU w' s' (l++[x]) B'->Fr B w w'->(∀ b∈B',b∈B\/w.heap.size<=b)->K s' w') :
  Pt.new (.cells #[.int .u32 x] T) w fun r w1=>Pt.run [Ty1.one Cell.slice] ((Builtin.append_ #[27,27] 27 #[.slice s.a s.len s.cap,.slice (some ⟨r,0,none⟩) 1 1]).run Tryz.prog w1) K:=by
 obtain ⟨i,hi,hz,hsz,hby⟩:=qjZ
 exact Buf.push (e:=29) h qau (by simp [Value.oneCell']) (by kernel_rfl) hi hz hsz rfl rfl (by rw [hby]; omega) (by omega) kk
theorem qfA {S:List Nat} {w:World} {s:Sl} {l:List Int} {n:Int} {K:Bool->World->Prop} (h:Rd S w s l) (hl:l.length<=1000000) (hk:K (decide (n∈l)) w) :
  call Tryz.prog 14 [.slice s.a s.len s.cap,.int .u32 n] [.one .bool] w K:=by
 refine qio (l:=s) ?_
 unfold qeA
 have hlen:=h.1
 refine qag (fun x w'=>w'=w/\∃ i:Nat,x=i/\i<=l.length/\∀ j y,j<i->l[j]?=some y->y≠n) (fun x _=>((l.length:Int)-x).toNat) ⟨rfl,0,rfl,by omega,fun j y hj=>by omega⟩ ?_
 rintro x w' ⟨rfl,i,rfl,hi,hno⟩ X hX
 refine qaa (fun hc=>?_) (fun hc=>?_)
 ·have hil:i<l.length:=by have:=of_decide_eq_true hc; omega
  refine Rd.at h i rfl (List.getElem?_eq_getElem hil) ?_
  refine qaa (fun he=>?_) (fun he=>?_)
  ·have he':l[i]=n:=beq_iff_eq.1 he
   rw [show decide (n∈l)=true by rw [decide_eq_true_iff]; rw [<- he']; exact List.getElem_mem hil] at hk
   exact hk
  ·have he':l[i]≠n:=fun e=>by rw [e] at he; simp at he
   rw [wi _ (by omega)]
   refine hX _ _ ⟨rfl,i+1,by omega,by omega,fun j y hj hy=>?_⟩ (by omega)
   by_cases hji:j=i
   ·subst hji
    rw [List.getElem?_eq_getElem hil] at hy
    rw [<- Option.some.inj hy]; exact he'
   ·exact hno j y (by omega) hy
 ·have hil:i=l.length:=by have:=of_decide_eq_false hc; omega
  rw [show decide (n∈l)=false by
   rw [decide_eq_false_iff_not]
   intro hm
   obtain ⟨j,hj,he⟩:=List.getElem_of_mem hm
   exact hno j n (by omega) (by rw [List.getElem?_eq_getElem hj,he]) rfl] at hk
  exact hk
theorem qcR {S S':List Nat} {w:World} {s t:Sl} {l:List Int} {K:Bool->World->Prop} (h:Rd S w s l) (g:Rd S' w t l) (hl:l.length<=1000000) (hk:∀ w',Same w w'->K true w') :
  call Tryz.prog 31 [.slice s.a s.len s.cap,.slice t.a t.len t.cap] [.one .bool] w K:=by
 refine qht (a:=s) (b:=t) ?_
 unfold qdN
 have hlen:=h.1
 refine cond_false (by rw [h.1,g.1]; simp) ?_
 refine qag (fun x w'=>Same w w'/\∃ i:Nat,x=i/\i<=l.length) (fun x _=>((l.length:Int)-x).toNat) ⟨.refl _,0,rfl,by omega⟩ ?_
 rintro x w' ⟨hs,i,rfl,hi⟩ X hX
 have h':Rd S w' s l:=h.same hs
 have g':Rd S' w' t l:=g.same hs
 refine qaa (fun hc=>?_) (fun hc=>?_)
 ·have hil:i<l.length:=by have:=of_decide_eq_true hc; omega
  refine Rd.at h'.drew i rfl (List.getElem?_eq_getElem hil) ?_
  refine Rd.at g'.drew i rfl (List.getElem?_eq_getElem hil) ?_
  refine cond_false (by simp) ?_
  rw [wi _ (by omega)]
  exact hX _ _ ⟨hs.drew,i+1,by omega,by omega⟩ (by omega)
 ·exact hk _ hs
def putAcc (n:Int) (acc:List Int×Bool) (x:Int):List Int×Bool:=
 let a1:=if !acc.2&&decide (x>=n) then (acc.1++[n],true) else acc
 (if x≠n then a1.1++[x] else a1.1,a1.2)
def putFin (n:Int) (r:List Int×Bool):List Int:=if !r.2 then r.1++[n] else r.1
def putR (l:List Int) (n:Int):List Int:=putFin n (l.foldl (putAcc n) ([],false))
theorem qsp (n:Int) (acc:List Int×Bool) (x:Int):(putAcc n acc x).1.length<=acc.1.length+2:=by
 unfold putAcc
 dsimp only
 split <;> split <;> simp
theorem qlj (n:Int):∀ (l:List Int) (acc:List Int×Bool),(l.foldl (putAcc n) acc).1.length<=acc.1.length+2*l.length
 | [],acc=>by simp
 | x::l,acc=>by
  have h1:=qsp n acc x
  have h2:=qlj n l (putAcc n acc x)
  simp only [List.foldl_cons,List.length_cons]
  omega
theorem qfK (n:Int):∀ (l:List Int) (a:List Int),(∀ x∈l,n<x)->l.foldl (putAcc n) (a,true)=(a++l,true)
 | [],a,_=>by simp
 | x::l,a,h=>by
  have hx:=h x (by simp)
  have e:putAcc n (a,true) x=(a++[x],true):=by simp [putAcc,show x≠n by omega]
  rw [List.foldl_cons,e,qfK n l _ (fun y hy=>h y (by simp [hy]))]
  simp
theorem qk5 (n:Int):∀ (l:List Int) (a:List Int),l.Pairwise (· < ·)->putFin n (l.foldl (putAcc n) (a,false))=a++ins n l
 | [],a,_=>by simp [ins,putFin]
 | x::l,a,h=>by
  have h':=List.pairwise_cons.1 h
  simp only [List.foldl_cons,ins]
  by_cases h1:n<x
  ·have e:putAcc n (a,false) x=(a++[n]++[x],true):=by simp [putAcc,show x>=n by omega,show x≠n by omega]
   rw [e,qfK n l _ (fun y hy=>by have:=h'.1 y hy; omega),if_pos h1]
   simp [putFin]
  ·by_cases h2:n=x
   ·have e:putAcc n (a,false) x=(a++[n],true):=by simp [putAcc,show x>=n by omega,h2]
    rw [e,qfK n l _ (fun y hy=>by have:=h'.1 y hy; omega),if_neg h1,if_pos h2,h2]
    simp [putFin]
   ·have e:putAcc n (a,false) x=(a++[x],false):=by simp [putAcc,show ¬ n<=x by omega,show x≠n by omega]
    rw [e,if_neg h1,if_neg h2]
    have:=qk5 n l (a++[x]) h'.2
    simpa using this
theorem qir {l:List Int} {n:Int} (h:l.Pairwise (· < ·)):putR l n=ins n l:=by
 have:=qk5 n l [] h
 simpa [putR] using this
theorem qkh {S:List Nat} {w:World} {s:Sl} {l:List Int} {n:Int} {K:Sl->World->Prop} (h:Rd S w s l) (hl:l.length<=100000)
  (hk:∀ s' B w',BufU w' s' (putR l n) B->Fr [] w w'->(∀ b∈B,w.heap.size<=b)->K s' w') :
  call Tryz.prog 15 [.slice s.a s.len s.cap,.int .u32 n] [.one .slice] w K:=by
 refine qhR (l:=s) ?_
 unfold qeL
 have hlen:=h.1
 refine Own.new (Own.start [] w) fun b0 w1 e0 s0 ho=>?_
 have hB0:BufU w1 ⟨some ⟨b0,0,none⟩,0,0⟩ [] [b0]:=Buf.fresh qau (ho.at (i:=0) rfl) rfl (Nat.le_refl _) (by simp) (by simp)
 have key:∀ {w2:World},Fr [] w w2->∀ {s2:Sl} {l2:List Int} {B2:List Nat},BufU w2 s2 l2 B2->(∀ b∈B2,w.heap.size<=b)->l2.length<=300000->∀ {x:Int} {T:TypeId} {K:Sl->World->Prop},
   (∀ s' B' w',BufU w' s' (l2++[x]) B'->Fr [] w w'->(∀ b∈B',w.heap.size<=b)->K s' w')->
   Pt.new (.cells #[.int .u32 x] T) w2 fun r w1=>Pt.run [Ty1.one Cell.slice] ((Builtin.append_ #[27,27] 27 #[.slice s2.a s2.len s2.cap,.slice (some ⟨r,0,none⟩) 1 1]).run Tryz.prog w1) K:=by
  intro w2 f2 s2 l2 B2 hb hB hl2 x T K kk
  refine qig hb (by omega) fun s' B' w' g1 g2 g3=>kk s' B' w' g1 (f2.trans' g2 fun i hi=>.inr (hB i hi)) (fun b hb=>?_)
  rcases g3 b hb with h | h
  ·exact hB b h
  ·have:=f2.size; omega
 refine qag (fun x w'=>∃ (i:Nat) (B:List Nat),x.2.2=i/\i<=l.length/\BufU w' x.1 ((l.take i).foldl (putAcc n) ([],false)).1 B/\x.2.1=((l.take i).foldl (putAcc n) ([],false)).2/\Fr [] w w'/\∀ b∈B,w.heap.size<=b) (fun x _=>((l.length:Int)-x.2.2).toNat)
  ⟨0,[b0],rfl,by omega,by simpa using hB0,rfl,ho.fr,fun b hb=>by simp at hb; omega⟩ ?_
 rintro ⟨sa,da,ia⟩ w2 ⟨i,B,hi0,hi,hb,hd,hf,hB⟩ X hX
 simp only at hi0 hb hd
 subst hi0
 have hh:Rd S w2 s l:=h.frame0 hf
 dsimp only
 generalize hacc:(l.take i).foldl (putAcc n) ([],false)=acc at hb hd
 have hacclen:acc.1.length<=2*i:=by
  have:=qlj n (l.take i) ([],false)
  rw [hacc,List.length_take] at this
  simp at this
  omega
 refine qaa (fun hc=>?_) (fun hc=>?_)
 ·have hil:i<l.length:=by have:=of_decide_eq_true hc; omega
  have hget:=List.getElem?_eq_getElem hil
  have hnext:(l.take (i+1)).foldl (putAcc n) ([],false)=putAcc n acc l[i]:=by
   rw [List.take_succ_eq_append_getElem hil,List.foldl_append,hacc]; rfl
  refine qaf (fun (x:Sl×Bool) w'=>∃ B,BufU w' x.1 (putAcc n acc l[i]).1 B/\x.2=(putAcc n acc l[i]).2/\Fr [] w w'/\∀ b∈B,w.heap.size<=b) ?_ ?_
  ·refine qaf (fun (x:Sl×Bool) w'=>∃ B,BufU w' x.1 (if !acc.2&&decide (l[i]>=n) then (acc.1++[n],true) else acc).1 B/\x.2=(if !acc.2&&decide (l[i]>=n) then (acc.1++[n],true) else acc).2/\Fr [] w w'/\∀ b∈B,w.heap.size<=b) ?_ ?_
   ·refine qaf (fun x w'=>x=(!acc.2&&decide (l[i]>=n))/\w'=w2) ?_ ?_
    ·rw [hd]
     refine qaa (fun hc=>?_) (fun hc=>?_)
     ·refine Rd.at hh i rfl hget ⟨?_,rfl⟩
      rw [hc,Bool.true_and]
     ·exact ⟨by rw [hc]; rfl,rfl⟩
    ·rintro x w' ⟨rfl,rfl⟩
     refine qaa (fun hc=>?_) (fun hc=>?_)
     ·rw [if_pos hc]
      exact key hf hb hB (by omega) fun s' B' w' g1 g2 g3=>⟨B',g1,rfl,g2,g3⟩
     ·rw [if_neg (by rw [hc]; simp)]
      exact ⟨B,hb,hd,hf,hB⟩
   ·rintro ⟨s3,d3⟩ w3 ⟨B3,h3,hd3,f3,hB3⟩
    simp only at h3 hd3
    have hh3:Rd S w3 s l:=h.frame0 f3
    refine Rd.at hh3 i rfl hget ?_
    generalize hacc3:(if !acc.2&&decide (l[i]>=n) then (acc.1++[n],true) else acc)=acc3 at h3 hd3
    have hl3:acc3.1.length<=2*i+1:=by rw [<- hacc3]; split <;> (try rw [List.length_append,List.length_singleton]) <;> omega
    have hput:putAcc n acc l[i]=(if l[i]≠n then acc3.1++[l[i]] else acc3.1,acc3.2):=by unfold putAcc; rw [hacc3]
    rw [hput]
    refine qaa (fun hc=>?_) (fun hc=>?_)
    ·have hne:l[i]≠n:=by simpa using hc
     refine Rd.at hh3 i rfl hget ?_
     rw [if_pos hne]
     exact key f3 h3 hB3 (by omega) fun s' B' w' g1 g2 g3=>⟨B',g1,hd3,g2,g3⟩
    ·have hne:¬ l[i]≠n:=by simpa using hc
     rw [if_neg hne]
     exact ⟨B3,h3,hd3,f3,hB3⟩
  ·rintro ⟨s4,d4⟩ w4 ⟨B4,h4,hd4,f4,hB4⟩
   rw [wi _ (by omega)]
   exact hX _ _ ⟨i+1,B4,by simp,by omega,by rw [hnext]; exact h4,by rw [hnext]; exact hd4,f4,hB4⟩ (by dsimp only; omega)
 ·have hil:i=l.length:=by have:=of_decide_eq_false hc; omega
  subst hil
  rw [List.take_length] at hacc
  have hput:putR l n=if !acc.2 then acc.1++[n] else acc.1:=by unfold putR; rw [hacc]; rfl
  refine qaf (fun s' w'=>∃ B,BufU w' s' (putR l n) B/\Fr [] w w'/\∀ b∈B,w.heap.size<=b) ?_ (fun s' w' ⟨B',g1,g2,g3⟩=>hk s' B' w' g1 g2 g3)
  rw [hd,hput]
  refine qaa (fun hc=>?_) (fun hc=>?_)
  ·rw [if_pos hc]
   exact key hf hb hB (by omega) fun s' B' w' g1 g2 g3=>⟨B',g1,g2,g3⟩
  ·rw [if_neg (by rw [hc]; simp)]
   exact ⟨B,hb,hf,hB⟩
theorem qn8 {l:List Int} (h:l.Pairwise (· < ·)):l.Pairwise (·<=·):=h.imp Int.le_of_lt
theorem qhc {w0 w:World} {F F':List Nat} (hF:∀ b∈F,w0.heap.size<=b) (hs:w0.heap.size<=w.heap.size) (h:∀ b∈F',b∈F\/w.heap.size<=b):∀ b∈F',w0.heap.size<=b:=by
 intro b hb
 rcases h b hb with h | h
 ·exact hF b h
 ·omega
theorem qru {w:World} {pb:Nat} {F:List Nat} {l:List Int} {K:Option Addr->World->Prop} (h:PoolAt w pb F l) (hl:l.length<=1000000)
  (hk:∀ pb' F' w',PoolAt w' pb' F' l->Fr [] w w'->(∀ b∈F',w.heap.size<=b)->K (some ⟨pb',0,none⟩) w') :
  call Tryz.prog 136 [.pointer (some ⟨pb,0,none⟩)] [.one .ptr] w K:=by
 refine qkw (p:=some ⟨pb,0,none⟩) ?_
 unfold qgy
 refine qfZ fun nb F0 w1 h1 f1 hF0=>?_
 have hp1:PoolAt w1 pb F l:=h.frame f1 (fun _ _ h=>by cases h)
 have hsort:=h.sorted
 refine qab ?_
 obtain ⟨mb,R,d,f,rfl,hr,hm,hp,hh,hf,hv⟩:=hp1.ex
 rcases hr with ⟨h0,hd,hR,hb⟩ | ⟨rb,T,hR,hb,hrb,hne,hnd⟩
 ·have hl0:l=[]:=List.eq_nil_of_length_eq_zero h0
  subst hl0
  refine qae (c:=.slice) hb ⟨none,0,0⟩ rfl ?_
  refine qeB fun X hX=>?_
  refine cond_false rfl ?_
  exact hk nb F0 w1 h1 f1 hF0
 ·refine qae (c:=.slice) hb ⟨some ⟨rb,0,none⟩,l.length,d.size⟩ rfl ?_
  dsimp only
  have hrbF:rb<w.heap.size:=h.lt rb (by rw [hR]; simp)
  have hrd0:Rd F0 w1 ⟨some ⟨rb,0,none⟩,l.length,d.size⟩ (d.toList.take l.length):=by
   refine ⟨by rw [List.length_take,Array.length_toList]; exact (Nat.min_eq_left hnd).symm,hnd,.inr ⟨rb,0,_,T,_,rfl,hrb,fun hm=>by have:=hF0 rb hm; omega,fun i x hx=>?_⟩⟩
   have hi:=(List.getElem?_eq_some_iff.1 hx).1
   rw [List.length_take,Array.length_toList] at hi
   have hil:i<l.length:=Nat.lt_of_lt_of_le hi (Nat.min_le_left _ _)
   have hid:i<d.size:=Nat.lt_of_lt_of_le hi (Nat.min_le_right _ _)
   have hx':=qcT (d:=d) rfl hil hnd
   rw [hx'] at hx
   rw [Nat.zero_add,Nat.mul_one]
   have hc:(u32s d)[i]?=some (.int .u32 x):=by
    unfold u32s
    rw [Array.getElem?_map]
    rw [<- Option.some.inj hx]
    simp [hid]
   apply List.ext_getElem?
   intro j
   rw [List.getElem?_take,List.getElem?_drop]
   match j with
   | 0=>simpa using hc
   | j+1=>simp
  have hlen:(d.toList.take l.length).length=l.length:=by simp; omega
  have hnodup:(d.toList.take l.length).Nodup:=hp.symm.nodup (hsort.imp (fun h=>Int.ne_of_lt h))
  generalize hL:d.toList.take l.length=L at hrd0 hlen hnodup hp
  refine qag (fun x w'=>∃ (i:Nat) (l':List Int) (F':List Nat),x=i/\i<=l.length/\PoolAt w' nb F' l'/\l'.Perm (L.take i)/\Fr [] w w'/\Rd F' w' ⟨some ⟨rb,0,none⟩,l.length,d.size⟩ L/\∀ b∈F',w.heap.size<=b) (fun x _=>((l.length:Int)-x).toNat)
   ⟨0,[],F0,rfl,by omega,h1,by simp,f1,hrd0,hF0⟩ ?_
  rintro x w2 ⟨i,l',F',rfl,hi,h2,hperm,f2,hrd,hF'⟩ X hX
  have hlen':l'.length=i:=by rw [hperm.length_eq,List.length_take]; omega
  refine qaa (fun hc=>?_) (fun hc=>?_)
  ·have hil:i<l.length:=by have:=of_decide_eq_true hc; omega
   have hiL:i<L.length:=by omega
   refine Rd.at hrd i rfl (List.getElem?_eq_getElem hiL) ?_
   refine qme h2 (by omega) fun F3 w3 h3 f3 hF3=>?_
   rw [wi _ (by omega)]
   have hnot:L[i]∉l':=by
    intro hm
    have hm':=hperm.mem_iff.1 hm
    have e:L.take (i+1)=L.take i++[L[i]]:=List.take_succ_eq_append_getElem hiL
    have hn2:(L.take (i+1)).Nodup:=(List.take_sublist _ _).nodup hnodup
    rw [e] at hn2
    have:=(List.nodup_append.1 hn2).2.2 _ hm' L[i] (by simp)
    exact this rfl
   refine hX _ _ ⟨i+1,ins L[i] l',F3,by omega,by omega,h3,?_,f2.trans' f3 (fun b hb=>.inr (hF' b hb)),hrd.frame f3 hF3,qhc hF' f2.size hF3⟩ (by omega)
   rw [List.take_succ_eq_append_getElem hiL]
   exact ((qcS hnot).trans (hperm.cons _)).trans (List.perm_append_singleton _ _).symm
  ·have hil:i=l.length:=by have:=of_decide_eq_false hc; omega
   subst hil
   rw [List.take_of_length_le (by omega)] at hperm
   have:l'=l:=qbF (hperm.trans hp) (qn8 h2.sorted) (qn8 hsort)
   subst this
   exact hk nb F' w2 h2 f2 hF'
end Go.Proofs.YtmbcedengdoamaaGreatDoor
end
section
set_option linter.unusedVariables false
set_option linter.unusedSimpArgs false
namespace Go.Proofs.YtmbcedengdoamaaGreatDoor
open Go Go.Pt
attribute [local irreducible] ld ldA ldV fld fldA newZ st new idx idxS idxA slc slcS slcP mkS chk nn call callV inv run runQ runU join loop held ext rng undefer s2a nxt ent IntKind.wrap
abbrev encB:Int->List Value:=fun n=>[Value.int .u8 n]
abbrev RdB (S:List Nat) (w:World) (s:Sl) (l:List Int):Prop:=Rds encB 1 S w s l
abbrev BufB (w:World) (s:Sl) (l:List Int) (B:List Nat):Prop:=Buf encB 1 w s l B
theorem qat:∀ x,(encB x).length=1:=fun _=>rfl
def bytesA (l:List Int):Array Value:=(l.map (Value.int .u8)).toArray
theorem qec (l:List Int):(bytesA l).size=l.length:=by simp [bytesA]
theorem qaO (l:List Int):l.flatMap encB=l.map (Value.int .u8):=by
 induction l with
 | nil=>rfl
 | cons a l ih=>rw [List.flatMap_cons,ih]; rfl
theorem qoP:∃ i,Tryz.prog.info? 5=some i/\i.zero=some (.int .u8 0)/\i.size=1/\i.bytes=1:=qdZ (by kernel_rfl)
theorem RdB.at {S:List Nat} {w:World} {s:Sl} {l:List Int} (h:RdB S w s l) (n:Nat) {i x:Int} {K:Int->Prop} (hi:i=n) (hx:l[n]?=some x) (k:K x):idx s i 1 fun a=>ld (.int .u8) a w K:=
 Rds.get (c:=.int .u8) (y:=x) h n hi hx rfl k
theorem qdT {S:List Nat} {w:World} {b o n cap:Nat} {L:List Int} {T:TypeId} {fr:Nat×Nat} (hb:w.heap[b]?=some (.cells (bytesA L) T fr)) (hn:o+n<=L.length) (hc:n<=cap) (hS:b∉S):RdB S w ⟨some ⟨b,o,none⟩,n,cap⟩ ((L.drop o).take n):=by
 refine ⟨by rw [List.length_take,List.length_drop]; dsimp only; omega,hc,.inr ⟨b,o,_,T,_,rfl,hb,hS,fun i x hx=>?_⟩⟩
 have hi:=(List.getElem?_eq_some_iff.1 hx).1
 rw [List.length_take,List.length_drop] at hi
 rw [List.getElem?_take,if_pos (by omega),List.getElem?_drop] at hx
 rw [Nat.mul_one]
 apply List.ext_getElem?
 intro j
 rw [List.getElem?_take,List.getElem?_drop]
 match j with
 | 0=>simp [bytesA,hx]
 | j+1=>simp
theorem qrs {b o len cap:Nat} {lo hi:Int} {size:Nat} {K:Sl->Prop} (h0:0<=lo) (h1:lo<=hi) (h2:hi<=cap) (h3:lo<cap) (k:K ⟨some ⟨b,o+lo.toNat*size,none⟩,hi.toNat-lo.toNat,cap-lo.toNat⟩):slc ⟨some ⟨b,o,none⟩,len,cap⟩ (some lo) (some hi) none size K:=by
 unfold slc
 refine ⟨by simpa using ⟨h0,h1,h2⟩,?_⟩
 simp only [Option.getD_none,Option.getD_some,Int.toNat_natCast]
 rw [if_neg (by omega)]
 simp only [Option.map_some,Addr.add_mk]
 exact k
theorem qpN {b o len cap:Nat} {lo:Int} {size:Nat} {K:Sl->Prop} (h0:0<=lo) (h1:lo<=len) (h2:len<=cap) (h3:lo<cap) (k:K ⟨some ⟨b,o+lo.toNat*size,none⟩,len-lo.toNat,cap-lo.toNat⟩):slc ⟨some ⟨b,o,none⟩,len,cap⟩ (some lo) none none size K:=by
 unfold slc
 refine ⟨by simp; omega,?_⟩
 simp only [Option.getD_none,Option.getD_some,Int.toNat_natCast]
 rw [if_neg (by omega)]
 simp only [Option.map_some,Addr.add_mk]
 exact k
theorem Rds.part {α:Type} {enc:α->List Value} {k:Nat} {S:List Nat} {w:World} {s:Sl} {l:List α} (h:Rds enc k S w s l) {lo hi:Option Int} (a b:Nat) {K:Sl->Prop} (hlo:lo.getD 0=a) (hhi:hi.getD s.len=b) (hab:a<=b) (hb:b<=l.length)
  (kk:∀ s',s'.len=b-a->Rds enc k S w s' ((l.take b).drop a)->(s.a.isNone=true->s'.a.isNone=true)->K s'):slc s lo hi none k K:=by
 obtain ⟨h1,h2,h3⟩:=h
 unfold slc
 refine ⟨by rw [hlo,hhi]; simp; omega,kk _ ?_ ⟨?_,?_,?_⟩ ?_⟩
 ·rw [hlo,hhi]; simp
 ·rw [hlo,hhi]; simp; omega
 ·rw [hlo,hhi]; simp; omega
 ·by_cases he:(l.take b).drop a=[]
  ·exact .inl he
  ·right
   have hlt:a<b:=by
    rcases Nat.lt_or_ge a b with h | h
    ·exact h
    ·exact absurd (by rw [List.drop_eq_nil_of_le]; simp; omega) he
   rcases h3 with h3 | ⟨bl,o,cs,T,fr,ha,hbl,hnS,hc⟩
   ·rw [h3] at hb; simp at hb; omega
   ·refine ⟨bl,o+a*k,cs,T,fr,?_,hbl,hnS,fun i x hx=>?_⟩
    ·rw [hlo]
     simp only [Option.getD_none,Int.toNat_natCast]
     rw [if_neg (by omega),ha]
     simp [Addr.add_mk]
    ·rw [List.getElem?_drop,List.getElem?_take] at hx
     split at hx
     ·have:=hc (a+i) x hx
      rw [<- this,Nat.add_mul,Nat.add_assoc]
     ·cases hx
 ·intro hn
  rw [Option.isNone_iff_eq_none] at hn
  rw [hn]
  simp
def byteAt (n:Int) (j:Nat):Int:=IntKind.wrap .u8 (Int.fdiv n (2^min (8*j) 32))
def be (n:Int) (k:Nat):List Int:=(List.range k).map fun i=>byteAt n (k-1-i)
theorem qah (n:Int) (k:Nat):(be n k).length=k:=by simp [be]
theorem wi' (n:Int) (h:-1000000000000000<=n/\n<=1000000000000000):IntKind.wrap .i64 n=n:=by rw [IntWalk.i64_in]; omega
theorem qp0 {S:List Nat} {w0 w:World} {L:List (Nat×Obj)} {b o k cap:Nat} {A X Z:List Int} {T:TypeId} {n:Int} {K:Unit->World->Prop} (h:Own S w0 w L) (i:Nat) (hi:L[i]?=some (b,.cells (bytesA (A++X++Z)) T (0,0))) (ho:A.length=o) (hX:X.length=k) (hk4:k<=4)
  (hk:∀ w',Own S w0 w' (L.set i (b,.cells (bytesA (A++be n k++Z)) T (0,0)))->K () w') :
  call Tryz.prog 129 [.slice (some ⟨b,o,none⟩) k cap,.int .u32 n] [] w K:=by
 refine qqH (b:=⟨some ⟨b,o,none⟩,k,cap⟩) ?_
 unfold qnO
 refine qag (fun x w'=>∃ j:Nat,x=j/\j<=k/\Own S w0 w' (L.set i (b,.cells (bytesA (A++((be n k).take j++X.drop j)++Z)) T (0,0)))) (fun x _=>((k:Int)-x).toNat) ⟨0,rfl,by omega,?_⟩ ?_
 ·have:L.set i (b,.cells (bytesA (A++((be n k).take 0++X.drop 0)++Z)) T (0,0))=L:=by
   apply List.ext_getElem?
   intro j
   rw [List.getElem?_set]
   by_cases hij:i=j
   ·subst hij
    rw [if_pos rfl,hi]
    have:=(List.getElem?_eq_some_iff.1 hi).1
    simp [this]
   ·rw [if_neg hij]
  rw [this]; exact h
 rintro x w1 ⟨j,rfl,hj,ho1⟩ Y hY
 have hil:=(List.getElem?_eq_some_iff.1 hi).1
 dsimp only
 refine qaa (fun hc=>?_) (fun hc=>?_)
 ·have hjk:j<k:=by have:=of_decide_eq_true hc; omega
  have e1:IntKind.wrap .i64 (8*IntKind.wrap .i64 (IntKind.wrap .i64 ((k:Int)-1)-j))=((8*(k-1-j):Nat):Int):=by
   rw [wi' ((k:Int)-1) (by omega),wi' ((k:Int)-1-j) (by omega),wi' (8*((k:Int)-1-j)) (by omega)]; omega
  rw [e1,wi' _ (by omega)]
  refine qal (by omega) ?_
  refine qc7 (by omega) (by omega) ?_
  rw [Int.toNat_natCast,Nat.mul_one,Int.toNat_natCast]
  have hXj:X.drop j=X[j]::X.drop (j+1):=List.drop_eq_getElem_cons (by omega)
  have hbe:(be n k).take (j+1)=(be n k).take j++[byteAt n (k-1-j)]:=by
   rw [List.take_succ_eq_append_getElem (by rw [qah]; exact hjk)]
   simp [be]
  have hlen:((be n k).take j).length=j:=by rw [List.length_take,qah]; omega
  refine Own.st ho1 i (by rw [List.getElem?_set,if_pos rfl,if_pos hil]) (bytesA (A++((be n k).take (j+1)++X.drop (j+1))++Z)) ?_ rfl ?_ fun w2 ho2 _=>?_
  ·rw [splice,splice]
   apply Array.ext'
   rw [Array.toList_setIfInBounds]
   show (bytesA _).toList.set _ _=(bytesA _).toList
   unfold bytesA
   simp only [List.toList_toArray]
   rw [<- List.map_set,hXj,hbe,List.append_assoc A,List.set_append_right _ _ (by omega)]
   rw [show o+j-A.length=j by omega,List.append_assoc ((be n k).take j),List.set_append_right _ _ (by omega),hlen,Nat.sub_self,List.cons_append,List.set_cons_zero]
   simp only [List.append_assoc,List.cons_append,List.nil_append,byteAt]
  ·refine Nat.ble_eq_true_of_le ?_
   rw [qec,hXj]
   simp only [List.length_append,List.length_cons,List.length_nil,hlen]
   omega
  ·refine hY _ _ ⟨j+1,by omega,by omega,?_⟩ (by omega)
   rw [List.set_set] at ho2
   exact ho2
 ·have hjk:j=k:=by have:=of_decide_eq_false hc; omega
  subst hjk
  rw [List.take_of_length_le (by rw [qah]; exact Nat.le_refl _),List.drop_of_length_le (by omega),List.append_nil] at ho1
  exact hk _ ho1
def getV (l:List Int):Int:=l.foldl (fun r x=>bits .or .u32 (IntKind.wrap .u32 (r*2^8)) (IntKind.wrap .u32 x)) 0
theorem qp6 {S:List Nat} {w:World} {s:Sl} {l:List Int} {K:Int->World->Prop} (h:RdB S w s l) (hl:l.length<=100000) (hk:K (getV l) w):call Tryz.prog 118 [.slice s.a s.len s.cap] [.one (.int .u32)] w K:=by
 refine qqr (b:=s) ?_
 unfold qn3
 have hlen:=h.1
 refine qag (fun x w'=>w'=w/\∃ i:Nat,x.2=i/\i<=l.length/\x.1=getV (l.take i)) (fun x _=>((l.length:Int)-x.2).toNat) ⟨rfl,0,rfl,by omega,rfl⟩ ?_
 rintro ⟨r,ii⟩ w' ⟨rfl,i,hi0,hi,hr⟩ X hX
 simp only at hi0 hr
 subst hi0 hr
 refine qaa (fun hc=>?_) (fun hc=>?_)
 ·have hil:i<l.length:=by have:=of_decide_eq_true hc; omega
  refine RdB.at h i rfl (List.getElem?_eq_getElem hil) ?_
  rw [wi' _ (by omega)]
  refine hX _ _ ⟨rfl,i+1,by simp,by omega,?_⟩ (by dsimp only; omega)
  rw [List.take_succ_eq_append_getElem hil,getV,getV,List.foldl_append]
  rfl
 ·have hil:i=l.length:=by have:=of_decide_eq_false hc; omega
  subst hil
  rw [List.take_length]
  exact hk
theorem qlc {S:List Nat} {w:World} {s:Sl} {l:List Int} {K:Sl->World->Prop} (h:RdB S w s l) (hl:l.length<=1000000)
  (hk:∀ s' B w',BufB w' s' l B->Fr [] w w'->(∀ b∈B,w.heap.size<=b)->(s.a.isNone=true->s'=⟨none,0,0⟩)->(s.a.isNone=false->s'.a.isNone=false)->K s' w') :
  cond (Option.isNone s.a) (K ⟨none,0,0⟩ w) (new (.cells #[] 5) w fun r w1=>Pt.run [Ty1.one Cell.slice] ((Builtin.append_ #[22,22] 22 #[.slice (some ⟨r,0,none⟩) 0 0,.slice s.a s.len s.cap]).run Tryz.prog w1) fun s' w'=>K s' w'):=by
 obtain ⟨i5,hi,hz,hsz,hby⟩:=qoP
 refine qaa (fun hc=>?_) (fun hc=>?_)
 ·have hl0:l=[]:=by
   rcases h.2.2 with h3 | ⟨b,o,cs,T,fr,ha,_⟩
   ·exact h3
   ·rw [ha] at hc; cases hc
  subst hl0
  exact hk _ [] w (.nil _ _ _) (.refl _ _) (by simp) (fun _=>rfl) (fun h=>by rw [hc] at h; cases h)
 ·obtain ⟨a,ha⟩:∃ a,s.a=some a:=by cases hs:s.a with | none=>rw [hs] at hc; cases hc | some a=>exact ⟨a,rfl⟩
  have ho:=Own.start [] w
  refine Own.new ho fun r w1 e1 s1 ho=>?_
  have h1:RdB S w1 s l:=h.frame0 ho.fr
  have hb:BufB w1 ⟨some ⟨r,0,none⟩,0,0⟩ [] [r]:=Buf.fresh qat (ho.at (i:=0) rfl) rfl (Nat.le_refl _) (by simp) (by simp)
  have hlen:=h.1
  rw [ha]
  refine Buf.appSrc (s:=⟨some ⟨r,0,none⟩,0,0⟩) (ys:=l) (e:=5) hb qat (by kernel_rfl) hi hz hsz rfl (.ofSlice _ (e':=5) (by kernel_rfl) a s.len s.cap _ ?_ (h1.cells qat ha) ?_) hlen (by rw [hby,hlen]; simp; omega) (by rw [hlen]; simp; omega) fun s' B w' g1 g2 g3 g4=>?_
  ·rw [qaO]; simp [hlen]
  ·intro u hu
   rw [qaO] at hu
   obtain ⟨x,_,rfl⟩:=List.mem_map.1 hu
   rfl
  ·have hBn:∀ b∈B,w.heap.size<=b:=fun b hb=>by
    rcases g3 b hb with h | h
    ·simp at h; omega
    ·omega
   refine hk s' B w' (by simpa using g1) (ho.fr.trans' g2 (fun b hb=>by simp at hb; subst hb; exact .inr (by omega))) hBn (fun h=>by rw [hc] at h; cases h) (fun _=>?_)
   rcases g4 with hn | hn
   ·exact hn
   ·simp at hn
theorem qbm {S:List Nat} {w:World} {s:Sl} {l:List Int} {K:Sl->World->Prop} (h:RdB S w s l) (hl:l.length<=1000000)
  (hk:∀ s' B w',BufB w' s' l B->Fr [] w w'->(∀ b∈B,w.heap.size<=b)->(s.a.isNone=true->s'=⟨none,0,0⟩)->(s.a.isNone=false->s'.a.isNone=false)->K s' w') :
  call Tryz.prog 42 [.slice s.a s.len s.cap] [.one .slice] w K:=by
 refine qlM (s:=s) ?_
 unfold qhe
 exact qlc h hl hk
theorem qnF {S:List Nat} {w:World} {s:Sl} {l:List Int} {K:Sl->World->Prop} (h:RdB S w s l) (hl:l.length<=1000000)
  (hk:∀ s' B w',BufB w' s' l B->Fr [] w w'->(∀ b∈B,w.heap.size<=b)->(s.a.isNone=true->s'=⟨none,0,0⟩)->(s.a.isNone=false->s'.a.isNone=false)->K s' w') :
  call Tryz.prog 121 [.slice s.a s.len s.cap] [.one .slice] w K:=by
 refine qnB (b:=s) ?_
 unfold qj8
 exact qlc h hl hk
def halvesL:List Int:=[0,274646895,549293790,820201905,1098587580,1361435347,1640403810,1905808397,2197175160,2460548119,2722870694,2987750089,3280807620,3553878443,3811616794,4084100981]
abbrev HG:Nat:=0
def Hv (w:World):Prop:=∃ T fr,w.heap[HG]?=some (.cells (halvesL.map (Value.int .u32)).toArray T fr)
theorem Hv.frame {S:List Nat} {w w':World} (h:Hv w) (f:Fr S w w') (hS:HG∉S):Hv w':=by
 obtain ⟨T,fr,hb⟩:=h
 exact ⟨T,fr,by rw [f.block HG (qac hb) hS]; exact hb⟩
theorem Hv.frame0 {w w':World} (h:Hv w) (f:Fr [] w w'):Hv w':=h.frame f (by simp)
theorem Hv.lt {w:World} (h:Hv w):HG<w.heap.size:=by obtain ⟨T,fr,hb⟩:=h; exact qac hb
theorem qrH (x:Int):0<=bits .and .u32 x 15/\bits .and .u32 x 15<16:=by
 have h1:(BitVec.ofInt 32 x&&& BitVec.ofInt 32 15).toNat<16:=by
  rw [BitVec.toNat_and]
  exact Nat.lt_of_le_of_lt Nat.and_le_right (by decide)
 have h2:bits .and .u32 x 15=((BitVec.ofInt 32 x&&& BitVec.ofInt 32 15).toNat:Int):=by
  show IntKind.wrap .u32 _=_
  unfold IntKind.wrap
  have:(IntKind.u32.signed)=false:=rfl
  simp only [this,Bool.false_and,Bool.false_eq_true,if_false]
  have e:((2:Int)^IntKind.u32.bits)=4294967296:=rfl
  rw [e]
  exact Int.emod_eq_of_lt (by omega) (by
   have:(BitVec.ofInt IntKind.u32.bits x&&& BitVec.ofInt IntKind.u32.bits 15).toNat<16:=h1
   omega)
 rw [h2]
 omega
def half (x:Int):Int:=halvesL.getD x.toNat 0
def turn4 (r:Int):Int:=bits .xor .u32 (Int.fdiv r (2^4)) (half (bits .and .u32 r 15))
def crcStep (r x:Int):Int:=turn4 (turn4 (bits .xor .u32 r (IntKind.wrap .u32 x)))
def moreV (sum:Int) (l:List Int):Int:=bits .xor .u32 (l.foldl crcStep (bits .xor .u32 sum 4294967295)) 4294967295
def sumV (l:List Int):Int:=moreV 0 l
theorem qq1 {w:World} {x:Int} {K:Int->Prop} (h:Hv w) (k:K (half (bits .and .u32 x 15))):ld (.int .u32) (Addr.add ⟨HG,0,none⟩ (Int.toNat (bits .and .u32 x 15)*1)) w K:=by
 obtain ⟨T,fr,hb⟩:=h
 obtain ⟨h0,h1⟩:=qrH x
 rw [Addr.add_mk]
 refine qae hb _ ?_ k
 generalize bits .and .u32 x 15=y at h0 h1
 have hlt:y.toNat<halvesL.length:=by show y.toNat<16; omega
 rw [Nat.zero_add,Nat.mul_one]
 simp only [List.getElem?_toArray,List.getElem?_map,List.getElem?_eq_getElem hlt,Option.map_some,half,List.getD_eq_getElem?_getD,Option.getD_some]
 rfl
theorem qvc {S:List Nat} {w:World} {s:Sl} {l:List Int} {sum:Int} {K:Int->World->Prop} (h:RdB S w s l) (hv:Hv w) (hl:l.length<=100000) (hk:K (moreV sum l) w) :
  call Tryz.prog 140 [.int .u32 sum,.slice s.a s.len s.cap] [.one (.int .u32)] w K:=by
 refine qqE (b:=s) ?_
 unfold qnU
 have hlen:=h.1
 refine qag (fun x w'=>w'=w/\∃ i:Nat,x.2=i/\i<=l.length/\x.1=(l.take i).foldl crcStep (bits .xor .u32 sum 4294967295)) (fun x _=>((l.length:Int)-x.2).toNat) ⟨rfl,0,rfl,by omega,rfl⟩ ?_
 rintro ⟨r,ii⟩ w' ⟨rfl,i,hi0,hi,hr⟩ X hX
 simp only at hi0 hr
 subst hi0 hr
 refine qaa (fun hc=>?_) (fun hc=>?_)
 ·have hil:i<l.length:=by have:=of_decide_eq_true hc; omega
  refine RdB.at h i rfl (List.getElem?_eq_getElem hil) ?_
  refine qal (qrH _) ?_
  refine qq1 hv ?_
  refine qal (qrH _) ?_
  refine qq1 hv ?_
  rw [wi' _ (by omega)]
  refine hX _ _ ⟨rfl,i+1,by simp,by omega,?_⟩ (by dsimp only; omega)
  rw [List.take_succ_eq_append_getElem hil,List.foldl_append]
  rfl
 ·have hil:i=l.length:=by have:=of_decide_eq_false hc; omega
  subst hil
  rw [List.take_length]
  exact hk
theorem qti {S:List Nat} {w:World} {s:Sl} {l:List Int} {K:Int->World->Prop} (h:RdB S w s l) (hv:Hv w) (hl:l.length<=100000) (hk:K (sumV l) w) :
  call Tryz.prog 119 [.slice s.a s.len s.cap] [.one (.int .u32)] w K:=by
 refine qsI (b:=s) ?_
 unfold qo3
 exact qvc h hv hl hk
end Go.Proofs.YtmbcedengdoamaaGreatDoor
end
section
namespace Go.Proofs.YtmbcedengdoamaaGreatDoor
open Go.ChangeShapes Go.WideShapes Go.ChangeAt Go.RowKit Go.Pt
set_option linter.unusedVariables false
theorem qwe:ownKnob Tryz.prog.godebug=none:=by kernel_rfl
theorem qtP:laidOutB Tryz.prog=true:=by kernel_rfl
abbrev laidH:List (String×DataW Unit):=[("cashbook/crc.halves",Rows.laid_cashbook_crc_halves)]
theorem qrm:Tryz.prog.globalNamed "cashbook/crc.halves"=some HG:=by kernel_rfl
theorem qvr:(Tryz.prog.globals[HG]?).map (·.type)=some 242:=by kernel_rfl
theorem qvp:Tryz.prog.underlying 242=some (.array 16 29):=by kernel_rfl
theorem qt7:Tryz.prog.underlying 29=some (.int .u32):=by kernel_rfl
set_option maxRecDepth 100000 in
theorem quf (os:Os) (args:Array Value):laidMetH Tryz.prog laidH ((World.doorLaid Tryz.prog 4000 os).forCall (fun _ _=>0) ⟨#[],args,[]⟩).memory:=
 laidMetH_of_parts3 (fuel:=8) (laidMet_of_run' 8 (by kernel_rfl) (by kernel_rfl)) (by kernel_rfl) (by kernel_rfl)
theorem qrW {W:World} (h:laidMetH Tryz.prog laidH W):Hv W:=by
 rw [MakeChecks.laidMetH_plain _ _ _ (by kernel_rfl)] at h
 obtain ⟨ps,⟨g0,t0,cs0,f0,p0,q0,hg0,ht0,hv0,hd0,_,_⟩,_,_⟩:=h
 obtain rfl:=Option.some.inj (qrm.symm.trans hg0)
 obtain rfl:=Option.some.inj (qvr.symm.trans ht0)
 obtain ⟨xs,m1,rfl,hx1,hlen,hn3,hel⟩:=DataW.trod_array qvp hd0
 simp only [Prod.mk.injEq] at hx1
 have hx:=hx1.1
 unfold Rows.laid_cashbook_crc_halves at hx
 rw [DataW.agg.injEq] at hx
 have c31:Tryz.prog.cellsOf 29=1:=by kernel_rfl
 have hcl:Tryz.prog.cellsOf 242=16:=by kernel_rfl
 have hb:∃ T fr,W.heap[HG]?=some (.cells cs0 T fr):=by
  unfold World.var? at hv0
  rw [qrm,Option.bind_some] at hv0
  split at hv0
  ·rename_i cs T fr hb
   cases hv0
   exact ⟨T,fr,hb⟩
  ·cases hv0
 obtain ⟨T,fr,hb⟩:=hb
 have key:∀ (i:Nat) (n:Int),(xs.map (·.1))[i]?=some (DataW.lit (.int .u32 n))->cs0.toList[i]?=some (.int .u32 n):=by
  intro i n hi
  rw [List.getElem?_map] at hi
  obtain ⟨y,hy,hyn⟩:=Option.map_eq_some_iff.1 hi
  have hil:i<xs.length:=(List.getElem?_eq_some_iff.1 hy).1
  have h1:=hel i (by omega)
  rw [c31] at h1
  rw [hy] at h1
  obtain ⟨k,e1,e2,_⟩:=DataW.trod_int qt7 h1
  rw [e2] at hyn
  have hk:k=n:=by simpa using hyn
  subst hk
  have:=congrArg (·[0]?) e1
  simpa using this
 refine ⟨T,fr,?_⟩
 rw [hb]
 refine congrArg (fun c=>some (Obj.cells c T fr)) ?_
 apply Array.ext'
 apply List.ext_getElem?
 intro i
 have hsz:cs0.toList.length=16:=hlen.trans hcl
 have hx':xs.map (·.1)=halvesL.map (fun n=>DataW.lit (.int .u32 n)):=hx.symm
 by_cases hi:i<halvesL.length
 ·have h1:=key i halvesL[i] (by rw [hx',List.getElem?_map,List.getElem?_eq_getElem hi]; rfl)
  rw [h1]
  show _=(halvesL.map (Value.int .u32))[i]?
  rw [List.getElem?_map,List.getElem?_eq_getElem hi]
  rfl
 ·have h16:halvesL.length=16:=rfl
  rw [List.getElem?_eq_none (by omega)]
  exact (List.getElem?_eq_none (by rw [List.length_map]; omega)).symm
theorem qoR {x:Int} (h:IntKind.u8.has x):0<=x/\x<256:=by
 have h':(0:Int)<=x/\x<=255:=h
 omega
theorem qvO {x:Int} (h:IntKind.u16.has x):0<=x/\x<65536:=by
 have h':(0:Int)<=x/\x<=65535:=h
 omega
theorem qv0 {x:Int} (h:IntKind.u32.has x):0<=x/\x<4294967296:=by
 have h':(0:Int)<=x/\x<=4294967295:=h
 omega
end Go.Proofs.YtmbcedengdoamaaGreatDoor
end
section
set_option linter.unusedVariables false
set_option maxRecDepth 100000
namespace Go.Proofs.YtmbcedengdoamaaGreatDoor
open Go Go.Pt
def qhd (free:Int) (K:Int->World->Prop) (w:World):Prop:=cond (decide (free<1)) (K 0 w) (K (IntKind.wrap .i64 (IntKind.wrap .i64 (Int.tdiv (IntKind.wrap .i64 (free-1)) 124)+1)) w)
def qm8:List Ann:=[.n,.n,.n,.n,.n]
theorem qlp {free w K} (hF:qhd free K w):call Tryz.prog 88 [.int .i64 free] [.one (.int .i64)] w K:=qad (an:=qm8) Tryz.func88 hF
def qgI (l:Sl) (K:Bool->World->Prop) (w:World):Prop:=loop (Int×Int) (fun a (b:Int×Int) c=>cond (decide (b.snd<(↑l.len:Int))) (idx l b.snd 1 fun d=>ld (.int .u32) d c fun (e:Int)=>cond (decide (e<=b.fst)) (K false c) (a ((e,IntKind.wrap .i64 (b.snd+1))) c)) (K true c)) ((1,0)) w
def qmn:List Ann:=[.n,.n,.n,.n,.l [(3,.one (.int .u32)),(8,.one (.int .i64))],.n,.n,.n,.n,.n,.n,.n,.n]
theorem qkD {l w K} (hF:qgI l K w):call Tryz.prog 132 [.slice l.a l.len l.cap] [.one .bool] w K:=qad (an:=qmn) Tryz.func132 hF
def qiH (b:Sl) (n:Int) (K:Sl->World->Prop) (w:World):Prop:=new (Obj.cells #[.int .u8 (IntKind.wrap .u8 (Int.fdiv n (2^24))),.int .u8 (IntKind.wrap .u8 (Int.fdiv n (2^16))),.int .u8 (IntKind.wrap .u8 (Int.fdiv n (2^8))),.int .u8 (IntKind.wrap .u8 n)] 5) w fun c d=>run [.one .slice] ((Builtin.append_ (#[22,22]) 22 (#[.slice b.a b.len b.cap,.slice (some ⟨c,0,none⟩) 4 4])).run Tryz.prog d) fun e f=>K e f
def qov:List Ann:=[.n,.n]
theorem qmX {b n w K} (hF:qiH b n K w):call Tryz.prog 145 [.slice b.a b.len b.cap,.int .u32 n] [.one .slice] w K:=qad (an:=qov) Tryz.func145 hF
def qgC (l:Sl) (pages:Int) (K:Value->World->Prop) (w:World):Prop:=new (Obj.cells #[.slice l.a l.len l.cap] 27) w fun b c=>new (Obj.cells #[.int .i64 pages] 3) c fun d e=>K (Value.func (Fn.func 167) #[] #[.pointer (some ⟨d,0,none⟩),.pointer (some ⟨b,0,none⟩)]) e
def qmy:List Ann:=[.n,.n]
theorem qkI {l pages w K} (hF:qgC l pages K w):call Tryz.prog 144 [.slice l.a l.len l.cap,.int .i64 pages] [.one .any] w K:=qad (an:=qmy) Tryz.func144 hF
def qen (yield:Value) (cap0:Addr) (cap1:Addr) (K:Unit->World->Prop) (w:World):Prop:=ld (.int .i64) cap0 w fun (b:Int)=>loop (Int) (fun c (d:Int) e=>cond (decide (d<b)) (ld .slice cap1 e fun f=>ld .slice cap1 e fun g=>slc g none (some (if 123<(↑f.len:Int) then 123 else (↑f.len:Int))) none 1 fun h=>callV Tryz.prog yield ([.int .i64 d,.slice h.a h.len h.cap]) ([.one .bool]) e fun (i:Bool) j=>cond (!i) (K () j) (ld .slice cap1 j fun k=>slc k (some (if 123<(↑f.len:Int) then 123 else (↑f.len:Int))) none none 1 fun l=>st cap1 ([.slice l.a l.len l.cap]) j fun m=>c (IntKind.wrap .i64 (d+1)) m)) (K () e)) 0 w
def qjR:List Ann:=[.n,.l [(7,.one (.int .i64))],.n,.n,.n,.n,.n,.n,.n]
theorem qhV {yield cap0 cap1 w K} (hF:qen yield cap0 cap1 K w):call Tryz.prog 167 [yield,.pointer (some cap0),.pointer (some cap1)] [] w K:=qad (an:=qjR) Tryz.func167 hF
def qfX (numbers:Sl) (pages:Sl) (K:(Sl×Int)->World->Prop) (w:World):Prop:=new (Obj.cells #[.slice pages.a pages.len pages.cap] 27) w fun b c=>join (Bool) (fun d=>call Tryz.prog 132 ([.slice numbers.a numbers.len numbers.cap]) ([.one .bool]) c fun (e:Bool) f=>cond (!e) (d true f) (ld .slice ⟨b,0,none⟩ f fun g=>d (decide ((↑numbers.len:Int)>IntKind.wrap .i64 (123*(↑g.len:Int)))) f)) fun (h:Bool) i=>cond h (K (({ a:=none,len:=0,cap:=0 },1)) i) (ld .slice ⟨b,0,none⟩ i fun j=>loop (Sl×Int×Int) (fun k (l:Sl×Int×Int) m=>cond (decide (l.snd.snd<(↑j.len:Int))) (idx j l.snd.snd 1 fun n=>ld (.int .u32) n m fun (o:Int)=>cond (decide (o<2)) (K (({ a:=none,len:=0,cap:=0 },1)) m) (k ((l.fst,l.snd.fst,IntKind.wrap .i64 (l.snd.snd+1))) m)) (new (Obj.cells #[.slice none 0 0] 198) m fun p q=>ld .slice ⟨b,0,none⟩ q fun r=>call Tryz.prog 144 ([.slice numbers.a numbers.len numbers.cap,.int .i64 (↑r.len:Int)]) ([.one .any]) q fun (s:Value) t=>rng Tryz.prog s [.one (.int .i64),.one .slice] (fun (u:Int×Sl) (v:World->(World->Prop)->Prop) (x:World->Prop) y z=>v z fun A=>join (Int) (fun B=>ld .slice ⟨b,0,none⟩ A fun C=>cond (decide (IntKind.wrap .i64 (u.fst+1)<(↑C.len:Int))) (ld .slice ⟨b,0,none⟩ A fun D=>idx D (IntKind.wrap .i64 (u.fst+1)) 1 fun E=>ld (.int .u32) E A fun (F:Int)=>B F A) (B 0 A)) fun (G:Int) H=>call Tryz.prog 145 ([.slice none 0 0,.int .u32 G]) ([.one .slice]) H fun I J=>new (Obj.cells #[.int .u8 (IntKind.wrap .u8 (Int.fdiv ((↑u.snd.len:Int)) (2^8))),.int .u8 (IntKind.wrap .u8 (↑u.snd.len:Int))] 5) J fun L M=>run [.one .slice] ((Builtin.append_ (#[22,22]) 22 (#[.slice I.a I.len I.cap,.slice (some ⟨L,0,none⟩) 2 2])).run Tryz.prog M) fun N O=>loop (Sl×Int) (fun P (Q:Sl×Int) R=>cond (decide (Q.snd<(↑u.snd.len:Int))) (idx u.snd Q.snd 1 fun S=>ld (.int .u32) S R fun (T:Int)=>call Tryz.prog 145 ([.slice Q.fst.a Q.fst.len Q.fst.cap,.int .u32 T]) ([.one .slice]) R fun U V=>P ((U,IntKind.wrap .i64 (Q.snd+1))) V) (ld .slice ⟨p,0,none⟩ R fun W=>new (Obj.cells #[.slice Q.fst.a Q.fst.len Q.fst.cap] 22) R fun X Y=>run [.one .slice] ((Builtin.append_ (#[198,198]) 198 (#[.slice W.a W.len W.cap,.slice (some ⟨X,0,none⟩) 1 1])).run Tryz.prog Y) fun Z aa=>st ⟨p,0,none⟩ ([.slice Z.a Z.len Z.cap]) aa fun ab=>x ab)) ((N,0)) O) (fun ac ad=>ld .slice ⟨p,0,none⟩ ad fun ae=>undefer ac ad fun af=>K ((ae,0)) af) [] t)) (({ a:=none,len:=0,cap:=0 },0,0)) i)
def qlW:List Ann:=[.n,.n,.j [(25,.one .bool)],.n,.n,.n,.l [(4,.one .slice),(5,.one (.int .i64)),(28,.one (.int .i64))],.n,.n,.n,.n,.n,.n,.n,.n,.n,.r [.one (.int .i64),.one .slice],.n,.n,.j [(11,.one (.int .u32))],.n,.n,.n,.n,.l [(12,.one .slice),(64,.one (.int .i64))],.n,.n,.n,.n,.n]
theorem qj5 {numbers pages w K} (hF:qfX numbers pages K w):call Tryz.prog 122 [.slice numbers.a numbers.len numbers.cap,.slice pages.a pages.len pages.cap] [.one .slice,.one (.int .i64)] w K:=qlV (an:=qlW) Tryz.func122 hF
def qiL (b:Sl) (K:Int->World->Prop) (w:World):Prop:=idx b 0 1 fun a=>ld (.int .u8) a (World.drew w) fun (c:Int)=>idx b 1 1 fun d=>ld (.int .u8) d (World.drew w) fun (e:Int)=>idx b 2 1 fun f=>ld (.int .u8) f (World.drew w) fun (g:Int)=>idx b 3 1 fun h=>ld (.int .u8) h (World.drew w) fun (i:Int)=>K (bits BinOp.or IntKind.u32 (bits BinOp.or IntKind.u32 (bits BinOp.or IntKind.u32 (IntKind.wrap .u32 (IntKind.wrap .u32 c*2^24)) (IntKind.wrap .u32 (IntKind.wrap .u32 e*2^16))) (IntKind.wrap .u32 (IntKind.wrap .u32 g*2^8))) (IntKind.wrap .u32 i)) (World.drew w)
def qoI:List Ann:=[.n,.n,.o [[0,1,2,3,4,5,6,7,8,9,10,11,12,13,14,15,16,17,18,19,20,21,22]]]
theorem qmF {b w K} (hF:qiL b K w):call Tryz.prog 131 [.slice b.a b.len b.cap] [.one (.int .u32)] w K:=qad (an:=qoI) Tryz.func131 hF
def qgr (body:Sl) (K:(Int×Sl×Int)->World->Prop) (w:World):Prop:=cond (decide ((↑body.len:Int)<6)) (K ((0,{ a:=none,len:=0,cap:=0 },2)) w) (idx body 4 1 fun b=>ld (.int .u8) b (World.drew w) fun (c:Int)=>idx body 5 1 fun d=>ld (.int .u8) d (World.drew w) fun (e:Int)=>call Tryz.prog 131 ([.slice body.a body.len body.cap]) ([.one (.int .u32)]) (World.drew w) fun (f:Int) g=>held [fun h=>World.cell? h d=some (.int .u8 e),fun i=>World.cell? i b=some (.int .u8 c)] g<|join (Bool) (fun j=>cond (f==1) (j true g) (cond (decide (bits BinOp.or IntKind.i64 (IntKind.wrap .i64 (IntKind.wrap .i64 c*2^8)) (IntKind.wrap .i64 e)>123)) (j true g) (j (!(↑body.len:Int)==IntKind.wrap .i64 (6+IntKind.wrap .i64 (4*bits BinOp.or IntKind.i64 (IntKind.wrap .i64 (IntKind.wrap .i64 c*2^8)) (IntKind.wrap .i64 e)))) g))) fun (k:Bool) l=>cond k (K ((0,{ a:=none,len:=0,cap:=0 },2)) l) (loop (Sl×Int) (fun m (n:Sl×Int) o=>cond (decide (n.snd<bits BinOp.or IntKind.i64 (IntKind.wrap .i64 (IntKind.wrap .i64 c*2^8)) (IntKind.wrap .i64 e))) (slc body (some (IntKind.wrap .i64 (6+IntKind.wrap .i64 (4*n.snd)))) none none 1 fun p=>call Tryz.prog 131 ([.slice p.a p.len p.cap]) ([.one (.int .u32)]) o fun (q:Int) r=>new (Obj.cells #[.int .u32 q] 29) r fun s t=>run [.one .slice] ((Builtin.append_ (#[27,27]) 27 (#[.slice n.fst.a n.fst.len n.fst.cap,.slice (some ⟨s,0,none⟩) 1 1])).run Tryz.prog t) fun u v=>m ((u,IntKind.wrap .i64 (n.snd+1))) v) (call Tryz.prog 132 ([.slice n.fst.a n.fst.len n.fst.cap]) ([.one .bool]) o fun (x:Bool) y=>cond (!x) (K ((0,{ a:=none,len:=0,cap:=0 },2)) y) (K ((f,n.fst,0)) y))) (({ a:=none,len:=0,cap:=0 },0)) l))
def qmm:List Ann:=[.n,.n,.n,.n,.n,.o [[0,2,3,4,5,6,7,8,9,10,11,1,12,13]],.n,.j [(37,.one .bool)],.n,.n,.n,.n,.l [(7,.one .slice),(39,.one (.int .i64))],.n,.n,.n,.n,.n,.n,.n,.n]
theorem qkM {body w K} (hF:qgr body K w):call Tryz.prog 105 [.slice body.a body.len body.cap] [.one (.int .u32),.one .slice,.one (.int .i64)] w K:=qad (an:=qmm) Tryz.func105 hF
end Go.Proofs.YtmbcedengdoamaaGreatDoor
end
section
set_option linter.unusedVariables false
namespace Go.Pt
open Go
variable {S:List Nat} {w0 w:World} {L:List (Nat×Obj)} {P:Program}
theorem qqG (z:Value) (c:Nat):mkCells [z] c=(List.replicate c z).toArray:=by
 apply Array.ext
 ·simp [mkCells]
 ·intro i h1 h2
  simp [mkCells,Nat.mod_one]
theorem Own.mk1 {el:TypeId} {z:Value} {bytes:Nat} {l c:Int} {K:Sl->World->Prop} (h:Own S w0 w L) (h0:0<=l) (h1:l<=c) (h2:(bytes:Int)*c<=2^48) (h3:c<=2^48)
  (k:∀ b w',b=w.heap.size->Own S w0 w' ((b,.cells (List.replicate c.toNat z).toArray el (0,0))::L)->K ⟨some ⟨b,0,none⟩,l.toNat,c.toNat⟩ w'):mkS el [z] 1 bytes l c w K:=by
 refine ⟨⟨h0,h1,h2,h3⟩,?_⟩
 have e:mkCells (if c.toNat*1=0 then [] else [z]) (c.toNat*1)=(List.replicate c.toNat z).toArray:=by
  rw [Nat.mul_one]
  split
  ·rename_i hc; rw [hc]; apply Array.ext' ; simp [mkCells]
  ·exact qqG z _
 rw [e]
 exact k _ _ rfl (h.alloc _)
theorem Own.copy1 {t t' ty el b:Nat} {cs:Array Value} {T:TypeId} {o dLen dCap:Nat} {src:Sl} {vs:List Value} {K:Int->World->Prop} (h:Own S w0 w L) (i:Nat) (hi:L[i]?=some (b,.cells cs T (0,0)))
  (hu:P.underlying t=some (.slice el)) (hs:(P.info? el).map (·.size)=some 1) (hlen:vs.length=Nat.min src.len dLen) (hvs:vs≠[]->∃ a,src.a=some a/\∀ (j:Nat) v,vs[j]?=some v->w.cell? (a.add j)=some v) (h1:∀ v∈vs,v.oneCell'=true)
  (hfit:o+vs.length<=cs.size) (k:∀ w',Own S w0 w' (L.set i (b,.cells (splice cs o vs) T (0,0)))->K vs.length w') :
  Pt.run [Ty1.one (Cell.int .i64)] ((Builtin.copy_ #[t,t'] ty #[.slice (some ⟨b,o,none⟩) dLen dCap,.slice src.a src.len src.cap]).run P w) K:=by
 by_cases h0:vs=[]
 ·subst h0
  refine ⟨((0:Nat):Int),w,run_copy_none w t t' ty el _ _ _ _ _ _ hu hs (by simpa using hlen.symm),?_⟩
  have e:L.set i (b,.cells (splice cs o []) T (0,0))=L:=by
   apply List.ext_getElem?
   intro j
   rw [List.getElem?_set]
   by_cases hij:i=j
   ·subst hij
    have:=(List.getElem?_eq_some_iff.1 hi).1
    rw [if_pos rfl,hi]; simp [this,splice]
   ·rw [if_neg hij]
  have:=k w (by rw [e]; exact h)
  simpa using this
 ·obtain ⟨a,ha,hc⟩:=hvs h0
  have hb:=h.at hi
  have hrun:=run_copy_cells (P:=P) w t t' ty el b o dLen dCap a src.len src.cap vs hu hs hlen hc (fun j hj=>by
   rw [qaj hb]; simp [show o+j<cs.size by omega]) (fun j hj=>by simp [World.frozen?,hb]) h1
  rw [qcu hb] at hrun
  refine ⟨(vs.length:Int),_,?_,k _ (h.upd i hi)⟩
  rw [ha]
  exact hrun
theorem qs0 {P:Program} {f:FuncId} {fn:Func} {e:Array Value->Sem Value} {args:List Value} {ts:List Ty1} {w:World} {K:ElR ts->World->Prop} (hf:P.funcs[f]?=some fn) (hname:(fn.name== "runtime.NumGoroutine")=false) (hb:fn.body.isNone=true) (hn:Extern.findNext fn=none) (he:Extern.find fn=some e)
  (x:ElR ts) (w':World) (hrun:(e args.toArray).run P w=.ok (resVal ts x) w') (k:K x w'):Pt.ext P f args ts w K:=by
 refine ⟨x,w',?_,k⟩
 rw [run_callFunc_extern hf hname hb hn he]
 simp [hrun]
end Go.Pt
end
section
set_option linter.unusedVariables false
set_option linter.unusedSimpArgs false
namespace Go.Proofs.YtmbcedengdoamaaGreatDoor
open Go Go.Pt
attribute [local irreducible] ld ldA ldV fld fldA newZ st new idx idxS idxA slc slcS slcP mkS chk nn call callV inv run runQ runU join loop held ext rng undefer s2a nxt ent IntKind.wrap
theorem qf7 {α:Type} (A X Y Z:List α) (h:X.length=Y.length):(A++X++Z).take A.length++Y++(A++X++Z).drop (A.length+Y.length)=A++Y++Z:=by
 have h1:(A++X++Z).take A.length=A:=by rw [List.append_assoc,List.take_append_of_le_length (Nat.le_refl _),List.take_of_length_le (Nat.le_refl _)]
 have h2:(A++X++Z).drop (A.length+Y.length)=Z:=by
  rw [<- h,<- List.length_append,List.drop_append_of_le_length (Nat.le_refl _),List.drop_of_length_le (Nat.le_refl _),List.nil_append]
 rw [h1,h2]
theorem qjk {A X Y Z:List Int} (h:X.length=Y.length):splice (bytesA (A++X++Z)) A.length (Y.map (Value.int .u8))=bytesA (A++Y++Z):=by
 apply Array.ext'
 rw [qaw _ _ _ (by rw [qec]; simp only [List.length_append,List.length_map]; omega)]
 have:=qf7 (A.map (Value.int .u8)) (X.map (Value.int .u8)) (Y.map (Value.int .u8)) (Z.map (Value.int .u8)) (by simpa using h)
 simpa only [bytesA,List.map_append,List.toList_toArray,List.length_map] using this
def zs (n:Nat):List Int:=List.replicate n 0
theorem qaC (n:Nat):(zs n).length=n:=List.length_replicate
theorem qhy (a b:Nat):zs (a+b)=zs a++zs b:=List.replicate_append_replicate.symm
theorem qv7:zs 1=[0]:=rfl
theorem qfI (n:Nat):(List.replicate n (Value.int .u8 0)).toArray=bytesA (zs n):=by unfold bytesA zs; rw [List.map_replicate]
theorem Own.bytes {S:List Nat} {w0 w:World} {L:List (Nat×Obj)} {b:Nat} {T:TypeId} {l l':List Int} (h:Own S w0 w ((b,.cells (bytesA l) T (0,0))::L)) (e:l=l'):Own S w0 w ((b,.cells (bytesA l') T (0,0))::L):=by rw [<- e]; exact h
def restV (number kind:Int) (body:List Int):List Int:=be number 4++[kind]++be (IntKind.wrap .u32 body.length) 2++[0]++body++zs (500-body.length)
def sealV (number kind:Int) (body:List Int):List Int:=be (sumV (restV number kind body)) 4++restV number kind body
theorem qer {number kind:Int} {body:List Int} (h:body.length<=500):(restV number kind body).length=508:=by
 simp only [restV,qah,qaC,List.length_append,List.length_cons,List.length_nil]; omega
theorem qct {number kind:Int} {body:List Int} (h:body.length<=500):(sealV number kind body).length=512:=by
 rw [sealV,List.length_append,qah,qer h]
theorem qnb {S:List Nat} {w:World} {s:Sl} {l:List Int} {number kind:Int} {K:Sl×Int->World->Prop} (h:RdB S w s l) (hv:Hv w) (hl:l.length<=100000)
  (hlong:500<l.length->K (⟨none,0,0⟩,3) w)
  (hk:l.length<=500->∀ b T w',w'.heap[b]?=some (.cells (bytesA (sealV number kind l)) T (0,0))->Fr [] w w'->w.heap.size<=b->K (⟨some ⟨b,0,none⟩,512,512⟩,0) w') :
  call Tryz.prog 99 [.int .u32 number,.int .u8 kind,.slice s.a s.len s.cap] [.one .slice,.one (.int .i64)] w K:=by
 refine qpz (body:=s) ?_
 unfold qmL
 have hlen:=h.1
 refine qaa (fun hc=>hlong (by have:=of_decide_eq_true hc; omega)) (fun hc=>?_)
 have hle:l.length<=500:=by have:=of_decide_eq_false hc; omega
 refine Own.mk1 (Own.start [] w) (by decide) (by decide) (by decide) (by decide) fun b w1 eb ho=>?_
 rw [qfI] at ho
 replace ho:=Own.bytes (l':=zs 4++zs 4++zs 504) ho (by rw [<- qhy,<- qhy]; rfl)
 refine qrs (by decide) (by decide) (by decide) (by decide) ?_
 refine qp0 (k:=4) ho 0 rfl (qaC 4) (qaC 4) (by decide) fun w2 ho=>?_
 replace ho:=Own.bytes (l':=(zs 4++be number 4)++zs 1++zs 503) ho (by rw [show (504:Nat)=1+503 from rfl,qhy,List.append_assoc,List.append_assoc,List.append_assoc])
 refine qc7 (by omega) (by simp) ?_
 refine Own.st ho 0 rfl _ (qjk (A:=zs 4++be number 4) (X:=zs 1) (Y:=[kind]) rfl) rfl (by rw [qec]; simp only [List.length_append,qaC,qah]; rfl) fun w3 ho _=>?_
 replace ho:=Own.bytes (l':=(zs 4++be number 4++[kind])++zs 2++zs 501) ho (by rw [show (503:Nat)=2+501 from rfl,qhy,List.append_assoc,List.append_assoc,List.append_assoc,List.append_assoc,List.append_assoc])
 refine qrs (by omega) (by omega) (by simp) (by simp) ?_
 refine qp0 (k:=2) ho 0 rfl (by simp only [List.length_append,qaC,qah]; rfl) (qaC 2) (by decide) fun w4 ho=>?_
 replace ho:=Own.bytes (l':=(zs 4++be number 4++[kind]++be (IntKind.wrap .u32 s.len) 2++[0])++zs l.length++zs (500-l.length)) ho (by
  rw [show (501:Nat)=1+(l.length+(500-l.length)) by omega,qhy,qhy,qv7]
  simp only [List.append_assoc])
 refine qpN (by omega) (by simp) (by simp) (by simp) ?_
 have h4:RdB S w4 s l:=h.frame0 ho.fr
 have e6:(zs 4++be number 4++[kind]++be (IntKind.wrap .u32 s.len) 2++[0]).length=12:=by simp only [List.length_append,qaC,qah]; rfl
 refine Own.copy1 (el:=5) (vs:=l.map (Value.int .u8)) ho 0 rfl (by kernel_rfl) (by kernel_rfl) (by rw [List.length_map,hlen]; exact (Nat.min_eq_left (by show l.length<=500; omega)).symm) (fun hne=>?_) (fun v hv=>by obtain ⟨x,_,rfl⟩:=List.mem_map.1 hv; rfl) (by rw [qec,List.length_append,List.length_append,e6,qaC,qaC,List.length_map]; omega) fun w5 ho=>?_
 ·rcases h4.2.2 with h3 | ⟨bb,o,cs,T,fr,ha,_⟩
  ·rw [h3] at hne; exact absurd rfl hne
  ·refine ⟨_,ha,?_⟩
   have:=h4.cells qat ha
   rw [qaO] at this
   exact this
 have e5:=qjk (A:=zs 4++be number 4++[kind]++be (IntKind.wrap .u32 s.len) 2++[0]) (X:=zs l.length) (Y:=l) (Z:=zs (500-l.length)) (qaC _)
 rw [e6] at e5
 have e7:(0:Nat)+Int.toNat 12*1=12:=rfl
 rw [e7,e5] at ho
 replace ho:=Own.bytes (l':=[]++zs 4++restV number kind l) ho (by simp only [restV,hlen,List.append_assoc,List.nil_append])
 refine qpB ⟨by omega,by simp⟩ ?_
 refine qpN (by omega) (by simp) (by simp) (by simp) ?_
 have hd:=ho.drew
 have hr:RdB [] w5.drew ⟨some ⟨b,0+Int.toNat 4*1,none⟩,(512:Int).toNat-Int.toNat 4,(512:Int).toNat-Int.toNat 4⟩ (restV number kind l):=by
  have:=qdT (S:=[]) (o:=4) (n:=508) (cap:=508) (hd.at (i:=0) rfl) (by rw [List.length_append,List.length_append,qaC,qer hle]; simp) (Nat.le_refl _) (by simp)
  ·rw [List.nil_append,List.drop_append_of_le_length (by rw [qaC]; exact Nat.le_refl _),List.drop_of_length_le (by rw [qaC]; exact Nat.le_refl _),List.nil_append,List.take_of_length_le (by rw [qer hle]; exact Nat.le_refl _)] at this
   exact this
 have hv5:Hv w5.drew:=hv.frame0 hd.fr
 refine qti hr hv5 (by rw [qer hle]; decide) ?_
 refine qp0 (k:=4) hd 0 rfl rfl (qaC 4) (by decide) fun w6 ho=>?_
 refine hk hle b _ w6 (ho.at (i:=0) rfl) ho.fr (by omega)
def IsB (l:List Int):Prop:=∀ x∈l,0<=x/\x<256
theorem IsB.take {l:List Int} (h:IsB l) (n:Nat):IsB (l.take n):=fun x hx=>h x (List.mem_of_mem_take hx)
theorem IsB.drop {l:List Int} (h:IsB l) (n:Nat):IsB (l.drop n):=fun x hx=>h x (List.mem_of_mem_drop hx)
theorem qtB {l:List Int} (h:IsB l):((Lib.countByte (Lib.bytesOf l) (0:Int).toNat.toUInt8:Nat):Int)=l.length↔∀ x∈l,x=0:=by
 have key:∀ l:List Int,IsB l->((Lib.bytesOf l).count (0:UInt8)<=l.length/\((Lib.bytesOf l).count (0:UInt8)=l.length↔∀ x∈l,x=0)):=by
  intro l
  induction l with
  | nil=>intro _; simp [Lib.bytesOf]
  | cons a l ih=>
   intro hl
   obtain ⟨i1,i2⟩:=ih (fun x hx=>hl x (List.mem_cons_of_mem _ hx))
   have ha:=hl a (by simp)
   have e:Lib.bytesOf (a::l)=UInt8.ofNat a.toNat::Lib.bytesOf l:=rfl
   rw [e,List.count_cons]
   have hz:(UInt8.ofNat a.toNat==0)=decide (a=0):=by
    by_cases h0:a=0
    ·subst h0; rfl
    ·rw [decide_eq_false h0,beq_eq_false_iff_ne]
     intro hq
     have:=congrArg UInt8.toNat hq
     simp at this
     omega
   rw [hz]
   by_cases h0:a=0
   ·subst h0
    simp only [decide_true,if_true,List.length_cons,List.mem_cons,forall_eq_or_imp,true_and]
    exact ⟨by omega,by rw [<- i2]; omega⟩
   ·simp only [h0,decide_false,Bool.false_eq_true,if_false,List.length_cons,List.mem_cons,forall_eq_or_imp,false_and,iff_false]
    omega
 have:=(key l h).2
 show (((Lib.bytesOf l).count _:Nat):Int)=_↔_
 rw [<- this]
 exact Int.ofNat_inj
theorem qnC {S:List Nat} {w:World} {s:Sl} {l:List Int} {b2 cap2:Nat} {K:Int->World->Prop} (h:RdB S w s l) (hB:IsB l) (hc2:w.cell? ⟨b2,0,none⟩=some (.int .u8 0))
  (hk:∀ c:Int,(c=l.length↔∀ x∈l,x=0)->K c w) :
  call Tryz.prog 120 [.slice s.a s.len s.cap,.slice (some ⟨b2,0,none⟩) 1 cap2] [.one (.int .i64)] w K:=by
 refine qnc (s:=s) (sep:=⟨some ⟨b2,0,none⟩,1,cap2⟩) ?_
 unfold qjB
 have hlen:=h.1
 refine cond_false (by rfl) ?_
 refine cond_true (by rfl) ?_
 refine qc7 (by omega) (by simp) ?_
 refine qoU (c:=.int .u8) 0 hc2 ?_
 have hcount:(Extern.BytealgCount.count #[.slice s.a s.len s.cap,.int .u8 0]).run Tryz.prog w=.ok (.int .i64 (Lib.countByte (Lib.bytesOf l) (0:Int).toNat.toUInt8)) w:=by
  cases ha:s.a with
  | none=>
   have hl0:l=[]:=by
    rcases h.2.2 with h3 | ⟨b,o,cs,T,fr,ha',_⟩
    ·exact h3
    ·rw [ha] at ha'; cases ha'
   subst hl0
   exact Lib.run_countNil w _ _ _
  | some a=>
   refine Lib.run_countAt w a s.len s.cap l hlen.symm (fun i hi=>?_) 0
   have:=h.cells qat ha i (.int .u8 (l.getD i 0)) ?_
   ·exact this
   ·rw [qaO,List.getElem?_map,List.getD_eq_getElem?_getD,List.getElem?_eq_getElem (by omega)]; rfl
 refine qs0 (e:=Extern.BytealgCount.count) Tryz.func142 (by kernel_rfl) (by kernel_rfl) (by kernel_rfl) (by kernel_rfl) (((Lib.countByte (Lib.bytesOf l) (0:Int).toNat.toUInt8:Nat):Int)) w hcount ?_
 exact hk _ (qtB hB)
def openV (number:Int) (b:List Int):Int×List Int×Int:=
 if b.length≠512 then (0,[],1)
 else if getV (b.take 4)≠sumV (b.drop 4) then (0,[],8)
 else if getV ((b.take 8).drop 4)≠number then (0,[],4)
 else if getV ((b.take 11).drop 9)>500\/b.getD 11 0≠0 then (0,[],2)
 else if ∃ x∈b.drop (12+(getV ((b.take 11).drop 9)).toNat),x≠0 then (0,[],2)
 else (b.getD 8 0,(b.take (12+(getV ((b.take 11).drop 9)).toNat)).drop 12,0)
theorem qaL (x:Int) (h:0<=x/\x<4294967296):IntKind.wrap .u32 x=x:=by
 unfold IntKind.wrap
 have:(IntKind.u32.signed)=false:=rfl
 simp only [this,Bool.false_and,Bool.false_eq_true,if_false]
 exact Int.emod_eq_of_lt h.1 h.2
theorem qa8 (x:Int):0<=IntKind.wrap .u32 x/\IntKind.wrap .u32 x<4294967296:=by
 unfold IntKind.wrap
 have:(IntKind.u32.signed)=false:=rfl
 simp only [this,Bool.false_and,Bool.false_eq_true,if_false]
 exact ⟨Int.emod_nonneg _ (by decide),Int.emod_lt_of_pos _ (by decide)⟩
theorem qdW (op:BinOp) (x y:Int):0<=bits op .u32 x y/\bits op .u32 x y<4294967296:=qa8 _
theorem qrQ (l:List Int):0<=getV l/\getV l<4294967296:=by
 unfold getV
 have:∀ (l:List Int) (a:Int),0<=a/\a<4294967296->0<=l.foldl (fun r x=>bits .or .u32 (IntKind.wrap .u32 (r*2^8)) (IntKind.wrap .u32 x)) a/\l.foldl (fun r x=>bits .or .u32 (IntKind.wrap .u32 (r*2^8)) (IntKind.wrap .u32 x)) a<4294967296:=by
  intro l
  induction l with
  | nil=>intro a h; exact h
  | cons x l ih=>intro a _; exact ih _ (qdW _ _ _)
 exact this l 0 (by decide)
theorem qnE {S:List Nat} {w:World} {s:Sl} {l:List Int} {number:Int} {K:Int×Sl×Int->World->Prop} (h:RdB S w s l) (hv:Hv w) (hB:IsB l) (hl:l.length<=100000)
  (hk:∀ s' B w',BufB w' s' (openV number l).2.1 B->Fr [] w w'->(∀ b∈B,w.heap.size<=b)->K ((openV number l).1,s',(openV number l).2.2) w') :
  call Tryz.prog 85 [.int .u32 number,.slice s.a s.len s.cap] [.one (.int .u8),.one .slice,.one (.int .i64)] w K:=by
 refine qpl (b:=s) ?_
 unfold ql6
 have hlen:=h.1
 have bad:∀ {e:Int} {w':World},openV number l=(0,[],e)->Fr [] w w'->K (0,⟨none,0,0⟩,e) w':=by
  intro e w' he hf
  have:=hk ⟨none,0,0⟩ [] w' (by rw [he]; exact .nil _ _ _) hf (by simp)
  rw [he] at this
  exact this
 refine qaa (fun hc=>?_) (fun hc=>?_)
 ·refine bad ?_ (.refl _ _)
  have:l.length≠512:=by simp at hc; omega
  simp [openV,this]
 have h512:l.length=512:=by simp at hc; omega
 refine Rds.part h 0 4 rfl rfl (by omega) (by omega) fun s1 l1 r1 _=>?_
 refine Rds.part h 4 512 rfl (by rw [hlen,h512]; rfl) (by omega) (by omega) fun s2 l2 r2 _=>?_
 rw [List.take_of_length_le (by omega)] at r2
 rw [List.drop_zero] at r1
 have fd:Fr [] w w.drew:=(Fr.refl _ _).drew
 have hvd:Hv w.drew:=hv.frame0 fd
 refine qp6 (w:=w.drew) r1 (by rw [List.length_take]; omega) ?_
 refine qti (w:=w.drew) r2 hvd (by rw [List.length_drop]; omega) ?_
 have h0:¬ l.length≠512:=by omega
 refine qaa (fun hc=>?_) (fun hc=>?_)
 ·refine bad ?_ fd
  have:getV (l.take 4)≠sumV (l.drop 4):=by simpa using hc
  rw [openV,if_neg h0,if_pos this]
 have h1:¬ getV (l.take 4)≠sumV (l.drop 4):=by simpa using hc
 have hd:RdB S w.drew s l:=h
 refine Rds.part hd 4 8 rfl rfl (by omega) (by omega) fun s3 l3 r3 _=>?_
 refine qp6 r3 (by rw [List.length_drop,List.length_take]; omega) ?_
 refine qaa (fun hc=>?_) (fun hc=>?_)
 ·refine bad ?_ fd
  have:getV ((l.take 8).drop 4)≠number:=by simpa using hc
  rw [openV,if_neg h0,if_neg h1,if_pos this]
 have h2:¬ getV ((l.take 8).drop 4)≠number:=by simpa using hc
 refine Rds.part hd 9 11 rfl rfl (by omega) (by omega) fun s4 l4 r4 _=>?_
 refine qp6 r4 (by rw [List.length_drop,List.length_take]; omega) ?_
 have hn:=qrQ ((l.take 11).drop 9)
 have g11:l[11]?=some (l.getD 11 0):=by rw [List.getD_eq_getElem?_getD,List.getElem?_eq_getElem (by omega)]; rfl
 have g8:l[8]?=some (l.getD 8 0):=by rw [List.getD_eq_getElem?_getD,List.getElem?_eq_getElem (by omega)]; rfl
 refine qaf (fun b w'=>b=decide (getV ((l.take 11).drop 9)>500\/l.getD 11 0≠0)/\w'=w.drew) ?_ ?_
 ·refine qaa (fun hc=>?_) (fun hc=>?_)
  ·exact ⟨by rw [decide_eq_true (Or.inl (of_decide_eq_true hc))],rfl⟩
  ·refine RdB.at hd 11 rfl g11 ⟨?_,rfl⟩
   have:=of_decide_eq_false hc
   generalize l.getD 11 0=z
   by_cases hz:z=0 <;> simp [this,hz]
 rintro b w1 ⟨rfl,rfl⟩
 refine qaa (fun hc=>?_) (fun hc=>?_)
 ·refine bad ?_ fd
  rw [openV,if_neg h0,if_neg h1,if_neg h2,if_pos (of_decide_eq_true hc)]
 have h3:=of_decide_eq_false hc
 have hn500:getV ((l.take 11).drop 9)<=500:=by
  rcases Int.lt_or_le 500 (getV ((l.take 11).drop 9)) with h | h
  ·exact absurd (Or.inl h) h3
  ·exact h
 have ov:openV number l=if ∃ x∈l.drop (12+(getV ((l.take 11).drop 9)).toNat),x≠0 then (0,[],2) else (l.getD 8 0,(l.take (12+(getV ((l.take 11).drop 9)).toNat)).drop 12,0):=by
  rw [openV,if_neg h0,if_neg h1,if_neg h2,if_neg h3]
 generalize getV ((l.take 11).drop 9)=n at hn hn500 ov
 obtain ⟨m,rfl⟩:∃ m:Nat,n=m:=⟨n.toNat,by omega⟩
 rw [qaL _ (by omega)]
 rw [Int.toNat_natCast] at ov
 refine Rds.part hd (12+m) 512 (by simp) (by rw [hlen,h512]; rfl) (by omega) (by omega) fun s5 l5 r5 _=>?_
 rw [List.take_of_length_le (by omega)] at r5
 have ho:=Own.start [] w.drew
 refine Own.new ho fun zb w2 ez sz ho=>?_
 have r5':RdB S w2 s5 (l.drop (12+m)):=r5.frame0 ho.fr
 refine qnC r5' (hB.drop _) (ho.cell (off:=0) 0 rfl rfl) fun c hcz=>?_
 have fd2:Fr [] w w2:=fd.trans ho.fr
 have hl5:=r5.1
 refine qaa (fun hc=>?_) (fun hc=>?_)
 ·refine bad ?_ fd2
  have hne:¬ ∀ x∈l.drop (12+m),x=0:=by
   rw [<- hcz]
   intro e
   rw [e,hl5] at hc
   simp at hc
  rw [ov,if_pos]
  exact Classical.byContradiction fun hno=>hne fun x hx=>Classical.byContradiction fun hx0=>hno ⟨x,hx,hx0⟩
 ·have hall:∀ x∈l.drop (12+m),x=0:=by
   rw [<- hcz]
   rw [hl5] at hc
   simpa using hc
  rw [if_neg (by rintro ⟨x,hx,h0⟩; exact h0 (hall x hx))] at ov
  have hd2:RdB S w2.drew s l:=(h.frame0 fd2).drew
  obtain ⟨_,b8,o8,ha8,_,cs8,T8,fr8,hb8,hc8⟩:=Rds.at hd2 8 g8
  have hcell:cs8[o8+8]?=some (.int .u8 (l.getD 8 0)):=by
   have:=congrArg (·[0]?) hc8
   simpa using this
  refine qaU ha8 ⟨by omega,by omega⟩ ?_
  have ecell:∀ {w':World},w'.heap[b8]?=some (.cells cs8 T8 fr8)->w'.cell? ⟨b8,o8+Int.toNat 8*1,none⟩=some (.int .u8 (l.getD 8 0)):=fun hb=>by
   rw [qaj hb]; exact hcell
  refine qoU (c:=.int .u8) (l.getD 8 0) (ecell hb8) ?_
  refine Rds.part hd2 12 (12+m) rfl (by simp) (by omega) (by omega) fun s6 l6 r6 _=>?_
  have lm:((l.take (12+m)).drop 12).length=m:=by rw [List.length_drop,List.length_take]; omega
  refine qnF r6 (by rw [lm]; omega) fun s7 B w3 hb7 f7 n7 _ _=>?_
  refine qan (ecell (by rw [f7.block b8 (qac hb8) (by simp)]; exact hb8)) ?_
  have e1:(w2.drew).heap.size=w2.heap.size:=rfl
  have:=hk s7 B w3 (by rw [ov]; exact hb7) (fd2.drew.trans f7) (fun b hb=>by have:=n7 b hb; have:=fd2.size; omega)
  rw [ov] at this
  exact this
end Go.Proofs.YtmbcedengdoamaaGreatDoor
end
section
set_option linter.unusedVariables false
set_option linter.unusedSimpArgs false
namespace Go.Proofs.YtmbcedengdoamaaGreatDoor
open Go Go.Pt
theorem wu8 (x:Int):IntKind.wrap .u8 x=x%256:=by
 unfold IntKind.wrap
 have:(IntKind.u8.signed)=false:=rfl
 simp only [this,Bool.false_and,Bool.false_eq_true,if_false]
 rfl
theorem qv5 {r x:Int} (hr:0<=r/\r<16777216) (hx:0<=x/\x<256):bits .or .u32 (IntKind.wrap .u32 (r*2^8)) (IntKind.wrap .u32 x)=r*256+x:=by
 rw [qaL x (by omega),qaL (r*2^8) (by omega)]
 obtain ⟨a,rfl⟩:∃ a:Nat,r=a:=⟨r.toNat,by omega⟩
 obtain ⟨b,rfl⟩:∃ b:Nat,x=b:=⟨x.toNat,by omega⟩
 have e1:((a:Int)*2^8)=((2^8*a:Nat):Int):=by omega
 rw [e1]
 show IntKind.wrap .u32 ((BitVec.ofInt 32 ((2^8*a:Nat):Int)||| BitVec.ofInt 32 (b:Int)).toNat:Nat)=_
 rw [BitVec.toNat_or,BitVec.ofInt_natCast,BitVec.ofInt_natCast,BitVec.toNat_ofNat,BitVec.toNat_ofNat,Nat.mod_eq_of_lt (show 2^8*a<2^32 by omega),Nat.mod_eq_of_lt (show b<2^32 by omega),<- Nat.two_pow_add_eq_or_of_lt (show b<2^8 by omega)]
 rw [qaL _ (by omega)]
 omega
def beV (l:List Int):Int:=l.foldl (fun r x=>r*256+x) 0
theorem qdX:∀ {l:List Int},IsB l->l.length<=4->getV l=beV l:=by
 have key:∀ (l:List Int) (r:Int) (k:Nat),IsB l->l.length<=k->k<=4->0<=r->r<256^(4-k)->
   l.foldl (fun r x=>bits .or .u32 (IntKind.wrap .u32 (r*2^8)) (IntKind.wrap .u32 x)) r=l.foldl (fun r x=>r*256+x) r:=by
  intro l
  induction l with
  | nil=>intros; rfl
  | cons x l ih=>
   intro r k hB hl hk h0 h1
   have hx:=hB x (by simp)
   simp only [List.length_cons] at hl
   have hr:r<16777216:=by
    have:(256:Int)^(4-k)<=256^3:=by
     have:(4-k)<=3:=by omega
     match k,hk,hl with
     | 1,_,_=>decide
     | 2,_,_=>decide
     | 3,_,_=>decide
     | 4,_,_=>decide
    have e:(256:Int)^3=16777216:=by decide
    omega
   rw [List.foldl_cons,List.foldl_cons,qv5 ⟨h0,hr⟩ hx]
   match k,hk,hl,h1 with
   | k+1,hk,hl,h1=>
    refine ih _ k (fun y hy=>hB y (List.mem_cons_of_mem _ hy)) (by omega) (by omega) (by omega) ?_
    have e:4-k=(4-(k+1))+1:=by omega
    rw [e,Int.pow_succ]
    omega
 intro l hB hl
 exact key l 0 4 hB hl (by decide) (by decide) (by decide)
theorem qc8 {n:Int} (h:0<=n) (j:Nat) (hj:j<=3):byteAt n j=n / 256^j%256:=by
 unfold byteAt
 rw [wu8,Int.fdiv_eq_ediv_of_nonneg _ (by exact Int.pow_nonneg (by decide))]
 match j,hj with
 | 0,_=>rfl
 | 1,_=>rfl
 | 2,_=>rfl
 | 3,_=>rfl
theorem be4 {n:Int} (h:0<=n):be n 4=[n / 16777216%256,n / 65536%256,n / 256%256,n%256]:=by
 have e:be n 4=[byteAt n 3,byteAt n 2,byteAt n 1,byteAt n 0]:=rfl
 rw [e,qc8 h 3 (by decide),qc8 h 2 (by decide),qc8 h 1 (by decide),qc8 h 0 (by decide)]
 simp
theorem be2 {n:Int} (h:0<=n):be n 2=[n / 256%256,n%256]:=by
 have e:be n 2=[byteAt n 1,byteAt n 0]:=rfl
 rw [e,qc8 h 1 (by decide),qc8 h 0 (by decide)]
 simp
theorem qbE (n:Int) (k:Nat):IsB (be n k):=by
 intro x hx
 obtain ⟨i,_,rfl⟩:=List.mem_map.1 hx
 unfold byteAt
 rw [wu8]
 omega
theorem qlF {n:Int} (h:0<=n/\n<4294967296):getV (be n 4)=n:=by
 rw [qdX (qbE _ _) (by rw [qah]; exact Nat.le_refl _),be4 h.1]
 show (((0*256+_)*256+_)*256+_)*256+_=n
 omega
theorem qub {n:Int} (h:0<=n/\n<65536):getV (be n 2)=n:=by
 rw [qdX (qbE _ _) (by rw [qah]; decide),be2 h.1]
 show (0*256+_)*256+_=n
 omega
theorem qfn (l:List Int):0<=sumV l/\sumV l<4294967296:=by
 unfold sumV moreV
 exact qdW _ _ _
theorem IsB.append {a b:List Int} (h:IsB a) (k:IsB b):IsB (a++b):=fun x hx=>by
 rcases List.mem_append.1 hx with h' | h'
 ·exact h x h'
 ·exact k x h'
theorem IsB.zs (n:Nat):IsB (zs n):=fun x hx=>by
 have:=List.eq_of_mem_replicate hx
 omega
theorem IsB.one {x:Int} (h:0<=x/\x<256):IsB [x]:=fun y hy=>by simp at hy; subst hy; exact h
theorem qnK {number kind:Int} {body:List Int} (hk:0<=kind/\kind<256) (hb:IsB body):IsB (restV number kind body):=
 (((((qbE _ _).append (.one hk)).append (qbE _ _)).append (.one (by decide))).append hb).append (.zs _)
theorem qcn {number kind:Int} {body:List Int} (hk:0<=kind/\kind<256) (hb:IsB body):IsB (sealV number kind body):=(qbE _ _).append (qnK hk hb)
theorem qla {number kind:Int} {body:List Int} (hn:0<=number/\number<4294967296) (hl:body.length<=500):openV number (sealV number kind body)=(kind,body,0):=by
 have hlen:IntKind.wrap .u32 (body.length:Int)=(body.length:Int):=qaL _ (by omega)
 have e0:sealV number kind body=be (sumV (restV number kind body)) 4++(be number 4++([kind]++(be body.length 2++([0]++(body++zs (500-body.length)))))):=by
  rw [sealV]
  conv=>lhs; rhs; rw [restV]
  rw [hlen]
  simp only [List.append_assoc]
 have l4:=qah (sumV (restV number kind body)) 4
 have e1:(sealV number kind body).take 4=be (sumV (restV number kind body)) 4:=by rw [sealV,List.take_append_of_le_length (by rw [qah]; exact Nat.le_refl _),List.take_of_length_le (by rw [qah]; exact Nat.le_refl _)]
 have e2:(sealV number kind body).drop 4=restV number kind body:=by rw [sealV,List.drop_append_of_le_length (by rw [qah]; exact Nat.le_refl _),List.drop_of_length_le (by rw [qah]; exact Nat.le_refl _),List.nil_append]
 have b4:∀ n,∃ a b c d,be n 4=[a,b,c,d]:=fun n=>⟨_,_,_,_,rfl⟩
 have b2:∀ n,∃ a b,be n 2=[a,b]:=fun n=>⟨_,_,rfl⟩
 obtain ⟨a0,a1,a2,a3,ha⟩:=b4 (sumV (restV number kind body))
 obtain ⟨n0,n1,n2,n3,hnn⟩:=b4 number
 obtain ⟨l0,l1,hll⟩:=b2 body.length
 have e3:sealV number kind body=a0::a1::a2::a3::n0::n1::n2::n3::kind::l0::l1::0::(body++zs (500-body.length)):=by
  rw [e0,ha,hnn,hll]; rfl
 have g1:getV ((sealV number kind body).take 4)=sumV ((sealV number kind body).drop 4):=by rw [e1,e2,qlF (qfn _)]
 have g2:getV (((sealV number kind body).take 8).drop 4)=number:=by
  have:((sealV number kind body).take 8).drop 4=be number 4:=by rw [e3,hnn]; rfl
  rw [this,qlF hn]
 have g3:getV (((sealV number kind body).take 11).drop 9)=body.length:=by
  have:((sealV number kind body).take 11).drop 9=be body.length 2:=by rw [e3,hll]; rfl
  rw [this,qub (by omega)]
 have g4:(sealV number kind body).getD 11 0=0:=by rw [e3]; rfl
 have g5:(sealV number kind body).getD 8 0=kind:=by rw [e3]; rfl
 have g6:(sealV number kind body).drop (12+body.length)=zs (500-body.length):=by
  rw [e3,Nat.add_comm]
  show (body++zs (500-body.length)).drop body.length=_
  rw [List.drop_append_of_le_length (Nat.le_refl _),List.drop_length,List.nil_append]
 have g7:((sealV number kind body).take (12+body.length)).drop 12=body:=by
  rw [e3,Nat.add_comm]
  show (body++zs (500-body.length)).take body.length=_
  rw [List.take_append_of_le_length (Nat.le_refl _),List.take_length]
 rw [openV,if_neg (by rw [qct hl]; simp),if_neg (by rw [g1]; simp),if_neg (by rw [g2]; simp),g3,g4,if_neg (by simp; omega),Int.toNat_natCast,g6,if_neg,g5,g7]
 rintro ⟨x,hx,h0⟩
 exact h0 (List.eq_of_mem_replicate hx)
end Go.Proofs.YtmbcedengdoamaaGreatDoor
end
section
set_option linter.unusedVariables false
namespace Go.Pt
open Go
variable {S:List Nat} {w0 w:World} {L:List (Nat×Obj)} {P:Program}
theorem Own.rng {v:Value} {pts:List Ty1} {body:ElR pts->(World->(World->Prop)->Prop)->(World->Prop)->(Nat->World->Prop)->World->Prop} {done:Nat->World->Prop} {jumps:List (Nat->World->Prop)} {f:FuncId} {lb:List Value} (h:Own S w0 w L) (hv:v=.func (.func f) #[] lb.toArray) (hb:bodyless P f=false)
  (k:∀ (D l:Nat) (R B:Obj) (J E:Nat->Obj) (E0:Obj) (w1:World),l=w.heap.size+1->D=w.heap.size->Fr [] w w1->Own S w0 w1 ((l,R)::(D,.deferred (some []))::L)->yieldsBy P pts body l R B J->
   call P f (.func (.yield l) #[] #[]::lb) [] w1 (fun _ W=>(W.heap[l]?=some R/\done D (Pt.upd W l E0))\/∃ i k,jumps[i]?=some k/\W.heap[l]?=some (J i)/\k D (Pt.upd W l (E i)))):Pt.rng P v pts body done jumps w:=by
 refine ⟨f,lb,hv,hb,fun R B J E E0 hy=>?_⟩
 have h1:=h.alloc (.deferred (some []))
 have h2:=h1.alloc R
 rw [World.size_alloc] at h2
 exact k _ _ R B J E E0 _ rfl rfl (((Fr.refl [] w).alloc _).alloc _) h2 hy
theorem Own.undefer {D:Nat} {K:World->Prop} (h:Own S w0 w L) (i:Nat) (hi:L[i]?=some (D,.deferred (some []))) (k:∀ w',Own S w0 w' (L.set i (D,.deferred none))->K w'):Pt.undefer D w K:=
 ⟨h.at hi,k _ (Own.upd h i hi)⟩
theorem qsh {v:Value} {f:FuncId} {lb args:List Value} {ts:List Ty1} {K:ElR ts->World->Prop} (hv:v=.func (.func f) #[] lb.toArray) (hb:bodyless P f=false) (k:call P f (args++lb) ts w K):callV P v args ts w K:=by
 subst hv
 refine .inl ⟨f,args++lb,?_,k⟩
 simp [Deferred.ofValue,invoke,qcy hb]
theorem qas {n b off:Nat} {cs:Array Value} {T:TypeId} {fr:Nat×Nat} {K:List Value->Prop} (hb:w.heap[b]?=some (.cells cs T fr)) (x:List Value) (h1:x.length=n) (hx:(cs.toList.drop off).take n=x) (k:K x):Pt.ldV n ⟨b,off,none⟩ w K:=
 ⟨x,⟨h1,qaJ hb _ off 0 (by rw [h1]; exact hx)⟩,k⟩
theorem qvF {cs:List Cell} {vs:List Value} {off:Nat} {K:HL cs->Prop} (x:HL cs) (h:vs.extract off (off+cs.length)=HL.mk cs x) (k:K x):Pt.fldA cs vs off K:=⟨x,h,k⟩
theorem qvV {a:Addr} {len cap n:Nat} {K:Addr->Prop} (h:n<=len) (k:K a):s2a ⟨some a,len,cap⟩ n K:=⟨a,rfl,h,k⟩
theorem Own.newFill {t:TypeId} {vs:List Value} {n:Nat} {K:Nat->World->Prop} (h:Own S w0 w L) (hz:((P.info? t).bind (·.zero)).map (fun z=>z.cells.size)=some n) (hn:vs.length=n) (h1:(vs.all Value.oneCell')=true)
  (k:∀ b w',b=w.heap.size->Own S w0 w' ((b,.cells vs.toArray t (0,0))::L)->K b w'):Pt.newZ P t w fun r w1=>chk (vs.length=n) (Pt.st ⟨r,0,none⟩ vs w1 fun w2=>K r w2):=by
 obtain ⟨z,hz,hzs⟩:=Option.map_eq_some_iff.1 hz
 refine ⟨z,hz,hn,?_⟩
 have h2:=h.alloc (.cells z.cells t)
 refine Own.st h2 0 rfl vs.toArray (qa1 (by omega)) h1 (Nat.ble_eq_true_of_le (by omega)) fun w' h3 _=>?_
 exact k _ w' rfl h3
theorem Own.newZ {t:TypeId} {zs:List Value} {K:Nat->World->Prop} (h:Own S w0 w L) (hz:((P.info? t).bind (·.zero)).map (fun z=>z.cells.toList)=some zs)
  (k:∀ b w',b=w.heap.size->Own S w0 w' ((b,.cells zs.toArray t (0,0))::L)->K b w'):Pt.newZ P t w K:=by
 obtain ⟨z,hz,hzs⟩:=Option.map_eq_some_iff.1 hz
 refine ⟨z,hz,?_⟩
 have h2:=h.alloc (.cells z.cells t)
 have e:zs.toArray=z.cells:=by rw [<- hzs]
 rw [<- e] at h2 ⊢
 exact k _ _ rfl h2
theorem qqq {zero:List Value} {k:Nat} (hk:zero.length=k) (n:Nat):(mkCells (if n*k=0 then [] else zero) (n*k)).toList=(List.replicate n zero).flatten:=by
 by_cases h0:n*k=0
 ·rw [if_pos h0,h0]
  rcases Nat.mul_eq_zero.1 h0 with h | h
  ·subst h; simp [mkCells]
  ·have:zero=[]:=List.eq_nil_of_length_eq_zero (by omega)
   subst this
   simp [mkCells]
 ·rw [if_neg h0]
  have hpos:0<k:=Nat.pos_of_ne_zero fun e=>h0 (by rw [e]; simp)
  apply List.ext_getElem?
  intro i
  have hlen:∀ n,((List.replicate n zero).flatten).length=n*k:=by intro n; simp [hk]
  have key:∀ n i,i<n*k->((List.replicate n zero).flatten)[i]?=zero[i%k]?:=by
   intro n
   induction n with
   | zero=>intro i hi; simp at hi
   | succ n ih=>
    intro i hi
    rw [Nat.succ_mul] at hi
    rw [List.replicate_succ,List.flatten_cons]
    by_cases hik:i<k
    ·rw [List.getElem?_append_left (by omega),Nat.mod_eq_of_lt hik]
    ·rw [List.getElem?_append_right (by omega),hk,ih (i-k) (by omega)]
     congr 1
     exact (Nat.mod_eq_sub_mod (by omega)).symm
  have hl2:=hlen n
  have hsz:(mkCells zero (n*k)).toList.length=n*k:=by simp [mkCells]
  by_cases hi:i<n*k
  ·rw [key n i hi]
   have hlt:i%k<zero.length:=by rw [hk]; exact Nat.mod_lt _ hpos
   have h1:(mkCells zero (n*k)).toList[i]?=some (zero.toArray[i%zero.toArray.size]!):=by
    simp [mkCells,hi]
   rw [h1,List.getElem?_eq_getElem hlt]
   simp [hk,List.getElem?_eq_getElem hlt]
  ·rw [List.getElem?_eq_none (by rw [hsz]; omega),List.getElem?_eq_none (by rw [hl2]; omega)]
theorem Own.mkN {el:TypeId} {zero:List Value} {size bytes:Nat} {l c:Int} {K:Sl->World->Prop} (h:Own S w0 w L) (hk:zero.length=size) (h0:0<=l) (h1:l<=c) (h2:(bytes:Int)*c<=2^48) (h3:c<=2^48)
  (k:∀ b w',b=w.heap.size->Own S w0 w' ((b,.cells ((List.replicate c.toNat zero).flatten).toArray el (0,0))::L)->K ⟨some ⟨b,0,none⟩,l.toNat,c.toNat⟩ w'):mkS el zero size bytes l c w K:=by
 refine ⟨⟨h0,h1,h2,h3⟩,?_⟩
 have e:=qqq hk c.toNat
 have e':mkCells (if c.toNat*size=0 then [] else zero) (c.toNat*size)=((List.replicate c.toNat zero).flatten).toArray:=by
  apply Array.ext'
  rw [e]
 rw [e']
 exact k _ _ rfl (h.alloc _)
theorem Own.new' {o:Obj} {K:Nat->World->Prop} (h:Own S w0 w L) (k:∀ b w',b=w.heap.size->Fr [] w w'->Own S w0 w' ((b,o)::L)->K b w'):Pt.new o w K:=
 k _ _ rfl ((Fr.refl [] w).alloc o) (h.alloc o)
theorem Own.st' {b off:Nat} {cs:Array Value} {T:TypeId} {vs:List Value} {K:World->Prop} (h:Own S w0 w L) (i:Nat) (hi:L[i]?=some (b,.cells cs T (0,0))) (cs':Array Value) (hcs:splice cs off vs=cs') (h1:(vs.all Value.oneCell')=true) (hl:off+vs.length<=cs.size)
  (k:∀ w',Own S w0 w' (L.set i (b,.cells cs' T (0,0)))->Fr [b] w w'->K w'):Pt.st ⟨b,off,none⟩ vs w K:=
 qhm (w:=w) vs off 0 cs w K (h.at hi) h1 hl (k _ (by rw [Nat.add_zero,hcs]; exact Own.upd h i hi) (qbG (qac (h.at hi)) _))
theorem qaX {b off:Nat} {cs:Array Value} {T:TypeId} {vs:List Value} {K:World->Prop} (hb:w.heap[b]?=some (.cells cs T (0,0))) (cs':Array Value) (hcs:splice cs off vs=cs') (h1:(vs.all Value.oneCell')=true) (hl:off+vs.length<=cs.size)
  (k:∀ w',w'.heap[b]?=some (.cells cs' T (0,0))->Fr [b] w w'->K w'):Pt.st ⟨b,off,none⟩ vs w K:=
 qhm (w:=w) vs off 0 cs w K hb h1 hl (k _ (by rw [Nat.add_zero,hcs,qaG _ _ _ _ (qac hb),if_pos rfl]) (qbG (qac hb) _))
theorem Own.rebase (h:Own S w0 w L):Own (L.map (·.1)) w w L:=⟨h.blk,h.nodup,.refl _ _,fun p hp=>.inl (List.mem_map_of_mem hp)⟩
theorem Own.rebaseS (h:Own S w0 w L) (T:List Nat):Own (L.map (·.1)++T) w w L:=⟨h.blk,h.nodup,.refl _ _,fun p hp=>.inl (List.mem_append_left _ (List.mem_map_of_mem hp))⟩
theorem Own.backS {w':World} {T:List Nat} (h:Own S w0 w L) (hT:∀ b∈T,b∈S\/w0.heap.size<=b) (f:Fr (L.map (·.1)++T) w w'):Fr S w0 w':=
 h.fr.trans' f fun b hb=>by
  rcases List.mem_append.1 hb with hb | hb
  ·obtain ⟨p,hp,rfl⟩:=List.mem_map.1 hb
   exact h.own p hp
  ·exact hT b hb
theorem Own.rejoin {w':World} {T:List Nat} {L':List (Nat×Obj)} (h:Own S w0 w L) (hT:∀ b∈T,b∈S\/w0.heap.size<=b) (k:Own (L.map (·.1)++T) w w' L'):Own S w0 w' L':=
 ⟨k.blk,k.nodup,h.backS hT k.fr,fun p hp=>by
  rcases k.own p hp with hb | hb
  ·rcases List.mem_append.1 hb with hb | hb
   ·obtain ⟨q,hq,hqe⟩:=List.mem_map.1 hb
    rw [<- hqe]; exact h.own q hq
   ·exact hT _ hb
  ·exact .inr (Nat.le_trans h.fr.size hb)⟩
theorem Own.back {w':World} {L':List (Nat×Obj)} (h:Own S w0 w L) (f:Fr (L.map (·.1)) w w'):Fr S w0 w':=
 h.fr.trans' f fun b hb=>by
  obtain ⟨p,hp,rfl⟩:=List.mem_map.1 hb
  exact h.own p hp
def fieldsOf (P:Program) (t:TypeId):Array Field:=match P.underlying t with | some (.struct fs)=>fs | _=>#[]
theorem qsx {t:TypeId} {z a b:Value} {o1 s0 s1:Nat} (hz:(P.info? t).bind (·.zero)=some z) (hu:P.underlying t=some (.struct (fieldsOf P t))) (hpl:∀ w,((fieldsOf P t).mapM fun f=>do pure (f.offset,<- sizeOf f.type):Sem (Array (Nat×Nat))).run P w=.ok #[(0,s0),(o1,s1)] w)
  (ha:a.cells.size=s0) (hb:b.cells.size=s1) (ho:o1=s0) (hs:z.cells.size=s0+s1) (w:World):(Instr.build t #[(0,a),(1,b)]).run P w=.ok (.agg (a.cells.toList++b.cells.toList).toArray) w:=by
 have h1:=qh0 0 a.cells z.cells
 have h2:=qh0 o1 b.cells (splice z.cells 0 a.cells.toList)
 have key:Instr.fill ((#[(0,s0),(o1,s1)]:Array (Nat×Nat))[·]?) z.cells [(0,a),(1,b)]=some (a.cells.toList++b.cells.toList).toArray:=by
  have e0:(#[(0,s0),(o1,s1)]:Array (Nat×Nat))[0]?=some (0,s0):=rfl
  have e1:(#[(0,s0),(o1,s1)]:Array (Nat×Nat))[1]?=some (o1,s1):=rfl
  simp only [Instr.fill,e0,e1]
  have c1:¬ (decide (a.cells.size≠s0)||decide (0+a.cells.size>z.cells.size))=true:=by simp [ha]; omega
  have c2:¬ (decide (b.cells.size≠s1)||decide (o1+b.cells.size>(splice z.cells 0 a.cells.toList).size))=true:=by simp [hb,qbv]; omega
  rw [if_neg c1,h1,if_neg c2,h2]
  congr 1
  apply Array.ext'
  rw [qaw _ _ _ (by rw [qbv,Array.length_toList]; omega),qaw _ _ _ (by rw [Array.length_toList]; omega)]
  have hal:a.cells.toList.length=o1:=by rw [Array.length_toList]; omega
  simp only [List.take_zero,List.nil_append,Nat.zero_add]
  rw [List.take_append_of_le_length (by omega),List.take_of_length_le (by omega),List.drop_of_length_le (by simp; omega),List.append_nil]
 simp only [Instr.build,Sem.run_bind,qaZ hz,Result.andThen_ok,run_underlying hu,hpl,key,Sem.run_pure]
theorem Rds.getV {α:Type} {enc:α->List Value} {k:Nat} {S:List Nat} {w:World} {s:Sl} {l:List α} (h:Rds enc k S w s l) (henc:∀ x,(enc x).length=k) (n:Nat) {i:Int} {x:α} {K:List Value->Prop} (hi:i=n) (hx:l[n]?=some x) (kk:K (enc x)):idx s i k fun a=>Pt.ldV k a w K:=by
 subst hi
 obtain ⟨hn,b,o,ha,_,cs,T,fr,hb,hc⟩:=h.at n hx
 refine qaU ha ⟨by omega,by omega⟩ ?_
 rw [Int.toNat_natCast]
 exact qas hb _ (henc x) hc kk
theorem qgR {α:Type} {enc:α->List Value} {k:Nat} (henc:∀ x,(enc x).length=k):∀ (l:List α) (i:Nat) (x:α),i<l.length->splice (l.flatMap enc).toArray (i*k) (enc x)=((l.set i x).flatMap enc).toArray:=by
 intro l i x hi
 have hsplit:l=l.take i++l[i]::l.drop (i+1):=by rw [<- List.drop_eq_getElem_cons hi,List.take_append_drop]
 have hset:l.set i x=l.take i++x::l.drop (i+1):=by rw [List.set_eq_take_append_cons_drop,if_pos hi]
 have hlen:((l.take i).flatMap enc).length=i*k:=by rw [qaS henc,List.length_take,Nat.min_eq_left (by omega)]
 have e1:l.flatMap enc=(l.take i).flatMap enc++enc l[i]++(l.drop (i+1)).flatMap enc:=by
  conv=>lhs; rw [hsplit]
  rw [List.flatMap_append,List.flatMap_cons,List.append_assoc]
 have e2:(l.set i x).flatMap enc=(l.take i).flatMap enc++enc x++(l.drop (i+1)).flatMap enc:=by
  rw [hset,List.flatMap_append,List.flatMap_cons,List.append_assoc]
 rw [e1,e2]
 generalize (l.take i).flatMap enc=A at hlen
 generalize hX:enc l[i]=X
 have hXl:X.length=(enc x).length:=by rw [<- hX,henc,henc]
 generalize (l.drop (i+1)).flatMap enc=Z
 apply Array.ext'
 rw [qaw _ _ _ (by simp; omega)]
 rw [<- hlen]
 have h1:(A++X++Z).take A.length=A:=by rw [List.append_assoc,List.take_append_of_le_length (Nat.le_refl _),List.take_of_length_le (Nat.le_refl _)]
 have h2:(A++X++Z).drop (A.length+(enc x).length)=Z:=by
  rw [<- hXl,<- List.length_append,List.drop_append_of_le_length (Nat.le_refl _),List.drop_of_length_le (Nat.le_refl _),List.nil_append]
 rw [h1,h2]
end Go.Pt
end
section
set_option linter.unusedVariables false
set_option linter.unusedSimpArgs false
namespace Go.Proofs.YtmbcedengdoamaaGreatDoor
open Go Go.Pt
attribute [local irreducible] ld ldA ldV fld fldA newZ st new idx idxS idxA slc slcS slcP mkS chk nn call callV inv run runQ runU join loop held ext rng undefer s2a nxt ent IntKind.wrap
def needP (n:Nat):Nat:=if n=0 then 0 else (n-1) / 124+1
theorem qpT {n:Nat} {w:World} {K:Int->World->Prop} (hn:n<=1000000) (hk:K (needP n) w):call Tryz.prog 88 [.int .i64 n] [.one (.int .i64)] w K:=by
 refine qlp ?_
 unfold qhd
 refine qaa (fun hc=>?_) (fun hc=>?_)
 ·have:=of_decide_eq_true hc
  have h0:n=0:=by omega
  subst h0
  exact hk
 ·have:=of_decide_eq_false hc
  have h0:n≠0:=by omega
  rw [needP,if_neg h0] at hk
  rw [wi' ((n:Int)-1) (by omega)]
  have e:Int.tdiv ((n:Int)-1) 124=(((n-1) / 124:Nat):Int):=by
   rw [Int.tdiv_eq_ediv_of_nonneg (by omega)]
   omega
  rw [e,wi' (((n-1) / 124:Nat):Int) (by omega),wi' ((((n-1) / 124:Nat):Int)+1) (by omega)]
  exact hk
def risesB:Int->List Int->Bool
 | _,[]=>true
 | a,x::r=>decide (a<x)&&risesB x r
theorem qpa {S:List Nat} {w:World} {s:Sl} {l:List Int} {K:Bool->World->Prop} (h:Rd S w s l) (hl:l.length<=1000000) (hk:K (risesB 1 l) w) :
  call Tryz.prog 132 [.slice s.a s.len s.cap] [.one .bool] w K:=by
 refine qkD (l:=s) ?_
 unfold qgI
 have hlen:=h.1
 refine qag (fun x w'=>w'=w/\∃ i:Nat,x.2=i/\i<=l.length/\risesB x.1 (l.drop i)=risesB 1 l) (fun x _=>((l.length:Int)-x.2).toNat) ⟨rfl,0,rfl,by omega,by simp⟩ ?_
 rintro ⟨a,ii⟩ w' ⟨rfl,i,hi0,hi,hr⟩ X hX
 simp only at hi0 hr
 subst hi0
 refine qaa (fun hc=>?_) (fun hc=>?_)
 ·have hil:i<l.length:=by have:=of_decide_eq_true hc; omega
  refine Rd.at h i rfl (List.getElem?_eq_getElem hil) ?_
  rw [List.drop_eq_getElem_cons hil,risesB] at hr
  refine qaa (fun hx=>?_) (fun hx=>?_)
  ·have:=of_decide_eq_true hx
   rw [show decide (a<l[i])=false by rw [decide_eq_false_iff_not]; omega,Bool.false_and] at hr
   rw [<- hr] at hk
   exact hk
  ·have:=of_decide_eq_false hx
   rw [show decide (a<l[i])=true by rw [decide_eq_true_iff]; omega,Bool.true_and] at hr
   rw [wi' _ (by omega)]
   exact hX _ _ ⟨rfl,i+1,by simp,by omega,hr⟩ (by dsimp only; omega)
 ·have hil:i=l.length:=by have:=of_decide_eq_false hc; omega
  subst hil
  rw [List.drop_length] at hr
  rw [<- hr] at hk
  exact hk
theorem qvs (n:Int):byteAt n 0=IntKind.wrap .u8 n:=by
 unfold byteAt
 have:Int.fdiv n (2^min (8*0) 32)=n:=by
  show Int.fdiv n (2^0)=n
  simp
 rw [this]
theorem qoe {w:World} {s:Sl} {l:List Int} {B:List Nat} {n:Int} {K:Sl->World->Prop} (h:BufB w s l B) (hl:l.length<=1000000)
  (hk:∀ s' B' w',BufB w' s' (l++be n 4) B'->Fr B w w'->(∀ b∈B',b∈B\/w.heap.size<=b)->K s' w') :
  new (.cells #[.int .u8 (IntKind.wrap .u8 (Int.fdiv n (2^24))),.int .u8 (IntKind.wrap .u8 (Int.fdiv n (2^16))),.int .u8 (IntKind.wrap .u8 (Int.fdiv n (2^8))),.int .u8 (IntKind.wrap .u8 n)] 5) w fun r w2=>
   Pt.run [Ty1.one Cell.slice] ((Builtin.append_ #[22,22] 22 #[.slice s.a s.len s.cap,.slice (some ⟨r,0,none⟩) 4 4]).run Tryz.prog w2) fun s' w'=>K s' w':=by
 obtain ⟨i5,hi,hz,hsz,hby⟩:=qoP
 refine Own.new' (Own.start [] w) fun r w1 e1 f1 ho=>?_
 have hbe:be n 4=[byteAt n 3,byteAt n 2,byteAt n 1,byteAt n 0]:=rfl
 have hs1:=f1.size
 refine Buf.appSrc (ys:=be n 4) (e:=5) (h.frame0 f1) qat (by kernel_rfl) hi hz hsz rfl (.ofSlice _ (e':=5) (by kernel_rfl) _ 4 4 _ (by rw [qaO]; simp [qah]) (fun j u hj=>?_) (fun u hu=>?_)) (qah n 4).symm (by rw [hby]; omega) (by omega) fun s' B' w' g1 g2 g3 _=>?_
 ·rw [Addr.add_mk,qaj (ho.at (i:=0) rfl),Nat.zero_add]
  rw [qaO,hbe,qvs] at hj
  rw [List.getElem?_toArray]
  exact hj
 ·rw [qaO] at hu
  obtain ⟨x,_,rfl⟩:=List.mem_map.1 hu
  rfl
 ·refine hk s' B' w' g1 ((f1.mono (fun i hi _=>by cases hi)).trans' g2 (fun b hb=>.inl hb)) (fun b hb=>?_)
  rcases g3 b hb with h | h
  ·exact .inl h
  ·exact .inr (by omega)
theorem qrd {w:World} {s:Sl} {l:List Int} {B:List Nat} {n:Int} {K:Sl->World->Prop} (h:BufB w s l B) (hl:l.length<=1000000)
  (hk:∀ s' B' w',BufB w' s' (l++be n 4) B'->Fr B w w'->(∀ b∈B',b∈B\/w.heap.size<=b)->K s' w') :
  call Tryz.prog 145 [.slice s.a s.len s.cap,.int .u32 n] [.one .slice] w K:=by
 refine qmX (b:=s) ?_
 unfold qiH
 exact qoe h hl hk
theorem qlR {A B:Int} (k:Nat) (hA:0<=A) (hm:A%2^k=0) (hB:0<=B) (hBk:B<2^k) (hs:A+B<4294967296):bits .or .u32 A B=A+B:=by
 obtain ⟨a,rfl⟩:∃ a:Nat,A=a:=⟨A.toNat,by omega⟩
 obtain ⟨b,rfl⟩:∃ b:Nat,B=b:=⟨B.toNat,by omega⟩
 have hm':a%2^k=0:=by
  have:((a:Int)%((2^k:Nat):Int))=0:=by rw [Int.natCast_pow]; exact hm
  omega
 have hb':b<2^k:=by
  have:(b:Int)<((2^k:Nat):Int):=by rw [Int.natCast_pow]; exact hBk
  omega
 obtain ⟨q,rfl⟩:∃ q,a=2^k*q:=⟨a / 2^k,by have:=Nat.div_add_mod a (2^k); omega⟩
 show IntKind.wrap .u32 ((BitVec.ofInt 32 ((2^k*q:Nat):Int)||| BitVec.ofInt 32 (b:Int)).toNat:Nat)=_
 rw [BitVec.toNat_or,BitVec.ofInt_natCast,BitVec.ofInt_natCast,BitVec.toNat_ofNat,BitVec.toNat_ofNat,Nat.mod_eq_of_lt (show 2^k*q<2^32 by omega),Nat.mod_eq_of_lt (show b<2^32 by omega),<- Nat.two_pow_add_eq_or_of_lt hb']
 rw [qaL _ (by omega)]
 omega
def get4V (a b c d:Int):Int:=bits .or .u32 (bits .or .u32 (bits .or .u32 (IntKind.wrap .u32 (IntKind.wrap .u32 a*2^24)) (IntKind.wrap .u32 (IntKind.wrap .u32 b*2^16))) (IntKind.wrap .u32 (IntKind.wrap .u32 c*2^8))) (IntKind.wrap .u32 d)
theorem qpf {a b c d:Int} (ha:0<=a/\a<256) (hb:0<=b/\b<256) (hc:0<=c/\c<256) (hd:0<=d/\d<256):get4V a b c d=((a*256+b)*256+c)*256+d:=by
 unfold get4V
 rw [qaL a (by omega),qaL b (by omega),qaL c (by omega),qaL d (by omega),qaL (a*2^24) (by omega),qaL (b*2^16) (by omega),qaL (c*2^8) (by omega)]
 rw [qlR (A:=a*2^24) (B:=b*2^16) 24 (by omega) (by omega) (by omega) (by omega) (by omega)]
 rw [qlR (B:=c*2^8) 16 (by omega) (by omega) (by omega) (by omega) (by omega)]
 rw [qlR (B:=d) 8 (by omega) (by omega) (by omega) (by omega) (by omega)]
 omega
theorem qtX {n:Int} (h:0<=n/\n<4294967296):get4V (n / 16777216%256) (n / 65536%256) (n / 256%256) (n%256)=n:=by
 rw [qpf (by omega) (by omega) (by omega) (by omega)]
 omega
def first4 (l:List Int):Int:=get4V (l.getD 0 0) (l.getD 1 0) (l.getD 2 0) (l.getD 3 0)
theorem getD_some {l:List Int} {n:Nat} (h:n<l.length):l[n]?=some (l.getD n 0):=by rw [List.getD_eq_getElem?_getD,List.getElem?_eq_getElem h]; rfl
theorem qtl {S:List Nat} {w:World} {s:Sl} {l:List Int} {K:Int->World->Prop} (h:RdB S w s l) (hl:4<=l.length) (hk:K (first4 l) w) :
  (idx s 0 1 fun a=>ld (.int .u8) a w fun x2=>idx s 1 1 fun a=>ld (.int .u8) a w fun x4=>idx s 2 1 fun a=>ld (.int .u8) a w fun x6=>idx s 3 1 fun a=>ld (.int .u8) a w fun x8=>K (get4V x2 x4 x6 x8) w):=by
 refine RdB.at h 0 rfl (getD_some (by omega)) ?_
 refine RdB.at h 1 rfl (getD_some (by omega)) ?_
 refine RdB.at h 2 rfl (getD_some (by omega)) ?_
 refine RdB.at h 3 rfl (getD_some (by omega)) ?_
 exact hk
theorem qrq {S:List Nat} {w:World} {s:Sl} {l:List Int} {K:Int->World->Prop} (h:RdB S w s l) (hl:4<=l.length) (hk:K (first4 l) w.drew):call Tryz.prog 131 [.slice s.a s.len s.cap] [.one (.int .u32)] w K:=by
 refine qmF (b:=s) ?_
 unfold qiL
 exact qtl (w:=w.drew) h hl hk
theorem qux {A B:Int} (k:Nat) (hA:0<=A) (hm:A%2^k=0) (hB:0<=B) (hBk:B<2^k) (hs:A+B<4294967296):bits .or .i64 A B=A+B:=by
 obtain ⟨a,rfl⟩:∃ a:Nat,A=a:=⟨A.toNat,by omega⟩
 obtain ⟨b,rfl⟩:∃ b:Nat,B=b:=⟨B.toNat,by omega⟩
 have hm':a%2^k=0:=by
  have:((a:Int)%((2^k:Nat):Int))=0:=by rw [Int.natCast_pow]; exact hm
  omega
 have hb':b<2^k:=by
  have:(b:Int)<((2^k:Nat):Int):=by rw [Int.natCast_pow]; exact hBk
  omega
 obtain ⟨q,rfl⟩:∃ q,a=2^k*q:=⟨a / 2^k,by have:=Nat.div_add_mod a (2^k); omega⟩
 show IntKind.wrap .i64 ((BitVec.ofInt 64 ((2^k*q:Nat):Int)||| BitVec.ofInt 64 (b:Int)).toNat:Nat)=_
 rw [BitVec.toNat_or,BitVec.ofInt_natCast,BitVec.ofInt_natCast,BitVec.toNat_ofNat,BitVec.toNat_ofNat,Nat.mod_eq_of_lt (show 2^k*q<2^64 by omega),Nat.mod_eq_of_lt (show b<2^64 by omega),<- Nat.two_pow_add_eq_or_of_lt hb']
 rw [wi' _ (by omega)]
 omega
def cntV (l:List Int):Int:=l.getD 4 0*256+l.getD 5 0
def numsV (l:List Int) (n:Nat):List Int:=(List.range n).map fun i=>first4 (l.drop (6+4*i))
def parseV (l:List Int):Int×List Int×Int:=
 if l.length<6 then (0,[],2) else
 if first4 l=1\/cntV l>123\/(l.length:Int)≠6+4*cntV l then (0,[],2) else
 if risesB 1 (numsV l (cntV l).toNat) then (first4 l,numsV l (cntV l).toNat,0) else (0,[],2)
theorem qsO {S:List Nat} {w:World} {s:Sl} {l:List Int} {K:Int×Sl×Int->World->Prop} (h:RdB S w s l) (hB:IsB l) (hl:l.length<=100000)
  (hk:∀ s' B w',BufU w' s' (parseV l).2.1 B->Fr [] w w'->(∀ b∈B,w.heap.size<=b)->K ((parseV l).1,s',(parseV l).2.2) w') :
  call Tryz.prog 105 [.slice s.a s.len s.cap] [.one (.int .u32),.one .slice,.one (.int .i64)] w K:=by
 refine qkM (body:=s) ?_
 unfold qgr
 have hlen:=h.1
 have bad:∀ {e:Int} {w':World},parseV l=(0,[],e)->Fr [] w w'->K (0,⟨none,0,0⟩,e) w':=by
  intro e w' he hf
  have:=hk ⟨none,0,0⟩ [] w' (by rw [he]; exact .nil _ _ _) hf (by simp)
  rw [he] at this
  exact this
 refine qaa (fun hc=>?_) (fun hc=>?_)
 ·have:=of_decide_eq_true hc
  exact bad (by rw [parseV,if_pos (by omega)]) (.refl _ _)
 have h6:¬ l.length<6:=by have:=of_decide_eq_false hc; omega
 have fd:Fr [] w w.drew:=(Fr.refl _ _).drew
 have fdd:Fr [] w w.drew.drew:=fd.drew
 obtain ⟨_,b4,o4,ha4,hS4,cs4,T4,fr4,hb4,hc4⟩:=Rds.at h 4 (getD_some (l:=l) (n:=4) (by omega))
 obtain ⟨_,b5,o5,ha5,hS5,cs5,T5,fr5,hb5,hc5⟩:=Rds.at h 5 (getD_some (l:=l) (n:=5) (by omega))
 have g4:cs4[o4+4]?=some (.int .u8 (l.getD 4 0)):=by have:=congrArg (·[0]?) hc4; simpa using this
 have g5:cs5[o5+5]?=some (.int .u8 (l.getD 5 0)):=by have:=congrArg (·[0]?) hc5; simpa using this
 have c4:∀ {w':World},Fr [] w w'->w'.cell? ⟨b4,o4+Int.toNat 4*1,none⟩=some (.int .u8 (l.getD 4 0)):=fun f=>by
  rw [qaj (by rw [f.block b4 (qac hb4) (by simp)]; exact hb4)]; exact g4
 have c5:∀ {w':World},Fr [] w w'->w'.cell? ⟨b5,o5+Int.toNat 5*1,none⟩=some (.int .u8 (l.getD 5 0)):=fun f=>by
  rw [qaj (by rw [f.block b5 (qac hb5) (by simp)]; exact hb5)]; exact g5
 refine qaU ha4 ⟨by omega,by omega⟩ ?_
 refine qoU (c:=.int .u8) (l.getD 4 0) (c4 fd) ?_
 refine qaU ha5 ⟨by omega,by omega⟩ ?_
 refine qoU (c:=.int .u8) (l.getD 5 0) (c5 fd) ?_
 refine qrq (w:=w.drew) (S:=S) h (by omega) ?_
 refine qaQ (c5 fdd) (c4 fdd) ?_
 have r4:0<=l.getD 4 0/\l.getD 4 0<256:=hB _ (List.mem_of_getElem? (getD_some (l:=l) (n:=4) (by omega)))
 have r5:0<=l.getD 5 0/\l.getD 5 0<256:=hB _ (List.mem_of_getElem? (getD_some (l:=l) (n:=5) (by omega)))
 have ecnt:bits .or .i64 (IntKind.wrap .i64 (IntKind.wrap .i64 (l.getD 4 0)*2^8)) (IntKind.wrap .i64 (l.getD 5 0))=cntV l:=by
  rw [wi' (l.getD 4 0) (by omega),wi' (l.getD 5 0) (by omega),wi' (l.getD 4 0*2^8) (by omega),qux 8 (by omega) (by omega) (by omega) (by omega) (by omega)]
  rfl
 have rcnt:0<=cntV l/\cntV l<65536:=by unfold cntV; omega
 rw [ecnt]
 refine qaf (fun b w'=>b=decide (first4 l=1\/cntV l>123\/(l.length:Int)≠6+4*cntV l)/\w'=w.drew.drew) ?_ ?_
 ·refine qaa (fun hc=>?_) (fun hc=>?_)
  ·exact ⟨by rw [decide_eq_true (Or.inl (by simpa using hc))],rfl⟩
  ·have hc':¬ first4 l=1:=by simpa using hc
   refine qaa (fun hc2=>?_) (fun hc2=>?_)
   ·exact ⟨by rw [decide_eq_true (Or.inr (Or.inl (of_decide_eq_true hc2)))],rfl⟩
   ·have hc2':¬ cntV l>123:=of_decide_eq_false hc2
    refine ⟨?_,rfl⟩
    rw [wi' (4*cntV l) (by omega),wi' (6+4*cntV l) (by omega),hlen]
    by_cases h3:(l.length:Int)=6+4*cntV l <;> simp [hc',hc2',h3]
 rintro b w1 ⟨rfl,rfl⟩
 refine qaa (fun hc=>bad (by rw [parseV,if_neg h6,if_pos (of_decide_eq_true hc)]) fdd) (fun hc=>?_)
 have hok:=of_decide_eq_false hc
 have hcnt:cntV l<=123:=by
  rcases Int.lt_or_le 123 (cntV l) with h | h
  ·exact absurd (Or.inr (Or.inl h)) hok
  ·exact h
 have hlc:(l.length:Int)=6+4*cntV l:=Classical.byContradiction fun h=>hok (Or.inr (Or.inr h))
 have pv:parseV l=if risesB 1 (numsV l (cntV l).toNat) then (first4 l,numsV l (cntV l).toNat,0) else (0,[],2):=by rw [parseV,if_neg h6,if_neg hok]
 obtain ⟨n,hn⟩:∃ n:Nat,cntV l=n:=⟨(cntV l).toNat,by omega⟩
 rw [hn] at hcnt hlc pv ⊢
 rw [Int.toNat_natCast] at pv
 refine qag (fun x w'=>∃ (i:Nat) (B:List Nat),x.2=i/\i<=n/\BufU w' x.1 (numsV l i) B/\Fr [] w w'/\∀ b∈B,w.heap.size<=b) (fun x _=>((n:Int)-x.2).toNat)
  ⟨0,[],rfl,by omega,.nil _ _ _,fdd,by simp⟩ ?_
 rintro ⟨s1,ii⟩ w2 ⟨i,B,hi0,hi,hb,f2,n2⟩ X hX
 simp only at hi0 hb
 subst hi0
 refine qaa (fun hc=>?_) (fun hc=>?_)
 ·have hil:i<n:=by have:=of_decide_eq_true hc; omega
  rw [wi' (4*(i:Int)) (by omega),wi' (6+4*(i:Int)) (by omega)]
  have h2:RdB S w2 s l:=h.frame0 f2
  refine Rds.part h2 (6+4*i) l.length (by simp) (by rw [hlen]; rfl) (by omega) (by omega) fun s3 l3 r3 _=>?_
  rw [List.take_length] at r3
  refine qrq r3 (by rw [List.length_drop]; omega) ?_
  have f2d:Fr [] w w2.drew:=f2.drew
  refine qig (w:=w2.drew) (B:=B) hb (by simp [numsV]; omega) fun s4 B4 w4 g1 g2 g3=>?_
  rw [wi' _ (by omega)]
  have hs2:=f2d.size
  refine hX _ _ ⟨i+1,B4,by simp,by omega,?_,f2d.trans' g2 (fun b hb=>.inr (n2 b hb)),fun b hb=>?_⟩ (by dsimp only; omega)
  ·have:numsV l (i+1)=numsV l i++[first4 (l.drop (6+4*i))]:=by simp [numsV,List.range_succ]
   rw [this]; exact g1
  ·rcases g3 b hb with h | h
   ·exact n2 b h
   ·omega
 ·have hil:i=n:=by have:=of_decide_eq_false hc; omega
  subst hil
  refine qpa (S:=[]) (hb.rds qau (by simp)) (by simp [numsV]; omega) ?_
  refine qaa (fun hr=>?_) (fun hr=>?_)
  ·have hr':¬ risesB 1 (numsV l i)=true:=by simpa using hr
   exact bad (by rw [pv,if_neg hr']) f2
  ·have hr':risesB 1 (numsV l i)=true:=by simpa using hr
   have:=hk s1 B w2 (by rw [pv,if_pos hr']; exact hb) f2 n2
   rw [pv,if_pos hr'] at this
   exact this
def encS:Sl->List Value:=fun s=>[.slice s.a s.len s.cap]
theorem qql:∀ x,(encS x).length=1:=fun _=>rfl
theorem qwm:∃ i,Tryz.prog.info? 22=some i/\i.zero=some (.slice none 0 0)/\i.size=1/\i.bytes=24:=qdZ (by kernel_rfl)
def Bodies (S:List Nat) (w:World) (s:Sl) (ls:List (List Int)) (B:List Nat):Prop:=
 ∃ sls:List Sl,Buf encS 1 w s sls B/\sls.length=ls.length/\∀ (i:Nat) sl l,sls[i]?=some sl->ls[i]?=some l->RdB (S++B) w sl l
theorem Bodies.nil (S:List Nat) (w:World):Bodies S w ⟨none,0,0⟩ [] []:=⟨[],.nil _ _ _,rfl,fun i sl l h=>by simp at h⟩
theorem Bodies.frame {S S':List Nat} {w w':World} {s:Sl} {ls:List (List Int)} {B:List Nat} (h:Bodies S w s ls B) (f:Fr S w w') (hS:∀ b∈B,b∉S) (hS':∀ b∈S',b∈S\/w.heap.size<=b):Bodies S' w' s ls B:=by
 obtain ⟨sls,h1,h2,h3⟩:=h
 refine ⟨sls,h1.frame f hS,h2,fun i sl l hi hl=>(h3 i sl l hi hl).frame (f.mono fun b hb _=>List.mem_append_left _ hb) fun b hb=>?_⟩
 rcases List.mem_append.1 hb with hb | hb
 ·rcases hS' b hb with h | h
  ·exact .inl (List.mem_append_left _ h)
  ·exact .inr h
 ·exact .inl (List.mem_append_right _ hb)
theorem Bodies.push {S:List Nat} {w:World} {s sl:Sl} {ls:List (List Int)} {B:List Nat} {l:List Int} {T:TypeId} {K:Sl->World->Prop} (h:Bodies S w s ls B) (hr:RdB (S++B) w sl l) (hl:ls.length<=1000000)
  (kk:∀ s' B' w',Bodies S w' s' (ls++[l]) B'->Fr B w w'->(∀ b∈B',b∈B\/w.heap.size<=b)->K s' w') :
  Pt.new (.cells #[.slice sl.a sl.len sl.cap] T) w fun r w1=>Pt.run [Ty1.one Cell.slice] ((Builtin.append_ #[198,198] 198 #[.slice s.a s.len s.cap,.slice (some ⟨r,0,none⟩) 1 1]).run Tryz.prog w1) K:=by
 obtain ⟨i,hi,hz,hsz,hby⟩:=qwm
 obtain ⟨sls,h1,h2,h3⟩:=h
 refine Buf.push (e:=22) (x:=sl) h1 qql (by simp [encS,Value.oneCell']) (by kernel_rfl) hi hz hsz rfl rfl (by rw [hby]; omega) (by omega) fun s' B' w' b' f' n'=>?_
 refine kk s' B' w' ⟨_,b',by simp [h2],fun j sj lj hj hlj=>?_⟩ f' n'
 have hw:∀ b∈S++B',b∈S++B\/w.heap.size<=b:=fun b hb=>by
  rcases List.mem_append.1 hb with hb | hb
  ·exact .inl (List.mem_append_left _ hb)
  ·rcases n' b hb with h | h
   ·exact .inl (List.mem_append_right _ h)
   ·exact .inr h
 have hf:Fr (S++B) w w':=f'.mono fun b hb _=>List.mem_append_right _ hb
 by_cases hjl:j<sls.length
 ·rw [List.getElem?_append_left hjl] at hj
  rw [List.getElem?_append_left (by omega)] at hlj
  exact (h3 j sj lj hj hlj).frame hf hw
 ·by_cases hje:j=sls.length
  ·subst hje
   rw [List.getElem?_append_right (Nat.le_refl _),Nat.sub_self] at hj
   rw [h2,List.getElem?_append_right (Nat.le_refl _),Nat.sub_self] at hlj
   simp at hj hlj
   subst hj hlj
   exact hr.frame hf hw
  ·rw [List.getElem?_eq_none (by rw [List.length_append]; simp; omega)] at hj
   cases hj
def bodyV (next:Int) (c:List Int):List Int:=be next 4++[IntKind.wrap .u8 (Int.fdiv c.length (2^8)),IntKind.wrap .u8 c.length]++c.flatMap (be · 4)
def bodiesL (numbers pages:List Int) (k:Nat):List (List Int):=(List.range k).map fun i=>bodyV (pages.getD (i+1) 0) ((numbers.drop (123*i)).take 123)
def bodiesV (numbers pages:List Int):List (List Int)×Int:=
 if risesB 1 numbers=false\/numbers.length>123*pages.length then ([],1) else if ∃ p∈pages,p<2 then ([],1) else (bodiesL numbers pages pages.length,0)
theorem qt1 {w:World} {s:Sl} {n:Int} {K:Value->World->Prop} (hk:∀ rp rl w',Fr [] w w'->(∀ S w0 L,Own S w0 w L->Own S w0 w' ((rp,.cells #[.int .i64 n] 3 (0,0))::(rl,.cells #[.slice s.a s.len s.cap] 27 (0,0))::L))->K (.func (.func 167) #[] #[.pointer (some ⟨rp,0,none⟩),.pointer (some ⟨rl,0,none⟩)]) w') :
  call Tryz.prog 144 [.slice s.a s.len s.cap,.int .i64 n] [.one .any] w K:=by
 refine qkI (l:=s) ?_
 unfold qgC
 refine Pt.qhc ?_
 refine Pt.qhc ?_
 exact hk _ _ _ (((Fr.refl [] w).alloc _).alloc _) fun S w0 L h=>(h.alloc _).alloc _
theorem qdk:∀ l:List Int,(l.flatMap (be · 4)).length=l.length*4
 | []=>rfl
 | x::l=>by rw [List.flatMap_cons,List.length_append,qah,qdk l,List.length_cons]; omega
theorem qvB (a b:Int):([a,b]:List Int).length=2:=rfl
theorem qso {S G:List Nat} {w:World} {sn sp:Sl} {numbers pages:List Int} {K:Sl×Int->World->Prop} (hn:Rd S w sn numbers) (hp:Rd S w sp pages) (hnl:numbers.length<=100000) (hpl:pages.length<=100000) (hG:∀ b∈G,b<w.heap.size)
  (hk:∀ s' B w',Bodies G w' s' (bodiesV numbers pages).1 B->Fr [] w w'->(∀ b∈B,w.heap.size<=b)->K (s',(bodiesV numbers pages).2) w') :
  call Tryz.prog 122 [.slice sn.a sn.len sn.cap,.slice sp.a sp.len sp.cap] [.one .slice,.one (.int .i64)] w K:=by
 refine qj5 (numbers:=sn) (pages:=sp) ?_
 unfold qfX
 have hln:=hn.1
 have hlp:=hp.1
 have bad:∀ {w':World},bodiesV numbers pages=([],1)->Fr [] w w'->K (⟨none,0,0⟩,1) w':=by
  intro w' he hf
  have:=hk ⟨none,0,0⟩ [] w' (by rw [he]; exact .nil _ _) hf (by simp)
  rw [he] at this
  exact this
 refine Own.new' (Own.start [] w) fun r1 w1 e1 f1 ho=>?_
 have hn1:Rd S w1 sn numbers:=hn.frame0 ho.fr
 have hp1:Rd S w1 sp pages:=hp.frame0 ho.fr
 refine qaf (fun b w'=>b=decide (risesB 1 numbers=false\/numbers.length>123*pages.length)/\w'=w1) ?_ ?_
 ·refine qpa hn1 (by omega) ?_
  refine qaa (fun hc=>?_) (fun hc=>?_)
  ·have hr:risesB 1 numbers=false:=by simpa using hc
   exact ⟨by rw [decide_eq_true (Or.inl hr)],rfl⟩
  ·have hr:risesB 1 numbers=true:=by simpa using hc
   refine Own.ld (c:=.slice) ho 0 rfl sp rfl ⟨?_,rfl⟩
   rw [wi' (123*(sp.len:Int)) (by omega),hln,hlp]
   have e:decide ((numbers.length:Int)>123*(pages.length:Int))=decide (numbers.length>123*pages.length):=by
    by_cases h:numbers.length>123*pages.length
    ·rw [decide_eq_true h,decide_eq_true]; omega
    ·rw [decide_eq_false h,decide_eq_false]; omega
   rw [e]
   by_cases h:numbers.length>123*pages.length <;> simp [hr,h]
 rintro b w2 ⟨rfl,rfl⟩
 refine qaa (fun hc=>bad (by rw [bodiesV,if_pos (of_decide_eq_true hc)]) ho.fr) (fun hc=>?_)
 have hok:=of_decide_eq_false hc
 refine Own.ld (c:=.slice) ho 0 rfl sp rfl ?_
 refine qag (fun x w'=>w'=w2/\∃ i:Nat,x.2.2=i/\i<=pages.length/\∀ p∈pages.take i,¬ p<2) (fun x _=>((pages.length:Int)-x.2.2).toNat) ⟨rfl,0,rfl,by omega,by simp⟩ ?_
 rintro ⟨sx,ex,ii⟩ w3 ⟨rfl,i,hi0,hi,hall⟩ X hX
 simp only at hi0
 subst hi0
 dsimp only
 refine qaa (fun hc=>?_) (fun hc=>?_)
 ·have hil:i<pages.length:=by have:=of_decide_eq_true hc; omega
  refine Rd.at hp1 i rfl (List.getElem?_eq_getElem hil) ?_
  refine qaa (fun hx=>?_) (fun hx=>?_)
  ·exact bad (by rw [bodiesV,if_neg hok,if_pos ⟨pages[i],List.getElem_mem hil,of_decide_eq_true hx⟩]) ho.fr
  ·rw [wi' _ (by omega)]
   refine hX _ _ ⟨rfl,i+1,by simp,by omega,fun p hp=>?_⟩ (by dsimp only; omega)
   rw [List.take_succ_eq_append_getElem hil] at hp
   rcases List.mem_append.1 hp with hp | hp
   ·exact hall p hp
   ·simp at hp; subst hp; exact of_decide_eq_false hx
 have hil:i=pages.length:=by have:=of_decide_eq_false hc; omega
 subst hil
 rw [List.take_length] at hall
 have hbv:bodiesV numbers pages=(bodiesL numbers pages pages.length,0):=by
  rw [bodiesV,if_neg hok,if_neg]
  rintro ⟨p,hp,h2⟩
  exact hall p hp h2
 rw [hbv] at hk
 refine Own.new' ho fun ro w4 eo fo ho=>?_
 refine Own.ld (c:=.slice) ho 1 rfl sp rfl ?_
 refine qt1 fun rp rl w5 f5 hadd=>?_
 have ho5:=hadd _ _ _ ho
 refine Own.rng (lb:=[.pointer (some ⟨rp,0,none⟩),.pointer (some ⟨rl,0,none⟩)]) ho5 rfl (by kernel_rfl) fun Dm l R Bz J E E0 w6 el eD f56 ho6 hy=>?_
 refine qhV ?_
 unfold qen
 refine Own.ld (c:=.int .i64) ho6 2 rfl sp.len rfl ?_
 refine qag (fun x w'=>∃ (j:Nat) (cl so:Sl) (Bo:List Nat),x=j/\j<=pages.length/\Rd [] w cl (numbers.drop (123*j))/\Bodies ([l,Dm,rp,rl,ro,r1]++G) w' so (bodiesL numbers pages j) Bo/\(∀ b∈Bo,w.heap.size<=b/\b∉[l,Dm,rp,rl,ro,r1])/\
   Own [] w w' [(l,R),(Dm,.deferred (some [])),(rp,.cells #[.int .i64 sp.len] 3 (0,0)),(rl,.cells #[.slice cl.a cl.len cl.cap] 27 (0,0)),(ro,.cells #[.slice so.a so.len so.cap] 198 (0,0)),(r1,.cells #[.slice sp.a sp.len sp.cap] 27 (0,0))]) (fun x _=>((pages.length:Int)-x).toNat)
  ⟨0,sn,⟨none,0,0⟩,[],rfl,by omega,hn.weak (fun b hb=>by cases hb),.nil _ _,by simp,ho6⟩ ?_
 rintro x w7 ⟨j,cl,so,Bo,rfl,hj,hcl,hbod,hBo,ho7⟩ X hX
 have hBoG:∀ b∈Bo,b∉[l,Dm,rp,rl,ro,r1]++G:=fun b hb hm=>by
  rcases List.mem_append.1 hm with hm | hm
  ·exact (hBo b hb).2 hm
  ·have:=hG b hm; have:=(hBo b hb).1; omega
 have hlc:=hcl.1
 rw [List.length_drop] at hlc
 refine qaa (fun hc=>?_) (fun hc=>?_)
 ·have hjl:j<pages.length:=by have:=of_decide_eq_true hc; omega
  refine Own.ld (c:=.slice) ho7 3 rfl cl rfl ?_
  refine Own.ld (c:=.slice) ho7 3 rfl cl rfl ?_
  obtain ⟨m,hm,hmle⟩:∃ m:Nat,(if (123:Int)<(cl.len:Int) then 123 else (cl.len:Int))=m/\m=Nat.min 123 cl.len:=by
   by_cases h:123<cl.len
   ·exact ⟨123,by rw [if_pos (by omega)]; rfl,(Nat.min_eq_left (by omega)).symm⟩
   ·exact ⟨cl.len,by rw [if_neg (by omega)],(Nat.min_eq_right (by omega)).symm⟩
  rw [hm]
  have hm123:m<=123:=by rw [hmle]; exact Nat.min_le_left _ _
  have hmcl:m<=cl.len:=by rw [hmle]; exact Nat.min_le_right _ _
  refine Rds.part hcl 0 m rfl rfl (by omega) (by rw [List.length_drop]; omega) fun cs hcsl hcs _=>?_
  rw [List.drop_zero] at hcs
  have hchunk:(numbers.drop (123*j)).take m=(numbers.drop (123*j)).take 123:=by
   by_cases h:123<cl.len
   ·rw [hmle]; congr 1; exact Nat.min_eq_left (by omega)
   ·have:m=cl.len:=by rw [hmle]; exact Nat.min_eq_right (by omega)
    rw [this,List.take_of_length_le (by rw [List.length_drop]; omega),List.take_of_length_le (by rw [List.length_drop]; omega)]
  generalize hch:(numbers.drop (123*j)).take m=chunk at hcs hchunk
  have hcl3:chunk.length=m:=by rw [<- hch,List.length_take,List.length_drop]; omega
  have hcs3:cs.len=m:=by omega
  refine hy ((j:Int),cs) w7 _ (ho7.at (i:=0) rfl) ?_
  dsimp only
  refine ⟨ho7.at (i:=0) rfl,?_⟩
  have ho8:=ho7.upd (o':=Bz) 0 rfl
  have hbk:=ho8.rebaseS []
  have hp8:Rd [] (Pt.upd w7 l Bz) sp pages:=(hp.weak (fun b hb=>by cases hb)).frame0 ho8.fr
  have hbod8:Bodies ([l,Dm,rp,rl,ro,r1]++G) (Pt.upd w7 l Bz) so (bodiesL numbers pages j) Bo:=hbod.frame ((qbG (qac (ho7.at (i:=0) rfl)) Bz).mono fun b hb _=>by simp at hb; subst hb; simp) hBoG (fun b hb=>.inl hb)
  have hBlt:=hbod.choose_spec.1.lt
  refine qaf (fun x w'=>x=pages.getD (j+1) 0/\w'=Pt.upd w7 l Bz) ?_ ?_
  ·refine Own.ld (c:=.slice) hbk 5 rfl sp rfl ?_
   rw [wi' ((j:Int)+1) (by omega)]
   refine qaa (fun hc2=>?_) (fun hc2=>?_)
   ·have h2:j+1<pages.length:=by have:=of_decide_eq_true hc2; omega
    refine Own.ld (c:=.slice) hbk 5 rfl sp rfl ?_
    refine Rd.at hp8 (j+1) (by omega) (getD_some h2) ?_
    exact ⟨rfl,rfl⟩
   ·have h2:¬ j+1<pages.length:=by have:=of_decide_eq_false hc2; omega
    exact ⟨by rw [List.getD_eq_getElem?_getD,List.getElem?_eq_none (by omega)]; rfl,rfl⟩
  rintro x w8 ⟨rfl,rfl⟩
  generalize hnx:pages.getD (j+1) 0=next
  have hW:(Pt.upd w7 l Bz).heap.size=w7.heap.size:=qbR _ _ _
  generalize hW8:Pt.upd w7 l Bz=w8 at ho8 hbk hp8 hW hbod8
  have hcs8:Rd [] w8 cs chunk:=hcs.frame0 ho8.fr
  have hLlt:∀ p∈[l,Dm,rp,rl,ro,r1],p<w8.heap.size:=fun p hp=>by
   have hlt:=fun (k:Nat) (q:Nat×Obj) (hq:_[k]?=some q)=>qac (ho8.at (i:=k) hq)
   simp only [List.mem_cons,List.not_mem_nil,or_false] at hp
   rcases hp with rfl | rfl | rfl | rfl | rfl | rfl
   ·exact hlt 0 _ rfl
   ·exact hlt 1 _ rfl
   ·exact hlt 2 _ rfl
   ·exact hlt 3 _ rfl
   ·exact hlt 4 _ rfl
   ·exact hlt 5 _ rfl
  obtain ⟨i5,hi5,hz5,hsz5,hby5⟩:=qoP
  refine qrd (s:=⟨none,0,0⟩) (l:=[]) (B:=[]) (.nil _ _ _) (by simp) fun s9 B9 w9 b9 f9 n9=>?_
  rw [List.nil_append] at b9
  have hbk:=hbk.frame0 f9
  refine Own.new' hbk fun r2 w10 e10 f10 hbk=>?_
  have n9':∀ b∈B9,w8.heap.size<=b:=fun b hb=>by rcases n9 b hb with h | h; cases h; exact h
  refine Buf.appSrc (ys:=[IntKind.wrap .u8 (Int.fdiv chunk.length (2^8)),IntKind.wrap .u8 chunk.length]) (e:=5) (b9.frame0 f10) qat (by kernel_rfl) hi5 hz5 hsz5 rfl (.ofSlice _ (e':=5) (by kernel_rfl) _ 2 2 _ (by rw [qaO]; rfl) (fun q u hq=>?_) (fun u hu=>?_)) rfl (by rw [hby5,qah]; decide) (by rw [qah]; decide) fun s11 B11 w11 b11 f11 n11 _=>?_
  ·rw [Addr.add_mk,qaj (hbk.at (i:=0) rfl),Nat.zero_add,hcs3,<- hcl3]
   rw [qaO] at hq
   rw [List.getElem?_toArray]
   exact hq
  ·rw [qaO] at hu
   obtain ⟨x,_,rfl⟩:=List.mem_map.1 hu
   rfl
  have hs9:=f9.size
  have hs10:=f10.size
  have hB9lt:=b9.lt
  have hbk:=(hbk.sub (List.sublist_cons_self _ _)).frame f11 (fun b hb=>.inr (n9' b hb)) (fun p hp hb=>by
   have h1:=hLlt p.1 (List.mem_map_of_mem (f:=(·.1)) hp)
   have h2:=n9' _ hb
   omega)
  have n11':∀ b∈B11,w8.heap.size<=b:=fun b hb=>by rcases n11 b hb with h | h; exact n9' b h; omega
  refine qag (fun x w'=>∃ (q:Nat) (Bq:List Nat),x.2=q/\q<=m/\BufB w' x.1 (be next 4++[IntKind.wrap .u8 (Int.fdiv chunk.length (2^8)),IntKind.wrap .u8 chunk.length]++(chunk.take q).flatMap (be · 4)) Bq/\(∀ b∈Bq,w8.heap.size<=b)/\
    Own ([l,Dm,rp,rl,ro,r1]++[]) w8 w' [(l,Bz),(Dm,.deferred (some [])),(rp,.cells #[.int .i64 sp.len] 3 (0,0)),(rl,.cells #[.slice cl.a cl.len cl.cap] 27 (0,0)),(ro,.cells #[.slice so.a so.len so.cap] 198 (0,0)),(r1,.cells #[.slice sp.a sp.len sp.cap] 27 (0,0))]) (fun x _=>((m:Int)-x.2).toNat)
   ⟨0,B11,rfl,by omega,by simpa using b11,n11',hbk⟩ ?_
  rintro ⟨s12,qq⟩ w12 ⟨q,Bq,hq0,hqm,bq,nq,hq⟩ Y hY
  simp only at hq0 bq
  subst hq0
  dsimp only
  rw [hcs3]
  refine qaa (fun hc3=>?_) (fun hc3=>?_)
  ·have hqc:q<chunk.length:=by have:=of_decide_eq_true hc3; omega
   have hcs12:Rd [] w12 cs chunk:=hcs.frame0 (ho8.backS (T:=[]) (by simp) hq.fr)
   refine Rd.at hcs12 q rfl (List.getElem?_eq_getElem hqc) ?_
   have hbl:(be next 4++[IntKind.wrap .u8 (Int.fdiv chunk.length (2^8)),IntKind.wrap .u8 chunk.length]++(chunk.take q).flatMap (be · 4)).length<=1000000:=by
    rw [List.length_append,List.length_append,qah,qdk,List.length_take,qvB]; omega
   refine qrd bq hbl fun s13 B13 w13 b13 f13 n13=>?_
   rw [wi' _ (by omega)]
   refine hY _ _ ⟨q+1,B13,by simp,by omega,?_,fun b hb=>?_,hq.frame f13 (fun b hb=>.inr (nq b hb)) (fun p hp hb=>?_)⟩ (by dsimp only; omega)
   ·rw [List.take_succ_eq_append_getElem hqc,List.flatMap_append,List.flatMap_singleton,<- List.append_assoc]
    exact b13
   ·rcases n13 b hb with h | h
    ·exact nq b h
    ·exact Nat.le_trans hq.fr.size h
   ·have h1:=hLlt p.1 (List.mem_map_of_mem (f:=(·.1)) hp)
    have h2:=nq _ hb
    omega
  ·have hqe:q=m:=by have:=of_decide_eq_false hc3; omega
   subst hqe
   rw [List.take_of_length_le (by omega)] at bq
   refine Own.ld (c:=.slice) hq 4 rfl so rfl ?_
   have hrow:RdB (([l,Dm,rp,rl,ro,r1]++G)++Bo) w12 s12 (bodyV next chunk):=bq.rds qat fun b hb hm=>by
    have h2:=nq _ hb
    rcases List.mem_append.1 hm with hm | hm
    ·rcases List.mem_append.1 hm with hm | hm
     ·have:=hLlt b hm; omega
     ·have:=hG b hm; have:=ho8.fr.size; omega
    ·have:=hBlt b hm; omega
   have hbod12:Bodies ([l,Dm,rp,rl,ro,r1]++G) w12 so (bodiesL numbers pages j) Bo:=hbod8.frame (hq.fr.mono fun b hb _=>by rw [List.append_nil] at hb; exact List.mem_append_left _ hb) hBoG (fun b hb=>.inl hb)
   refine Bodies.push hbod12 hrow (by rw [bodiesL,List.length_map,List.length_range]; omega) fun s13 B13 w13 b13 f13 n13=>?_
   have hqb:=(ho8.rejoin (T:=[]) (by simp) hq).frame f13 (fun b hb=>.inr (hBo b hb).1) (fun p hp hb=>(hBo _ hb).2 (List.mem_map_of_mem (f:=(·.1)) hp))
   refine Own.st' hqb 4 rfl _ rfl rfl (Nat.le_of_ble_eq_true rfl) fun w14 hqb f14=>?_
   refine ⟨hqb.at (i:=0) rfl,?_⟩
   have hqc:=hqb.upd (o':=R) 0 rfl
   refine cond_false rfl ?_
   refine Own.ld (c:=.slice) hqc 3 rfl cl rfl ?_
   refine Rds.part hcl q (numbers.drop (123*j)).length rfl (by rw [List.length_drop]; show (cl.len:Int)=_; omega) (by rw [List.length_drop]; omega) (Nat.le_refl _) fun cr hcrl hcr _=>?_
   refine Own.st' hqc 3 rfl _ rfl rfl (Nat.le_of_ble_eq_true rfl) fun w15 hqd f15=>?_
   rw [wi' _ (by omega)]
   have hB13:∀ b∈B13,w.heap.size<=b/\b∉[l,Dm,rp,rl,ro,r1]:=fun b hb=>by
    rcases n13 b hb with h | h
    ·exact hBo b h
    ·have h1:=hq.fr.size
     refine ⟨?_,fun hm=>?_⟩
     ·have:=ho8.fr.size; omega
     ·have:=hLlt b hm; omega
   have ff:Fr [l,Dm,rp,rl,ro,r1] w13 w15:=
    (f14.mono fun b hb _=>by simp at hb; subst hb; simp).trans' ((qbG (qac (hqb.at (i:=0) rfl)) R).mono (T:=[l,Dm,rp,rl,ro,r1]) fun b hb _=>by simp at hb; subst hb; simp) (fun b hb=>.inl hb) |>.trans' (f15.mono (T:=[l,Dm,rp,rl,ro,r1]) fun b hb _=>by simp at hb; subst hb; simp) (fun b hb=>.inl hb)
   have hbod15:=b13.frame (ff.mono fun b hb _=>List.mem_append_left _ hb) (fun b hb hm=>by
    rcases List.mem_append.1 hm with hm | hm
    ·exact (hB13 b hb).2 hm
    ·have:=hG b hm; have:=(hB13 b hb).1; omega) (fun b hb=>.inl hb)
   have hcr2:((numbers.drop (123*j)).take (numbers.drop (123*j)).length).drop q=numbers.drop (123*(j+1)):=by
    rw [List.take_length,List.drop_drop]
    by_cases h:123<cl.len
    ·rw [show q=123 by rw [hmle]; exact Nat.min_eq_left (by omega),Nat.mul_add]
    ·have:q=cl.len:=by rw [hmle]; exact Nat.min_eq_right (by omega)
     rw [List.drop_eq_nil_of_le (by omega),List.drop_eq_nil_of_le (by omega)]
   rw [hcr2] at hcr
   have hbl:bodiesL numbers pages (j+1)=bodiesL numbers pages j++[bodyV next chunk]:=by
    rw [bodiesL,List.range_succ,List.map_append,List.map_singleton,hnx,<- hchunk]; rfl
   refine hX _ _ ⟨j+1,cr,s13,B13,by simp,by omega,hcr,by rw [hbl]; exact hbod15,hB13,hqd⟩ (by omega)
 ·have hje:j=pages.length:=by have:=of_decide_eq_false hc; omega
  subst hje
  refine .inl ⟨ho7.at (i:=0) rfl,?_⟩
  have ho8:=ho7.upd (o':=E0) 0 rfl
  refine Own.ld (c:=.slice) ho8 4 rfl so rfl ?_
  refine Own.undefer ho8.rebase 1 rfl fun w13 hd=>?_
  have hb8:Bodies ([l,Dm,rp,rl,ro,r1]++G) (Pt.upd w7 l E0) so (bodiesL numbers pages pages.length) Bo:=hbod.frame ((qbG (qac (ho7.at (i:=0) rfl)) E0).mono fun b hb _=>by simp at hb; subst hb; simp) hBoG (fun b hb=>.inl hb)
  exact hk so Bo w13 (hb8.frame (S':=G) (hd.fr.mono fun b hb _=>List.mem_append_left _ hb) hBoG (fun b hb=>.inl (List.mem_append_right _ hb))) (ho8.back (L':=[]) hd.fr) (fun b hb=>(hBo b hb).1)
end Go.Proofs.YtmbcedengdoamaaGreatDoor
end
section
set_option linter.unusedVariables false
set_option maxRecDepth 100000
namespace Go.Proofs.YtmbcedengdoamaaGreatDoor
open Go Go.Pt
@[reducible] def qv4:List Cell:=[Cell.int IntKind.u32,Cell.int IntKind.u32,Cell.int IntKind.u32]
def qmV (b:Sl) (n:Int) (K:Sl->World->Prop) (w:World):Prop:=new (Obj.cells #[.int .u8 (IntKind.wrap .u8 (Int.fdiv n (2^24))),.int .u8 (IntKind.wrap .u8 (Int.fdiv n (2^16))),.int .u8 (IntKind.wrap .u8 (Int.fdiv n (2^8))),.int .u8 (IntKind.wrap .u8 n)] 5) w fun c d=>run [.one .slice] ((Builtin.append_ (#[22,22]) 22 (#[.slice b.a b.len b.cap,.slice (some ⟨c,0,none⟩) 4 4])).run Tryz.prog d) fun e f=>K e f
def qr7:List Ann:=[.n,.n]
theorem qo5 {b n w K} (hF:qmV b n K w):call Tryz.prog 146 [.slice b.a b.len b.cap,.int .u32 n] [.one .slice] w K:=qad (an:=qr7) Tryz.func146 hF
def qjm (s:List Value) (K:Sl->World->Prop) (w:World):Prop:=new (Obj.cells (List.toArray s) 58) w fun b c=>ld (.int .u64) ⟨b,0,none⟩ (World.drew c) fun (d:Int)=>ld (.int .u64) ⟨b,0,none⟩ (World.drew c) fun (e:Int)=>call Tryz.prog 146 ([.slice none 0 0,.int .u32 (IntKind.wrap .u32 (Int.fdiv d (2^32)))]) ([.one .slice]) (World.drew c) fun f g=>held [fun h=>World.cell? h ⟨b,0,none⟩=some (.int .u64 e)] g<|call Tryz.prog 146 ([.slice f.a f.len f.cap,.int .u32 (IntKind.wrap .u32 e)]) ([.one .slice]) g fun i j=>ld (.int .u32) ⟨b,1,none⟩ (World.drew j) fun (k:Int)=>ld (.int .u32) ⟨b,2,none⟩ (World.drew j) fun (l:Int)=>ld (.int .u32) ⟨b,3,none⟩ (World.drew j) fun (m:Int)=>call Tryz.prog 146 ([.slice i.a i.len i.cap,.int .u32 k]) ([.one .slice]) (World.drew j) fun n o=>held [fun p=>World.cell? p ⟨b,3,none⟩=some (.int .u32 m),fun q=>World.cell? q ⟨b,2,none⟩=some (.int .u32 l)] o<|call Tryz.prog 146 ([.slice n.a n.len n.cap,.int .u32 l]) ([.one .slice]) o fun r t=>held [fun u=>World.cell? u ⟨b,3,none⟩=some (.int .u32 m)] t<|call Tryz.prog 146 ([.slice r.a r.len r.cap,.int .u32 m]) ([.one .slice]) t fun v x=>ldV 24 ⟨b,4,none⟩ x fun y=>loop (Sl×Int) (fun z (A:Sl×Int) B=>cond (decide (A.snd<8)) (chk (0<=A.snd/\A.snd<(↑8:Int))<|fldA (qv4) y (Int.toNat A.snd*3) fun (C:Int×Int×Int)=>new (Obj.cells #[.int .u32 0,.int .u32 0,.int .u32 0] 42) B fun D E=>st ⟨D,0,none⟩ (HL.mk qv4 C) E fun F=>ld (.int .u32) ⟨D,0,none⟩ (World.drew F) fun (G:Int)=>ld (.int .u32) ⟨D,1,none⟩ (World.drew F) fun (H:Int)=>ld (.int .u32) ⟨D,2,none⟩ (World.drew F) fun (I:Int)=>call Tryz.prog 146 ([.slice A.fst.a A.fst.len A.fst.cap,.int .u32 G]) ([.one .slice]) (World.drew F) fun J L=>held [fun M=>World.cell? M ⟨D,2,none⟩=some (.int .u32 I),fun N=>World.cell? N ⟨D,1,none⟩=some (.int .u32 H)] L<|call Tryz.prog 146 ([.slice J.a J.len J.cap,.int .u32 H]) ([.one .slice]) L fun O P=>held [fun Q=>World.cell? Q ⟨D,2,none⟩=some (.int .u32 I)] P<|call Tryz.prog 146 ([.slice O.a O.len O.cap,.int .u32 I]) ([.one .slice]) P fun R S=>z ((R,IntKind.wrap .i64 (A.snd+1))) S) (ld (.int .u64) ⟨b,0,none⟩ B fun (T:Int)=>call Tryz.prog 99 ([.int .u32 (IntKind.wrap .u32 (Int.tmod T 2)),.int .u8 1,.slice A.fst.a A.fst.len A.fst.cap]) ([.one .slice,.one (.int .i64)]) B fun (U:Sl×Int) V=>K U.fst V)) ((v,0)) x
def qpF:List Ann:=[.n,.n,.o [[0,1,2,3,5,6,7,4,8,9]],.n,.o [[0,1,2,4,5,7,8,3,6,9,10]],.n,.n,.l [(3,.one .slice),(29,.one (.int .i64))],.n,.n,.n,.n,.o [[0,1,2,4,5,7,8,3,6,9,10]],.n,.n]
theorem qnD {s w K} (hF:qjm s K w):call Tryz.prog 123 [.agg s.toArray] [.one .slice] w K:=qad (an:=qpF) Tryz.func123 hF
def qj6 (b:Sl) (K:((List Value))->World->Prop) (w:World):Prop:=new (Obj.cells #[.slice b.a b.len b.cap] 22) w fun c d=>newZ Tryz.prog 58 d fun e f=>newZ Tryz.prog 58 f fun g h=>callV Tryz.prog (Value.func (Fn.func 174) #[] #[.pointer (some ⟨c,0,none⟩)]) [] ([.one (.int .u32)]) h fun (i:Int) j=>st ⟨g,0,none⟩ ([.int .u64 (IntKind.wrap .u64 (IntKind.wrap .u64 i*2^32))]) j fun k=>ld (.int .u64) ⟨g,0,none⟩ (World.drew k) fun (l:Int)=>callV Tryz.prog (Value.func (Fn.func 174) #[] #[.pointer (some ⟨c,0,none⟩)]) [] ([.one (.int .u32)]) (World.drew k) fun (m:Int) n=>held [fun o=>World.cell? o ⟨g,0,none⟩=some (.int .u64 l)] n<|st ⟨g,0,none⟩ ([.int .u64 (bits BinOp.or IntKind.u64 l (IntKind.wrap .u64 m))]) n fun p=>callV Tryz.prog (Value.func (Fn.func 174) #[] #[.pointer (some ⟨c,0,none⟩)]) [] ([.one (.int .u32)]) p fun (q:Int) r=>st ⟨g,1,none⟩ ([.int .u32 q]) r fun s=>callV Tryz.prog (Value.func (Fn.func 174) #[] #[.pointer (some ⟨c,0,none⟩)]) [] ([.one (.int .u32)]) s fun (t:Int) u=>st ⟨g,2,none⟩ ([.int .u32 t]) u fun v=>callV Tryz.prog (Value.func (Fn.func 174) #[] #[.pointer (some ⟨c,0,none⟩)]) [] ([.one (.int .u32)]) v fun (x:Int) y=>st ⟨g,3,none⟩ ([.int .u32 x]) y fun z=>loop (Int) (fun A (B:Int) C=>cond (decide (B<8)) (chk (0<=B/\B<(↑8:Int))<|callV Tryz.prog (Value.func (Fn.func 174) #[] #[.pointer (some ⟨c,0,none⟩)]) [] ([.one (.int .u32)]) C fun (D:Int) E=>st (Addr.add (Addr.add ⟨g,4,none⟩ (Int.toNat B*3)) 0) ([.int .u32 D]) E fun F=>callV Tryz.prog (Value.func (Fn.func 174) #[] #[.pointer (some ⟨c,0,none⟩)]) [] ([.one (.int .u32)]) F fun (G:Int) H=>st (⟨(Addr.add (Addr.add ⟨g,0,none⟩ 4) (Int.toNat B*3)).block,(Addr.add (Addr.add ⟨g,0,none⟩ 4) (Int.toNat B*3)).off+1,none⟩) ([.int .u32 G]) H fun I=>callV Tryz.prog (Value.func (Fn.func 174) #[] #[.pointer (some ⟨c,0,none⟩)]) [] ([.one (.int .u32)]) I fun (J:Int) L=>st (⟨(Addr.add (Addr.add ⟨g,0,none⟩ 4) (Int.toNat B*3)).block,(Addr.add (Addr.add ⟨g,0,none⟩ 4) (Int.toNat B*3)).off+2,none⟩) ([.int .u32 J]) L fun M=>A (IntKind.wrap .i64 (B+1)) M) (ldV 28 ⟨g,0,none⟩ C fun N=>chk (List.length N=28)<|st ⟨e,0,none⟩ N C fun O=>ldV 28 ⟨e,0,none⟩ O fun P=>K P O)) 0 z
def qpu:List Ann:=[.n,.n,.n,.n,.n,.o [[0,1,2,3,4,5,6,7]],.n,.n,.n,.n,.n,.l [(29,.one (.int .i64))],.n,.n,.n,.n,.n,.n,.n,.n]
theorem qnz {b w K} (hF:qj6 b K w):call Tryz.prog 158 [.slice b.a b.len b.cap] [.raw] w K:=qad (an:=qpu) Tryz.func158 hF
def qgA (cap0:Addr) (K:Int->World->Prop) (w:World):Prop:=ld .slice cap0 (World.drew w) fun b=>idx b 0 1 fun c=>ld (.int .u8) c (World.drew w) fun (d:Int)=>ld .slice cap0 (World.drew w) fun e=>idx e 1 1 fun f=>ld (.int .u8) f (World.drew w) fun (g:Int)=>ld .slice cap0 (World.drew w) fun h=>idx h 2 1 fun i=>ld (.int .u8) i (World.drew w) fun (j:Int)=>ld .slice cap0 (World.drew w) fun k=>idx k 3 1 fun l=>ld (.int .u8) l (World.drew w) fun (m:Int)=>ld .slice cap0 (World.drew w) fun n=>slc n (some 4) none none 1 fun o=>st cap0 ([.slice o.a o.len o.cap]) (World.drew w) fun p=>K (bits BinOp.or IntKind.u32 (bits BinOp.or IntKind.u32 (bits BinOp.or IntKind.u32 (IntKind.wrap .u32 (IntKind.wrap .u32 d*2^24)) (IntKind.wrap .u32 (IntKind.wrap .u32 g*2^16))) (IntKind.wrap .u32 (IntKind.wrap .u32 j*2^8))) (IntKind.wrap .u32 m)) p
def ql8:List Ann:=[.n,.n,.o [[0,1,2,3,4,5,6,7,8,9,10,11,12,13,14,15,16,17,18,19,20,21,22]],.n,.n]
theorem qkP {cap0 w K} (hF:qgA cap0 K w):call Tryz.prog 174 [.pointer (some cap0)] [.one (.int .u32)] w K:=qad (an:=ql8) Tryz.func174 hF
def qli (place:Int) (b:Sl) (K:((List Value)×Int)->World->Prop) (w:World):Prop:=newZ Tryz.prog 58 w fun c d=>join (Bool) (fun e=>cond (!place==0) (e (!place==1) d) (e false d)) fun (f:Bool) g=>cond f (runQ [.raw] (fun h=>(Instr.build 58 #[]).run Tryz.prog h) g fun i=>chk (List.length i=28)<|st ⟨c,0,none⟩ i g fun j=>ldV 28 ⟨c,0,none⟩ j fun k=>K ((k,1)) j) (call Tryz.prog 85 ([.int .u32 (IntKind.wrap .u32 place),.slice b.a b.len b.cap]) ([.one (.int .u8),.one .slice,.one (.int .i64)]) g fun (l:Int×Sl×Int) m=>cond (!l.snd.snd==0) (runQ [.raw] (fun n=>(Instr.build 58 #[]).run Tryz.prog n) m fun o=>chk (List.length o=28)<|st ⟨c,0,none⟩ o m fun p=>ldV 28 ⟨c,0,none⟩ p fun q=>K ((q,l.snd.snd)) p) (join (Bool) (fun r=>cond (!l.fst==1) (r true m) (r (!(↑l.snd.fst.len:Int)==116) m)) fun (s:Bool) t=>cond s (runQ [.raw] (fun u=>(Instr.build 58 #[]).run Tryz.prog u) t fun v=>chk (List.length v=28)<|st ⟨c,0,none⟩ v t fun x=>ldV 28 ⟨c,0,none⟩ x fun y=>K ((y,2)) x) (call Tryz.prog 158 ([.slice l.snd.fst.a l.snd.fst.len l.snd.fst.cap]) [.raw] t fun z A=>newZ Tryz.prog 58 A fun B C=>chk (List.length z=28)<|st ⟨B,0,none⟩ z C fun D=>ld (.int .u64) ⟨B,0,none⟩ D fun (E:Int)=>cond (!Int.tmod E 2==IntKind.wrap .u64 place) (runQ [.raw] (fun F=>(Instr.build 58 #[]).run Tryz.prog F) D fun G=>chk (List.length G=28)<|st ⟨c,0,none⟩ G D fun H=>ldV 28 ⟨c,0,none⟩ H fun I=>K ((I,2)) H) (ldV 28 ⟨B,0,none⟩ D fun J=>chk (List.length J=28)<|st ⟨c,0,none⟩ J D fun L=>ldV 28 ⟨c,0,none⟩ L fun M=>K ((M,0)) L))))
def qqS:List Ann:=[.n,.n,.j [(15,.one .bool)],.n,.n,.n,.n,.n,.n,.j [(35,.one .bool)],.n,.n,.n,.n,.n,.n]
theorem qoG {place b w K} (hF:qli place b K w):call Tryz.prog 130 [.int .i64 place,.slice b.a b.len b.cap] [.raw,.one (.int .i64)] w K:=qad (an:=qqS) Tryz.func130 hF
def qiB (a:Sl) (b:Sl) (K:((List Value)×Int)->World->Prop) (w:World):Prop:=newZ Tryz.prog 58 w fun c d=>call Tryz.prog 130 ([.int .i64 0,.slice a.a a.len a.cap]) ([.raw,.one (.int .i64)]) d fun (e:List Value×Int) f=>newZ Tryz.prog 58 f fun g h=>chk (List.length e.fst=28)<|st ⟨g,0,none⟩ e.fst h fun i=>call Tryz.prog 130 ([.int .i64 1,.slice b.a b.len b.cap]) ([.raw,.one (.int .i64)]) i fun (j:List Value×Int) k=>newZ Tryz.prog 58 k fun l m=>chk (List.length j.fst=28)<|st ⟨l,0,none⟩ j.fst m fun n=>join (Bool) (fun o=>cond (!e.snd==0) (o (!j.snd==0) n) (o false n)) fun (p:Bool) q=>cond p (runQ [.raw] (fun r=>(Instr.build 58 #[]).run Tryz.prog r) q fun s=>chk (List.length s=28)<|st ⟨c,0,none⟩ s q fun t=>ldV 28 ⟨c,0,none⟩ t fun u=>K ((u,5)) t) (join (Bool) (fun v=>cond (!e.snd==0) (v true q) (cond (j.snd==0) (ld (.int .u64) ⟨l,0,none⟩ q fun (x:Int)=>ld (.int .u64) ⟨g,0,none⟩ q fun (y:Int)=>v (decide (x>y)) q) (v false q))) fun (z:Bool) A=>cond z (ldV 28 ⟨l,0,none⟩ A fun B=>chk (List.length B=28)<|st ⟨c,0,none⟩ B A fun C=>ldV 28 ⟨c,0,none⟩ C fun D=>K ((D,0)) C) (ldV 28 ⟨g,0,none⟩ A fun E=>chk (List.length E=28)<|st ⟨c,0,none⟩ E A fun F=>ldV 28 ⟨c,0,none⟩ F fun G=>K ((G,0)) F))
def qox:List Ann:=[.n,.n,.n,.n,.j [(20,.one .bool)],.n,.j [(28,.one .bool)],.n,.n]
theorem qmi {a b w K} (hF:qiB a b K w):call Tryz.prog 104 [.slice a.a a.len a.cap,.slice b.a b.len b.cap] [.raw,.one (.int .i64)] w K:=qad (an:=qox) Tryz.func104 hF
end Go.Proofs.YtmbcedengdoamaaGreatDoor
end
section
set_option linter.unusedVariables false
set_option linter.unusedSimpArgs false
namespace Go.Proofs.YtmbcedengdoamaaGreatDoor
open Go Go.Pt
attribute [local irreducible] ld ldA ldV fld fldA newZ st new idx idxS idxA slc slcS slcP mkS chk nn call callV inv run runQ runU join loop held ext rng undefer s2a nxt ent IntKind.wrap
def supV (q:Int) (t:List Int):List Value:=.int .u64 q::t.map (Value.int .u32)
def superB (q:Int) (t:List Int):List Int:=be (IntKind.wrap .u32 (Int.fdiv q (2^32))) 4++be (IntKind.wrap .u32 q) 4++t.flatMap (be · 4)
theorem qbS {q:Int} {t:List Int} (ht:t.length=27):(superB q t).length=116:=by
 rw [superB,List.length_append,List.length_append,qah,qah,qdk,ht]
theorem qay {q:Int} {t:List Int} (ht:t.length=27):(supV q t).length=28:=by simp [supV,ht]
theorem qb0 {q:Int} {t:List Int} (n:Nat) (h:n<t.length):(supV q t).toArray[n+1]?=some (.int .u32 (t.getD n 0)):=by
 simp [supV,List.getD_eq_getElem?_getD,List.getElem?_eq_getElem h]
theorem qd4 (q:Int) (t:List Int):((supV q t).all Value.oneCell')=true:=by
 rw [List.all_eq_true]
 intro v hv
 rcases List.mem_cons.1 hv with rfl | hv
 ·rfl
 ·obtain ⟨x,_,rfl⟩:=List.mem_map.1 hv; rfl
theorem qpn {α:Type} {enc:α->List Value} {k:Nat} {w:World} {s:Sl} {l:List α} {B:List Nat} (h:Buf enc k w s l B):Buf enc k w.drew s l B:=h
def Apart (w0:World) (L:List (Nat×Obj)) (B:List Nat):Prop:=∀ b∈B,w0.heap.size<=b/\b∉L.map (·.1)
theorem Apart.cons {w0:World} {L:List (Nat×Obj)} {B:List Nat} {r:Nat} {o:Obj} (h:Apart w0 L B) (hr:r∉B):Apart w0 ((r,o)::L) B:=fun b hb=>⟨(h b hb).1,fun hm=>by
 rcases List.mem_cons.1 hm with rfl | hm
 ·exact hr hb
 ·exact (h b hb).2 hm⟩
theorem Apart.tail {w0:World} {L:List (Nat×Obj)} {B:List Nat} {p:Nat×Obj} (h:Apart w0 (p::L) B):Apart w0 L B:=fun b hb=>⟨(h b hb).1,fun hm=>(h b hb).2 (List.mem_cons_of_mem _ hm)⟩
theorem qsc {l:List Int} {j:Nat} (h:j+3<=l.length):l.drop j=l.getD j 0::l.getD (j+1) 0::l.getD (j+2) 0::l.drop (j+3):=by
 rw [List.drop_eq_getElem_cons (by omega),List.drop_eq_getElem_cons (i:=j+1) (by omega),List.drop_eq_getElem_cons (i:=j+1+1) (by omega)]
 simp only [List.getD_eq_getElem?_getD]
 rw [List.getElem?_eq_getElem (show j<l.length by omega),List.getElem?_eq_getElem (show j+1<l.length by omega),List.getElem?_eq_getElem (show j+2<l.length by omega)]
 rfl
theorem qwi {l:List Int} {j:Nat} (h:j+3<=l.length):l.take (j+3)=l.take j++[l.getD j 0,l.getD (j+1) 0,l.getD (j+2) 0]:=by
 rw [List.take_add,qsc h]
 rfl
theorem qww {l:List Int} {j:Nat} (h:j+3<=l.length):(l.map (Value.int .u32)).extract j (j+3)=[.int .u32 (l.getD j 0),.int .u32 (l.getD (j+1) 0),.int .u32 (l.getD (j+2) 0)]:=by
 rw [List.extract_eq_take_drop,<- List.map_drop,qsc h,show j+3-j=3 by omega]
 rfl
theorem qc2 {w0 w:World} {L:List (Nat×Obj)} {s:Sl} {l:List Int} {B:List Nat} {n:Int} {K:Sl->World->Prop} (ho:Own [] w0 w L) (h:BufB w s l B) (hB:Apart w0 L B) (hl:l.length<=1000000)
  (hk:∀ s' B' w',Own [] w0 w' L->BufB w' s' (l++be n 4) B'->Apart w0 L B'->K s' w') :
  call Tryz.prog 146 [.slice s.a s.len s.cap,.int .u32 n] [.one .slice] w K:=by
 refine qo5 (b:=s) ?_
 unfold qmV
 refine qoe h hl fun s' B' w' b' f' n'=>?_
 refine hk s' B' w' (ho.frame f' (fun b hb=>.inr (hB b hb).1) (fun p hp hb=>(hB _ hb).2 (List.mem_map_of_mem hp))) b' fun b hb=>?_
 rcases n' b hb with h1 | h1
 ·exact hB b h1
 ·refine ⟨Nat.le_trans ho.fr.size h1,fun hm=>?_⟩
  obtain ⟨p,hp,rfl⟩:=List.mem_map.1 hm
  have:=qac (ho.blk p hp)
  omega
theorem qtM {w:World} {q:Int} {t:List Int} {K:Sl->World->Prop} (hv:Hv w) (ht:t.length=27)
  (hk:∀ b T w',w'.heap[b]?=some (.cells (bytesA (sealV (IntKind.wrap .u32 (Int.tmod q 2)) 1 (superB q t))) T (0,0))->Fr [] w w'->w.heap.size<=b->K ⟨some ⟨b,0,none⟩,512,512⟩ w') :
  call Tryz.prog 123 [.agg (supV q t).toArray] [.one .slice] w K:=by
 refine qnD (s:=supV q t) ?_
 unfold qjm
 refine Own.new' (Own.start [] w) fun r1 w1 e1 f1 ho=>?_
 have c0:(supV q t).toArray[0]?=some (.int .u64 q):=rfl
 have cn:=fun n (h:n<27)=>qb0 (q:=q) (t:=t) n (by omega)
 refine Own.ld (c:=.int .u64) ho.drew 0 rfl q c0 ?_
 refine Own.ld (c:=.int .u64) ho.drew 0 rfl q c0 ?_
 refine qc2 (s:=⟨none,0,0⟩) (l:=[]) (B:=[]) ho.drew (.nil _ _ _) (fun b hb=>by cases hb) (by simp) fun s5 B5 w6 ho b5 n5=>?_
 refine qan (ho.cell (off:=0) 0 rfl c0) ?_
 refine qc2 ho b5 n5 (by simp [qah]) fun s8 B8 w9 ho b8 n8=>?_
 refine Own.ld (c:=.int .u32) ho.drew 0 rfl (t.getD 0 0) (cn 0 (by decide)) ?_
 refine Own.ld (c:=.int .u32) ho.drew 0 rfl (t.getD 1 0) (cn 1 (by decide)) ?_
 refine Own.ld (c:=.int .u32) ho.drew 0 rfl (t.getD 2 0) (cn 2 (by decide)) ?_
 refine qc2 ho.drew (qpn b8) n8 (by simp [qah]) fun s13 B13 w14 ho b13 n13=>?_
 refine qaQ (ho.cell (off:=3) 0 rfl (cn 2 (by decide))) (ho.cell (off:=2) 0 rfl (cn 1 (by decide))) ?_
 refine qc2 ho b13 n13 (by simp [qah]) fun s17 B17 w18 ho b17 n17=>?_
 refine qan (ho.cell (off:=3) 0 rfl (cn 2 (by decide))) ?_
 refine qc2 ho b17 n17 (by simp [qah]) fun s20 B20 w21 ho b20 n20=>?_
 have hr:((supV q t).toArray.toList.drop 4).take 24=(t.drop 3).map (Value.int .u32):=by
  show (List.drop 3 (t.map (Value.int .u32))).take 24=_
  rw [List.map_drop,List.take_of_length_le (by rw [List.length_drop,List.length_map,ht]; decide)]
 refine qas (ho.at (i:=0) rfl) ((t.drop 3).map (Value.int .u32)) (by rw [List.length_map,List.length_drop,ht]) hr ?_
 have hl3:(t.drop 3).length=24:=by rw [List.length_drop,ht]
 have ht3:t=[t.getD 0 0,t.getD 1 0,t.getD 2 0]++t.drop 3:=by
  have:=qsc (l:=t) (j:=0) (by omega)
  rw [List.drop_zero] at this
  exact this
 have base:[]++be (IntKind.wrap .u32 (Int.fdiv q (2^32))) 4++be (IntKind.wrap .u32 q) 4++be (t.getD 0 0) 4++be (t.getD 1 0) 4++be (t.getD 2 0) 4=be (IntKind.wrap .u32 (Int.fdiv q (2^32))) 4++be (IntKind.wrap .u32 q) 4++[t.getD 0 0,t.getD 1 0,t.getD 2 0].flatMap (be · 4):=by
  simp
 rw [base] at b20
 refine qag (fun x w'=>∃ (i:Nat) (B:List Nat),x.2=i/\i<=8/\BufB w' x.1 (be (IntKind.wrap .u32 (Int.fdiv q (2^32))) 4++be (IntKind.wrap .u32 q) 4++[t.getD 0 0,t.getD 1 0,t.getD 2 0].flatMap (be · 4)++((t.drop 3).take (3*i)).flatMap (be · 4)) B/\Own [] w w' [(r1,.cells (supV q t).toArray 58 (0,0))]/\Apart w [(r1,.cells (supV q t).toArray 58 (0,0))] B) (fun x _=>(8-x.2).toNat)
  ⟨0,B20,rfl,by omega,by simpa using b20,ho,n20⟩ ?_
 rintro ⟨s,ii⟩ w2 ⟨i,B,hi0,hi8,bb,ho,nb⟩ X hX
 simp only at hi0 bb
 subst hi0
 dsimp only
 have hlen:(be (IntKind.wrap .u32 (Int.fdiv q (2^32))) 4++be (IntKind.wrap .u32 q) 4++[t.getD 0 0,t.getD 1 0,t.getD 2 0].flatMap (be · 4)++((t.drop 3).take (3*i)).flatMap (be · 4)).length<=200:=by
  rw [List.length_append,List.length_append,List.length_append,qah,qah,qdk,qdk,List.length_take,hl3]
  show 4+4+3*4+_<=200
  omega
 refine qaa (fun hc=>?_) (fun hc=>?_)
 ·have hi:i<8:=by have:=of_decide_eq_true hc; omega
  refine qal ⟨by omega,by omega⟩ ?_
  have h3:3*i+3<=(t.drop 3).length:=by omega
  refine qvF ((t.drop 3).getD (3*i) 0,(t.drop 3).getD (3*i+1) 0,(t.drop 3).getD (3*i+2) 0) ?_ ?_
  ·have:=qww h3
   rw [show Int.toNat (i:Int)*3=3*i by simp; omega]
   exact this
  refine Own.new' ho fun r2 w3 e3 f3 ho2=>?_
  refine Own.st' ho2 0 rfl _ rfl rfl (Nat.le_of_ble_eq_true rfl) fun w4 ho2 f4=>?_
  have hlt:=bb.lt
  have hr2:r2∉B:=fun hb=>by have:=hlt _ hb; omega
  have bb:=(bb.frame0 f3).frame f4 (fun b hb hm=>by simp only [List.mem_singleton] at hm; subst hm; exact hr2 hb)
  refine Own.ld (c:=.int .u32) ho2.drew 0 rfl ((t.drop 3).getD (3*i) 0) rfl ?_
  refine Own.ld (c:=.int .u32) ho2.drew 0 rfl ((t.drop 3).getD (3*i+1) 0) rfl ?_
  refine Own.ld (c:=.int .u32) ho2.drew 0 rfl ((t.drop 3).getD (3*i+2) 0) rfl ?_
  refine qc2 ho2.drew (qpn bb) (nb.cons hr2) (by omega) fun s5 B5 w5 ho2 b5 n5=>?_
  refine qaQ (ho2.cell (off:=2) 0 rfl rfl) (ho2.cell (off:=1) 0 rfl rfl) ?_
  refine qc2 ho2 b5 n5 (by rw [List.length_append,qah]; omega) fun s6 B6 w6 ho2 b6 n6=>?_
  refine qan (ho2.cell (off:=2) 0 rfl rfl) ?_
  refine qc2 ho2 b6 n6 (by rw [List.length_append,List.length_append,qah,qah]; omega) fun s7 B7 w7 ho2 b7 n7=>?_
  rw [wi' _ (by omega)]
  refine hX _ _ ⟨i+1,B7,by simp,by omega,?_,ho2.sub (List.sublist_cons_self _ _),n7.tail⟩ (by dsimp only; omega)
  rw [show 3*(i+1)=3*i+3 by omega,qwi h3,List.flatMap_append]
  have e:([(t.drop 3).getD (3*i) 0,(t.drop 3).getD (3*i+1) 0,(t.drop 3).getD (3*i+2) 0]:List Int).flatMap (be · 4)=be ((t.drop 3).getD (3*i) 0) 4++be ((t.drop 3).getD (3*i+1) 0) 4++be ((t.drop 3).getD (3*i+2) 0) 4:=by simp
  rw [e]
  simpa only [List.append_assoc] using b7
 ·obtain rfl:i=8:=by have:=of_decide_eq_false hc; omega
  rw [List.take_of_length_le (by omega),List.append_assoc,<- List.flatMap_append,<- ht3] at bb
  refine Own.ld (c:=.int .u64) ho 0 rfl q c0 ?_
  have hb:=bb.rds (S:=[]) qat (by simp)
  refine qnb hb (hv.frame0 ho.fr) (by show (superB q t).length<=_; rw [qbS ht]; decide) (fun h=>?_) fun _ b T w5 h5 f5 n5=>?_
  ·have h':500<(superB q t).length:=h
   rw [qbS ht] at h'
   exact absurd h' (by decide)
  ·exact hk b T w5 h5 (ho.fr.trans' f5 (by simp)) (Nat.le_trans ho.fr.size n5)
theorem qcX {w0 w:World} {L:List (Nat×Obj)} {r:Nat} {s:Sl} {l:List Int} {K:Int->World->Prop} (ho:Own [] w0 w L) (i:Nat) (hi:L[i]?=some (r,.cells #[.slice s.a s.len s.cap] 22 (0,0))) (h:RdB [] w0 s l) (hl:4<=l.length)
  (hk:∀ s' w',RdB [] w0 s' (l.drop 4)->Own [] w0 w' (L.set i (r,.cells #[.slice s'.a s'.len s'.cap] 22 (0,0)))->K (first4 l) w') :
  callV Tryz.prog (.func (.func 174) #[] #[.pointer (some ⟨r,0,none⟩)]) [] [.one (.int .u32)] w K:=by
 refine qsh (lb:=[.pointer (some ⟨r,0,none⟩)]) rfl (by kernel_rfl) ?_
 refine qkP ?_
 unfold qgA
 have hd:=ho.drew
 have hw:RdB [] w.drew s l:=h.frame0 hd.fr
 refine Own.ld (c:=.slice) hd i hi s rfl ?_
 refine RdB.at hw 0 rfl (getD_some (by omega)) ?_
 refine Own.ld (c:=.slice) hd i hi s rfl ?_
 refine RdB.at hw 1 rfl (getD_some (by omega)) ?_
 refine Own.ld (c:=.slice) hd i hi s rfl ?_
 refine RdB.at hw 2 rfl (getD_some (by omega)) ?_
 refine Own.ld (c:=.slice) hd i hi s rfl ?_
 refine RdB.at hw 3 rfl (getD_some (by omega)) ?_
 refine Own.ld (c:=.slice) hd i hi s rfl ?_
 refine Rds.drop h 4 rfl hl (by omega) fun s' h'=>?_
 refine Own.st hd i hi _ rfl rfl rfl fun w' ho' _=>?_
 exact hk s' w' h' ho'
def parseQ (l:List Int):Int:=bits .or .u64 (IntKind.wrap .u64 (IntKind.wrap .u64 (first4 l)*2^32)) (IntKind.wrap .u64 (first4 (l.drop 4)))
def parseT (l:List Int):List Int:=(List.range 27).map fun i=>first4 (l.drop (8+4*i))
theorem qaM (l:List Int):(parseT l).length=27:=by simp [parseT]
def supN (q:Int) (f:Nat->Int) (n:Nat):Array Value:=(supV q ((List.range n).map f++zs (27-n))).toArray
theorem qh3 {q x y:Int} {A Z:List Int}:splice (supV q (A++x::Z)).toArray (A.length+1) [.int .u32 y]=(supV q (A++y::Z)).toArray:=by
 apply Array.ext'
 have:=qf7 (.int .u64 q::A.map (Value.int .u32)) [Value.int .u32 x] [Value.int .u32 y] (Z.map (Value.int .u32)) rfl
 rw [qaw _ _ _ (by simp [supV])]
 simpa [supV] using this
theorem qbu {q:Int} {f:Nat->Int} {n:Nat} (h:n<27):splice (supN q f n) (n+1) [.int .u32 (f n)]=supN q f (n+1):=by
 have hz:zs (27-n)=0::zs (27-(n+1)):=by rw [show 27-n=(27-(n+1))+1 by omega]; rfl
 have:=qh3 (q:=q) (x:=0) (y:=f n) (A:=(List.range n).map f) (Z:=zs (27-(n+1)))
 rw [List.length_map,List.length_range] at this
 rw [supN,hz,this,supN,List.range_succ,List.map_append,List.append_assoc]
 rfl
theorem qsR {q q':Int} {f:Nat->Int} {n:Nat}:splice (supN q f n) 0 [.int .u64 q']=supN q' f n:=by
 apply Array.ext'
 rw [qaw _ _ _ (by simp [supN,supV])]
 simp [supN,supV]
theorem qcx {q:Int} {f:Nat->Int} {n:Nat} (h:n<=27):(supN q f n).size=28:=by
 simp [supN,supV,qaC]; omega
theorem qnT {q:Int} {f:Nat->Int}:supN q f 27=(supV q ((List.range 27).map f)).toArray:=by
 show (supV q ((List.range 27).map f++[])).toArray=_
 rw [List.append_nil]
theorem qsY {S:List Nat} {w:World} {s:Sl} {l:List Int} {K:List Value->World->Prop} (h:RdB S w s l) (hl:l.length=116)
  (hk:∀ w',Fr [] w w'->K (supV (parseQ l) (parseT l)) w') :
  call Tryz.prog 158 [.slice s.a s.len s.cap] [.raw] w K:=by
 refine qnz (b:=s) ?_
 unfold qj6
 have h0:RdB [] w s l:=h.weak (by simp)
 have hz:((Tryz.prog.info? 58).bind (·.zero)).map (fun z=>z.cells.toList)=some (supV 0 (zs 27)):=by kernel_rfl
 refine Own.new' (Own.start [] w) fun r1 w1 e1 f1 ho=>?_
 refine Own.newZ ho hz fun r3 w2 e3 ho=>?_
 refine Own.newZ ho hz fun r5 w3 e5 ho=>?_
 refine qcX ho 2 rfl h0 (by omega) fun s1 w4 h1 ho=>?_
 have st0:∀ (q:Int),(supV q (zs 27)).toArray=supN q (fun i=>first4 (l.drop (8+4*i))) 0:=fun q=>rfl
 refine Own.st' ho 0 rfl (supN (IntKind.wrap .u64 (IntKind.wrap .u64 (first4 l)*2^32)) (fun i=>first4 (l.drop (8+4*i))) 0) ?_ rfl ?_ fun w5 ho _=>?_
 ·rw [st0 0]; exact qsR
 ·exact Nat.le_of_ble_eq_true rfl
 refine Own.ld (c:=.int .u64) ho.drew 0 rfl (IntKind.wrap .u64 (IntKind.wrap .u64 (first4 l)*2^32)) rfl ?_
 refine qcX ho.drew 2 rfl h1 (by rw [List.length_drop]; omega) fun s2 w6 h2 ho=>?_
 refine qan (ho.cell (off:=0) 0 rfl rfl) ?_
 refine Own.st' ho 0 rfl (supN (parseQ l) (fun i=>first4 (l.drop (8+4*i))) 0) qsR rfl (Nat.le_of_ble_eq_true rfl) fun w7 ho _=>?_
 rw [List.drop_drop] at h2
 refine qcX ho 2 rfl h2 (by rw [List.length_drop]; omega) fun s3 w8 h3 ho=>?_
 refine Own.st' ho 0 rfl (supN (parseQ l) (fun i=>first4 (l.drop (8+4*i))) 1) (qbu (by decide)) rfl (by show 1+1<=_; rw [qcx (by decide)]; decide) fun w9 ho _=>?_
 rw [List.drop_drop] at h3
 refine qcX ho 2 rfl h3 (by rw [List.length_drop]; omega) fun s4 w10 h4 ho=>?_
 refine Own.st' ho 0 rfl (supN (parseQ l) (fun i=>first4 (l.drop (8+4*i))) 2) (qbu (by decide)) rfl (by show 2+1<=_; rw [qcx (by decide)]; decide) fun w11 ho _=>?_
 rw [List.drop_drop] at h4
 refine qcX ho 2 rfl h4 (by rw [List.length_drop]; omega) fun s5 w12 h5 ho=>?_
 refine Own.st' ho 0 rfl (supN (parseQ l) (fun i=>first4 (l.drop (8+4*i))) 3) (qbu (by decide)) rfl (by show 3+1<=_; rw [qcx (by decide)]; decide) fun w13 ho _=>?_
 rw [List.drop_drop] at h5
 refine qag (fun x w'=>∃ (i:Nat) (sx:Sl),x=i/\i<=8/\RdB [] w sx (l.drop (20+12*i))/\
   Own [] w w' [(r5,.cells (supN (parseQ l) (fun i=>first4 (l.drop (8+4*i))) (3+3*i)) 58 (0,0)),(r3,.cells (supV 0 (zs 27)).toArray 58 (0,0)),(r1,.cells #[.slice sx.a sx.len sx.cap] 22 (0,0))]) (fun x _=>(8-x).toNat)
  ⟨0,s5,rfl,by omega,h5,ho⟩ ?_
 rintro x w14 ⟨i,sx,rfl,hi8,hx,ho⟩ X hX
 refine qaa (fun hc=>?_) (fun hc=>?_)
 ·have hi:i<8:=by have:=of_decide_eq_true hc; omega
  refine qal ⟨by omega,by omega⟩ ?_
  simp only [Addr.add_mk]
  have hti:Int.toNat (i:Int)=i:=by omega
  refine qcX ho 2 rfl hx (by rw [List.length_drop]; omega) fun s6 w15 h6 ho=>?_
  show Pt.st ⟨r5,4+Int.toNat (i:Int)*3+0,none⟩ _ _ _
  refine Own.st' ho 0 rfl (supN (parseQ l) (fun i=>first4 (l.drop (8+4*i))) (3+3*i+1)) ?_ rfl ?_ fun w16 ho _=>?_
  ·rw [show 20+12*i=8+4*(3+3*i) by omega,show 4+Int.toNat (i:Int)*3+0=(3+3*i)+1 by omega]
   exact qbu (f:=fun i=>first4 (l.drop (8+4*i))) (by omega)
  ·rw [qcx (by omega)]; show _+1<=28; omega
  rw [List.drop_drop] at h6
  refine qcX ho 2 rfl h6 (by rw [List.length_drop]; omega) fun s7 w17 h7 ho=>?_
  show Pt.st ⟨r5,0+4+Int.toNat (i:Int)*3+1,none⟩ _ _ _
  refine Own.st' ho 0 rfl (supN (parseQ l) (fun i=>first4 (l.drop (8+4*i))) (3+3*i+2)) ?_ rfl ?_ fun w18 ho _=>?_
  ·rw [show 20+12*i+4=8+4*(3+3*i+1) by omega]
   show splice _ (0+4+Int.toNat (i:Int)*3+1) _=_
   rw [show 0+4+Int.toNat (i:Int)*3+1=(3+3*i+1)+1 by omega]
   exact qbu (f:=fun i=>first4 (l.drop (8+4*i))) (by omega)
  ·rw [qcx (by omega)]; show 0+4+Int.toNat (i:Int)*3+1+1<=28; omega
  rw [List.drop_drop] at h7
  refine qcX ho 2 rfl h7 (by rw [List.length_drop]; omega) fun s8 w19 h8 ho=>?_
  show Pt.st ⟨r5,0+4+Int.toNat (i:Int)*3+2,none⟩ _ _ _
  refine Own.st' ho 0 rfl (supN (parseQ l) (fun i=>first4 (l.drop (8+4*i))) (3+3*i+3)) ?_ rfl ?_ fun w20 ho _=>?_
  ·rw [show 20+12*i+4+4=8+4*(3+3*i+2) by omega]
   show splice _ (0+4+Int.toNat (i:Int)*3+2) _=_
   rw [show 0+4+Int.toNat (i:Int)*3+2=(3+3*i+2)+1 by omega]
   exact qbu (f:=fun i=>first4 (l.drop (8+4*i))) (by omega)
  ·rw [qcx (by omega)]; show 0+4+Int.toNat (i:Int)*3+2+1<=28; omega
  rw [List.drop_drop] at h8
  rw [wi' _ (by omega)]
  refine hX _ _ ⟨i+1,s8,by simp,by omega,?_,?_⟩ (by omega)
  ·rw [show 20+12*(i+1)=20+12*i+4+4+4 by omega]; exact h8
  ·rw [show 3+3*(i+1)=3+3*i+3 by omega]; exact ho
 ·obtain rfl:i=8:=by have:=of_decide_eq_false hc; omega
  rw [show 3+3*8=27 from rfl,qnT] at ho
  refine qas (ho.at (i:=0) rfl) (supV (parseQ l) (parseT l)) (qay (qaM l)) (by rw [List.drop_zero]; exact List.take_of_length_le (Nat.le_of_eq (qay (qaM l)))) ?_
  refine qal (qay (qaM l)) ?_
  refine Own.st' ho 1 rfl (supV (parseQ l) (parseT l)).toArray ?_ (qd4 _ _) ?_ fun w15 ho _=>?_
  ·apply Array.ext'
   rw [qaw _ _ _ (by rw [qay (qaM l)]; decide),qay (qaM l),List.take_zero,List.nil_append,List.drop_of_length_le (by decide),List.append_nil]
  ·rw [qay (qaM l)]; decide
  refine qas (ho.at (i:=1) rfl) (supV (parseQ l) (parseT l)) (qay (qaM l)) (by rw [List.drop_zero]; exact List.take_of_length_le (Nat.le_of_eq (qay (qaM l)))) ?_
  exact hk w15 ho.fr
theorem qbg:((Tryz.prog.info? 58).bind (·.zero)).map (fun z=>z.cells.toList)=some (supV 0 (zs 27)):=by kernel_rfl
theorem qmp {P:Program} {t:TypeId} {z:Value} {offs:Array (Nat×Nat)} (hz:(P.info? t).bind (·.zero)=some z) (hu:P.underlying t=some (.struct (fieldsOf P t))) (hpl:∀ w,((fieldsOf P t).mapM fun f=>do pure (f.offset,<- sizeOf f.type):Sem (Array (Nat×Nat))).run P w=.ok offs w) (w:World) :
  (Instr.build t #[]).run P w=.ok (.agg z.cells) w:=by
 simp only [Instr.build,Sem.run_bind,qaZ hz,Result.andThen_ok,run_underlying hu,hpl,Instr.fill,Sem.run_pure]
theorem qbY {w:World} {K:List Value->Prop} (k:K (supV 0 (zs 27))):runQ [Ty1.raw] (fun w'=>(Instr.build 58 #[]).run Tryz.prog w') w K:=by
 obtain ⟨z,hz,hzs⟩:=Option.map_eq_some_iff.1 qbg
 refine qax (ts:=[Ty1.raw]) (supV 0 (zs 27)) ?_ k
 have:=qmp (P:=Tryz.prog) (t:=58) (offs:=#[(0,1),(1,1),(2,1),(3,1),(4,24)]) hz (by kernel_rfl) (fun w=>by kernel_rfl) w
 rw [this]
 show Result.ok (Value.agg z.cells) w=.ok (Value.agg (supV 0 (zs 27)).toArray) w
 rw [<- hzs]
theorem qa1 {cs:Array Value} {vs:List Value} (h:vs.length=cs.size):splice cs 0 vs=vs.toArray:=by
 apply Array.ext'
 rw [qaw _ _ _ (by omega),List.take_zero,List.nil_append,List.drop_of_length_le (by rw [Array.length_toList]; omega),List.append_nil]
theorem qcj {q:Int} {t:List Int} (ht:t.length=27):(supV q t).toArray.size=28:=by rw [List.size_toArray]; exact qay ht
theorem qbo {w:World} {r:Nat} {q:Int} {t:List Int} {T:TypeId} {fr:Nat×Nat} {K:List Value->Prop} (hb:w.heap[r]?=some (.cells (supV q t).toArray T fr)) (ht:t.length=27) (k:K (supV q t)):ldV 28 ⟨r,0,none⟩ w K:=
 qas hb (supV q t) (qay ht) (by rw [List.drop_zero,List.take_of_length_le (Nat.le_of_eq (qay ht))]) k
theorem qcN {w0 w:World} {L:List (Nat×Obj)} {r:Nat} {q q0:Int} {t t0:List Int} {T:TypeId} {K:World->Prop} (ho:Own [] w0 w L) (i:Nat) (hi:L[i]?=some (r,.cells (supV q0 t0).toArray T (0,0))) (h0:t0.length=27) (ht:t.length=27)
  (hk:∀ w',Own [] w0 w' (L.set i (r,.cells (supV q t).toArray T (0,0)))->K w'):chk ((supV q t).length=28) (st ⟨r,0,none⟩ (supV q t) w K):=by
 refine qal (qay ht) ?_
 refine Own.st' ho i hi (supV q t).toArray (qa1 (by rw [qcj h0,qay ht])) (qd4 _ _) (by rw [qcj h0,qay ht]; decide) fun w' ho' _=>hk w' ho'
theorem qa0 {w0 w:World} {L:List (Nat×Obj)} {r:Nat} {q q0:Int} {t t0:List Int} {T:TypeId} {K:List Value->World->Prop} (ho:Own [] w0 w L) (i:Nat) (hi:L[i]?=some (r,.cells (supV q0 t0).toArray T (0,0))) (h0:t0.length=27) (ht:t.length=27)
  (hk:∀ w',Fr [] w0 w'->K (supV q t) w'):chk ((supV q t).length=28) (st ⟨r,0,none⟩ (supV q t) w fun w'=>ldV 28 ⟨r,0,none⟩ w' fun vs=>K vs w'):=by
 refine qcN ho i hi h0 ht fun w' ho'=>?_
 have hil:i<L.length:=by
  rcases Nat.lt_or_ge i L.length with h | h
  ·exact h
  ·rw [List.getElem?_eq_none h] at hi; cases hi
 exact qbo (ho'.at (i:=i) (by rw [List.getElem?_set_self hil])) ht (hk w' ho'.fr)
abbrev Sup:=Int×List Int
def supZero:Sup:=(0,zs 27)
def readSV (place:Int) (l:List Int):Sup×Int:=
 if (openV place l).2.2≠0 then (supZero,(openV place l).2.2)
 else if (openV place l).1≠1\/(openV place l).2.1.length≠116 then (supZero,2)
 else if Int.tmod (parseQ (openV place l).2.1) 2≠place then (supZero,2)
 else ((parseQ (openV place l).2.1,parseT (openV place l).2.1),0)
theorem qa2 (place:Int) (l:List Int):(readSV place l).1.2.length=27:=by
 unfold readSV
 split <;> (try rfl)
 split <;> (try rfl)
 split <;> rfl
def newestV (a b:List Int):Sup×Int:=
 if (readSV 0 a).2≠0/\(readSV 1 b).2≠0 then (supZero,5)
 else if (readSV 0 a).2≠0\/((readSV 1 b).2=0/\(readSV 1 b).1.1>(readSV 0 a).1.1) then ((readSV 1 b).1,0)
 else ((readSV 0 a).1,0)
theorem qea (a b:List Int):(newestV a b).1.2.length=27:=by
 unfold newestV
 split <;> (try rfl)
 split <;> exact qa2 _ _
theorem qpW {S:List Nat} {w:World} {s:Sl} {l:List Int} {place:Int} {K:List Value×Int->World->Prop} (h:RdB S w s l) (hv:Hv w) (hB:IsB l) (hl:l.length<=100000) (hp:place=0\/place=1)
  (hk:∀ w',Fr [] w w'->K (supV (readSV place l).1.1 (readSV place l).1.2,(readSV place l).2) w') :
  call Tryz.prog 130 [.int .i64 place,.slice s.a s.len s.cap] [.raw,.one (.int .i64)] w K:=by
 refine qoG (place:=place) (b:=s) ?_
 unfold qli
 refine Own.newZ (Own.start [] w) qbg fun r1 w1 e1 ho=>?_
 have hpw:IntKind.wrap .u32 place=place:=by rcases hp with rfl | rfl <;> kernel_rfl
 have hpq:IntKind.wrap .u64 place=place:=by rcases hp with rfl | rfl <;> kernel_rfl
 rw [hpw,hpq]
 refine qaf (fun b w'=>b=false/\w'=w1) ?_ ?_
 ·rcases hp with rfl | rfl
  ·exact cond_false rfl ⟨rfl,rfl⟩
  ·exact cond_true rfl ⟨rfl,rfl⟩
 rintro b w2 ⟨rfl,rfl⟩
 refine cond_false rfl ?_
 have bad:∀ {e:Int} {w':World},readSV place l=(supZero,e)->Fr [] w w'->K (supV 0 (zs 27),e) w':=by
  intro e w' he hf
  have:=hk w' hf
  rw [he] at this
  exact this
 refine qnE (h.frame0 ho.fr) (hv.frame0 ho.fr) hB hl fun s3 B3 w3 b3 f3 n3=>?_
 have ho:=ho.frame0 f3
 refine qaa (fun hc=>?_) (fun hc=>?_)
 ·have he:(openV place l).2.2≠0:=by simpa using hc
  refine qbY ?_
  refine qa0 ho 0 rfl rfl rfl fun w4 f4=>?_
  exact bad (by rw [readSV,if_pos he]) f4
 have he:¬ (openV place l).2.2≠0:=by simpa using hc
 refine qaf (fun b w'=>b=decide ((openV place l).1≠1\/(openV place l).2.1.length≠116)/\w'=w3) ?_ ?_
 ·refine qaa (fun hc=>?_) (fun hc=>?_)
  ·have h1:(openV place l).1≠1:=by simpa using hc
   exact ⟨by simp [h1],rfl⟩
  ·have h1:(openV place l).1=1:=by simpa using hc
   have hbl:s3.len=(openV place l).2.1.length:=b3.len
   refine ⟨?_,rfl⟩
   dsimp only
   rw [hbl]
   by_cases hx:(openV place l).2.1.length=116
   ·rw [hx]; simp [h1]
   ·have:¬ (((openV place l).2.1.length:Int)=116):=by omega
    simp [h1,hx,this]
 rintro b w4 ⟨rfl,rfl⟩
 refine qaa (fun hc=>?_) (fun hc=>?_)
 ·refine qbY ?_
  refine qa0 ho 0 rfl rfl rfl fun w5 f5=>?_
  exact bad (by rw [readSV,if_neg he,if_pos (of_decide_eq_true hc)]) f5
 have hk2:=of_decide_eq_false hc
 have hb116:(openV place l).2.1.length=116:=by
  rcases Nat.decEq (openV place l).2.1.length 116 with h | h
  ·exact absurd (Or.inr h) hk2
  ·exact h
 have hr3:=b3.rds (S:=[]) qat (by simp)
 refine qsY hr3 hb116 fun w5 f5=>?_
 have ho:=ho.frame0 f5
 refine Own.newZ ho qbg fun r6 w6 e6 ho=>?_
 refine qcN ho 0 rfl rfl (qaM _) fun w7 ho=>?_
 refine Own.ld (c:=.int .u64) ho 0 rfl (parseQ (openV place l).2.1) rfl ?_
 refine qaa (fun hc=>?_) (fun hc=>?_)
 ·have hq:Int.tmod (parseQ (openV place l).2.1) 2≠place:=by simpa using hc
  refine qbY ?_
  refine qa0 ho 1 rfl rfl rfl fun w8 f8=>?_
  exact bad (by rw [readSV,if_neg he,if_neg hk2,if_pos hq]) f8
 ·have hq:¬ Int.tmod (parseQ (openV place l).2.1) 2≠place:=by simpa using hc
  refine qbo (ho.at (i:=0) rfl) (qaM _) ?_
  refine qa0 ho 1 rfl rfl (qaM _) fun w8 f8=>?_
  have:=hk w8 f8
  rw [readSV,if_neg he,if_neg hk2,if_neg hq] at this
  exact this
theorem qr9 {S:List Nat} {w:World} {sa sb:Sl} {a b:List Int} {K:List Value×Int->World->Prop} (ha:RdB S w sa a) (hb:RdB S w sb b) (hv:Hv w) (hBa:IsB a) (hBb:IsB b) (hla:a.length<=100000) (hlb:b.length<=100000)
  (hk:∀ w',Fr [] w w'->K (supV (newestV a b).1.1 (newestV a b).1.2,(newestV a b).2) w') :
  call Tryz.prog 104 [.slice sa.a sa.len sa.cap,.slice sb.a sb.len sb.cap] [.raw,.one (.int .i64)] w K:=by
 refine qmi (a:=sa) (b:=sb) ?_
 unfold qiB
 refine Own.newZ (Own.start [] w) qbg fun r1 w1 e1 ho=>?_
 refine qpW (ha.frame0 ho.fr) (hv.frame0 ho.fr) hBa hla (.inl rfl) fun w2 f2=>?_
 have ho:=ho.frame0 f2
 refine Own.newZ ho qbg fun r3 w3 e3 ho=>?_
 refine qcN ho 0 rfl rfl (qa2 _ _) fun w4 ho=>?_
 refine qpW (hb.frame0 ho.fr) (hv.frame0 ho.fr) hBb hlb (.inr rfl) fun w5 f5=>?_
 have ho:=ho.frame0 f5
 refine Own.newZ ho qbg fun r6 w6 e6 ho=>?_
 refine qcN ho 0 rfl rfl (qa2 _ _) fun w7 ho=>?_
 refine qaf (fun c w'=>c=decide ((readSV 0 a).2≠0/\(readSV 1 b).2≠0)/\w'=w7) ?_ ?_
 ·refine qaa (fun hc=>?_) (fun hc=>?_)
  ·have h1:(readSV 0 a).2≠0:=by simpa using hc
   refine ⟨?_,rfl⟩
   by_cases h2:(readSV 1 b).2=0 <;> simp [h1,h2]
  ·have h1:(readSV 0 a).2=0:=by simpa using hc
   exact ⟨by simp [h1],rfl⟩
 rintro c w8 ⟨rfl,rfl⟩
 refine qaa (fun hc=>?_) (fun hc=>?_)
 ·refine qbY ?_
  refine qa0 ho 2 rfl rfl rfl fun w9 f9=>?_
  have:=hk w9 f9
  rw [newestV,if_pos (of_decide_eq_true hc)] at this
  exact this
 have hn:=of_decide_eq_false hc
 refine qaf (fun c w'=>c=decide ((readSV 0 a).2≠0\/((readSV 1 b).2=0/\(readSV 1 b).1.1>(readSV 0 a).1.1))/\w'=w8) ?_ ?_
 ·refine qaa (fun hc=>?_) (fun hc=>?_)
  ·have h1:(readSV 0 a).2≠0:=by simpa using hc
   exact ⟨by simp [h1],rfl⟩
  ·have h1:(readSV 0 a).2=0:=by simpa using hc
   refine qaa (fun hc=>?_) (fun hc=>?_)
   ·have h2:(readSV 1 b).2=0:=by simpa using hc
    refine Own.ld (c:=.int .u64) ho 0 rfl (readSV 1 b).1.1 rfl ?_
    refine Own.ld (c:=.int .u64) ho 1 rfl (readSV 0 a).1.1 rfl ?_
    refine ⟨?_,rfl⟩
    by_cases h3:(readSV 1 b).1.1>(readSV 0 a).1.1 <;> simp [h1,h2,h3]
   ·have h2:(readSV 1 b).2≠0:=by simpa using hc
    exact ⟨by simp [h1,h2],rfl⟩
 rintro c w9 ⟨rfl,rfl⟩
 refine qaa (fun hc=>?_) (fun hc=>?_)
 ·refine qbo (ho.at (i:=0) rfl) (qa2 _ _) ?_
  refine qa0 ho 2 rfl rfl (qa2 _ _) fun w10 f10=>?_
  have:=hk w10 f10
  rw [newestV,if_neg hn,if_pos (of_decide_eq_true hc)] at this
  exact this
 ·refine qbo (ho.at (i:=1) rfl) (qa2 _ _) ?_
  refine qa0 ho 2 rfl rfl (qa2 _ _) fun w10 f10=>?_
  have:=hk w10 f10
  rw [newestV,if_neg hn,if_neg (of_decide_eq_false hc)] at this
  exact this
end Go.Proofs.YtmbcedengdoamaaGreatDoor
end
