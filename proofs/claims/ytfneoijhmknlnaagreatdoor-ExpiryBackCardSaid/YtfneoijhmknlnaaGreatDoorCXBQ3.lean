/- Conditions: those that stand in each line. -/
import Derived.Test.YtfneoijhmknlnaaGreatDoorCXBQ1
import Derived.Test.YtfneoijhmknlnaaGreatDoorProg
import Derived.KernelRfl
import Derived.Test.YtfneoijhmknlnaaGreatDoorCXBQ2
import Derived.Sort.LotD6
import Derived.Sort.LotA
import Derived.Sort.LotC
import Derived.Sort.LotD1
import Derived.Laws.Bits64b
import Derived.Laws.Closers25b
import Derived.Sort.LotD2
import Derived.Sort.LotB
import Derived.Sort.LotD3
import Derived.Shelf.Bytes.SlCountOne
import Derived.Laws.CopyRow
import Derived.Laws.IdiomCopy
set_option linter.unusedVariables false
set_option linter.unusedSimpArgs false
set_option linter.defProp false
namespace Go.Proofs.YtfneoijhmknlnaaGreatDoor
open Go.Proofs.Tryz
section
set_option maxRecDepth 100000
open Go Go.Pt
open Go.IntKind (wrap)
variable {p:List Value} {w:World}
@[reducible] def eY:List Cell:=[.slice,.slice,.slice,.slice,.slice,.slice,.slice,.int .u64,.bool,.slice]
variable {K:((HL eY))->WP} {b:HL eY}
@[reducible] def oX:List Cell:=fq
@[reducible] def DZ:List Cell:=[.int .u64,.int .u64,.int .u64,.int .u64,.int .u64]
@[reducible] def qs:List Cell:=ig
variable {t:HL qs}
@[reducible] def rR:List Cell:=ib
@[reducible] def tY:List Cell:=nd

def qgv{a0 a1:Int}{K:Sl->WP}(hF:new (.cells #[.int .u64 a0,.int .u64 a1] 43) w fun a b=>mp 3 ([.i 0]) 1 8 16 16 b fun c d=>ld (.int .u64) (dc a) d.drew fun (e:Int)=>ld (.int .u64) (dc a 1) d.drew fun (f:Int)=>loop (Int×Int×Int) (fun g (h:Int×Int×Int) i=>cond (decide (h.snd.snd>=0)) (idx c h.snd.snd 1 fun j=>st j ([.i (wrap .i64 (Int.tmod h.fst 256))]) i fun k=>idx c (wrap .i64 (8+h.snd.snd)) 1 fun l=>st l ([.i (wrap .i64 (Int.tmod h.snd.fst 256))]) k fun m=>g ((wrap .u64 (Int.tdiv h.fst 256),wrap .u64 (Int.tdiv h.snd.fst 256),wrap .i64 (h.snd.snd-1))) m) (K c i)) ((e,f,7)) d.drew):cW 40 [c8 a0 a1] dd w K:=eJ (an:=aS [(6,.l [(4,.one (.int .u64)),(5,.one (.int .u64)),(6,.one .i)])]) func40 hF

def qgw{d:Sl}{K:((Int×Int))->WP}(hF:new (.cells cz 43) w fun a b=>new (.cells cz 43) b fun c e=>st (dc c) ([.int .u64 0,.int .u64 0]) e fun f=>loop (Int) (fun g (h:Int) i=>cond (decide (h<8)) (ld (.int .u64) (dc c) i.drew fun (j:Int)=>idx d h 1 fun k=>ld .i k i.drew fun (l:Int)=>st (dc c) ([.int .u64 (wrap .u64 (wrap .u64 (j*256)+wrap .u64 l))]) i.drew fun m=>ld (.int .u64) (dc c 1) m.drew fun (n:Int)=>idx d (wrap .i64 (8+h)) 1 fun o=>ld .i o m.drew fun (p:Int)=>st (dc c 1) ([.int .u64 (wrap .u64 (wrap .u64 (n*256)+wrap .u64 p))]) m.drew fun q=>g (wrap .i64 (h+1)) q) (dK da (dc c) i fun r=>st (dc a) ([.int .u64 r.fst,.int .u64 r.snd]) i fun s=>dK da (dc a) s fun t=>K t s)) 0 f):cW 41 [d.v] [.agg da] w K:=eJ (an:=aS [(4,.l [(4,.one .i)])]) func41 hF

def qiS{a0 a1 b0 b1:Int}{K:((Int×Int)×Bool)->WP}(hF:new (.cells #[.int .u64 a0,.int .u64 a1] 43) w fun b c=>new (.cells #[.int .u64 b0,.int .u64 b1] 43) c fun d e=>new (.cells cz 43) e fun f g=>dK da (dc b) g.drew fun h=>dK da (dc d) g.drew fun i=>cW 40 ([c8 h.fst h.snd]) dd g.drew fun j k=>held [gw (dc d) 0 ([.int .u64 i.fst,.int .u64 i.snd])] k<|cW 40 ([c8 i.fst i.snd]) dd k fun m n=>loop (Int×Int) (fun o (p:Int×Int) q=>cond (decide (p.snd>=0)) (idx j p.snd 1 fun r=>ld .i r q.drew fun (s:Int)=>idx m p.snd 1 fun t=>ld .i t q.drew fun (u:Int)=>idx j p.snd 1 fun v=>st v ([.i (Int.tmod (wrap .i64 (wrap .i64 (s+u)+p.fst)) 256)]) q.drew fun x=>o ((wrap .i64 (Int.tdiv (wrap .i64 (wrap .i64 (s+u)+p.fst)) 256),wrap .i64 (p.snd-1))) x) (cond (decide (p.fst>0)) (st (dc f) ([.int .u64 0,.int .u64 0]) q fun y=>dK da (dc f) y fun z=>K ((z,false)) y) (cW 41 ([j.v]) ([.agg da]) q fun (A:Int×Int) B=>st (dc f) ([.int .u64 A.fst,.int .u64 A.snd]) B fun C=>dK da (dc f) C fun D=>K ((D,true)) C))) ((0,15)) n):cW 14 [c8 a0 a1,c8 b0 b1] [.agg da,.one .bool] w K:=eJ (an:=aS [(2,.o [[0,2,1,3,4,5]]),(3,.l [(8,.one .i),(9,.one .i)])]) func14 hF

def qiT{a0 a1 b0 b1:Int}{K:((Int×Int)×Bool)->WP}(hF:new (.cells #[.int .u64 a0,.int .u64 a1] 43) w fun b c=>new (.cells #[.int .u64 b0,.int .u64 b1] 43) c fun d e=>new (.cells cz 43) e fun f g=>dK da (dc b) g.drew fun h=>dK da (dc d) g.drew fun i=>cW 40 ([c8 h.fst h.snd]) dd g.drew fun j k=>held [gw (dc d) 0 ([.int .u64 i.fst,.int .u64 i.snd])] k<|cW 40 ([c8 i.fst i.snd]) dd k fun m n=>loop (Int×Int) (fun o (p:Int×Int) q=>cond (decide (p.snd>=0)) (idx j p.snd 1 fun r=>ld .i r q.drew fun (s:Int)=>idx m p.snd 1 fun t=>ld .i t q.drew fun (u:Int)=>join (Int×Int) (fun v=>cond (decide (wrap .i64 (wrap .i64 (s-u)-p.fst)<0)) (v ((1,wrap .i64 (wrap .i64 (wrap .i64 (s-u)-p.fst)+256))) q.drew) (v ((0,wrap .i64 (wrap .i64 (s-u)-p.fst))) q.drew)) fun (x:Int×Int) y=>idx j p.snd 1 fun z=>st z ([.i x.snd]) y fun A=>o ((x.fst,wrap .i64 (p.snd-1))) A) (cond (decide (p.fst>0)) (st (dc f) ([.int .u64 0,.int .u64 0]) q fun B=>dK da (dc f) B fun C=>K ((C,false)) B) (cW 41 ([j.v]) ([.agg da]) q fun (D:Int×Int) E=>st (dc f) ([.int .u64 D.fst,.int .u64 D.snd]) E fun F=>dK da (dc f) F fun G=>K ((G,true)) F))) ((0,15)) n):cW 90 [c8 a0 a1,c8 b0 b1] [.agg da,.one .bool] w K:=eJ (an:=aS [(2,.o [[0,2,1,3,4,5]]),(3,.l [(8,.one .i),(9,.one .i)]),(6,.j [(8,.one .i),(10,.one .i)])]) func90 hF

def qeh{id0 id1:Int}{K:((HL oX)×Bool)->WP}(hF:new (.cells (List.toArray (HL.mk eY b)) 36) w fun a c=>new (.cells #[.int .u64 id0,.int .u64 id1] 43) c fun d e=>new (.cells cu 47) e fun f g=>loop (Int) (fun h (i:Int) j=>ld .slice (dc a) j fun k=>cond (decide (i<(↑k.len:Int))) (ld .slice (dc a) j.drew fun l=>idx l i 15 fun m=>dK da m j.drew fun n=>dK da (dc d) j.drew fun o=>fl df (fun p=>(do eqGuard BinOp.eql 43 (Operand.tmp 19) (Operand.tmp 20) (c8 n.fst n.snd) (c8 o.fst o.snd);binOp BinOp.eql 43 (c8 n.fst n.snd) (c8 o.fst o.snd)).run prog p) j.drew fun (q:Bool)=>cond q (ld .slice (dc a) j.drew fun r=>idx r i 15 fun s=>dK (oX) s j.drew fun t=>st (dc f) (HL.mk oX t) j.drew fun u=>dK (oX) (dc f) u fun v=>K ((v,true)) u) (h (wrap .i64 (i+1)) j.drew)) (st (dc f) ([.int .u64 0,.int .u64 0,.int .u64 0,.int .u64 0,.int .u64 0,.int .u64 0,.int .u64 0,.int .u64 0,.int .u64 0,.int .u64 0,.int .u64 0,.u 0,.int .u16 0,.int .u16 0,.int .u64 0]) j fun x=>dK (oX) (dc f) x fun y=>K ((y,false)) x)) 0 g):cW 64 [fg eY b,c8 id0 id1] [.agg oX,.one .bool] w K:=eJ (an:=aS [(3,.l [(6,.one .i)])]) func64 hF

def qc9{a:HL oX}(hF:new (.cells (List.toArray (HL.mk eY b)) 36) w fun c d=>new (.cells (List.toArray (HL.mk oX a)) 47) d fun e f=>new (.cells co 36) f fun g h=>new (.cells #[] 47) h fun i j=>ld .slice (dc c) j fun k=>ju (#[22,22]) 22 (#[.slice (pW i) 0 0,k.v]) j fun l m=>loop (Int) (fun n (o:Int) p=>cond (decide (o<(↑l.len:Int))) (idx l o 15 fun q=>dK da q p.drew fun r=>dK da (dc e) p.drew fun s=>fl df (fun t=>(do eqGuard BinOp.eql 43 (Operand.tmp 21) (Operand.tmp 23) (c8 r.fst r.snd) (c8 s.fst s.snd);binOp BinOp.eql 43 (c8 r.fst r.snd) (c8 s.fst s.snd)).run prog t) p.drew fun (u:Bool)=>cond u (dK (oX) (dc e) p.drew fun v=>idx l o 15 fun x=>st x (HL.mk oX v) p.drew fun y=>st (dc c) ([l.v]) y fun z=>dK (eY) (dc c) z fun A=>st (dc g) (HL.mk eY A) z fun B=>dK (eY) (dc g) B fun C=>K C B) (n (wrap .i64 (o+1)) p.drew)) (dK (oX) (dc e) p fun D=>new (.cells (List.toArray (HL.mk oX D)) 47) p fun E F=>ju (#[22,22]) 22 (#[l.v,.slice (pW E) 1 1]) F fun G H=>st (dc c) ([G.v]) H fun I=>dK (eY) (dc c) I fun J=>st (dc g) (HL.mk eY J) I fun L=>dK (eY) (dc g) L fun M=>K M L)) 0 m):cW 23 [fg eY b,fg oX a] [.agg eY] w K:=eJ (an:=aS [(4,.l [(6,.one .i)])]) func23 hF

def qdO{id0 id1:Int}{K:((List Value)×Bool)->WP}(hF:new (.cells (List.toArray (HL.mk eY b)) 36) w fun a c=>new (.cells #[.int .u64 id0,.int .u64 id1] 43) c fun d e=>eT prog 57 e fun f g=>loop (Int) (fun h (i:Int) j=>ld .slice (dc a 1) j fun k=>cond (decide (i<(↑k.len:Int))) (ld .slice (dc a 1) j.drew fun l=>idx l i 18 fun m=>dK da m j.drew fun n=>dK da (dc d) j.drew fun o=>fl df (fun p=>(do eqGuard BinOp.eql 43 (Operand.tmp 20) (Operand.tmp 21) (c8 n.fst n.snd) (c8 o.fst o.snd);binOp BinOp.eql 43 (c8 n.fst n.snd) (c8 o.fst o.snd)).run prog p) j.drew fun (q:Bool)=>cond q (ld .slice (dc a 1) j.drew fun r=>idx r i 18 fun s=>ic 18 s j.drew fun t=>gK (List.length t=18)<|st (dc f) t j.drew fun u=>ic 18 (dc f) u fun v=>K ((v,true)) u) (h (wrap .i64 (i+1)) j.drew)) (fl dt (fun x=>(Instr.build 57 #[]).run prog x) j fun y=>gK (List.length y=18)<|st (dc f) y j fun z=>ic 18 (dc f) z fun A=>K ((A,false)) z)) 0 g):cW 13 [fg eY b,c8 id0 id1] dh w K:=eJ (an:=aS [(3,.l [(6,.one .i)])]) func13 hF

def qhS{l:Sl}{m0 m1 m2 m3 m4:Int}{K:Sl->WP}(hF:new (.cells #[.int .u64 m0,.int .u64 m1,.int .u64 m2,.int .u64 m3,.int .u64 m4] 146) w fun b c=>new (.cells #[] 146) c fun d e=>ju (#[32,32]) 32 (#[.slice (pW d) 0 0,l.v]) e fun f g=>loop (Int) (fun h (i:Int) j=>cond (decide (i<(↑f.len:Int))) (join (Bool) (fun k=>idx f i 5 fun m=>dK da m j.drew fun n=>dK da (dc b) j.drew fun o=>fl df (fun p=>(do eqGuard BinOp.eql 43 (Operand.tmp 20) (Operand.tmp 22) (c8 n.fst n.snd) (c8 o.fst o.snd);binOp BinOp.eql 43 (c8 n.fst n.snd) (c8 o.fst o.snd)).run prog p) j.drew fun (q:Bool)=>cond q (idx f i 5 fun r=>ld (.int .u64) ⟨r.block,r.off+2,none⟩ j.drew fun (s:Int)=>ld (.int .u64) (dc b 2) j.drew fun (t:Int)=>k (s==t) j.drew) (k false j.drew)) fun (u:Bool) v=>cond u (dK (DZ) (dc b) v fun x=>idx f i 5 fun y=>st y (HL.mk DZ x) v fun z=>K f z) (h (wrap .i64 (i+1)) v)) (dK (DZ) (dc b) j fun A=>new (.cells (List.toArray (HL.mk DZ A)) 146) j fun B C=>ju (#[32,32]) 32 (#[f.v,.slice (pW B) 1 1]) C fun D E=>K D E)) 0 g):cW 68 [l.v,.agg #[.int .u64 m0,.int .u64 m1,.int .u64 m2,.int .u64 m3,.int .u64 m4]] dd w K:=eJ (an:=aS [(4,.l [(6,.one .i)]),(3,.j [(33,.one .bool)])]) func68 hF

def qcZ{k:List Value}(hF:new (.cells (List.toArray (HL.mk eY b)) 36) w fun c d=>new (.cells (List.toArray k) 57) d fun e f=>new (.cells co 36) f fun g h=>dK (qs) (dc e) h fun i=>new (.cells cy 55) h fun j l=>st (dc j) (HL.mk qs i) l fun m=>ld .slice (dc c 4) m fun n=>dK da (dc j 2) m fun o=>ld (.int .u64) (dc j 15) m fun (p:Int)=>dK da (dc j) m fun q=>cW 68 ([n.v,.agg #[.int .u64 o.fst,.int .u64 o.snd,.int .u64 p,.int .u64 q.fst,.int .u64 q.snd]]) dd m fun r s=>st (dc c 4) ([r.v]) s fun t=>ld .slice (dc c 5) t fun u=>dK da (dc j 4) t fun v=>ld (.int .u64) (dc j 15) t fun (x:Int)=>dK da (dc j) t fun y=>cW 68 ([u.v,.agg #[.int .u64 v.fst,.int .u64 v.snd,.int .u64 x,.int .u64 y.fst,.int .u64 y.snd]]) dd t fun z A=>st (dc c 5) ([z.v]) A fun B=>new (.cells #[] 57) B fun C D=>ld .slice (dc c 1) D fun E=>ju (#[29,29]) 29 (#[.slice (pW C) 0 0,E.v]) D fun F G=>loop (Int) (fun H (I:Int) J=>cond (decide (I<(↑F.len:Int))) (idx F I 18 fun L=>dK da L J.drew fun M=>dK da (dc j) J.drew fun N=>fl df (fun O=>(do eqGuard BinOp.eql 43 (Operand.tmp 47) (Operand.tmp 49) (c8 M.fst M.snd) (c8 N.fst N.snd);binOp BinOp.eql 43 (c8 M.fst M.snd) (c8 N.fst N.snd)).run prog O) J.drew fun (P:Bool)=>cond P (ic 18 (dc e) J.drew fun Q=>idx F I 18 fun R=>gK (List.length Q=18)<|st R Q J.drew fun S=>st (dc c 1) ([F.v]) S fun T=>dK (eY) (dc c) T fun U=>st (dc g) (HL.mk eY U) T fun V=>dK (eY) (dc g) V fun W=>K W V) (H (wrap .i64 (I+1)) J.drew)) (ic 18 (dc e) J fun X=>gK (List.length X=18)<|new (.cells (List.toArray X) 57) J fun Y Z=>ju (#[29,29]) 29 (#[F.v,.slice (pW Y) 1 1]) Z fun aa ab=>st (dc c 1) ([aa.v]) ab fun ac=>dK (eY) (dc c) ac fun ad=>st (dc g) (HL.mk eY ad) ac fun ae=>dK (eY) (dc g) ae fun af=>K af ae)) 0 G):cW 26 [fg eY b,.agg k.toArray] [.agg eY] w K:=eJ (an:=aS [(7,.l [(7,.one .i)])]) func26 hF

def qdG{id0 id1 s:Int}(hF:new (.cells (List.toArray (HL.mk eY b)) 36) w fun c d=>new (.cells #[.int .u64 id0,.int .u64 id1] 43) d fun e f=>new (.cells co 36) f fun g h=>new (.cells #[] 148) h fun i j=>ld .slice (dc c 2) j fun k=>ju (#[30,30]) 30 (#[.slice (pW i) 0 0,k.v]) j fun l m=>loop (Int) (fun n (o:Int) p=>cond (decide (o<(↑l.len:Int))) (idx l o 3 fun q=>dK da q p.drew fun r=>dK da (dc e) p.drew fun t=>fl df (fun u=>(do eqGuard BinOp.eql 43 (Operand.tmp 23) (Operand.tmp 24) (c8 r.fst r.snd) (c8 t.fst t.snd);binOp BinOp.eql 43 (c8 r.fst r.snd) (c8 t.fst t.snd)).run prog u) p.drew fun (v:Bool)=>cond v (idx l o 3 fun x=>st ⟨x.block,x.off+2,none⟩ ([.b s]) p.drew fun y=>st (dc c 2) ([l.v]) y fun z=>dK (eY) (dc c) z fun A=>st (dc g) (HL.mk eY A) z fun B=>dK (eY) (dc g) B fun C=>K C B) (n (wrap .i64 (o+1)) p.drew)) (dK da (dc e) p fun D=>new (.cells #[.int .u64 D.fst,.int .u64 D.snd,.b s] 148) p fun E F=>ju (#[30,30]) 30 (#[l.v,.slice (pW E) 1 1]) F fun G H=>st (dc c 2) ([G.v]) H fun I=>dK (eY) (dc c) I fun J=>st (dc g) (HL.mk eY J) I fun L=>dK (eY) (dc g) L fun M=>K M L)) 0 m):cW 27 [fg eY b,c8 id0 id1,.b s] [.agg eY] w K:=eJ (an:=aS [(4,.l [(8,.one .i)])]) func27 hF

def qhy{a0 a1 a2 a3 b0 b1 b2 b3:Int}{K:Bool->WP}(hF:new (.cells #[.int .u64 a0,.int .u64 a1,.int .u64 a2,.int .u64 a3] 53) w fun a b=>new (.cells #[.int .u64 b0,.int .u64 b1,.int .u64 b2,.int .u64 b3] 53) b fun c d=>ld (.int .u64) (dc a) d fun (e:Int)=>ld (.int .u64) (dc c) d fun (f:Int)=>cond (decide (e<f)) (K true d) (ld (.int .u64) (dc a) d fun (g:Int)=>ld (.int .u64) (dc c) d fun (h:Int)=>cond (g==h) (ld (.int .u64) (dc a 1) d fun (i:Int)=>ld (.int .u64) (dc c 1) d fun (j:Int)=>K (decide (i<j)) d) (K false d))):cW 71 [.agg #[.int .u64 a0,.int .u64 a1,.int .u64 a2,.int .u64 a3],.agg #[.int .u64 b0,.int .u64 b1,.int .u64 b2,.int .u64 b3]] df w K:=eJ (an:=[]) func71 hF

def qeD{d0 d1 d2 d3:Int}{K:((HL eY)×Bool)->WP}(hF:new (.cells (List.toArray (HL.mk eY b)) 36) w fun c d=>new (.cells #[.int .u64 d0,.int .u64 d1,.int .u64 d2,.int .u64 d3] 53) d fun e f=>new (.cells co 36) f fun g h=>new (.cells #[] 53) h fun i j=>loop (Sl×Int) (fun k (l:Sl×Int) m=>ld .slice (dc c 3) m fun n=>cond (decide (l.snd<(↑n.len:Int))) (join (Sl) (fun o=>join (Bool) (fun p=>ld .slice (dc c 3) m.drew fun q=>idx q l.snd 4 fun r=>ld (.int .u64) r m.drew fun (s:Int)=>ld (.int .u64) (dc e) m.drew fun (t:Int)=>cond (!s==t) (p true m.drew) (ld .slice (dc c 3) m.drew fun u=>idx u l.snd 4 fun v=>ld (.int .u64) ⟨v.block,v.off+1,none⟩ m.drew fun (x:Int)=>ld (.int .u64) (dc e 1) m.drew fun (y:Int)=>p (!x==y) m.drew)) fun (z:Bool) A=>cond z (ld .slice (dc c 3) A fun B=>idx B l.snd 4 fun C=>dK (rR) C A fun D=>new (.cells (List.toArray (HL.mk rR D)) 53) A fun E F=>ju (#[31,31]) 31 (#[l.fst.v,.slice (pW E) 1 1]) F fun G H=>o G H) (o l.fst A)) fun I J=>k ((I,wrap .i64 (l.snd+1))) J) (ld .slice (dc c 3) m fun L=>st (dc c 3) ([l.fst.v]) m fun M=>dK (eY) (dc c) M fun N=>st (dc g) (HL.mk eY N) M fun O=>dK (eY) (dc g) O fun P=>K ((P,decide ((↑l.fst.len:Int)<(↑L.len:Int)))) O)) (({ a:=pW i,len:=0,cap:=0 },0)) j):cW 45 [fg eY b,.agg #[.int .u64 d0,.int .u64 d1,.int .u64 d2,.int .u64 d3]] [.agg eY,.one .bool] w K:=eJ (an:=aS [(4,.l [(6,.one .slice),(7,.one .i)]),(2,.j [(6,.one .slice)]),(0,.j [(36,.one .bool)])]) func45 hF

def qeE{d0 d1 d2 d3:Int}(hF:new (.cells (List.toArray (HL.mk eY b)) 36) w fun c d=>new (.cells #[.int .u64 d0,.int .u64 d1,.int .u64 d2,.int .u64 d3] 53) d fun e f=>new (.cells co 36) f fun g h=>dK (eY) (dc c) h fun i=>dK (rR) (dc e) h fun j=>cW 45 ([fg eY i,fg rR j]) ([.agg eY,.one .bool]) h fun (k:(Sl×Sl×Sl×Sl×Sl×Sl×Sl×Int×Bool×Sl)×Bool) l=>st (dc c) (HL.mk eY k.fst) l fun m=>new (.cells #[] 53) m fun n o=>loop (Sl×Bool×Int) (fun p (q:Sl×Bool×Int) r=>ld .slice (dc c 3) r fun s=>cond (decide (q.snd.snd<(↑s.len:Int))) (join (Sl×Bool) (fun t=>join (Bool) (fun u=>cond (!q.snd.fst) (dK (rR) (dc e) r.drew fun v=>ld .slice (dc c 3) r.drew fun x=>idx x q.snd.snd 4 fun y=>dK (rR) y r.drew fun z=>cW 71 ([fg rR v,fg rR z]) df r.drew fun (A:Bool) B=>u A B) (u false r.drew)) fun (C:Bool) D=>cond C (dK (rR) (dc e) D fun E=>new (.cells (List.toArray (HL.mk rR E)) 53) D fun F G=>ju (#[31,31]) 31 (#[q.fst.v,.slice (pW F) 1 1]) G fun H I=>t ((H,true)) I) (t ((q.fst,q.snd.fst)) D)) fun (J:Sl×Bool) L=>ld .slice (dc c 3) L fun M=>idx M q.snd.snd 4 fun N=>dK (rR) N L fun O=>new (.cells (List.toArray (HL.mk rR O)) 53) L fun P Q=>ju (#[31,31]) 31 (#[J.fst.v,.slice (pW P) 1 1]) Q fun R S=>p ((R,J.snd,wrap .i64 (q.snd.snd+1))) S) (join (Sl) (fun T=>cond (!q.snd.fst) (dK (rR) (dc e) r fun U=>new (.cells (List.toArray (HL.mk rR U)) 53) r fun V W=>ju (#[31,31]) 31 (#[q.fst.v,.slice (pW V) 1 1]) W fun X Y=>T X Y) (T q.fst r)) fun Z aa=>st (dc c 3) ([Z.v]) aa fun ab=>dK (eY) (dc c) ab fun ac=>st (dc g) (HL.mk eY ac) ab fun ad=>dK (eY) (dc g) ad fun ae=>K ae ad)) (({ a:=pW n,len:=0,cap:=0 },false,0)) o):cW 31 [fg eY b,.agg #[.int .u64 d0,.int .u64 d1,.int .u64 d2,.int .u64 d3]] [.agg eY] w K:=eJ (an:=aS [(6,.l [(5,.one .slice),(6,.one .bool),(7,.one .i)]),(3,.j [(5,.one .slice),(6,.one .bool)]),(0,.j [(32,.one .bool)]),(2,.j [(5,.one .slice)])]) func31 hF

def qfO{j8 most:Int}{K:Sl->WP}(hF:new (.cells (List.toArray (HL.mk eY b)) 36) w fun c d=>new (.cells #[] 53) d fun e f=>loop (Sl×Int) (fun g (h:Sl×Int) i=>join (Bool) (fun j=>ld .slice (dc c 3) i fun k=>cond (decide (h.snd<(↑k.len:Int))) (j (decide ((↑h.fst.len:Int)<most)) i) (j false i)) fun (l:Bool) m=>cond l (join (Sl) (fun n=>ld .slice (dc c 3) m fun o=>idx o h.snd 4 fun p=>ld (.int .u64) p m fun (q:Int)=>cond (decide (q<=j8)) (ld .slice (dc c 3) m fun r=>idx r h.snd 4 fun s=>dK (rR) s m fun t=>new (.cells (List.toArray (HL.mk rR t)) 53) m fun u v=>ju (#[31,31]) 31 (#[h.fst.v,.slice (pW u) 1 1]) v fun x y=>n x y) (n h.fst m)) fun z A=>g ((z,wrap .i64 (h.snd+1))) A) (K h.fst m)) (({ a:=pW e,len:=0,cap:=0 },0)) f):cW 43 [fg eY b,.int .u64 j8,.i most] dd w K:=eJ (an:=[.n,.n,.n,.n,.l [(7,.one .slice),(8,.one .i)],.n,.j [(20,.one .bool)],.j [(7,.one .slice)]]) func43 hF

def qeF{account0 account1:Int}{r:HL tY}(hF:new (.cells (List.toArray (HL.mk eY b)) 36) w fun c d=>new (.cells #[.int .u64 account0,.int .u64 account1] 43) d fun e f=>new (.cells (List.toArray (HL.mk tY r)) 128) f fun g h=>new (.cells co 36) h fun i j=>new (.cells #[] 184) j fun k l=>ld .slice (dc c 6) l fun m=>ju (#[33,33]) 33 (#[.slice (pW k) 0 0,m.v]) l fun n o=>loop (Int) (fun p (q:Int) s=>cond (decide (q<(↑n.len:Int))) (join (Bool) (fun t=>idx n q 12 fun u=>dK da u s.drew fun v=>dK da (dc e) s.drew fun x=>fl df (fun y=>(do eqGuard BinOp.eql 43 (Operand.tmp 23) (Operand.tmp 24) (c8 v.fst v.snd) (c8 x.fst x.snd);binOp BinOp.eql 43 (c8 v.fst v.snd) (c8 x.fst x.snd)).run prog y) s.drew fun (z:Bool)=>cond z (idx n q 12 fun A=>ld (.int .u64) (⟨(Addr.add (Addr.add A 2) 0).block,(Addr.add (Addr.add A 2) 0).off+8,none⟩) s.drew fun (B:Int)=>ld (.int .u64) (⟨(Addr.add (dc g) 0).block,(Addr.add (dc g) 0).off+8,none⟩) s.drew fun (C:Int)=>t (B==C) s.drew) (t false s.drew)) fun (D:Bool) E=>cond D (dK (tY) (dc g) E fun F=>idx n q 12 fun G=>st ⟨G.block,G.off+2,none⟩ (HL.mk tY F) E fun H=>st (dc c 6) ([n.v]) H fun I=>dK (eY) (dc c) I fun J=>st (dc i) (HL.mk eY J) I fun L=>dK (eY) (dc i) L fun M=>K M L) (p (wrap .i64 (q+1)) E)) (dK da (dc e) s fun N=>dK (tY) (dc g) s fun O=>new (.cells #[.int .u64 N.fst,.int .u64 N.snd,.int .u64 O.fst,.int .u64 O.snd.fst,.int .u64 O.snd.snd.fst,.int .u64 O.snd.snd.snd.fst,.int .u64 O.snd.snd.snd.snd.fst,.int .u64 O.snd.snd.snd.snd.snd.fst,.int .u64 O.snd.snd.snd.snd.snd.snd.fst,.int .u64 O.snd.snd.snd.snd.snd.snd.snd.fst,.int .u64 O.snd.snd.snd.snd.snd.snd.snd.snd.fst,.b O.snd.snd.snd.snd.snd.snd.snd.snd.snd] 184) s fun P Q=>ju (#[33,33]) 33 (#[n.v,.slice (pW P) 1 1]) Q fun R S=>st (dc c 6) ([R.v]) S fun T=>dK (eY) (dc c) T fun U=>st (dc i) (HL.mk eY U) T fun V=>dK (eY) (dc i) V fun W=>K W V)) 0 o):cW 55 [fg eY b,c8 account0 account1,fg tY r] [.agg eY] w K:=eJ (an:=aS [(4,.l [(8,.one .i)]),(3,.j [(38,.one .bool)])]) func55 hF

def qiU{flags bit:Int}{K:Bool->WP}(hF:gK (bit≠0)<|K (Int.tmod (wrap .u16 (Int.tdiv flags bit)) 2==1) w):cW 54 [.int .u16 flags,.int .u16 bit] df w K:=eJ (an:=[]) func54 hF

def qgy{flags:Int}{is:Bool}{K:Int->WP}(hF:cW 54 ([.int .u16 flags,.int .u16 16]) df w fun (a:Bool) b=>join (Bool) (fun c=>cond is (c (!a) b) (c false b)) fun (d:Bool) e=>cond d (K (wrap .u16 (flags+16)) e) (join (Bool) (fun f=>cond (!is) (f a e) (f false e)) fun (g:Bool) h=>cond g (K (wrap .u16 (flags-16)) h) (K flags h))):cW 67 [.int .u16 flags,.bool is] dw w K:=eJ (an:=aS [(3,.j [(12,.one .bool)]),(2,.j [(19,.one .bool)])]) func67 hF

def qhT{amount0 amount1:Int}{K:((List Value)×Bool)->WP}(hF:new (.cells (List.toArray (HL.mk qs t)) 55) w fun a b=>new (.cells #[.int .u64 amount0,.int .u64 amount1] 43) b fun c d=>new (.cells (List.toArray p) 74) d fun e f=>eT prog 74 f fun g h=>join (Bool×Bool) (fun i=>ld (.int .u16) (dc a 14) h fun (j:Int)=>cW 54 ([.int .u16 j,.int .u16 2]) df h fun (k:Bool) l=>cond k (dK da (⟨(Addr.add (dc e) 0).block,(Addr.add (dc e) 0).off+2,none⟩) l fun m=>dK da (dc c) l fun n=>cW 14 ([c8 m.fst m.snd,c8 n.fst n.snd]) ([.agg da,.one .bool]) l fun (o:(Int×Int)×Bool) q=>st (⟨(Addr.add (dc e) 0).block,(Addr.add (dc e) 0).off+2,none⟩) ([.int .u64 o.fst.fst,.int .u64 o.fst.snd]) q fun r=>dK da (⟨(Addr.add (dc e) 15).block,(Addr.add (dc e) 15).off+6,none⟩) r fun s=>dK da (dc c) r fun u=>cW 14 ([c8 s.fst s.snd,c8 u.fst u.snd]) ([.agg da,.one .bool]) r fun (v:(Int×Int)×Bool) x=>st (⟨(Addr.add (dc e) 15).block,(Addr.add (dc e) 15).off+6,none⟩) ([.int .u64 v.fst.fst,.int .u64 v.fst.snd]) x fun y=>i ((o.snd,v.snd)) y) (dK da (⟨(Addr.add (dc e) 0).block,(Addr.add (dc e) 0).off+4,none⟩) l fun z=>dK da (dc c) l fun A=>cW 14 ([c8 z.fst z.snd,c8 A.fst A.snd]) ([.agg da,.one .bool]) l fun (B:(Int×Int)×Bool) C=>st (⟨(Addr.add (dc e) 0).block,(Addr.add (dc e) 0).off+4,none⟩) ([.int .u64 B.fst.fst,.int .u64 B.fst.snd]) C fun D=>dK da (⟨(Addr.add (dc e) 15).block,(Addr.add (dc e) 15).off+8,none⟩) D fun E=>dK da (dc c) D fun F=>cW 14 ([c8 E.fst E.snd,c8 F.fst F.snd]) ([.agg da,.one .bool]) D fun (G:(Int×Int)×Bool) H=>st (⟨(Addr.add (dc e) 15).block,(Addr.add (dc e) 15).off+8,none⟩) ([.int .u64 G.fst.fst,.int .u64 G.fst.snd]) H fun I=>i ((B.snd,G.snd)) I)) fun (J:Bool×Bool) L=>join (Bool) (fun M=>cond (!J.fst) (M true L) (M (!J.snd) L)) fun (N:Bool) O=>cond N (fl dt (fun P=>(Instr.build 74 #[]).run prog P) O fun Q=>gK (List.length Q=32)<|st (dc g) Q O fun R=>ic 32 (dc g) R fun S=>K ((S,false)) R) (join (PUnit) (fun T=>ld (.int .u16) (dc a 14) O fun (U:Int)=>cW 54 ([.int .u16 U,.int .u16 64]) df O fun (V:Bool) W=>cond V (ld (.int .u16) (⟨(Addr.add (dc e) 0).block,(Addr.add (dc e) 0).off+13,none⟩) W fun (X:Int)=>cW 67 ([.int .u16 X,.bool true]) dw W fun (Y:Int) Z=>st (⟨(Addr.add (dc e) 0).block,(Addr.add (dc e) 0).off+13,none⟩) ([.int .u16 Y]) Z fun aa=>T () aa) (T () W)) fun (ab:PUnit) ac=>join (PUnit) (fun ad=>ld (.int .u16) (dc a 14) ac fun (ae:Int)=>cW 54 ([.int .u16 ae,.int .u16 128]) df ac fun (af:Bool) ag=>cond af (ld (.int .u16) (⟨(Addr.add (dc e) 15).block,(Addr.add (dc e) 15).off+13,none⟩) ag fun (ah:Int)=>cW 67 ([.int .u16 ah,.bool true]) dw ag fun (ai:Int) aj=>st (⟨(Addr.add (dc e) 15).block,(Addr.add (dc e) 15).off+13,none⟩) ([.int .u16 ai]) aj fun ak=>ad () ak) (ad () ag)) fun (al:PUnit) am=>ic 32 (dc e) am fun an=>gK (List.length an=32)<|st (dc g) an am fun ao=>ic 32 (dc g) ao fun ap=>K ((ap,true)) ao)):cW 25 [fg qs t,c8 amount0 amount1,.agg p.toArray] dh w K:=eJ (an:=aS [(2,.j [(8,.one .bool),(9,.one .bool)]),(4,.j [(58,.one .bool)]),(1,.j []),(1,.j [])]) func25 hF
abbrev zf5 (K:((List Value)×Bool)->WP) (w_21:World) (r_7:Nat):Prop:=fl dt (fun a=>(Instr.build 74 #[]).run prog a) w_21 fun b=>gK (List.length b=32)<|st (dc r_7) b w_21 fun c=>ic 32 (dc r_7) c fun d=>K ((d,false)) c

def qgx{amount0 amount1:Int}{post:Bool}{K:((List Value)×Bool)->WP}(hF:new (.cells (List.toArray (HL.mk qs t)) 55) w fun a b=>new (.cells #[.int .u64 amount0,.int .u64 amount1] 43) b fun c d=>new (.cells (List.toArray p) 74) d fun e f=>eT prog 74 f fun g h=>dK da (⟨(Addr.add (dc e) 0).block,(Addr.add (dc e) 0).off+2,none⟩) h fun i=>dK da (dc a 6) h fun j=>cW 90 ([c8 i.fst i.snd,c8 j.fst j.snd]) ([.agg da,.one .bool]) h fun (k:(Int×Int)×Bool) l=>st (⟨(Addr.add (dc e) 0).block,(Addr.add (dc e) 0).off+2,none⟩) ([.int .u64 k.fst.fst,.int .u64 k.fst.snd]) l fun m=>dK da (⟨(Addr.add (dc e) 15).block,(Addr.add (dc e) 15).off+6,none⟩) m fun n=>dK da (dc a 6) m fun o=>cW 90 ([c8 n.fst n.snd,c8 o.fst o.snd]) ([.agg da,.one .bool]) m fun (q:(Int×Int)×Bool) r=>st (⟨(Addr.add (dc e) 15).block,(Addr.add (dc e) 15).off+6,none⟩) ([.int .u64 q.fst.fst,.int .u64 q.fst.snd]) r fun s=>join (Bool) (fun u=>cond (!k.snd) (u true s) (u (!q.snd) s)) fun (v:Bool) x=>cond v (zf5 K x g) (cond post (dK da (⟨(Addr.add (dc e) 0).block,(Addr.add (dc e) 0).off+4,none⟩) x fun y=>dK da (dc c) x fun z=>cW 14 ([c8 y.fst y.snd,c8 z.fst z.snd]) ([.agg da,.one .bool]) x fun (A:(Int×Int)×Bool) B=>st (⟨(Addr.add (dc e) 0).block,(Addr.add (dc e) 0).off+4,none⟩) ([.int .u64 A.fst.fst,.int .u64 A.fst.snd]) B fun C=>dK da (⟨(Addr.add (dc e) 15).block,(Addr.add (dc e) 15).off+8,none⟩) C fun D=>dK da (dc c) C fun E=>cW 14 ([c8 D.fst D.snd,c8 E.fst E.snd]) ([.agg da,.one .bool]) C fun (F:(Int×Int)×Bool) G=>st (⟨(Addr.add (dc e) 15).block,(Addr.add (dc e) 15).off+8,none⟩) ([.int .u64 F.fst.fst,.int .u64 F.fst.snd]) G fun H=>join (Bool) (fun I=>cond (!A.snd) (I true H) (I (!F.snd) H)) fun (J:Bool) L=>cond J (zf5 K L g) (ic 32 (dc e) L fun M=>gK (List.length M=32)<|st (dc g) M L fun N=>ic 32 (dc g) N fun O=>K ((O,true)) N)) (join (PUnit) (fun P=>ld (.int .u16) (dc a 14) x fun (Q:Int)=>cW 54 ([.int .u16 Q,.int .u16 64]) df x fun (R:Bool) S=>cond R (ld (.int .u16) (⟨(Addr.add (dc e) 0).block,(Addr.add (dc e) 0).off+13,none⟩) S fun (T:Int)=>cW 67 ([.int .u16 T,.bool false]) dw S fun (U:Int) V=>st (⟨(Addr.add (dc e) 0).block,(Addr.add (dc e) 0).off+13,none⟩) ([.int .u16 U]) V fun W=>P () W) (P () S)) fun (X:PUnit) Y=>join (PUnit) (fun Z=>ld (.int .u16) (dc a 14) Y fun (aa:Int)=>cW 54 ([.int .u16 aa,.int .u16 128]) df Y fun (ab:Bool) ac=>cond ab (ld (.int .u16) (⟨(Addr.add (dc e) 15).block,(Addr.add (dc e) 15).off+13,none⟩) ac fun (ad:Int)=>cW 67 ([.int .u16 ad,.bool false]) dw ac fun (ae:Int) af=>st (⟨(Addr.add (dc e) 15).block,(Addr.add (dc e) 15).off+13,none⟩) ([.int .u16 ae]) af fun ag=>Z () ag) (Z () ac)) fun (ah:PUnit) ai=>ic 32 (dc e) ai fun aj=>gK (List.length aj=32)<|st (dc g) aj ai fun ak=>ic 32 (dc g) ak fun al=>K ((al,true)) ak))):cW 44 [fg qs t,c8 amount0 amount1,.bool post,.agg p.toArray] dh w K:=eJ (an:=aS [(5,.j [(39,.one .bool)]),(6,.j [(67,.one .bool)]),(2,.j []),(1,.j [])]) func44 hF

def qfP{K:(Int×Bool)->WP}(hF:new (.cells (List.toArray (HL.mk qs t)) 55) w fun a b=>ld .u (dc a 11) b fun (c:Int)=>cond (c==0) (K ((0,false)) b) (ld (.int .u64) (dc a 15) b fun (d:Int)=>ld .u (dc a 11) b fun (e:Int)=>cW 14 ([.agg #[.int .u64 0,.int .u64 d],.agg #[.int .u64 0,.int .u64 (wrap .u64 e)]]) ([.agg da,.one .bool]) b fun (f:(Int×Int)×Bool) g=>new (.cells cz 43) g fun h i=>st (dc h) ([.int .u64 f.fst.fst,.int .u64 f.fst.snd]) i fun j=>ld (.int .u64) (dc h) j fun (k:Int)=>cond (decide (k>0)) (K ((0,false)) j) (ld (.int .u64) (dc h 1) j fun (l:Int)=>K ((l,true)) j))):cW 30 [fg qs t] dG w K:=eJ (an:=[]) func30 hF

def qiV{a:HL oX}{side stamp:Int}{K:((HL tY))->WP}(hF:new (.cells (List.toArray (HL.mk oX a)) 47) w fun b c=>new (.cells #[.int .u64 0,.int .u64 0,.int .u64 0,.int .u64 0,.int .u64 0,.int .u64 0,.int .u64 0,.int .u64 0,.int .u64 0,.b 0] 128) c fun d e=>dK da (dc b 2) e fun f=>dK da (dc b 4) e fun g=>dK da (dc b 6) e fun h=>dK da (dc b 8) e fun i=>st (dc d) ([.int .u64 f.fst,.int .u64 f.snd,.int .u64 g.fst,.int .u64 g.snd,.int .u64 h.fst,.int .u64 h.snd,.int .u64 i.fst,.int .u64 i.snd,.int .u64 stamp,.b side]) e fun j=>dK (tY) (dc d) j fun k=>K k j):cW 56 [fg oX a,.b side,.int .u64 stamp] [.agg tY] w K:=eJ (an:=[]) func56 hF

def qhU{stamp:Int}(hF:new (.cells (List.toArray (HL.mk eY b)) 36) w fun a c=>new (.cells (List.toArray p) 74) c fun d e=>new (.cells co 36) e fun f g=>dK (eY) (dc a) g fun h=>dK (oX) (dc d) g fun i=>cW 23 ([fg eY h,fg oX i]) ([.agg eY]) g fun (j:Sl×Sl×Sl×Sl×Sl×Sl×Sl×Int×Bool×Sl) k=>st (dc a) (HL.mk eY j) k fun l=>dK (eY) (dc a) l fun m=>dK (oX) (dc d 15) l fun n=>cW 23 ([fg eY m,fg oX n]) ([.agg eY]) l fun (o:Sl×Sl×Sl×Sl×Sl×Sl×Sl×Int×Bool×Sl) q=>st (dc a) (HL.mk eY o) q fun r=>join (PUnit) (fun s=>ld (.int .u16) (⟨(Addr.add (dc d) 0).block,(Addr.add (dc d) 0).off+13,none⟩) r fun (t:Int)=>cW 54 ([.int .u16 t,.int .u16 8]) df r fun (u:Bool) v=>cond u (dK (eY) (dc a) v.drew fun x=>dK da (dc d) v.drew fun y=>dK (oX) (dc d) v.drew fun z=>cW 56 ([fg oX z,.b 1,.int .u64 stamp]) ([.agg tY]) v.drew fun (A:Int×Int×Int×Int×Int×Int×Int×Int×Int×Int) B=>held [gw (dc d) 0 ([.int .u64 y.fst,.int .u64 y.snd]),gw (dc a) 0 (HL.mk eY x)] B<|cW 55 ([fg eY x,c8 y.fst y.snd,fg tY A]) ([.agg eY]) B fun (E:Sl×Sl×Sl×Sl×Sl×Sl×Sl×Int×Bool×Sl) F=>st (dc a) (HL.mk eY E) F fun G=>s () G) (s () v)) fun (H:PUnit) I=>join (PUnit) (fun J=>ld (.int .u16) (⟨(Addr.add (dc d) 15).block,(Addr.add (dc d) 15).off+13,none⟩) I fun (L:Int)=>cW 54 ([.int .u16 L,.int .u16 8]) df I fun (M:Bool) N=>cond M (dK (eY) (dc a) N.drew fun O=>dK da (dc d 15) N.drew fun P=>dK (oX) (dc d 15) N.drew fun Q=>cW 56 ([fg oX Q,.b 2,.int .u64 stamp]) ([.agg tY]) N.drew fun (R:Int×Int×Int×Int×Int×Int×Int×Int×Int×Int) S=>held [gw (dc d 15) 0 ([.int .u64 P.fst,.int .u64 P.snd]),gw (dc a) 0 (HL.mk eY O)] S<|cW 55 ([fg eY O,c8 P.fst P.snd,fg tY R]) ([.agg eY]) S fun (V:Sl×Sl×Sl×Sl×Sl×Sl×Sl×Int×Bool×Sl) W=>st (dc a) (HL.mk eY V) W fun X=>J () X) (J () N)) fun (Y:PUnit) Z=>dK (eY) (dc a) Z fun aa=>st (dc f) (HL.mk eY aa) Z fun ab=>dK (eY) (dc f) ab fun ac=>K ac ab):cW 19 [fg eY b,.agg p.toArray,.int .u64 stamp] [.agg eY] w K:=eJ (an:=aS [(3,.j []),(2,.j [])]) func19 hF

def qf3{debit0 debit1 credit0 credit1:Int}{K:((List Value))->WP}(hF:new (.cells (List.toArray (HL.mk eY b)) 36) w fun a c=>new (.cells #[.int .u64 debit0,.int .u64 debit1] 43) c fun d e=>new (.cells #[.int .u64 credit0,.int .u64 credit1] 43) e fun f g=>eT prog 74 g fun h i=>fl dt (fun j=>(Instr.build 74 #[]).run prog j) i fun k=>eT prog 74 i fun l m=>gK (List.length k=32)<|st (dc l) k m fun n=>dK (eY) (dc a) n fun o=>dK da (dc d) n fun p=>cW 64 ([fg eY o,c8 p.fst p.snd]) ([.agg oX,.one .bool]) n fun (q:(Int×Int×Int×Int×Int×Int×Int×Int×Int×Int×Int×Int×Int×Int×Int)×Bool) r=>st (dc l) (HL.mk oX q.fst) r fun s=>st (dc l 30) ([.bool q.snd]) s fun t=>dK (eY) (dc a) t fun u=>dK da (dc f) t fun v=>cW 64 ([fg eY u,c8 v.fst v.snd]) ([.agg oX,.one .bool]) t fun (x:(Int×Int×Int×Int×Int×Int×Int×Int×Int×Int×Int×Int×Int×Int×Int)×Bool) y=>st (dc l 15) (HL.mk oX x.fst) y fun z=>st (dc l 31) ([.bool x.snd]) z fun A=>ic 32 (dc l) A fun B=>gK (List.length B=32)<|st (dc h) B A fun C=>ic 32 (dc h) C fun D=>K D C):cW 22 [fg eY b,c8 debit0 debit1,c8 credit0 credit1] dt w K:=eJ (an:=[]) func22 hF
def Ba (s_57:Sl) (r_60:Nat) (w_61:World) (r_1:Nat) (s_6:Sl) (x_9:Int) (X_8:Int->WP):Prop:=ju (#[34,34]) 34 (#[s_57.v,.slice (pW r_60) 1 1]) w_61 fun b c=>st (dc r_1 9) ([b.v]) c fun d=>dK (eY) (dc r_1) d.drew fun (e:Sl×Sl×Sl×Sl×Sl×Sl×Sl×Int×Bool×Sl)=>idx s_6 x_9 4 fun f=>dK (rR) f d.drew fun (g:Int×Int×Int×Int)=>cW 45 ([fg eY e,fg rR g]) ([.agg eY,.one .bool]) d.drew fun (h:(Sl×Sl×Sl×Sl×Sl×Sl×Sl×Int×Bool×Sl)×Bool) i=>st (dc r_1) (HL.mk eY h.fst) i fun j=>X_8 (wrap .i64 (x_9+1)) j
def CW (first:Int) (t_32:List Value×Bool) (r_34:Nat) (w_35:World) (r_1:Nat) (x_9:Int) (r_22:Nat) (s_6:Sl) (X_8:Int->WP):Prop:=gK (List.length t_32.fst=32)<|st (dc r_34) t_32.fst w_35 fun b=>dK (eY) (dc r_1) b fun (c:Sl×Sl×Sl×Sl×Sl×Sl×Sl×Int×Bool×Sl)=>ic 32 (dc r_34) b fun d=>cW 19 ([fg eY c,.agg (List.toArray d),.int .u64 (wrap .u64 (first+wrap .u64 x_9))]) ([.agg eY]) b fun (e:Sl×Sl×Sl×Sl×Sl×Sl×Sl×Int×Bool×Sl) f=>st (dc r_1) (HL.mk eY e) f fun g=>dK (eY) (dc r_1) g fun (h:Sl×Sl×Sl×Sl×Sl×Sl×Sl×Int×Bool×Sl)=>dK da (dc r_22) g fun (i:Int×Int)=>cW 27 ([fg eY h,c8 i.fst i.snd,.b 4]) ([.agg eY]) g fun (j:Sl×Sl×Sl×Sl×Sl×Sl×Sl×Int×Bool×Sl) k=>st (dc r_1) (HL.mk eY j) k fun l=>(ld .slice (dc r_1 9) l.drew fun m=>dK da (dc r_22) l.drew fun (n:Int×Int)=>new (.cells #[] 115) l.drew fun o p=>held [gw (dc r_22) 0 ([.int .u64 n.fst,.int .u64 n.snd]),dV (dc r_1 9) m.v] p<|ju (#[34,34]) 34 (#[.slice (pW o) 0 0,m.v]) p fun s t=>held [gw (dc r_22) 0 ([.int .u64 n.fst,.int .u64 n.snd])] t<|new (.cells #[.int .u64 n.fst,.int .u64 n.snd,.int .u64 (wrap .u64 (first+wrap .u64 x_9))] 115) t fun v w=>held [dV (dc r_1 9) m.v] w<|Ba s v w r_1 s_6 x_9 X_8)/\((ld .slice (dc r_1 9) l.drew fun y=>dK da (dc r_22) l.drew fun (z:Int×Int)=>new (.cells #[] 115) l.drew fun A B=>held [gw (dc r_22) 0 ([.int .u64 z.fst,.int .u64 z.snd]),dV (dc r_1 9) y.v] B<|new (.cells #[.int .u64 z.fst,.int .u64 z.snd,.int .u64 (wrap .u64 (first+wrap .u64 x_9))] 115) B fun E F=>held [dV (dc r_1 9) y.v] F<|ju (#[34,34]) 34 (#[.slice (pW A) 0 0,y.v]) F fun H I=>held [gw (dc r_22) 0 ([.int .u64 z.fst,.int .u64 z.snd])] I<|Ba H E I r_1 s_6 x_9 X_8)/\(ld .slice (dc r_1 9) l.drew fun L=>dK da (dc r_22) l.drew fun (M:Int×Int)=>new (.cells #[.int .u64 M.fst,.int .u64 M.snd,.int .u64 (wrap .u64 (first+wrap .u64 x_9))] 115) l.drew fun N O=>held [dV (dc r_1 9) L.v] O<|new (.cells #[] 115) O fun Q R=>held [gw (dc r_22) 0 ([.int .u64 M.fst,.int .u64 M.snd]),dV (dc r_1 9) L.v] R<|ju (#[34,34]) 34 (#[.slice (pW Q) 0 0,L.v]) R fun U V=>held [gw (dc r_22) 0 ([.int .u64 M.fst,.int .u64 M.snd])] V<|Ba U N V r_1 s_6 x_9 X_8))
def EP (first:Int) (t_14:List Value×Bool) (r_16:Nat) (w_17:World) (r_1:Nat) (x_9:Int) (s_6:Sl) (X_8:Int->WP):Prop:=gK (List.length t_14.fst=18)<|st (dc r_16) t_14.fst w_17 fun a=>dK (qs) (dc r_16) a fun (b:Int×Int×Int×Int×Int×Int×Int×Int×Int×Int×Int×Int×Int×Int×Int×Int)=>new (.cells cy 55) a fun c d=>st (dc c) (HL.mk qs b) d fun e=>(dK (qs) (dc c) e.drew fun (f:Int×Int×Int×Int×Int×Int×Int×Int×Int×Int×Int×Int×Int×Int×Int×Int)=>dK (eY) (dc r_1) e.drew fun (g:Sl×Sl×Sl×Sl×Sl×Sl×Sl×Int×Bool×Sl)=>dK da (dc c 2) e.drew fun (h:Int×Int)=>dK da (dc c 4) e.drew fun (i:Int×Int)=>cW 22 ([fg eY g,c8 h.fst h.snd,c8 i.fst i.snd]) dt e.drew fun j k=>held [gw (dc c) 0 (HL.mk qs f)] k<|cW 44 ([fg qs f,.agg cz,.bool false,.agg (List.toArray j)]) dh k fun (m:List Value×Bool) n=>eT prog 74 n fun o p=>held [gw (dc c 4) 0 ([.int .u64 i.fst,.int .u64 i.snd]),gw (dc c 2) 0 ([.int .u64 h.fst,.int .u64 h.snd]),gw (dc r_1) 0 (HL.mk eY g),gw (dc c) 0 (HL.mk qs f)] p<|CW first m o p r_1 x_9 c s_6 X_8)/\((dK (qs) (dc c) e.drew fun (u:Int×Int×Int×Int×Int×Int×Int×Int×Int×Int×Int×Int×Int×Int×Int×Int)=>dK (eY) (dc r_1) e.drew fun (v:Sl×Sl×Sl×Sl×Sl×Sl×Sl×Int×Bool×Sl)=>dK da (dc c 2) e.drew fun (w:Int×Int)=>dK da (dc c 4) e.drew fun (x:Int×Int)=>cW 22 ([fg eY v,c8 w.fst w.snd,c8 x.fst x.snd]) dt e.drew fun y z=>held [gw (dc c) 0 (HL.mk qs u)] z<|eT prog 74 z fun B C=>held [gw (dc c 4) 0 ([.int .u64 x.fst,.int .u64 x.snd]),gw (dc c 2) 0 ([.int .u64 w.fst,.int .u64 w.snd]),gw (dc r_1) 0 (HL.mk eY v),gw (dc c) 0 (HL.mk qs u)] C<|cW 44 ([fg qs u,.agg cz,.bool false,.agg (List.toArray y)]) dh C fun (H:List Value×Bool) I=>CW first H B I r_1 x_9 c s_6 X_8)/\(dK (qs) (dc c) e.drew fun (J:Int×Int×Int×Int×Int×Int×Int×Int×Int×Int×Int×Int×Int×Int×Int×Int)=>dK (eY) (dc r_1) e.drew fun (L:Sl×Sl×Sl×Sl×Sl×Sl×Sl×Int×Bool×Sl)=>dK da (dc c 2) e.drew fun (M:Int×Int)=>dK da (dc c 4) e.drew fun (N:Int×Int)=>eT prog 74 e.drew fun O P=>held [gw (dc c 4) 0 ([.int .u64 N.fst,.int .u64 N.snd]),gw (dc c 2) 0 ([.int .u64 M.fst,.int .u64 M.snd]),gw (dc r_1) 0 (HL.mk eY L),gw (dc c) 0 (HL.mk qs J)] P<|cW 22 ([fg eY L,c8 M.fst M.snd,c8 N.fst N.snd]) dt P fun U V=>held [gw (dc c) 0 (HL.mk qs J)] V<|cW 44 ([fg qs J,.agg cz,.bool false,.agg (List.toArray U)]) dh V fun (X:List Value×Bool) Y=>CW first X O Y r_1 x_9 c s_6 X_8))

def qhz{first most:Int}{K:((HL eY)×Int)->WP}(hF:new (.cells (List.toArray (HL.mk eY b)) 36) w fun a c=>new (.cells co 36) c fun d e=>dK (eY) (dc a) e fun f=>cW 43 ([fg eY f,.int .u64 first,.i most]) dd e fun g h=>loop (Int) (fun i (j:Int) k=>cond (decide (j<(↑g.len:Int))) ((dK (eY) (dc a) k.drew fun l=>idx g j 4 fun m=>dK da ⟨m.block,m.off+2,none⟩ k.drew fun n=>cW 13 ([fg eY l,c8 n.fst n.snd]) dh k.drew fun (o:List Value×Bool) p=>eT prog 57 p fun q r=>held [gw ⟨m.block,m.off+2,none⟩ 0 ([.int .u64 n.fst,.int .u64 n.snd]),gw (dc a) 0 (HL.mk eY l)] r<|EP first o q r a j g i)/\(dK (eY) (dc a) k.drew fun u=>idx g j 4 fun v=>dK da ⟨v.block,v.off+2,none⟩ k.drew fun x=>eT prog 57 k.drew fun y z=>held [gw ⟨v.block,v.off+2,none⟩ 0 ([.int .u64 x.fst,.int .u64 x.snd]),gw (dc a) 0 (HL.mk eY u)] z<|cW 13 ([fg eY u,c8 x.fst x.snd]) dh z fun (C:List Value×Bool) D=>EP first C y D a j g i)) (dK (eY) (dc a) k fun E=>st (dc d) (HL.mk eY E) k fun F=>dK (eY) (dc d) F fun G=>K ((G,(↑g.len:Int))) F)) 0 h):cW 16 [fg eY b,.int .u64 first,.i most] [.agg eY,.one .i] w K:=eJ (an:=aS [(4,.l [(9,.one .i)]),(4,.o [.range 13,[0,1,2,3,4,5,10,6,7,8,9,11,12]]),(2,.o [.range 15,[0,1,2,3,4,5,6,7,12,8,9,10,11,13,14],[0,1,2,3,4,5,6,12,7,8,9,10,11,13,14]]),(3,.o [[1,2,4,5,6,7,8,9,10,0,3,11,12,13,14],[1,2,4,5,6,7,8,9,10,0,11,3,12,13,14],[1,2,4,5,6,7,8,9,10,11,0,3,12,13,14]])]) func16 hF
@[reducible] def kQ:List Cell:=eY
@[reducible] def qB:List Cell:=fq
@[reducible] def qzn:List Cell:=[.int .u8,.int .u8,.int .u64,.int .u64,.int .u32,.int .u8,.int .u16]
@[reducible] def sU:List Cell:=ig
@[reducible] def xc:List Cell:=ib

def qhR{blocks:Int}{K:((Option Addr)×(Option Addr))->WP}(hF:cW 52 ([.i blocks]) dD w fun (a:Option Addr×Option Addr) b=>cond (Option.isNone a.snd) (K ((none,none)) b) (cW 53 ([.pointer a.snd]) dr b fun c d=>K ((c,a.snd)) d)):cW 18 [.i blocks] dD w K:=eJ (an:=[]) func18 hF

def qfN{in_0 in_1:Sl}{K:Bool->WP}(hF:new (.cells #[in_0.v,in_1.v] 25) w fun b c=>ld .slice (dc b) c fun d=>cond (decide ((↑d.len:Int)>8)) (K true c) (ld .slice (dc b 1) c fun e=>K (decide ((↑e.len:Int)>25)) c)):cW 7 [.agg #[in_0.v,in_1.v]] df w K:=eJ (an:=[]) func7 hF
def qdN  (K:Bool->WP) (w:World):Prop:=new (.cells #[.int .u64 0,.int .u64 0,.int .u64 0,.int .u64 0,.int .u64 0,.int .u64 0,.int .u64 0,.int .u64 0,.int .u64 0,.int .u64 0,.int .u64 0,.u 0,.int .u16 0,.int .u16 0,.int .u64 0,.int .u64 0,.int .u64 0,.int .u64 0,.int .u64 0,.int .u64 0,.int .u64 0,.int .u64 0,.int .u64 0,.int .u64 0,.int .u64 0,.int .u64 0,.u 0,.int .u16 0,.int .u16 0,.int .u64 0] 47) w fun a b=>new (.cells #[.b 0,.b 1,.int .u64 0,.int .u64 2,.u 0,.b 0,.int .u16 0,.b 0,.b 1,.int .u64 0,.int .u64 5,.u 3,.b 0,.int .u16 0] 81) b fun c d=>cW 9 ([.agg #[.slice (pW a) 2 2,.slice (pW c) 2 2]]) ([.one .ptr,.agg kQ,.one .bool]) d fun (e:Option Addr×(Sl×Sl×Sl×Sl×Sl×Sl×Sl×Int×Bool×Sl)×Bool) f=>new (.cells co 36) f fun g h=>st (dc g) (HL.mk kQ e.snd.fst) h fun i=>cond (!e.snd.snd) (K false i) (cW 10 ([.pointer e.fst,.int .u64 9,.i 9]) dl i fun (j:Int×Int) k=>cW 11 ([.pointer e.fst,.agg #[.int .u64 0,.int .u64 1]]) ([.agg qB,.one .bool]) k fun (l:(Int×Int×Int×Int×Int×Int×Int×Int×Int×Int×Int×Int×Int×Int×Int)×Bool) m=>new (.cells cu 47) m fun n o=>st (dc n) (HL.mk qB l.fst) o fun p=>dK (kQ) (dc g) p fun (q:Sl×Sl×Sl×Sl×Sl×Sl×Sl×Int×Bool×Sl)=>cW 16 ([fg kQ q,.int .u64 9,.i 9]) ([.agg kQ,.one .i]) p fun (r:(Sl×Sl×Sl×Sl×Sl×Sl×Sl×Int×Bool×Sl)×Int) s=>new (.cells co 36) s fun t u=>st (dc t) (HL.mk kQ r.fst) u fun v=>cond (j.snd==0) (cond (j.fst==1) (cond (r.snd==1) (dK da (dc n 2) v fun (x:Int×Int)=>fl df (fun y=>(do eqGuard BinOp.eql 43 (Operand.tmp 54) (Operand.tmp 55) (c8 x.fst x.snd) (.agg #[.int .u64 0,.int .u64 2]);binOp BinOp.eql 43 (c8 x.fst x.snd) (.agg #[.int .u64 0,.int .u64 2])).run prog y) v fun (z:Bool)=>K z v) (K false v)) (K false v)) (K false v))
def qhx{w K}(hF:qdN  K w):cW 8 [] df w K:=eJ (an:=[]) func8 hF
abbrev zf6 (K:((Option Addr)×(HL kQ)×Bool)->WP) (r_9:Nat) (w_116:World) (r_3:Nat):Prop:=dK (kQ) (dc r_9) w_116.drew fun (a:Sl×Sl×Sl×Sl×Sl×Sl×Sl×Int×Bool×Sl)=>st (dc r_3) (HL.mk kQ a) w_116.drew fun b=>dK (kQ) (dc r_3) b fun (c:Sl×Sl×Sl×Sl×Sl×Sl×Sl×Int×Bool×Sl)=>K ((none,c,false)) b
def CG (K:((Option Addr)×(HL kQ)×Bool)->WP) (t_62:List Value×Bool) (r_64:Nat) (w_65:World) (x_44:Int) (s_43:Sl) (x_45:Int) (X_37:Int->WP) (t_35:Int×Int) (x_46:Int) (r_50:Nat) (r_9:Nat) (t_5:Option Addr×Option Addr) (r_3:Nat):Prop:=gK (List.length t_62.fst=32)<|st (dc r_64) t_62.fst w_65 fun a=>join (Bool) (fun b=>cond (Int.tmod (wrap .i64 x_44) (↑s_43.len:Int)==Int.tmod (wrap .i64 x_45) (↑s_43.len:Int)) (b true a) (b (!t_62.snd) a)) fun (c:Bool) d=>cond c (X_37 (wrap .u64 (t_35.fst+wrap .u64 (1+wrap .u64 x_46))) d) (dK (sU) (dc r_50) d fun (e:Int×Int×Int×Int×Int×Int×Int×Int×Int×Int×Int×Int×Int×Int×Int×Int)=>dK da (dc r_50 6) d fun (f:Int×Int)=>fl dt (fun g=>(Instr.build 57 (#[(0,fg sU e),(1,.agg #[.int .u64 f.fst,.int .u64 f.snd])])).run prog g) d fun h=>eT prog 57 d fun i j=>gK (List.length h=18)<|st (dc i) h j fun k=>dK (kQ) (dc r_9) k.drew fun (l:Sl×Sl×Sl×Sl×Sl×Sl×Sl×Int×Bool×Sl)=>dK (qB) (dc r_64) k.drew fun (m:Int×Int×Int×Int×Int×Int×Int×Int×Int×Int×Int×Int×Int×Int×Int)=>dK (qB) (dc r_64 15) k.drew fun (n:Int×Int×Int×Int×Int×Int×Int×Int×Int×Int×Int×Int×Int×Int×Int)=>ic 18 (dc i) k.drew fun o=>dK da (dc r_50) k.drew fun (p:Int×Int)=>cW 23 ([fg kQ l,fg qB m]) ([.agg kQ]) k.drew fun (q:Sl×Sl×Sl×Sl×Sl×Sl×Sl×Int×Bool×Sl) r=>held [gw (dc r_50) 0 ([.int .u64 p.fst,.int .u64 p.snd]),gw (dc i) 0 o,gw (dc r_64 15) 0 (HL.mk qB n)] r<|cW 23 ([fg kQ q,fg qB n]) ([.agg kQ]) r fun (v:Sl×Sl×Sl×Sl×Sl×Sl×Sl×Int×Bool×Sl) w=>held [gw (dc r_50) 0 ([.int .u64 p.fst,.int .u64 p.snd]),gw (dc i) 0 o] w<|cW 26 ([fg kQ v,.agg (List.toArray o)]) ([.agg kQ]) w fun (z:Sl×Sl×Sl×Sl×Sl×Sl×Sl×Int×Bool×Sl) A=>held [gw (dc r_50) 0 ([.int .u64 p.fst,.int .u64 p.snd])] A<|cW 27 ([fg kQ z,c8 p.fst p.snd,.b 1]) ([.agg kQ]) A fun (C:Sl×Sl×Sl×Sl×Sl×Sl×Sl×Int×Bool×Sl) D=>st (dc r_9) (HL.mk kQ C) D fun E=>join (Bool) (fun F=>dK (qB) (dc r_64) E fun (G:Int×Int×Int×Int×Int×Int×Int×Int×Int×Int×Int×Int×Int×Int×Int)=>cW 24 ([.pointer t_5.fst,fg qB G]) de E fun (H:Int) I=>cond (!H==0) (F true I) (dK (qB) (dc r_64 15) I fun (J:Int×Int×Int×Int×Int×Int×Int×Int×Int×Int×Int×Int×Int×Int×Int)=>cW 24 ([.pointer t_5.fst,fg qB J]) de I fun (L:Int) M=>cond (!L==0) (F true M) (ic 18 (dc i) M fun N=>cW 28 ([.pointer t_5.fst,.agg (List.toArray N)]) de M fun (O:Int) P=>cond (!O==0) (F true P) (dK da (dc r_50) P fun (Q:Int×Int)=>cW 29 ([.pointer t_5.fst,c8 Q.fst Q.snd,.b 1]) de P fun (R:Int) S=>F (!R==0) S)))) fun (T:Bool) U=>cond T (zf6 K r_9 U r_3) (dK (sU) (dc r_50) U fun (V:Int×Int×Int×Int×Int×Int×Int×Int×Int×Int×Int×Int×Int×Int×Int×Int)=>cW 30 ([fg sU V]) dG U fun (W:Int×Bool) X=>cond W.snd (ld (.int .u64) (dc r_50 15) X fun (Y:Int)=>dK da (dc r_50) X fun (Z:Int×Int)=>new (.cells cY 53) X fun aa ab=>st (dc aa) ([.int .u64 W.fst,.int .u64 Y,.int .u64 Z.fst,.int .u64 Z.snd]) ab fun ac=>dK (kQ) (dc r_9) ac fun (ad:Sl×Sl×Sl×Sl×Sl×Sl×Sl×Int×Bool×Sl)=>dK (xc) (dc aa) ac fun (ae:Int×Int×Int×Int)=>cW 31 ([fg kQ ad,fg xc ae]) ([.agg kQ]) ac fun (af:Sl×Sl×Sl×Sl×Sl×Sl×Sl×Int×Bool×Sl) ag=>st (dc r_9) (HL.mk kQ af) ag fun ah=>dK (xc) (dc aa) ah fun (ai:Int×Int×Int×Int)=>cW 32 ([.pointer t_5.fst,fg xc ai]) de ah fun (aj:Int) ak=>cond (!aj==0) (zf6 K r_9 ak r_3) (X_37 (wrap .u64 (t_35.fst+wrap .u64 (1+wrap .u64 x_46))) ak)) (X_37 (wrap .u64 (t_35.fst+wrap .u64 (1+wrap .u64 x_46))) X)))

def qhw{in_0 in_1:Sl}{K:((Option Addr)×(HL kQ)×Bool)->WP}(hF:new (.cells #[in_0.v,in_1.v] 25) w fun b c=>new (.cells co 36) c fun d e=>cW 18 ([.i 900]) dD e fun (f:Option Addr×Option Addr) g=>cond (Option.isNone f.fst) (st (dc d) ([.slice none 0 0,.slice none 0 0,.slice none 0 0,.slice none 0 0,.slice none 0 0,.slice none 0 0,.slice none 0 0,.int .u64 0,.bool false,.slice none 0 0]) g fun h=>dK (kQ) (dc d) h fun i=>K ((none,i,false)) h) (new (.cells co 36) g fun j k=>ld .slice (dc b) k fun l=>loop (Int) (fun m (n:Int) o=>cond (decide (n<(↑l.len:Int))) (idx l n 15 fun p=>dK (qB) p o fun q=>new (.cells cu 47) o fun r s=>st (dc r) (HL.mk qB q) s fun t=>st (dc r) ([.int .u64 0,.int .u64 (wrap .u64 (wrap .u64 n+1))]) t fun u=>dK (kQ) (dc j) u fun v=>dK (qB) (dc r) u fun x=>cW 23 ([fg kQ v,fg qB x]) ([.agg kQ]) u fun (y:Sl×Sl×Sl×Sl×Sl×Sl×Sl×Int×Bool×Sl) z=>st (dc j) (HL.mk kQ y) z fun A=>dK (qB) (dc r) A fun B=>cW 24 ([.pointer f.fst,fg qB B]) de A fun (C:Int) D=>cond (!C==0) (dK (kQ) (dc j) D.drew fun E=>st (dc d) (HL.mk kQ E) D.drew fun F=>dK (kQ) (dc d) F fun G=>K ((none,G,false)) F) (m (wrap .i64 (n+1)) D)) (join (PUnit) (fun H=>ld .slice (dc b 1) o fun I=>loop (Int×Int) (fun J (L:Int×Int) M=>cond (decide (L.snd<(↑I.len:Int))) (join (Int) (fun N=>idx I L.snd 7 fun O=>dK (qzn) O M fun P=>new (.cells #[.b 0,.b 0,.int .u64 0,.int .u64 0,.u 0,.b 0,.int .u16 0] 81) M fun Q R=>st (dc Q) (HL.mk qzn P) R fun S=>ld .slice (dc b) S fun T=>cond (decide ((↑T.len:Int)<2)) (H () S) (ld .b (dc Q) S.drew fun (U:Int)=>gK ((↑T.len:Int)≠0)<|ld .b (dc Q 1) S.drew fun (V:Int)=>gK ((↑T.len:Int)≠0)<|ld .b (dc Q 5) S.drew fun (W:Int)=>dK da (dc Q 2) S.drew fun X=>ld (.int .u16) (dc Q 6) S.drew fun (Y:Int)=>ld .u (dc Q 4) S.drew fun (Z:Int)=>new (.cells cy 55) S.drew fun aa ab=>st (dc aa) ([.int .u64 1,.int .u64 (wrap .u64 L.snd),.int .u64 0,.int .u64 (wrap .u64 (wrap .u64 (Int.tmod (wrap .i64 U) (↑T.len:Int))+1)),.int .u64 0,.int .u64 (wrap .u64 (wrap .u64 (Int.tmod (wrap .i64 V) (↑T.len:Int))+1)),.int .u64 X.fst,.int .u64 X.snd,.int .u64 0,.int .u64 0,.int .u64 0,.u Z,.u 0,.int .u16 0,.int .u16 (bits .or .u16 Y 2),.int .u64 (wrap .u64 (L.fst+wrap .u64 (1+wrap .u64 W)))]) ab fun ac=>(dK (sU) (dc aa) ac.drew fun ad=>dK da (dc aa 6) ac.drew fun ae=>dK (kQ) (dc j) ac.drew fun af=>dK da (dc aa 2) ac.drew fun ag=>dK da (dc aa 4) ac.drew fun ah=>cW 22 ([fg kQ af,c8 ag.fst ag.snd,c8 ah.fst ah.snd]) dt ac.drew fun ai aj=>held [gw (dc aa 6) 0 ([.int .u64 ae.fst,.int .u64 ae.snd]),gw (dc aa) 0 (HL.mk sU ad)] aj<|cW 25 ([fg sU ad,c8 ae.fst ae.snd,.agg (List.toArray ai)]) dh aj fun (am:List Value×Bool) an=>eT prog 74 an fun ao ap=>held [gw (dc aa 4) 0 ([.int .u64 ah.fst,.int .u64 ah.snd]),gw (dc aa 2) 0 ([.int .u64 ag.fst,.int .u64 ag.snd]),gw (dc j) 0 (HL.mk kQ af),gw (dc aa 6) 0 ([.int .u64 ae.fst,.int .u64 ae.snd]),gw (dc aa) 0 (HL.mk sU ad)] ap<|CG K am ao ap U T V N L W aa j f d)/\((dK (sU) (dc aa) ac.drew fun ax=>dK da (dc aa 6) ac.drew fun ay=>dK (kQ) (dc j) ac.drew fun az=>dK da (dc aa 2) ac.drew fun aA=>dK da (dc aa 4) ac.drew fun aB=>cW 22 ([fg kQ az,c8 aA.fst aA.snd,c8 aB.fst aB.snd]) dt ac.drew fun aC aD=>held [gw (dc aa 6) 0 ([.int .u64 ay.fst,.int .u64 ay.snd]),gw (dc aa) 0 (HL.mk sU ax)] aD<|eT prog 74 aD fun aG aH=>held [gw (dc aa 4) 0 ([.int .u64 aB.fst,.int .u64 aB.snd]),gw (dc aa 2) 0 ([.int .u64 aA.fst,.int .u64 aA.snd]),gw (dc j) 0 (HL.mk kQ az),gw (dc aa 6) 0 ([.int .u64 ay.fst,.int .u64 ay.snd]),gw (dc aa) 0 (HL.mk sU ax)] aH<|cW 25 ([fg sU ax,c8 ay.fst ay.snd,.agg (List.toArray aC)]) dh aH fun (aO:List Value×Bool) aP=>CG K aO aG aP U T V N L W aa j f d)/\(dK (sU) (dc aa) ac.drew fun aQ=>dK da (dc aa 6) ac.drew fun aR=>dK (kQ) (dc j) ac.drew fun aS=>dK da (dc aa 2) ac.drew fun aT=>dK da (dc aa 4) ac.drew fun aU=>eT prog 74 ac.drew fun aV aW=>held [gw (dc aa 4) 0 ([.int .u64 aU.fst,.int .u64 aU.snd]),gw (dc aa 2) 0 ([.int .u64 aT.fst,.int .u64 aT.snd]),gw (dc j) 0 (HL.mk kQ aS),gw (dc aa 6) 0 ([.int .u64 aR.fst,.int .u64 aR.snd]),gw (dc aa) 0 (HL.mk sU aQ)] aW<|cW 22 ([fg kQ aS,c8 aT.fst aT.snd,c8 aU.fst aU.snd]) dt aW fun bc bd=>held [gw (dc aa 6) 0 ([.int .u64 aR.fst,.int .u64 aR.snd]),gw (dc aa) 0 (HL.mk sU aQ)] bd<|cW 25 ([fg sU aQ,c8 aR.fst aR.snd,.agg (List.toArray bc)]) dh bd fun (bg:List Value×Bool) bh=>CG K bg aV bh U T V N L W aa j f d)))) fun (bi:Int) bj=>J ((bi,wrap .i64 (L.snd+1))) bj) (H () M)) ((1,0)) o) fun (bk:PUnit) bl=>dK (kQ) (dc j) bl.drew fun bm=>st (dc d) (HL.mk kQ bm) bl.drew fun bn=>dK (kQ) (dc d) bn fun bo=>K ((f.fst,bo,true)) bn)) 0 k)):cW 9 [.agg #[in_0.v,in_1.v]] [.one .ptr,.agg kQ,.one .bool] w K:=eJ (an:=aS [(8,.l [(33,.one .i)]),(10,.j []),(1,.l [(10,.one (.int .u64)),(55,.one .i)]),(2,.j [(10,.one (.int .u64))]),(9,.o [.range 16,[0,1,2,3,4,5,6,7,8,13,9,10,11,12,14,15],[0,1,2,3,4,5,6,7,13,8,9,10,11,12,14,15]]),(1,.j [(120,.one .bool)]),(2,.o [[0,1,2,4,5,7,9,10,3,6,8,11,12]]),(1,.j [(161,.one .bool)])]) func9 hF

def qe0{in_0 in_1:Sl}{first:Int}{K:Bool->WP}(hF:new (.cells #[in_0.v,in_1.v] 25) w fun b c=>dK ([.slice,.slice]) (dc b) c fun d=>cW 7 ([.agg #[d.fst.v,d.snd.v]]) df c fun (e:Bool) f=>cond e (cW 8 [] df f fun (g:Bool) h=>K g h) (dK ([.slice,.slice]) (dc b) f fun i=>cW 9 ([.agg #[i.fst.v,i.snd.v]]) ([.one .ptr,.agg kQ,.one .bool]) f fun (j:Option Addr×(Sl×Sl×Sl×Sl×Sl×Sl×Sl×Int×Bool×Sl)×Bool) k=>new (.cells co 36) k fun l m=>st (dc l) (HL.mk kQ j.snd.fst) m fun n=>cond (!j.snd.snd) (K false n) (cW 12 ([.pointer j.fst,.int .u64 first,.i 100]) dd n fun o p=>cW 10 ([.pointer j.fst,.int .u64 first,.i 100]) dl p fun (q:Int×Int) r=>join (Bool) (fun s=>cond (!q.snd==0) (s true r) (cond (!q.fst==(↑o.len:Int)) (s true r) (cW 12 ([.pointer j.fst,.int .u64 first,.i 100]) dd r fun t u=>s (!(↑t.len:Int)==0) u))) fun (v:Bool) x=>cond v (K false x) (ld .slice (dc l) x fun y=>loop (Int) (fun z (A:Int) B=>cond (decide (A<(↑y.len:Int))) (idx y A 15 fun C=>dK (qB) C B fun D=>new (.cells cu 47) B fun E F=>st (dc E) (HL.mk qB D) F fun G=>dK da (dc E) G fun H=>cW 11 ([.pointer j.fst,c8 H.fst H.snd]) ([.agg qB,.one .bool]) G fun (I:(Int×Int×Int×Int×Int×Int×Int×Int×Int×Int×Int×Int×Int×Int×Int)×Bool) J=>new (.cells cu 47) J fun L M=>st (dc L) (HL.mk qB I.fst) M fun N=>cond (!I.snd) (K false N) (loop (Int) (fun O (P:Int) Q=>cond (decide (P<(↑o.len:Int))) (join (PUnit) (fun R=>idx o P 4 fun S=>dK (xc) S Q fun T=>new (.cells cY 53) Q fun U V=>st (dc U) (HL.mk xc T) V fun W=>dK (kQ) (dc l) W fun X=>dK da (dc U 2) W fun Y=>cW 13 ([fg kQ X,c8 Y.fst Y.snd]) dh W fun (Z:List Value×Bool) aa=>eT prog 57 aa fun ab ac=>gK (List.length Z.fst=18)<|st (dc ab) Z.fst ac fun ad=>join (PUnit) (fun ae=>dK da (⟨(Addr.add (dc ab) 0).block,(Addr.add (dc ab) 0).off+2,none⟩) ad fun af=>dK da (dc E) ad fun ag=>fl df (fun ah=>(do eqGuard BinOp.eql 43 (Operand.tmp 87) (Operand.tmp 89) (c8 af.fst af.snd) (c8 ag.fst ag.snd);binOp BinOp.eql 43 (c8 af.fst af.snd) (c8 ag.fst ag.snd)).run prog ah) ad fun (ai:Bool)=>cond ai (dK da (dc L 2) ad fun aj=>dK da (⟨(Addr.add (dc ab) 0).block,(Addr.add (dc ab) 0).off+6,none⟩) ad fun ak=>cW 14 ([c8 aj.fst aj.snd,c8 ak.fst ak.snd]) ([.agg da,.one .bool]) ad fun (al:(Int×Int)×Bool) am=>st (dc L 2) ([.int .u64 al.fst.fst,.int .u64 al.fst.snd]) am fun an=>ae () an) (ae () ad)) fun (ao:PUnit) ap=>dK da (⟨(Addr.add (dc ab) 0).block,(Addr.add (dc ab) 0).off+4,none⟩) ap fun aq=>dK da (dc E) ap fun ar=>fl df (fun au=>(do eqGuard BinOp.eql 43 (Operand.tmp 103) (Operand.tmp 105) (c8 aq.fst aq.snd) (c8 ar.fst ar.snd);binOp BinOp.eql 43 (c8 aq.fst aq.snd) (c8 ar.fst ar.snd)).run prog au) ap fun (av:Bool)=>cond av (dK da (dc L 6) ap fun aw=>dK da (⟨(Addr.add (dc ab) 0).block,(Addr.add (dc ab) 0).off+6,none⟩) ap fun ax=>cW 14 ([c8 aw.fst aw.snd,c8 ax.fst ax.snd]) ([.agg da,.one .bool]) ap fun (ay:(Int×Int)×Bool) az=>st (dc L 6) ([.int .u64 ay.fst.fst,.int .u64 ay.fst.snd]) az fun aA=>R () aA) (R () ap)) fun (aB:PUnit) aC=>O (wrap .i64 (P+1)) aC) (join (Bool) (fun aD=>dK da (dc L 2) Q fun aE=>dK da (dc E 2) Q fun aF=>fl df (fun aG=>(do eqGuard BinOp.neq 43 (Operand.tmp 119) (Operand.tmp 121) (c8 aE.fst aE.snd) (c8 aF.fst aF.snd);binOp BinOp.neq 43 (c8 aE.fst aE.snd) (c8 aF.fst aF.snd)).run prog aG) Q fun (aH:Bool)=>cond aH (aD true Q) (dK da (dc L 6) Q fun aI=>dK da (dc E 6) Q fun aJ=>fl df (fun aL=>(do eqGuard BinOp.neq 43 (Operand.tmp 125) (Operand.tmp 127) (c8 aI.fst aI.snd) (c8 aJ.fst aJ.snd);binOp BinOp.neq 43 (c8 aI.fst aI.snd) (c8 aJ.fst aJ.snd)).run prog aL) Q fun (aM:Bool)=>cond aM (aD true Q) (dK da (dc L 4) Q fun aN=>dK da (dc E 4) Q fun aO=>fl df (fun aP=>(do eqGuard BinOp.neq 43 (Operand.tmp 132) (Operand.tmp 134) (c8 aN.fst aN.snd) (c8 aO.fst aO.snd);binOp BinOp.neq 43 (c8 aN.fst aN.snd) (c8 aO.fst aO.snd)).run prog aP) Q fun (aQ:Bool)=>cond aQ (aD true Q) (dK da (dc L 8) Q fun aR=>dK da (dc E 8) Q fun aS=>fl df (fun aT=>(do eqGuard BinOp.neq 43 (Operand.tmp 139) (Operand.tmp 141) (c8 aR.fst aR.snd) (c8 aS.fst aS.snd);binOp BinOp.neq 43 (c8 aR.fst aR.snd) (c8 aS.fst aS.snd)).run prog aT) Q fun (aU:Bool)=>aD aU Q)))) fun (aV:Bool) aW=>cond aV (K false aW) (z (wrap .i64 (A+1)) aW))) 0 N)) (loop (Int) (fun aX (aY:Int) aZ=>cond (decide (aY<(↑o.len:Int))) (idx o aY 4 fun ba=>dK (xc) ba aZ fun bb=>new (.cells cY 53) aZ fun bc bd=>st (dc bc) (HL.mk xc bb) bd fun be=>dK da (dc bc 2) be fun bf=>cW 15 ([.pointer j.fst,c8 bf.fst bf.snd]) ([.one .b]) be fun (bg:Int) bh=>cond (!bg==4) (K false bh) (aX (wrap .i64 (aY+1)) bh)) (cW 8 [] df aZ fun (bi:Bool) bj=>K bi bj)) 0 B)) 0 x)))):cW 4 [.agg #[in_0.v,in_1.v],.int .u64 first] df w K:=eJ (an:=aS [(11,.j [(55,.one .bool)]),(3,.l [(59,.one .i)]),(10,.l [(74,.one .i)]),(2,.j []),(2,.j []),(2,.j [(143,.one .bool)]),(3,.l [(147,.one .i)])]) func4 hF
end
section
set_option maxRecDepth 100000
open Go Go.Pt
end
section
set_option maxRecDepth 100000
open Go Go.Pt
end
section
set_option maxRecDepth 100000
open Go Go.Pt
end
section
open Go Go.Pt Go.Sort List
attribute [local irreducible] ld dK ic nK jx eT st new idx jK jF fV jI jl mp gK nn call dW inv run fl jf join loop held ext kW eU m8 nQ nT IntKind.wrap
variable {F R:List Nat} {K:Bool->WP} {T:TypeId} {d:Array Int} {i n pb:Nat} {l:List Int} {mb:Value} {w:World}
def kY (d:Array Int):Array Value:=d.map .u
def qzj(d:Array Int)(i:Nat)(h:i<d.size):(kY d)[i]?=some (.u d[i]!):=by unfold kY;simp[h]
def EF(d:Array Int):(kY d).size=d.size:=by simp[kY]
def qs6(d:Array Int)(i:Nat)(v:Int):(kY d).setIfInBounds i (.u v)=kY (d.setIfInBounds i v):=by unfold kY;apply Array.ext_getElem?;intro j;simp only[Array.getElem?_setIfInBounds,Array.getElem?_map,Array.size_map];by_cases hj:i=j;subst hj;by_cases hi:i<d.size<;>simp[hi];simp[hj]
structure ll where
 ty:TypeId
 rest:Option (Array Value)
instance:Coe TypeId ll:=⟨fun T=>⟨T,none⟩⟩
def ll.cells (T:ll) (c:Array Value):Array Value:=match T.rest with|none=>c|some r=>c++r
def ll.get(T:ll)(c:Array Value)(i:Nat)(h:i<c.size):(T.cells c)[i]?=c[i]?:=by unfold ll.cells;split;rfl;rw[Array.getElem?_append_left h]
def ll.size(T:ll)(c:Array Value):c.size<=(T.cells c).size:=by unfold ll.cells;split;exact zM _;rw[Array.size_append];omega
def ll.set(T:ll)(c:Array Value)(i:Nat)(v:Value)(h:i<c.size):(T.cells c).setIfInBounds i v=T.cells (c.setIfInBounds i v):=by unfold ll.cells;split;rfl;rename_i r _;apply Array.ext_getElem?;intro j;rw[Array.getElem?_setIfInBounds,Array.getElem?_append,Array.getElem?_append,Array.size_append,Array.size_setIfInBounds,Array.getElem?_setIfInBounds];by_cases hij:i=j;subst hij;rw[if_pos rfl,iP,if_pos h,if_pos rfl,if_pos h];rw[if_neg hij,if_neg hij]
structure nC (i9:Nat) (T:ll) (w0 w:World) (d:Array Int):Prop where
 fr:Fr [i9] w0 w
 i9:w.heap[i9]?=some (.cells (T.cells (kY d)) T.ty (0,0))
def nC.start{i9:Nat}(h:w.heap[i9]?=some (.cells (kY d) T (0,0))):nC i9 T w w d:=⟨.refl _ _,h⟩
section
variable {i9:Nat} {T:ll} {w0 w:World} {d:Array Int} {len cap:Nat}
def nC.drew(h:nC i9 T w0 w d):nC i9 T w0 w.drew d:=⟨h.fr.drew,h.i9⟩
def nC.rd(h:nC i9 T w0 w d)(n:Nat){i:Int}{K:Int->Prop}(hi:i=n)(C:n<len)(E:len<=d.size/\len<=1152921504606846976)(k:K d[n]!): idx ⟨pW i9,len,cap⟩ i 1 fun a=>ld .u a w K:=by subst hi;refine qa oJ oJ<|jM h.i9 d[n]! ?_ k;rw[zJ,xS,xT];rw[ll.get _ _ _ (by rw[EF];omega)];exact qzj d n oJ
def nC.wr(h:nC i9 T w0 w d)(n:Nat){i v:Int}{K:WP}(hi:i=n)(E:n<len)(G:len<=d.size/\len<=1152921504606846976)(k:∀w',nC i9 T w0 w' (d.setIfInBounds n v)->K w'): idx ⟨pW i9,len,cap⟩ i 1 fun a=>st a [.u v] w K:=by subst hi;refine qa oJ oJ ?_;rw[zJ,xS,xT];show st (dc i9 n) _ w K;unfold st;refine CR (w:=w) [.u v] n 0 _ w K h.i9 rfl (by have:=T.size (kY d);rw[EF] at this;simp;omega) (k _ ⟨?_,?_⟩);refine h.fr.trans ⟨rfl,rfl,rfl,by rw[vJ];exact zM _,fun j I C=>?_⟩;rw[qw _ _ _ _ (fJ h.i9),if_neg (oP C)];rw[qw _ _ _ _ (fJ h.i9),if_pos rfl];simp only[dT,Nat.add_zero];rw[ll.set _ _ _ _ (by rw[EF];omega),qs6]
def nC.swap(h:nC i9 T w0 w d)(n m:Nat){i j:Int}{K:WP}(hi:i=n)(E:j=m)(G:n<len)(I:m<len)(C:len<=d.size/\len<=1152921504606846976)(k:∀w',nC i9 T w0 w' (swp d n m)->K w'): idx ⟨pW i9,len,cap⟩ j 1 fun a=>ld .u a w fun x=>idx ⟨pW i9,len,cap⟩ i 1 fun a=>ld .u a w fun y=> idx ⟨pW i9,len,cap⟩ i 1 fun a=>st a [.u x] w fun w'=>idx ⟨pW i9,len,cap⟩ j 1 fun a=>st a [.u y] w' K:=by exact h.rd m E I C<|h.rd n hi G C<|h.wr n hi G C fun w1 J=>J.wr m E I (oP C) fun w2 O=>k w2 O
end
def wi(x:Int)(h:-9223372036854775808<=x/\x<=9223372036854775807):IntKind.i64.wrap x=x:=IntWalk.i64_in x h
section
def tf (rb len cap:Nat) (m:Value):Obj:=.cells #[.slice (pW rb) len cap,m] 343 (0,0)
section
variable {pb rb len cap:Nat} {m:Value} {w0 w:World} {d:Array Int} {T:TypeId}
def GJ(C:w0.heap[pb]?=some (tf rb len cap m))(u:rb≠pb)(h:nC rb T w0 w d):w.cell? (dc pb)=some (.slice (pW rb) len cap):=by have E:w.heap[pb]?=some (tf rb len cap m):=(by rw[h.fr.block pb (fJ C) (by simpa using fun e=>u e.symm)];exact C);rw[kj E];rfl
def Hi{k:Nat}(E:w0.heap[pb]?=some (tf rb len cap m))(u:rb≠pb)(h:nC rb T w0 w d)(hi:i<len)(G:k<len)(C:len<=d.size/\len<=1152921504606846976)(I:∀w',nC rb T w0 w' d->K (ltInt d[i]! d[k]!) w'): inv prog (.iface 345 (dH pb)) "Less" [.i i,.i k] df w K:=by exact FQ (f:=280) (by kernel_rfl) (e:=341) (by kernel_rfl) (by kernel_rfl) (by kernel_rfl) (by kernel_rfl) (GJ E u h)<|qnt (r:=⟨pW rb,len,cap⟩)<|h.drew.rd i rfl hi C<|h.drew.rd k rfl G C<|I _ h.drew
def Fh{k:Nat}{K:Unit->WP}(C:w0.heap[pb]?=some (tf rb len cap m))(u:rb≠pb)(h:nC rb T w0 w d)(hi:i<len)(E:k<len)(G:len<=d.size/\len<=1152921504606846976)(I:∀w',nC rb T w0 w' (swp d i k)->K () w'): inv prog (.iface 345 (dH pb)) "Swap" [.i i,.i k] [] w K:=by exact FQ (f:=281) (by kernel_rfl) (e:=341) (by kernel_rfl) (by kernel_rfl) (by kernel_rfl) (by kernel_rfl) (GJ C u h)<|qnv (r:=⟨pW rb,len,cap⟩)<|h.drew.swap i k rfl rfl hi E G I
def qAZ{K:Int->WP}(C:w0.heap[pb]?=some (tf rb len cap m))(u:rb≠pb)(h:nC rb T w0 w d)(E:K len w): inv prog (.iface 345 (dH pb)) "Len" [] de w K:=by exact FQ (f:=279) (by kernel_rfl) (e:=341) (by kernel_rfl) (by kernel_rfl) (by kernel_rfl) (by kernel_rfl) (GJ C u h)<|qoE (r:=⟨pW rb,len,cap⟩)<|E
end
end
section
def kO (d:Array Int) (n:Nat):Prop:=∀i,0<i->i<n->d[(i-1) / 2]!<=d[i]!
def ti (d:Array Int) (n j:Nat):Prop:=(∀i,0<i->i<n->i≠j->d[(i-1) / 2]!<=d[i]!)/\∀i,0<i->i<n->(i-1) / 2=j->0<j->d[(j-1) / 2]!<=d[i]!
def nD (d:Array Int) (n j:Nat):Prop:=(∀i,0<i->i<n->(i-1) / 2≠j->d[(i-1) / 2]!<=d[i]!)/\∀i,0<i->i<n->(i-1) / 2=j->0<j->d[(j-1) / 2]!<=d[i]!
def vT(d:Array Int){j:Nat}(hi:i<d.size)(h:j<d.size)(k:Nat):(swp d i j)[k]! = if k=j then d[i]! else if k=i then d[j]! else d[k]!:=swp_get d hi h k
def ti.step{j:Nat}(h:ti d n j)(U:0<j)(V:j<n)(hn:n<=d.size)(aa:d[j]!<d[(j-1) / 2]!):ti (swp d ((j-1) / 2) j) n ((j-1) / 2):=by
 have u:(j-1) / 2<d.size:=oJ;have C:j<d.size:=oJ;have J:(j-1) / 2≠j:=oJ;constructor;intro i E G O;have I:=h.1 i E G;have a2:=h.2 i E G;rw[vT d u C,vT d u C];by_cases e1:i=j;subst e1;rw[iN,if_pos rfl,if_pos rfl];omega;rw[if_neg e1,if_neg O];by_cases e2:(i-1) / 2=j;rw[if_pos e2];exact a2 e2 U;rw[if_neg e2];by_cases e3:(i-1) / 2=(j-1) / 2;rw[if_pos e3]
 have:=I e1
 rw[e3] at this;omega;rw[if_neg e3];exact I e1;intro i E G Q R;have I:=h.1 i E G;have b1:=h.1 ((j-1) / 2) R oJ J;rw[vT d u C,vT d u C];rw[iN,iN];by_cases e1:i=j;subst e1;rw[if_pos rfl];exact b1;rw[if_neg e1,iN]
 have:=I e1
 rw[Q] at this;omega
def ti.stop{j:Nat}(h:ti d n j)(u:j=0\/d[(j-1) / 2]!<=d[j]!):kO d n:=by intro i C E;by_cases e:i=j;subst e;rcases u with u|u;omega;exact u;exact h.1 i C E e
def nD.step{c:Nat}(h:nD d n i)(V:c=2*i+1\/c=2*i+2)(Q:c<n)(hn:n<=d.size)(R:d[c]!<d[i]!)(C:∀k,k<n->(k=2*i+1\/k=2*i+2)->d[c]!<=d[k]!):nD (swp d i c) n c:=by have I:i<d.size:=oJ;have J:c<d.size:=oJ;constructor;intro k E G u;have O:=h.1 k E G;have a2:=h.2 k E G;rw[vT d I J,vT d I J,if_neg u];by_cases e1:k=c;rw[if_pos e1,iP];omega;rw[if_neg e1];by_cases e2:k=i;rw[if_pos e2];subst e2;rw[iN];exact h.2 c oJ Q oJ E;rw[if_neg e2];by_cases e3:(k-1) / 2=i;rw[if_pos e3];exact C k G oJ;rw[if_neg e3];exact O e3;intro k E G u U;have O:=h.1 k E G oJ;rw[vT d I J,vT d I J];rw[iN,iP,iN,iN];rw[u] at O;exact O
def nD.stop(h:nD d n i)(C:∀k,k<n->(k=2*i+1\/k=2*i+2)->d[i]!<=d[k]!):kO d n:=by intro k E u;by_cases e:(k-1) / 2=i;rw[e];exact C k u oJ;exact h.1 k E u e
section
variable {pb rb len cap:Nat} {m:Value} {w0 w:World} {d:Array Int} {T:TypeId}
def qBl{j:Nat}{K:Unit->WP}(R:w0.heap[pb]?=some (tf rb len cap m))(I:rb≠pb)(h:nC rb T w0 w d)(G:j<len)(hl:len<=d.size/\len<=1152921504606846976)(O:ti d len j)(U:∀C w',PermIn 0 len d C->kO C len->nC rb T w0 w' C->K () w'): cW 237 [.iface 345 (dH pb),.i j] [] w K:=by
 apply qvr;refine jT (fun x w'=>∃(j:Nat) (C:Array Int),x=j/\j<len/\PermIn 0 len d C/\ti C len j/\nC rb T w0 w' C) (fun x _=>x.toNat) ⟨j,d,rfl,G,permIn_refl _ _ _,O,h⟩ ?_;rintro x w1 ⟨j,Q,rfl,G,E,O,h⟩ X V;have hs:=E.1;have e1:IntKind.i64.wrap (Int.tdiv (IntKind.i64.wrap ((j:Int)-1)) 2)=(((j-1) / 2:Nat):Int):=by rw[wi ((j:Int)-1) oJ];by_cases J:j=0;subst J;decide +kernel;rw[Int.tdiv_eq_ediv_of_nonneg oJ,wi _ oJ];omega
 rw[e1];refine iQ (fun c w'=>c=(decide (j=0)||!ltInt Q[j]! Q[(j-1) / 2]!)/\nC rb T w0 w' Q) ?_ ?_;apply eH<;>intro u;have J:j=0:=(by have:=yP.1 u;omega);exact⟨by simp[J],h⟩;have J:j≠0:=fun e=>by subst e;cases u
 exact Hi R I h G oJ oJ fun w2 h=>⟨by simp[J],h⟩;rintro c w2 ⟨rfl,h⟩;apply eH<;>intro u;simp only[Bool.or_eq_true,decide_eq_true_eq,zT,ltInt,decide_eq_false_iff_not,Int.not_lt] at u;exact U _ _ E (O.stop u) h;simp only[Bool.or_eq_false_iff,decide_eq_false_iff_not,yE,ltInt,decide_eq_true_eq] at u;exact Fh R I h oJ G oJ fun w3 h=>V _ _ ⟨_,_,rfl,oJ,permIn_trans _ _ _ _ _ E (swp_permIn _ _ _ _ _ oJ oJ oJ G oJ),O.step oJ G oJ u.2,h⟩ oJ
def qzz(hp:w0.heap[pb]?=some (tf rb len cap m))(O:rb≠pb)(h:nC rb T w0 w d)(hn:n<=len)(hl:len<=d.size/\len<=1152921504606846976)(V:nD d n 0)(R:∀b C w',PermIn 0 n d C->kO C n->nC rb T w0 w' C->K b w'): cW 254 [.iface 345 (dH pb),.i 0,.i n] df w K:=by apply qsa;refine iQ (fun _ w'=>∃C,PermIn 0 n d C/\kO C n/\nC rb T w0 w' C) ?_ (fun x w' ⟨C,h1,h2,h3⟩=>R _ C w' h1 h2 h3);refine jT (fun x w'=>∃(i:Nat) (C:Array Int),x=i/\(i<n\/i=0)/\PermIn 0 n d C/\nD C n i/\nC rb T w0 w' C) (fun x _=>((n:Int)-x).toNat) ⟨0,d,rfl,.inr rfl,permIn_refl _ _ _,V,h⟩ ?_;rintro x w1 ⟨i,G,rfl,hi,I,V,h⟩ X hX;have hs:=I.1;have e1:IntKind.i64.wrap (IntKind.i64.wrap (2*(i:Int))+1)=((2*i+1:Nat):Int):=(by rw[wi (2*(i:Int)) oJ,wi _ oJ];omega);have e2:IntKind.i64.wrap (((2*i+1:Nat):Int)+1)=((2*i+2:Nat):Int):=(by rw[wi _ oJ];omega);rw[e1,e2];refine iQ (fun c w'=>c=decide (n<=2*i+1)/\nC rb T w0 w' G) ?_ ?_;apply eH<;>intro u;have U:n<=2*i+1:=(by have:=zC u;omega);exact⟨by simp[U],h⟩;have U:¬n<=2*i+1:=(by have:=zB u;omega);refine⟨?_,h⟩;rw[zU U,zU oJ];rintro c w2 ⟨rfl,h⟩;apply eH<;>intro u;have U:=zC u;exact⟨G,I,V.stop (fun k R E=>oJ),h⟩;have U:2*i+1<n:=(by have:=zB u;omega);refine iQ (fun x w'=>∃c:Nat,x=c/\(c=2*i+1\/c=2*i+2)/\c<n/\(∀k,k<n->(k=2*i+1\/k=2*i+2)->G[c]!<=G[k]!)/\nC rb T w0 w' G) ?_ ?_;refine iQ (fun c w'=>c=(decide (2*i+2<n)&&ltInt G[2*i+2]! G[2*i+1]!)/\nC rb T w0 w' G) ?_ ?_;apply eH<;>intro u;have h2:2*i+2<n:=(by have:=zC u;omega);exact Hi hp O h oJ oJ oJ fun w3 h=>⟨by simp[h2],h⟩;have h2:¬2*i+2<n:=(by have:=zB u;omega);exact⟨by simp[h2],h⟩;rintro c w3 ⟨rfl,h⟩;apply eH<;>intro u;simp only[yB,decide_eq_true_eq,ltInt] at u;refine⟨2*i+2,rfl,.inr rfl,u.1,fun k R E=>?_,h⟩;rcases E with rfl|rfl<;>omega;simp only[Bool.and_eq_false_iff,decide_eq_false_iff_not,ltInt,Int.not_lt] at u;refine⟨2*i+1,rfl,.inl rfl,U,fun k R E=>?_,h⟩;rcases E with rfl|rfl<;>omega;rintro x w3 ⟨c,rfl,ac,Q,J,h⟩;refine Hi hp O h oJ oJ oJ fun w4 h=>?_;apply eH<;>intro u;simp only[zT,ltInt,decide_eq_false_iff_not,Int.not_lt] at u;exact⟨G,I,V.stop (fun k R E=>Int.le_trans u (J k R E)),h⟩;simp only[yE,ltInt,decide_eq_true_eq] at u;exact Fh hp O h oJ oJ oJ fun w5 h=>hX _ _ ⟨c,_,rfl,.inl Q,permIn_trans _ _ _ _ _ I (swp_permIn _ _ _ _ _ oJ oJ oJ Q oJ),V.step ac Q oJ u J,h⟩ oJ
end
end
abbrev PT:TypeId:=343
abbrev kX:Int->Value:=fun n=>Value.int .u32 n
def ml (w:World) (pb:Nat) (m:Value) (F:List Nat) (d:Array Int) (n:Nat):Prop:=
 (n=0/\d = #[]/\F=[]/\w.heap[pb]?=some (.cells #[.slice none 0 0,m] PT (0,0)))\/
 ∃rb T,F=[rb]/\w.heap[pb]?=some (tf rb n d.size m)/\w.heap[rb]?=some (.cells (kY d) T (0,0))/\rb≠pb/\n<=d.size
structure iz (w:World) (pb:Nat) (F:List Nat) (l:List Int):Prop where
 ex:∃ (mb:Nat) (R:List Nat) (d:Array Int) (f:List (Int×Value)),F=pb::mb::R/\ml w pb (.map (some mb)) R d l.length/\lH kX w mb f/\
  (d.toList.take l.length).Perm l/\kO d l.length/\(f.map (·.1)).Perm l/\∀ p∈f,p.2=.i 1
 sV:l.Pairwise (· < ·)
def wL:oV prog 44 kX:=qw3 oK
def EK{x:Int}:∀ {f:List (Int×Value)},(∀p∈f,p.2=Value.int .i64 1)->(posOf x f=none/\x∉f.map (·.1))\/∃j,posOf x f=some (j,.i 1)/\x∈f.map (·.1)/\(f.map (·.1))[j]?=some x
 | [],_=>.inl ⟨rfl,oL⟩
 | p::f,h=>by simp only[posOf];by_cases hx:x=p.1;rw[if_pos hx,h p oL];exact .inr ⟨0,rfl,by simp[hx],by simp[hx]⟩;rw[if_neg hx];rcases EK (x:=x) (f:=f) (fun q E=>h q (zN _ E)) with ⟨u,C⟩|⟨j,u,C,G⟩;rw[u];exact .inl ⟨rfl,by simp only[xO,zG];rintro (e|e);exact hx e;exact C e⟩;rw[u];exact .inr ⟨j+1,rfl,by simp only[xO,zG];exact .inr C,by simpa using G⟩
def iz.cells{w:World}{pb:Nat}{F:List Nat}{l:List Int}(h:iz w pb F l):∃(s:Sl) (mb:Nat),w.heap[pb]?=some (.cells #[s.v,.map (some mb)] PT (0,0))/\s.len=l.length/\mb∈F:=by obtain⟨mb,R,d,f,rfl,C,_⟩:=h.ex;rcases C with ⟨E,_,_,u⟩|⟨rb,T,_,u,_⟩;exact⟨dI,mb,u,E.symm,oL⟩;exact⟨⟨pW rb,_,_⟩,mb,u,rfl,oL⟩
def BE{K:Option Addr->WP}(u:∀pb F w',iz w' pb F []->Fr [] w w'->(∀b∈F,w.heap.size<=b)->K (pW pb) w'):cW 179 [] dr w K:=by apply qtE;unfold qqD;have h:=oE [] w;refine dR.new h fun mb w1 G I h=>dR.new h fun pb w2 J O h=>u pb [pb,mb] w2 ⟨⟨mb,[],#[],[],rfl,.inl ⟨rfl,rfl,rfl,?_⟩,⟨#[],0,?_,rfl⟩,oL,fun i Q C=>by simp at C,oL,oL⟩,List.Pairwise.nil⟩ h.fr ?_;exact h.at (i:=0) rfl;exact h.at (i:=1) rfl;intro b E;simp at E;omega
def qzE{K:Int->WP}(h:iz w pb F l)(u:K l.length w):cW 181 [dH pb] de w K:=by refine qnr ?_;obtain⟨s,mb,C,E,_⟩:=h.cells;refine gI<|jM C s rfl ?_;rw[E];exact u
def GW{n:Int}(h:iz w pb F l)(E:K (decide (n∈l)) w):cW 194 [dH pb,.u n] df w K:=by
 refine qnq ?_;obtain⟨mb,R,d,f,rfl,Q,J,_,_,O,U⟩:=h.ex;have C:∃s:Sl,w.heap[pb]?=some (.cells #[s.v,.map (some mb)] PT (0,0)):=by rcases Q with ⟨V,_,_,C⟩|⟨rb,T,_,C,_⟩;exact⟨dI,C⟩;exact⟨⟨pW rb,_,_⟩,C⟩
 obtain⟨s,C⟩:=C;refine gI<|jM C (some mb) rfl ?_;unfold fl;rcases EK (x:=n) U with ⟨G,I⟩|⟨j,G,I,_⟩;refine⟨0,?_,?_⟩
 have:=HD (P:=prog) (w:=w) (t:=307) (et:=3) (z:=.i 0) oK (fun w=>oK) wL J n
 rw[G] at this;exact this;rw[show decide (n∈l)=false by rw[decide_eq_false_iff_not];exact fun e=>I (O.mem_iff.2 e)] at E;exact E;refine⟨1,?_,?_⟩
 have:=HD (P:=prog) (w:=w) (t:=307) (et:=3) (z:=.i 0) oK (fun w=>oK) wL J n
 rw[G] at this;exact this;rw[show decide (n∈l)=true by rw[yN];exact O.mem_iff.1 I] at E;exact E
def Ac:∃i,prog.info? 44=some i/\i.zero=some (.u 0)/\i.size=1/\i.bytes=4:=uj oK
def qv7(v:Value)(k:Nat)(h:v.cells = #[v]):Builtin.zeroCells v.cells k=Array.replicate k v:=by rw[h];apply Array.ext;simp[Builtin.zeroCells];intro i u C;simp[Builtin.zeroCells,Nat.mod_one]
def qqZ(l:List Int):kY l.toArray=(l.map (Value.int .u32)).toArray:=by simp[kY]
def Eh(h:d.toList.take n=l)(hi:i<n)(u:n<=d.size):l[i]?=some d[i]!:=by rw[<- h,xB,if_pos hi];simp[show i<d.size by omega]
def qsQ{α:Type}(x:α):∀(l:List α) (n:Nat),n<l.length->(l.set n x).take (n+1)=l.take n++[x]
 | a::l,0,_=>by simp
 | a::l,n+1,h=>by simpa using qsQ x l n (oP h)
def qBq{x:Int}{K:Unit->WP}(h:ml w pb mb R d n)(hn:n<=1000000)(hk:∀R' d' w',ml w' pb mb R' d' (n+1)->d'.toList.take (n+1)=d.toList.take n++[x]->Fr (pb::R) w w'->(∀b∈R',b∈R\/w.heap.size<=b)->K () w'): inv prog (.iface 345 (dH pb)) "Push" [.iface 44 (.u x)] [] w K:=by
 obtain⟨ad,O,hz,G,U⟩:=Ac;refine qun (f:=283) (by kernel_rfl) (e:=341) (by kernel_rfl) (by kernel_rfl)<|qnu ?_;have ta:(Instr.typeAssert (.iface 44 (.u x)) 20 44 true).run prog w=.ok (.tuple #[.u x,.bool true]) w:=(by kernel_rfl);refine sI (ts:=dz) (x,true) ta<|cond_true rfl<|gI ?_;have zc:∀k,Builtin.zeroCells (Value.int .u32 0).cells k=Array.replicate k (.u 0):=fun k=>qv7 _ k rfl;rcases h with ⟨h0,hd,hR,I⟩|⟨rb,T,hR,I,af,V,av⟩;subst h0 hd hR;refine jM I dI rfl ?_;have C:dR [pb] w w [(pb,.cells #[.slice none 0 0,mb] PT (0,0))]:=⟨by simpa using I,by simp,.refl _ _,by simp⟩;refine dR.new C fun tb w1 et ag C=>qzP (P:=prog) (e:=44) (by kernel_rfl) O hz [.u x] (by rw[G];rfl) (fun j u E=>?_) (by omega) (by rw[U];omega) (by omega) fun q aa ah=>?_;match j,E with
 | 0,E=>
  have:=C.cell (off:=0) 0 rfl rfl
  simp at E;subst E;exact this
 | j+1,E=>simp at E
 rw[zc];have C:=C.drew.alloc (.cells (#[Value.int .u32 x]++Array.replicate (q-1) (.u 0)) 44 (0,0));refine gI<|oH C 2 rfl _ rfl rfl rfl fun w2 C _=>?_;have Q:w1.drew.heap.size≠pb:=by
  have:=C.nodup
  simp at this;exact fun e=>this.1.2 e
 have ai:#[Value.int .u32 x]++Array.replicate (q-1) (.u 0)=kY (([x]++List.replicate (q-1) 0).toArray):=(by rw[qqZ];apply Array.ext';simp);refine hk [w1.drew.heap.size] (([x]++List.replicate (q-1) 0).toArray) w2 (.inr ⟨w1.drew.heap.size,44,rfl,?_,?_,Q,by simp⟩) (by simp) (C.fr.mono (fun i O _=>by simpa using O)) (fun b I=>?_)
 have:=C.at (i:=2) rfl
 have e:(([x]++List.replicate (q-1) (0:Int)).toArray).size=q:=(by simp;omega);rw[e];exact this
 have:=C.at (i:=0) rfl
 rw[<- ai];exact this;simp at I;subst I;right
 have:=C.own (w1.drew.heap.size,_) (by simp;exact .inl rfl)
 simp at this;omega;subst hR;refine jM I ⟨pW rb,n,d.size⟩ rfl ?_;dsimp only;have C:dR [pb,rb] w w [(pb,tf rb n d.size mb),(rb,.cells (kY d) T (0,0))]:=⟨by simpa using ⟨I,af⟩,by simpa using fun e=>V e.symm,.refl _ _,by simp⟩;refine dR.new C fun tb w1 et ag C=>?_;have J:∀(j:Nat) u,[Value.int .u32 x][j]?=some u->w1.cell? (((dc tb):Addr).add j)=some u:=fun j u E=>by
  match j,E with
  | 0,E=>
   have:=C.cell (off:=0) 0 rfl rfl
   simp at E;subst E;exact this
  | j+1,E=>simp at E
 by_cases hroom:n+1<=d.size;refine qzO (P:=prog) (e:=44) (by kernel_rfl) O [.u x] (C.at (i:=2) rfl) (by rw[G];rfl) J (by simp[Value.oneCell']) hroom (by rw[G,EF];simp;omega) ?_;have aj:dT (kY d) (0+n*ad.size) [.u x]=kY (d.setIfInBounds n x):=by rw[G,xS,xT];exact qs6 d n x
 rw[aj];have C:=C.i8 (o':=.cells (kY (d.setIfInBounds n x)) T (0,0)) 2 rfl;refine gI<|oH C 1 rfl _ rfl rfl rfl fun w2 C _=>hk [rb] (d.setIfInBounds n x) w2 (.inr ⟨rb,T,rfl,?_,?_,V,by simpa using hroom⟩) ?_ (C.fr.mono (fun i O _=>by simpa using O)) (fun b I=>.inl I)
 have:=C.at (i:=1) rfl
 rw[Array.size_setIfInBounds];exact this;exact C.at (i:=2) rfl;rw[Array.toList_setIfInBounds];exact qsQ x _ _ (by simp;omega);have ab:n=d.size:=(by omega);refine qyi (P:=prog) (e:=44) (by kernel_rfl) O hz (d.toList.map (Value.int .u32)) [.u x] (by rw[G];simp;omega) (fun j u E=>?_) (by rw[G];rfl) J (by omega) (by rw[U];omega) (by omega) fun q aa ah=>?_;rw[Addr.q9,kj (C.at (i:=2) rfl),xS];rw[zQ] at E;unfold kY;rw[Array.getElem?_map];simpa using E;rw[zc];have ak:(d.toList.map (Value.int .u32)).toArray++[Value.int .u32 x].toArray++Array.replicate (q-(n+1)) (.u 0)=kY ((d.toList++[x]++List.replicate (q-(n+1)) (0:Int)).toArray):=by rw[qqZ];apply Array.ext';simp
 rw[ak];have e:((d.toList++[x]++List.replicate (q-(n+1)) (0:Int)).toArray).size=q:=(by simp;omega);have C:=C.drew.alloc (.cells (kY ((d.toList++[x]++List.replicate (q-(n+1)) (0:Int)).toArray)) 44 (0,0));refine gI<|oH C 2 rfl _ rfl rfl rfl fun w2 C _=>?_;have Q:w1.drew.heap.size≠pb:=by
  have:=C.nodup
  simp at this;exact fun e=>this.1.2.1 e
 refine hk [w1.drew.heap.size] _ w2 (.inr ⟨w1.drew.heap.size,44,rfl,?_,C.at (i:=0) rfl,Q,by rw[e];exact aa⟩) ?_ (C.fr.mono (fun i O _=>by simpa using O)) (fun b I=>?_)
 have:=C.at (i:=2) rfl
 rw[e];exact this;rw[ab];simp[take_append,zS];simp at I;subst I;right;show w.heap.size<=w1.heap.size;omega
def qBG{rb:Nat}{K:Value->WP}(I:w.heap[pb]?=some (tf rb (n+1) d.size mb))(h:w.heap[rb]?=some (.cells (kY d) T (0,0)))(G:rb≠pb)(R:n+1<=d.size)(J:n<=1000000)(O:∀w',w'.heap[pb]?=some (tf rb n d.size mb)->w'.heap[rb]?=some (.cells (kY d) T (0,0))->Fr [pb] w w'->K (.iface 44 (.u d[n]!)) w'): inv prog (.iface 345 (dH pb)) "Pop" [] dv w K:=by
 refine qun (f:=282) (by kernel_rfl) (e:=341) (by kernel_rfl) (by kernel_rfl)<|qoF ?_;have E:dR [pb] w w [(pb,tf rb (n+1) d.size mb)]:=⟨by simpa using I,by simp,.refl _ _,by simp⟩;have Q:nC rb T w w d:=.start h;refine gI (oA E.drew 0 rfl ⟨pW rb,n+1,d.size⟩ rfl ?_);refine gI (oA E.drew 0 rfl ⟨pW rb,n+1,d.size⟩ rfl ?_);dsimp only;refine Q.drew.rd n (by rw[wi _ (by omega)];omega) (by omega) (by omega)<|gI (oA E.drew.drew 0 rfl ⟨pW rb,n+1,d.size⟩ rfl ?_);refine gI (oA E.drew.drew 0 rfl ⟨pW rb,n+1,d.size⟩ rfl ?_);dsimp only;rw[wi _ (by omega)];refine A0 ⟨by omega,by dsimp only;omega⟩<|gI<|oH E.drew.drew 0 rfl _ rfl rfl rfl fun w2 C _=>O w2 ?_ ?_ C.fr
 have:=C.at (i:=0) rfl
 rw[show (((n+1:Nat):Int)-1).toNat=n by omega] at this;exact this;rw[C.fr.block rb (fJ h) (by simpa using G)];exact h
def HM{u:Array Int}(h:PermIn 0 n d u):(u.toList.take n).Perm (d.toList.take n):=by
 have:=h.2.2
 simpa[Array.toList_extract] using this
def qx2{x:Int}{K:Unit->WP}(h:ml w pb mb R d n)(hn:n<=1000000)(hh:kO d n)(hk:∀R' V w',ml w' pb mb R' V (n+1)->kO V (n+1)->(V.toList.take (n+1)).Perm (d.toList.take n++[x])->Fr (pb::R) w w'->(∀b∈R',b∈R\/w.heap.size<=b)->K () w'): cW 212 [.iface 345 (dH pb),.iface 44 (.u x)] [] w K:=by
 have aa:n<=d.size:=by rcases h with ⟨Q,_⟩|⟨_,_,_,_,_,_,E⟩;omega;exact E
 apply qr9;refine qBq h hn fun R1 d1 w1 hr ht hf hR=>?_;rcases hr with ⟨Q,_⟩|⟨rb,T,ab,U,O,G,I⟩;omega;subst ab;refine qAZ U G (.start O) ?_;rw[wi _ oJ,show ((n+1:Nat):Int)-1=(n:Nat) by omega];have C:∀i,i<n->d1[i]! = d[i]!:=fun i J=>by have E:=Eh ht (show i<n+1 by omega) I;rw[yZ oO] at E;have h2:=Eh (d:=d) rfl J aa;rw[h2] at E;exact (yO E).symm
 refine qBl U G (.start O) (Nat.lt_succ_self n) ⟨I,oJ⟩ ⟨fun i Q J ao=>?_,fun i Q J ap _=>oJ⟩ fun d2 w2 hp hH ha=>?_;rw[C i oJ,C _ oJ];exact hh i Q oJ;refine hk [rb] d2 w2 (.inr ⟨rb,T,rfl,?_,ha.i9,G,by rw[hp.1];exact I⟩) hH ((HM hp).trans (by rw[ht])) (hf.j6 ha.fr fun i J=>?_) hR;rw[ha.fr.block pb (fJ U) (by simpa using fun e=>G e.symm),hp.1];exact U;simp at J;subst J;rcases hR i oL with E|E;exact .inl (zN _ E);exact .inr E
def kO.min(h:kO d n):∀i,i<n->d[0]!<=d[i]!:=by
 intro i;induction i using Nat.strongRecOn with
 | _ i ih=>
  intro u;by_cases h0:i=0;rw[h0];exact Int.le_refl _;exact Int.le_trans (ih ((i-1) / 2) oJ oJ) (h i oJ u)
def qzC{rb:Nat}{K:Value->WP}(I:w.heap[pb]?=some (tf rb (n+1) d.size mb))(J:w.heap[rb]?=some (.cells (kY d) T (0,0)))(h:rb≠pb)(Q:n+1<=d.size)(hn:n<=1000000)(hh:kO d (n+1))(hk:∀R w',ml w' pb mb [rb] R n->kO R n->(d[0]!::R.toList.take n).Perm (d.toList.take (n+1))->Fr [pb,rb] w w'->K (.iface 44 (.u d[0]!)) w'): cW 239 [.iface 345 (dH pb)] dv w K:=by
 apply qtq;refine qAZ I h (.start J) ?_;rw[wi _ oJ,show ((n+1:Nat):Int)-1=(n:Nat) by omega];refine Fh (i:=0) (k:=n) I h (.start J) oJ oJ ⟨Q,oJ⟩ fun w1 h1=>?_;have O:(swp d 0 n).size=d.size:=Sort.size_swp _ _ _;have C:=vT d (i:=0) (j:=n) oJ oJ;refine qzz (n:=n) I h h1 oJ ⟨oJ,oJ⟩ ⟨fun i h0 E aj=>?_,fun i h0 E ak hc=>oJ⟩ fun b U w2 V hH h2=>?_;rw[C,C,iN,iN,iN,iN];exact hh i h0 oJ;have ab:=V.1;have ac:w2.heap[pb]?=some (tf rb (n+1) U.size mb):=by rw[h2.fr.block pb (fJ I) (by simpa using fun e=>h e.symm),ab,O];exact I
 refine qBG ac h2.i9 h oJ hn fun w3 g1 g2 g3=>?_;have G:U[n]! = d[0]!:=by rw[V.2.1 n (.inr (zM _)),C,if_pos rfl]
 rw[G];refine hk U w3 (.inr ⟨rb,T,rfl,g1,g2,h,oJ⟩) hH ?_ ((h2.fr.mono (T:=[pb,rb]) (fun i E _=>by simp at E;simp[E])).trans (g3.mono (fun i E _=>by simp at E;simp[E])));have p1:=HM V;have p2:=HM (swp_permIn d 0 (n+1) 0 n oJ oJ oJ oJ oJ);have e1:(swp d 0 n).toList.take (n+1)=(swp d 0 n).toList.take n++[d[0]!]:=by have hv:(swp d 0 n)[n]! = d[0]!:=(by rw[C,if_pos rfl]);have hl:n<(swp d 0 n).toList.length:=(by simp[O];omega);rw[yG hl];congr 2;rw[<- hv];simp[show n<(swp d 0 n).size by omega]
 rw[e1] at p2;exact ((perm_append_singleton _ _).symm.trans (p1.append_right _)).trans p2
def ins (x:Int):List Int->List Int
 | []=>[x]
 | a::l=>if x<a then x::a::l else if x=a then a::l else a::ins x l
def A3{x:Int}:∀ {l:List Int},x∉l->(ins x l).Perm (x::l)
 | [],_=>.refl _
 | a::l,h=>by simp only[zG,not_or] at h;simp only[ins];split;exact .refl _;rw[if_neg h.1];exact ((A3 h.2).cons a).trans (.swap x a l)
def qum{x y:Int}:∀ {l:List Int},y∈ins x l->y=x\/y∈l
 | [],h=>by simp[ins] at h;exact .inl h
 | a::l,h=>by simp only[ins] at h;split at h;simp only[zG] at h⊢;exact h;split at h;exact .inr h;simp only[zG] at h⊢;rcases h with h|h;exact .inr (.inl h);rcases qum h with h|h;exact .inl h;exact .inr (.inr h)
def BS{x:Int}:∀ {l:List Int},l.Pairwise (· < ·)->(ins x l).Pairwise (· < ·)
 | [],_=>by simp[ins]
 | a::l,h=>by have C:=yJ.1 h;simp only[ins];split;rename_i E;refine yJ.2 ⟨fun b u=>?_,h⟩;rcases zG.1 u with rfl|u;exact E;exact Int.lt_trans E (C.1 b u);split;exact h;rename_i G I;refine yJ.2 ⟨fun b u=>?_,BS C.2⟩;rcases qum u with rfl|u;omega;exact C.1 b u
def qsd{x:Int}:∀ {l:List Int},l.Pairwise (· < ·)->x∈l->ins x l=l
 | a::l,h,u=>by
  have C:=yJ.1 h;simp only[ins];rcases zG.1 u with rfl|u;rw[if_neg (Int.lt_irrefl _),if_pos rfl]
  have:=C.1 x u
  rw[iN,iN,qsd C.2 u]
def zq{b:Nat}(h:b<w.heap.size)(o:Obj):Fr [b] w (i8 w b o):=
 ⟨rfl,rfl,rfl,by rw[vJ];exact zM _,fun j C u=>by rw[qw _ _ _ _ h,if_neg (oP u)]⟩
def ml.q8{w':World}{m:Value}{S:List Nat}(h:ml w pb m R d n)(k:Fr S w w')(u:pb∉S)(C:∀r∈R,r∉S):ml w' pb m R d n:=by rcases h with ⟨a,b,c,e⟩|⟨rb,T,a,b,c,e,f⟩;exact .inl ⟨a,b,c,by rw[k.block pb (fJ e) u];exact e⟩;exact .inr ⟨rb,T,a,by rw[k.block pb (fJ b) u];exact b,by rw[k.block rb (fJ c) (C rb (by rw[a];simp))];exact c,e,f⟩
def Hh{α:Type}[DecidableEq α]{kv:α->Value}{w':World}{b:Nat}{S:List Nat}{f:List (α×Value)}(h:lH kv w b f)(k:Fr S w w')(C:b∉S):lH kv w' b f:=by obtain⟨E,c,u,G⟩:=h;exact⟨E,c,by rw[k.block b (fJ u) C];exact u,G⟩
def ml.uR{mb:Nat}{m:Value}{f:List (Int×Value)}(h:ml w pb m R d n)(I:lH kX w mb f):pb≠mb/\∀r∈R,r≠mb:=by obtain⟨J,c,u,_⟩:=I;rcases h with ⟨_,_,E,e⟩|⟨rb,T,a,b,E,e,_⟩;refine⟨fun C=>?_,by simp[E]⟩;subst C;rw[e] at u;cases u;refine⟨fun C=>?_,fun r G C=>?_⟩;subst C;rw[b] at u;cases u;rw[a] at G;simp at G;subst G C;rw[E] at u;cases u
def iz.q8{w w':World}{pb:Nat}{F S:List Nat}{l:List Int}(h:iz w pb F l)(k:Fr S w w')(u:∀b∈F,b∉S):iz w' pb F l:=by obtain⟨⟨mb,R,d,f,rfl,C,E,G,I,J,O⟩,Q⟩:=h;exact⟨⟨mb,R,d,f,rfl,C.q8 k (u _ oL) (fun r C=>u r (by simp[C])),Hh E k (u _ oL),G,I,J,O⟩,Q⟩
def iz.lt(h:iz w pb F l):∀b∈F,b<w.heap.size:=by obtain⟨⟨mb,R,d,f,rfl,G,⟨I,c,E,_⟩,_⟩,_⟩:=h;intro b u;simp only[zG] at u;rcases G with ⟨_,_,C,e⟩|⟨rb,T,a,b',C,e,_⟩;rcases u with rfl|rfl|u;exact fJ e;exact fJ E;rw[C] at u;cases u;rcases u with rfl|rfl|u;exact fJ b';exact fJ E;rw[a] at u;simp at u;subst u;exact fJ C
def GY{n:Int}(h:iz w pb F l)(hl:l.length<=1000000)(hk:∀F' w',iz w' pb F' (ins n l)->Fr F w w'->(∀b∈F',b∈F\/w.heap.size<=b)->K (decide (n∉l)) w'): cW 180 [dH pb,.u n] df w K:=by
 refine qns<|GW h ?_;by_cases hx:n∈l;refine cond_true (oP hx) ?_
 have:=hk F w (by rw[qsd h.sV hx];exact h) (.refl _ _) (fun b O=>.inl O)
 simpa[hx] using this;refine cond_false (oP hx) ?_;obtain⟨s,C,E,_,_⟩:=h.cells;have V:=h.sV;obtain⟨mb,R,d,f,rfl,hr,hm,J,hh,hf,h1⟩:=h.ex;have aj:C=mb:=by rcases hr with ⟨_,_,_,e⟩|⟨rb,T,_,b,_⟩;have h3:=congrArg (fun o=>match o with|some (Obj.cells cs _ _)=>cs[1]? | _=>none) (E.symm.trans e);simpa using h3;have h3:=congrArg (fun o=>match o with|some (Obj.cells cs _ _)=>cs[1]? | _=>none) (E.symm.trans b);simpa[tf] using h3
 subst aj;refine gI<|jM E (some C) rfl ?_;have ac:posOf n f=none:=by rcases EK (x:=n) h1 with ⟨J,_⟩|⟨j,_,am,_⟩;exact J;exact absurd (hf.mem_iff.1 am) hx
 obtain⟨o,ad,an⟩:=qvY (P:=prog) (t:=307) (et:=3) (v:=.i 1) oK wL hm n ac;refine Ev _ ad ?_;obtain⟨Q,U⟩:=hr.uR hm;have ae:C<w.heap.size:=(by obtain⟨es,c,O,_⟩:=hm;exact fJ O);have af:=zq ae o;have ao:=hr.q8 af (oP Q) (fun r hr=>by simpa using U r hr);refine gI<|qx2 ao hl hh fun R' d' w2 ap aq ar ag au=>?_;have G:=A3 hx;have I:(ins n l).length=l.length+1:=(by have:=G.length_eq;simpa using this);have av:lH kX w2 C (f++[(n,.i 1)]):=Hh an ag (by simp only[zG,not_or];exact⟨fun e=>Q e.symm,fun e=>U _ e rfl⟩)
 have:=hk (pb::C::R') w2 ⟨⟨C,R',d',f++[(n,.i 1)],rfl,by rw[I];exact ap,av,?_,by rw[I];exact aq,?_,?_⟩,BS V⟩
  ((af.mono (T:=pb::C::R) (fun i hi _=>by simp at hi;simp[hi])).trans (ag.mono (fun i hi _=>by simp at hi;rcases hi with rfl|hi<;>simp[*]))) (fun b O=>?_)
 simpa[hx] using this;rw[I];exact ar.trans (((J.append_right [n]).trans (perm_append_singleton _ _)).trans G.symm);rw[xN];exact ((hf.append_right _).trans (perm_append_singleton _ _)).trans G.symm;intro p J;rcases zD.1 J with J|J;exact h1 p J;simp at J;rw[J];simp only[zG] at O;rcases O with rfl|rfl|O;exact .inl oL;exact .inl oL;rcases au b O with h'|h';exact .inl (by simp[h']);rw[vJ] at h';exact .inr h'
def qgK{α:Type}:∀(l:List α) (i:Nat) (h:i<l.length),(l[i]::l.eraseIdx i).Perm l
 | a::l,0,_=>.refl _
 | a::l,i+1,h=>by simp only[getElem_cons_succ,eraseIdx_cons_succ];exact (List.Perm.swap _ _ _).trans ((qgK l i (oP h)).cons a)
def uT:List Int->(Int×Bool)×List Int
 | []=>((0,false),[])
 | x::r=>((x,true),r)
def qzK{K:Int×Bool->WP}(h:iz w pb F l)(hl:l.length<=1000000)(V:∀F' w',iz w' pb F' (uT l).2->Fr F w w'->(∀b∈F',b∈F\/w.heap.size<=b)->K (uT l).1 w'): cW 215 [dH pb] dz w K:=by
 refine ql5 ?_;have E:=h.sV;have C:=h;obtain⟨mb,R,d,f,rfl,hr,hm,O,hh,hf,h1⟩:=h.ex;rcases hr with ⟨h0,hd,hR,G⟩|⟨rb,T,hR,G,ac,ad,I⟩;have au:l=[]:=eq_nil_of_length_eq_zero h0;subst au;exact gI<|jM G dI rfl<|cond_true rfl<|V _ w C (.refl _ _) (fun b G=>.inl G);subst hR;refine gI<|jM G ⟨pW rb,l.length,d.size⟩ rfl ?_;match l,hl,V,E,C,G,O,hh,hf,I with
 | [],hl,V,E,C,G,O,hh,hf,I=>
  exact cond_true rfl<|V _ w C (.refl _ _) (fun b G=>.inl G)
 | x::r,hl,V,E,C,G,O,hh,hf,I=>
  simp only[yI] at G O hh I hl⊢;refine cond_false oO<|gI ?_;have J:=(show ml w pb (.map (some mb)) [rb] d (r.length+1) from .inr ⟨rb,T,rfl,G,ac,ad,I⟩).uR hm;have av:d[0]! = x:=by
   have ae:d[0]!∈x::r:=O.mem_iff.1 (by
    have:=Eh (d:=d) rfl (show 0<r.length+1 by omega) I
    exact yF this)
   have hx:x∈d.toList.take (r.length+1):=O.mem_iff.2 oL;obtain⟨i,Q,aw⟩:=getElem_of_mem hx;have af:i<r.length+1:=(by simp at Q;omega);have h2:=Eh (d:=d) rfl af I;rw[zA Q,aw] at h2;have ag:=hh.min i af;rw[<- yO h2] at ag;rcases zG.1 ae with e|e;exact e
   have:=(yJ.1 E).1 _ e
   omega
  refine qzC G ac ad I oJ hh fun d2 w2 ah ax ai aj=>?_;rw[av] at ai⊢;have ta:(Instr.typeAssert (.iface 44 (.u x)) 20 44 true).run prog w2=.ok (.tuple #[.u x,.bool true]) w2:=oK;refine sI (ts:=dz) (x,true) ta ?_;have ak:lH kX w2 mb f:=Hh hm aj (by simp only[zG,xX,or_false,not_or];exact⟨fun e=>J.1 e.symm,fun e=>J.2 rb oL e.symm⟩);obtain⟨s2,ay⟩:∃s:Sl,w2.heap[pb]?=some (.cells #[s.v,.map (some mb)] PT (0,0)):=by rcases ah with ⟨_,_,_,U⟩|⟨az,T',_,U,_⟩;exact⟨dI,U⟩;exact⟨⟨pW az,_,_⟩,U⟩
  refine gI<|jM ay (some mb) rfl ?_;obtain⟨o,al,am⟩:=qvX (P:=prog) (t:=307) (et:=3) (kt:=44) (ty:=0) oK wL ak x;refine qxI (ts:=[]) () _ al ?_;rcases EK (x:=x) h1 with ⟨_,aA⟩|⟨j,an,_,hj⟩;exact absurd (hf.mem_iff.2 oL) aA;rw[an] at am;have ao:mb<w2.heap.size:=(by obtain⟨es,c,G,_⟩:=ak;exact fJ G);have ap:=zq ao o;refine V [pb,mb,rb] (i8 w2 mb o) ⟨⟨mb,[rb],d2,f.eraseIdx j,rfl,ah.q8 ap (oP J.1) (fun r hr=>by simpa using J.2 r hr),am,(ai.trans O).cons_inv,ax,?_,fun p O=>h1 p (mem_of_mem_eraseIdx O)⟩,(yJ.1 E).2⟩
   ((aj.mono (T:=[pb,mb,rb]) (fun i Q _=>by simp at Q;rcases Q with rfl|rfl<;>simp)).trans (ap.mono (fun i Q _=>by simp at Q;simp[Q]))) (fun b G=>.inl G)
  show ((f.eraseIdx j).map (·.1)).Perm r;rw[wn];obtain⟨aB,aC⟩:=zP.1 hj
  have:=qgK _ _ aB
  rw[aC] at this;exact (this.trans hf).cons_inv
section
section
variable {i9:Nat} {T:ll} {w0 w:World} {d:Array Int} {len cap:Nat}
end
end
section
section
variable {i9:Nat} {T:ll} {w0 w:World} {d:Array Int} {len cap:Nat}
end
end
section
section
variable {i9:Nat} {T:ll} {w0 w:World} {d:Array Int} {len cap:Nat}
end
end
end
section
open Go Go.Pt Go.Sort List
attribute [local irreducible] ld dK ic nK jx eT st new idx jK jF fV jI jl mp gK nn call dW inv run fl jf join loop held ext kW eU m8 nQ nT IntKind.wrap
end
section
open Go Go.Pt Go.Sort List
attribute [local irreducible] ld dK ic nK jx eT st new idx jK jF fV jI jl mp gK nn call dW inv run fl jf join loop held ext kW eU m8 nQ nT IntKind.wrap
variable {l:List Int} {w:World}
structure Il (i9:Nat) (T:ll) (w0 w:World) (d:Array Int) (sb:Nat) (k:IntKind) (v:Int):Prop where
 arr:nC i9 T w0 w d
 cell:∃ T2,w.heap[sb]?=some (.cells #[.int k v] T2 (0,0))
 ne:sb≠i9
 new:w0.heap.size<=sb
section
variable {i9:Nat} {T:ll} {w0 w:World} {d:Array Int} {len cap sb:Nat} {k:IntKind} {v:Int}
end
section
section
variable {i9:Nat} {T:ll} {w0 w:World} {d:Array Int} {len cap sb:Nat} {k:IntKind} {v:Int}
end
end
section
section
variable {i9:Nat} {T:ll} {len cap:Nat}
end
end
def qid:∀ {u C:List Int},u.Perm C->u.Pairwise (·<=·)->C.Pairwise (·<=·)->u=C
 | [],C,h,_,_=>h.nil_eq
 | a::u,[],h,_,_=>absurd h.symm.nil_eq oL
 | a::u,b::C,h,O,Q=>by
  have E:=yJ.1 O;have G:=yJ.1 Q;have I:a=b:=by
   have R:a∈b::C:=h.mem_iff.1 oL;have U:b∈a::u:=h.mem_iff.2 oL;rcases zG.1 R with e|e;exact e;rcases zG.1 U with J|J;exact J.symm
   have:=G.1 a e
   have:=E.1 b J
   omega
  subst I;rw[qid h.cons_inv E.2 G.2]
abbrev jc:Int->List Value:=fun n=>[Value.int .u32 n]
abbrev Rd (S:List Nat) (w:World) (s:Sl) (l:List Int):Prop:=dX jc 1 S w s l
abbrev ru (w:World) (s:Sl) (l:List Int) (B:List Nat):Prop:=eZ jc 1 w s l B
def ug:∀x,(jc x).length=1:=fun _=>rfl
def Rd.at{S:List Nat}{s:Sl}(h:Rd S w s l)(n:Nat){i x:Int}{K:Int->Prop}(hi:i=n)(C:l[n]?=some x)(k:K x):idx s i 1 fun a=>ld .u a w K:=
 dX.get (y:=x) h n hi C rfl k
def qzu{s:Sl}{B:List Nat}{x:Int}{T:TypeId}{K:Sl->WP}(h:ru w s l B)(Q:l.length<=1000000)(I:∀G B' w',ru w' G (l++[x]) B'->Fr B w w'->(∀b∈B',b∈B\/w.heap.size<=b)->K G w'): Pt.new (.cells #[.u x] T) w fun r w1=>Pt.run dd ((Builtin.append_ #[174,174] 174 #[s.v,.slice (pW r) 1 1]).run prog w1) K:=by obtain⟨i,J,O,C,E⟩:=Ac;exact eZ.push (e:=44) h ug (by simp[Value.oneCell']) oK J O C rfl rfl (by rw[E];omega) oJ I
def dQ (n:Int) (acc:List Int×Bool) (x:Int):List Int×Bool:=
 let a1:=if !acc.2&&decide (x>=n) then (acc.1++[n],true) else acc
 (if x≠n then a1.1++[x] else a1.1,a1.2)
def Fa{w0:World}{F F':List Nat}(u:∀b∈F,w0.heap.size<=b)(E:w0.heap.size<=w.heap.size)(h:∀b∈F',b∈F\/w.heap.size<=b):∀b∈F',w0.heap.size<=b:=by intro b C;rcases h b C with h|h;exact u b h;omega
end
section
open Go Go.Pt List
open Go.IntKind (wrap)
attribute [local irreducible] ld dK ic nK jx eT st new idx jK jF fV jI jl mp gK nn call dW inv run fl jf join loop held ext kW eU m8 nQ nT IntKind.wrap
variable {K:Sl->Prop} {L:List (Nat×Obj)} {S:List Nat} {T:TypeId} {body l:List Int} {number:Int} {s:Sl} {w:World}
abbrev encB:Int->List Value:=fun n=>[Value.int .u8 n]
abbrev eF (S:List Nat) (w:World) (s:Sl) (l:List Int):Prop:=dX encB 1 S w s l
abbrev gF (w:World) (s:Sl) (l:List Int) (B:List Nat):Prop:=eZ encB 1 w s l B
def lZ:∀x,(encB x).length=1:=fun _=>rfl
def gz (l:List Int):Array Value:=(l.map (Value.int .u8)).toArray
def Bm(l:List Int):(gz l).size=l.length:=by simp[gz]
def sR(l:List Int):l.flatMap encB=l.map (Value.int .u8):=by
 induction l with
 | nil=>rfl
 | cons a l ih=>rw[yH,ih];rfl
def xn:∃i,prog.info? 5=some i/\i.zero=some (.b 0)/\i.size=1/\i.bytes=1:=uj oK
def eF.at(h:eF S w s l)(n:Nat){i x:Int}{K:Int->Prop}(hi:i=n)(u:l[n]?=some x)(k:K x):idx s i 1 fun a=>ld .b a w K:=
 dX.get (y:=x) h n hi u rfl k
def zo{b o n cap:Nat}{L:List Int}{u:Nat×Nat}(C:w.heap[b]?=some (.cells (gz L) T u))(J:o+n<=L.length)(E:n<=cap)(G:b∉S):eF S w ⟨some (dc b o),n,cap⟩ ((L.drop o).take n):=by
 refine⟨by rw[yL,yC];dsimp only;omega,E,.inr ⟨b,o,_,T,_,rfl,C,G,fun i x h=>?_⟩⟩;have I:=(zP.1 h).1;rw[yL,yC] at I;rw[xB,iP,xA] at h;rw[xT];apply ext_getElem?;intro j;rw[xB,xA];match j with
 | 0=>simp[gz,h]
 | j+1=>simp
def ER{b o len cap:Nat}{lo hi:Int}{h:Nat}(u:0<=lo)(C:lo<=hi)(E:hi<=cap)(G:lo<cap)(k:K ⟨some ⟨b,o+lo.toNat*h,none⟩,hi.toNat-lo.toNat,cap-lo.toNat⟩):fV ⟨some (dc b o),len,cap⟩ (some lo) (some hi) none h K:=by unfold fV;refine⟨by simpa using ⟨u,C,E⟩,?_⟩;simp only[xW,xV,zJ];rw[iN];simp only[Option.map_some,Addr.q9];exact k
def E8{b o len cap:Nat}{lo:Int}{h:Nat}(u:0<=lo)(C:lo<=len)(E:len<=cap)(G:lo<cap)(k:K ⟨some ⟨b,o+lo.toNat*h,none⟩,len-lo.toNat,cap-lo.toNat⟩):fV ⟨some (dc b o),len,cap⟩ (some lo) none none h K:=by unfold fV;refine⟨by simp;omega,?_⟩;simp only[xW,xV,zJ];rw[iN];simp only[Option.map_some,Addr.q9];exact k
def dX.part{α:Type}{enc:α->List Value}{k:Nat}{l:List α}(h:dX enc k S w s l){lo hi:Option Int}(a b:Nat)(u:lo.getD 0=a)(C:hi.getD s.len=b)(U:a<=b)(Q:b<=l.length)(V:∀E,E.len=b-a->dX enc k S w E ((l.take b).drop a)->(s.a.isNone=true->E.a.isNone=true)->K E):fV s lo hi none k K:=by
 obtain⟨h1,h2,I⟩:=h;unfold fV;refine⟨by rw[u,C];simp;omega,V _ ?_ ⟨?_,?_,?_⟩ ?_⟩;rw[u,C];simp;rw[u,C];simp;omega;rw[u,C];simp;omega;by_cases he:(l.take b).drop a=[];exact .inl he;right;have aa:a<b:=by rcases Nat.lt_or_ge a b with h|h;exact h;exact absurd (by rw[vE];simp;omega) he
 rcases I with I|⟨bl,o,cs,T,fr,ha,J,O,hc⟩;rw[I] at Q;simp at Q;omega;refine⟨bl,o+a*k,cs,T,fr,?_,J,O,fun i x G=>?_⟩;rw[u];simp only[xW,zJ];rw[iN,ha];simp[Addr.q9];rw[xA,xB] at G;split at G
 have:=hc (a+i) x G
 rw[<- this,xU,Nat.add_assoc];cases G;intro R;rw[Option.isNone_iff_eq_none] at R;rw[R];simp
def gW (n:Int) (j:Nat):Int:=wrap .u8 (Int.fdiv n (2^min (8*j) 32))
def be (n:Int) (k:Nat):List Int:=(List.range k).map fun i=>gW n (k-1-i)
def kZ(n:Int)(k:Nat):(be n k).length=k:=by simp[be]
def gd(n:Int)(h:-1000000000000000<=n/\n<=1000000000000000):wrap .i64 n=n:=by rw[IntWalk.i64_in];omega
def HK{w0:World}{b o k cap:Nat}{A X Z:List Int}{n:Int}{K:Unit->WP}(h:dR S w0 w L)(i:Nat)(hi:L[i]?=some (b,.cells (gz (A++X++Z)) T (0,0)))(ho:A.length=o)(hX:X.length=k)(U:k<=4)(V:∀w',dR S w0 w' (L.set i (b,.cells (gz (A++be n k++Z)) T (0,0)))->K () w'): cW 208 [.slice (some (dc b o)) k cap,.u n] [] w K:=by
 refine qtC (b:=⟨some (dc b o),k,cap⟩)<|jT (fun x w'=>∃j:Nat,x=j/\j<=k/\dR S w0 w' (L.set i (b,.cells (gz (A++((be n k).take j++X.drop j)++Z)) T (0,0)))) (fun x _=>((k:Int)-x).toNat) ⟨0,rfl,oJ,?_⟩ ?_;have:L.set i (b,.cells (gz (A++((be n k).take 0++X.drop 0)++Z)) T (0,0))=L:=by
  apply ext_getElem?;intro j;rw[List.getElem?_set];by_cases hij:i=j;subst hij;rw[if_pos rfl,hi]
  have:=(zP.1 hi).1
  simp[this];rw[if_neg hij]
 rw[this];exact h;rintro x w1 ⟨j,rfl,hj,E⟩ Y hY;have O:=(zP.1 hi).1;dsimp only;apply cD<;>intro Q;have G:j<k:=oJ;have e1:wrap .i64 (8*wrap .i64 (wrap .i64 ((k:Int)-1)-j))=((8*(k-1-j):Nat):Int):=by rw[gd ((k:Int)-1) oJ,gd ((k:Int)-1-j) oJ,gd (8*((k:Int)-1-j)) oJ];omega
 rw[e1,gd _ oJ];refine me oJ<|qa oJ oJ ?_;rw[zJ,xT,zJ];have I:X.drop j=X[j]::X.drop (j+1):=zY oJ;have R:(be n k).take (j+1)=(be n k).take j++[gW n (k-1-j)]:=by rw[yG (by rw[kZ];exact G)];simp[be]
 have C:((be n k).take j).length=j:=(by rw[yL,kZ];omega);refine oH E i (by rw[List.getElem?_set,if_pos rfl,if_pos O]) (gz (A++((be n k).take (j+1)++X.drop (j+1))++Z)) ?_ rfl ?_ fun w2 J _=>?_;rw[dT,dT];apply Array.ext';rw[Array.toList_setIfInBounds];show (gz _).toList.set _ _=(gz _).toList;unfold gz;simp only[toList_toArray];rw[<- map_set,I,R,zV A,set_append_right _ _ oJ];rw[show o+j-A.length=j by omega,zV ((be n k).take j),set_append_right _ _ oJ,C,Nat.sub_self,xJ,set_cons_zero];simp only[zV,xJ,xI,gW];refine Nat.ble_eq_true_of_le ?_;rw[Bm,I];simp only[zF,yI,xK,C];omega;refine hY _ _ ⟨j+1,oJ,oJ,?_⟩ oJ;rw[set_set] at J;exact J;have G:j=k:=oJ;subst G;rw[zS (by rw[kZ];exact zM _),drop_of_length_le oJ,xH] at E;exact V _ E
def iK (l:List Int):Int:=l.foldl (fun r x=>bits .or .u32 (wrap .u32 (r*2^8)) (wrap .u32 x)) 0
def FO{K:Int->WP}(h:eF S w s l)(R:l.length<=100000)(O:K (iK l) w):cW 196 [s.v] dq w K:=by refine qtB ?_;have I:=h.1;refine jT (fun x w'=>w'=w/\∃i:Nat,x.2=i/\i<=l.length/\x.1=iK (l.take i)) (fun x _=>((l.length:Int)-x.2).toNat) ⟨rfl,0,rfl,oJ,rfl⟩ ?_;rintro⟨r,ii⟩ w' ⟨rfl,i,E,U,J⟩ X Q;simp only at E J;subst E J;apply cD<;>intro G;have C:i<l.length:=oJ;refine eF.at h i rfl (zA C) ?_;rw[gd _ oJ];refine Q _ _ ⟨rfl,i+1,oL,oJ,?_⟩ oN;rw[yG C,iK,iK,foldl_append];rfl;have C:i=l.length:=oJ;subst C;rw[xZ];exact O
def qml{K:Sl->World->Prop}(h:eF S w s l)(hl:l.length<=1000000)(hk:∀s' B w',gF w' s' l B->Fr [] w w'->(∀b∈B,w.heap.size<=b)->(s.a.isNone=true->s'=dI)->(s.a.isNone=false->s'.a.isNone=false)->K s' w'): cond (Option.isNone s.a) (K dI w) (new (.cells #[] 5) w fun r w1=>Pt.run dd ((Builtin.append_ #[96,96] 96 #[.slice (some (dc r)) 0 0,.slice s.a s.len s.cap]).run prog w1) fun s' w'=>K s' w'):=by
 obtain⟨i5,hi,hz,hsz,hby⟩:=xn;apply eH<;>intro hc;have hl0:l=[]:=by rcases h.2.2 with h3|⟨b,o,cs,T,fr,ha,_⟩;exact h3;rw[ha] at hc;cases hc
 subst hl0;exact hk _ [] w (.nil _ _ _) (.refl _ _) oL (fun _=>rfl) (fun h=>by rw[hc] at h;cases h);obtain⟨a,ha⟩:∃a,s.a=some a:=by cases hs:s.a with|none=>rw[hs] at hc;cases hc|some a=>exact⟨a,rfl⟩
 have ho:=oE [] w;refine dR.new ho fun r w1 e1 s1 ho=>?_;have h1:eF S w1 s l:=h.q7 ho.fr;have hb:gF w1 ⟨some (dc r),0,0⟩ [] [r]:=eZ.fresh lZ (ho.at (i:=0) rfl) rfl (zM _) oL oL;have hlen:=h.1;rw[ha];refine eZ.j0 (s:=⟨some (dc r),0,0⟩) (ys:=l) (e:=5) hb lZ oK hi hz hsz rfl (.ofSlice _ (e':=5) oK a s.len s.cap _ ?_ (h1.cells lZ ha) ?_) hlen (by rw[hby,hlen];simp;omega) (by rw[hlen];simp;omega) fun s' B w' g1 g2 g3 g4=>?_;rw[sR];simp[hlen];intro u hu;rw[sR] at hu;obtain⟨x,_,rfl⟩:=List.mem_map.1 hu;rfl;have hBn:∀b∈B,w.heap.size<=b:=fun b hb=>by rcases g3 b hb with h|h;simp at h;omega;omega
 refine hk s' B w' (oP g1) (ho.fr.j6 g2 (fun b hb=>by simp at hb;subst hb;exact .inr oJ)) hBn (fun h=>by rw[hc] at h;cases h) (fun _=>?_);rcases g4 with hn|hn;exact hn;simp at hn
def AX{K:Sl->WP}(h:eF S w s l)(C:l.length<=1000000)(E:∀u B w',gF w' u l B->Fr [] w w'->(∀b∈B,w.heap.size<=b)->(s.a.isNone=true->u=dI)->(s.a.isNone=false->u.a.isNone=false)->K u w'): cW 165 [s.v] dd w K:=by exact qny<|qml h C E
def Ar{K:Sl->WP}(h:eF S w s l)(C:l.length<=1000000)(E:∀u B w',gF w' u l B->Fr [] w w'->(∀b∈B,w.heap.size<=b)->(s.a.isNone=true->u=dI)->(s.a.isNone=false->u.a.isNone=false)->K u w'): cW 89 [s.v] dd w K:=by exact qpa<|qml h C E
def lw:List Int:=[0,274646895,549293790,820201905,1098587580,1361435347,1640403810,1905808397,2197175160,2460548119,2722870694,2987750089,3280807620,3553878443,3811616794,4084100981]
abbrev HG:Nat:=1
def Hv (w:World):Prop:=∃T h,w.heap[HG]?=some (.cells (lw.map (Value.int .u32)).toArray T h)
def Hv.q8{w':World}(h:Hv w)(f:Fr S w w')(C:HG∉S):Hv w':=by obtain⟨T,E,u⟩:=h;exact⟨T,E,by rw[f.block HG (fJ u) C];exact u⟩
def Hv.q7{w':World}(h:Hv w)(f:Fr [] w w'):Hv w':=h.q8 f oL
def Hv.lt(h:Hv w):HG<w.heap.size:=by obtain⟨T,C,u⟩:=h;exact fJ u
def Ho(x:Int):0<=bits .and .u32 x 15/\bits .and .u32 x 15<16:=by have h:(BitVec.ofInt 32 x&&& BitVec.ofInt 32 15).toNat<16:=(by rw[BitVec.toNat_and];exact Nat.lt_of_le_of_lt Nat.and_le_right oM);have u:bits .and .u32 x 15=((BitVec.ofInt 32 x&&& BitVec.ofInt 32 15).toNat:Int):=(by show wrap .u32 _=_;unfold wrap;have:(IntKind.u32.signed)=false:=rfl;simp only[this,Bool.false_and,Bool.false_eq_true,if_false];have e:((2:Int)^IntKind.u32.bits)=4294967296:=rfl;rw[e];exact Int.emod_eq_of_lt oJ (by have:(BitVec.ofInt IntKind.u32.bits x&&& BitVec.ofInt IntKind.u32.bits 15).toNat<16:=h;omega));rw[u];omega
def half (x:Int):Int:=lw.getD x.toNat 0
def xv (r:Int):Int:=bits .xor .u32 (Int.fdiv r (2^4)) (half (bits .and .u32 r 15))
def tT (r x:Int):Int:=xv (xv (bits .xor .u32 r (wrap .u32 x)))
def u5 (h:Int) (l:List Int):Int:=bits .xor .u32 (l.foldl tT (bits .xor .u32 h 4294967295)) 4294967295
def pw (l:List Int):Int:=u5 0 l
def qui{x:Int}{K:Int->Prop}(h:Hv w)(k:K (half (bits .and .u32 x 15))):ld .u (Addr.add (dc HG) (Int.toNat (bits .and .u32 x 15)*1)) w K:=by obtain⟨T,J,E⟩:=h;obtain⟨G,I⟩:=Ho x;rw[Addr.q9];refine jM E _ ?_ k;generalize bits .and .u32 x 15=y at G I;have C:y.toNat<lw.length:=(by show y.toNat<16;omega);rw[xS,xT];simp only[List.getElem?_toArray,zQ,zA C,Option.map_some,half,yR,xV];rfl
def qAi{E:Int}{K:Int->WP}(h:eF S w s l)(J:Hv w)(V:l.length<=100000)(R:K (u5 E l) w): cW 227 [.u E,s.v] dq w K:=by refine qtj ?_;have O:=h.1;refine jT (fun x w'=>w'=w/\∃i:Nat,x.2=i/\i<=l.length/\x.1=(l.take i).foldl tT (bits .xor .u32 E 4294967295)) (fun x _=>((l.length:Int)-x.2).toNat) ⟨rfl,0,rfl,oJ,rfl⟩ ?_;rintro⟨r,ii⟩ w' ⟨rfl,i,G,hi,Q⟩ X U;simp only at G Q;subst G Q;apply cD<;>intro I;have C:i<l.length:=oJ;refine eF.at h i rfl (zA C)<|me (Ho _)<|qui J<|me (Ho _)<|qui J ?_;rw[gd _ oJ];refine U _ _ ⟨rfl,i+1,oL,oJ,?_⟩ oN;rw[yG C,foldl_append];rfl;have C:i=l.length:=oJ;subst C;rw[xZ];exact R
def qxQ{K:Int->WP}(h:eF S w s l)(C:Hv w)(E:l.length<=100000)(G:K (pw l) w): cW 197 [s.v] dq w K:=by exact qvk<|qAi h C E G
def Gv{α:Type}(A X Y Z:List α)(h:X.length=Y.length):(A++X++Z).take A.length++Y++(A++X++Z).drop (A.length+Y.length)=A++Y++Z:=by have u:(A++X++Z).take A.length=A:=(by rw[zV,take_append_of_le_length (zM _),zS (zM _)]);have C:(A++X++Z).drop (A.length+Y.length)=Z:=(by rw[<- h,<- zF,drop_append_of_le_length (zM _),drop_of_length_le (zM _),xI]);rw[u,C]
def qld{A X Y Z:List Int}(h:X.length=Y.length):dT (gz (A++X++Z)) A.length (Y.map (Value.int .u8))=gz (A++Y++Z):=by
 apply Array.ext';rw[qY _ _ _ (by rw[Bm];simp only[zF,zK];omega)]
 have:=Gv (A.map (Value.int .u8)) (X.map (Value.int .u8)) (Y.map (Value.int .u8)) (Z.map (Value.int .u8)) (oP h)
 simpa only[gz,xN,toList_toArray,zK] using this
def zs (n:Nat):List Int:=List.replicate n 0
def qL(n:Nat):(zs n).length=n:=length_replicate
def Bt(a b:Nat):zs (a+b)=zs a++zs b:=replicate_append_replicate.symm
def qBk:zs 1=[0]:=rfl
def qta(n:Nat):(List.replicate n (Value.int .u8 0)).toArray=gz (zs n):=by unfold gz zs;rw[map_replicate]
def dR.bytes{w0:World}{b:Nat}{l':List Int}(h:dR S w0 w ((b,.cells (gz l) T (0,0))::L))(e:l=l'):dR S w0 w ((b,.cells (gz l') T (0,0))::L):=by rw[<- e];exact h
def lz (number kind:Int) (body:List Int):List Int:=be number 4++[kind]++be (wrap .u32 body.length) 2++[0]++body++zs (500-body.length)
def fE (number kind:Int) (body:List Int):List Int:=be (pw (lz number kind body)) 4++lz number kind body
def EM{kind:Int}(h:body.length<=500):(lz number kind body).length=508:=by simp only[lz,kZ,qL,zF,yI,xK];omega
def CQ{kind:Int}(h:body.length<=500):(fE number kind body).length=512:=by rw[fE,zF,kZ,EM h]
def quG{kind:Int}{K:Sl×Int->WP}(h:eF S w s l)(O:Hv w)(hl:l.length<=100000)(I:500<l.length->K (dI,3) w)(hk:l.length<=500->∀b T w',w'.heap[b]?=some (.cells (gz (fE number kind l)) T (0,0))->Fr [] w w'->w.heap.size<=b->K (⟨pW b,512,512⟩,0) w'): cW 175 [.u number,.b kind,s.v] dg w K:=by
 refine qsw ?_;have G:=h.1;refine eH (fun Q=>I (by have:=zC Q;omega)) (fun Q=>?_);have E:l.length<=500:=(by have:=zB Q;omega);refine dR.Hg (oE [] w) oM oM oM oM fun b w1 eb C=>?_;rw[qta] at C;replace C:=dR.bytes (l':=zs 4++zs 4++zs 504) C (by rw[<- Bt,<- Bt];rfl);refine ER oM oM oM oM<|HK (k:=4) C 0 rfl (qL 4) (qL 4) oM fun w2 C=>?_;replace C:=dR.bytes (l':=(zs 4++be number 4)++zs 1++zs 503) C (by rw[show (504:Nat)=1+503 from rfl,Bt,zV,zV,zV]);refine qa oJ oL<|oH C 0 rfl _ (qld (A:=zs 4++be number 4) (X:=zs 1) (Y:=[kind]) rfl) rfl (by rw[Bm];simp only[zF,qL,kZ];rfl) fun w3 C _=>?_;replace C:=dR.bytes (l':=(zs 4++be number 4++[kind])++zs 2++zs 501) C (by rw[show (503:Nat)=2+501 from rfl,Bt,zV,zV,zV,zV,zV]);refine ER oJ oJ oL oL<|HK (k:=2) C 0 rfl (by simp only[zF,qL,kZ];rfl) (qL 2) oM fun w4 C=>?_;replace C:=dR.bytes (l':=(zs 4++be number 4++[kind]++be (wrap .u32 s.len) 2++[0])++zs l.length++zs (500-l.length)) C (by rw[show (501:Nat)=1+(l.length+(500-l.length)) by omega,Bt,Bt,qBk];simp only[zV]);refine E8 oJ oL oL oL ?_;have V:eF S w4 s l:=h.q7 C.fr;have e6:(zs 4++be number 4++[kind]++be (wrap .u32 s.len) 2++[0]).length=12:=(by simp only[zF,qL,kZ];rfl);refine dR.wN (el:=5) (vs:=l.map (Value.int .u8)) C 0 rfl oK oK (by rw[zK,G];exact (xR (by show l.length<=500;omega)).symm) (fun J=>?_) (fun v O=>by obtain⟨x,_,rfl⟩:=mem_map.1 O;rfl) (by rw[Bm,zF,zF,e6,qL,qL,zK];omega) fun w5 C=>?_;rcases V.2.2 with h3|⟨bb,o,cs,T,fr,ha,_⟩;rw[h3] at J;exact absurd rfl J;refine⟨_,ha,?_⟩
 have:=V.cells lZ ha
 rw[sR] at this;exact this;have e5:=qld (A:=zs 4++be number 4++[kind]++be (wrap .u32 s.len) 2++[0]) (X:=zs l.length) (Y:=l) (Z:=zs (500-l.length)) (qL _);rw[e6] at e5;have e7:(0:Nat)+Int.toNat 12*1=12:=rfl;rw[e7,e5] at C;replace C:=dR.bytes (l':=[]++zs 4++lz number kind l) C (by simp only[lz,G,zV,xI]);refine A0 ⟨oJ,oL⟩<|E8 oJ oL oL oL ?_;have R:=C.drew;have hr:eF [] w5.drew ⟨some ⟨b,0+Int.toNat 4*1,none⟩,(512:Int).toNat-Int.toNat 4,(512:Int).toNat-Int.toNat 4⟩ (lz number kind l):=by
  have:=zo (S:=[]) (o:=4) (n:=508) (cap:=508) (R.at (i:=0) rfl) (by rw[zF,zF,qL,EM E];simp) (zM _) oL
  rw[xI,drop_append_of_le_length (by rw[qL];exact zM _),drop_of_length_le (by rw[qL];exact zM _),xI,zS (by rw[EM E];exact zM _)] at this;exact this
 have U:Hv w5.drew:=O.q7 R.fr;refine qxQ hr U (by rw[EM E];decide)<|HK (k:=4) R 0 rfl rfl (qL 4) oM fun w6 C=>hk E b _ w6 (C.at (i:=0) rfl) C.fr oJ
def eS (l:List Int):Prop:=∀x∈l,0<=x/\x<256
def eS.take{l:List Int}(h:eS l)(n:Nat):eS (l.take n):=fun x u=>h x (yV u)
def eS.drop{l:List Int}(h:eS l)(n:Nat):eS (l.drop n):=fun x u=>h x (yU u)
def qws(h:eS l):((Lib.countByte (Lib.bytesOf l) (0:Int).toNat.toUInt8:Nat):Int)=l.length↔∀x∈l,x=0:=by
 have key:∀l:List Int,eS l->((Lib.bytesOf l).count (0:UInt8)<=l.length/\((Lib.bytesOf l).count (0:UInt8)=l.length↔∀x∈l,x=0)):=by
  intro l;induction l with
  | nil=>intro _;simp[Lib.bytesOf]
  | cons a l ih=>
   intro u;obtain⟨J,C⟩:=ih (fun x E=>u x (zN _ E));have O:=u a oL;have e:Lib.bytesOf (a::l)=UInt8.ofNat a.toNat::Lib.bytesOf l:=rfl;rw[e,count_cons];have G:(UInt8.ofNat a.toNat==0)=decide (a=0):=by
    by_cases h0:a=0;subst h0;rfl;rw[zU h0,zR];intro I
    have:=congrArg UInt8.toNat I
    simp at this;omega
   rw[G];by_cases h0:a=0;subst h0;simp only[decide_true,if_true,yI,zG,forall_eq_or_imp,true_and];exact⟨oJ,by rw[<- C];omega⟩;simp only[h0,decide_false,Bool.false_eq_true,if_false,yI,zG,forall_eq_or_imp,false_and,iff_false];omega
 have:=(key l h).2
 show (((Lib.bytesOf l).count _:Nat):Int)=_↔_;rw[<- this];exact Int.ofNat_inj
def qpc{b2 cap2:Nat}{K:Int->World->Prop}(h:eF S w s l)(hB:eS l)(hc2:w.cell? (dc b2)=some (.int .u8 0))(hk:∀c:Int,(c=l.length↔∀x∈l,x=0)->K c w): call prog 198 [.slice s.a s.len s.cap,.slice (some (dc b2)) 1 cap2] [.one (.int .i64)] w K:=by
 refine qpb (s:=s) (sep:=⟨some (dc b2),1,cap2⟩) ?_;have hlen:=h.1;refine cond_false (by rfl)<|cond_true (by rfl)<|qa oJ oL<|qI (c:=.int .u8) 0 hc2 ?_;have hcount:(Extern.BytealgCount.count #[.slice s.a s.len s.cap,.int .u8 0]).run prog w=.ok (.int .i64 (Lib.countByte (Lib.bytesOf l) (0:Int).toNat.toUInt8)) w:=by
  cases ha:s.a with
  | none=>
   have hl0:l=[]:=by rcases h.2.2 with h3|⟨b,o,cs,T,fr,ha',_⟩;exact h3;rw[ha] at ha';cases ha'
   subst hl0;exact Lib.run_countNil w _ _ _
  | some a=>
   refine Lib.run_countAt w a s.len s.cap l hlen.symm (fun i hi=>?_) 0
   have:=h.cells lZ ha i (.int .u8 (l.getD i 0)) ?_
   exact this;rw[sR,zQ,yR,zA oJ];rfl
 exact CM (e:=Extern.BytealgCount.count) func229 oK oK oK oK (((Lib.countByte (Lib.bytesOf l) (0:Int).toNat.toUInt8:Nat):Int)) w hcount<|hk _ (qws hB)
def fw (number:Int) (b:List Int):Int×List Int×Int:=
 if b.length≠512 then (0,[],1)
 else if iK (b.take 4)≠pw (b.drop 4) then (0,[],8)
 else if iK ((b.take 8).drop 4)≠number then (0,[],4)
 else if iK ((b.take 11).drop 9)>500\/b.getD 11 0≠0 then (0,[],2)
 else if ∃x∈b.drop (12+(iK ((b.take 11).drop 9)).toNat),x≠0 then (0,[],2)
 else (b.getD 8 0,(b.take (12+(iK ((b.take 11).drop 9)).toNat)).drop 12,0)
def pa(x:Int)(h:0<=x/\x<4294967296):wrap .u32 x=x:=by unfold wrap;have:(IntKind.u32.signed)=false:=rfl;simp only[this,Bool.false_and,Bool.false_eq_true,if_false];exact Int.emod_eq_of_lt h.1 h.2
def zz(x:Int):0<=wrap .u32 x/\wrap .u32 x<4294967296:=by unfold wrap;have:(IntKind.u32.signed)=false:=rfl;simp only[this,Bool.false_and,Bool.false_eq_true,if_false];exact⟨Int.emod_nonneg _ oM,Int.emod_lt_of_pos _ oM⟩
def Eg(h:BinOp)(x y:Int):0<=bits h .u32 x y/\bits h .u32 x y<4294967296:=zz _
def qvp(l:List Int):0<=iK l/\iK l<4294967296:=by
 unfold iK;have:∀(l:List Int) (a:Int),0<=a/\a<4294967296->0<=l.foldl (fun r x=>bits .or .u32 (wrap .u32 (r*2^8)) (wrap .u32 x)) a/\l.foldl (fun r x=>bits .or .u32 (wrap .u32 (r*2^8)) (wrap .u32 x)) a<4294967296:=by
  intro l;induction l with
  | nil=>intro a h;exact h
  | cons x l ih=>intro a _;exact ih _ (Eg _ _ _)
 exact this l 0 oM
def Hd{K:Int×Sl×Int->WP}(h:eF S w s l)(hv:Hv w)(hB:eS l)(hl:l.length<=100000)(hk:∀s' B w',gF w' s' (fw number l).2.1 B->Fr [] w w'->(∀b∈B,w.heap.size<=b)->K ((fw number l).1,s',(fw number l).2.2) w'): cW 168 [.u number,s.v] dj w K:=by
 refine qsv ?_;have J:=h.1;have E:∀ {e:Int} {w':World},fw number l=(0,[],e)->Fr [] w w'->K (0,dI,e) w':=by
  intro e w' he hf
  have:=hk dI [] w' (by rw[he];exact .nil _ _ _) hf oL
  rw[he] at this;exact this
 apply eH<;>intro C;refine E ?_ (.refl _ _);have:l.length≠512:=(by simp at C;omega);simp[fw,this];have O:l.length=512:=(by simp at C;omega);refine dX.part h 0 4 rfl rfl oJ oJ fun s1 l1 r1 _=>dX.part h 4 512 rfl (by rw[J,O];rfl) oJ oJ fun s2 l2 r2 _=>?_;rw[zS oJ] at r2;rw[xF] at r1;have fd:Fr [] w w.drew:=(Fr.refl _ _).drew;have ai:Hv w.drew:=hv.q7 fd;refine FO (w:=w.drew) r1 (by rw[yL];omega)<|qxQ (w:=w.drew) r2 ai (by rw[yC];omega) ?_;have V:¬l.length≠512:=oJ;apply eH<;>intro C;refine E ?_ fd;have:iK (l.take 4)≠pw (l.drop 4):=(oP C);rw[fw,if_neg V,if_pos this];have h1:¬iK (l.take 4)≠pw (l.drop 4):=(oP C);have hd:eF S w.drew s l:=h;refine dX.part hd 4 8 rfl rfl oJ oJ fun s3 l3 r3 _=>FO r3 (by rw[yC,yL];omega) ?_;apply eH<;>intro C;refine E ?_ fd;have:iK ((l.take 8).drop 4)≠number:=(oP C);rw[fw,if_neg V,if_neg h1,if_pos this];have h2:¬iK ((l.take 8).drop 4)≠number:=(oP C);refine dX.part hd 9 11 rfl rfl oJ oJ fun s4 l4 r4 _=>FO r4 (by rw[yC,yL];omega) ?_;have hn:=qvp ((l.take 11).drop 9);have ak:l[11]?=some (l.getD 11 0):=(by rw[yR,zA oJ];rfl);have g8:l[8]?=some (l.getD 8 0):=(by rw[yR,zA oJ];rfl);refine iQ (fun b w'=>b=decide (iK ((l.take 11).drop 9)>500\/l.getD 11 0≠0)/\w'=w.drew) ?_ ?_;apply eH<;>intro C;exact⟨by rw[yA (Or.inl (zC C))],rfl⟩;refine eF.at hd 11 rfl ak ⟨?_,rfl⟩
 have:=zB C
 generalize l.getD 11 0=z;by_cases hz:z=0<;>simp[this,hz];rintro b w1 ⟨rfl,rfl⟩;apply eH<;>intro C;refine E ?_ fd;rw[fw,if_neg V,if_neg h1,if_neg h2,if_pos (zC C)];have h3:=zB C;have Q:iK ((l.take 11).drop 9)<=500:=by rcases Int.lt_or_le 500 (iK ((l.take 11).drop 9)) with h|h;exact absurd (Or.inl h) h3;exact h
 have ov:fw number l=if ∃x∈l.drop (12+(iK ((l.take 11).drop 9)).toNat),x≠0 then (0,[],2) else (l.getD 8 0,(l.take (12+(iK ((l.take 11).drop 9)).toNat)).drop 12,0):=by rw[fw,if_neg V,if_neg h1,if_neg h2,if_neg h3]
 generalize iK ((l.take 11).drop 9)=n at hn Q ov;obtain⟨m,rfl⟩:∃m:Nat,n=m:=⟨n.toNat,oJ⟩;rw[pa _ oJ];rw[zJ] at ov;refine dX.part hd (12+m) 512 oL (by rw[J,O];rfl) oJ oJ fun s5 l5 r5 _=>?_;rw[zS oJ] at r5;have ho:=oE [] w.drew;refine dR.new ho fun zb w2 ez sz ho=>?_;have am:eF S w2 s5 (l.drop (12+m)):=r5.q7 ho.fr;refine qpc am (hB.drop _) (ho.cell (off:=0) 0 rfl rfl) fun c ac=>?_;have I:Fr [] w w2:=fd.trans ho.fr;have ad:=r5.1;apply eH<;>intro C;refine E ?_ I;have an:¬ ∀x∈l.drop (12+m),x=0:=by rw[<- ac];intro e;rw[e,ad] at C;simp at C
 rw[ov,if_pos];exact Classical.byContradiction fun ao=>an fun x hx=>Classical.byContradiction fun aq=>ao ⟨x,hx,aq⟩;have ae:∀x∈l.drop (12+m),x=0:=by rw[<- ac];rw[ad] at C;simpa using C
 rw[if_neg (by rintro⟨x,hx,V⟩;exact V (ae x hx))] at ov;have af:eF S w2.drew s l:=(h.q7 I).drew;obtain⟨_,b8,o8,au,_,ag,T8,av,R,aw⟩:=dX.at af 8 g8;have U:ag[o8+8]?=some (.b (l.getD 8 0)):=by
  have:=congrArg (·[0]?) aw
  simpa using this
 refine rM au ⟨oJ,oJ⟩ ?_;have G:∀ {w':World},w'.heap[b8]?=some (.cells ag T8 av)->w'.cell? ⟨b8,o8+Int.toNat 8*1,none⟩=some (.b (l.getD 8 0)):=fun hb=>by rw[kj hb];exact U
 refine qI (l.getD 8 0) (G R)<|dX.part af 12 (12+m) rfl oL oJ oJ fun s6 l6 r6 _=>?_;have lm:((l.take (12+m)).drop 12).length=m:=(by rw[yC,yL];omega);refine Ar r6 (by rw[lm];omega) fun s7 B w3 ay f7 n7 _ _=>iM (G (by show _=_;rw[f7.block b8 (fJ R) oL];exact R)) ?_;have e1:(w2.drew).heap.size=w2.heap.size:=rfl
 have:=hk s7 B w3 (by rw[ov];exact ay) (I.drew.trans f7) (fun b hb=>by have:=n7 b hb;have:=I.size;omega)
 rw[ov] at this;exact this
end
section
open Go Go.Pt List
open Go.IntKind (wrap)
variable {K:Int×Int->WP} {a b body:List Int} {n number:Int}
def BD(x:Int):wrap .u8 x=x%256:=by unfold wrap;have:(IntKind.u8.signed)=false:=rfl;simp only[this,Bool.false_and,Bool.false_eq_true,if_false];rfl
def qA4{r x:Int}(h:0<=r/\r<16777216)(u:0<=x/\x<256):bits .or .u32 (wrap .u32 (r*2^8)) (wrap .u32 x)=r*256+x:=by rw[pa x oJ,pa (r*2^8) oJ];obtain⟨a,rfl⟩:∃a:Nat,r=a:=⟨r.toNat,oJ⟩;obtain⟨b,rfl⟩:∃b:Nat,x=b:=⟨x.toNat,oJ⟩;have e1:((a:Int)*2^8)=((2^8*a:Nat):Int):=oJ;rw[e1];show wrap .u32 ((BitVec.ofInt 32 ((2^8*a:Nat):Int)||| BitVec.ofInt 32 (b:Int)).toNat:Nat)=_;rw[BitVec.toNat_or,BitVec.ofInt_natCast,BitVec.ofInt_natCast,BitVec.toNat_ofNat,BitVec.toNat_ofNat,Nat.mod_eq_of_lt (show 2^8*a<2^32 by omega),Nat.mod_eq_of_lt (show b<2^32 by omega),<- Nat.two_pow_add_eq_or_of_lt (show b<2^8 by omega)];rw[pa _ oJ];omega
def kC (l:List Int):Int:=l.foldl (fun r x=>r*256+x) 0
def EQ:∀ {l:List Int},eS l->l.length<=4->iK l=kC l:=by
 have key:∀(l:List Int) (r:Int) (k:Nat),eS l->l.length<=k->k<=4->0<=r->r<256^(4-k)->
   l.foldl (fun r x=>bits .or .u32 (wrap .u32 (r*2^8)) (wrap .u32 x)) r=l.foldl (fun r x=>r*256+x) r:=by
  intro l;induction l with
  | nil=>intros;rfl
  | cons x l ih=>
   intro r k u h C G E;have I:=u x oL;simp only[yI] at h;have J:r<16777216:=by
    have:(256:Int)^(4-k)<=256^3:=by
     have:(4-k)<=3:=oJ;match k,C,h with
     | 1,_,_=>decide
     | 2,_,_=>decide
     | 3,_,_=>decide
     | 4,_,_=>decide
    have e:(256:Int)^3=16777216:=oM;omega
   rw[foldl_cons,foldl_cons,qA4 ⟨G,J⟩ I];match k,C,h,E with
   | k+1,C,h,E=>
    refine ih _ k (fun y O=>u y (zN _ O)) oJ oJ oJ ?_;have e:4-k=(4-(k+1))+1:=oJ;rw[e,Int.pow_succ];omega
 intro l u h;exact key l 0 4 u h oM oM oM
def AU(h:0<=n)(j:Nat)(u:j<=3):gW n j=n / 256^j%256:=by
 unfold gW;rw[BD,Int.fdiv_eq_ediv_of_nonneg _ (by exact Int.pow_nonneg oM)];match j,u with
 | 0,_=>rfl
 | 1,_=>rfl
 | 2,_=>rfl
 | 3,_=>rfl
def CV(h:0<=n):be n 4=[n / 16777216%256,n / 65536%256,n / 256%256,n%256]:=by have e:be n 4=[gW n 3,gW n 2,gW n 1,gW n 0]:=rfl;rw[e,AU h 3 oM,AU h 2 oM,AU h 1 oM,AU h 0 oM];simp
def be2(h:0<=n):be n 2=[n / 256%256,n%256]:=by have e:be n 2=[gW n 1,gW n 0]:=rfl;rw[e,AU h 1 oM,AU h 0 oM];simp
def tV(n:Int)(k:Nat):eS (be n k):=by intro x h;obtain⟨i,_,rfl⟩:=mem_map.1 h;unfold gW;rw[BD];omega
def Ga(h:0<=n/\n<4294967296):iK (be n 4)=n:=by rw[EQ (tV _ _) (by rw[kZ];exact zM _),CV h.1];show (((0*256+_)*256+_)*256+_)*256+_=n;omega
def qr7(h:0<=n/\n<65536):iK (be n 2)=n:=by rw[EQ (tV _ _) (by rw[kZ];decide),be2 h.1];show (0*256+_)*256+_=n;omega
def qv3(l:List Int):0<=pw l/\pw l<4294967296:=by unfold pw u5;exact Eg _ _ _
def eS.append(h:eS a)(k:eS b):eS (a++b):=fun x C=>by rcases zD.1 C with u|u;exact h x u;exact k x u
def eS.zs(n:Nat):eS (zs n):=fun x h=>by
 have:=eq_of_mem_replicate h
 omega
def eS.one{x:Int}(h:0<=x/\x<256):eS [x]:=fun y u=>by simp at u;subst u;exact h
def qxE{kind:Int}(h:0<=kind/\kind<256)(u:eS body):eS (lz number kind body):=
 (((((tV _ _).append (.one h)).append (tV _ _)).append (.one oM)).append u).append (.zs _)
def GE{kind:Int}(h:0<=kind/\kind<256)(u:eS body):eS (fE number kind body):=(tV _ _).append (qxE h u)
def qmN{kind:Int}(I:0<=number/\number<4294967296)(J:body.length<=500):fw number (fE number kind body)=(kind,body,0):=by
 have u:wrap .u32 (body.length:Int)=(body.length:Int):=pa _ oJ;have e0:fE number kind body=be (pw (lz number kind body)) 4++(be number 4++([kind]++(be body.length 2++([0]++(body++zs (500-body.length)))))):=by
  rw[fE];conv=>lhs;rhs;rw[lz]
  rw[u];simp only[zV]
 have l4:=kZ (pw (lz number kind body)) 4;have e1:(fE number kind body).take 4=be (pw (lz number kind body)) 4:=(by rw[fE,take_append_of_le_length (by rw[kZ];exact zM _),zS (by rw[kZ];exact zM _)]);have O:(fE number kind body).drop 4=lz number kind body:=(by rw[fE,drop_append_of_le_length (by rw[kZ];exact zM _),drop_of_length_le (by rw[kZ];exact zM _),xI]);have G:∀n,∃a b c d,be n 4=[a,b,c,d]:=fun n=>⟨_,_,_,_,rfl⟩;have Q:∀n,∃a b,be n 2=[a,b]:=fun n=>⟨_,_,rfl⟩;obtain⟨R,U,V,a3,ha⟩:=G (pw (lz number kind body));obtain⟨n0,n1,n2,n3,C⟩:=G number;obtain⟨l0,l1,E⟩:=Q body.length;have h:fE number kind body=R::U::V::a3::n0::n1::n2::n3::kind::l0::l1::0::(body++zs (500-body.length)):=by rw[e0,ha,C,E];rfl
 have g1:iK ((fE number kind body).take 4)=pw ((fE number kind body).drop 4):=(by rw[e1,O,Ga (qv3 _)]);have g2:iK (((fE number kind body).take 8).drop 4)=number:=(by have:((fE number kind body).take 8).drop 4=be number 4:=(by rw[h,C];rfl);rw[this,Ga I]);have g3:iK (((fE number kind body).take 11).drop 9)=body.length:=(by have:((fE number kind body).take 11).drop 9=be body.length 2:=(by rw[h,E];rfl);rw[this,qr7 oJ]);have g4:(fE number kind body).getD 11 0=0:=(by rw[h];rfl);have g5:(fE number kind body).getD 8 0=kind:=(by rw[h];rfl);have g6:(fE number kind body).drop (12+body.length)=zs (500-body.length):=(by rw[h,Nat.add_comm];show (body++zs (500-body.length)).drop body.length=_;rw[drop_append_of_le_length (zM _),drop_length,xI]);have g7:((fE number kind body).take (12+body.length)).drop 12=body:=(by rw[h,Nat.add_comm];show (body++zs (500-body.length)).take body.length=_;rw[take_append_of_le_length (zM _),xZ]);rw[fw,if_neg (by rw[CQ J];simp),if_neg (by rw[g1];simp),if_neg (by rw[g2];simp),g3,g4,if_neg oO,zJ,g6,if_neg,g5,g7];rintro⟨x,hx,h0⟩;exact h0 (eq_of_mem_replicate hx)
def cmpL:List Int->List Int->Int
 | [],[]=>0
 | [],_::_=>-1
 | _::_,[]=>1
 | a::r,b::s=>if a<b then -1 else if b<a then 1 else cmpL r s
abbrev gf (a b:List Int):Prop:=cmpL a b<0
def Fe:∀a b:List Int,cmpL a b=-1\/cmpL a b=0\/cmpL a b=1
 | [],[]=>.inr (.inl rfl)
 | [],_::_=>.inl rfl
 | _::_,[]=>.inr (.inr rfl)
 | a::r,b::s=>by rw[cmpL];split;exact .inl rfl;split;exact .inr (.inr rfl);exact Fe r s
def FW:∀a:List Int,cmpL a a=0
 | []=>rfl
 | a::r=>by rw[cmpL,iN,iN];exact FW r
def FV:∀ {a b:List Int},cmpL a b=0->a=b
 | [],[],_=>rfl
 | [],_::_,h=>by simp[cmpL] at h
 | _::_,[],h=>by simp[cmpL] at h
 | a::r,b::s,h=>by rw[cmpL] at h;split at h;cases h;split at h;cases h;rw[FV h,show a=b by omega]
def vI:∀a b:List Int,cmpL b a =-cmpL a b
 | [],[]=>rfl
 | [],_::_=>rfl
 | _::_,[]=>rfl
 | a::r,b::s=>by rw[cmpL,cmpL];by_cases h1:a<b;rw[if_neg (show ¬b<a by omega),if_pos h1,if_pos h1];rfl;by_cases h2:b<a;rw[if_pos h2,if_neg h1,if_pos h2];rw[if_neg h2,if_neg h1,if_neg h1,if_neg h2];exact vI r s
def sq:¬gf a a:=by unfold gf;rw[FW];decide
def qu:∀ {a b c:List Int},gf a b->gf b c->gf a c
 | [],[],_,h,_=>by simp[gf,cmpL] at h
 | [],_::_,[],_,h=>by simp[gf,cmpL] at h
 | [],_::_,_::_,_,_=>by simp[gf,cmpL]
 | _::_,[],_,h,_=>by simp[gf,cmpL] at h
 | _::_,_::_,[],_,h=>by simp[gf,cmpL] at h
 | a::r,b::s,c::t,h,g=>by unfold gf at h g⊢;rw[cmpL] at h g⊢;by_cases h1:a<b;by_cases g1:b<c;rw[iP];decide;rw[if_neg g1] at g;by_cases g2:c<b;rw[if_pos g2] at g;omega;rw[iP];decide;rw[if_neg h1] at h;by_cases h2:b<a;rw[if_pos h2] at h;omega;rw[if_neg h2] at h;by_cases g1:b<c;rw[iP];decide;rw[if_neg g1] at g;by_cases g2:c<b;rw[if_pos g2] at g;omega;rw[if_neg g2] at g;rw[iN,iN];exact qu (a:=r) (b:=s) (c:=t) h g
def uq(h:gf a b):¬gf b a:=fun g=>sq (qu h g)
def AK(h:gf a b):a≠b:=fun e=>by rw[e] at h;exact sq h
def qw6(a b:List Int):gf a b\/a=b\/gf b a:=by rcases Fe a b with h|h|h;exact .inl (by unfold gf;omega);exact .inr (.inl (FV h));refine .inr (.inr ?_);unfold gf;rw[vI];omega
def BQ:¬gf a b↔a=b\/gf b a:=by constructor;intro h;rcases qw6 a b with u|u|u;exact absurd u h;exact .inl u;exact .inr u;rintro (rfl|h);exact sq;exact uq h
abbrev mt (a b:List Int):Prop:=¬gf b a
def C0{c:List Int}(h:mt a b)(g:gf b c):gf a c:=by rcases BQ.1 h with u|u;rw[<- u];exact g;exact qu u g
def sQ{c:List Int}(h:gf a b)(g:mt b c):gf a c:=by rcases BQ.1 g with u|u;rw[u];exact h;exact qu h u
def BC{c:List Int}(h:mt a b)(g:mt b c):mt a c:=fun k=>by rcases BQ.1 h with u|u;subst u;exact g k;exact g (qu k u)
abbrev Key:=List Int
variable {k:Key}
abbrev gu:=List (List Int×List Int)
variable {l:gu}
def dP (l:List Key) (k:Key):Nat:=(l.takeWhile fun a=>decide (gf a k)).length
def eA (l:List Key) (k:Key):Nat:=(l.takeWhile fun a=>decide (mt a k)).length
def gg (l:List Key):Prop:=l.Pairwise gf
def qgn{α:Type}(p:α->Bool)(l:List α):(l.takeWhile p).length<=l.length:=(takeWhile_sublist p).length_le
def H7(l:List Key)(k:Key):dP l k<=l.length:=qgn _ l
def AC(l:List Key)(k:Key):eA l k<=l.length:=qgn _ l
def Hj{α:Type}(p:α->Bool):∀l:List α,l.take (l.takeWhile p).length=l.takeWhile p
 | []=>rfl
 | a::r=>by
  rw[takeWhile_cons];cases h:p a with
  | true=>simp[Hj p r]
  | false=>simp
def Fj{α:Type}{p:α->Bool}:∀ {l:List α} {x:α},x∈l.takeWhile p->p x=true
 | a::r,x,h=>by
  rw[takeWhile_cons] at h;cases u:p a with
  | true=>
   rw[u] at h;rcases zG.1 h with rfl|h;exact u;exact Fj h
  | false=>rw[u] at h;cases h
def Gp{α:Type}{p:α->Bool}:∀ {l:List α} {x:α} {r:List α},l.drop (l.takeWhile p).length=x::r->p x=false
 | a::s,x,r,h=>by
  rw[takeWhile_cons] at h;cases u:p a with
  | true=>
   rw[u] at h;exact Gp (l:=s) (oP h)
  | false=>
   rw[u] at h;simp at h;rw[<- h.1];exact u
def qsz{l:List Key}{a:Key}(h:a∈l.take (dP l k)):gf a k:=by unfold dP at h;rw[Hj] at h;exact zC (p:=gf a k) (Fj (p:=fun a=>decide (gf a k)) h)
def qoh{l:List Key}{a:Key}(h:a∈l.take (eA l k)):mt a k:=by unfold eA at h;rw[Hj] at h;exact zC (p:=mt a k) (Fj (p:=fun a=>decide (mt a k)) h)
def zi{x:Key}{r:List Key}(h:gg (x::r)):∀a∈r,gf x a:=(yJ.1 h).1
def gg.drop{l:List Key}(h:gg l)(n:Nat):gg (l.drop n):=List.Pairwise.sublist (drop_sublist n l) h
def gg.take{l:List Key}(h:gg l)(n:Nat):gg (l.take n):=List.Pairwise.sublist (take_sublist n l) h
def qrh{l:List Key}{a:Key}(E:gg l)(h:a∈l.drop (dP l k)):mt k a:=by
 have u:=E.drop (dP l k);cases e:l.drop (dP l k) with
 | nil=>rw[e] at h;cases h
 | cons x r=>
  have C:mt k x:=zB (Gp (p:=fun a=>decide (gf a k)) e);rw[e] at h u;rcases zG.1 h with rfl|h;exact C;exact BC C (uq (zi u a h))
def qmC{l:List Key}{a:Key}(E:gg l)(h:a∈l.drop (eA l k)):gf k a:=by
 have u:=E.drop (eA l k);cases e:l.drop (eA l k) with
 | nil=>rw[e] at h;cases h
 | cons x r=>
  have C:gf k x:=Classical.not_not.1 (zB (Gp (p:=fun a=>decide (mt a k)) e));rw[e] at h u;rcases zG.1 h with rfl|h;exact C;exact qu C (zi u a h)
def gj (k v:Key):gu->gu
 | []=>[(k,v)]
 | x::r=>if gf k x.1 then (k,v)::x::r else if k=x.1 then (k,v)::r else x::gj k v r
def gR (k:Key) (l:gu):gu:=l.filter fun x=>decide (x.1≠k)
abbrev dU (l:gu):List Key:=l.map (·.1)
def fH (l:gu):Prop:=gg (dU l)
def BX{k v:Key}:∀ {a:gu} {l:gu},(∀x∈a,gf x.1 k)->gj k v (a++l)=a++gj k v l
 | [],l,_=>rfl
 | x::a,l,h=>by have u:=h x oL;rw[xJ,gj,if_neg (uq u),if_neg (fun e=>AK u e.symm),BX fun y C=>h y (zN _ C),xJ]
def qmy{k v:Key}{b:gu}(h:∀x∈b,gf k x.1):∀l:gu,gj k v (l++b)=gj k v l++b
 | []=>by
  cases b with
  | nil=>rfl
  | cons x r=>
   show gj k v (x::r)=(k,v)::x::r;rw[gj,if_pos (h x oL)]
 | x::l=>by rw[xJ,gj,gj];split;rfl;split;rfl;rw[qmy h l,xJ]
def Hl{v w:Key}{a r:gu}(h:∀x∈a,gf x.1 k):gj k v (a++(k,w)::r)=a++(k,v)::r:=by rw[BX h,gj,if_neg sq,if_pos rfl]
def qwY{v:Key}{a b:gu}(h:∀x∈a,gf x.1 k)(u:∀x∈b,gf k x.1):gj k v (a++b)=a++(k,v)::b:=by
 rw[BX h];cases b with
 | nil=>rfl
 | cons x r=>rw[gj,if_pos (u x oL)]
def Ci{k v:Key}{x:Key×Key}:∀ {l:gu},x∈gj k v l->x=(k,v)\/x∈l
 | [],h=>.inl (by simpa[gj] using h)
 | y::l,h=>by rw[gj] at h;split at h;rcases zG.1 h with h|h;exact .inl h;exact .inr h;split at h;rcases zG.1 h with h|h;exact .inl h;exact .inr (zN _ h);rcases zG.1 h with h|h;exact .inr (by rw[h];simp);rcases Ci h with h|h;exact .inl h;exact .inr (zN _ h)
def Es{k v:Key}:∀ {l:gu},fH l->fH (gj k v l)
 | [],_=>pairwise_singleton _ _
 | x::l,h=>by have C:=yJ.1 (show (x.1::dU l).Pairwise gf from h);rw[gj];split;rename_i E;refine yJ.2 ⟨fun a u=>?_,h⟩;rcases zG.1 u with rfl|u;exact E;exact qu E (C.1 a u);split;rename_i E;refine yJ.2 ⟨fun a u=>?_,C.2⟩;show gf k a;rw[E];exact C.1 a u;rename_i G I;refine yJ.2 ⟨fun a u=>?_,Es C.2⟩;obtain⟨y,J,rfl⟩:=mem_map.1 u;rcases Ci J with rfl|J;rcases BQ.1 G with e|e;exact absurd e I;exact e;exact C.1 _ (zZ J)
def E3{k v:Key}:∀ {l:gu},k∉dU l->(gj k v l).length=l.length+1
 | [],_=>rfl
 | x::l,h=>by rw[gj];split;rfl;split;rename_i e;exact absurd (by rw[e];simp) h;rw[yI,E3 fun u=>h (zN _ u),yI]
def DC{k v:Key}:∀ {l:gu},fH l->k∈dU l->(gj k v l).length=l.length
 | x::l,E,h=>by have C:=yJ.1 (show (x.1::dU l).Pairwise gf from E);rw[gj];split;rename_i u;rcases zG.1 h with e|e;rw[e] at u;exact absurd u sq;exact absurd u (uq (C.1 k e));split;rfl;rename_i u;rcases zG.1 h with e|e;exact absurd e u;rw[yI,DC C.2 e,yI]
def qnY{a:gu}(h:∀x∈a,gf x.1 k):gR k (a++l)=a++gR k l:=by unfold gR;rw[xC,filter_eq_self.2];intro x u;exact yA (AK (h x u))
def qmm{b:gu}(h:∀x∈b,gf k x.1):gR k (l++b)=gR k l++b:=by unfold gR;rw[xC];congr 1;rw[filter_eq_self];intro x u;exact yA fun e=>AK (h x u) e.symm
def qyv{w:Key}{a b:gu}(h:∀x∈a,gf x.1 k)(u:∀x∈b,gf k x.1):gR k (a++(k,w)::b)=a++b:=by rw[qnY h,show (k,w)::b=[(k,w)]++b from rfl,qmm u];unfold gR;simp
def qp1(h:fH l):fH (gR k l):=List.Pairwise.sublist (List.Sublist.map _ filter_sublist) h
def Fg{x:Key×Key}:x∈gR k l↔x∈l/\x.1≠k:=by unfold gR;rw[mem_filter];simp
def fH.uC{a b:gu}:fH (a++b)↔fH a/\fH b/\∀x∈a,∀y∈b,gf x.1 y.1:=by unfold fH gg dU;rw[xN,pairwise_append];constructor;rintro⟨h,u,C⟩;exact⟨h,u,fun x E y G=>C _ (zZ E) _ (zZ G)⟩;rintro⟨h,u,C⟩;refine⟨h,u,fun a I b J=>?_⟩;obtain⟨x,E,rfl⟩:=mem_map.1 I;obtain⟨y,G,rfl⟩:=mem_map.1 J;exact C x E y G
def Ay(u:fH l):(∀x∈l.take (dP (dU l) k),gf x.1 k)/\∀x∈l.drop (dP (dU l) k),mt k x.1:=by refine⟨fun x h=>qsz (l:=dU l) ?_,fun x h=>qrh (l:=dU l) u ?_⟩;rw[<- xP];exact zZ h;rw[<- xQ];exact zZ h
def qvv{v:Key}(Q:fH l):gj k v l=if (dU l)[dP (dU l) k]?=some k then l.set (dP (dU l) k) (k,v) else l.take (dP (dU l) k)++[(k,v)]++l.drop (dP (dU l) k):=by
 obtain⟨E,R⟩:=Ay (k:=k) Q;have G:fH (l.drop (dP (dU l) k)):=(by unfold fH dU;rw[xQ];exact gg.drop Q _);generalize hi:dP (dU l) k=i at E R G;have I:l=l.take i++l.drop i:=(xE i l).symm;cases e:l.drop i with
 | nil=>
  have U:l.length<=i:=drop_eq_nil_iff.1 e;rw[if_neg (by rw[yS (by rw[zK];exact U)];simp)];conv=>lhs;rw[I,e]
  rw[BX E];simp[gj]
 | cons x r=>
  have V:=R x (by rw[e];simp);have u:i<l.length:=by rcases Nat.lt_or_ge i l.length with h|h;exact h;rw[vE h] at e;cases e
  have hg:l[i]=x:=by
   have:=zY u
   rw[e] at this;exact (vC this).1.symm
  have hr:l.drop (i+1)=r:=by
   have:=zY u
   rw[e] at this;exact (vC this).2.symm
  have J:(dU l)[i]?=some x.1:=(by rw[zQ,zA u,hg];rfl);rw[J];by_cases hk:x.1=k
  ·rw[if_pos (by rw[hk])];conv=>lhs;rw[I,e]
   obtain⟨a,w⟩:=x;dsimp only at hk;subst hk;rw[Hl E,set_eq_take_append_cons_drop,if_pos u,hr]
  ·rw[if_neg (fun h=>hk (yO h))];have C:gf k x.1:=by rcases BQ.1 V with h|h;exact absurd h hk;exact h
   conv=>lhs;rw[I,e]
   rw[qwY E];simp;intro y O;rcases zG.1 O with rfl|O;exact C;rw[e] at G;exact qu C (zi (x:=x.1) (r:=dU r) G y.1 (zZ O))
def Ag(E:fH l):(dU l)[dP (dU l) k]?=some k↔k∈dU l:=by
 constructor;exact fun h=>yF h;intro J;obtain⟨O,Q⟩:=Ay (k:=k) E;obtain⟨x,C,rfl⟩:=mem_map.1 J;have u:x∈l.drop (dP (dU l) x.1):=by rw[<- xE (dP (dU l) x.1) l,zD] at C;rcases C with C|C;exact absurd (O x C) sq;exact C
 have G:fH (l.drop (dP (dU l) x.1)):=(by unfold fH dU;rw[xQ];exact gg.drop E _);cases e:l.drop (dP (dU l) x.1) with
 | nil=>rw[e] at u;cases u
 | cons y r=>
  have R:=Q y (by rw[e];simp);rw[e] at u G;have U:y.1=x.1:=by rcases zG.1 u with rfl|u;rfl;exact absurd (zi (x:=y.1) (r:=dU r) G x.1 (zZ u)) R
  have I:(l.drop (dP (dU l) x.1))[0]?=some y:=(by rw[e];rfl);rw[xA] at I;rw[zQ,show l[dP (dU l) x.1]?=some y by simpa using I,<- U];rfl
def qnZ(C:fH l)(J:k∈dU l):gR k l=l.take (dP (dU l) k)++l.drop (dP (dU l) k+1):=by
 have u:=(Ag C).2 J;obtain⟨I,O⟩:=Ay (k:=k) C;generalize dP (dU l) k=i at I O u;have h:i<l.length:=by
  have:=(zP.1 u).1
  simpa using this
 have Q:l=l.take i++l[i]::l.drop (i+1):=(by rw[<- zY h,xE]);have E:l[i].1=k:=(by rw[zQ,zA h] at u;exact yO u);have G:fH (l.drop i):=(by unfold fH dU;rw[xQ];exact gg.drop C _);rw[zY h] at G;conv=>lhs;rw[Q]
 obtain⟨a,w,e⟩:∃a w,l[i]=(a,w):=⟨_,_,rfl⟩;rw[e] at E G⊢;dsimp only at E;subst E;exact qyv I fun y R=>zi (x:=a) (r:=dU (l.drop (i+1))) G y.1 (zZ R)
def ue (t:Int):Int×Int:=
 if t=0 then (16,88) else if t=1 then (16,108) else if t=2 then (16,1) else if t=3 then (16,16)
 else if t=4 then (24,16) else if t=5 then (24,16) else if t=6 then (24,65) else if t=7 then (1,8) else (0,0)
def qxK(t:Int):t=0\/t=1\/t=2\/t=3\/t=4\/t=5\/t=6\/t=7\/(t≠0/\t≠1/\t≠2/\t≠3/\t≠4/\t≠5/\t≠6/\t≠7):=by omega
def qrE{t:Int}{w:World}(h:K (ue t) w):cW 115 [.i t] dl w K:=by apply qrk;rcases qxK t with rfl|rfl|rfl|rfl|rfl|rfl|rfl|rfl|⟨u,C,E,G,I,J,O,Q⟩<;>simpa[ue, *] using h
def uJ (k v:Int):Int×Int:=if k<1\/k>24\/v<0\/v>108 then (0,0) else (498 / (k+v),(498+k) / (4+k))
def qzw{k v:Int}{w:World}(h:∀w',qo w w'->K (uJ k v) w'):cW 126 [.i k,.i v] dl w K:=by
 apply qsn;by_cases hc:k<1\/k>24\/v<0\/v>108;refine tN true w (fun M u=>?_) ?_;by_cases h1:k<1;simpa[h1] using u;by_cases h2:k>24;simpa[h1,h2] using u;by_cases h3:v<0;simpa[h1,h2,h3] using u;have C:v>108:=oJ;simpa[h1,h2,h3,C] using u
 have:=h w (.refl w)
 simpa[uJ,hc] using this;refine tN false w (fun M u=>?_) ?_;simpa[show ¬k<1 by omega,show ¬k>24 by omega,show ¬v<0 by omega,show ¬v>108 by omega] using u
 have:=h w.drew (qo.refl w).drew
 simp only[uJ,hc,if_false] at this;have e1:IntKind.i64.wrap (k+v)=k+v:=IntWalk.i64_in _ oJ;have E:IntKind.i64.wrap (4+k)=4+k:=IntWalk.i64_in _ oJ;have G:IntKind.i64.wrap (498+k)=498+k:=IntWalk.i64_in _ oJ;have O:0<k+v:=oJ;have Q:0<4+k:=oJ;have I:(498:Int).tdiv (k+v)=498 / (k+v):=Int.tdiv_eq_ediv_of_nonneg oJ;have J:(498+k).tdiv (4+k)=(498+k) / (4+k):=Int.tdiv_eq_ediv_of_nonneg oJ;have R:498 / (k+v)<=498:=Int.ediv_le_self _ oJ;have U:(498+k) / (4+k)<=498+k:=Int.ediv_le_self _ oJ;have V:0<=498 / (k+v):=Int.ediv_nonneg oJ oJ;have b4:0<=(498+k) / (4+k):=Int.ediv_nonneg oJ oJ;rw[e1,E,G,I,J,IntWalk.i64_in _ ⟨oJ,oJ⟩,IntWalk.i64_in _ ⟨oJ,oJ⟩];exact⟨oJ,oJ,this⟩
abbrev BP (t:Int):Prop:=0<=t/\t<=7
end
section
open Go Go.Pt List
open Go.IntKind (wrap)
attribute [local irreducible] ld dK ic nK jx eT st new idx jK jF fV jI jl mp gK nn call dW inv run fl jf join loop held ext kW eU m8 nQ nT IntKind.wrap
variable {B F F1 F2 S X:List Nat} {K:Int->WP} {L:List (Nat×Obj)} {T:TypeId} {body c l t:List Int} {db:Option Addr} {defb fb mb pb r:Nat} {f:Nat->Int} {n q:Int} {s sl sn:Sl} {w w' w0:World}
def gG (n:Nat):Nat:=if n=0 then 0 else (n-1) / 124+1
def qx1{n:Nat}(E:n<=1000000)(h:K (gG n) w):cW 141 [.i n] de w K:=by
 refine qnd ?_;apply cD<;>intro u
 have:=u
 have C:n=0:=oJ;subst C;exact h
 have:=u
 have C:n≠0:=oJ;rw[gG,if_neg C] at h;rw[gd ((n:Int)-1) oJ];have e:Int.tdiv ((n:Int)-1) 124=(((n-1) / 124:Nat):Int):=(by rw[Int.tdiv_eq_ediv_of_nonneg oJ];omega);rw[e,gd (((n-1) / 124:Nat):Int) oJ,gd ((((n-1) / 124:Nat):Int)+1) oJ];exact h
def jg:Int->List Int->Bool
 | _,[]=>true
 | a,x::r=>decide (a<x)&&jg x r
def qsL{K:Bool->WP}(h:Rd S w s l)(R:l.length<=1000000)(G:K (jg 1 l) w): cW 205 [s.v] df w K:=by
 refine ql4 ?_;have O:=h.1;refine jT (fun x w'=>w'=w/\∃i:Nat,x.2=i/\i<=l.length/\jg x.1 (l.drop i)=jg 1 l) (fun x _=>((l.length:Int)-x.2).toNat) ⟨rfl,0,rfl,oJ,oL⟩ ?_;rintro⟨a,ii⟩ w' ⟨rfl,i,E,U,C⟩ X Q;simp only at E C;subst E;apply cD<;>intro I;have u:i<l.length:=oJ;refine Rd.at h i rfl (zA u) ?_;rw[zY u,jg] at C;apply cD<;>intro J
 have:=J
 rw[show decide (a<l[i])=false by rw[decide_eq_false_iff_not];omega,Bool.false_and] at C;rw[<- C] at G;exact G
 have:=J
 rw[show decide (a<l[i])=true by rw[yN];omega,Bool.true_and] at C;rw[gd _ oJ];exact Q _ _ ⟨rfl,i+1,oL,oJ,C⟩ oN;have u:i=l.length:=oJ;subst u;rw[drop_length] at C;rw[<- C] at G;exact G
def qzS(n:Int):gW n 0=wrap .u8 n:=by
 unfold gW;have:Int.fdiv n (2^min (8*0) 32)=n:=by show Int.fdiv n (2^0)=n;simp
 rw[this]
def qqF{K:Sl->WP}(h:gF w s l B)(hl:l.length<=1000000)(V:∀C B' w',gF w' C (l++be n 4) B'->Fr B w w'->(∀b∈B',b∈B\/w.heap.size<=b)->K C w'): new (.cells #[.b (wrap .u8 (Int.fdiv n (2^24))),.b (wrap .u8 (Int.fdiv n (2^16))),.b (wrap .u8 (Int.fdiv n (2^8))),.b (wrap .u8 n)] 5) w fun r w2=> Pt.run dd ((Builtin.append_ #[96,96] 96 #[s.v,.slice (pW r) 4 4]).run prog w2) fun C w'=>K C w':=by obtain⟨i5,E,hz,G,I⟩:=xn;refine oB (oE [] w) fun r w1 e1 J ho=>?_;have O:be n 4=[gW n 3,gW n 2,gW n 1,gW n 0]:=rfl;have ac:=J.size;refine eZ.j0 (ys:=be n 4) (e:=5) (h.q7 J) lZ oK E hz G rfl (.ofSlice _ (e':=5) oK _ 4 4 _ (by rw[sR];simp[kZ]) (fun j u R=>?_) (fun u U=>?_)) (kZ n 4).symm (by rw[I];omega) oJ fun C B' w' g1 g2 g3 _=>?_;rw[Addr.q9,kj (ho.at (i:=0) rfl),xS];rw[sR,O,qzS] at R;rw[List.getElem?_toArray];exact R;rw[sR] at U;obtain⟨x,_,rfl⟩:=mem_map.1 U;rfl;refine V C B' w' g1 ((J.mono (fun i E _=>by cases E)).j6 g2 (fun b Q=>.inl Q)) (fun b Q=>?_);rcases g3 b Q with h|h;exact .inl h;exact .inr oJ
def qug{K:Sl->WP}(h:gF w s l B)(E:l.length<=1000000)(G:∀C B' w',gF w' C (l++be n 4) B'->Fr B w w'->(∀b∈B',b∈B\/w.heap.size<=b)->K C w'): cW 207 [s.v,.u n] dd w K:=by exact qn8<|qqF h E G
def Hm{A B:Int}(k:Nat)(G:0<=A)(C:A%2^k=0)(I:0<=B)(h:B<2^k)(J:A+B<4294967296):bits .or .u32 A B=A+B:=by
 obtain⟨a,rfl⟩:∃a:Nat,A=a:=⟨A.toNat,oJ⟩;obtain⟨b,rfl⟩:∃b:Nat,B=b:=⟨B.toNat,oJ⟩;have E:a%2^k=0:=by have:((a:Int)%((2^k:Nat):Int))=0:=(by rw[Int.natCast_pow];exact C);omega
 have u:b<2^k:=(by have:(b:Int)<((2^k:Nat):Int):=(by rw[Int.natCast_pow];exact h);omega);obtain⟨q,rfl⟩:∃q,a=2^k*q:=⟨a / 2^k,by have:=Nat.div_add_mod a (2^k);omega⟩;show wrap .u32 ((BitVec.ofInt 32 ((2^k*q:Nat):Int)||| BitVec.ofInt 32 (b:Int)).toNat:Nat)=_;rw[BitVec.toNat_or,BitVec.ofInt_natCast,BitVec.ofInt_natCast,BitVec.toNat_ofNat,BitVec.toNat_ofNat,Nat.mod_eq_of_lt (show 2^k*q<2^32 by omega),Nat.mod_eq_of_lt (show b<2^32 by omega),<- Nat.two_pow_add_eq_or_of_lt u];rw[pa _ oJ];omega
def pN (a b c d:Int):Int:=bits .or .u32 (bits .or .u32 (bits .or .u32 (wrap .u32 (wrap .u32 a*2^24)) (wrap .u32 (wrap .u32 b*2^16))) (wrap .u32 (wrap .u32 c*2^8))) (wrap .u32 d)
def qr6{a b c d:Int}(h:0<=a/\a<256)(u:0<=b/\b<256)(C:0<=c/\c<256)(E:0<=d/\d<256):pN a b c d=((a*256+b)*256+c)*256+d:=by unfold pN;rw[pa a oJ,pa b oJ,pa c oJ,pa d oJ,pa (a*2^24) oJ,pa (b*2^16) oJ,pa (c*2^8) oJ];rw[Hm (A:=a*2^24) (B:=b*2^16) 24 oJ oJ oJ oJ oJ];rw[Hm (B:=c*2^8) 16 oJ oJ oJ oJ oJ];rw[Hm (B:=d) 8 oJ oJ oJ oJ oJ];omega
def qyk(h:0<=n/\n<4294967296):pN (n / 16777216%256) (n / 65536%256) (n / 256%256) (n%256)=n:=by rw[qr6 oJ oJ oJ oJ];omega
def fO (l:List Int):Int:=pN (l.getD 0 0) (l.getD 1 0) (l.getD 2 0) (l.getD 3 0)
def getD_some{n:Nat}(h:n<l.length):l[n]?=some (l.getD n 0):=by rw[yR,zA h];rfl
def qwP(h:eF S w s l)(J:4<=l.length)(u:K (fO l) w): (idx s 0 1 fun a=>ld .b a w fun C=>idx s 1 1 fun a=>ld .b a w fun E=>idx s 2 1 fun a=>ld .b a w fun G=>idx s 3 1 fun a=>ld .b a w fun I=>K (pN C E G I) w):=by exact eF.at h 0 rfl (getD_some oJ)<|eF.at h 1 rfl (getD_some oJ)<|eF.at h 2 rfl (getD_some oJ)<|eF.at h 3 rfl (getD_some oJ)<|u
def quf(h:eF S w s l)(C:4<=l.length)(E:K (fO l) w.drew):cW 211 [s.v] dq w K:=by exact qn7<|qwP (w:=w.drew) h C E
def qsu{A B:Int}(k:Nat)(G:0<=A)(C:A%2^k=0)(I:0<=B)(h:B<2^k)(J:A+B<4294967296):bits .or .i64 A B=A+B:=by
 obtain⟨a,rfl⟩:∃a:Nat,A=a:=⟨A.toNat,oJ⟩;obtain⟨b,rfl⟩:∃b:Nat,B=b:=⟨B.toNat,oJ⟩;have E:a%2^k=0:=by have:((a:Int)%((2^k:Nat):Int))=0:=(by rw[Int.natCast_pow];exact C);omega
 have u:b<2^k:=(by have:(b:Int)<((2^k:Nat):Int):=(by rw[Int.natCast_pow];exact h);omega);obtain⟨q,rfl⟩:∃q,a=2^k*q:=⟨a / 2^k,by have:=Nat.div_add_mod a (2^k);omega⟩;show wrap .i64 ((BitVec.ofInt 64 ((2^k*q:Nat):Int)||| BitVec.ofInt 64 (b:Int)).toNat:Nat)=_;rw[BitVec.toNat_or,BitVec.ofInt_natCast,BitVec.ofInt_natCast,BitVec.toNat_ofNat,BitVec.toNat_ofNat,Nat.mod_eq_of_lt (show 2^k*q<2^64 by omega),Nat.mod_eq_of_lt (show b<2^64 by omega),<- Nat.two_pow_add_eq_or_of_lt u];rw[gd _ oJ];omega
def lh (l:List Int):Int:=l.getD 4 0*256+l.getD 5 0
def kS (l:List Int) (n:Nat):List Int:=(List.range n).map fun i=>fO (l.drop (6+4*i))
def iS (l:List Int):Int×List Int×Int:=
 if l.length<6 then (0,[],2) else
 if fO l=1\/lh l>123\/(l.length:Int)≠6+4*lh l then (0,[],2) else
 if jg 1 (kS l (lh l).toNat) then (fO l,kS l (lh l).toNat,0) else (0,[],2)
def qwb{K:Int×Sl×Int->WP}(h:eF S w s l)(hB:eS l)(hl:l.length<=100000)(hk:∀s' B w',ru w' s' (iS l).2.1 B->Fr [] w w'->(∀b∈B,w.heap.size<=b)->K ((iS l).1,s',(iS l).2.2) w'): cW 178 [s.v] dF w K:=by
 refine ql2 ?_;have I:=h.1;have O:∀ {e:Int} {w':World},iS l=(0,[],e)->Fr [] w w'->K (0,dI,e) w':=by
  intro e w' he hf
  have:=hk dI [] w' (by rw[he];exact .nil _ _ _) hf oL
  rw[he] at this;exact this
 apply eH<;>intro C
 have:=zC C
 exact O (by rw[iS,iP]) (.refl _ _);have h6:¬l.length<6:=(by have:=zB C;omega);have fd:Fr [] w w.drew:=(Fr.refl _ _).drew;have E:Fr [] w w.drew.drew:=fd.drew;obtain⟨_,b4,o4,ai,aH,aj,T4,aI,U,ak⟩:=dX.at h 4 (getD_some (l:=l) (n:=4) oJ);obtain⟨_,b5,o5,al,aJ,am,T5,aK,V,an⟩:=dX.at h 5 (getD_some (l:=l) (n:=5) oJ);have g4:aj[o4+4]?=some (.b (l.getD 4 0)):=(by have:=congrArg (·[0]?) ak;simpa using this);have g5:am[o5+5]?=some (.b (l.getD 5 0)):=(by have:=congrArg (·[0]?) an;simpa using this);have c4:∀ {w':World},Fr [] w w'->w'.cell? ⟨b4,o4+Int.toNat 4*1,none⟩=some (.b (l.getD 4 0)):=fun f=>by rw[kj (by rw[f.block b4 (fJ U) oL];exact U)];exact g4
 have c5:∀ {w':World},Fr [] w w'->w'.cell? ⟨b5,o5+Int.toNat 5*1,none⟩=some (.b (l.getD 5 0)):=fun f=>by rw[kj (by rw[f.block b5 (fJ V) oL];exact V)];exact g5
 refine rM ai ⟨oJ,oJ⟩<|qI (l.getD 4 0) (c4 fd)<|rM al ⟨oJ,oJ⟩<|qI (l.getD 5 0) (c5 fd)<|quf (w:=w.drew) (S:=S) h oJ<|ka (c5 E) (c4 E) ?_;have r4:0<=l.getD 4 0/\l.getD 4 0<256:=hB _ (yF (getD_some (l:=l) (n:=4) oJ));have r5:0<=l.getD 5 0/\l.getD 5 0<256:=hB _ (yF (getD_some (l:=l) (n:=5) oJ));have aa:bits .or .i64 (wrap .i64 (wrap .i64 (l.getD 4 0)*2^8)) (wrap .i64 (l.getD 5 0))=lh l:=by rw[gd (l.getD 4 0) oJ,gd (l.getD 5 0) oJ,gd (l.getD 4 0*2^8) oJ,qsu 8 oJ oJ oJ oJ oJ];rfl
 have aF:0<=lh l/\lh l<65536:=(by unfold lh;omega);rw[aa];refine iQ (fun b w'=>b=decide (fO l=1\/lh l>123\/(l.length:Int)≠6+4*lh l)/\w'=w.drew.drew) ?_ ?_;apply eH<;>intro C;exact⟨by rw[yA (Or.inl (oP C))],rfl⟩;have ao:¬fO l=1:=(oP C);apply cD<;>intro Q;exact⟨by rw[yA (Or.inr (Or.inl (Q)))],rfl⟩;have ab:¬lh l>123:=Q;refine⟨?_,rfl⟩;rw[gd (4*lh l) oJ,gd (6+4*lh l) oJ,I];by_cases h3:(l.length:Int)=6+4*lh l<;>simp[ao,ab,h3];rintro b w1 ⟨rfl,rfl⟩;refine eH (fun C=>O (by rw[iS,if_neg h6,if_pos (zC C)]) E) (fun C=>?_);have R:=zB C;have ac:lh l<=123:=by rcases Int.lt_or_le 123 (lh l) with h|h;exact absurd (Or.inr (Or.inl h)) R;exact h
 have ap:(l.length:Int)=6+4*lh l:=Classical.byContradiction fun h=>R (Or.inr (Or.inr h));have pv:iS l=if jg 1 (kS l (lh l).toNat) then (fO l,kS l (lh l).toNat,0) else (0,[],2):=by rw[iS,if_neg h6,if_neg R]
 obtain⟨n,hn⟩:∃n:Nat,lh l=n:=⟨(lh l).toNat,oJ⟩;rw[hn] at ac ap pv⊢;rw[zJ] at pv;refine jT (fun x w'=>∃(i:Nat) (B:List Nat),x.2=i/\i<=n/\ru w' x.1 (kS l i) B/\Fr [] w w'/\∀b∈B,w.heap.size<=b) (fun x _=>((n:Int)-x.2).toNat)
  ⟨0,[],rfl,oJ,.nil _ _ _,E,oL⟩ ?_
 rintro⟨s1,ii⟩ w2 ⟨i,B,ad,hi,J,f2,n2⟩ X hX;simp only at ad J;subst ad;apply cD<;>intro C;have ae:i<n:=oJ;rw[gd (4*(i:Int)) oJ,gd (6+4*(i:Int)) oJ];have h2:eF S w2 s l:=h.q7 f2;refine dX.part h2 (6+4*i) l.length oL (by rw[I];rfl) oJ oJ fun s3 l3 r3 _=>?_;rw[xZ] at r3;refine quf r3 (by rw[yC];omega) ?_;have af:Fr [] w w2.drew:=f2.drew;refine qzu (w:=w2.drew) (B:=B) J (by simp[kS];omega) fun s4 B4 w4 g1 g2 g3=>?_;rw[gd _ oJ];have aW:=af.size;refine hX _ _ ⟨i+1,B4,oL,oJ,?_,af.j6 g2 (fun b J=>.inr (n2 b J)),fun b J=>?_⟩ oN;have:kS l (i+1)=kS l i++[fO (l.drop (6+4*i))]:=(by simp[kS,range_succ]);rw[this];exact g1;rcases g3 b J with h|h;exact n2 b h;omega;have ae:i=n:=oJ;subst ae;refine qsL (S:=[]) (J.kF ug oL) (by simp[kS];omega) ?_;apply eH<;>intro hr;have G:¬jg 1 (kS l i)=true:=(oP hr);exact O (by rw[pv,if_neg G]) f2;have G:jg 1 (kS l i)=true:=by simpa using hr
 have:=hk s1 B w2 (by rw[pv,if_pos G];exact J) f2 n2
 rw[pv,if_pos G] at this;exact this
def uL:Sl->List Value:=fun s=>[s.v]
def qrS:∀x,(uL x).length=1:=fun _=>rfl
def qBo:∃i,prog.info? 96=some i/\i.zero=some (.slice none 0 0)/\i.size=1/\i.bytes=24:=uj oK
def jV (S:List Nat) (w:World) (s:Sl) (u:List (List Int)) (B:List Nat):Prop:=
 ∃h:List Sl,eZ uL 1 w s h B/\h.length=u.length/\∀(i:Nat) sl l,h[i]?=some sl->u[i]?=some l->eF (S++B) w sl l
def jV.nil(S:List Nat)(w:World):jV S w dI [] []:=⟨[],.nil _ _ _,rfl,fun i sl l h=>by simp at h⟩
def jV.q8{S S':List Nat}{w w':World}{s:Sl}{G:List (List Int)}{B:List Nat}(h:jV S w s G B)(f:Fr S w w')(I:∀b∈B,b∉S)(C:∀b∈S',b∈S\/w.heap.size<=b):jV S' w' s G B:=by obtain⟨E,J,O,Q⟩:=h;refine⟨E,J.q8 f I,O,fun i sl l R U=>(Q i sl l R U).q8 (f.mono fun b u _=>zH _ u) fun b u=>?_⟩;rcases zD.1 u with u|u;rcases C b u with h|h;exact .inl (zH _ h);exact .inr h;exact .inl (zI _ u)
def jV.push{S:List Nat}{w:World}{s sl:Sl}{J:List (List Int)}{B:List Nat}{l:List Int}{T:TypeId}{K:Sl->WP}(h:jV S w s J B)(hr:eF (S++B) w sl l)(hl:J.length<=1000000)(kk:∀I B' w',jV S w' I (J++[l]) B'->Fr B w w'->(∀b∈B',b∈B\/w.heap.size<=b)->K I w'): Pt.new (.cells #[sl.v] T) w fun r w1=>Pt.run dd ((Builtin.append_ #[173,173] 173 #[s.v,.slice (pW r) 1 1]).run prog w1) K:=by
 obtain⟨i,hi,hz,O,Q⟩:=qBo;obtain⟨G,h1,R,h3⟩:=h;refine eZ.push (e:=96) (x:=sl) h1 qrS (by simp[uL,Value.oneCell']) oK hi hz O rfl rfl (by rw[Q];omega) oJ fun I B' w' b' U n'=>kk I B' w' ⟨_,b',by simp[R],fun j sj lj C u=>?_⟩ U n';have V:∀b∈S++B',b∈S++B\/w.heap.size<=b:=fun b E=>by rcases zD.1 E with E|E;exact .inl (zH _ E);rcases n' b E with h|h;exact .inl (zI _ h);exact .inr h
 have hf:Fr (S++B) w w':=U.mono fun b E _=>zI _ E;by_cases hjl:j<G.length;rw[yZ hjl] at C;rw[yZ oJ] at u;exact (h3 j sj lj C u).q8 hf V;by_cases hje:j=G.length;subst hje;rw[yY (zM _),Nat.sub_self] at C;rw[R,yY (zM _),Nat.sub_self] at u;simp at C u;subst C u;exact hr.q8 hf V;rw[yS (by rw[zF];simp;omega)] at C;cases C
def jD (next:Int) (c:List Int):List Int:=be next 4++[wrap .u8 (Int.fdiv c.length (2^8)),wrap .u8 c.length]++c.flatMap (be · 4)
def ir (numbers y5:List Int) (k:Nat):List (List Int):=(List.range k).map fun i=>jD (y5.getD (i+1) 0) ((numbers.drop (123*i)).take 123)
def gS (numbers y5:List Int):List (List Int)×Int:=
 if jg 1 numbers=false\/numbers.length>123*y5.length then ([],1) else if ∃p∈y5,p<2 then ([],1) else (ir numbers y5 y5.length,0)
def qya{K:Value->WP}(E:∀u C w',Fr [] w w'->(∀S w0 L,dR S w0 w L->dR S w0 w' ((u,.cells #[.i n] 3 (0,0))::(C,.cells #[s.v] 174 (0,0))::L))->K (.func (.func 235) #[] #[dH u,dH C]) w'): cW 206 [s.v,.i n] dv w K:=by exact ql3<|Pt.Fa<|Pt.Fa<|E _ _ _ (((Fr.refl [] w).alloc _).alloc _) fun S w0 L h=>(h.alloc _).alloc _
def Cy:∀l:List Int,(l.flatMap (be · 4)).length=l.length*4
 | []=>rfl
 | x::l=>by rw[yH,zF,kZ,Cy l,yI];omega
def qAy(a b:Int):([a,b]:List Int).length=2:=rfl
def quR{G:List Nat}{sp:Sl}{numbers y5:List Int}{K:Sl×Int->WP}(hn:Rd S w sn numbers)(U:Rd S w sp y5)(b2:numbers.length<=100000)(b3:y5.length<=100000)(hG:∀b∈G,b<w.heap.size)(hk:∀s' B w',jV G w' s' (gS numbers y5).1 B->Fr [] w w'->(∀b∈B,w.heap.size<=b)->K (s',(gS numbers y5).2) w'): cW 174 [sn.v,sp.v] dg w K:=by
 refine qkB ?_;have bi:=hn.1;have bj:=U.1;have aU:∀ {w':World},gS numbers y5=([],1)->Fr [] w w'->K (dI,1) w':=by
  intro w' he hf
  have:=hk dI [] w' (by rw[he];exact .nil _ _) hf oL
  rw[he] at this;exact this
 refine oB (oE [] w) fun r1 w1 e1 f1 ho=>?_;have bk:Rd S w1 sn numbers:=hn.q7 ho.fr;have bl:Rd S w1 sp y5:=U.q7 ho.fr;refine iQ (fun b w'=>b=decide (jg 1 numbers=false\/numbers.length>123*y5.length)/\w'=w1) ?_ ?_;refine qsL bk oJ ?_;apply eH<;>intro hc;have hr:jg 1 numbers=false:=(oP hc);exact⟨by rw[yA (Or.inl hr)],rfl⟩;have hr:jg 1 numbers=true:=(oP hc);refine oA ho 0 rfl sp rfl ⟨?_,rfl⟩;rw[gd (123*(sp.len:Int)) oJ,bi,bj];have e:decide ((numbers.length:Int)>123*(y5.length:Int))=decide (numbers.length>123*y5.length):=by by_cases h:numbers.length>123*y5.length;rw[yA h,yA];omega;rw[zU h,zU];omega
 rw[e];by_cases h:numbers.length>123*y5.length<;>simp[hr,h];rintro b w2 ⟨rfl,rfl⟩;refine eH (fun hc=>aU (by rw[gS,if_pos (zC hc)]) ho.fr) (fun hc=>?_);have aV:=zB hc;refine oA ho 0 rfl sp rfl<|jT (fun x w'=>w'=w2/\∃i:Nat,x.2.2=i/\i<=y5.length/\∀p∈y5.take i,¬p<2) (fun x _=>((y5.length:Int)-x.2.2).toNat) ⟨rfl,0,rfl,oJ,oL⟩ ?_;rintro⟨sx,ex,ii⟩ w3 ⟨rfl,i,aW,hi,ao⟩ X hX;simp only at aW;subst aW;dsimp only;apply cD<;>intro hc;have ap:i<y5.length:=oJ;refine Rd.at bl i rfl (zA ap) ?_;apply cD<;>intro hx;exact aU (by rw[gS,if_neg aV,if_pos ⟨y5[i],zX ap,hx⟩]) ho.fr;rw[gd _ oJ];refine hX _ _ ⟨rfl,i+1,oL,oJ,fun p U=>?_⟩ oN;rw[yG ap] at U;rcases zD.1 U with U|U;exact ao p U;simp at U;subst U;exact hx;have ap:i=y5.length:=oJ;subst ap;rw[xZ] at ao;have bp:gS numbers y5=(ir numbers y5 y5.length,0):=by rw[gS,if_neg aV,if_neg];rintro⟨p,U,h2⟩;exact ao p U h2
 rw[bp] at hk;refine oB ho fun ro w4 eo fo ho=>oA ho 1 rfl sp rfl<|qya fun rp rl w5 f5 aX=>?_;have bt:=aX _ _ _ ho;refine dR.kW (lb:=[dH rp,dH rl]) bt rfl oK fun Dm l R Bz J E E0 w6 el eD b5 aY hy=>qi3<|oA aY 2 rfl sp.len rfl<|jT (fun x w'=>∃(j:Nat) (cl so:Sl) (Bo:List Nat),x=j/\j<=y5.length/\Rd [] w cl (numbers.drop (123*j))/\jV ([l,Dm,rp,rl,ro,r1]++G) w' so (ir numbers y5 j) Bo/\(∀b∈Bo,w.heap.size<=b/\b∉[l,Dm,rp,rl,ro,r1])/\
   dR [] w w' [(l,R),(Dm,.deferred (some [])),(rp,.cells #[.i sp.len] 3 (0,0)),(rl,.cells #[cl.v] 174 (0,0)),(ro,.cells #[so.v] 173 (0,0)),(r1,.cells #[sp.v] 174 (0,0))]) (fun x _=>((y5.length:Int)-x).toNat)
  ⟨0,sn,dI,[],rfl,oJ,hn.j4 (fun b C=>by cases C),.nil _ _,oL,aY⟩ ?_
 rintro x w7 ⟨j,cl,so,Bo,rfl,hj,aI,aq,al,aa⟩ X hX;have ai:∀b∈Bo,b∉[l,Dm,rp,rl,ro,r1]++G:=fun b C O=>by
  rcases zD.1 O with O|O;exact (al b C).2 O
  have:=hG b O;have:=(al b C).1;omega
 have bv:=aI.1;rw[yC] at bv;apply cD<;>intro hc
 ·have b7:j<y5.length:=oJ;refine oA aa 3 rfl cl rfl<|oA aa 3 rfl cl rfl ?_;obtain⟨m,O,V⟩:∃m:Nat,(if (123:Int)<(cl.len:Int) then 123 else (cl.len:Int))=m/\m=Nat.min 123 cl.len:=(by by_cases h:123<cl.len;exact⟨123,by rw[iP];rfl,(xR oJ).symm⟩;exact⟨cl.len,by rw[iN],(Nat.min_eq_right oJ).symm⟩);rw[O];have bx:m<=123:=(by rw[V];exact Nat.min_le_left _ _);have bT:m<=cl.len:=(by rw[V];exact Nat.min_le_right _ _);refine dX.part aI 0 m rfl rfl oJ (by rw[yC];omega) fun cs bU aA _=>?_;rw[xF] at aA;have aj:(numbers.drop (123*j)).take m=(numbers.drop (123*j)).take 123:=(by by_cases h:123<cl.len;rw[V];congr 1;exact xR oJ;have:m=cl.len:=(by rw[V];exact Nat.min_eq_right oJ);rw[this,zS (by rw[yC];omega),zS (by rw[yC];omega)]);generalize bz:(numbers.drop (123*j)).take m=chunk at aA aj;have aZ:chunk.length=m:=(by rw[<- bz,yL,yC];omega);have aG:cs.len=m:=oJ;refine hy ((j:Int),cs) w7 _ (aa.at (i:=0) rfl) ?_;dsimp only;refine⟨aa.at (i:=0) rfl,?_⟩;have I:=aa.i8 (o':=Bz) 0 rfl;have Q:=I.wI [];have a0:Rd [] (Pt.i8 w7 l Bz) sp y5:=(U.j4 (fun b C=>by cases C)).q7 I.fr;have ar:jV ([l,Dm,rp,rl,ro,r1]++G) (Pt.i8 w7 l Bz) so (ir numbers y5 j) Bo:=aq.q8 ((vL (fJ (aa.at (i:=0) rfl)) Bz).mono fun b C _=>by simp at C;subst C;simp) ai (fun b C=>.inl C);have a1:=aq.choose_spec.1.lt;refine iQ (fun x w'=>x=y5.getD (j+1) 0/\w'=Pt.i8 w7 l Bz) ?_ ?_;refine oA Q 5 rfl sp rfl ?_;rw[gd ((j:Int)+1) oJ];apply cD<;>intro aJ;have h2:j+1<y5.length:=oJ;exact oA Q 5 rfl sp rfl<|Rd.at a0 (j+1) oJ (getD_some h2)<|⟨rfl,rfl⟩;have h2:¬j+1<y5.length:=oJ;exact⟨by rw[yR,yS oJ];rfl,rfl⟩;rintro x w8 ⟨rfl,rfl⟩;generalize bA:y5.getD (j+1) 0=next
  have hW:(Pt.i8 w7 l Bz).heap.size=w7.heap.size:=vJ _ _ _;generalize ca:Pt.i8 w7 l Bz=w8 at I Q a0 hW ar;have bV:Rd [] w8 cs chunk:=aA.q7 I.fr;have ak:∀p∈[l,Dm,rp,rl,ro,r1],p<w8.heap.size:=fun p U=>by have am:=fun (k:Nat) (q:Nat×Obj) (hq:_[k]?=some q)=>fJ (I.at (i:=k) hq);simp only[zG,xX,or_false] at U;rcases U with rfl|rfl|rfl|rfl|rfl|rfl;exact am 0 _ rfl;exact am 1 _ rfl;exact am 2 _ rfl;exact am 3 _ rfl;exact am 4 _ rfl;exact am 5 _ rfl
  obtain⟨i5,bB,bC,a2,a3⟩:=xn;refine qug (s:=dI) (l:=[]) (B:=[]) (.nil _ _ _) oL fun s9 B9 w9 b9 f9 n9=>?_;rw[xI] at b9;have Q:=Q.q7 f9;refine oB Q fun r2 ce cf a4 Q=>?_;have aL:∀b∈B9,w8.heap.size<=b:=fun b C=>by rcases n9 b C with h|h;cases h;exact h
  refine eZ.j0 (ys:=[wrap .u8 (Int.fdiv chunk.length (2^8)),wrap .u8 chunk.length]) (e:=5) (b9.q7 a4) lZ oK bB bC a2 rfl (.ofSlice _ (e':=5) oK _ 2 2 _ (by rw[sR];rfl) (fun q u hq=>?_) (fun u hu=>?_)) rfl (by rw[a3,kZ];decide) (by rw[kZ];decide) fun cg a5 ch bE bF bG _=>?_;rw[Addr.q9,kj (Q.at (i:=0) rfl),xS,aG,<- aZ];rw[sR] at hq;rw[List.getElem?_toArray];exact hq;rw[sR] at hu;obtain⟨x,_,rfl⟩:=mem_map.1 hu;rfl;have ci:=f9.size;have bY:=a4.size;have bH:=b9.lt;have Q:=(Q.sub (sublist_cons_self _ _)).q8 bF (fun b C=>.inr (aL b C)) (fun p U C=>by have h1:=ak p.1 (zZ (f:=(·.1)) U);have h2:=aL _ C;omega);have a6:∀b∈a5,w8.heap.size<=b:=fun b C=>by rcases bG b C with h|h;exact aL b h;omega
  refine jT (fun x w'=>∃(q:Nat) (Bq:List Nat),x.2=q/\q<=m/\gF w' x.1 (be next 4++[wrap .u8 (Int.fdiv chunk.length (2^8)),wrap .u8 chunk.length]++(chunk.take q).flatMap (be · 4)) Bq/\(∀b∈Bq,w8.heap.size<=b)/\
    dR ([l,Dm,rp,rl,ro,r1]++[]) w8 w' [(l,Bz),(Dm,.deferred (some [])),(rp,.cells #[.i sp.len] 3 (0,0)),(rl,.cells #[cl.v] 174 (0,0)),(ro,.cells #[so.v] 173 (0,0)),(r1,.cells #[sp.v] 174 (0,0))]) (fun x _=>((m:Int)-x.2).toNat)
   ⟨0,a5,rfl,oJ,by simpa using bE,a6,Q⟩ ?_
  rintro⟨bJ,qq⟩ aM ⟨q,Bq,a7,cj,bq,nq,hq⟩ Y hY;simp only at a7 bq;subst a7;dsimp only;rw[aG];apply cD<;>intro aN
  ·have au:q<chunk.length:=oJ;have aO:Rd [] aM cs chunk:=aA.q7 (I.yg (T:=[]) oL hq.fr);refine Rd.at aO q rfl (zA au) ?_;have aP:(be next 4++[wrap .u8 (Int.fdiv chunk.length (2^8)),wrap .u8 chunk.length]++(chunk.take q).flatMap (be · 4)).length<=1000000:=(by rw[zF,zF,kZ,Cy,yL,qAy];omega);refine qug bq aP fun a8 aB aC aQ aR aT=>?_;rw[gd _ oJ];refine hY _ _ ⟨q+1,aB,oL,oJ,?_,fun b C=>?_,hq.q8 aR (fun b C=>.inr (nq b C)) (fun p U C=>?_)⟩ oN;rw[yG au,yQ,flatMap_singleton,<- zV];exact aQ;rcases aT b C with h|h;exact nq b h;exact zL hq.fr.size h;have h1:=ak p.1 (zZ (f:=(·.1)) U);have h2:=nq _ C;omega
  ·have bK:q=m:=oJ;subst bK;rw[zS oJ] at bq;refine oA hq 4 rfl so rfl ?_;have a9:eF (([l,Dm,rp,rl,ro,r1]++G)++Bo) aM bJ (jD next chunk):=bq.kF lZ fun b C O=>by
    have h2:=nq _ C;rcases zD.1 O with O|O;rcases zD.1 O with O|O
    have:=ak b O;omega
    have:=hG b O;have:=I.fr.size;omega
    have:=a1 b O;omega
   have aD:jV ([l,Dm,rp,rl,ro,r1]++G) aM so (ir numbers y5 j) Bo:=ar.q8 (hq.fr.mono fun b C _=>by rw[xH] at C;exact zH _ C) ai (fun b C=>.inl C);refine jV.push aD a9 (by rw[ir,zK,length_range];omega) fun a8 aB aC aQ aR aT=>?_;have av:=(I.yq (T:=[]) oL hq).q8 aR (fun b C=>.inr (al b C).1) (fun p U C=>(al _ C).2 (zZ (f:=(·.1)) U));refine oD av 4 rfl _ fun cm av bL=>⟨av.at (i:=0) rfl,?_⟩;have au:=av.i8 (o':=R) 0 rfl;refine cond_false rfl<|oA au 3 rfl cl rfl<|dX.part aI q (numbers.drop (123*j)).length rfl (by rw[yC];show (cl.len:Int)=_;omega) (by rw[yC];omega) (zM _) fun cr b0 a' _=>oD au 3 rfl _ fun bM bN bO=>?_;rw[gd _ oJ];have aw:∀b∈aB,w.heap.size<=b/\b∉[l,Dm,rp,rl,ro,r1]:=fun b C=>by
    rcases aT b C with h|h;exact al b h;have h1:=hq.fr.size;refine⟨?_,fun O=>?_⟩
    have:=I.fr.size;omega
    have:=ak b O;omega
   have ff:Fr [l,Dm,rp,rl,ro,r1] aC bM:=
    (bL.mono fun b C _=>by simp at C;subst C;simp).j6 ((vL (fJ (av.at (i:=0) rfl)) R).mono (T:=[l,Dm,rp,rl,ro,r1]) fun b C _=>by simp at C;subst C;simp) (fun b C=>.inl C) |>.j6 (bO.mono (T:=[l,Dm,rp,rl,ro,r1]) fun b C _=>by simp at C;subst C;simp) (fun b C=>.inl C)
   have aE:=aQ.q8 (ff.mono fun b C _=>zH _ C) (fun b C O=>by
    rcases zD.1 O with O|O;exact (aw b C).2 O
    have:=hG b O;have:=(aw b C).1;omega) (fun b C=>.inl C)
   have ba:((numbers.drop (123*j)).take (numbers.drop (123*j)).length).drop q=numbers.drop (123*(j+1)):=(by rw[xZ,xD];by_cases h:123<cl.len;rw[show q=123 by rw[V];exact xR oJ,Nat.mul_add];have:q=cl.len:=(by rw[V];exact Nat.min_eq_right oJ);rw[vE oJ,vE oJ]);rw[ba] at a';have aP:ir numbers y5 (j+1)=ir numbers y5 j++[jD next chunk]:=(by rw[ir,range_succ,xN,map_singleton,bA,<- aj];rfl);refine hX _ _ ⟨j+1,cr,a8,aB,oL,oJ,a',by rw[aP];exact aE,aw,bN⟩ oJ
 have bP:j=y5.length:=oJ;subst bP;refine .inl ⟨aa.at (i:=0) rfl,?_⟩;have I:=aa.i8 (o':=E0) 0 rfl;refine oA I 4 rfl so rfl<|dR.eU I.lX 1 rfl fun aC hd=>?_;have bQ:jV ([l,Dm,rp,rl,ro,r1]++G) (Pt.i8 w7 l E0) so (ir numbers y5 y5.length) Bo:=aq.q8 ((vL (fJ (aa.at (i:=0) rfl)) E0).mono fun b C _=>by simp at C;subst C;simp) ai (fun b C=>.inl C);exact hk so Bo aC (bQ.q8 (S':=G) (hd.fr.mono fun b C _=>zH _ C) ai (fun b C=>.inl (zI _ C))) (I.back hd.fr) (fun b C=>(al b C).1)
def fR (q:Int) (t:List Int):List Value:=.int .u64 q::t.map (Value.int .u32)
def gZ (q:Int) (t:List Int):List Int:=be (wrap .u32 (Int.fdiv q (2^32))) 4++be (wrap .u32 q) 4++t.flatMap (be · 4)
def AH(h:t.length=27):(gZ q t).length=116:=by rw[gZ,zF,zF,kZ,kZ,Cy,h]
def sP(h:t.length=27):(fR q t).length=28:=by simp[fR,h]
def CS(n:Nat)(h:n<t.length):(fR q t).toArray[n+1]?=some (.u (t.getD n 0)):=by simp[fR,yR,zA h]
def qsW(q:Int)(t:List Int):((fR q t).all Value.oneCell')=true:=by rw[all_eq_true];intro v h;rcases zG.1 h with rfl|h;rfl;obtain⟨x,_,rfl⟩:=mem_map.1 h;rfl
def qrJ{α:Type}{enc:α->List Value}{k:Nat}{l:List α}(h:eZ enc k w s l B):eZ enc k w.drew s l B:=h
def ow (w0:World) (L:List (Nat×Obj)) (B:List Nat):Prop:=∀b∈B,w0.heap.size<=b/\b∉L.map (·.1)
def ow.cons{o:Obj}(h:ow w0 L B)(E:r∉B):ow w0 ((r,o)::L) B:=fun b u=>⟨(h b u).1,fun C=>by rcases zG.1 C with rfl|C;exact E u;exact (h b u).2 C⟩
def ow.tail{p:Nat×Obj}(h:ow w0 (p::L) B):ow w0 L B:=fun b u=>⟨(h b u).1,fun C=>(h b u).2 (zN _ C)⟩
def Fd{j:Nat}(h:j+3<=l.length):l.drop j=l.getD j 0::l.getD (j+1) 0::l.getD (j+2) 0::l.drop (j+3):=by rw[zY oJ,zY (i:=j+1) oJ,zY (i:=j+1+1) oJ];simp only[yR];rw[zA (show j<l.length by omega),zA (show j+1<l.length by omega),zA (show j+2<l.length by omega)];rfl
def sh{j:Nat}(h:j+3<=l.length):l.take (j+3)=l.take j++[l.getD j 0,l.getD (j+1) 0,l.getD (j+2) 0]:=by rw[take_add,Fd h];rfl
def qBB{j:Nat}(h:j+3<=l.length):(l.map (Value.int .u32)).extract j (j+3)=[.u (l.getD j 0),.u (l.getD (j+1) 0),.u (l.getD (j+2) 0)]:=by rw[extract_eq_take_drop,<- xQ,Fd h,show j+3-j=3 by omega];rfl
def xb{K:Sl->WP}(G:dR [] w0 w L)(h:gF w s l B)(I:ow w0 L B)(Q:l.length<=1000000)(R:∀E B' w',dR [] w0 w' L->gF w' E (l++be n 4) B'->ow w0 L B'->K E w'): cW 209 [s.v,.u n] dd w K:=by
 refine qsX<|qqF h Q fun E B' w' b' U n'=>R E B' w' (G.q8 U (fun b C=>.inr (I b C).1) (fun p J C=>(I _ C).2 (zZ J))) b' fun b C=>?_;rcases n' b C with O|O;exact I b O;refine⟨zL G.fr.size O,fun V=>?_⟩;obtain⟨p,J,rfl⟩:=mem_map.1 V
 have:=fJ (G.i9 p J)
 omega
def qwn{K:Sl->WP}(hv:Hv w)(J:t.length=27)(hk:∀b T w',w'.heap[b]?=some (.cells (gz (fE (wrap .u32 (Int.tmod q 2)) 1 (gZ q t))) T (0,0))->Fr [] w w'->w.heap.size<=b->K ⟨pW b,512,512⟩ w'): cW 176 [.agg (fR q t).toArray] dd w K:=by
 refine qpJ<|oB (oE [] w) fun r1 w1 e1 f1 C=>?_;have V:(fR q t).toArray[0]?=some (.int .u64 q):=rfl;have I:=fun n (h:n<27)=>CS (q:=q) (t:=t) n oJ;refine oA C.drew 0 rfl q V<|oA C.drew 0 rfl q V<|xb (s:=dI) (l:=[]) (B:=[]) C.drew (.nil _ _ _) (fun b E=>by cases E) oL fun s5 B5 w6 C b5 O=>iM (C.cell (off:=0) 0 rfl V)<|xb C b5 O (by simp[kZ]) fun s8 B8 w9 C b8 n8=>oA C.drew 0 rfl (t.getD 0 0) (I 0 oM)<|oA C.drew 0 rfl (t.getD 1 0) (I 1 oM)<|oA C.drew 0 rfl (t.getD 2 0) (I 2 oM)<|xb C.drew (qrJ b8) n8 (by simp[kZ]) fun az aA aB C ab ac=>ka (C.cell (off:=3) 0 rfl (I 2 oM)) (C.cell (off:=2) 0 rfl (I 1 oM))<|xb C ab ac (by simp[kZ]) fun aC aD aE C ad ae=>iM (C.cell (off:=3) 0 rfl (I 2 oM))<|xb C ad ae (by simp[kZ]) fun aF af aG C Q ag=>?_;have hr:((fR q t).toArray.toList.drop 4).take 24=(t.drop 3).map (Value.int .u32):=by show (List.drop 3 (t.map (Value.int .u32))).take 24=_;rw[xQ,zS (by rw[yC,zK,J];decide)]
 refine nH (C.at (i:=0) rfl) ((t.drop 3).map (Value.int .u32)) (by rw[zK,yC,J]) hr ?_;have ah:(t.drop 3).length=24:=(by rw[yC,J]);have ai:t=[t.getD 0 0,t.getD 1 0,t.getD 2 0]++t.drop 3:=by
  have:=Fd (l:=t) (j:=0) oJ
  rw[xF] at this;exact this
 have base:[]++be (wrap .u32 (Int.fdiv q (2^32))) 4++be (wrap .u32 q) 4++be (t.getD 0 0) 4++be (t.getD 1 0) 4++be (t.getD 2 0) 4=be (wrap .u32 (Int.fdiv q (2^32))) 4++be (wrap .u32 q) 4++[t.getD 0 0,t.getD 1 0,t.getD 2 0].flatMap (be · 4):=oL;rw[base] at Q;refine jT (fun x w'=>∃(i:Nat) (B:List Nat),x.2=i/\i<=8/\gF w' x.1 (be (wrap .u32 (Int.fdiv q (2^32))) 4++be (wrap .u32 q) 4++[t.getD 0 0,t.getD 1 0,t.getD 2 0].flatMap (be · 4)++((t.drop 3).take (3*i)).flatMap (be · 4)) B/\dR [] w w' [(r1,.cells (fR q t).toArray 238 (0,0))]/\ow w [(r1,.cells (fR q t).toArray 238 (0,0))] B) (fun x _=>(8-x.2).toNat)
  ⟨0,af,rfl,oJ,by simpa using Q,C,ag⟩ ?_
 rintro⟨s,ii⟩ w2 ⟨i,B,R,aI,G,C,nb⟩ X hX;simp only at R G;subst R;dsimp only;have al:(be (wrap .u32 (Int.fdiv q (2^32))) 4++be (wrap .u32 q) 4++[t.getD 0 0,t.getD 1 0,t.getD 2 0].flatMap (be · 4)++((t.drop 3).take (3*i)).flatMap (be · 4)).length<=200:=by rw[zF,zF,zF,kZ,kZ,Cy,Cy,yL,ah];show 4+4+3*4+_<=200;omega
 apply cD<;>intro hc;have hi:i<8:=oJ;refine me ⟨oJ,oJ⟩ ?_;have h3:3*i+3<=(t.drop 3).length:=oJ;refine qzZ ((t.drop 3).getD (3*i) 0,(t.drop 3).getD (3*i+1) 0,(t.drop 3).getD (3*i+2) 0) ?_ ?_
 have:=qBB h3
 rw[show Int.toNat (i:Int)*3=3*i by simp;omega];exact this;refine oB C fun r2 w3 e3 f3 u=>oD u 0 rfl _ fun w4 u f4=>?_;have ak:=G.lt;have U:r2∉B:=fun E=>by have:=ak _ E;omega
 have G:=(G.q7 f3).q8 f4 (fun b E hm=>by simp only[zE] at hm;subst hm;exact U E);refine oA u.drew 0 rfl ((t.drop 3).getD (3*i) 0) rfl<|oA u.drew 0 rfl ((t.drop 3).getD (3*i+1) 0) rfl<|oA u.drew 0 rfl ((t.drop 3).getD (3*i+2) 0) rfl<|xb u.drew (qrJ G) (nb.cons U) oJ fun s5 B5 w5 u b5 O=>ka (u.cell (off:=2) 0 rfl rfl) (u.cell (off:=1) 0 rfl rfl)<|xb u b5 O (by rw[zF,kZ];omega) fun s6 B6 w6 u b6 n6=>iM (u.cell (off:=2) 0 rfl rfl)<|xb u b6 n6 (by rw[zF,zF,kZ,kZ];omega) fun s7 B7 w7 u b7 n7=>?_;rw[gd _ oJ];refine hX _ _ ⟨i+1,B7,oL,oJ,?_,u.sub (sublist_cons_self _ _),n7.tail⟩ oN;rw[show 3*(i+1)=3*i+3 by omega,sh h3,yQ];have e:([(t.drop 3).getD (3*i) 0,(t.drop 3).getD (3*i+1) 0,(t.drop 3).getD (3*i+2) 0]:List Int).flatMap (be · 4)=be ((t.drop 3).getD (3*i) 0) 4++be ((t.drop 3).getD (3*i+1) 0) 4++be ((t.drop 3).getD (3*i+2) 0) 4:=oL;rw[e];simpa only[zV] using b7;obtain rfl:i=8:=by omega
 rw[zS oJ,zV,<- yQ,<- ai] at G;refine oA C 0 rfl q V ?_;have E:=G.kF (S:=[]) lZ oL;refine quG E (hv.q7 C.fr) (by show (gZ q t).length<=_;rw[AH J];decide) (fun h=>?_) fun _ b T w5 h5 f5 O=>?_;have h':500<(gZ q t).length:=h;rw[AH J] at h';exact absurd h' oM;exact hk b T w5 h5 (C.fr.j6 f5 oL) (zL C.fr.size O)
def wM(J:dR [] w0 w L)(i:Nat)(hi:L[i]?=some (r,.cells #[s.v] 96 (0,0)))(h:eF [] w0 s l)(O:4<=l.length)(Q:∀E w',eF [] w0 E (l.drop 4)->dR [] w0 w' (L.set i (r,.cells #[E.v] 96 (0,0)))->K (fO l) w'): dW prog (.func (.func 253) #[] #[dH r]) [] dq w K:=by refine qz (lb:=[dH r]) rfl oK<|qmd ?_;have C:=J.drew;have G:eF [] w.drew s l:=h.q7 C.fr;exact oA C i hi s rfl<|eF.at G 0 rfl (getD_some oJ)<|oA C i hi s rfl<|eF.at G 1 rfl (getD_some oJ)<|oA C i hi s rfl<|eF.at G 2 rfl (getD_some oJ)<|oA C i hi s rfl<|eF.at G 3 rfl (getD_some oJ)<|oA C i hi s rfl<|dX.drop h 4 rfl O oJ fun E R=>oH C i hi _ rfl rfl rfl fun w' I _=>Q E w' R I
def iZ (l:List Int):Int:=bits .or .u64 (wrap .u64 (wrap .u64 (fO l)*2^32)) (wrap .u64 (fO (l.drop 4)))
def md (l:List Int):List Int:=(List.range 27).map fun i=>fO (l.drop (8+4*i))
def uz(l:List Int):(md l).length=27:=by simp[md]
def lM (q:Int) (f:Nat->Int) (n:Nat):Array Value:=(fR q ((List.range n).map f++zs (27-n))).toArray
def qv1{x y:Int}{A Z:List Int}:dT (fR q (A++x::Z)).toArray (A.length+1) [.u y]=(fR q (A++y::Z)).toArray:=by
 apply Array.ext'
 have:=Gv (.int .u64 q::A.map (Value.int .u32)) [Value.int .u32 x] [Value.int .u32 y] (Z.map (Value.int .u32)) rfl
 rw[qY _ _ _ (by simp[fR])];simpa[fR] using this
def AF{n:Nat}(h:n<27):dT (lM q f n) (n+1) [.u (f n)]=lM q f (n+1):=by
 have C:zs (27-n)=0::zs (27-(n+1)):=by rw[show 27-n=(27-(n+1))+1 by omega];rfl
 have:=qv1 (q:=q) (x:=0) (y:=f n) (A:=(List.range n).map f) (Z:=zs (27-(n+1)))
 rw[zK,length_range] at this;rw[lM,C,this,lM,range_succ,xN,zV];rfl
def qxS{h:Int}{n:Nat}:dT (lM q f n) 0 [.int .u64 h]=lM h f n:=by apply Array.ext';rw[qY _ _ _ (by simp[lM,fR])];simp[lM,fR]
def A9{n:Nat}(h:n<=27):(lM q f n).size=28:=by simp[lM,fR,qL];omega
def qxR:lM q f 27=(fR q ((List.range 27).map f)).toArray:=by show (fR q ((List.range 27).map f++[])).toArray=_;rw[xH]
def qwm{K:List Value->WP}(h:eF S w s l)(hl:l.length=116)(hk:∀w',Fr [] w w'->K (fR (iZ l) (md l)) w'): cW 236 [s.v] dt w K:=by
 refine qpK ?_;have h0:eF [] w s l:=h.j4 oL;have O:((prog.info? 238).bind (·.zero)).map (fun z=>z.cells.toList)=some (fR 0 (zs 27)):=oK;refine oB (oE [] w) fun r1 w1 e1 f1 u=>oI u O fun r3 w2 e3 u=>oI u O fun E w3 e5 u=>wM u 2 rfl h0 oJ fun s1 w4 h1 u=>?_;have G:∀(q:Int),(fR q (zs 27)).toArray=lM q (fun i=>fO (l.drop (8+4*i))) 0:=fun q=>rfl;refine oG u 0 rfl (lM (wrap .u64 (wrap .u64 (fO l)*2^32)) (fun i=>fO (l.drop (8+4*i))) 0) ?_ rfl ?_ fun w5 u _=>?_;rw[G 0];exact qxS;exact zO rfl;refine oA u.drew 0 rfl (wrap .u64 (wrap .u64 (fO l)*2^32)) rfl<|wM u.drew 2 rfl h1 (by rw[yC];omega) fun s2 w6 Q u=>iM (u.cell (off:=0) 0 rfl rfl)<|oG u 0 rfl (lM (iZ l) (fun i=>fO (l.drop (8+4*i))) 0) qxS rfl (zO rfl) fun w7 u _=>?_;rw[xD] at Q;refine wM u 2 rfl Q (by rw[yC];omega) fun s3 w8 R u=>oG u 0 rfl (lM (iZ l) (fun i=>fO (l.drop (8+4*i))) 1) (AF oM) rfl (by show 1+1<=_;rw[A9 oM];decide) fun w9 u _=>?_;rw[xD] at R;refine wM u 2 rfl R (by rw[yC];omega) fun s4 ag U u=>oG u 0 rfl (lM (iZ l) (fun i=>fO (l.drop (8+4*i))) 2) (AF oM) rfl (by show 2+1<=_;rw[A9 oM];decide) fun ah u _=>?_;rw[xD] at U;refine wM u 2 rfl U (by rw[yC];omega) fun s5 aj V u=>oG u 0 rfl (lM (iZ l) (fun i=>fO (l.drop (8+4*i))) 3) (AF oM) rfl (by show 3+1<=_;rw[A9 oM];decide) fun ak u _=>?_;rw[xD] at V;refine jT (fun x w'=>∃(i:Nat) (I:Sl),x=i/\i<=8/\eF [] w I (l.drop (20+12*i))/\
   dR [] w w' [(E,.cells (lM (iZ l) (fun i=>fO (l.drop (8+4*i))) (3+3*i)) 238 (0,0)),(r3,.cells (fR 0 (zs 27)).toArray 238 (0,0)),(r1,.cells #[I.v] 96 (0,0))]) (fun x _=>(8-x).toNat)
  ⟨0,s5,rfl,oJ,V,u⟩ ?_
 rintro x al ⟨i,I,rfl,am,hx,u⟩ X hX;apply cD<;>intro J;have hi:i<8:=oJ;refine me ⟨oJ,oJ⟩ ?_;simp only[Addr.q9];have ap:Int.toNat (i:Int)=i:=oJ;refine wM u 2 rfl hx (by rw[yC];omega) fun s6 C h6 u=>?_;show Pt.st ⟨E,4+Int.toNat (i:Int)*3+0,none⟩ _ _ _;refine oG u 0 rfl (lM (iZ l) (fun i=>fO (l.drop (8+4*i))) (3+3*i+1)) ?_ rfl ?_ fun aq u _=>?_;rw[show 20+12*i=8+4*(3+3*i) by omega,show 4+Int.toNat (i:Int)*3+0=(3+3*i)+1 by omega];exact AF (f:=fun i=>fO (l.drop (8+4*i))) oJ;rw[A9 oJ];show _+1<=28;omega;rw[xD] at h6;refine wM u 2 rfl h6 (by rw[yC];omega) fun s7 ar h7 u=>?_;show Pt.st ⟨E,0+4+Int.toNat (i:Int)*3+1,none⟩ _ _ _;refine oG u 0 rfl (lM (iZ l) (fun i=>fO (l.drop (8+4*i))) (3+3*i+2)) ?_ rfl ?_ fun au u _=>?_;rw[show 20+12*i+4=8+4*(3+3*i+1) by omega];show dT _ (0+4+Int.toNat (i:Int)*3+1) _=_;rw[show 0+4+Int.toNat (i:Int)*3+1=(3+3*i+1)+1 by omega];exact AF (f:=fun i=>fO (l.drop (8+4*i))) oJ;rw[A9 oJ];show 0+4+Int.toNat (i:Int)*3+1+1<=28;omega;rw[xD] at h7;refine wM u 2 rfl h7 (by rw[yC];omega) fun s8 aw h8 u=>?_;show Pt.st ⟨E,0+4+Int.toNat (i:Int)*3+2,none⟩ _ _ _;refine oG u 0 rfl (lM (iZ l) (fun i=>fO (l.drop (8+4*i))) (3+3*i+3)) ?_ rfl ?_ fun ax u _=>?_;rw[show 20+12*i+4+4=8+4*(3+3*i+2) by omega];show dT _ (0+4+Int.toNat (i:Int)*3+2) _=_;rw[show 0+4+Int.toNat (i:Int)*3+2=(3+3*i+2)+1 by omega];exact AF (f:=fun i=>fO (l.drop (8+4*i))) oJ;rw[A9 oJ];show 0+4+Int.toNat (i:Int)*3+2+1<=28;omega;rw[xD] at h8;rw[gd _ oJ];refine hX _ _ ⟨i+1,s8,oL,oJ,?_,?_⟩ oJ;rw[show 20+12*(i+1)=20+12*i+4+4+4 by omega];exact h8;rw[show 3+3*(i+1)=3+3*i+3 by omega];exact u;obtain rfl:i=8:=by omega
 rw[show 3+3*8=27 from rfl,qxR] at u;refine nH (u.at (i:=0) rfl) (fR (iZ l) (md l)) (sP (uz l)) (by rw[xF];exact zS (Nat.le_of_eq (sP (uz l))))<|me (sP (uz l))<|oG u 1 rfl (fR (iZ l) (md l)).toArray ?_ (qsW _ _) ?_ fun C u _=>?_;apply Array.ext';rw[qY _ _ _ (by rw[sP (uz l)];decide),sP (uz l),take_zero,xI,drop_of_length_le oM,xH];rw[sP (uz l)];decide;exact nH (u.at (i:=1) rfl) (fR (iZ l) (md l)) (sP (uz l)) (by rw[xF];exact zS (Nat.le_of_eq (sP (uz l))))<|hk C u.fr
def wq:((prog.info? 238).bind (·.zero)).map (fun z=>z.cells.toList)=some (fR 0 (zs 27)):=by kernel_rfl
def qvW{P:Program}{t:TypeId}{z:Value}{offs:Array (Nat×Nat)}(u:(P.info? t).bind (·.zero)=some z)(C:P.underlying t=some (.struct (fieldsOf P t)))(h:∀w,((fieldsOf P t).mapM fun f=>do pure (f.offset,<- sizeOf f.type):Sem (Array (Nat×Nat))).run P w=.ok offs w)(w:World): (Instr.build t #[]).run P w=.ok (.agg z.cells) w:=by simp only[Instr.build,Sem.run_bind,wF u,Result.andThen_ok,run_underlying C,h,Instr.fill,Sem.run_pure]
def AY{K:List Value->Prop}(k:K (fR 0 (zs 27))):fl [iJ.oc] (fun w'=>(Instr.build 238 #[]).run prog w') w K:=by
 obtain⟨z,u,h⟩:=yT.1 wq;refine sI (ts:=[iJ.oc]) (fR 0 (zs 27)) ?_ k
 have:=qvW (P:=prog) (t:=238) (offs:=#[(0,1),(1,1),(2,1),(3,1),(4,24)]) u oK (fun w=>oK) w
 rw[this];show Result.ok (Value.agg z.cells) w=.ok (Value.agg (fR 0 (zs 27)).toArray) w;rw[<- h]
def iI{cs:Array Value}{vs:List Value}(h:vs.length=cs.size):dT cs 0 vs=vs.toArray:=by apply Array.ext';rw[qY _ _ _ oJ,take_zero,xI,drop_of_length_le (by rw[Array.length_toList];omega),xH]
def Gl(h:t.length=27):(fR q t).toArray.size=28:=by rw[size_toArray];exact sP h
def Ap{u:Nat×Nat}{K:List Value->Prop}(C:w.heap[r]?=some (.cells (fR q t).toArray T u))(h:t.length=27)(k:K (fR q t)):ic 28 (dc r) w K:=
 nH C (fR q t) (sP h) (by rw[xF,zS (Nat.le_of_eq (sP h))]) k
def C6{G:Int}{C:List Int}{K:WP}(I:dR [] w0 w L)(i:Nat)(hi:L[i]?=some (r,.cells (fR G C).toArray T (0,0)))(E:C.length=27)(h:t.length=27)(J:∀w',dR [] w0 w' (L.set i (r,.cells (fR q t).toArray T (0,0)))->K w'):gK ((fR q t).length=28) (st (dc r) (fR q t) w K):=by refine me (sP h)<|oG I i hi (fR q t).toArray (iI (by rw[Gl E,sP h])) (qsW _ _) (by rw[Gl E,sP h];decide) fun w' u _=>J w' u
def vq{I:Int}{E:List Int}{K:List Value->WP}(J:dR [] w0 w L)(i:Nat)(hi:L[i]?=some (r,.cells (fR I E).toArray T (0,0)))(O:E.length=27)(G:t.length=27)(Q:∀w',Fr [] w0 w'->K (fR q t) w'):gK ((fR q t).length=28) (st (dc r) (fR q t) w fun w'=>ic 28 (dc r) w' fun vs=>K vs w'):=by
 refine C6 J i hi O G fun w' u=>?_;have C:i<L.length:=by rcases Nat.lt_or_ge i L.length with h|h;exact h;rw[yS h] at hi;cases hi
 exact Ap (u.at (i:=i) (by rw[List.getElem?_set_self C])) G (Q w' u.fr)
abbrev p6:=Int×List Int
def jv:p6:=(0,zs 27)
def fy (place:Int) (l:List Int):p6×Int:=
 if (fw place l).2.2≠0 then (jv,(fw place l).2.2)
 else if (fw place l).1≠1\/(fw place l).2.1.length≠116 then (jv,2)
 else if Int.tmod (iZ (fw place l).2.1) 2≠place then (jv,2)
 else ((iZ (fw place l).2.1,md (fw place l).2.1),0)
def zw(place:Int)(l:List Int):(fy place l).1.2.length=27:=by unfold fy;split<;>(try rfl);split<;>(try rfl);split<;>rfl
def iC (a b:List Int):p6×Int:=
 if (fy 0 a).2≠0/\(fy 1 b).2≠0 then (jv,5)
 else if (fy 0 a).2≠0\/((fy 1 b).2=0/\(fy 1 b).1.1>(fy 0 a).1.1) then ((fy 1 b).1,0)
 else ((fy 0 a).1,0)
def qmF(a b:List Int):(iC a b).1.2.length=27:=by unfold iC;split<;>(try rfl);split<;>exact zw _ _
def qrD{place:Int}{K:List Value×Int->WP}(h:eF S w s l)(hv:Hv w)(hB:eS l)(hl:l.length<=100000)(Q:place=0\/place=1)(hk:∀w',Fr [] w w'->K (fR (fy place l).1.1 (fy place l).1.2,(fy place l).2) w'): cW 210 [.i place,s.v] dA w K:=by
 refine qrj<|oI (oE [] w) wq fun r1 w1 e1 u=>?_;have R:wrap .u32 place=place:=by rcases Q with rfl|rfl<;>kernel_rfl
 have U:wrap .u64 place=place:=by rcases Q with rfl|rfl<;>kernel_rfl
 rw[R,U];refine iQ (fun b w'=>b=false/\w'=w1) ?_ ?_;rcases Q with rfl|rfl;exact cond_false rfl ⟨rfl,rfl⟩;exact cond_true rfl ⟨rfl,rfl⟩;rintro b w2 ⟨rfl,rfl⟩;refine cond_false rfl ?_;have E:∀ {e:Int} {w':World},fy place l=(jv,e)->Fr [] w w'->K (fR 0 (zs 27),e) w':=by
  intro e w' G hf
  have:=hk w' hf
  rw[G] at this;exact this
 refine Hd (h.q7 u.fr) (hv.q7 u.fr) hB hl fun s3 B3 w3 b3 f3 n3=>?_;have u:=u.q7 f3;apply eH<;>intro C;have G:(fw place l).2.2≠0:=(oP C);exact AY<|vq u 0 rfl rfl rfl fun w4 f4=>E (by rw[fy,if_pos G]) f4;have G:¬(fw place l).2.2≠0:=(oP C);refine iQ (fun b w'=>b=decide ((fw place l).1≠1\/(fw place l).2.1.length≠116)/\w'=w3) ?_ ?_;apply eH<;>intro C;have O:(fw place l).1≠1:=(oP C);exact⟨by simp[O],rfl⟩;have O:(fw place l).1=1:=(oP C);have V:s3.len=(fw place l).2.1.length:=b3.len;refine⟨?_,rfl⟩;dsimp only;rw[V];by_cases hx:(fw place l).2.1.length=116;rw[hx];simp[O];have:¬(((fw place l).2.1.length:Int)=116):=oJ;simp[O,hx,this];rintro b w4 ⟨rfl,rfl⟩;apply eH<;>intro C;exact AY<|vq u 0 rfl rfl rfl fun w5 f5=>E (by rw[fy,if_neg G,if_pos (zC C)]) f5;have I:=zB C;have J:(fw place l).2.1.length=116:=by rcases Nat.decEq (fw place l).2.1.length 116 with h|h;exact absurd (Or.inr h) I;exact h
 have ab:=b3.kF (S:=[]) lZ oL;refine qwm ab J fun w5 f5=>?_;have u:=u.q7 f5;refine oI u wq fun r6 w6 e6 u=>C6 u 0 rfl rfl (uz _) fun w7 u=>oA u 0 rfl (iZ (fw place l).2.1) rfl ?_;apply eH<;>intro C;have hq:Int.tmod (iZ (fw place l).2.1) 2≠place:=(oP C);exact AY<|vq u 1 rfl rfl rfl fun w8 f8=>E (by rw[fy,if_neg G,if_neg I,if_pos hq]) f8;have hq:¬Int.tmod (iZ (fw place l).2.1) 2≠place:=(oP C);refine Ap (u.at (i:=0) rfl) (uz _)<|vq u 1 rfl rfl (uz _) fun w8 f8=>?_
 have:=hk w8 f8
 rw[fy,if_neg G,if_neg I,if_neg hq] at this;exact this
def qu9{V sb:Sl}{a b:List Int}{K:List Value×Int->WP}(ha:eF S w V a)(hb:eF S w sb b)(hv:Hv w)(J:eS a)(O:eS b)(Q:a.length<=100000)(R:b.length<=100000)(U:∀w',Fr [] w w'->K (fR (iC a b).1.1 (iC a b).1.2,(iC a b).2) w'): cW 177 [V.v,sb.v] dA w K:=by
 refine qoX<|oI (oE [] w) wq fun r1 w1 e1 h=>qrD (ha.q7 h.fr) (hv.q7 h.fr) J Q (.inl rfl) fun w2 f2=>?_;have h:=h.q7 f2;refine oI h wq fun r3 w3 e3 h=>C6 h 0 rfl rfl (zw _ _) fun w4 h=>qrD (hb.q7 h.fr) (hv.q7 h.fr) O R (.inr rfl) fun w5 f5=>?_;have h:=h.q7 f5;refine oI h wq fun r6 w6 e6 h=>C6 h 0 rfl rfl (zw _ _) fun w7 h=>iQ (fun c w'=>c=decide ((fy 0 a).2≠0/\(fy 1 b).2≠0)/\w'=w7) ?_ ?_;apply eH<;>intro u;have C:(fy 0 a).2≠0:=(oP u);refine⟨?_,rfl⟩;by_cases I:(fy 1 b).2=0<;>simp[C,I];have C:(fy 0 a).2=0:=(oP u);exact⟨by simp[C],rfl⟩;rintro c w8 ⟨rfl,rfl⟩;apply eH<;>intro u;refine AY<|vq h 2 rfl rfl rfl fun w9 f9=>?_
 have:=U w9 f9
 rw[iC,if_pos (zC u)] at this;exact this;have hn:=zB u;refine iQ (fun c w'=>c=decide ((fy 0 a).2≠0\/((fy 1 b).2=0/\(fy 1 b).1.1>(fy 0 a).1.1))/\w'=w8) ?_ ?_;apply eH<;>intro u;have C:(fy 0 a).2≠0:=(oP u);exact⟨by simp[C],rfl⟩;have C:(fy 0 a).2=0:=(oP u);apply eH<;>intro u;have I:(fy 1 b).2=0:=(oP u);refine oA h 0 rfl (fy 1 b).1.1 rfl<|oA h 1 rfl (fy 0 a).1.1 rfl<|⟨?_,rfl⟩;by_cases h3:(fy 1 b).1.1>(fy 0 a).1.1<;>simp[C,I,h3];have I:(fy 1 b).2≠0:=(oP u);exact⟨by simp[C,I],rfl⟩;rintro c w9 ⟨rfl,rfl⟩;apply cD<;>intro u;refine Ap (h.at (i:=0) rfl) (zw _ _)<|vq h 2 rfl rfl (zw _ _) fun E G=>?_
 have:=U E G
 rw[iC,if_neg hn,if_pos (u)] at this;exact this;refine Ap (h.at (i:=1) rfl) (zw _ _)<|vq h 2 rfl rfl (zw _ _) fun E G=>?_
 have:=U E G
 rw[iC,if_neg hn,if_neg (u)] at this;exact this
abbrev iy (n:Int):Prop:=0<=n/\n<4294967296
def DL(h:iy n)(r:List Int):fO (be n 4++r)=n:=by rw[CV h.1];exact qyk h
def qqc:∀(c:List Int) (i:Nat),(c.flatMap (be · 4)).drop (4*i)=(c.drop i).flatMap (be · 4)
 | [],i=>by simp
 | a::c,0=>by simp
 | a::c,i+1=>by rw[yH,drop_succ_cons,<- qqc c i,drop_append,kZ,vE (by rw[kZ];omega),xI];congr 1
def qyD(c:List Int):(c.flatMap (be · 4)).length=4*c.length:=by
 induction c with
 | nil=>rfl
 | cons a c ih=>rw[yH,zF,kZ,ih,yI];omega
def qmt{i:Nat}(h:i<c.length)(u:∀x∈c,iy x):fO ((c.flatMap (be · 4)).drop (4*i))=c[i]:=by rw[qqc,zY h,yH];exact DL (u _ (zX h)) _
def ED(next:Int)(c:List Int):(jD next c).length=6+4*c.length:=by rw[jD,zF,zF,kZ,qyD];rfl
def qr1(c:List Int):eS (c.flatMap (be · 4)):=by
 induction c with
 | nil=>exact fun x h=>by cases h
 | cons a c ih=>rw[yH];exact (tV _ _).append ih
def qAC(x:Int):0<=wrap .u8 x/\wrap .u8 x<256:=by rw[BD];omega
def qpX(next:Int)(c:List Int):eS (jD next c):=by refine ((tV _ _).append fun x h=>?_).append (qr1 c);simp only[zG,xX,or_false] at h;rcases h with rfl|rfl<;>exact qAC _
def qsx{next:Int}(C:iy next)(I:next≠1)(J:∀x∈c,iy x)(O:jg 1 c=true)(hl:c.length<=123):iS (jD next c)=(next,c,0):=by
 have E:=ED next c
 have e:jD next c=be next 4++([wrap .u8 (Int.fdiv c.length (2^8)),wrap .u8 c.length]++c.flatMap (be · 4)):=by rw[jD,zV]
 have G:fO (jD next c)=next:=by rw[e];exact DL C _
 have h:lh (jD next c)=c.length:=(by have Q:(jD next c).getD 4 0=wrap .u8 (Int.fdiv c.length (2^8)):=(by rw[e,CV C.1];rfl);have R:(jD next c).getD 5 0=wrap .u8 c.length:=(by rw[e,CV C.1];rfl);have U:Int.fdiv (c.length:Int) (2^8)=0:=(by rw[Int.fdiv_eq_ediv_of_nonneg _ oM];omega);rw[lh,Q,R,BD,BD,U];omega);have u:kS (jD next c) c.length=c:=by
  apply ext_getElem;simp[kS];intro i I V;have:(jD next c).drop (6+4*i)=(c.flatMap (be · 4)).drop (4*i):=by have h6:(jD next c).drop 6=c.flatMap (be · 4):=(by rw[e,CV C.1];rfl);rw[<- h6,xD]
  simp only[kS,getElem_map,getElem_range,this];exact qmt V J
 rw[iS,iN,if_neg (by rw[G,h];omega),h,zJ,u,if_pos O,G]
def qv(x:Int)(h:0<=x/\x<18446744073709551616):wrap .u64 x=x:=by unfold wrap;have:(IntKind.u64.signed)=false:=rfl;simp only[this,Bool.false_and,Bool.false_eq_true,if_false];exact Int.emod_eq_of_lt h.1 h.2
def qqz{A B:Int}(k:Nat)(G:0<=A)(C:A%2^k=0)(I:0<=B)(h:B<2^k)(J:A+B<18446744073709551616):bits .or .u64 A B=A+B:=by
 obtain⟨a,rfl⟩:∃a:Nat,A=a:=⟨A.toNat,oJ⟩;obtain⟨b,rfl⟩:∃b:Nat,B=b:=⟨B.toNat,oJ⟩;have E:a%2^k=0:=by have:((a:Int)%((2^k:Nat):Int))=0:=(by rw[Int.natCast_pow];exact C);omega
 have u:b<2^k:=(by have:(b:Int)<((2^k:Nat):Int):=(by rw[Int.natCast_pow];exact h);omega);obtain⟨q,rfl⟩:∃q,a=2^k*q:=⟨a / 2^k,by have:=Nat.div_add_mod a (2^k);omega⟩;show wrap .u64 ((BitVec.ofInt 64 ((2^k*q:Nat):Int)||| BitVec.ofInt 64 (b:Int)).toNat:Nat)=_;rw[BitVec.toNat_or,BitVec.ofInt_natCast,BitVec.ofInt_natCast,BitVec.toNat_ofNat,BitVec.toNat_ofNat,Nat.mod_eq_of_lt (show 2^k*q<2^64 by omega),Nat.mod_eq_of_lt (show b<2^64 by omega),<- Nat.two_pow_add_eq_or_of_lt u];rw[qv _ oJ];omega
abbrev mu (n:Int):Prop:=0<=n/\n<18446744073709551616
def D8:gZ q t=be (wrap .u32 (Int.fdiv q (2^32))) 4++(be (wrap .u32 q) 4++t.flatMap (be · 4)):=by rw[gZ,zV]
def qjM(I:mu q):iZ (gZ q t)=q:=by have h:Int.fdiv q (2^32)=q / 4294967296:=(by rw[Int.fdiv_eq_ediv_of_nonneg _ oM];rfl);have u:fO (gZ q t)=q / 4294967296:=(by rw[D8,h,pa _ oJ];exact DL (by constructor<;>omega) _);have C:(gZ q t).drop 4=be (wrap .u32 q) 4++t.flatMap (be · 4):=(by rw[D8,drop_append,kZ,vE (by rw[kZ];exact zM _)];rfl);have E:wrap .u32 q=q%4294967296:=(by unfold wrap;have:(IntKind.u32.signed)=false:=rfl;simp only[this,Bool.false_and,Bool.false_eq_true,if_false];rfl);have G:fO ((gZ q t).drop 4)=q%4294967296:=(by rw[C,E];exact DL (by constructor<;>omega) _);rw[iZ,u,G,qv (q / 4294967296) oJ,qv (q%4294967296) oJ,qv (q / 4294967296*2^32) oJ];rw[qqz 32 oJ oJ oJ oJ oJ];omega
def qv4(q:Int)(t:List Int):eS (gZ q t):=by rw[D8];exact (tV _ _).append ((tV _ _).append (qr1 t))
def qrg(h:t.length=27)(u:∀x∈t,iy x):md (gZ q t)=t:=by
 apply ext_getElem;rw[uz,h];intro i G C;have E:(gZ q t).drop 8=t.flatMap (be · 4):=by rw[D8,<- zV,drop_append,zF,kZ,kZ,vE (by rw[zF,kZ,kZ];exact zM _)];rfl
 have:(gZ q t).drop (8+4*i)=(t.flatMap (be · 4)).drop (4*i):=(by rw[<- E,xD]);simp only[md,getElem_map,getElem_range,this];exact qmt C u
def qtH{place:Int}(h:mu q)(u:t.length=27)(G:∀x∈t,iy x)(E:Int.tmod q 2=place):fy place (fE place 1 (gZ q t))=((q,t),0):=by have C:iy place:=(by rw[<- E,Int.tmod_eq_emod_of_nonneg h.1];constructor<;>omega);have I:=qmN (kind:=1) (body:=gZ q t) C (by rw[AH u];decide);rw[fy,I,if_neg oL,if_neg (by simp[AH u]),if_neg (by rw[qjM h,E];simp),qjM h,qrg u G]
abbrev tJ:TypeId:=244
abbrev MLT:TypeId:=240
def look {β:Type} (n:Int):List (Int×β)->Option (Nat×β)
 | []=>none
 | p::r=>if n=p.1 then some (0,p.2) else (look n r).map fun q=>(q.1+1,q.2)
def iv {β:Type} (n:Int) (v:β) (l:List (Int×β)):List (Int×β):=match look n l with|some q=>l.set q.1 (n,v)|none=>l++[(n,v)]
def jQ {β:Type} (n:Int) (l:List (Int×β)):List (Int×β):=match look n l with|some q=>l.eraseIdx q.1|none=>l
def Ah{β γ:Type}(g:β->γ)(n:Int):∀l:List (Int×β),look n (l.map fun e=>(e.1,g e.2))=(look n l).map fun q=>(q.1,g q.2)
 | []=>rfl
 | p::r=>by simp only[xO,look];by_cases h:n=p.1;simp[h];rw[if_neg h,if_neg h,Ah g n r];cases look n r<;>rfl
def A7(n:Int):∀l:List (Int×Value),posOf n l=look n l
 | []=>rfl
 | p::r=>by simp only[posOf,look,A7 n r]
def uX{β:Type}{n:Int}:∀ {l:List (Int×β)} {q:Nat×β},look n l=some q->l[q.1]?=some (n,q.2)/\(n,q.2)∈l
 | p::r,q,h=>by simp only[look] at h;by_cases hp:n=p.1;rw[if_pos hp] at h;cases h;subst hp;exact⟨rfl,oL⟩;rw[if_neg hp] at h;obtain⟨x,u,rfl⟩:=yT.1 h;obtain⟨C,E⟩:=uX u;exact⟨by simpa using C,zN _ E⟩
def yb{β:Type}{n:Int}:∀ {l:List (Int×β)},look n l=none↔n∉l.map (·.1)
 | []=>by simp[look]
 | p::r=>by simp only[look,xO,zG,not_or];by_cases hp:n=p.1;simp[hp];rw[if_neg hp,Option.map_eq_none_iff,yb (l:=r)];simp[hp]
def DW{β γ:Type}(g:β->γ)(n:Int)(v:β)(l:List (Int×β)):(iv n v l).map (fun e=>(e.1,g e.2))=iv n (g v) (l.map fun e=>(e.1,g e.2)):=by
 unfold iv;rw[Ah];cases look n l with
 | none=>simp
 | some q=>simp[map_set]
def qrP{β γ:Type}(g:β->γ)(n:Int)(l:List (Int×β)):(jQ n l).map (fun e=>(e.1,g e.2))=jQ n (l.map fun e=>(e.1,g e.2)):=by
 unfold jQ;rw[Ah];cases look n l with
 | none=>rfl
 | some q=>simp only[Option.map_some];exact wn _ l q.1
def E4{β:Type}{v:β}{l:List (Int×β)}{e:Int×β}(h:e∈iv n v l):e∈l\/e=(n,v):=by unfold iv at h;split at h;exact mem_or_eq_of_mem_set h;rcases zD.1 h with h|h;exact .inl h;exact .inr (oP h)
def qsl{β:Type}{l:List (Int×β)}{e:Int×β}(h:e∈jQ n l):e∈l:=by unfold jQ at h;split at h;exact mem_of_mem_eraseIdx h;exact h
def FE{t et:TypeId}{v:Value}(V:prog.underlying t=some (.map 44 et)){b:Nat}{f:List (Int×Value)}(h:jP kX w b f)(x:Int): ∃o,(Instr.mapUpdate t (.map (some b)) (kX x) v).run prog w=.ok () (i8 w b o)/\jP kX (i8 w b o) b (iv x v f):=by
 have K:=wL;cases I:posOf x f with
 | none=>
  obtain⟨o,J,h2⟩:=jP.new V K h x (v:=v) I;refine⟨o,J,?_⟩;rw[A7] at I;rw[iv,I];exact h2
 | some q=>
  obtain⟨C,c,Q,he,hs,hc⟩:=h;have R:=I;rw[A7] at R;obtain⟨J,_⟩:=uX R;have G:=he;simp only[pV] at G;have hi:C[q.1]?.map (·.key)=some (kX x):=by
   have:=congrArg (·[q.1]?) G
   simp only[zQ,J,Option.map_some] at this;rw[<- xL];cases E:C.toList[q.1]? with
   | none=>rw[E] at this;cases this
   | some e=>rw[E] at this;simp at this;simp[this.1]
  refine⟨.map (C.modify q.1 fun e=>{ e with key:=kX x,val:=v }) c,?_,C.modify q.1 fun e=>{ e with key:=kX x,val:=v },c,?_,?_,?_,?_⟩;simp[Instr.mapUpdate,run_underlying V,Go.MapKept.run_getObj_map Q,K.check,u0 K he,I,hi,Instr.keyThatStays,Instr.sameBits,Go.MapKept.run_setObj_map _ Q];rfl;rw[qw _ _ _ _ (fJ Q),if_pos rfl];rw[iv,R];show ((C.modify q.1 _).toList).map _=(f.set q.1 (x,v)).map _;rw[Array.toList_modify];apply ext_getElem?;intro j;have u:=congrArg (·[j]?) G;simp only[zQ] at u;rw[zQ,zQ,List.getElem?_modify,List.getElem?_set];by_cases hqj:q.1=j;subst hqj;have U:=(zP.1 J).1;rw[J] at u;cases E:C.toList[q.1]? with
  | none=>rw[E] at u;cases u
  | some e=>simp[U]
  simp only[hqj,if_false];rw[<- u];cases C.toList[j]?<;>rfl;have e:(C.modify q.1 fun e=>{ e with key:=kX x,val:=v }).toList.map (·.born)=C.toList.map (·.born):=by rw[Array.toList_modify];apply ext_getElem?;intro j;rw[zQ,zQ,List.getElem?_modify];by_cases hqj:q.1=j;subst hqj;cases C.toList[q.1]?<;>simp;simp[hqj]
  rw[e];exact hs;intro e O;rw[Array.toList_modify] at O;obtain⟨j,u⟩:=mem_iff_getElem?.1 O;rw[List.getElem?_modify] at u;by_cases hqj:q.1=j;subst hqj;cases E:C.toList[q.1]? with
  | none=>rw[E] at u;simp at u
  | some e0=>
   rw[E] at u;simp at u;subst u;exact hc e0 (yF E)
  simp[hqj] at u;exact hc e (yF (by rw[xL];exact u))
section
structure eQ where
 j7:p6
 Q2:List Int
 Q6:List Int
 Q9:Int
 Q0:Bool
 J8:List Int
 J4:List Int
 J5:List (Int×Int×List Int)
 J9:List Int
abbrev lS:=Int×Sl×List Int
def mo (x:lS):Value:=.agg #[.b x.1,x.2.1.v]
def nU (sl sn:Sl) (Q9:Int) (Q0:Bool) (fb defb mb:Nat):List Value:=
 [sl.v,sn.v,.i Q9,.bool Q0,dH fb,dH defb,.map (some mb)]
def gx (db:Option Addr) (j7:p6) (sl sn:Sl) (Q9:Int) (Q0:Bool) (fb defb mb:Nat) (J9:List Int):Array Value:=
 ((.pointer db::fR j7.1 j7.2)++nU sl sn Q9 Q0 fb defb mb++J9.map (Value.int .u32)).toArray
section
variable {db:Option Addr} {j7:p6} {sl sn:Sl} {Q9:Int} {Q0:Bool} {fb defb mb:Nat} {J9:List Int}
def tt(h:j7.2.length=27):(Value.pointer db::fR j7.1 j7.2).length=29:=by rw[yI,sP h]
def quD(h:j7.2.length=27):(gx db j7 sl sn Q9 Q0 fb defb mb J9).size=36+J9.length:=by rw[gx,size_toArray,zF,zF,tt h,zK];rfl
def qBL:(gx db j7 sl sn Q9 Q0 fb defb mb J9)[0]?=some (.pointer db):=rfl
def qA6(C:j7.2.length=27)(n:Nat)(h:n<27):(gx db j7 sl sn Q9 Q0 fb defb mb J9)[n+2]?=some (.u (j7.2.getD n 0)):=by
 rw[gx,List.getElem?_toArray,zV,yZ (by rw[tt C];omega),List.getElem?_cons_succ]
 have:=CS (q:=j7.1) (t:=j7.2) n oJ
 rw[List.getElem?_toArray] at this;exact this
def Aw(u:j7.2.length=27)(j:Nat)(h:j<7):(gx db j7 sl sn Q9 Q0 fb defb mb J9)[29+j]?=(nU sl sn Q9 Q0 fb defb mb)[j]?:=by rw[gx,List.getElem?_toArray,zV,yY (by rw[tt u];omega),tt u,vD,yZ (by exact h)]
def qyX(h:j7.2.length=27):(gx db j7 sl sn Q9 Q0 fb defb mb J9)[29]?=some sl.v:=Aw h 0 oM
def qyY(h:j7.2.length=27):(gx db j7 sl sn Q9 Q0 fb defb mb J9)[30]?=some sn.v:=Aw h 1 oM
def De(h:j7.2.length=27):(gx db j7 sl sn Q9 Q0 fb defb mb J9)[32]?=some (.bool Q0):=Aw h 3 oM
def CC(h:j7.2.length=27):(gx db j7 sl sn Q9 Q0 fb defb mb J9)[33]?=some (dH fb):=Aw h 4 oM
def qxm(h:j7.2.length=27):(gx db j7 sl sn Q9 Q0 fb defb mb J9)[34]?=some (dH defb):=Aw h 5 oM
def wm(h:j7.2.length=27):(gx db j7 sl sn Q9 Q0 fb defb mb J9)[35]?=some (.map (some mb)):=Aw h 6 oM
end
structure Rows (F:List Nat) (w:World) (sl sn:Sl) (Q2 Q6:List Int) (fs:List (Int×lS)):Prop where
 Q2:Rd F w sl Q2
 Q6:Rd F w sn Q6
 y8:∀ e∈fs,eF F w e.2.2.1 e.2.2.2
def Rows.q8{F F':List Nat}{w w':World}{sl sn:Sl}{u Q6:List Int}{E:List (Int×lS)}(h:Rows F w sl sn u Q6 E)(f:Fr F w w')(C:∀b∈F',b∈F\/w.heap.size<=b):Rows F' w' sl sn u Q6 E:=
 ⟨h.Q2.q8 f C,h.Q6.q8 f C,fun e G=>(h.y8 e G).q8 f C⟩
structure pu (w:World) (X:List Nat) (pb:Nat) (db:Option Addr) (M:eQ) (fb defb mb:Nat) (sl sn:Sl) (F1 F2:List Nat) (fs:List (Int×lS)):Prop where
 cell:w.heap[pb]?=some (.cells (gx db M.j7 sl sn M.Q9 M.Q0 fb defb mb M.J9) tJ (0,0))
 J8:iz w fb F1 M.J8
 J4:iz w defb F2 M.J4
 map:jP kX w mb (fs.map fun e=>(e.1,mo e.2))
 J5:M.J5=fs.map fun e=>(e.1,e.2.1,e.2.2.2)
 rows:Rows (X++pb::mb::(F1++F2)) w sl sn M.Q2 M.Q6 fs
 qM:∀ b∈X,b<w.heap.size
 nM:∀ b∈X,b∉pb::mb::(F1++F2)
 sep:pb≠mb/\(∀ b∈F1,b≠pb/\b≠mb/\b∉F2)/\(∀ b∈F2,b≠pb/\b≠mb)
 Q5:M.j7.2.length=27
 x4:M.J9.length=24
def fP (w:World) (X:List Nat) (pb:Nat) (db:Option Addr) (F:List Nat) (M:eQ):Prop:=
 ∃fb defb mb sl sn h F2 u,F=pb::mb::(h++F2)/\pu w X pb db M fb defb mb sl sn h F2 u
def pu.cX{M:eQ}{u:List (Int×lS)}(h:pu w X pb db M fb defb mb sl sn F1 F2 u):mb<w.heap.size:=by exact h.map.lt
def pu.lt{w:World}{X:List Nat}{pb:Nat}{db:Option Addr}{M:eQ}{fb defb mb:Nat}{sl sn:Sl}{F1 F2:List Nat}{C:List (Int×lS)}(h:pu w X pb db M fb defb mb sl sn F1 F2 C):∀b∈pb::mb::(F1++F2),b<w.heap.size:=by intro b u;rcases zG.1 u with rfl|u;exact fJ h.cell;rcases zG.1 u with rfl|u;exact h.cX;rcases zD.1 u with u|u;exact h.J8.lt b u;exact h.J4.lt b u
def fP.lt{w:World}{X:List Nat}{pb:Nat}{db:Option Addr}{F:List Nat}{M:eQ}(h:fP w X pb db F M):∀b∈F,b<w.heap.size:=by obtain⟨fb,defb,mb,sl,sn,C,F2,E,rfl,u⟩:=h;exact u.lt
def pu.q8{w w':World}{S X:List Nat}{pb:Nat}{db:Option Addr}{M:eQ}{fb defb mb:Nat}{sl sn:Sl}{F1 F2:List Nat}{E:List (Int×lS)}(h:pu w X pb db M fb defb mb sl sn F1 F2 E)(f:Fr S w w')(C:∀b∈pb::mb::(F1++F2),b∉S)(G:Rows (X++pb::mb::(F1++F2)) w' sl sn M.Q2 M.Q6 E):pu w' X pb db M fb defb mb sl sn F1 F2 E where
 cell:=by rw[f.block pb (fJ h.cell) (C pb oL)];exact h.cell
 J8:=h.J8.q8 f fun b u=>C b (by simp[u])
 J4:=h.J4.q8 f fun b u=>C b (by simp[u])
 map:=h.map.q8 f (C mb oL)
 J5:=h.J5
 rows:=G
 qM:=fun b u=>yD (h.qM b u) f.size
 nM:=h.nM
 sep:=h.sep
 Q5:=h.Q5
 x4:=h.x4
def pu.q7{M:eQ}{C:List (Int×lS)}(h:pu w X pb db M fb defb mb sl sn F1 F2 C)(f:Fr [] w w'):pu w' X pb db M fb defb mb sl sn F1 F2 C:=
 h.q8 f oL (h.rows.q8 (f.mono (fun b u=>by cases u)) (fun b u=>.inl u))
def fP.q7{w w':World}{X:List Nat}{pb:Nat}{db:Option Addr}{F:List Nat}{M:eQ}(h:fP w X pb db F M)(f:Fr [] w w'):fP w' X pb db F M:=by obtain⟨fb,defb,mb,sl,sn,u,F2,C,rfl,E⟩:=h;exact⟨fb,defb,mb,sl,sn,u,F2,C,rfl,E.q7 f⟩
def EB{u:List Nat}(n1:∀b∈u,b∈F1\/w.heap.size<=b):∀b∈pb::mb::(u++F2),b∈pb::mb::(F1++F2)\/w.heap.size<=b:=fun b h=>by simp only[zG,zD] at h⊢;rcases h with h|h|h|h;exact .inl (.inl h);exact .inl (.inr (.inl h));rcases n1 b h with C|C;exact .inl (.inr (.inr (.inl C)));exact .inr C;exact .inl (.inr (.inr (.inr h)))
def FC{u:List Nat}(n1:∀b∈u,b∈F2\/w.heap.size<=b):∀b∈pb::mb::(F1++u),b∈pb::mb::(F1++F2)\/w.heap.size<=b:=fun b h=>by simp only[zG,zD] at h⊢;rcases h with h|h|h|h;exact .inl (.inl h);exact .inl (.inr (.inl h));exact .inl (.inr (.inr (.inl h)));rcases n1 b h with C|C;exact .inl (.inr (.inr (.inr C)));exact .inr C
def AJ{F':List Nat}(n:∀b∈F',b∈F\/w.heap.size<=b):∀b∈X++F',b∈X++F\/w.heap.size<=b:=fun b u=>by rcases zD.1 u with h|h;exact .inl (zH _ h);rcases n b h with h|h;exact .inl (zI _ h);exact .inr h
def GP{F':List Nat}(C:∀b∈X,b<w.heap.size)(E:∀b∈X,b∉F)(n:∀b∈F',b∈F\/w.heap.size<=b):∀b∈X,b∉F':=fun b u h=>by
 rcases n b h with h|h;exact E b u h
 have:=C b u;omega
def pu.rr{M:eQ}{C:List Nat}{I:List (Int×lS)}(h:pu w X pb db M fb defb mb sl sn F1 F2 I)(f:Fr F1 w w')(O:iz w' fb C l)(E:∀b∈C,b∈F1\/w.heap.size<=b): pu w' X pb db { M with J8:=l } fb defb mb sl sn C F2 I where
 cell:=by rw[f.block pb (fJ h.cell) (fun u=>(h.sep.2.1 pb u).1 rfl)];exact h.cell
 J8:=O
 J4:=h.J4.q8 f fun b u G=>(h.sep.2.1 b G).2.2 u
 map:=h.map.q8 f (fun u=>(h.sep.2.1 mb u).2.1 rfl)
 J5:=h.J5
 rows:=h.rows.q8 (f.mono fun b u _=>by simp[u]) (AJ (EB E))
 qM:=fun b u=>yD (h.qM b u) f.size
 nM:=GP h.qM h.nM (EB E)
 sep:=⟨h.sep.1,fun b u=>by rcases E b u with J|J;exact h.sep.2.1 b J;have R:=fJ h.cell;have U:=h.cX;exact⟨oJ,oJ,fun Q=>by have:=h.J4.lt b Q;omega⟩,h.sep.2.2⟩
 Q5:=h.Q5
 x4:=h.x4
def pu.yz{M:eQ}{C:List Nat}{J:List (Int×lS)}(h:pu w X pb db M fb defb mb sl sn F1 F2 J)(f:Fr F2 w w')(O:iz w' defb C l)(G:∀b∈C,b∈F2\/w.heap.size<=b): pu w' X pb db { M with J4:=l } fb defb mb sl sn F1 C J where
 cell:=by rw[f.block pb (fJ h.cell) (fun u=>(h.sep.2.2 pb u).1 rfl)];exact h.cell
 J8:=h.J8.q8 f fun b u I=>(h.sep.2.1 b u).2.2 I
 J4:=O
 map:=h.map.q8 f (fun u=>(h.sep.2.2 mb u).2 rfl)
 J5:=h.J5
 rows:=h.rows.q8 (f.mono fun b u _=>by simp[u]) (AJ (FC G))
 qM:=fun b u=>yD (h.qM b u) f.size
 nM:=GP h.qM h.nM (FC G)
 sep:=⟨h.sep.1,fun b u=>⟨(h.sep.2.1 b u).1,(h.sep.2.1 b u).2.1,fun Q=>by
  rcases G b Q with E|E;exact (h.sep.2.1 b u).2.2 E
  have:=h.J8.lt b u;omega⟩,fun b u=>by
  rcases G b u with E|E;exact h.sep.2.2 b E;have R:=fJ h.cell;have U:=h.cX;exact⟨oJ,oJ⟩⟩
 Q5:=h.Q5
 x4:=h.x4
def pu.td{o:Obj}{M:eQ}{I C:List (Int×lS)}(h:pu w X pb db M fb defb mb sl sn F1 F2 I)(O:jP kX (i8 w mb o) mb (C.map fun e=>(e.1,mo e.2)))(u:∀e∈C,e∈I\/eF (X++pb::mb::(F1++F2)) w e.2.2.1 e.2.2.2): pu (i8 w mb o) X pb db { M with J5:=C.map fun e=>(e.1,e.2.1,e.2.2.2) } fb defb mb sl sn F1 F2 C:=by
 have f:Fr [mb] w (i8 w mb o):=zq h.cX o;have J:Fr (X++pb::mb::(F1++F2)) w (i8 w mb o):=f.mono fun b u _=>by simp only[zE] at u;subst u;simp
 have E:=h.rows.q8 J (F':=X++pb::mb::(F1++F2)) (fun b u=>.inl u);exact {
  cell:=by rw[f.block pb (fJ h.cell) (oP h.sep.1)];exact h.cell
  J8:=h.J8.q8 f fun b u=>by simpa using (h.sep.2.1 b u).2.1
  J4:=h.J4.q8 f fun b u=>by simpa using (h.sep.2.2 b u).2
  map:=O
  J5:=rfl
  rows:=⟨E.Q2,E.Q6,fun e Q=>by rcases u e Q with G|G;exact E.y8 e G;exact G.q8 J (fun b u=>.inl u)⟩
  qM:=fun b u=>yD (h.qM b u) f.size
  nM:=h.nM
  sep:=h.sep
  Q5:=h.Q5
  x4:=h.x4 }
def fP.yv{C:List Nat}{M:eQ}(h:fP w X pb db F M)(f:Fr X w w')(E:∀b∈C,b<w'.heap.size)(I:∀b∈C,b∈X\/w.heap.size<=b):fP w' C pb db F M:=by
 obtain⟨fb,defb,mb,sl,sn,J,F2,Q,rfl,h⟩:=h;have R:∀b∈pb::mb::(J++F2),b∉X:=fun b u E=>h.nM b E u;have G:=h.q8 (w':=w') f R (h.rows.q8 (f.mono fun b u _=>zH _ u) (fun b u=>.inl u));refine⟨fb,defb,mb,sl,sn,J,F2,Q,rfl,{ G with rows:=h.rows.q8 (f.mono fun b u _=>zH _ u) (fun b u=>?_),qM:=E,nM:=fun b u O=>?_ }⟩;rcases zD.1 u with u|u;rcases I b u with u|u;exact .inl (zH _ u);exact .inr u;exact .inl (zI _ u);rcases I b u with u|u;exact h.nM b u O
 have:=h.lt b O;omega
def fP.sep{M:eQ}(h:fP w X pb db F M):∀b∈X,b∉F:=by obtain⟨fb,defb,mb,sl,sn,u,F2,C,rfl,h⟩:=h;exact h.nM
end
section
def qx3(h:Rd S w s l)(Q:l.length<=1000000)(I:∀x:Int,(decide (x>=0)=decide (n∈l))->K x w): cW 225 [s.v,.u n] de w K:=by refine qoS ?_;have J:=h.1;refine jT (fun x w'=>w'=w/\∃i:Nat,x=i/\i<=l.length/\n∉l.take i) (fun x _=>((l.length:Int)-x).toNat) ⟨rfl,0,rfl,oJ,oL⟩ ?_;rintro x w' ⟨rfl,i,rfl,R,C⟩ X O;apply eH<;>intro E;have G:i<l.length:=(by have:=zC E;omega);refine Rd.at h i rfl (zA G) ?_;apply eH<;>intro E;have e:n=l[i]:=(oP E);refine I _ ?_;rw[yA (show (i:Int)>=0 by omega),yA (by rw[e];exact zX G)];have e:n≠l[i]:=(oP E);rw[gd _ oJ];refine O _ _ ⟨rfl,i+1,oL,oJ,?_⟩ oJ;rw[yG G];simp only[zD,zE,not_or];exact⟨C,e⟩;have:i=l.length:=(by have:=zB E;omega);subst this;rw[xZ] at C;refine I _ ?_;rw[zU oM,zU C]
def qtc{K:Bool->WP}(h:Rd S w s l)(C:l.length<=1000000)(E:K (decide (n∈l)) w): cW 193 [s.v,.u n] df w K:=by refine qla<|qx3 h C fun x G=>?_;rw[G];exact E
def qBH:∀w,(zeroValue 289).run prog w=.ok (.agg #[.b 0,.slice none 0 0]) w:=fun w=>by kernel_rfl
def EH:prog.underlying MLT=some (.map 44 289):=by kernel_rfl
def DK{C:List (Int×lS)}{K:((Int×Sl)×Bool)->Prop}(h:lH kX w mb (C.map fun e=>(e.1,mo e.2)))(G:∀q,look n C=some q->K ((q.2.1,q.2.2.1),true))(I:look n C=none->K ((0,dI),false)): fl [iJ.agg [Cell.int .u8,Cell.slice],iJ.one Cell.bool] (fun w'=>(Instr.lookup MLT (.map (some mb)) (.u n) true).run prog w') w K:=by
 have:=qsN (P:=prog) EH qBH wL h n
 rw[A7,Ah] at this;cases E:look n C with
 | none=>
  rw[E] at this;exact sI (ts:=[iJ.agg [Cell.int .u8,Cell.slice],iJ.one Cell.bool]) ((0,dI),false) this (I E)
 | some q=>
  rw[E] at this;exact sI (ts:=[iJ.agg [Cell.int .u8,Cell.slice],iJ.one Cell.bool]) ((q.2.1,q.2.2.1),true) this (G q E)
section
variable {w:World} {X:List Nat} {pb:Nat} {db:Option Addr} {F:List Nat} {M:eQ}
def qx7(h:fP w X pb db F M)(C:K M.J8.length w):cW 151 [dH pb] de w K:=by obtain⟨fb,defb,mb,sl,sn,E,F2,G,rfl,u⟩:=h;refine qj2<|gI (jM u.cell (pW fb) (CC u.Q5) ?_);exact qzE u.J8 C
def gU (M:eQ) (n:Int):Bool:=!(decide (n<2)||decide (n>=M.j7.2.getD 0 0)||decide (n∈M.Q2)||decide (n∈M.J8)||decide (n∈M.J4))&&(look n M.J5).isNone
def qry{K:Bool->WP}(h:fP w X pb db F M)(hl:M.Q2.length<=1000000)(R:∀w',Fr [] w w'->K (gU M n) w'):cW 166 [dH pb,.u n] df w K:=by
 obtain⟨fb,defb,mb,sl,sn,F1,F2,V,rfl,C⟩:=h;refine qj5<|iQ (fun b w'=>b=(decide (n<2)||decide (n>=M.j7.2.getD 0 0)||decide (n∈M.Q2)||decide (n∈M.J8)||decide (n∈M.J4))/\w'=w) ?_ ?_;refine eH (fun E=>⟨by rw[E];rfl,rfl⟩) fun E=>gI ?_;simp only[Addr.q9];refine jM C.cell (M.j7.2.getD 0 0) (qA6 C.Q5 0 oM)<|eH (fun G=>⟨by rw[E,G];rfl,by trivial⟩) fun G=>gI (jM C.cell sl (qyX C.Q5) ?_);refine qtc C.rows.Q2 hl<|eH (fun I=>⟨by rw[E,G,I];rfl,by trivial⟩) fun I=>gI (jM C.cell (pW fb) (CC C.Q5) ?_);refine GW C.J8<|eH (fun J=>⟨by rw[E,G,I,J];rfl,by trivial⟩) fun J=>gI<|jM C.cell (pW defb) (qxm C.Q5)<|GW C.J4 ⟨by rw[E,G,I,J];rfl,by trivial⟩;rintro b w' ⟨rfl,rfl⟩;have Q:(look n M.J5).isNone=(look n V).isNone:=by rw[C.J5,Ah (fun x:lS=>(x.1,x.2.2))];cases look n V<;>rfl
 apply eH<;>intro E
 have:=R w' (.refl _ _)
 rw[gU,E] at this;exact this;refine gI ?_;simp only[Addr.q9];refine jM C.cell (some mb) (wm C.Q5)<|DK C.map.at (fun q U=>?_) (fun U=>?_);refine oB (oE [] w') fun r w1 e1 f1 O=>oH O 0 rfl _ rfl rfl rfl fun w2 O _=>?_
 have:=R w2 O.fr
 rw[gU,E,Q,U] at this;exact this;refine oB (oE [] w') fun r w1 e1 f1 O=>oH O 0 rfl _ rfl rfl rfl fun w2 O _=>?_
 have:=R w2 O.fr
 rw[gU,E,Q,U] at this;exact this
def gJ (M:eQ) (kind:Int) (body:List Int):(Int×Int)×eQ:=
 if M.Q0 then ((0,7),M) else if body.length>500 then ((0,3),M) else
 match M.J8 with
 | []=>((0,6),M)
 | n::r=>((n,0),{ M with J8:=r,J5:=iv n (kind,body) M.J5 })
def qx6{kind:Int}{K:Int×Int->WP}(h:fP w X pb db F M)(hb:eF (X++F) w s body)(hl:body.length<=100000)(hf:M.J8.length<=1000000)(hk:∀F' w',fP w' X pb db F' (gJ M kind body).2->Fr F w w'->(∀b∈F',b∈F\/w.heap.size<=b)->K (gJ M kind body).1 w'): cW 185 [dH pb,.b kind,s.v] dm w K:=by
 have h0:=h;obtain⟨fb,defb,mb,sl,sn,F1,F2,fs,rfl,hx⟩:=h;have hlen:=hb.1;refine qj0 (p:=pW pb) (body:=s) ?_;have same:∀ {e:Int},gJ M kind body=((0,e),M)->K (0,e) w:=by
  intro e he
  have:=hk _ w (by rw[he];exact h0) (.refl _ _) (fun b hb=>.inl hb)
  rw[he] at this;exact this
 refine gI (jM (c:=.bool) hx.cell M.Q0 (De hx.Q5) ?_);refine eH (fun hc=>same (by rw[gJ,if_pos hc])) (fun hc=>?_);have ho:¬M.Q0=true:=(by rw[hc];decide);apply cD<;>intro hc
 have:=hc
 exact same (by rw[gJ,if_neg ho,iP]);have hb5:¬body.length>500:=oJ;refine gI (jM (c:=.ptr) hx.cell (pW fb) (CC hx.Q5) ?_);refine qzK hx.J8 hf fun F1' w1 hp1 f1 n1=>?_;have hx1:=hx.rr f1 hp1 n1;have fF:Fr (pb::mb::(F1++F2)) w w1:=f1.mono fun b hb _=>by simp[hb]
 have nF:=EB (w:=w) (pb:=pb) (mb:=mb) (F2:=F2) n1;cases hfr:M.J8 with
 | nil=>
  have hmv:gJ M kind body=((0,6),M):=(by rw[gJ,if_neg ho,if_neg hb5,hfr]);rw[hfr] at hp1 hx1;refine cond_true rfl ?_;have hM:{ M with J8:=(uT []).2 }=M:=(by show { M with J8:=[] }=M;rw[<- hfr]);rw[hM] at hx1
  have:=hk _ w1 (by rw[hmv];exact⟨fb,defb,mb,sl,sn,F1',F2,fs,rfl,hx1⟩) fF nF
  rw[hmv] at this;exact this
 | cons n r=>
  have hmv:gJ M kind body=((n,0),{ M with J8:=r,J5:=iv n (kind,body) M.J5 }):=(by rw[gJ,if_neg ho,if_neg hb5,hfr]);rw[hfr] at hp1 hx1;refine cond_false rfl<|gI ?_;simp only[Addr.q9];have c1:w1.heap[pb]?=_:=hx1.cell;refine jM (w:=w1.drew) (c:=.map) c1 (some mb) (wm hx.Q5) ?_;have hb1:eF (X++pb::mb::(F1'++F2)) w1.drew s body:=hb.q8 (fF.drew.mono fun b hb _=>zI _ hb) (AJ nF);refine AX hb1 oJ fun s2 B2 w2 b2 f2 n2 _ _=>?_;have f12:Fr [] w1 w2:=((Fr.refl [] w1).drew).trans f2;have hx2:=hx1.q7 f12;refine iM (by show _=_;rw[kj hx2.cell];exact wm hx.Q5) ?_;obtain⟨o,hr,hm⟩:=FE (v:=mo (kind,s2,body)) EH hx2.map n;refine Ev _ hr ?_;have hm':jP kX (i8 w2 mb o) mb ((iv n (kind,s2,body) fs).map fun e=>(e.1,mo e.2)):=(by rw[DW mo];exact hm);have hx3:=hx2.td hm' fun e he=>by
   rcases E4 he with h1|h1;exact .inl h1;subst h1;refine .inr (b2.kF lZ fun b hb hb2=>?_);have l2:w1.heap.size<=b:=n2 b hb;rcases zD.1 hb2 with hb2|hb2
   have:=hx1.qM b hb2;omega
   have:=hx1.lt b hb2;omega
  have hM:(iv n (kind,s2,body) fs).map (fun e=>(e.1,e.2.1,e.2.2.2))=iv n (kind,body) M.J5:=(by rw[hx.J5];exact DW (fun x:lS=>(x.1,x.2.2)) n (kind,s2,body) fs);rw[hM] at hx3;have f3:Fr (pb::mb::(F1++F2)) w (i8 w2 mb o):=(fF.j6 f12 oL).j6 (zq hx2.cX o) fun b hb=>by simp only[zE] at hb;subst hb;exact .inl oL
  have:=hk _ (i8 w2 mb o) (by rw[hmv];exact⟨fb,defb,mb,sl,sn,F1',F2,_,rfl,hx3⟩) f3 nF
  rw[hmv] at this;exact this
end
end
section
def pu.cK{M:eQ}{u:List (Int×lS)}(h:pu w X pb db M fb defb mb sl sn F1 F2 u)(n:Int):look n M.J5=(look n u).map fun q=>(q.1,q.2.1,q.2.2.2):=by rw[h.J5,Ah (fun x:lS=>(x.1,x.2.2))]
section
variable {w:World} {X:List Nat} {pb:Nat} {db:Option Addr} {F:List Nat} {M:eQ}
def jJ (M:eQ) (n kind:Int) (body:List Int):Int×eQ:=
 if M.Q0 then (7,M) else match look n M.J5 with
 | none=>(10,M)
 | some _=>if body.length>500 then (3,M) else (0,{ M with J5:=iv n (kind,body) M.J5 })
def qzF{kind:Int}(h:fP w X pb db F M)(E:eF (X++F) w s body)(hl:body.length<=100000)(hk:∀w',fP w' X pb db F (jJ M n kind body).2->Fr F w w'->K (jJ M n kind body).1 w'): cW 184 [dH pb,.u n,.b kind,s.v] de w K:=by
 have h0:=h;obtain⟨fb,defb,mb,sl,sn,F1,F2,fs,rfl,G⟩:=h;have an:=E.1;refine qkU ?_;have I:∀ {e:Int} {w':World},jJ M n kind body=(e,M)->Fr [] w w'->K e w':=by
  intro e w' he hf
  have:=hk w' (by rw[he];exact h0.q7 hf) (hf.mono (fun b E=>by cases E))
  rw[he] at this;exact this
 have J:=G.cK n;refine gI (jM G.cell M.Q0 (De G.Q5) ?_);refine eH (fun R=>I (by rw[jJ,if_pos R]) (.refl _ _)) (fun R=>?_);have ho:¬M.Q0=true:=(by rw[R];decide);refine gI ?_;simp only[Addr.q9];refine jM G.cell (some mb) (wm G.Q5)<|DK G.map.at (fun q hq=>?_) (fun hq=>?_);rw[hq] at J;refine oB (oE [] w) fun r w1 e1 f1 C=>oH C 0 rfl _ rfl rfl rfl fun w2 C _=>cond_false rfl ?_;apply cD<;>intro R
 have:=R
 exact I (by rw[jJ,if_neg ho,J];dsimp only [Option.map_some];rw[iP]) C.fr;have aj:¬body.length>500:=oJ;have V:jJ M n kind body=(0,{ M with J5:=iv n (kind,body) M.J5 }):=(by rw[jJ,if_neg ho,J];dsimp only [Option.map_some];rw[if_neg aj]);have U:=G.q7 C.drew.fr;refine gI<|jM (w:=w2.drew) (c:=.map) U.cell (some mb) (wm G.Q5)<|AX (E.q7 C.drew.fr) oJ fun s2 B2 w3 b2 f2 n2 _ _=>?_;have aa:Fr [] w w3:=C.drew.fr.trans f2;have Q:=G.q7 aa;refine iM (by show _=_;simp only[Addr.q9];rw[kj Q.cell];exact wm G.Q5) ?_;obtain⟨o,hr,hm⟩:=FE (v:=mo (kind,s2,body)) EH Q.map n;refine Ev _ hr ?_;have ak:jP kX (i8 w3 mb o) mb ((iv n (kind,s2,body) fs).map fun e=>(e.1,mo e.2)):=(by rw[DW mo];exact hm);have ab:=Q.td ak fun e he=>by rcases E4 he with h1|h1;exact .inl h1;subst h1;refine .inr (b2.kF lZ fun b E O=>?_);have l2:w2.drew.heap.size<=b:=n2 b E;rcases zD.1 O with O|O;have:b<w2.heap.size:=U.qM b O;have:w2.drew.heap.size=w2.heap.size:=rfl;omega;have:b<w2.heap.size:=U.lt b O;have:w2.drew.heap.size=w2.heap.size:=rfl;omega
 have hM:(iv n (kind,s2,body) fs).map (fun e=>(e.1,e.2.1,e.2.2.2))=iv n (kind,body) M.J5:=(by rw[G.J5];exact DW (fun x:lS=>(x.1,x.2.2)) n (kind,s2,body) fs);rw[hM] at ab;have f4:Fr (pb::mb::(F1++F2)) w (i8 w3 mb o):=(aa.mono (T:=pb::mb::(F1++F2)) (fun b E=>by cases E)).j6 (zq Q.cX o) fun b E=>by simp only[zE] at E;subst E;exact .inl oL
 have:=hk (i8 w3 mb o) (by rw[V];exact⟨fb,defb,mb,sl,sn,F1,F2,_,rfl,ab⟩) f4
 rw[V] at this;exact this;rw[hq] at J;exact oB (oE [] w) fun r w1 e1 f1 C=>oH C 0 rfl _ rfl rfl rfl fun w2 C _=>cond_true rfl<|I (by rw[jJ,if_neg ho,J];rfl) C.fr
def fL (M:eQ) (n:Int):Int×eQ:=
 if M.Q0 then (7,M) else match look n M.J5 with
 | some _=>(0,{ M with J5:=jQ n M.J5,J8:=ins n M.J8 })
 | none=>if gU M n then (0,{ M with J4:=ins n M.J4 }) else (10,M)
def qx4(h:fP w X pb db F M)(hl:M.Q2.length<=1000000)(hf:M.J8.length<=1000000)(hd:M.J4.length<=1000000)(hk:∀F' w',fP w' X pb db F' (fL M n).2->Fr F w w'->(∀b∈F',b∈F\/w.heap.size<=b)->K (fL M n).1 w'): cW 186 [dH pb,.u n] de w K:=by
 have h0:=h;obtain⟨fb,defb,mb,sl,sn,F1,F2,fs,rfl,I⟩:=h;refine qjZ ?_;have U:∀ {e:Int} {w':World},fL M n=(e,M)->Fr [] w w'->K e w':=by
  intro e w' he hf
  have:=hk _ w' (by rw[he];exact h0.q7 hf) (hf.mono (fun b E=>by cases E)) (fun b E=>.inl E)
  rw[he] at this;exact this
 have J:=I.cK n;refine gI (jM I.cell M.Q0 (De I.Q5) ?_);refine eH (fun V=>U (by rw[fL,if_pos V]) (.refl _ _)) (fun V=>?_);have ho:¬M.Q0=true:=(by rw[V];decide);refine gI ?_;simp only[Addr.q9];refine jM I.cell (some mb) (wm I.Q5)<|DK I.map.at (fun q hq=>?_) (fun hq=>?_);rw[hq] at J;refine oB (oE [] w) fun r w1 e1 f1 C=>oH C 0 rfl _ rfl rfl rfl fun w2 C _=>cond_true rfl ?_;have O:fL M n=(0,{ M with J5:=jQ n M.J5,J8:=ins n M.J8 }):=(by rw[fL,if_neg ho,J];rfl);have Q:=I.q7 C.fr;refine gI<|jM Q.cell (some mb) (wm I.Q5) ?_;obtain⟨o,hr,hm⟩:=jP.del (ty:=0) EH wL Q.map n;refine qxI (ts:=[]) () _ hr ?_;have ao:jP kX (i8 w2 mb o) mb ((jQ n fs).map fun e=>(e.1,mo e.2)):=by
  rw[qrP mo];rw[A7] at hm;unfold jQ;cases hl:look n (fs.map fun e=>(e.1,mo e.2)) with
  | none=>rw[hl] at hm;exact hm
  | some q=>rw[hl] at hm;exact hm
 have G:=Q.td ao fun e he=>.inl (qsl he);have hM:(jQ n fs).map (fun e=>(e.1,e.2.1,e.2.2.2))=jQ n M.J5:=by rw[I.J5];exact qrP (fun x:lS=>(x.1,x.2.2)) n fs
 rw[hM] at G;have f3:Fr (pb::mb::(F1++F2)) w (i8 w2 mb o):=(C.fr.mono (T:=pb::mb::(F1++F2)) (fun b E=>by cases E)).j6 (zq Q.cX o) fun b E=>by simp only[zE] at E;subst E;exact .inl oL
 refine gI (jM G.cell (pW fb) (CC I.Q5) ?_);refine GY G.J8 hf fun aq w4 aa f4 n4=>?_;have ab:=G.rr f4 aa n4;have hs:w.heap.size<=(i8 w2 mb o).heap.size:=by rw[vJ];exact C.fr.size
 have:=hk _ w4 (by rw[O];exact⟨fb,defb,mb,sl,sn,aq,F2,_,rfl,ab⟩) (f3.j6 f4 fun b E=>.inl (by simp[E])) fun b E=>by rcases EB n4 b E with h1|h1;exact .inl h1;exact .inr (zL hs h1)
 rw[O] at this;exact this;rw[hq] at J;refine oB (oE [] w) fun r w1 e1 f1 C=>oH C 0 rfl _ rfl rfl rfl fun w2 C _=>cond_false rfl<|qry (h0.q7 C.fr) hl fun w3 f3=>?_;have R:=C.fr.trans f3;apply eH<;>intro V;have hu:gU M n=false:=(oP V);exact U (by rw[fL,if_neg ho,J];show (if gU M n then _ else _)=_;rw[hu];rfl) R;have hu:gU M n=true:=(oP V);have O:fL M n=(0,{ M with J4:=ins n M.J4 }):=by rw[fL,if_neg ho,J];show (if gU M n then _ else _)=_;rw[hu];rfl
 have G:=I.q7 R;refine gI (jM G.cell (pW defb) (qxm I.Q5) ?_);refine GY G.J4 hd fun av w4 aa f4 n4=>?_;have ab:=G.yz f4 aa n4
 have:=hk _ w4 (by rw[O];exact⟨fb,defb,mb,sl,sn,F1,av,_,rfl,ab⟩) ((R.mono (T:=pb::mb::(F1++F2)) (fun b E=>by cases E)).j6 f4 fun b E=>.inl (by simp[E])) fun b E=>by rcases FC n4 b E with h1|h1;exact .inl h1;exact .inr (zL R.size h1)
 rw[O] at this;exact this
end
end
def left (es:Array MapEntry) (seen:Array Nat):List MapEntry:=es.toList.filter fun e=>!seen.toList.contains e.born
abbrev mz:={l:List Int // l.length=512}
def jC (b:mz):List Value:=b.1.map (Value.int .u8)
def tX(b:mz):(jC b).length=512:=by rw[jC,zK,b.2]
def mC (x:Int×mz):List Value:=Value.int .i64 x.1::jC x.2
def vP(x:Int×mz):(mC x).length=513:=by rw[mC,yI,tX]
def mz.zero:mz:=⟨zs 512,qL 512⟩
structure dM where
 Q3:List mz
 Q4:List (Int×mz)
 y6:Int
 down:Bool
 writes:Int
variable {D:dM}
structure dM.Ok (D:dM):Prop where
 at_:∀ x∈D.Q4,0<=x.1/\x.1<D.Q3.length
 y6:-1<=D.y6/\D.y6<=1000000000
 Q3:D.Q3.length<=4096
 Q4:D.Q4.length<=1000000
 writes:0<=D.writes/\D.writes<=1000000000
 px:∀ b∈D.Q3,eS b.1
 pq:∀ x∈D.Q4,eS x.2.1
abbrev DT:TypeId:=262
def jW (D:dM) (sb:Nat) (h:Sl):Array Value:=#[.slice (pW sb) D.Q3.length D.Q3.length,h.v,.i D.y6,.bool D.down,.i D.writes]
def fu (w:World) (db:Nat) (F:List Nat) (D:dM):Prop:=
 ∃(sb:Nat) (T:TypeId) (h:Sl) (B:List Nat),F=db::sb::B/\(db::sb::B).Nodup/\w.heap[db]?=some (.cells (jW D sb h) DT (0,0))/\w.heap[sb]?=some (.cells (D.Q3.flatMap jC).toArray T (0,0))/\eZ mC 513 w h D.Q4 B
def fu.q8{w w':World}{db:Nat}{F S:List Nat}{D:dM}(h:fu w db F D)(f:Fr S w w')(u:∀b∈F,b∉S):fu w' db F D:=by obtain⟨sb,T,C,B,rfl,I,E,G,J⟩:=h;exact⟨sb,T,C,B,rfl,I,by rw[f.block db (fJ E) (u _ oL)];exact E,by rw[f.block sb (fJ G) (u _ oL)];exact G,J.q8 f (fun b O=>u b (by simp[O]))⟩
def fu.q7{db:Nat}(h:fu w db F D)(f:Fr [] w w'):fu w' db F D:=h.q8 f (fun _ _ h=>by cases h)
def fu.lt{w:World}{db:Nat}{F:List Nat}{D:dM}(h:fu w db F D):∀b∈F,b<w.heap.size:=by obtain⟨sb,T,C,B,rfl,J,E,G,I⟩:=h;intro b u;simp only[zG] at u;rcases u with rfl|rfl|u;exact fJ E;exact fJ G;exact I.lt b u
def fu.cell{db:Nat}(h:fu w db F D):∃sb u,w.heap[db]?=some (.cells (jW D sb u) DT (0,0)):=by obtain⟨sb,T,u,B,rfl,E,C,G,I⟩:=h;exact⟨sb,u,C⟩
def fu.mem{db:Nat}(h:fu w db F D):db∈F:=by obtain⟨sb,T,u,B,rfl,_⟩:=h;simp
def tH (D:dM) (sb c:Nat) (h:Sl):Array Value:=#[.slice (pW sb) D.Q3.length c,h.v,.i D.y6,.bool D.down,.i D.writes]
def yj (w:World) (db:Nat) (F:List Nat) (D:dM) (c:Nat) (Z:List Value):Prop:=
 ∃(sb:Nat) (T:TypeId) (h:Sl) (B:List Nat),F=db::sb::B/\(db::sb::B).Nodup/\w.heap[db]?=some (.cells (tH D sb c h) DT (0,0))/\w.heap[sb]?=some (.cells (D.Q3.flatMap jC++Z).toArray T (0,0))/\eZ mC 513 w h D.Q4 B
def fu.z{db:Nat}(h:fu w db F D):yj w db F D D.Q3.length []:=by obtain⟨sb,T,u,B,rfl,C,E,G,I⟩:=h;exact⟨sb,T,u,B,rfl,C,E,by rw[xH];exact G,I⟩
def fu.Q9{db:Nat}{D':dM}{sb:Nat}{C:Sl}(h:fu w db F D)(V:w.heap[db]?=some (.cells (jW D sb C) DT (0,0)))(f:Fr [db] w w')(hs:D'.Q3=D.Q3)(hw:D'.Q4=D.Q4)(J:w'.heap[db]?=some (.cells (jW D' sb C) DT (0,0))):fu w' db F D':=by
 obtain⟨E,T,u,B,rfl,G,h1,R,h3⟩:=h;have I:E=sb/\u=C:=by have q:=h1.symm.trans V;have q0:=congrArg (fun o=>match o with|some (Obj.cells O _ _)=>(match O[0]? with|some (Value.slice (some a) _ _)=>a.block|_=>0)|_=>0) q;have q1:=congrArg (fun o=>match o with|some (Obj.cells O _ _)=>O[1]? | _=>none) q;refine⟨q0,?_⟩;have U:Value.slice u.a u.len u.cap=Value.slice C.a C.len C.cap:=yO q1;cases C;cases u;simp only[Value.slice.injEq] at U;obtain⟨rfl,rfl,rfl⟩:=U;rfl
 obtain⟨rfl,rfl⟩:=I;have Q:E≠db:=fun e=>by rw[e] at G;simp at G
 have hB:∀b∈B,b∉[db]:=fun b hb I=>by simp at I;subst I;simp at G;exact G.1.2 hb
 exact⟨E,T,u,B,rfl,G,J,by rw[hs,f.block E (fJ R) (oP Q)];exact R,by rw[hw];exact h3.q8 f hB⟩
def Fq{db:Nat}(h:fu w db F D)(u:K D.Q3.length w):cW 140 [dH db] de w K:=by refine qjX ?_;obtain⟨sb,C,E⟩:=h.cell;refine gI (jM E ⟨pW sb,D.Q3.length,D.Q3.length⟩ rfl ?_);exact u
def nS (h:Nat):dM:=⟨List.replicate h .zero,[],-1,false,0⟩
def qAk{n:Nat}(h:n<=4096):(nS n).Ok:=
 ⟨fun _ h=>(by cases h),⟨by show (-1:Int)<=-1;decide,by show (-1:Int)<=1000000000;decide⟩,by rw[nS];simpa using h,by simp[nS],by simp[nS],fun b u=>by rw[eq_of_mem_replicate u];exact eS.zs 512,fun _ h=>(by cases h)⟩
def qtp(n:Nat)(b:mz):(List.replicate n (jC b)).flatten=(List.replicate n b).flatMap jC:=by rw[flatMap_def,map_replicate]
set_option maxRecDepth 100000 in
def qzy{h:Int}{K:Option Addr×Int->WP}(E:(h<8\/h>4096)->K (none,1) w)(J:8<=h->h<=4096->∀db F w',fu w' db F (nS h.toNat)->Fr [] w w'->(∀b∈F,w.heap.size<=b)->K (pW db,0) w'): cW 96 [.i h] dE w K:=by
 refine qtk<|iQ (fun b w'=>b=decide (h<8\/h>4096)/\w'=w) ?_ ?_;apply eH<;>intro C;exact⟨by rw[yA (Or.inl (zC C))],rfl⟩
 have:=zB C
 exact⟨by simp[this],rfl⟩;rintro b w1 ⟨rfl,rfl⟩;refine eH (fun C=>E (zC C)) (fun C=>?_);have U:=zB C;have O:8<=h:=oJ;have Q:h<=4096:=oJ;obtain⟨n,rfl⟩:∃n:Nat,h=n:=⟨h.toNat,oJ⟩;refine dR.FP (zero:=jC mz.zero) (oE [] w1) (tX _) oJ oJ oJ oJ fun sb w2 V u=>dR.new u fun db R e3 s3 u=>?_;have G:(List.replicate (n:Int).toNat (jC mz.zero)).flatten=((nS n).Q3).flatMap jC:=(by rw[zJ];exact qtp n _);refine J O Q db [db,sb] R ⟨sb,299,dI,[],rfl,?_,?_,?_,.nil _ _ _⟩ u.fr (fun b I=>?_)
 have:=u.nodup;simpa using this
 have:=u.at (i:=0) rfl
 rw[this];simp[jW,nS]
 have:=u.at (i:=1) rfl
 rw[this,zJ,<- G,zJ];simp at I
 have:=u.own
 rcases I with rfl|rfl
 have:=u.own (b,_) (yF (i:=0) rfl)
 simpa using this
 have:=u.own (b,_) (yF (i:=1) rfl)
 simpa using this
def jq (D:dM):dM×Bool:=if D.y6=0 then ({ D with down:=true },true) else if D.y6>0 then ({ D with y6:=D.y6-1 },false) else (D,false)
def qwp{db:Nat}{K:Bool->WP}(h:fu w db F D)(V:D.y6<=1000000000)(Q:∀w',fu w' db F (jq D).1->Fr [db] w w'->K (jq D).2 w'): cW 173 [dH db] df w K:=by
 refine qna ?_;obtain⟨sb,G,I⟩:=h.cell;have u:dR [db] w w [(db,.cells (jW D sb G) DT (0,0))]:=⟨by simpa using I,oL,.refl _ _,oL⟩;refine gI (oA u 0 rfl D.y6 rfl ?_);apply eH<;>intro J;have C:D.y6=0:=(oP J);refine gI<|oH u 0 rfl _ rfl rfl rfl fun w1 u _=>?_
 have:=Q w1 (by rw[jq,if_pos C];exact h.Q9 I u.fr rfl rfl (u.at (i:=0) rfl)) u.fr
 rw[jq,if_pos C] at this;exact this;have C:¬D.y6=0:=(oP J);refine iQ (fun _ w'=>fu w' db F (jq D).1/\Fr [db] w w') ?_ ?_;refine gI (oA u 0 rfl D.y6 rfl ?_);apply cD<;>intro O;have E:D.y6>0:=O;refine gI (oA u 0 rfl D.y6 rfl ?_);refine gI ?_;rw[gd _ oJ];refine oH u 0 rfl _ rfl rfl rfl fun w1 u _=>⟨?_,u.fr⟩;rw[jq,if_neg C,if_pos E];exact h.Q9 I u.fr rfl rfl (u.at (i:=0) rfl);have E:¬D.y6>0:=O;refine⟨?_,.refl _ _⟩;rw[jq,if_neg C,if_neg E];exact h;rintro _ w1 ⟨R,U⟩
 have:=Q w1 R U
 have e:(jq D).2=false:=(by rw[jq,if_neg C];split<;>rfl);rw[e] at this;exact this
def qzp:∃i,prog.info? 301=some i/\(∃z,i.zero=some z/\z.cells.size=513)/\i.size=513/\i.bytes=520:=by have h:(prog.info? 301).map (fun i=>(i.zero.map (fun z=>z.cells.size),i.size,i.bytes))=some (some 513,513,520):=oK;obtain⟨i,E,u⟩:=yT.1 h;simp only[Prod.mk.injEq] at u;obtain⟨z,G,C⟩:=yT.1 u.1;exact⟨i,E,⟨z,G,C⟩,u.2.1,u.2.2⟩
def pT (D:dM) (n:Int) (b:mz):dM:={ D with Q4:=D.Q4++[(n,b)],writes:=D.writes+1 }
def ft (D:dM) (n:Int) (l:List Int):dM×Int:=
 if D.down then (D,7) else if n<0\/n>=D.Q3.length then (D,4) else
 if h:l.length=512 then ((jq (pT D n ⟨l,h⟩)).1,if (jq (pT D n ⟨l,h⟩)).2 then 7 else 0) else (D,1)
def qtf(n:Int)(b:mz)(w:World):(Instr.build 301 #[(0,.i n),(1,.agg (jC b).toArray)]).run prog w=.ok (.agg (mC (n,b)).toArray) w:=by
 obtain⟨z,hz,hzs⟩:∃z,(prog.info? 301).bind (·.zero)=some z/\z.cells.size=513:=by obtain⟨i,hi,⟨z,hz,hzs⟩,_⟩:=qzp;exact⟨z,by rw[hi];exact hz,hzs⟩
 have:=qoQ (P:=prog) (a:=.i n) (b:=.agg (jC b).toArray) (o1:=1) (s0:=1) (s1:=512) hz oK (fun w=>oK) rfl (by show (jC b).toArray.size=512;rw[size_toArray,tX]) rfl hzs w
 exact this
def qlR(l:List Int):((l.map (Value.int .u8)).all Value.oneCell')=true:=by rw[all_eq_true];intro v h;obtain⟨x,_,rfl⟩:=mem_map.1 h;rfl
def qrQ(b:mz):((jC b).all Value.oneCell')=true:=qlR _
def Hx(x:Int×mz):((mC x).all Value.oneCell')=true:=by rw[mC,all_cons,qrQ];rfl
def qxx(h:eF S w s l)(E:l≠[]):∃b o u T C,s.a=some (dc b o)/\w.heap[b]?=some (.cells u T C)/\b∉S/\(u.toList.drop o).take l.length=l.map (Value.int .u8):=by
 rcases h.2.2 with G|⟨b,o,u,T,C,I,J,O,Q⟩;exact absurd G E;refine⟨b,o,u,T,C,I,J,O,?_⟩;apply ext_getElem?;intro i;rw[xB,zQ];by_cases hi:i<l.length;rw[if_pos hi,xA,zA hi]
 have:=Q i l[i] (zA hi)
 rw[xT] at this
 have:=congrArg (·[0]?) this
 simpa using this;rw[if_neg hi,yS oJ];rfl
def qpT{db:Nat}(h:fu w db F D)(hD:D.Ok)(hs:eF S w s l)(hk:∀F' w',fu w' db F' (ft D n l).1->Fr F w w'->(∀b∈F',b∈F\/w.heap.size<=b)->K (ft D n l).2 w'): cW 138 [dH db,.i n,s.v] de w K:=by
 refine qkq (d:=pW db) (b:=s) ?_;have hlen:=hs.1;have hdb:=h.mem;obtain⟨sb,T,wsl,B,hF,hn,hc,hsb,hbuf⟩:=h;have h:fu w db F D:=⟨sb,T,wsl,B,hF,hn,hc,hsb,hbuf⟩;have ho:dR F w w [(db,.cells (jW D sb wsl) DT (0,0))]:=⟨by simpa using hc,oL,.refl _ _,by simp[hdb]⟩;refine gI (oA (c:=.bool) ho 0 rfl D.down rfl ?_);have same:∀ {e:Int},ft D n l=(D,e)->∀ {w'},w'=w->K e w':=by
  rintro e he w' rfl
  have:=hk F w' (by rw[he];exact h) (.refl _ _) (fun b hb=>.inl hb)
  rw[he] at this;exact this
 refine eH (fun hd=>same (by rw[ft,if_pos hd]) rfl) fun hd=>iQ (fun b w'=>b=decide (n<0\/n>=D.Q3.length)/\w'=w) ?_ ?_;apply eH<;>intro hc;exact⟨by rw[yA (Or.inl (zC hc))],rfl⟩;refine gI (oA (c:=.slice) ho 0 rfl ⟨pW sb,D.Q3.length,D.Q3.length⟩ rfl ⟨?_,rfl⟩)
 have:=zB hc
 by_cases h2:n>=D.Q3.length<;>simp[this,h2];rintro b w1 ⟨rfl,rfl⟩;refine eH (fun hr=>same (by rw[ft,if_neg (oP hd),if_pos (zC hr)]) rfl) (fun hr=>?_);have hr':=zB hr;refine eH (fun hq=>same ?_ rfl) (fun hq=>?_);have:¬l.length=512:=(by simp at hq;omega);rw[ft,if_neg (oP hd),if_neg hr',dif_neg this];have h512:l.length=512:=(by simp at hq;omega);obtain⟨i9,hblk⟩:∃i9:mz,i9.1=l:=⟨⟨l,h512⟩,rfl⟩;have hw:ft D n l=((jq (pT D n i9)).1,if (jq (pT D n i9)).2 then 7 else 0):=by rw[ft,if_neg (oP hd),if_neg hr',dif_pos h512];have:i9=⟨l,h512⟩:=Subtype.ext hblk;rw[this]
 rw[hw] at hk;have hd1:=ho.drew;refine gI (oA (c:=.slice) hd1 0 rfl wsl rfl ?_);obtain⟨sbk,so,scs,sT,sfr,hsa,hsbk,hsS,hscs⟩:=qxx hs (by rw[<- length_pos_iff];omega);obtain⟨sa,slen,scap⟩:=s;simp only at hsa hlen;subst hsa;refine qBc oJ<|nH (n:=512) (w:=w1.drew) hsbk (jC i9) (tX _) (by rw[<- h512,hscs,jC,hblk])<|sI (ts:=dt) (mC (n,i9)) (qtf n i9 _)<|me (vP _)<|oB hd1 fun r w2 er fr2 ho2=>iM (ho2.cell (off:=1) 1 rfl rfl) ?_;obtain⟨iW,hi,⟨z,hz,hzs⟩,hsz,hby⟩:=qzp;have hwl:=hD.Q4;have hwr:=hD.writes;have hfz:=hD.y6;have fr2':Fr [] w1 w2:=(Fr.refl [] w1).drew.trans fr2;have hbuf2:eZ mC 513 w2 wsl D.Q4 B:=hbuf.q7 fr2';have hsb2:w2.heap[sb]?=some (.cells (D.Q3.flatMap jC).toArray T (0,0)):=(by rw[fr2'.block sb (fJ hsb) oL];exact hsb);have hBF:∀b∈B,b∈F:=fun b hb=>by rw[hF];simp[hb]
 have hdbB:∀b∈B,b≠db:=fun b hb e=>by subst e;simp at hn;exact hn.1.2 hb
 have hsbB:∀b∈B,b≠sb:=fun b hb e=>by subst e;simp at hn;exact hn.2.1 hb
 have hrB:∀b∈B,b≠r:=fun b hb e=>by have:=hbuf.lt b hb;have e1:w1.drew.heap.size=w1.heap.size:=rfl;omega
 refine eZ.j0 (ys:=[(n,i9)]) (e:=301) hbuf2 vP oK hi hz hsz hzs (.ofSlice _ (e':=301) oK _ 1 1 _ ?_ ?_ ?_) rfl (by rw[hby];omega) oJ fun s' B' w3 g1 g2 g3 _=>?_;simp[vP];intro j u hj;rw[Addr.q9,kj (ho2.at (i:=0) rfl),xS];have:(mC (n,i9))[j]?=some u:=(oP hj);simpa using this;intro u hu;have:u∈mC (n,i9):=(oP hu);exact all_eq_true.1 (Hx (n,i9)) u this;have ho3:dR F w1 w3 [(r,.cells (mC (n,i9)).toArray 301 (0,0)),(db,.cells (jW D sb wsl) DT (0,0))]:=
  ho2.q8 g2 (fun b hb=>.inl (hBF b hb)) (fun p hp=>by simp at hp;rcases hp with rfl|rfl;exact fun hb=>hrB _ hb rfl;exact fun hb=>hdbB _ hb rfl)
 have hsb3:w3.heap[sb]?=some (.cells (D.Q3.flatMap jC).toArray T (0,0)):=(by rw[g2.block sb (fJ hsb2) (fun hb=>hsbB _ hb rfl)];exact hsb2);have hc3:=ho3.at (i:=1) rfl;refine gI<|tk hc3 (jW { D with Q4:=D.Q4++[(n,i9)] } sb s') rfl rfl (zO rfl) fun w4 hc4 f4=>gI (jM (c:=.i) hc4 D.writes rfl ?_);refine gI ?_;rw[gd (D.writes+1) oJ];refine tk hc4 (jW (pT D n i9) sb s') rfl rfl (zO rfl) fun w5 hc5 f5=>?_;have hs2:=fr2'.size;have hs3:=g2.size;have hne:sb≠db:=fun e=>by rw[e] at hn;simp at hn
 have f35:Fr [db] w3 w5:=f4.trans f5;have hB'db:∀b∈B',b≠db:=fun b hb e=>by
  rcases g3 b hb with h'|h';exact hdbB b h' e
  have:=fJ hc;omega
 have hB'sb:∀b∈B',b≠sb:=fun b hb e=>by
  rcases g3 b hb with h'|h';exact hsbB b h' e
  have:=fJ hsb;omega
 have hB'n:B'.Nodup:=by rcases g1 with ⟨_,_,rfl⟩|⟨b',o',cs',T',rfl,_⟩;simp;simp
 have h5:fu w5 db (db::sb::B') (pT D n i9):=(by refine⟨sb,T,s',B',rfl,?_,hc5,?_,?_⟩;simp only[nodup_cons,zG,not_or];exact⟨⟨fun e=>hne e.symm,fun hb=>hB'db _ hb rfl⟩,fun hb=>hB'sb _ hb rfl,hB'n⟩;rw[f35.block sb (fJ hsb3) (oP hne)];exact hsb3;exact g1.q8 f35 (fun b hb=>by simpa using hB'db b hb));have hF':∀b∈db::sb::B',b∈F\/w1.heap.size<=b:=fun b hb=>by simp only[zG] at hb;rcases hb with rfl|rfl|hb;exact .inl hdb;exact .inl (by rw[hF];simp);rcases g3 b hb with h'|h';exact .inl (hBF b h');exact .inr oJ
 have f15:Fr F w1 w5:=((fr2'.mono (fun i hi _=>by cases hi)).j6 g2 (fun b hb=>.inl (hBF b hb))).j6 f35 (fun b hb=>by simp at hb;subst hb;exact .inl hdb);refine qwp h5 (by show D.y6<=_;omega) fun w6 h6 f6=>?_
 have:=hk (db::sb::B') w6 h6 (f15.j6 f6 (fun b hb=>by simp at hb;subst hb;exact .inl hdb)) hF'
 apply eH<;>intro ha;rw[ha] at this;exact this;rw[ha] at this;exact this
end
end Go.Proofs.YtfneoijhmknlnaaGreatDoor
