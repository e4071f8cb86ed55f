/- Conditions: those that stand in each line. -/
import Derived.Test.YtfneoijhmknlnaaGreatDoorCXPR1
import Derived.Test.YtfneoijhmknlnaaGreatDoorProg
import Derived.KernelRfl
import Derived.Test.YtfneoijhmknlnaaGreatDoorCXPR2
import Derived.Sort.LotD6
import Derived.Sort.LotA
import Derived.Sort.LotC
import Derived.Sort.LotD1
import Derived.Laws.Bits64b
import Derived.Laws.Closers25b
import Derived.Sort.LotD2
import Derived.Sort.LotB
import Derived.Sort.LotD3
import Derived.Shelf.Bytes.SlCountOne
import Derived.Laws.CopyRow
import Derived.Laws.IdiomCopy
set_option linter.unusedVariables false
set_option linter.unusedSimpArgs false
set_option linter.defProp false
namespace Go.Proofs.YtfneoijhmknlnaaGreatDoor
open Go.Proofs.Tryz
section
set_option maxRecDepth 100000
open Go Go.Pt
open Go.IntKind (wrap)
variable {id0 id1 most:Int} {p:List Kw} {w:Kv}
@[reducible] def fv:List Cell:=[.slice,.slice,.slice,.slice,.slice,.slice,.slice,.w,.bool,.slice]
variable {K:((HL fv))->WP} {b:HL fv}
@[reducible] def qg:List Cell:=fV
@[reducible] def E4:List Cell:=[.w,.w,.w,.w,.w]
@[reducible] def rq:List Cell:=iU
variable {t:HL rq}
@[reducible] def tB:List Cell:=jb
@[reducible] def uC:List Cell:=k6
@[reducible] def qwi:List Cell:=[.w,.w,.w,.w,.w,.w,.w,.w,.w,.w,.w,.int .u8]
@[reducible] def IC:List Cell:=AT

def qgS{a0 a1:Int}{K:Sl->WP}(hF:JP #[.w a0,.w a1] 43 w λa b=>nz 3 ([.i 0]) 1 8 16 16 b λc d=>ld (.w) (dm a) d.drew λ(e:Int)=>ld (.w) (dm a 1) d.drew λ(f:Int)=>loop (KR) (λg (h:KR) i=>JQ (h.2.2>=0) (idx c h.2.2 1 λj=>st j [.i (wrap .i64 (Int.tmod h.1 256))] i λk=>idx c (wrap .i64 (8+h.2.2)) 1 λl=>st l [.i (wrap .i64 (Int.tmod h.2.1 256))] k λm=>g (wrap .u64 (Int.tdiv h.1 256),wrap .u64 (Int.tdiv h.2.1 256),wrap .i64 (h.2.2-1)) m) (K c i)) (e,f,7) d.drew):cW 40 [dk a0 a1] dp w K:=JV (aS [(6,.l [(4,.one (.w)),(5,.one (.w)),(6,.one .i)])]) func40 hF

def qgT{d:Sl}{K:KI->WP}(hF:JP dc 43 w λa b=>JP dc 43 b λc e=>st (dm c) [.w 0,.w 0] e λf=>loop (Int) (λg (h:Int) i=>JQ (h<8) (ld (.w) (dm c) i.drew λ(j:Int)=>idx d h 1 λk=>ld .i k i.drew λ(l:Int)=>st (dm c) [.w (wrap .u64 (wrap .u64 (j*256)+wrap .u64 l))] i.drew λm=>ld (.w) (dm c 1) m.drew λ(n:Int)=>idx d (wrap .i64 (8+h)) 1 λo=>ld .i o m.drew λ(p:Int)=>st (dm c 1) [.w (wrap .u64 (wrap .u64 (n*256)+wrap .u64 p))] m.drew λq=>g (wrap .i64 (h+1)) q) (dT dl (dm c) i λr=>st (dm a) [.w r.1,.w r.2] i λs=>dT dl (dm a) s λt=>K t s)) 0 f):cW 41 [d.v] [.agg dl] w K:=JV (aS [(4,.l [(4,.one .i)])]) func41 hF

def qjh{a0 a1 b0 b1:Int}{K:(KI×Bool)->WP}(hF:JP #[.w a0,.w a1] 43 w λb c=>JP #[.w b0,.w b1] 43 c λd e=>JP dc 43 e λf g=>dT dl (dm b) g.drew λh=>dT dl (dm d) g.drew λi=>cW 40 [dk h.1 h.2] dp g.drew λj k=>held [gG (dm d) 0 ([.w i.1,.w i.2])] k<|cW 40 [dk i.1 i.2] dp k λm n=>loop (KI) (λo (p:KI) q=>JQ (p.2>=0) (idx j p.2 1 λr=>ld .i r q.drew λ(s:Int)=>idx m p.2 1 λt=>ld .i t q.drew λ(u:Int)=>idx j p.2 1 λv=>st v [.i (Int.tmod (wrap .i64 (wrap .i64 (s+u)+p.1)) 256)] q.drew λx=>o (wrap .i64 (Int.tdiv (wrap .i64 (wrap .i64 (s+u)+p.1)) 256),wrap .i64 (p.2-1)) x) (JQ (p.1>0) (st (dm f) [.w 0,.w 0] q λy=>dT dl (dm f) y λz=>K (z,false) y) (cW 41 [j.v] [.agg dl] q λ(A:KI) B=>st (dm f) [.w A.1,.w A.2] B λC=>dT dl (dm f) C λD=>K (D,true) C))) (0,15) n):cW 14 [dk a0 a1,dk b0 b1] [.agg dl,.one .bool] w K:=JV (aS [(2,.o [[0,2,1,3,4,5]]),(3,.l [(8,.one .i),(9,.one .i)])]) func14 hF

def qji{a0 a1 b0 b1:Int}{K:(KI×Bool)->WP}(hF:JP #[.w a0,.w a1] 43 w λb c=>JP #[.w b0,.w b1] 43 c λd e=>JP dc 43 e λf g=>dT dl (dm b) g.drew λh=>dT dl (dm d) g.drew λi=>cW 40 [dk h.1 h.2] dp g.drew λj k=>held [gG (dm d) 0 ([.w i.1,.w i.2])] k<|cW 40 [dk i.1 i.2] dp k λm n=>loop (KI) (λo (p:KI) q=>JQ (p.2>=0) (idx j p.2 1 λr=>ld .i r q.drew λ(s:Int)=>idx m p.2 1 λt=>ld .i t q.drew λ(u:Int)=>join (KI) (λv=>JQ (wrap .i64 (wrap .i64 (s-u)-p.1)<0) (v (1,wrap .i64 (wrap .i64 (wrap .i64 (s-u)-p.1)+256)) q.drew) (v (0,wrap .i64 (wrap .i64 (s-u)-p.1)) q.drew)) λ(x:KI) y=>idx j p.2 1 λz=>st z [.i x.2] y λA=>o (x.1,wrap .i64 (p.2-1)) A) (JQ (p.1>0) (st (dm f) [.w 0,.w 0] q λB=>dT dl (dm f) B λC=>K (C,false) B) (cW 41 [j.v] [.agg dl] q λ(D:KI) E=>st (dm f) [.w D.1,.w D.2] E λF=>dT dl (dm f) F λG=>K (G,true) F))) (0,15) n):cW 90 [dk a0 a1,dk b0 b1] [.agg dl,.one .bool] w K:=JV (aS [(2,.o [[0,2,1,3,4,5]]),(3,.l [(8,.one .i),(9,.one .i)]),(6,.j [(8,.one .i),(10,.one .i)])]) func90 hF

def qer{K:((HL qg)×Bool)->WP}(hF:JP (List.toArray (HL.mk fv b)) 36 w λa c=>JP #[.w id0,.w id1] 43 c λd e=>JP c6 47 e λf g=>loop (Int) (λh (i:Int) j=>ld .s (dm a) j λk=>JQ (i<(↑k.len:Int)) (ld .s (dm a) j.drew λl=>idx l i 15 λm=>dT dl m j.drew λn=>dT dl (dm d) j.drew λo=>fM dr (λp=>(do eqGuard BinOp.eql 43 (Operand.tmp 19) (Operand.tmp 20) (dk n.1 n.2) (dk o.1 o.2);binOp BinOp.eql 43 (dk n.1 n.2) (dk o.1 o.2)).run prog p) j.drew λ(q:Bool)=>cond q (ld .s (dm a) j.drew λr=>idx r i 15 λs=>dT (qg) s j.drew λt=>st (dm f) (HL.mk qg t) j.drew λu=>dT (qg) (dm f) u λv=>K (v,true) u) (h (wrap .i64 (i+1)) j.drew)) (st (dm f) [.w 0,.w 0,.w 0,.w 0,.w 0,.w 0,.w 0,.w 0,.w 0,.w 0,.w 0,.u 0,.int .u16 0,.int .u16 0,.w 0] j λx=>dT (qg) (dm f) x λy=>K (y,false) x)) 0 g):cW 64 [fy fv b,dk id0 id1] [.agg qg,.one .bool] w K:=JV (aS [(3,.l [(6,.one .i)])]) func64 hF

def qdk{a:HL qg}(hF:JP (List.toArray (HL.mk fv b)) 36 w λc d=>JP (List.toArray (HL.mk qg a)) 47 d λe f=>JP cy 36 f λg h=>JP #[] 47 h λi j=>ld .s (dm c) j λk=>jM (#[22,22]) 22 #[.slice (pW i) 0 0,k.v] j λl m=>loop (Int) (λn (o:Int) p=>JQ (o<(↑l.len:Int)) (idx l o 15 λq=>dT dl q p.drew λr=>dT dl (dm e) p.drew λs=>fM dr (λt=>(do eqGuard BinOp.eql 43 (Operand.tmp 21) (Operand.tmp 23) (dk r.1 r.2) (dk s.1 s.2);binOp BinOp.eql 43 (dk r.1 r.2) (dk s.1 s.2)).run prog t) p.drew λ(u:Bool)=>cond u (dT (qg) (dm e) p.drew λv=>idx l o 15 λx=>st x (HL.mk qg v) p.drew λy=>st (dm c) [l.v] y λz=>dT (fv) (dm c) z λA=>st (dm g) (HL.mk fv A) z λB=>dT (fv) (dm g) B λC=>K C B) (n (wrap .i64 (o+1)) p.drew)) (dT (qg) (dm e) p λD=>JP (List.toArray (HL.mk qg D)) 47 p λE F=>jM (#[22,22]) 22 #[l.v,.slice (pW E) 1 1] F λG H=>st (dm c) [G.v] H λI=>dT (fv) (dm c) I λJ=>st (dm g) (HL.mk fv J) I λL=>dT (fv) (dm g) L λM=>K M L)) 0 m):cW 23 [fy fv b,fy qg a] [.agg fv] w K:=JV (aS [(4,.l [(6,.one .i)])]) func23 hF

def qdY{K:((List Kw)×Bool)->WP}(hF:JP (List.toArray (HL.mk fv b)) 36 w λa c=>JP #[.w id0,.w id1] 43 c λd e=>fw prog 57 e λf g=>loop (Int) (λh (i:Int) j=>ld .s (dm a 1) j λk=>JQ (i<(↑k.len:Int)) (ld .s (dm a 1) j.drew λl=>idx l i 18 λm=>dT dl m j.drew λn=>dT dl (dm d) j.drew λo=>fM dr (λp=>(do eqGuard BinOp.eql 43 (Operand.tmp 20) (Operand.tmp 21) (dk n.1 n.2) (dk o.1 o.2);binOp BinOp.eql 43 (dk n.1 n.2) (dk o.1 o.2)).run prog p) j.drew λ(q:Bool)=>cond q (ld .s (dm a 1) j.drew λr=>idx r i 18 λs=>iH 18 s j.drew λt=>ig (List.length t=18)<|st (dm f) t j.drew λu=>iH 18 (dm f) u λv=>K (v,true) u) (h (wrap .i64 (i+1)) j.drew)) (fM dF (λx=>(Instr.build 57 #[]).run prog x) j λy=>ig (List.length y=18)<|st (dm f) y j λz=>iH 18 (dm f) z λA=>K (A,false) z)) 0 g):cW 13 [fy fv b,dk id0 id1] du w K:=JV (aS [(3,.l [(6,.one .i)])]) func13 hF

def qii{l:Sl}{m0 m1 m2 m3 m4:Int}{K:Sl->WP}(hF:JP #[.w m0,.w m1,.w m2,.w m3,.w m4] 146 w λb c=>JP #[] 146 c λd e=>jM (#[32,32]) 32 #[.slice (pW d) 0 0,l.v] e λf g=>loop (Int) (λh (i:Int) j=>JQ (i<(↑f.len:Int)) (join (Bool) (λk=>idx f i 5 λm=>dT dl m j.drew λn=>dT dl (dm b) j.drew λo=>fM dr (λp=>(do eqGuard BinOp.eql 43 (Operand.tmp 20) (Operand.tmp 22) (dk n.1 n.2) (dk o.1 o.2);binOp BinOp.eql 43 (dk n.1 n.2) (dk o.1 o.2)).run prog p) j.drew λ(q:Bool)=>cond q (idx f i 5 λr=>ld (.w) (JO r 2) j.drew λ(s:Int)=>ld (.w) (dm b 2) j.drew λ(t:Int)=>k (s==t) j.drew) (k false j.drew)) λ(u:Bool) v=>cond u (dT (E4) (dm b) v λx=>idx f i 5 λy=>st y (HL.mk E4 x) v λz=>K f z) (h (wrap .i64 (i+1)) v)) (dT (E4) (dm b) j λA=>JP (List.toArray (HL.mk E4 A)) 146 j λB C=>jM (#[32,32]) 32 #[f.v,.slice (pW B) 1 1] C λD E=>K D E)) 0 g):cW 68 [l.v,.agg #[.w m0,.w m1,.w m2,.w m3,.w m4]] dp w K:=JV (aS [(4,.l [(6,.one .i)]),(3,.j [(33,.one .bool)])]) func68 hF

def qc6{k:List Kw}(hF:JP (List.toArray (HL.mk fv b)) 36 w λc d=>JP (List.toArray k) 57 d λe f=>JP cy 36 f λg h=>dT (rq) (dm e) h λi=>JP da 55 h λj l=>st (dm j) (HL.mk rq i) l λm=>ld .s (dm c 4) m λn=>dT dl (dm j 2) m λo=>ld (.w) (dm j 15) m λ(p:Int)=>dT dl (dm j) m λq=>cW 68 [n.v,.agg #[.w o.1,.w o.2,.w p,.w q.1,.w q.2]] dp m λr s=>st (dm c 4) [r.v] s λt=>ld .s (dm c 5) t λu=>dT dl (dm j 4) t λv=>ld (.w) (dm j 15) t λ(x:Int)=>dT dl (dm j) t λy=>cW 68 [u.v,.agg #[.w v.1,.w v.2,.w x,.w y.1,.w y.2]] dp t λz A=>st (dm c 5) [z.v] A λB=>JP #[] 57 B λC D=>ld .s (dm c 1) D λE=>jM (#[29,29]) 29 #[.slice (pW C) 0 0,E.v] D λF G=>loop (Int) (λH (I:Int) J=>JQ (I<(↑F.len:Int)) (idx F I 18 λL=>dT dl L J.drew λM=>dT dl (dm j) J.drew λN=>fM dr (λO=>(do eqGuard BinOp.eql 43 (Operand.tmp 47) (Operand.tmp 49) (dk M.1 M.2) (dk N.1 N.2);binOp BinOp.eql 43 (dk M.1 M.2) (dk N.1 N.2)).run prog O) J.drew λ(P:Bool)=>cond P (iH 18 (dm e) J.drew λQ=>idx F I 18 λR=>ig (List.length Q=18)<|st R Q J.drew λS=>st (dm c 1) [F.v] S λT=>dT (fv) (dm c) T λU=>st (dm g) (HL.mk fv U) T λV=>dT (fv) (dm g) V λW=>K W V) (H (wrap .i64 (I+1)) J.drew)) (iH 18 (dm e) J λX=>ig (List.length X=18)<|JP (List.toArray X) 57 J λY Z=>jM (#[29,29]) 29 #[F.v,.slice (pW Y) 1 1] Z λaa ab=>st (dm c 1) [aa.v] ab λac=>dT (fv) (dm c) ac λad=>st (dm g) (HL.mk fv ad) ac λae=>dT (fv) (dm g) ae λaf=>K af ae)) 0 G):cW 26 [fy fv b,.agg k.toArray] [.agg fv] w K:=JV (aS [(7,.l [(7,.one .i)])]) func26 hF

def qeT{K:Int->WP}(hF:JP (List.toArray (HL.mk fv b)) 36 w λa c=>JP #[.w id0,.w id1] 43 c λd e=>loop (Int) (λf (g:Int) h=>ld .s (dm a 2) h λi=>JQ (g<(↑i.len:Int)) (ld .s (dm a 2) h.drew λj=>idx j g 3 λk=>dT dl k h.drew λl=>dT dl (dm d) h.drew λm=>fM dr (λn=>(do eqGuard BinOp.eql 43 (Operand.tmp 18) (Operand.tmp 19) (dk l.1 l.2) (dk m.1 m.2);binOp BinOp.eql 43 (dk l.1 l.2) (dk m.1 m.2)).run prog n) h.drew λ(o:Bool)=>cond o (ld .s (dm a 2) h.drew λp=>idx p g 3 λq=>ld .b (JO q 2) h.drew λ(r:Int)=>K r h.drew) (f (wrap .i64 (g+1)) h.drew)) (K 0 h)) 0 e):cW 51 [fy fv b,dk id0 id1] [.one .b] w K:=JV (aS [(3,.l [(5,.one .i)])]) func51 hF

def qdP{s:Int}(hF:JP (List.toArray (HL.mk fv b)) 36 w λc d=>JP #[.w id0,.w id1] 43 d λe f=>JP cy 36 f λg h=>JP #[] 148 h λi j=>ld .s (dm c 2) j λk=>jM (#[30,30]) 30 #[.slice (pW i) 0 0,k.v] j λl m=>loop (Int) (λn (o:Int) p=>JQ (o<(↑l.len:Int)) (idx l o 3 λq=>dT dl q p.drew λr=>dT dl (dm e) p.drew λt=>fM dr (λu=>(do eqGuard BinOp.eql 43 (Operand.tmp 23) (Operand.tmp 24) (dk r.1 r.2) (dk t.1 t.2);binOp BinOp.eql 43 (dk r.1 r.2) (dk t.1 t.2)).run prog u) p.drew λ(v:Bool)=>cond v (idx l o 3 λx=>st (JO x 2) ([.b s]) p.drew λy=>st (dm c 2) [l.v] y λz=>dT (fv) (dm c) z λA=>st (dm g) (HL.mk fv A) z λB=>dT (fv) (dm g) B λC=>K C B) (n (wrap .i64 (o+1)) p.drew)) (dT dl (dm e) p λD=>JP #[.w D.1,.w D.2,.b s] 148 p λE F=>jM (#[30,30]) 30 #[l.v,.slice (pW E) 1 1] F λG H=>st (dm c 2) [G.v] H λI=>dT (fv) (dm c) I λJ=>st (dm g) (HL.mk fv J) I λL=>dT (fv) (dm g) L λM=>K M L)) 0 m):cW 27 [fy fv b,dk id0 id1,.b s] [.agg fv] w K:=JV (aS [(4,.l [(8,.one .i)])]) func27 hF

def qhY{a0 a1 a2 a3 b0 b1 b2 b3:Int}{K:Bool->WP}(hF:JP #[.w a0,.w a1,.w a2,.w a3] 53 w λa b=>JP #[.w b0,.w b1,.w b2,.w b3] 53 b λc d=>ld (.w) (dm a) d λ(e:Int)=>ld (.w) (dm c) d λ(f:Int)=>JQ (e<f) (K true d) (ld (.w) (dm a) d λ(g:Int)=>ld (.w) (dm c) d λ(h:Int)=>cond (g==h) (ld (.w) (dm a 1) d λ(i:Int)=>ld (.w) (dm c 1) d λ(j:Int)=>K (decide (i<j)) d) (K false d))):cW 71 [.agg #[.w a0,.w a1,.w a2,.w a3],.agg #[.w b0,.w b1,.w b2,.w b3]] dr w K:=JV [] func71 hF

def qeQ{d0 d1 d2 d3:Int}{K:((HL fv)×Bool)->WP}(hF:JP (List.toArray (HL.mk fv b)) 36 w λc d=>JP #[.w d0,.w d1,.w d2,.w d3] 53 d λe f=>JP cy 36 f λg h=>JP #[] 53 h λi j=>loop (KN) (λk (l:KN) m=>ld .s (dm c 3) m λn=>JQ (l.2<(↑n.len:Int)) (join (Sl) (λo=>join (Bool) (λp=>ld .s (dm c 3) m.drew λq=>idx q l.2 4 λr=>ld (.w) r m.drew λ(s:Int)=>ld (.w) (dm e) m.drew λ(t:Int)=>cond (!s==t) (p true m.drew) (ld .s (dm c 3) m.drew λu=>idx u l.2 4 λv=>ld (.w) (JO v 1) m.drew λ(x:Int)=>ld (.w) (dm e 1) m.drew λ(y:Int)=>p (!x==y) m.drew)) λ(z:Bool) A=>cond z (ld .s (dm c 3) A λB=>idx B l.2 4 λC=>dT (tB) C A λD=>JP (List.toArray (HL.mk tB D)) 53 A λE F=>jM (#[31,31]) 31 #[l.1.v,.slice (pW E) 1 1] F λG H=>o G H) (o l.1 A)) λI J=>k (I,wrap .i64 (l.2+1)) J) (ld .s (dm c 3) m λL=>st (dm c 3) [l.1.v] m λM=>dT (fv) (dm c) M λN=>st (dm g) (HL.mk fv N) M λO=>dT (fv) (dm g) O λP=>K (P,decide ((↑l.1.len:Int)<(↑L.len:Int))) O)) ({ a:=pW i,len:=0,cap:=0 },0) j):cW 45 [fy fv b,.agg #[.w d0,.w d1,.w d2,.w d3]] [.agg fv,.one .bool] w K:=JV (aS [(4,.l [(6,.one .slice),(7,.one .i)]),(2,.j [(6,.one .slice)]),(0,.j [(36,.one .bool)])]) func45 hF

def qeR{d0 d1 d2 d3:Int}(hF:JP (List.toArray (HL.mk fv b)) 36 w λc d=>JP #[.w d0,.w d1,.w d2,.w d3] 53 d λe f=>JP cy 36 f λg h=>dT (fv) (dm c) h λi=>dT (tB) (dm e) h λj=>cW 45 [fy fv i,fy tB j] [.agg fv,.one .bool] h λ(k:KG×Bool) l=>st (dm c) (HL.mk fv k.1) l λm=>JP #[] 53 m λn o=>loop (Sl×Bool×Int) (λp (q:Sl×Bool×Int) r=>ld .s (dm c 3) r λs=>JQ (q.2.2<(↑s.len:Int)) (join (Sl×Bool) (λt=>join (Bool) (λu=>cond (!q.2.1) (dT (tB) (dm e) r.drew λv=>ld .s (dm c 3) r.drew λx=>idx x q.2.2 4 λy=>dT (tB) y r.drew λz=>cW 71 [fy tB v,fy tB z] dr r.drew λ(A:Bool) B=>u A B) (u false r.drew)) λ(C:Bool) D=>cond C (dT (tB) (dm e) D λE=>JP (List.toArray (HL.mk tB E)) 53 D λF G=>jM (#[31,31]) 31 #[q.1.v,.slice (pW F) 1 1] G λH I=>t (H,true) I) (t (q.1,q.2.1) D)) λ(J:Sl×Bool) L=>ld .s (dm c 3) L λM=>idx M q.2.2 4 λN=>dT (tB) N L λO=>JP (List.toArray (HL.mk tB O)) 53 L λP Q=>jM (#[31,31]) 31 #[J.1.v,.slice (pW P) 1 1] Q λR S=>p (R,J.2,wrap .i64 (q.2.2+1)) S) (join (Sl) (λT=>cond (!q.2.1) (dT (tB) (dm e) r λU=>JP (List.toArray (HL.mk tB U)) 53 r λV W=>jM (#[31,31]) 31 #[q.1.v,.slice (pW V) 1 1] W λX Y=>T X Y) (T q.1 r)) λZ aa=>st (dm c 3) [Z.v] aa λab=>dT (fv) (dm c) ab λac=>st (dm g) (HL.mk fv ac) ab λad=>dT (fv) (dm g) ad λae=>K ae ad)) ({ a:=pW n,len:=0,cap:=0 },false,0) o):cW 31 [fy fv b,.agg #[.w d0,.w d1,.w d2,.w d3]] [.agg fv] w K:=JV (aS [(6,.l [(5,.one .slice),(6,.one .bool),(7,.one .i)]),(3,.j [(5,.one .slice),(6,.one .bool)]),(0,.j [(32,.one .bool)]),(2,.j [(5,.one .slice)])]) func31 hF

def qf7{J0:Int}{K:Sl->WP}(hF:JP (List.toArray (HL.mk fv b)) 36 w λc d=>JP #[] 53 d λe f=>loop (KN) (λg (h:KN) i=>join (Bool) (λj=>ld .s (dm c 3) i λk=>JQ (h.2<(↑k.len:Int)) (j (decide ((↑h.1.len:Int)<most)) i) (j false i)) λ(l:Bool) m=>cond l (join (Sl) (λn=>ld .s (dm c 3) m λo=>idx o h.2 4 λp=>ld (.w) p m λ(q:Int)=>JQ (q<=J0) (ld .s (dm c 3) m λr=>idx r h.2 4 λs=>dT (tB) s m λt=>JP (List.toArray (HL.mk tB t)) 53 m λu v=>jM (#[31,31]) 31 #[h.1.v,.slice (pW u) 1 1] v λx y=>n x y) (n h.1 m)) λz A=>g (z,wrap .i64 (h.2+1)) A) (K h.1 m)) ({ a:=pW e,len:=0,cap:=0 },0) f):cW 43 [fy fv b,.w J0,.i most] dp w K:=JV ([.n,.n,.n,.n,.l [(7,.one .slice),(8,.one .i)],.n,.j [(20,.one .bool)],.j [(7,.one .slice)]]) func43 hF

def qeS{account0 account1:Int}{r:HL uC}(hF:JP (List.toArray (HL.mk fv b)) 36 w λc d=>JP #[.w account0,.w account1] 43 d λe f=>JP (List.toArray (HL.mk uC r)) 128 f λg h=>JP cy 36 h λi j=>JP #[] 184 j λk l=>ld .s (dm c 6) l λm=>jM (#[33,33]) 33 #[.slice (pW k) 0 0,m.v] l λn o=>loop (Int) (λp (q:Int) s=>JQ (q<(↑n.len:Int)) (join (Bool) (λt=>idx n q 12 λu=>dT dl u s.drew λv=>dT dl (dm e) s.drew λx=>fM dr (λy=>(do eqGuard BinOp.eql 43 (Operand.tmp 23) (Operand.tmp 24) (dk v.1 v.2) (dk x.1 x.2);binOp BinOp.eql 43 (dk v.1 v.2) (dk x.1 x.2)).run prog y) s.drew λ(z:Bool)=>cond z (idx n q 12 λA=>ld (.w) (⟨(Addr.add (Addr.add A 2) 0).block,(Addr.add (Addr.add A 2) 0).off+8,none⟩) s.drew λ(B:Int)=>ld (.w) (⟨(Addr.add (dm g) 0).block,(Addr.add (dm g) 0).off+8,none⟩) s.drew λ(C:Int)=>t (B==C) s.drew) (t false s.drew)) λ(D:Bool) E=>cond D (dT (uC) (dm g) E λF=>idx n q 12 λG=>st (JO G 2) (HL.mk uC F) E λH=>st (dm c 6) [n.v] H λI=>dT (fv) (dm c) I λJ=>st (dm i) (HL.mk fv J) I λL=>dT (fv) (dm i) L λM=>K M L) (p (wrap .i64 (q+1)) E)) (dT dl (dm e) s λN=>dT (uC) (dm g) s λO=>JP #[.w N.1,.w N.2,.w O.1,.w O.2.1,.w O.2.2.1,.w O.2.2.2.1,.w O.2.2.2.2.1,.w O.2.2.2.2.2.1,.w O.2.2.2.2.2.2.1,.w O.2.2.2.2.2.2.2.1,.w O.2.2.2.2.2.2.2.2.1,.b O.2.2.2.2.2.2.2.2.2] 184 s λP Q=>jM (#[33,33]) 33 #[n.v,.slice (pW P) 1 1] Q λR S=>st (dm c 6) [R.v] S λT=>dT (fv) (dm c) T λU=>st (dm i) (HL.mk fv U) T λV=>dT (fv) (dm i) V λW=>K W V)) 0 o):cW 55 [fy fv b,dk account0 account1,fy uC r] [.agg fv] w K:=JV (aS [(4,.l [(8,.one .i)]),(3,.j [(38,.one .bool)])]) func55 hF

def qfK{account0 account1 from_ to:Int}{down:Bool}{K:Sl->WP}(hF:JP (List.toArray (HL.mk fv b)) 36 w λc d=>JP #[.w account0,.w account1] 43 d λe f=>JP #[] 128 f λg h=>loop (KN) (λi (j:KN) k=>ld .s (dm c 6) k λl=>JQ (j.2<(↑l.len:Int)) (join (Sl) (λm=>ld .s (dm c 6) k λn=>idx n j.2 12 λo=>dT (qwi) o k λp=>JP #[.w 0,.w 0,.w 0,.w 0,.w 0,.w 0,.w 0,.w 0,.w 0,.w 0,.w 0,.b 0] 184 k λq r=>st (dm q) (HL.mk qwi p) r λs=>ld (.w) (⟨(Addr.add (Addr.add (dm q) 2) 0).block,(Addr.add (Addr.add (dm q) 2) 0).off+8,none⟩) s λ(t:Int)=>join (Bool) (λu=>dT dl (dm q) s λv=>dT dl (dm e) s λx=>fM dr (λy=>(do eqGuard BinOp.neq 43 (Operand.tmp 35) (Operand.tmp 36) (dk v.1 v.2) (dk x.1 x.2);binOp BinOp.neq 43 (dk v.1 v.2) (dk x.1 x.2)).run prog y) s λ(z:Bool)=>cond z (u true s) (JQ (t<from_) (u true s) (u (decide (t>to)) s))) λ(A:Bool) B=>cond A (m j.1 B) (loop (Int) (λC (D:Int) E=>join (Bool) (λF=>JQ (D>0) (idx j.1 (wrap .i64 (D-1)) 10 λG=>ld (.w) (⟨(Addr.add G 0).block,(Addr.add G 0).off+8,none⟩) E λ(H:Int)=>F (!decide (H>t)==down) E) (F false E)) λ(I:Bool) J=>cond I (C (wrap .i64 (D-1)) J) (JP #[] 128 J λL M=>gb j.1 (some D) none none 10 λN=>jM (#[120,120]) 120 #[.slice (pW L) 0 0,N.v] M λO P=>gb j.1 none (some D) none 10 λQ=>dT (uC) (dm q 2) P.drew λR=>JP (List.toArray (HL.mk uC R)) 128 P.drew λS T=>jM (#[120,120]) 120 #[Q.v,.slice (pW S) 1 1] T λU V=>jM (#[120,120]) 120 #[U.v,O.v] V λW X=>m W X)) (↑j.1.len:Int) B)) λY Z=>i (Y,wrap .i64 (j.2+1)) Z) (K j.1 k)) ({ a:=pW g,len:=0,cap:=0 },0) h):cW 48 [fy fv b,dk account0 account1,.w from_,.w to,.bool down] dp w K:=JV (aS [(4,.l [(11,.one .slice),(12,.one .i)]),(2,.j [(11,.one .slice)]),(3,.j [(47,.one .bool)]),(2,.l [(15,.one .i)]),(1,.j [(64,.one .bool)]),(1,.o [[0,1,2,3,4,7,5,6,8,9]])]) func48 hF

def qeP{K:(HL IC)->WP}(hF:JP (List.toArray (HL.mk fv b)) 36 w λa c=>JP dj 118 c λd e=>join (Int) (λf=>ld .bool (dm a 8) e λ(g:Bool)=>cond g (f 1 e) (f 0 e)) λ(h:Int) i=>ld .s (dm a) i λj=>ld .s (dm a 1) i λk=>ld .s (dm a 2) i λl=>ld .s (dm a 3) i λm=>ld .s (dm a 4) i λn=>ld .s (dm a 5) i λo=>ld .s (dm a 6) i λp=>st (dm d) [.u (wrap .u32 (↑j.len:Int)),.u (wrap .u32 (↑k.len:Int)),.u (wrap .u32 (↑l.len:Int)),.u (wrap .u32 (↑m.len:Int)),.u (wrap .u32 (↑n.len:Int)),.u (wrap .u32 (↑o.len:Int)),.u (wrap .u32 (↑p.len:Int)),.u h] i λq=>dT (IC) (dm d) q λr=>K r q):cW 47 [fy fv b] [.agg IC] w K:=JV ([.n,.n,.j [(3,.one .u)]]) func47 hF

def qjj{flags bit:Int}{K:Bool->WP}(hF:ig (bit≠0)<|K (Int.tmod (wrap .u16 (Int.tdiv flags bit)) 2==1) w):cW 54 [.int .u16 flags,.int .u16 bit] dr w K:=JV [] func54 hF

def qgV{flags:Int}{is:Bool}{K:Int->WP}(hF:cW 54 [.int .u16 flags,.int .u16 16] dr w λ(a:Bool) b=>join (Bool) (λc=>cond is (c (!a) b) (c false b)) λ(d:Bool) e=>cond d (K (wrap .u16 (flags+16)) e) (join (Bool) (λf=>cond (!is) (f a e) (f false e)) λ(g:Bool) h=>cond g (K (wrap .u16 (flags-16)) h) (K flags h))):cW 67 [.int .u16 flags,.bool is] dH w K:=JV (aS [(3,.j [(12,.one .bool)]),(2,.j [(19,.one .bool)])]) func67 hF

def qij{amount0 amount1:Int}{K:((List Kw)×Bool)->WP}(hF:JP (List.toArray (HL.mk rq t)) 55 w λa b=>JP #[.w amount0,.w amount1] 43 b λc d=>JP (List.toArray p) 74 d λe f=>fw prog 74 f λg h=>join (Bool×Bool) (λi=>ld (.int .u16) (dm a 14) h λ(j:Int)=>cW 54 [.int .u16 j,.int .u16 2] dr h λ(k:Bool) l=>cond k (dT dl (⟨(Addr.add (dm e) 0).block,(Addr.add (dm e) 0).off+2,none⟩) l λm=>dT dl (dm c) l λn=>cW 14 [dk m.1 m.2,dk n.1 n.2] [.agg dl,.one .bool] l λ(o:KI×Bool) q=>st (⟨(Addr.add (dm e) 0).block,(Addr.add (dm e) 0).off+2,none⟩) [.w o.1.1,.w o.1.2] q λr=>dT dl (⟨(Addr.add (dm e) 15).block,(Addr.add (dm e) 15).off+6,none⟩) r λs=>dT dl (dm c) r λu=>cW 14 [dk s.1 s.2,dk u.1 u.2] [.agg dl,.one .bool] r λ(v:KI×Bool) x=>st (⟨(Addr.add (dm e) 15).block,(Addr.add (dm e) 15).off+6,none⟩) [.w v.1.1,.w v.1.2] x λy=>i (o.2,v.2) y) (dT dl (⟨(Addr.add (dm e) 0).block,(Addr.add (dm e) 0).off+4,none⟩) l λz=>dT dl (dm c) l λA=>cW 14 [dk z.1 z.2,dk A.1 A.2] [.agg dl,.one .bool] l λ(B:KI×Bool) C=>st (⟨(Addr.add (dm e) 0).block,(Addr.add (dm e) 0).off+4,none⟩) [.w B.1.1,.w B.1.2] C λD=>dT dl (⟨(Addr.add (dm e) 15).block,(Addr.add (dm e) 15).off+8,none⟩) D λE=>dT dl (dm c) D λF=>cW 14 [dk E.1 E.2,dk F.1 F.2] [.agg dl,.one .bool] D λ(G:KI×Bool) H=>st (⟨(Addr.add (dm e) 15).block,(Addr.add (dm e) 15).off+8,none⟩) [.w G.1.1,.w G.1.2] H λI=>i (B.2,G.2) I)) λ(J:Bool×Bool) L=>join (Bool) (λM=>cond (!J.1) (M true L) (M (!J.2) L)) λ(N:Bool) O=>cond N (fM dF (λP=>(Instr.build 74 #[]).run prog P) O λQ=>ig (List.length Q=32)<|st (dm g) Q O λR=>iH 32 (dm g) R λS=>K (S,false) R) (join (PUnit) (λT=>ld (.int .u16) (dm a 14) O λ(U:Int)=>cW 54 [.int .u16 U,.int .u16 64] dr O λ(V:Bool) W=>cond V (ld (.int .u16) (⟨(Addr.add (dm e) 0).block,(Addr.add (dm e) 0).off+13,none⟩) W λ(X:Int)=>cW 67 [.int .u16 X,.bool true] dH W λ(Y:Int) Z=>st (⟨(Addr.add (dm e) 0).block,(Addr.add (dm e) 0).off+13,none⟩) [.int .u16 Y] Z λaa=>T () aa) (T () W)) λ(ab:PUnit) ac=>join (PUnit) (λad=>ld (.int .u16) (dm a 14) ac λ(ae:Int)=>cW 54 [.int .u16 ae,.int .u16 128] dr ac λ(af:Bool) ag=>cond af (ld (.int .u16) (⟨(Addr.add (dm e) 15).block,(Addr.add (dm e) 15).off+13,none⟩) ag λ(ah:Int)=>cW 67 [.int .u16 ah,.bool true] dH ag λ(ai:Int) aj=>st (⟨(Addr.add (dm e) 15).block,(Addr.add (dm e) 15).off+13,none⟩) [.int .u16 ai] aj λak=>ad () ak) (ad () ag)) λ(al:PUnit) am=>iH 32 (dm e) am λan=>ig (List.length an=32)<|st (dm g) an am λao=>iH 32 (dm g) ao λap=>K (ap,true) ao)):cW 25 [fy rq t,dk amount0 amount1,.agg p.toArray] du w K:=JV (aS [(2,.j [(8,.one .bool),(9,.one .bool)]),(4,.j [(58,.one .bool)]),(1,.j []),(1,.j [])]) func25 hF
abbrev zf5 (K:((List Kw)×Bool)->WP) (w_21:Kv) (r_7:Nat):Prop:=fM dF (λa=>(Instr.build 74 #[]).run prog a) w_21 λb=>ig (List.length b=32)<|st (dm r_7) b w_21 λc=>iH 32 (dm r_7) c λd=>K (d,false) c

def qgU{amount0 amount1:Int}{post:Bool}{K:((List Kw)×Bool)->WP}(hF:JP (List.toArray (HL.mk rq t)) 55 w λa b=>JP #[.w amount0,.w amount1] 43 b λc d=>JP (List.toArray p) 74 d λe f=>fw prog 74 f λg h=>dT dl (⟨(Addr.add (dm e) 0).block,(Addr.add (dm e) 0).off+2,none⟩) h λi=>dT dl (dm a 6) h λj=>cW 90 [dk i.1 i.2,dk j.1 j.2] [.agg dl,.one .bool] h λ(k:KI×Bool) l=>st (⟨(Addr.add (dm e) 0).block,(Addr.add (dm e) 0).off+2,none⟩) [.w k.1.1,.w k.1.2] l λm=>dT dl (⟨(Addr.add (dm e) 15).block,(Addr.add (dm e) 15).off+6,none⟩) m λn=>dT dl (dm a 6) m λo=>cW 90 [dk n.1 n.2,dk o.1 o.2] [.agg dl,.one .bool] m λ(q:KI×Bool) r=>st (⟨(Addr.add (dm e) 15).block,(Addr.add (dm e) 15).off+6,none⟩) [.w q.1.1,.w q.1.2] r λs=>join (Bool) (λu=>cond (!k.2) (u true s) (u (!q.2) s)) λ(v:Bool) x=>cond v (zf5 K x g) (cond post (dT dl (⟨(Addr.add (dm e) 0).block,(Addr.add (dm e) 0).off+4,none⟩) x λy=>dT dl (dm c) x λz=>cW 14 [dk y.1 y.2,dk z.1 z.2] [.agg dl,.one .bool] x λ(A:KI×Bool) B=>st (⟨(Addr.add (dm e) 0).block,(Addr.add (dm e) 0).off+4,none⟩) [.w A.1.1,.w A.1.2] B λC=>dT dl (⟨(Addr.add (dm e) 15).block,(Addr.add (dm e) 15).off+8,none⟩) C λD=>dT dl (dm c) C λE=>cW 14 [dk D.1 D.2,dk E.1 E.2] [.agg dl,.one .bool] C λ(F:KI×Bool) G=>st (⟨(Addr.add (dm e) 15).block,(Addr.add (dm e) 15).off+8,none⟩) [.w F.1.1,.w F.1.2] G λH=>join (Bool) (λI=>cond (!A.2) (I true H) (I (!F.2) H)) λ(J:Bool) L=>cond J (zf5 K L g) (iH 32 (dm e) L λM=>ig (List.length M=32)<|st (dm g) M L λN=>iH 32 (dm g) N λO=>K (O,true) N)) (join (PUnit) (λP=>ld (.int .u16) (dm a 14) x λ(Q:Int)=>cW 54 [.int .u16 Q,.int .u16 64] dr x λ(R:Bool) S=>cond R (ld (.int .u16) (⟨(Addr.add (dm e) 0).block,(Addr.add (dm e) 0).off+13,none⟩) S λ(T:Int)=>cW 67 [.int .u16 T,.bool false] dH S λ(U:Int) V=>st (⟨(Addr.add (dm e) 0).block,(Addr.add (dm e) 0).off+13,none⟩) [.int .u16 U] V λW=>P () W) (P () S)) λ(X:PUnit) Y=>join (PUnit) (λZ=>ld (.int .u16) (dm a 14) Y λ(aa:Int)=>cW 54 [.int .u16 aa,.int .u16 128] dr Y λ(ab:Bool) ac=>cond ab (ld (.int .u16) (⟨(Addr.add (dm e) 15).block,(Addr.add (dm e) 15).off+13,none⟩) ac λ(ad:Int)=>cW 67 [.int .u16 ad,.bool false] dH ac λ(ae:Int) af=>st (⟨(Addr.add (dm e) 15).block,(Addr.add (dm e) 15).off+13,none⟩) [.int .u16 ae] af λag=>Z () ag) (Z () ac)) λ(ah:PUnit) ai=>iH 32 (dm e) ai λaj=>ig (List.length aj=32)<|st (dm g) aj ai λak=>iH 32 (dm g) ak λal=>K (al,true) ak))):cW 44 [fy rq t,dk amount0 amount1,.bool post,.agg p.toArray] du w K:=JV (aS [(5,.j [(39,.one .bool)]),(6,.j [(67,.one .bool)]),(2,.j []),(1,.j [])]) func44 hF

def qf8{K:KU->WP}(hF:JP (List.toArray (HL.mk rq t)) 55 w λa b=>ld .u (dm a 11) b λ(c:Int)=>cond (c==0) (K (0,false) b) (ld (.w) (dm a 15) b λ(d:Int)=>ld .u (dm a 11) b λ(e:Int)=>cW 14 [.agg #[.w 0,.w d],.agg #[.w 0,.w (wrap .u64 e)]] [.agg dl,.one .bool] b λ(f:KI×Bool) g=>JP dc 43 g λh i=>st (dm h) [.w f.1.1,.w f.1.2] i λj=>ld (.w) (dm h) j λ(k:Int)=>JQ (k>0) (K (0,false) j) (ld (.w) (dm h 1) j λ(l:Int)=>K (l,true) j))):cW 30 [fy rq t] dP w K:=JV [] func30 hF

def qjk{a:HL qg}{side stamp:Int}{K:(HL uC)->WP}(hF:JP (List.toArray (HL.mk qg a)) 47 w λb c=>JP de 128 c λd e=>dT dl (dm b 2) e λf=>dT dl (dm b 4) e λg=>dT dl (dm b 6) e λh=>dT dl (dm b 8) e λi=>st (dm d) [.w f.1,.w f.2,.w g.1,.w g.2,.w h.1,.w h.2,.w i.1,.w i.2,.w stamp,.b side] e λj=>dT (uC) (dm d) j λk=>K k j):cW 56 [fy qg a,.b side,.w stamp] [.agg uC] w K:=JV [] func56 hF

def qik{stamp:Int}(hF:JP (List.toArray (HL.mk fv b)) 36 w λa c=>JP (List.toArray p) 74 c λd e=>JP cy 36 e λf g=>dT (fv) (dm a) g λh=>dT (qg) (dm d) g λi=>cW 23 [fy fv h,fy qg i] [.agg fv] g λ(j:KG) k=>st (dm a) (HL.mk fv j) k λl=>dT (fv) (dm a) l λm=>dT (qg) (dm d 15) l λn=>cW 23 [fy fv m,fy qg n] [.agg fv] l λ(o:KG) q=>st (dm a) (HL.mk fv o) q λr=>join (PUnit) (λs=>ld (.int .u16) (⟨(Addr.add (dm d) 0).block,(Addr.add (dm d) 0).off+13,none⟩) r λ(t:Int)=>cW 54 [.int .u16 t,.int .u16 8] dr r λ(u:Bool) v=>cond u (dT (fv) (dm a) v.drew λx=>dT dl (dm d) v.drew λy=>dT (qg) (dm d) v.drew λz=>cW 56 [fy qg z,.b 1,.w stamp] [.agg uC] v.drew λ(A:KO) B=>held [gG (dm d) 0 ([.w y.1,.w y.2]),gG (dm a) 0 (HL.mk fv x)] B<|cW 55 [fy fv x,dk y.1 y.2,fy uC A] [.agg fv] B λ(E:KG) F=>st (dm a) (HL.mk fv E) F λG=>s () G) (s () v)) λ(H:PUnit) I=>join (PUnit) (λJ=>ld (.int .u16) (⟨(Addr.add (dm d) 15).block,(Addr.add (dm d) 15).off+13,none⟩) I λ(L:Int)=>cW 54 [.int .u16 L,.int .u16 8] dr I λ(M:Bool) N=>cond M (dT (fv) (dm a) N.drew λO=>dT dl (dm d 15) N.drew λP=>dT (qg) (dm d 15) N.drew λQ=>cW 56 [fy qg Q,.b 2,.w stamp] [.agg uC] N.drew λ(R:KO) S=>held [gG (dm d 15) 0 ([.w P.1,.w P.2]),gG (dm a) 0 (HL.mk fv O)] S<|cW 55 [fy fv O,dk P.1 P.2,fy uC R] [.agg fv] S λ(V:KG) W=>st (dm a) (HL.mk fv V) W λX=>J () X) (J () N)) λ(Y:PUnit) Z=>dT (fv) (dm a) Z λaa=>st (dm f) (HL.mk fv aa) Z λab=>dT (fv) (dm f) ab λac=>K ac ab):cW 19 [fy fv b,.agg p.toArray,.w stamp] [.agg fv] w K:=JV (aS [(3,.j []),(2,.j [])]) func19 hF

def qgp{debit0 debit1 credit0 credit1:Int}{K:(List Kw)->WP}(hF:JP (List.toArray (HL.mk fv b)) 36 w λa c=>JP #[.w debit0,.w debit1] 43 c λd e=>JP #[.w credit0,.w credit1] 43 e λf g=>fw prog 74 g λh i=>fM dF (λj=>(Instr.build 74 #[]).run prog j) i λk=>fw prog 74 i λl m=>ig (List.length k=32)<|st (dm l) k m λn=>dT (fv) (dm a) n λo=>dT dl (dm d) n λp=>cW 64 [fy fv o,dk p.1 p.2] [.agg qg,.one .bool] n λ(q:KH×Bool) r=>st (dm l) (HL.mk qg q.1) r λs=>st (dm l 30) [.bool q.2] s λt=>dT (fv) (dm a) t λu=>dT dl (dm f) t λv=>cW 64 [fy fv u,dk v.1 v.2] [.agg qg,.one .bool] t λ(x:KH×Bool) y=>st (dm l 15) (HL.mk qg x.1) y λz=>st (dm l 31) [.bool x.2] z λA=>iH 32 (dm l) A λB=>ig (List.length B=32)<|st (dm h) B A λC=>iH 32 (dm h) C λD=>K D C):cW 22 [fy fv b,dk debit0 debit1,dk credit0 credit1] dF w K:=JV [] func22 hF
def Cq (s_57:Sl) (r_60:Nat) (w_61:Kv) (r_1:Nat) (s_6:Sl) (x_9:Int) (X_8:Int->WP):Prop:=jM (#[34,34]) 34 #[s_57.v,.slice (pW r_60) 1 1] w_61 λb c=>st (dm r_1 9) [b.v] c λd=>dT (fv) (dm r_1) d.drew λ(e:KG)=>idx s_6 x_9 4 λf=>dT (tB) f d.drew λ(g:KT)=>cW 45 [fy fv e,fy tB g] [.agg fv,.one .bool] d.drew λ(h:KG×Bool) i=>st (dm r_1) (HL.mk fv h.1) i λj=>X_8 (wrap .i64 (x_9+1)) j
def Di (first:Int) (t_32:List Kw×Bool) (r_34:Nat) (w_35:Kv) (r_1:Nat) (x_9:Int) (r_22:Nat) (s_6:Sl) (X_8:Int->WP):Prop:=ig (List.length t_32.1=32)<|st (dm r_34) t_32.1 w_35 λb=>dT (fv) (dm r_1) b λ(c:KG)=>iH 32 (dm r_34) b λd=>cW 19 [fy fv c,.agg (List.toArray d),.int .u64 (wrap .u64 (first+wrap .u64 x_9))] [.agg fv] b λ(e:KG) f=>st (dm r_1) (HL.mk fv e) f λg=>dT (fv) (dm r_1) g λ(h:KG)=>dT dl (dm r_22) g λ(i:KI)=>cW 27 [fy fv h,dk i.1 i.2,.b 4] [.agg fv] g λ(j:KG) k=>st (dm r_1) (HL.mk fv j) k λl=>(ld .s (dm r_1 9) l.drew λm=>dT dl (dm r_22) l.drew λ(n:KI)=>JP #[] 115 l.drew λo p=>held [gG (dm r_22) 0 ([.int .u64 n.1,.int .u64 n.2]),eA (dm r_1 9) m.v] p<|jM (#[34,34]) 34 #[.slice (pW o) 0 0,m.v] p λs t=>held [gG (dm r_22) 0 ([.int .u64 n.1,.int .u64 n.2])] t<|JP #[.int .u64 n.1,.int .u64 n.2,.int .u64 (wrap .u64 (first+wrap .u64 x_9))] 115 t λv w=>held [eA (dm r_1 9) m.v] w<|Cq s v w r_1 s_6 x_9 X_8)/\((ld .s (dm r_1 9) l.drew λy=>dT dl (dm r_22) l.drew λ(z:KI)=>JP #[] 115 l.drew λA B=>held [gG (dm r_22) 0 ([.int .u64 z.1,.int .u64 z.2]),eA (dm r_1 9) y.v] B<|JP #[.int .u64 z.1,.int .u64 z.2,.int .u64 (wrap .u64 (first+wrap .u64 x_9))] 115 B λE F=>held [eA (dm r_1 9) y.v] F<|jM (#[34,34]) 34 #[.slice (pW A) 0 0,y.v] F λH I=>held [gG (dm r_22) 0 ([.int .u64 z.1,.int .u64 z.2])] I<|Cq H E I r_1 s_6 x_9 X_8)/\(ld .s (dm r_1 9) l.drew λL=>dT dl (dm r_22) l.drew λ(M:KI)=>JP #[.int .u64 M.1,.int .u64 M.2,.int .u64 (wrap .u64 (first+wrap .u64 x_9))] 115 l.drew λN O=>held [eA (dm r_1 9) L.v] O<|JP #[] 115 O λQ R=>held [gG (dm r_22) 0 ([.int .u64 M.1,.int .u64 M.2]),eA (dm r_1 9) L.v] R<|jM (#[34,34]) 34 #[.slice (pW Q) 0 0,L.v] R λU V=>held [gG (dm r_22) 0 ([.int .u64 M.1,.int .u64 M.2])] V<|Cq U N V r_1 s_6 x_9 X_8))
def Fi (first:Int) (t_14:List Kw×Bool) (r_16:Nat) (w_17:Kv) (r_1:Nat) (x_9:Int) (s_6:Sl) (X_8:Int->WP):Prop:=ig (List.length t_14.1=18)<|st (dm r_16) t_14.1 w_17 λa=>dT (rq) (dm r_16) a λ(b:KJ)=>JP da 55 a λc d=>st (dm c) (HL.mk rq b) d λe=>(dT (rq) (dm c) e.drew λ(f:KJ)=>dT (fv) (dm r_1) e.drew λ(g:KG)=>dT dl (dm c 2) e.drew λ(h:KI)=>dT dl (dm c 4) e.drew λ(i:KI)=>cW 22 [fy fv g,dk h.1 h.2,dk i.1 i.2] dF e.drew λj k=>held [gG (dm c) 0 (HL.mk rq f)] k<|cW 44 [fy rq f,.agg dc,.bool false,.agg (List.toArray j)] du k λ(m:List Kw×Bool) n=>fw prog 74 n λo p=>held [gG (dm c 4) 0 ([.w i.1,.w i.2]),gG (dm c 2) 0 ([.w h.1,.w h.2]),gG (dm r_1) 0 (HL.mk fv g),gG (dm c) 0 (HL.mk rq f)] p<|Di first m o p r_1 x_9 c s_6 X_8)/\((dT (rq) (dm c) e.drew λ(u:KJ)=>dT (fv) (dm r_1) e.drew λ(v:KG)=>dT dl (dm c 2) e.drew λ(w:KI)=>dT dl (dm c 4) e.drew λ(x:KI)=>cW 22 [fy fv v,dk w.1 w.2,dk x.1 x.2] dF e.drew λy z=>held [gG (dm c) 0 (HL.mk rq u)] z<|fw prog 74 z λB C=>held [gG (dm c 4) 0 ([.w x.1,.w x.2]),gG (dm c 2) 0 ([.w w.1,.w w.2]),gG (dm r_1) 0 (HL.mk fv v),gG (dm c) 0 (HL.mk rq u)] C<|cW 44 [fy rq u,.agg dc,.bool false,.agg (List.toArray y)] du C λ(H:List Kw×Bool) I=>Di first H B I r_1 x_9 c s_6 X_8)/\(dT (rq) (dm c) e.drew λ(J:KJ)=>dT (fv) (dm r_1) e.drew λ(L:KG)=>dT dl (dm c 2) e.drew λ(M:KI)=>dT dl (dm c 4) e.drew λ(N:KI)=>fw prog 74 e.drew λO P=>held [gG (dm c 4) 0 ([.w N.1,.w N.2]),gG (dm c 2) 0 ([.w M.1,.w M.2]),gG (dm r_1) 0 (HL.mk fv L),gG (dm c) 0 (HL.mk rq J)] P<|cW 22 [fy fv L,dk M.1 M.2,dk N.1 N.2] dF P λU V=>held [gG (dm c) 0 (HL.mk rq J)] V<|cW 44 [fy rq J,.agg dc,.bool false,.agg (List.toArray U)] du V λ(X:List Kw×Bool) Y=>Di first X O Y r_1 x_9 c s_6 X_8))

def qhZ{first:Int}{K:((HL fv)×Int)->WP}(hF:JP (List.toArray (HL.mk fv b)) 36 w λa c=>JP cy 36 c λd e=>dT (fv) (dm a) e λf=>cW 43 [fy fv f,.w first,.i most] dp e λg h=>loop (Int) (λi (j:Int) k=>JQ (j<(↑g.len:Int)) ((dT (fv) (dm a) k.drew λl=>idx g j 4 λm=>dT dl (JO m 2) k.drew λn=>cW 13 [fy fv l,dk n.1 n.2] du k.drew λ(o:List Kw×Bool) p=>fw prog 57 p λq r=>held [gG (JO m 2) 0 ([.w n.1,.w n.2]),gG (dm a) 0 (HL.mk fv l)] r<|Fi first o q r a j g i)/\(dT (fv) (dm a) k.drew λu=>idx g j 4 λv=>dT dl (JO v 2) k.drew λx=>fw prog 57 k.drew λy z=>held [gG (JO v 2) 0 ([.w x.1,.w x.2]),gG (dm a) 0 (HL.mk fv u)] z<|cW 13 [fy fv u,dk x.1 x.2] du z λ(C:List Kw×Bool) D=>Fi first C y D a j g i)) (dT (fv) (dm a) k λE=>st (dm d) (HL.mk fv E) k λF=>dT (fv) (dm d) F λG=>K (G,(↑g.len:Int)) F)) 0 h):cW 16 [fy fv b,.w first,.i most] [.agg fv,.one .i] w K:=JV (aS [(4,.l [(9,.one .i)]),(4,.o [.range 13,[0,1,2,3,4,5,10,6,7,8,9,11,12]]),(2,.o [.range 15,[0,1,2,3,4,5,6,7,12,8,9,10,11,13,14],[0,1,2,3,4,5,6,12,7,8,9,10,11,13,14]]),(3,.o [[1,2,4,5,6,7,8,9,10,0,3,11,12,13,14],[1,2,4,5,6,7,8,9,10,0,11,3,12,13,14],[1,2,4,5,6,7,8,9,10,11,0,3,12,13,14]])]) func16 hF
@[reducible] def jZ:List Cell:=fv
@[reducible] def qp:List Cell:=fV
@[reducible] def qAj:List Cell:=[.int .u8,.int .u8,.w,.w,.int .u32,.int .u8,.int .u16]
@[reducible] def uh:List Cell:=iU
@[reducible] def FG:List Cell:=jb
@[reducible] def BZ:List Cell:=AT
@[reducible] def Ah:List Cell:=k6

def qih{blocks:Int}{K:((Option Addr)×(Option Addr))->WP}(hF:cW 52 [.i blocks] dM w λ(a:KV) b=>cond (Option.isNone a.2) (K (none,none) b) (cW 53 [.p a.2] dE b λc d=>K (c,a.2) d)):cW 18 [.i blocks] dM w K:=JV [] func18 hF

def qf6{in_0 in_1:Sl}{K:Bool->WP}(hF:JP #[in_0.v,in_1.v] 25 w λb c=>ld .s (dm b) c λd=>JQ ((↑d.len:Int)>8) (K true c) (ld .s (dm b 1) c λe=>K (decide ((↑e.len:Int)>25)) c)):cW 7 [.agg #[in_0.v,in_1.v]] dr w K:=JV [] func7 hF
def qdX  (K:Bool->WP) (w:Kv):Prop:=JP #[.w 0,.w 0,.w 0,.w 0,.w 0,.w 0,.w 0,.w 0,.w 0,.w 0,.w 0,.u 0,.int .u16 0,.int .u16 0,.w 0,.w 0,.w 0,.w 0,.w 0,.w 0,.w 0,.w 0,.w 0,.w 0,.w 0,.w 0,.u 0,.int .u16 0,.int .u16 0,.w 0] 47 w λa b=>JP #[.b 0,.b 1,.w 0,.w 2,.u 0,.b 0,.int .u16 0,.b 0,.b 1,.w 0,.w 5,.u 3,.b 0,.int .u16 0] 81 b λc d=>cW 9 [.agg #[.slice (pW a) 2 2,.slice (pW c) 2 2]] [.one .ptr,.agg jZ,.one .bool] d λ(e:Option Addr×KG×Bool) f=>JP cy 36 f λg h=>st (dm g) (HL.mk jZ e.2.1) h λi=>cond (!e.2.2) (K false i) (cW 10 [.p e.1,.w 9,.i 9] dA i λ(j:KI) k=>cW 11 [.pointer e.1,.agg #[.w 0,.w 1]] [.agg qp,.one .bool] k λ(l:KH×Bool) m=>JP c6 47 m λn o=>st (dm n) (HL.mk qp l.1) o λp=>dT (jZ) (dm g) p λ(q:KG)=>cW 16 [fy jZ q,.w 9,.i 9] [.agg jZ,.one .i] p λ(r:KG×Int) s=>JP cy 36 s λt u=>st (dm t) (HL.mk jZ r.1) u λv=>cond (j.2==0) (cond (j.1==1) (cond (r.2==1) (dT dl (dm n 2) v λ(x:KI)=>fM dr (λy=>(do eqGuard BinOp.eql 43 (Operand.tmp 54) (Operand.tmp 55) (dk x.1 x.2) (.agg #[.w 0,.w 2]);binOp BinOp.eql 43 (dk x.1 x.2) (.agg #[.w 0,.w 2])).run prog y) v λ(z:Bool)=>K z v) (K false v)) (K false v)) (K false v))
def qhX{w K}(hF:qdX  K w):cW 8 [] dr w K:=JV [] func8 hF
abbrev zf6 (K:((Option Addr)×(HL jZ)×Bool)->WP) (r_9:Nat) (w_116:Kv) (r_3:Nat):Prop:=dT (jZ) (dm r_9) w_116.drew λ(a:KG)=>st (dm r_3) (HL.mk jZ a) w_116.drew λb=>dT (jZ) (dm r_3) b λ(c:KG)=>K (none,c,false) b
def DR (K:((Option Addr)×(HL jZ)×Bool)->WP) (t_62:List Kw×Bool) (r_64:Nat) (w_65:Kv) (x_44:Int) (s_43:Sl) (x_45:Int) (X_37:Int->WP) (t_35:KI) (x_46:Int) (r_50:Nat) (r_9:Nat) (t_5:KV) (r_3:Nat):Prop:=ig (List.length t_62.1=32)<|st (dm r_64) t_62.1 w_65 λa=>join (Bool) (λb=>cond (Int.tmod (wrap .i64 x_44) (↑s_43.len:Int)==Int.tmod (wrap .i64 x_45) (↑s_43.len:Int)) (b true a) (b (!t_62.2) a)) λ(c:Bool) d=>cond c (X_37 (wrap .u64 (t_35.1+wrap .u64 (1+wrap .u64 x_46))) d) (dT (uh) (dm r_50) d λ(e:KJ)=>dT dl (dm r_50 6) d λ(f:KI)=>fM dF (λg=>(Instr.build 57 #[(0,fy uh e),(1,.agg #[.w f.1,.w f.2])]).run prog g) d λh=>fw prog 57 d λi j=>ig (List.length h=18)<|st (dm i) h j λk=>dT (jZ) (dm r_9) k.drew λ(l:KG)=>dT (qp) (dm r_64) k.drew λ(m:KH)=>dT (qp) (dm r_64 15) k.drew λ(n:KH)=>iH 18 (dm i) k.drew λo=>dT dl (dm r_50) k.drew λ(p:KI)=>cW 23 [fy jZ l,fy qp m] [.agg jZ] k.drew λ(q:KG) r=>held [gG (dm r_50) 0 ([.w p.1,.w p.2]),gG (dm i) 0 o,gG (dm r_64 15) 0 (HL.mk qp n)] r<|cW 23 [fy jZ q,fy qp n] [.agg jZ] r λ(v:KG) w=>held [gG (dm r_50) 0 ([.w p.1,.w p.2]),gG (dm i) 0 o] w<|cW 26 [fy jZ v,.agg (List.toArray o)] [.agg jZ] w λ(z:KG) A=>held [gG (dm r_50) 0 ([.w p.1,.w p.2])] A<|cW 27 [fy jZ z,dk p.1 p.2,.b 1] [.agg jZ] A λ(C:KG) D=>st (dm r_9) (HL.mk jZ C) D λE=>join (Bool) (λF=>dT (qp) (dm r_64) E λ(G:KH)=>cW 24 [.p t_5.1,fy qp G] dq E λ(H:Int) I=>cond (!H==0) (F true I) (dT (qp) (dm r_64 15) I λ(J:KH)=>cW 24 [.p t_5.1,fy qp J] dq I λ(L:Int) M=>cond (!L==0) (F true M) (iH 18 (dm i) M λN=>cW 28 [.p t_5.1,.agg (List.toArray N)] dq M λ(O:Int) P=>cond (!O==0) (F true P) (dT dl (dm r_50) P λ(Q:KI)=>cW 29 [.p t_5.1,dk Q.1 Q.2,.b 1] dq P λ(R:Int) S=>F (!R==0) S)))) λ(T:Bool) U=>cond T (zf6 K r_9 U r_3) (dT (uh) (dm r_50) U λ(V:KJ)=>cW 30 [fy uh V] dP U λ(W:KU) X=>cond W.2 (ld (.w) (dm r_50 15) X λ(Y:Int)=>dT dl (dm r_50) X λ(Z:KI)=>JP df 53 X λaa ab=>st (dm aa) [.w W.1,.w Y,.w Z.1,.w Z.2] ab λac=>dT (jZ) (dm r_9) ac λ(ad:KG)=>dT (FG) (dm aa) ac λ(ae:KT)=>cW 31 [fy jZ ad,fy FG ae] [.agg jZ] ac λ(af:KG) ag=>st (dm r_9) (HL.mk jZ af) ag λah=>dT (FG) (dm aa) ah λ(ai:KT)=>cW 32 [.p t_5.1,fy FG ai] dq ah λ(aj:Int) ak=>cond (!aj==0) (zf6 K r_9 ak r_3) (X_37 (wrap .u64 (t_35.1+wrap .u64 (1+wrap .u64 x_46))) ak)) (X_37 (wrap .u64 (t_35.1+wrap .u64 (1+wrap .u64 x_46))) X)))

def qhW{in_0 in_1:Sl}{K:((Option Addr)×(HL jZ)×Bool)->WP}(hF:JP #[in_0.v,in_1.v] 25 w λb c=>JP cy 36 c λd e=>cW 18 [.i 900] dM e λ(f:KV) g=>cond (Option.isNone f.1) (st (dm d) [.slice none 0 0,.slice none 0 0,.slice none 0 0,.slice none 0 0,.slice none 0 0,.slice none 0 0,.slice none 0 0,.w 0,.bool false,.slice none 0 0] g λh=>dT (jZ) (dm d) h λi=>K (none,i,false) h) (JP cy 36 g λj k=>ld .s (dm b) k λl=>loop (Int) (λm (n:Int) o=>JQ (n<(↑l.len:Int)) (idx l n 15 λp=>dT (qp) p o λq=>JP c6 47 o λr s=>st (dm r) (HL.mk qp q) s λt=>st (dm r) [.w 0,.w (wrap .u64 (wrap .u64 n+1))] t λu=>dT (jZ) (dm j) u λv=>dT (qp) (dm r) u λx=>cW 23 [fy jZ v,fy qp x] [.agg jZ] u λ(y:KG) z=>st (dm j) (HL.mk jZ y) z λA=>dT (qp) (dm r) A λB=>cW 24 [.p f.1,fy qp B] dq A λ(C:Int) D=>cond (!C==0) (dT (jZ) (dm j) D.drew λE=>st (dm d) (HL.mk jZ E) D.drew λF=>dT (jZ) (dm d) F λG=>K (none,G,false) F) (m (wrap .i64 (n+1)) D)) (join (PUnit) (λH=>ld .s (dm b 1) o λI=>loop (KI) (λJ (L:KI) M=>JQ (L.2<(↑I.len:Int)) (join (Int) (λN=>idx I L.2 7 λO=>dT (qAj) O M λP=>JP #[.b 0,.b 0,.w 0,.w 0,.u 0,.b 0,.int .u16 0] 81 M λQ R=>st (dm Q) (HL.mk qAj P) R λS=>ld .s (dm b) S λT=>JQ ((↑T.len:Int)<2) (H () S) (ld .b (dm Q) S.drew λ(U:Int)=>ig ((↑T.len:Int)≠0)<|ld .b (dm Q 1) S.drew λ(V:Int)=>ig ((↑T.len:Int)≠0)<|ld .b (dm Q 5) S.drew λ(W:Int)=>dT dl (dm Q 2) S.drew λX=>ld (.int .u16) (dm Q 6) S.drew λ(Y:Int)=>ld .u (dm Q 4) S.drew λ(Z:Int)=>JP da 55 S.drew λaa ab=>st (dm aa) [.w 1,.w (wrap .u64 L.2),.w 0,.w (wrap .u64 (wrap .u64 (Int.tmod (wrap .i64 U) (↑T.len:Int))+1)),.w 0,.w (wrap .u64 (wrap .u64 (Int.tmod (wrap .i64 V) (↑T.len:Int))+1)),.w X.1,.w X.2,.w 0,.w 0,.w 0,.u Z,.u 0,.int .u16 0,.int .u16 (bits .or .u16 Y 2),.w (wrap .u64 (L.1+wrap .u64 (1+wrap .u64 W)))] ab λac=>(dT (uh) (dm aa) ac.drew λad=>dT dl (dm aa 6) ac.drew λae=>dT (jZ) (dm j) ac.drew λaf=>dT dl (dm aa 2) ac.drew λag=>dT dl (dm aa 4) ac.drew λah=>cW 22 [fy jZ af,dk ag.1 ag.2,dk ah.1 ah.2] dF ac.drew λai aj=>held [gG (dm aa 6) 0 ([.w ae.1,.w ae.2]),gG (dm aa) 0 (HL.mk uh ad)] aj<|cW 25 [fy uh ad,dk ae.1 ae.2,.agg (List.toArray ai)] du aj λ(am:List Kw×Bool) an=>fw prog 74 an λao ap=>held [gG (dm aa 4) 0 ([.w ah.1,.w ah.2]),gG (dm aa 2) 0 ([.w ag.1,.w ag.2]),gG (dm j) 0 (HL.mk jZ af),gG (dm aa 6) 0 ([.w ae.1,.w ae.2]),gG (dm aa) 0 (HL.mk uh ad)] ap<|DR K am ao ap U T V N L W aa j f d)/\((dT (uh) (dm aa) ac.drew λax=>dT dl (dm aa 6) ac.drew λay=>dT (jZ) (dm j) ac.drew λaz=>dT dl (dm aa 2) ac.drew λaA=>dT dl (dm aa 4) ac.drew λaB=>cW 22 [fy jZ az,dk aA.1 aA.2,dk aB.1 aB.2] dF ac.drew λaC aD=>held [gG (dm aa 6) 0 ([.w ay.1,.w ay.2]),gG (dm aa) 0 (HL.mk uh ax)] aD<|fw prog 74 aD λaG aH=>held [gG (dm aa 4) 0 ([.w aB.1,.w aB.2]),gG (dm aa 2) 0 ([.w aA.1,.w aA.2]),gG (dm j) 0 (HL.mk jZ az),gG (dm aa 6) 0 ([.w ay.1,.w ay.2]),gG (dm aa) 0 (HL.mk uh ax)] aH<|cW 25 [fy uh ax,dk ay.1 ay.2,.agg (List.toArray aC)] du aH λ(aO:List Kw×Bool) aP=>DR K aO aG aP U T V N L W aa j f d)/\(dT (uh) (dm aa) ac.drew λaQ=>dT dl (dm aa 6) ac.drew λaR=>dT (jZ) (dm j) ac.drew λaS=>dT dl (dm aa 2) ac.drew λaT=>dT dl (dm aa 4) ac.drew λaU=>fw prog 74 ac.drew λaV aW=>held [gG (dm aa 4) 0 ([.w aU.1,.w aU.2]),gG (dm aa 2) 0 ([.w aT.1,.w aT.2]),gG (dm j) 0 (HL.mk jZ aS),gG (dm aa 6) 0 ([.w aR.1,.w aR.2]),gG (dm aa) 0 (HL.mk uh aQ)] aW<|cW 22 [fy jZ aS,dk aT.1 aT.2,dk aU.1 aU.2] dF aW λbc bd=>held [gG (dm aa 6) 0 ([.w aR.1,.w aR.2]),gG (dm aa) 0 (HL.mk uh aQ)] bd<|cW 25 [fy uh aQ,dk aR.1 aR.2,.agg (List.toArray bc)] du bd λ(bg:List Kw×Bool) bh=>DR K bg aV bh U T V N L W aa j f d)))) λ(bi:Int) bj=>J (bi,wrap .i64 (L.2+1)) bj) (H () M)) (1,0) o) λ(bk:PUnit) bl=>dT (jZ) (dm j) bl.drew λbm=>st (dm d) (HL.mk jZ bm) bl.drew λbn=>dT (jZ) (dm d) bn λbo=>K (f.1,bo,true) bn)) 0 k)):cW 9 [.agg #[in_0.v,in_1.v]] [.one .ptr,.agg jZ,.one .bool] w K:=JV (aS [(8,.l [(33,.one .i)]),(10,.j []),(1,.l [(10,.one (.w)),(55,.one .i)]),(2,.j [(10,.one (.w))]),(9,.o [.range 16,[0,1,2,3,4,5,6,7,8,13,9,10,11,12,14,15],[0,1,2,3,4,5,6,7,13,8,9,10,11,12,14,15]]),(1,.j [(120,.one .bool)]),(2,.o [[0,1,2,4,5,7,9,10,3,6,8,11,12]]),(1,.j [(161,.one .bool)])]) func9 hF

def qhV{s:Option Addr}{b:HL jZ}{K:Bool->WP}(hF:JP (List.toArray (HL.mk jZ b)) 36 w λc d=>JP #[.bool false] 4 d λe f=>dT (jZ) (dm c) f.drew λg=>cW 46 [.p s] [.agg BZ] f.drew λ(h:Int×Int×Int×Int×Int×Int×Int×Int) i=>held [gG (dm c) 0 (HL.mk jZ g)] i<|cW 47 [fy jZ g] [.agg BZ] i λ(k:Int×Int×Int×Int×Int×Int×Int×Int) l=>fM dr (λm=>(do eqGuard BinOp.neq 118 (Operand.tmp 17) (Operand.tmp 19) (fy BZ h) (fy BZ k);binOp BinOp.neq 118 (fy BZ h) (fy BZ k)).run prog m) l λ(n:Bool)=>cond n (st (dm e) [.bool false] l λo=>i9 ((jK []).run prog o) λp=>ld .bool (dm e) p λ(q:Bool)=>K q p) (ld .s (dm c) l λr=>loop (Int×List Nat) (λt (u:Int×List Nat) v=>JQ (u.1<(↑r.len:Int)) (idx r u.1 15 λx=>dT (qp) x v λy=>JP c6 47 v λz A=>st (dm z) (HL.mk qp y) A λB=>dT dl (dm z) B λC=>cW 11 [.p s,dk C.1 C.2] [.agg qp,.one .bool] B λ(D:KH×Bool) E=>JP c6 47 E λF G=>st (dm F) (HL.mk qp D.1) G λH=>join (Bool) (λI=>cond (!D.2) (I true H) (dT (qp) (dm F) H λJ=>dT (qp) (dm z) H λL=>fM dr (λM=>(do eqGuard BinOp.neq 47 (Operand.tmp 38) (Operand.tmp 39) (fy qp J) (fy qp L);binOp BinOp.neq 47 (fy qp J) (fy qp L)).run prog M) H λ(N:Bool)=>I N H)) λ(O:Bool) P=>cond O (st (dm e) [.bool false] P λQ=>i9 ((jK u.2).run prog Q) λR=>ld .bool (dm e) R λ(S:Bool)=>K S R) (dT (jZ) (dm c) P λT=>dT dl (dm z) P λU=>cW 48 [fy jZ T,dk U.1 U.2,.w 0,.w 18446744073709551615,.bool false] dp P λV W=>JP #[.slice none 0 0] 120 W λX Y=>st (dm X) [V.v] Y λZ=>JP #[.i 0] 3 Z λaa ab=>st (dm aa) [.i 0] ab λac=>dT dl (dm z) ac λad=>cW 49 [.p s,dk ad.1 ad.2,.w 0,.w 18446744073709551615,.bool false] dC ac λ(ae:Kw) af=>kJ prog ae [.agg Ah] (λ(ag:KO) (ah:Kv->(WP)->Prop) (ai:WP) aj ak=>JP de 128 ak λal am=>st (dm al) (HL.mk Ah ag) am λan=>ah an λao=>join (Bool) (λap=>ld .i (dm aa) ao.drew λ(aq:Int)=>ld .s (dm X) ao.drew λar=>JQ (aq>=(↑ar.len:Int)) (ap true ao.drew) (dT (Ah) (dm al) ao.drew λau=>ld .s (dm X) ao.drew λav=>ld .i (dm aa) ao.drew λ(aw:Int)=>idx av aw 10 λax=>dT (Ah) ax ao.drew λay=>fM dr (λaz=>(do eqGuard BinOp.neq 128 (Operand.tmp 56) (Operand.tmp 60) (fy Ah au) (fy Ah ay);binOp BinOp.neq 128 (fy Ah au) (fy Ah ay)).run prog az) ao.drew λ(aA:Bool)=>ap aA ao.drew)) λ(aB:Bool) aC=>cond aB (st (dm e) [.bool false] aC λaD=>aj 0 aD) (ld .i (dm aa) aC λ(aE:Int)=>st (dm aa) [.i (wrap .i64 (aE+1))] aC λaF=>ai aF)) (λaG aH=>ld .i (dm aa) aH λ(aI:Int)=>ld .s (dm X) aH λaJ=>cond (!aI==(↑aJ.len:Int)) (st (dm e) [.bool false] aH λaL=>i9 ((jK (aG::u.2)).run prog aL) λaM=>ld .bool (dm e) aM λ(aN:Bool)=>K aN aM) (t (wrap .i64 (u.1+1),aG::u.2) aH)) [λaO aP=>i9 ((jK (aO::u.2)).run prog aP) λaQ=>ld .bool (dm e) aQ λ(aR:Bool)=>K aR aQ] af)) (ld .s (dm c 1) v λaS=>loop (Int) (λaT (aU:Int) aV=>JQ (aU<(↑aS.len:Int)) (idx aS aU 18 λaW=>iH 18 aW aV λaX=>fw prog 57 aV λaY aZ=>ig (List.length aX=18)<|st (dm aY) aX aZ λba=>dT dl (dm aY) ba λbb=>cW 50 [.p s,dk bb.1 bb.2] du ba λ(bc:List Kw×Bool) bd=>fw prog 57 bd λbe bf=>ig (List.length bc.1=18)<|st (dm be) bc.1 bf λbg=>join (Bool) (λbh=>cond (!bc.2) (bh true bg.drew) (iH 18 (dm be) bg.drew λbi=>iH 18 (dm aY) bg.drew λbj=>fM dr (λbk=>(do eqGuard BinOp.neq 57 (Operand.tmp 88) (Operand.tmp 89) (.agg (List.toArray bi)) (.agg (List.toArray bj));binOp BinOp.neq 57 (.agg (List.toArray bi)) (.agg (List.toArray bj))).run prog bk) bg.drew λ(bl:Bool)=>cond bl (bh true bg.drew) (dT dl (dm aY) bg.drew λbm=>dT (jZ) (dm c) bg.drew λbn=>dT dl (dm aY) bg.drew λbo=>cW 15 [.p s,dk bm.1 bm.2] [.one .b] bg.drew λ(bp:Int) bq=>held [gG (dm aY) 0 ([.w bo.1,.w bo.2]),gG (dm c) 0 (HL.mk jZ bn)] bq<|cW 51 [fy jZ bn,dk bo.1 bo.2] [.one .b] bq λ(bt:Int) bu=>bh (!bp==bt) bu))) λ(bv:Bool) bw=>cond bv (st (dm e) [.bool false] bw λbx=>i9 ((jK u.2).run prog bx) λbz=>ld .bool (dm e) bz λ(bA:Bool)=>K bA bz) (aT (wrap .i64 (aU+1)) bw)) (st (dm e) [.bool true] aV λbB=>i9 ((jK u.2).run prog bB) λbC=>ld .bool (dm e) bC λ(bD:Bool)=>K bD bC)) 0 v)) (0,[]) l)):cW 17 [.p s,fy jZ b] dr w K:=qCn (an:=aS [(3,.o [[0,2,1,3,4]]),(3,.l [(24,.one .i)]),(6,.j [(41,.one .bool)]),(5,.r [.agg [.w,.w,.w,.w,.w,.w,.w,.w,.w,.b]]),(1,.j [(62,.one .bool)]),(6,.l [(73,.one .i)]),(5,.j [(104,.one .bool)]),(0,.o [[0,1,2,3,4,5,6,7,8,9,10,11,13,14,15,16,12,17,18,19]])]) func17 hF

def qeq{in_0 in_1 firsts:Sl}{K:Bool->WP}(hF:JP #[in_0.v,in_1.v] 25 w λb c=>join (Bool) (λd=>dT [.slice,.slice] (dm b) c λe=>cW 7 [.agg #[e.1.v,e.2.v]] dr c λ(f:Bool) g=>cond f (d true g) (d (decide ((↑firsts.len:Int)>20)) g)) λ(h:Bool) i=>cond h (cW 8 [] dr i λ(j:Bool) k=>K j k) (dT [.slice,.slice] (dm b) i λl=>cW 9 [.agg #[l.1.v,l.2.v]] [.one .ptr,.agg jZ,.one .bool] i λ(m:Option Addr×KG×Bool) n=>JP cy 36 n λo p=>st (dm o) (HL.mk jZ m.2.1) p λq=>cond (!m.2.2) (K false q) (loop (Int) (λr (s:Int) t=>JQ (s<(↑firsts.len:Int)) (idx firsts s 1 λu=>ld (.w) u t λ(v:Int)=>cW 10 [.p m.1,.w v,.i (wrap .i64 most)] dA t λ(x:KI) y=>dT (jZ) (dm o) y λz=>cW 16 [fy jZ z,.w v,.i (wrap .i64 most)] [.agg jZ,.one .i] y λ(A:KG×Int) B=>JP cy 36 B λC D=>st (dm C) (HL.mk jZ A.1) D λE=>join (Bool) (λF=>cond (!x.2==0) (F true E) (F (!x.1==A.2) E)) λ(G:Bool) H=>cond G (K false H) (dT (jZ) (dm C) H λI=>st (dm o) (HL.mk jZ I) H λJ=>r (wrap .i64 (s+1)) J)) (cW 8 [] dr t λ(L:Bool) M=>cond L (dT (jZ) (dm o) M λN=>cW 17 [.p m.1,fy jZ N] dr M λ(O:Bool) P=>K O P) (K false M))) 0 q))):cW 5 [.agg #[in_0.v,in_1.v],firsts.v,.b most] dr w K:=JV (aS [(2,.j [(22,.one .bool)]),(7,.l [(34,.one .i)]),(7,.j [(60,.one .bool)])]) func5 hF
end
section
set_option maxRecDepth 100000
open Go Go.Pt
end
section
set_option maxRecDepth 100000
open Go Go.Pt
end
section
set_option maxRecDepth 100000
open Go Go.Pt

def qpU{p:Option Addr}{t:Int}{from_ to:Sl}{down:Bool}{K:Kw->WP}{w:Kv}(hF:JP #[.pointer p] 70 w λb c=>JP #[.i t] 3 c λd e=>JP #[from_.v] 96 e λf g=>JP #[to.v] 96 g λh i=>JP #[.bool down] 4 i λj k=>ld .s (dm f) k.drew λl=>ld .s (dm h) k.drew λm=>cW 89 [l.v] dp k.drew λn o=>held [eA (dm h) m.v] o<|cW 89 [m.v] dp o λr s=>st (dm f) [n.v] s λu=>st (dm h) [r.v] u λv=>K (Value.func (Fn.func 134) #[] #[dQ b,dQ d,dQ f,dQ h,dQ j]) v):cW 92 [.p p,.i t,from_.v,to.v,.bool down] dC w K:=JV ([.n,.n,.o [[0,2,1,3,4,5]]]) func92 hF

def qmt{yield:Kw}{cap0 cap1 cap2 cap3 cap4:Addr}{K:Unit->WP}{w:Kv}(hF:ld .ptr cap0 w λb=>ld .i cap1 w λ(c:Int)=>ld .s cap2 w λd=>ld .s cap3 w λe=>ld .bool cap4 w λ(f:Bool)=>cW 78 [.p b,.i c,d.v,e.v,.bool f] dE w λg h=>cW 79 [.p g] [.agg [.slice,.slice],.one .bool] h λ(i:(Sl×Sl)×Bool) j=>JP dh 105 j λk l=>st (dm k) [i.1.1.v,i.1.2.v] l λm=>loop (Option Addr×Bool) (λn (o:Option Addr×Bool) p=>cond o.2 (nn o.1 λq=>ld .s q p λr=>nn o.1 λs=>ld .s (JO s 1) p λt=>eF prog yield [r.v,t.v] dr p λ(u:Bool) v=>cond (!u) (K () v) (nn o.1 λx=>dT [.slice,.slice] x v λy=>JP dh 105 v λz A=>st (dm z) [y.1.v,y.2.v] A λB=>cW 79 [.p g] [.agg [.slice,.slice],.one .bool] B λ(C:(Sl×Sl)×Bool) D=>st (dm z) [C.1.1.v,C.1.2.v] D λE=>n (pW z,C.2) E)) (K () p)) (pW k,i.2) m):cW 134 [yield,.p (some cap0),.p (some cap1),.p (some cap2),.p (some cap3),.p (some cap4)] [] w K:=JV ([.n,.n,.l [(8,.one .ptr),(9,.one .bool)]]) func134 hF
end
section
open Go Go.Pt Go.Sort List
attribute [local irreducible] ld dT iH pK ku fw st new idx kZ kM gb kV ke nz ig nn call eF inv run fM i9 join loop held ext kJ ft pw pQ pT IntKind.wrap
variable {F R:KD} {K:Bool->WP} {T:Kx} {d:Array Int} {i n pb:Nat} {l:KE} {mb:Kw} {w:Kv}
def lL (d:Array Int):Array Kw:=d.map .u
def qAf(d:Array Int)(i:Nat)(h:i<d.size):(lL d)[i]?=some (.u d[i]!):=by unfold lL;simp[h]
def Fz(d:Array Int):(lL d).size=d.size:=by simp[lL]
def qtU(d:Array Int)(i:Nat)(v:Int):(lL d).setIfInBounds i (.u v)=lL (d.setIfInBounds i v):=by unfold lL;apply Array.ext_getElem?;intro j;simp only[Kt,Array.getElem?_map,Array.size_map];by_cases hj:i=j;subst hj;by_cases hi:i<d.size<;>simp[hi];simp[hj]
structure lZ where
 ty:Kx
 rest:Option (Array Kw)
instance:Coe Kx lZ:=⟨λT=>⟨T,none⟩⟩
def lZ.cells (T:lZ) (c:Array Kw):Array Kw:=match T.rest with|none=>c|some r=>c++r
def lZ.get(T:lZ)(c:Array Kw)(i:Nat)(h:i<c.size):(T.cells c)[i]?=c[i]?:=by unfold lZ.cells;split;rfl;rw[Array.getElem?_append_left h]
def lZ.size(T:lZ)(c:Array Kw):c.size<=(T.cells c).size:=by unfold lZ.cells;split;exact zM _;rw[Array.size_append];omega
def lZ.set(T:lZ)(c:Array Kw)(i:Nat)(v:Kw)(h:i<c.size):(T.cells c).setIfInBounds i v=T.cells (c.setIfInBounds i v):=by unfold lZ.cells;split;rfl;rename_i r _;apply Array.ext_getElem?;intro j;rw[Kt,Array.getElem?_append,Array.getElem?_append,Array.size_append,Array.size_setIfInBounds,Kt];by_cases hij:i=j;subst hij;rw[iP rfl,iP,iP h,iP rfl,iP h];rw[iN hij,iN hij]
structure pg (jz:Nat) (T:lZ) (w0 w:Kv) (d:Array Int):Prop where
 fr:Fr [jz] w0 w
 jz:w.heap[jz]?=some (.c (T.cells (lL d)) T.ty)
def pg.start{jz:Nat}(h:w.heap[jz]?=some (.c (lL d) T)):pg jz T w w d:=⟨.refl _ _,h⟩
section
variable {jz:Nat} {T:lZ} {w0 w:Kv} {d:Array Int} {len cap:Nat}
def pg.drew(h:pg jz T w0 w d):pg jz T w0 w.drew d:=⟨h.fr.drew,h.jz⟩
def pg.rd(h:pg jz T w0 w d)(n:Nat){i:Int}{K:Int->Prop}(hi:i=n)(C:n<len)(E:len<=d.size/\len<=1152921504606846976)(k:K d[n]!): idx ⟨pW jz,len,cap⟩ i 1 λa=>ld .u a w K:=by subst hi;refine qZ oK oK<|jH h.jz d[n]! ?_ k;rw[zJ,xU,xV];rw[lZ.get _ _ _ (by rw[Fz];omega)];exact qAf d n oK
def pg.wr(h:pg jz T w0 w d)(n:Nat){i v:Int}{K:WP}(hi:i=n)(E:n<len)(G:len<=d.size/\len<=1152921504606846976)(k:∀w',pg jz T w0 w' (d.setIfInBounds n v)->K w'): idx ⟨pW jz,len,cap⟩ i 1 λa=>st a [.u v] w K:=by subst hi;refine qZ oK oK ?_;rw[zJ,xU,xV];show st (dm jz n) _ w K;unfold st;refine DC (w:=w) [.u v] n 0 _ w K h.jz rfl (by have:=T.size (lL d);rw[Fz] at this;simp;omega) (k _ ⟨?_,?_⟩);refine h.fr.trans ⟨rfl,rfl,rfl,by rw[wO];exact zM _,λj I C=>?_⟩;rw[qY _ _ _ _ (fl h.jz),iN (oQ C)];rw[qY _ _ _ _ (fl h.jz),iP rfl];simp only[ef,Nat.add_zero];rw[lZ.set _ _ _ _ (by rw[Fz];omega),qtU]
def pg.swap(h:pg jz T w0 w d)(n m:Nat){i j:Int}{K:WP}(hi:i=n)(E:j=m)(G:n<len)(I:m<len)(C:len<=d.size/\len<=1152921504606846976)(k:∀w',pg jz T w0 w' (swp d n m)->K w'): idx ⟨pW jz,len,cap⟩ j 1 λa=>ld .u a w λx=>idx ⟨pW jz,len,cap⟩ i 1 λa=>ld .u a w λy=> idx ⟨pW jz,len,cap⟩ i 1 λa=>st a [.u x] w λw'=>idx ⟨pW jz,len,cap⟩ j 1 λa=>st a [.u y] w' K:=by exact h.rd m E I C<|h.rd n hi G C<|h.wr n hi G C λw1 J=>J.wr m E I (oQ C) λw2 O=>k w2 O
end
def wi(x:Int)(h:-9223372036854775808<=x/\x<=9223372036854775807):IntKind.i64.wrap x=x:=IntWalk.i64_in x h
section
def ux (rb len cap:Nat) (m:Kw):Obj:=.c #[.slice (pW rb) len cap,m] 343
section
variable {pb rb len cap:Nat} {m:Kw} {w0 w:Kv} {d:Array Int} {T:Kx}
def Ic(C:w0.heap[pb]?=some (ux rb len cap m))(u:rb≠pb)(h:pg rb T w0 w d):w.cell? (dm pb)=some (.slice (pW rb) len cap):=by have E:w.heap[pb]?=some (ux rb len cap m):=(by rw[h.fr.block pb (fl C) (by simpa using λe=>u e.symm)];exact C);rw[kD E];rfl
def Ij{k:Nat}(E:w0.heap[pb]?=some (ux rb len cap m))(u:rb≠pb)(h:pg rb T w0 w d)(hi:i<len)(G:k<len)(C:len<=d.size/\len<=1152921504606846976)(I:∀w',pg rb T w0 w' d->K (ltInt d[i]! d[k]!) w'): inv prog (.iface 345 (dQ pb)) "Less" [.i i,.i k] dr w K:=by exact I1 (f:=280) (by kernel_rfl) (e:=341) (by kernel_rfl) (by kernel_rfl) (by kernel_rfl) (by kernel_rfl) (Ic E u h)<|qob (r:=⟨pW rb,len,cap⟩)<|h.drew.rd i rfl hi C<|h.drew.rd k rfl G C<|I _ h.drew
def IU{k:Nat}{K:Unit->WP}(C:w0.heap[pb]?=some (ux rb len cap m))(u:rb≠pb)(h:pg rb T w0 w d)(hi:i<len)(E:k<len)(G:len<=d.size/\len<=1152921504606846976)(I:∀w',pg rb T w0 w' (swp d i k)->K () w'): inv prog (.iface 345 (dQ pb)) "Swap" [.i i,.i k] [] w K:=by exact I1 (f:=281) (by kernel_rfl) (e:=341) (by kernel_rfl) (by kernel_rfl) (by kernel_rfl) (by kernel_rfl) (Ic C u h)<|qod (r:=⟨pW rb,len,cap⟩)<|h.drew.swap i k rfl rfl hi E G I
def qB0{K:Int->WP}(C:w0.heap[pb]?=some (ux rb len cap m))(u:rb≠pb)(h:pg rb T w0 w d)(E:K len w): inv prog (.iface 345 (dQ pb)) "Len" [] dq w K:=by exact I1 (f:=279) (by kernel_rfl) (e:=341) (by kernel_rfl) (by kernel_rfl) (by kernel_rfl) (by kernel_rfl) (Ic C u h)<|qpi (r:=⟨pW rb,len,cap⟩)<|E
end
end
section
def lD (d:Array Int) (n:Nat):Prop:=∀i,0<i->i<n->d[(i-1) / 2]!<=d[i]!
def uB (d:Array Int) (n j:Nat):Prop:=(∀i,0<i->i<n->i≠j->d[(i-1) / 2]!<=d[i]!)/\∀i,0<i->i<n->(i-1) / 2=j->0<j->d[(j-1) / 2]!<=d[i]!
def ph (d:Array Int) (n j:Nat):Prop:=(∀i,0<i->i<n->(i-1) / 2≠j->d[(i-1) / 2]!<=d[i]!)/\∀i,0<i->i<n->(i-1) / 2=j->0<j->d[(j-1) / 2]!<=d[i]!
def yz(d:Array Int){j:Nat}(hi:i<d.size)(h:j<d.size)(k:Nat):(swp d i j)[k]! = if k=j then d[i]! else if k=i then d[j]! else d[k]!:=swp_get d hi h k
def uB.step{j:Nat}(h:uB d n j)(U:0<j)(V:j<n)(hn:n<=d.size)(aa:d[j]!<d[(j-1) / 2]!):uB (swp d ((j-1) / 2) j) n ((j-1) / 2):=by
 have u:(j-1) / 2<d.size:=oK;have C:j<d.size:=oK;have J:(j-1) / 2≠j:=oK;constructor;intro i E G O;have I:=h.1 i E G;have a2:=h.2 i E G;rw[yz d u C,yz d u C];by_cases e1:i=j;subst e1;rw[iN,iP rfl,iP rfl];omega;rw[iN e1,iN O];by_cases e2:(i-1) / 2=j;rw[iP e2];exact a2 e2 U;rw[iN e2];by_cases e3:(i-1) / 2=(j-1) / 2;rw[iP e3];have:=I e1;rw[e3] at this;omega;rw[iN e3];exact I e1;intro i E G Q R;have I:=h.1 i E G;have b1:=h.1 ((j-1) / 2) R oK J;rw[yz d u C,yz d u C];rw[iN,iN];by_cases e1:i=j;subst e1;rw[iP rfl];exact b1;rw[iN e1,iN];have:=I e1;rw[Q] at this;omega
def uB.stop{j:Nat}(h:uB d n j)(u:j=0\/d[(j-1) / 2]!<=d[j]!):lD d n:=by intro i C E;by_cases e:i=j;subst e;rcases u with u|u;omega;exact u;exact h.1 i C E e
def ph.step{c:Nat}(h:ph d n i)(V:c=2*i+1\/c=2*i+2)(Q:c<n)(hn:n<=d.size)(R:d[c]!<d[i]!)(C:∀k,k<n->(k=2*i+1\/k=2*i+2)->d[c]!<=d[k]!):ph (swp d i c) n c:=by have I:i<d.size:=oK;have J:c<d.size:=oK;constructor;intro k E G u;have O:=h.1 k E G;have a2:=h.2 k E G;rw[yz d I J,yz d I J,iN u];by_cases e1:k=c;rw[iP e1,iP];omega;rw[iN e1];by_cases e2:k=i;rw[iP e2];subst e2;rw[iN];exact h.2 c oK Q oK E;rw[iN e2];by_cases e3:(k-1) / 2=i;rw[iP e3];exact C k G oK;rw[iN e3];exact O e3;intro k E G u U;have O:=h.1 k E G oK;rw[yz d I J,yz d I J];rw[iN,iP,iN,iN];rw[u] at O;exact O
def ph.stop(h:ph d n i)(C:∀k,k<n->(k=2*i+1\/k=2*i+2)->d[i]!<=d[k]!):lD d n:=by intro k E u;by_cases e:(k-1) / 2=i;rw[e];exact C k u oK;exact h.1 k E u e
section
variable {pb rb len cap:Nat} {m:Kw} {w0 w:Kv} {d:Array Int} {T:Kx}
def qCl{j:Nat}{K:Unit->WP}(R:w0.heap[pb]?=some (ux rb len cap m))(I:rb≠pb)(h:pg rb T w0 w d)(G:j<len)(hl:len<=d.size/\len<=1152921504606846976)(O:uB d len j)(U:∀C w',PermIn 0 len d C->lD C len->pg rb T w0 w' C->K () w'): cW 237 [.iface 345 (dQ pb),.i j] [] w K:=by
 apply qwm;refine kz (λx w'=>∃(j:Nat) (C:Array Int),x=j/\j<len/\PermIn 0 len d C/\uB C len j/\pg rb T w0 w' C) (λx _=>x.toNat) ⟨j,d,rfl,G,permIn_refl _ _ _,O,h⟩ ?_;rintro x w1 ⟨j,Q,rfl,G,E,O,h⟩ X V;have hs:=E.1;have e1:IntKind.i64.wrap (Int.tdiv (IntKind.i64.wrap ((j:Int)-1)) 2)=(((j-1) / 2:Nat):Int):=by rw[wi ((j:Int)-1) oK];by_cases J:j=0;subst J;decide +kernel;rw[Ki oK,wi _ oK];omega
 rw[e1];refine jf (λc w'=>c=(decide (j=0)||!ltInt Q[j]! Q[(j-1) / 2]!)/\pg rb T w0 w' Q) ?_ ?_;apply eV<;>intro u;have J:j=0:=(by have:=yQ.1 u;omega);exact⟨by simp[J],h⟩;have J:j≠0:=λe=>by subst e;cases u
 exact Ij R I h G oK oK λw2 h=>⟨by simp[J],h⟩;rintro c w2 ⟨rfl,h⟩;apply eV<;>intro u;simp only[Bool.or_eq_true,decide_eq_true_eq,zT,ltInt,Kn,Int.not_lt] at u;exact U _ _ E (O.stop u) h;simp only[Km,Kn,yF,ltInt,decide_eq_true_eq] at u;exact IU R I h oK G oK λw3 h=>V _ _ ⟨_,_,rfl,oK,permIn_trans _ _ _ _ _ E (swp_permIn _ _ _ _ _ oK oK oK G oK),O.step oK G oK u.2,h⟩ oK
def qAv(hp:w0.heap[pb]?=some (ux rb len cap m))(O:rb≠pb)(h:pg rb T w0 w d)(hn:n<=len)(hl:len<=d.size/\len<=1152921504606846976)(V:ph d n 0)(R:∀b C w',PermIn 0 n d C->lD C n->pg rb T w0 w' C->K b w'): cW 254 [.iface 345 (dQ pb),.i 0,.i n] dr w K:=by apply qsW;refine jf (λ_ w'=>∃C,PermIn 0 n d C/\lD C n/\pg rb T w0 w' C) ?_ λx w' ⟨C,h1,h2,h3⟩=>R _ C w' h1 h2 h3;refine kz (λx w'=>∃(i:Nat) (C:Array Int),x=i/\(i<n\/i=0)/\PermIn 0 n d C/\ph C n i/\pg rb T w0 w' C) (λx _=>((n:Int)-x).toNat) ⟨0,d,rfl,.inr rfl,permIn_refl _ _ _,V,h⟩ ?_;rintro x w1 ⟨i,G,rfl,hi,I,V,h⟩ X hX;have hs:=I.1;have e1:IntKind.i64.wrap (IntKind.i64.wrap (2*(i:Int))+1)=((2*i+1:Nat):Int):=(by rw[wi (2*(i:Int)) oK,wi _ oK];omega);have e2:IntKind.i64.wrap (((2*i+1:Nat):Int)+1)=((2*i+2:Nat):Int):=(by rw[wi _ oK];omega);rw[e1,e2];refine jf (λc w'=>c=decide (n<=2*i+1)/\pg rb T w0 w' G) ?_ ?_;apply eV<;>intro u;have U:n<=2*i+1:=(by have:=zC u;omega);exact⟨by simp[U],h⟩;have U:¬n<=2*i+1:=(by have:=zB u;omega);refine⟨?_,h⟩;rw[zU U,zU oK];rintro c w2 ⟨rfl,h⟩;apply eV<;>intro u;have U:=zC u;exact⟨G,I,V.stop λk R E=>oK,h⟩;have U:2*i+1<n:=(by have:=zB u;omega);refine jf (λx w'=>∃c:Nat,x=c/\(c=2*i+1\/c=2*i+2)/\c<n/\(∀k,k<n->(k=2*i+1\/k=2*i+2)->G[c]!<=G[k]!)/\pg rb T w0 w' G) ?_ ?_;refine jf (λc w'=>c=(decide (2*i+2<n)&&ltInt G[2*i+2]! G[2*i+1]!)/\pg rb T w0 w' G) ?_ ?_;apply eV<;>intro u;have h2:2*i+2<n:=(by have:=zC u;omega);exact Ij hp O h oK oK oK λw3 h=>⟨by simp[h2],h⟩;have h2:¬2*i+2<n:=(by have:=zB u;omega);exact⟨by simp[h2],h⟩;rintro c w3 ⟨rfl,h⟩;apply eV<;>intro u;simp only[yB,decide_eq_true_eq,ltInt] at u;refine⟨2*i+2,rfl,.inr rfl,u.1,λk R E=>?_,h⟩;rcases E with rfl|rfl<;>omega;simp only[Bool.and_eq_false_iff,Kn,ltInt,Int.not_lt] at u;refine⟨2*i+1,rfl,.inl rfl,U,λk R E=>?_,h⟩;rcases E with rfl|rfl<;>omega;rintro x w3 ⟨c,rfl,ac,Q,J,h⟩;refine Ij hp O h oK oK oK λw4 h=>?_;apply eV<;>intro u;simp only[zT,ltInt,Kn,Int.not_lt] at u;exact⟨G,I,V.stop λk R E=>Int.le_trans u (J k R E),h⟩;simp only[yF,ltInt,decide_eq_true_eq] at u;exact IU hp O h oK oK oK λw5 h=>hX _ _ ⟨c,_,rfl,.inl Q,permIn_trans _ _ _ _ _ I (swp_permIn _ _ _ _ _ oK oK oK Q oK),V.step ac Q oK u J,h⟩ oK
end
end
abbrev PT:Kx:=343
abbrev lK:Int->Kw:=λn=>Value.int .u32 n
def nc (w:Kv) (pb:Nat) (m:Kw) (F:KD) (d:Array Int) (n:Nat):Prop:=
 (n=0/\d = #[]/\F=[]/\w.heap[pb]?=some (.c #[.slice none 0 0,m] PT))\/
 ∃rb T,F=[rb]/\w.heap[pb]?=some (ux rb n d.size m)/\w.heap[rb]?=some (.c (lL d) T)/\rb≠pb/\n<=d.size
structure i4 (w:Kv) (pb:Nat) (F:KD) (l:KE):Prop where
 ex:∃ (mb:Nat) (R:KD) (d:Array Int) (f:List (Int×Kw)),F=pb::mb::R/\nc w pb (.map (some mb)) R d l.length/\mt lK w mb f/\
  (d.toList.take l.length).Perm l/\lD d l.length/\(f.map (·.1)).Perm l/\∀ p∈f,p.2=.i 1
 uj:l.Pairwise (· < ·)
def zq:qb prog 44 lK:=qx1 oL
def EX{x:Int}:∀ {f:List (Int×Kw)},(∀p∈f,p.2=Value.int .i64 1)->(posOf x f=none/\x∉f.map (·.1))\/∃j,posOf x f=some (j,.i 1)/\x∈f.map (·.1)/\(f.map (·.1))[j]?=some x
 | [],_=>.inl ⟨rfl,oM⟩
 | p::f,h=>by simp only[posOf];by_cases hx:x=p.1;rw[iP hx,h p oM];exact .inr ⟨0,rfl,by simp[hx],by simp[hx]⟩;rw[iN hx];rcases EX (x:=x) (f:=f) (λq E=>h q (zN _ E)) with ⟨u,C⟩|⟨j,u,C,G⟩;rw[u];exact .inl ⟨rfl,by simp only[xQ,zG];rintro (e|e);exact hx e;exact C e⟩;rw[u];exact .inr ⟨j+1,rfl,by simp only[xQ,zG];exact .inr C,by simpa using G⟩
def i4.cells{w:Kv}{pb:Nat}{F:KD}{l:KE}(h:i4 w pb F l):∃(s:Sl) (mb:Nat),w.heap[pb]?=some (.c #[s.v,.map (some mb)] PT)/\s.len=l.length/\mb∈F:=by obtain⟨mb,R,d,f,rfl,C,_⟩:=h.ex;rcases C with ⟨E,_,_,u⟩|⟨rb,T,_,u,_⟩;exact⟨dR,mb,u,E.symm,oM⟩;exact⟨⟨pW rb,_,_⟩,mb,u,rfl,oM⟩
def BS{K:Option Addr->WP}(u:∀pb F w',i4 w' pb F []->Fr [] w w'->(∀b∈F,w.heap.size<=b)->K (pW pb) w'):cW 179 [] dE w K:=by apply quu;unfold qro;have h:=oF [] w;refine ed.new h λmb w1 G I h=>ed.new h λpb w2 J O h=>u pb [pb,mb] w2 ⟨⟨mb,[],#[],[],rfl,.inl ⟨rfl,rfl,rfl,?_⟩,⟨#[],0,?_,rfl⟩,oM,λi Q C=>by simp at C,oM,oM⟩,List.Pairwise.nil⟩ h.fr ?_;exact h.at (i:=0) rfl;exact h.at (i:=1) rfl;intro b E;simp at E;omega
def qAA{K:Int->WP}(h:i4 w pb F l)(u:K l.length w):cW 181 [dQ pb] dq w K:=by refine qn9 ?_;obtain⟨s,mb,C,E,_⟩:=h.cells;refine gV<|jH C s rfl ?_;rw[E];exact u
def HH{n:Int}(h:i4 w pb F l)(E:K (decide (n∈l)) w):cW 194 [dQ pb,.u n] dr w K:=by
 refine qn8 ?_;obtain⟨mb,R,d,f,rfl,Q,J,_,_,O,U⟩:=h.ex;have C:∃s:Sl,w.heap[pb]?=some (.c #[s.v,.map (some mb)] PT):=by rcases Q with ⟨V,_,_,C⟩|⟨rb,T,_,C,_⟩;exact⟨dR,C⟩;exact⟨⟨pW rb,_,_⟩,C⟩
 obtain⟨s,C⟩:=C;refine gV<|jH C (some mb) rfl ?_;unfold fM;rcases EX (x:=n) U with ⟨G,I⟩|⟨j,G,I,_⟩;refine⟨0,?_,?_⟩;have:=Jg (P:=prog) (w:=w) (t:=307) (et:=3) (z:=.i 0) oL (λw=>oL) zq J n;rw[G] at this;exact this;rw[show decide (n∈l)=false by rw[Kn];exact λe=>I (O.mem_iff.2 e)] at E;exact E;refine⟨1,?_,?_⟩;have:=Jg (P:=prog) (w:=w) (t:=307) (et:=3) (z:=.i 0) oL (λw=>oL) zq J n;rw[G] at this;exact this;rw[show decide (n∈l)=true by rw[yO];exact O.mem_iff.1 I] at E;exact E
def BF:∃i,prog.info? 44=some i/\i.zero=some (.u 0)/\i.size=1/\i.bytes=4:=uN oL
def qw5(v:Kw)(k:Nat)(h:v.cells = #[v]):Builtin.zeroCells v.cells k=Array.replicate k v:=by rw[h];apply Array.ext;simp[Builtin.zeroCells];intro i u C;simp[Builtin.zeroCells,Nat.mod_one]
def qrL(l:KE):lL l.toArray=(l.map (Value.int .u32)).toArray:=by simp[lL]
def Fa(h:d.toList.take n=l)(hi:i<n)(u:n<=d.size):l[i]?=some d[i]!:=by rw[<- h,xC,iP hi];simp[show i<d.size by omega]
def qtF{α:Type}(x:α):∀(l:List α) (n:Nat),n<l.length->(l.set n x).take (n+1)=l.take n++[x]
 | a::l,0,_=>by simp
 | a::l,n+1,h=>by simpa using qtF x l n (oQ h)
def qCs{x:Int}{K:Unit->WP}(h:nc w pb mb R d n)(hn:n<=1000000)(hk:∀R' d' w',nc w' pb mb R' d' (n+1)->d'.toList.take (n+1)=d.toList.take n++[x]->Fr (pb::R) w w'->(∀b∈R',b∈R\/w.heap.size<=b)->K () w'): inv prog (.iface 345 (dQ pb)) "Push" [.iface 44 (.u x)] [] w K:=by
 obtain⟨ad,O,hz,G,U⟩:=BF;refine qvf (f:=283) (by kernel_rfl) (e:=341) (by kernel_rfl) (by kernel_rfl)<|qoc ?_;have ta:(Instr.typeAssert (.iface 44 (.u x)) 20 44 true).run prog w=.ok (.tuple #[.u x,.bool true]) w:=(by kernel_rfl);refine tP (ts:=dI) (x,true) ta<|JT rfl<|gV ?_;have zc:∀k,Builtin.zeroCells (Value.int .u32 0).cells k=Array.replicate k (.u 0):=λk=>qw5 _ k rfl;rcases h with ⟨h0,hd,hR,I⟩|⟨rb,T,hR,I,af,V,av⟩;subst h0 hd hR;refine jH I dR rfl ?_;have C:ed [pb] w w [(pb,.c #[.slice none 0 0,mb] PT)]:=⟨by simpa using I,by simp,.refl _ _,by simp⟩;refine ed.new C λtb w1 et ag C=>qAN (P:=prog) (e:=44) (by kernel_rfl) O hz [.u x] (by rw[G];rfl) (λj u E=>?_) (by omega) (by rw[U];omega) (by omega) λq aa ah=>?_;match j,E with
 | 0,E=>
  have:=C.cell (off:=0) 0 rfl rfl;simp at E;subst E;exact this
 | j+1,E=>simp at E
 rw[zc];have C:=C.drew.alloc (.c (#[Value.int .u32 x]++Array.replicate (q-1) (.u 0)) 44);refine gV<|oI C 2 rfl _ rfl rfl rfl λw2 C _=>?_;have Q:w1.drew.heap.size≠pb:=by
  have:=C.nodup;simp at this;exact λe=>this.1.2 e
 have ai:#[Value.int .u32 x]++Array.replicate (q-1) (.u 0)=lL (([x]++List.replicate (q-1) 0).toArray):=(by rw[qrL];apply Array.ext';simp);refine hk [w1.drew.heap.size] (([x]++List.replicate (q-1) 0).toArray) w2 (.inr ⟨w1.drew.heap.size,44,rfl,?_,?_,Q,by simp⟩) (by simp) (C.fr.mono (λi O _=>by simpa using O)) (λb I=>?_);have:=C.at (i:=2) rfl;have e:(([x]++List.replicate (q-1) (0:Int)).toArray).size=q:=(by simp;omega);rw[e];exact this;have:=C.at (i:=0) rfl;rw[<- ai];exact this;simp at I;subst I;right;have:=C.own (w1.drew.heap.size,_) (by simp;exact .inl rfl);simp at this;omega;subst hR;refine jH I ⟨pW rb,n,d.size⟩ rfl ?_;dsimp only;have C:ed [pb,rb] w w [(pb,ux rb n d.size mb),(rb,.c (lL d) T)]:=⟨by simpa using ⟨I,af⟩,by simpa using λe=>V e.symm,.refl _ _,by simp⟩;refine ed.new C λtb w1 et ag C=>?_;have J:∀(j:Nat) u,[Value.int .u32 x][j]?=some u->w1.cell? (((dm tb):Addr).add j)=some u:=λj u E=>by
  match j,E with
  | 0,E=>
   have:=C.cell (off:=0) 0 rfl rfl;simp at E;subst E;exact this
  | j+1,E=>simp at E
 by_cases hroom:n+1<=d.size;refine qAM (P:=prog) (e:=44) (by kernel_rfl) O [.u x] (C.at (i:=2) rfl) (by rw[G];rfl) J (by simp[Value.oneCell']) hroom (by rw[G,Fz];simp;omega) ?_;have aj:ef (lL d) (0+n*ad.size) [.u x]=lL (d.setIfInBounds n x):=by rw[G,xU,xV];exact qtU d n x
 rw[aj];have C:=C.jy (o':=.c (lL (d.setIfInBounds n x)) T) 2 rfl;refine gV<|oI C 1 rfl _ rfl rfl rfl λw2 C _=>hk [rb] (d.setIfInBounds n x) w2 (.inr ⟨rb,T,rfl,?_,?_,V,by simpa using hroom⟩) ?_ (C.fr.mono (λi O _=>by simpa using O)) (λb I=>.inl I)
 have:=C.at (i:=1) rfl;rw[Array.size_setIfInBounds];exact this;exact C.at (i:=2) rfl;rw[Array.toList_setIfInBounds];exact qtF x _ _ (by simp;omega);have ab:n=d.size:=(by omega);refine qzh (P:=prog) (e:=44) (by kernel_rfl) O hz (d.toList.map (Value.int .u32)) [.u x] (by rw[G];simp;omega) (λj u E=>?_) (by rw[G];rfl) J (by omega) (by rw[U];omega) (by omega) λq aa ah=>?_;rw[Addr.j1,kD (C.at (i:=2) rfl),xU];rw[zQ] at E;unfold lL;rw[Array.getElem?_map];simpa using E;rw[zc];have ak:(d.toList.map (Value.int .u32)).toArray++[Value.int .u32 x].toArray++Array.replicate (q-(n+1)) (.u 0)=lL ((d.toList++[x]++List.replicate (q-(n+1)) (0:Int)).toArray):=by rw[qrL];apply Array.ext';simp
 rw[ak];have e:((d.toList++[x]++List.replicate (q-(n+1)) (0:Int)).toArray).size=q:=(by simp;omega);have C:=C.drew.alloc (.c (lL ((d.toList++[x]++List.replicate (q-(n+1)) (0:Int)).toArray)) 44);refine gV<|oI C 2 rfl _ rfl rfl rfl λw2 C _=>?_;have Q:w1.drew.heap.size≠pb:=by
  have:=C.nodup;simp at this;exact λe=>this.1.2.1 e
 refine hk [w1.drew.heap.size] _ w2 (.inr ⟨w1.drew.heap.size,44,rfl,?_,C.at (i:=0) rfl,Q,by rw[e];exact aa⟩) ?_ (C.fr.mono (λi O _=>by simpa using O)) (λb I=>?_);have:=C.at (i:=2) rfl;rw[e];exact this;rw[ab];simp[take_append,zS];simp at I;subst I;right;show w.heap.size<=w1.heap.size;omega
def qCH{rb:Nat}{K:Kw->WP}(I:w.heap[pb]?=some (ux rb (n+1) d.size mb))(h:w.heap[rb]?=some (.c (lL d) T))(G:rb≠pb)(R:n+1<=d.size)(J:n<=1000000)(O:∀w',w'.heap[pb]?=some (ux rb n d.size mb)->w'.heap[rb]?=some (.c (lL d) T)->Fr [pb] w w'->K (.iface 44 (.u d[n]!)) w'): inv prog (.iface 345 (dQ pb)) "Pop" [] dC w K:=by
 refine qvf (f:=282) (by kernel_rfl) (e:=341) (by kernel_rfl) (by kernel_rfl)<|qpj ?_;have E:ed [pb] w w [(pb,ux rb (n+1) d.size mb)]:=⟨by simpa using I,by simp,.refl _ _,by simp⟩;have Q:pg rb T w w d:=.start h;refine gV (KA E.drew 0 rfl ⟨pW rb,n+1,d.size⟩ ?_);refine gV (KA E.drew 0 rfl ⟨pW rb,n+1,d.size⟩ ?_);dsimp only;refine Q.drew.rd n (by rw[wi _ (by omega)];omega) (by omega) (by omega)<|gV (KA E.drew.drew 0 rfl ⟨pW rb,n+1,d.size⟩ ?_);refine gV (KA E.drew.drew 0 rfl ⟨pW rb,n+1,d.size⟩ ?_);dsimp only;rw[wi _ (by omega)];refine Aw ⟨by omega,by dsimp only;omega⟩<|gV<|oI E.drew.drew 0 rfl _ rfl rfl rfl λw2 C _=>O w2 ?_ ?_ C.fr
 have:=C.at (i:=0) rfl;rw[show (((n+1:Nat):Int)-1).toNat=n by omega] at this;exact this;rw[C.fr.block rb (fl h) (by simpa using G)];exact h
def HT{u:Array Int}(h:PermIn 0 n d u):(u.toList.take n).Perm (d.toList.take n):=by
 have:=h.2.2;simpa[Array.toList_extract] using this
def qyX{x:Int}{K:Unit->WP}(h:nc w pb mb R d n)(hn:n<=1000000)(hh:lD d n)(hk:∀R' V w',nc w' pb mb R' V (n+1)->lD V (n+1)->(V.toList.take (n+1)).Perm (d.toList.take n++[x])->Fr (pb::R) w w'->(∀b∈R',b∈R\/w.heap.size<=b)->K () w'): cW 212 [.iface 345 (dQ pb),.iface 44 (.u x)] [] w K:=by
 have aa:n<=d.size:=by rcases h with ⟨Q,_⟩|⟨_,_,_,_,_,_,E⟩;omega;exact E
 apply qsV;refine qCs h hn λR1 d1 w1 hr ht hf hR=>?_;rcases hr with ⟨Q,_⟩|⟨rb,T,ab,U,O,G,I⟩;omega;subst ab;refine qB0 U G (.start O) ?_;rw[wi _ oK,show ((n+1:Nat):Int)-1=(n:Nat) by omega];have C:∀i,i<n->d1[i]! = d[i]!:=λi J=>by have E:=Fa ht (show i<n+1 by omega) I;rw[xA oP] at E;have h2:=Fa (d:=d) rfl J aa;rw[h2] at E;exact (yP E).symm
 refine qCl U G (.start O) (Nat.lt_succ_self n) ⟨I,oK⟩ ⟨λi Q J ao=>?_,λi Q J ap _=>oK⟩ λd2 w2 hp hH ha=>?_;rw[C i oK,C _ oK];exact hh i Q oK;refine hk [rb] d2 w2 (.inr ⟨rb,T,rfl,?_,ha.jz,G,by rw[hp.1];exact I⟩) hH ((HT hp).trans (by rw[ht])) (hf.j8 ha.fr λi J=>?_) hR;rw[ha.fr.block pb (fl U) (by simpa using λe=>G e.symm),hp.1];exact U;simp at J;subst J;rcases hR i oM with E|E;exact .inl (zN _ E);exact .inr E
def lD.min(h:lD d n):∀i,i<n->d[0]!<=d[i]!:=by
 intro i;induction i using Nat.strongRecOn with
 | _ i ih=>
  intro u;by_cases h0:i=0;rw[h0];exact Int.le_refl _;exact Int.le_trans (ih ((i-1) / 2) oK oK) (h i oK u)
def qAy{rb:Nat}{K:Kw->WP}(I:w.heap[pb]?=some (ux rb (n+1) d.size mb))(J:w.heap[rb]?=some (.c (lL d) T))(h:rb≠pb)(Q:n+1<=d.size)(hn:n<=1000000)(hh:lD d (n+1))(hk:∀R w',nc w' pb mb [rb] R n->lD R n->(d[0]!::R.toList.take n).Perm (d.toList.take (n+1))->Fr [pb,rb] w w'->K (.iface 44 (.u d[0]!)) w'): cW 239 [.iface 345 (dQ pb)] dC w K:=by
 apply quf;refine qB0 I h (.start J) ?_;rw[wi _ oK,show ((n+1:Nat):Int)-1=(n:Nat) by omega];refine IU (i:=0) (k:=n) I h (.start J) oK oK ⟨Q,oK⟩ λw1 h1=>?_;have O:(swp d 0 n).size=d.size:=Sort.size_swp _ _ _;have C:=yz d (i:=0) (j:=n) oK oK;refine qAv (n:=n) I h h1 oK ⟨oK,oK⟩ ⟨λi h0 E aj=>?_,λi h0 E ak hc=>oK⟩ λb U w2 V hH h2=>?_;rw[C,C,iN,iN,iN,iN];exact hh i h0 oK;have ab:=V.1;have ac:w2.heap[pb]?=some (ux rb (n+1) U.size mb):=by rw[h2.fr.block pb (fl I) (by simpa using λe=>h e.symm),ab,O];exact I
 refine qCH ac h2.jz h oK hn λw3 g1 g2 g3=>?_;have G:U[n]! = d[0]!:=by rw[V.2.1 n (.inr (zM _)),C,iP rfl]
 rw[G];refine hk U w3 (.inr ⟨rb,T,rfl,g1,g2,h,oK⟩) hH ?_ ((h2.fr.mono (T:=[pb,rb]) (λi E _=>by simp at E;simp[E])).trans (g3.mono (λi E _=>by simp at E;simp[E])));have p1:=HT V;have p2:=HT (swp_permIn d 0 (n+1) 0 n oK oK oK oK oK);have e1:(swp d 0 n).toList.take (n+1)=(swp d 0 n).toList.take n++[d[0]!]:=by have hv:(swp d 0 n)[n]! = d[0]!:=(by rw[C,iP rfl]);have hl:n<(swp d 0 n).toList.length:=(by simp[O];omega);rw[yH hl];congr 2;rw[<- hv];simp[show n<(swp d 0 n).size by omega]
 rw[e1] at p2;exact ((JW _ _).symm.trans (p1.append_right _)).trans p2
def ins (x:Int):KE->KE
 | []=>[x]
 | a::l=>if x<a then x::a::l else if x=a then a::l else a::ins x l
def CG{x:Int}:∀ {l:KE},x∉l->(ins x l).Perm (x::l)
 | [],_=>.refl _
 | a::l,h=>by simp only[zG,not_or] at h;simp only[ins];split;exact .refl _;rw[iN h.1];exact ((CG h.2).cons a).trans (.swap x a l)
def qve{x y:Int}:∀ {l:KE},y∈ins x l->y=x\/y∈l
 | [],h=>by simp[ins] at h;exact .inl h
 | a::l,h=>by simp only[ins] at h;split at h;simp only[zG] at h⊢;exact h;split at h;exact .inr h;simp only[zG] at h⊢;rcases h with h|h;exact .inr (.inl h);rcases qve h with h|h;exact .inl h;exact .inr (.inr h)
def Dy{x:Int}:∀ {l:KE},l.Pairwise (· < ·)->(ins x l).Pairwise (· < ·)
 | [],_=>by simp[ins]
 | a::l,h=>by have C:=yK.1 h;simp only[ins];split;rename_i E;refine yK.2 ⟨λb u=>?_,h⟩;rcases zG.1 u with rfl|u;exact E;exact Int.lt_trans E (C.1 b u);split;exact h;rename_i G I;refine yK.2 ⟨λb u=>?_,Dy C.2⟩;rcases qve u with rfl|u;omega;exact C.1 b u
def qsZ{x:Int}:∀ {l:KE},l.Pairwise (· < ·)->x∈l->ins x l=l
 | a::l,h,u=>by
  have C:=yK.1 h;simp only[ins];rcases zG.1 u with rfl|u;rw[iN (Int.lt_irrefl _),iP rfl];have:=C.1 x u;rw[iN,iN,qsZ C.2 u]
def Bg{b:Nat}(h:b<w.heap.size)(o:Obj):Fr [b] w (jy w b o):=
 ⟨rfl,rfl,rfl,by rw[wO];exact zM _,λj C u=>by rw[qY _ _ _ _ h,iN (oQ u)]⟩
def nc.j0{w':Kv}{m:Kw}{S:KD}(h:nc w pb m R d n)(k:Fr S w w')(u:pb∉S)(C:∀r∈R,r∉S):nc w' pb m R d n:=by rcases h with ⟨a,b,c,e⟩|⟨rb,T,a,b,c,e,f⟩;exact .inl ⟨a,b,c,by rw[k.block pb (fl e) u];exact e⟩;exact .inr ⟨rb,T,a,by rw[k.block pb (fl b) u];exact b,by rw[k.block rb (fl c) (C rb (by rw[a];simp))];exact c,e,f⟩
def I2{α:Type}[DecidableEq α]{kv:α->Kw}{w':Kv}{b:Nat}{S:KD}{f:List (α×Kw)}(h:mt kv w b f)(k:Fr S w w')(C:b∉S):mt kv w' b f:=by obtain⟨E,c,u,G⟩:=h;exact⟨E,c,by rw[k.block b (fl u) C];exact u,G⟩
def nc.wp{mb:Nat}{m:Kw}{f:List (Int×Kw)}(h:nc w pb m R d n)(I:mt lK w mb f):pb≠mb/\∀r∈R,r≠mb:=by obtain⟨J,c,u,_⟩:=I;rcases h with ⟨_,_,E,e⟩|⟨rb,T,a,b,E,e,_⟩;refine⟨λC=>?_,by simp[E]⟩;subst C;rw[e] at u;cases u;refine⟨λC=>?_,λr G C=>?_⟩;subst C;rw[b] at u;cases u;rw[a] at G;simp at G;subst G C;rw[E] at u;cases u
def i4.j0{w w':Kv}{pb:Nat}{F S:KD}{l:KE}(h:i4 w pb F l)(k:Fr S w w')(u:∀b∈F,b∉S):i4 w' pb F l:=by obtain⟨⟨mb,R,d,f,rfl,C,E,G,I,J,O⟩,Q⟩:=h;exact⟨⟨mb,R,d,f,rfl,C.j0 k (u _ oM) (λr C=>u r (by simp[C])),I2 E k (u _ oM),G,I,J,O⟩,Q⟩
def i4.lt(h:i4 w pb F l):∀b∈F,b<w.heap.size:=by obtain⟨⟨mb,R,d,f,rfl,G,⟨I,c,E,_⟩,_⟩,_⟩:=h;intro b u;simp only[zG] at u;rcases G with ⟨_,_,C,e⟩|⟨rb,T,a,b',C,e,_⟩;rcases u with rfl|rfl|u;exact fl e;exact fl E;rw[C] at u;cases u;rcases u with rfl|rfl|u;exact fl b';exact fl E;rw[a] at u;simp at u;subst u;exact fl C
def Ig{n:Int}(h:i4 w pb F l)(hl:l.length<=1000000)(hk:∀F' w',i4 w' pb F' (ins n l)->Fr F w w'->(∀b∈F',b∈F\/w.heap.size<=b)->K (decide (n∉l)) w'): cW 180 [dQ pb,.u n] dr w K:=by
 refine qoa<|HH h ?_;by_cases hx:n∈l;refine JT (oQ hx) ?_;have:=hk F w (by rw[qsZ h.uj hx];exact h) (.refl _ _) (λb O=>.inl O);simpa[hx] using this;refine JU (oQ hx) ?_;obtain⟨s,C,E,_,_⟩:=h.cells;have V:=h.uj;obtain⟨mb,R,d,f,rfl,hr,hm,J,hh,hf,h1⟩:=h.ex;have aj:C=mb:=by rcases hr with ⟨_,_,_,e⟩|⟨rb,T,_,b,_⟩;have h3:=Kr (λo=>match o with|some (Obj.cells cs _ _)=>cs[1]? | _=>none) (E.symm.trans e);simpa using h3;have h3:=Kr (λo=>match o with|some (Obj.cells cs _ _)=>cs[1]? | _=>none) (E.symm.trans b);simpa[ux] using h3
 subst aj;refine gV<|jH E (some C) rfl ?_;have ac:posOf n f=none:=by rcases EX (x:=n) h1 with ⟨J,_⟩|⟨j,_,am,_⟩;exact J;exact absurd (hf.mem_iff.1 am) hx
 obtain⟨o,ad,an⟩:=qwV (P:=prog) (t:=307) (et:=3) (v:=.i 1) oL zq hm n ac;refine Gz _ ad ?_;obtain⟨Q,U⟩:=hr.wp hm;have ae:C<w.heap.size:=(by obtain⟨es,c,O,_⟩:=hm;exact fl O);have af:=Bg ae o;have ao:=hr.j0 af (oQ Q) (λr hr=>by simpa using U r hr);refine gV<|qyX ao hl hh λR' d' w2 ap aq ar ag au=>?_;have G:=CG hx;have I:(ins n l).length=l.length+1:=(by have:=G.length_eq;simpa using this);have av:mt lK w2 C (f++[(n,.i 1)]):=I2 an ag (by simp only[zG,not_or];exact⟨λe=>Q e.symm,λe=>U _ e rfl⟩)
 have:=hk (pb::C::R') w2 ⟨⟨C,R',d',f++[(n,.i 1)],rfl,by rw[I];exact ap,av,?_,by rw[I];exact aq,?_,?_⟩,Dy V⟩
  ((af.mono (T:=pb::C::R) (λi hi _=>by simp at hi;simp[hi])).trans (ag.mono (λi hi _=>by simp at hi;rcases hi with rfl|hi<;>simp[*]))) (λb O=>?_)
 simpa[hx] using this;rw[I];exact ar.trans (((J.append_right [n]).trans (JW _ _)).trans G.symm);rw[xP];exact ((hf.append_right _).trans (JW _ _)).trans G.symm;intro p J;rcases zD.1 J with J|J;exact h1 p J;simp at J;rw[J];simp only[zG] at O;rcases O with rfl|rfl|O;exact .inl oM;exact .inl oM;rcases au b O with h'|h';exact .inl (by simp[h']);rw[wO] at h';exact .inr h'
def qg8{α:Type}:∀(l:List α) (i:Nat) (h:i<l.length),(l[i]::l.eraseIdx i).Perm l
 | a::l,0,_=>.refl _
 | a::l,i+1,h=>by simp only[getElem_cons_succ,eraseIdx_cons_succ];exact (List.Perm.swap _ _ _).trans ((qg8 l i (oQ h)).cons a)
def wq:KE->KU×KE
 | []=>((0,false),[])
 | x::r=>((x,true),r)
def qAH{K:KU->WP}(h:i4 w pb F l)(hl:l.length<=1000000)(V:∀F' w',i4 w' pb F' (wq l).2->Fr F w w'->(∀b∈F',b∈F\/w.heap.size<=b)->K (wq l).1 w'): cW 215 [dQ pb] dI w K:=by
 refine qmF ?_;have E:=h.uj;have C:=h;obtain⟨mb,R,d,f,rfl,hr,hm,O,hh,hf,h1⟩:=h.ex;rcases hr with ⟨h0,hd,hR,G⟩|⟨rb,T,hR,G,ac,ad,I⟩;have au:l=[]:=Kg h0;subst au;exact gV<|jH G dR rfl<|JT rfl<|V _ w C (.refl _ _) λb G=>.inl G;subst hR;refine gV<|jH G ⟨pW rb,l.length,d.size⟩ rfl ?_;match l,hl,V,E,C,G,O,hh,hf,I with
 | [],hl,V,E,C,G,O,hh,hf,I=>
  exact JT rfl<|V _ w C (.refl _ _) (λb G=>.inl G)
 | x::r,hl,V,E,C,G,O,hh,hf,I=>
  simp only[yJ] at G O hh I hl⊢;refine JU oP<|gV ?_;have J:=(show nc w pb (.map (some mb)) [rb] d (r.length+1) from .inr ⟨rb,T,rfl,G,ac,ad,I⟩).wp hm;have av:d[0]! = x:=by
   have ae:d[0]!∈x::r:=O.mem_iff.1 (by
    have:=Fa (d:=d) rfl (show 0<r.length+1 by omega) I;exact yG this)
   have hx:x∈d.toList.take (r.length+1):=O.mem_iff.2 oM;obtain⟨i,Q,aw⟩:=getElem_of_mem hx;have af:i<r.length+1:=(by simp at Q;omega);have h2:=Fa (d:=d) rfl af I;rw[zA Q,aw] at h2;have ag:=hh.min i af;rw[<- yP h2] at ag;rcases zG.1 ae with e|e;exact e;have:=(yK.1 E).1 _ e;omega
  refine qAy G ac ad I oK hh λd2 w2 ah ax ai aj=>?_;rw[av] at ai⊢;have ta:(Instr.typeAssert (.iface 44 (.u x)) 20 44 true).run prog w2=.ok (.tuple #[.u x,.bool true]) w2:=oL;refine tP (ts:=dI) (x,true) ta ?_;have ak:mt lK w2 mb f:=I2 hm aj (by simp only[zG,xZ,or_false,not_or];exact⟨λe=>J.1 e.symm,λe=>J.2 rb oM e.symm⟩);obtain⟨s2,ay⟩:∃s:Sl,w2.heap[pb]?=some (.c #[s.v,.map (some mb)] PT):=by rcases ah with ⟨_,_,_,U⟩|⟨az,T',_,U,_⟩;exact⟨dR,U⟩;exact⟨⟨pW az,_,_⟩,U⟩
  refine gV<|jH ay (some mb) rfl ?_;obtain⟨o,al,am⟩:=qwU (P:=prog) (t:=307) (et:=3) (kt:=44) (ty:=0) oL zq ak x;refine qyH (ts:=[]) () _ al ?_;rcases EX (x:=x) h1 with ⟨_,aA⟩|⟨j,an,_,hj⟩;exact absurd (hf.mem_iff.2 oM) aA;rw[an] at am;have ao:mb<w2.heap.size:=(by obtain⟨es,c,G,_⟩:=ak;exact fl G);have ap:=Bg ao o;refine V [pb,mb,rb] (jy w2 mb o) ⟨⟨mb,[rb],d2,f.eraseIdx j,rfl,ah.j0 ap (oQ J.1) (λr hr=>by simpa using J.2 r hr),am,(ai.trans O).cons_inv,ax,?_,λp O=>h1 p (mem_of_mem_eraseIdx O)⟩,(yK.1 E).2⟩
   ((aj.mono (T:=[pb,mb,rb]) (λi Q _=>by simp at Q;rcases Q with rfl|rfl<;>simp)).trans (ap.mono (λi Q _=>by simp at Q;simp[Q]))) (λb G=>.inl G)
  show ((f.eraseIdx j).map (·.1)).Perm r;rw[xf];obtain⟨aB,aC⟩:=zP.1 hj;have:=qg8 _ _ aB;rw[aC] at this;exact (this.trans hf).cons_inv
section
section
variable {jz:Nat} {T:lZ} {w0 w:Kv} {d:Array Int} {len cap:Nat}
end
end
section
section
variable {jz:Nat} {T:lZ} {w0 w:Kv} {d:Array Int} {len cap:Nat}
end
end
section
section
variable {jz:Nat} {T:lZ} {w0 w:Kv} {d:Array Int} {len cap:Nat}
end
end
end
section
open Go Go.Pt Go.Sort List
attribute [local irreducible] ld dT iH pK ku fw st new idx kZ kM gb kV ke nz ig nn call eF inv run fM i9 join loop held ext kJ ft pw pQ pT IntKind.wrap
end
section
open Go Go.Pt Go.Sort List
attribute [local irreducible] ld dT iH pK ku fw st new idx kZ kM gb kV ke nz ig nn call eF inv run fM i9 join loop held ext kJ ft pw pQ pT IntKind.wrap
variable {l:KE} {w:Kv}
structure JL (jz:Nat) (T:lZ) (w0 w:Kv) (d:Array Int) (sb:Nat) (k:IntKind) (v:Int):Prop where
 arr:pg jz T w0 w d
 cell:∃ T2,w.heap[sb]?=some (.c #[.int k v] T2)
 ne:sb≠jz
 new:w0.heap.size<=sb
section
variable {jz:Nat} {T:lZ} {w0 w:Kv} {d:Array Int} {len cap sb:Nat} {k:IntKind} {v:Int}
end
section
section
variable {jz:Nat} {T:lZ} {w0 w:Kv} {d:Array Int} {len cap sb:Nat} {k:IntKind} {v:Int}
end
end
section
section
variable {jz:Nat} {T:lZ} {len cap:Nat}
end
end
def qiE:∀ {u C:KE},u.Perm C->u.Pairwise (·<=·)->C.Pairwise (·<=·)->u=C
 | [],C,h,_,_=>h.nil_eq
 | a::u,[],h,_,_=>absurd h.symm.nil_eq oM
 | a::u,b::C,h,O,Q=>by
  have E:=yK.1 O;have G:=yK.1 Q;have I:a=b:=by
   have R:a∈b::C:=h.mem_iff.1 oM;have U:b∈a::u:=h.mem_iff.2 oM;rcases zG.1 R with e|e;exact e;rcases zG.1 U with J|J;exact J.symm;have:=G.1 a e;have:=E.1 b J;omega
  subst I;rw[qiE h.cons_inv E.2 G.2]
abbrev jD:Int->List Kw:=λn=>[Value.int .u32 n]
abbrev Rd (S:KD) (w:Kv) (s:Sl) (l:KE):Prop:=eE jD 1 S w s l
abbrev tc (w:Kv) (s:Sl) (l:KE) (B:KD):Prop:=fB jD 1 w s l B
def u9:∀x,(jD x).length=1:=λ_=>rfl
def Rd.at{S:KD}{s:Sl}(h:Rd S w s l)(n:Nat){i x:Int}{K:Int->Prop}(hi:i=n)(C:l[n]?=some x)(k:K x):idx s i 1 λa=>ld .u a w K:=
 eE.get (y:=x) h n hi C rfl k
def qAr{s:Sl}{B:KD}{x:Int}{T:Kx}{K:Sl->WP}(h:tc w s l B)(Q:l.length<=1000000)(I:∀G B' w',tc w' G (l++[x]) B'->Fr B w w'->(∀b∈B',b∈B\/w.heap.size<=b)->K G w'): Pt.new (.cells #[.u x] T) w λr w1=>Pt.run dp ((Builtin.append_ #[174,174] 174 #[s.v,.slice (pW r) 1 1]).run prog w1) K:=by obtain⟨i,J,O,C,E⟩:=BF;exact fB.push (e:=44) h u9 (by simp[Value.oneCell']) oL J O C rfl rfl (by rw[E];omega) oK I
def dZ (n:Int) (acc:List Int×Bool) (x:Int):List Int×Bool:=
 let a1:=if !acc.2&&decide (x>=n) then (acc.1++[n],true) else acc
 (if x≠n then a1.1++[x] else a1.1,a1.2)
def Gq{w0:Kv}{F F':KD}(u:∀b∈F,w0.heap.size<=b)(E:w0.heap.size<=w.heap.size)(h:∀b∈F',b∈F\/w.heap.size<=b):∀b∈F',w0.heap.size<=b:=by intro b C;rcases h b C with h|h;exact u b h;omega
end
section
open Go Go.Pt List
open Go.IntKind (wrap)
attribute [local irreducible] ld dT iH pK ku fw st new idx kZ kM gb kV ke nz ig nn call eF inv run fM i9 join loop held ext kJ ft pw pQ pT IntKind.wrap
variable {K:Sl->Prop} {L:KK} {S:KD} {T:Kx} {body l:KE} {number:Int} {s:Sl} {w:Kv}
abbrev encB:Int->List Kw:=λn=>[Value.int .u8 n]
abbrev eO (S:KD) (w:Kv) (s:Sl) (l:KE):Prop:=eE encB 1 S w s l
abbrev gA (w:Kv) (s:Sl) (l:KE) (B:KD):Prop:=fB encB 1 w s l B
def mW:∀x,(encB x).length=1:=λ_=>rfl
def gS (l:KE):Array Kw:=(l.map (Value.int .u8)).toArray
def B0(l:KE):(gS l).size=l.length:=by simp[gS]
def ug(l:KE):l.flatMap encB=l.map (Value.int .u8):=by
 induction l with
 | nil=>rfl
 | cons a l ih=>rw[yI,ih];rfl
def Ap:∃i,prog.info? 5=some i/\i.zero=some (.b 0)/\i.size=1/\i.bytes=1:=uN oL
def eO.at(h:eO S w s l)(n:Nat){i x:Int}{K:Int->Prop}(hi:i=n)(u:l[n]?=some x)(k:K x):idx s i 1 λa=>ld .b a w K:=
 eE.get (y:=x) h n hi u rfl k
def AZ{b o n cap:Nat}{L:KE}{u:KQ}(C:w.heap[b]?=some (.cells (gS L) T u))(J:o+n<=L.length)(E:n<=cap)(G:b∉S):eO S w ⟨some (dm b o),n,cap⟩ ((L.drop o).take n):=by
 refine⟨by rw[yM,yC];dsimp only;omega,E,.inr ⟨b,o,_,T,_,rfl,C,G,λi x h=>?_⟩⟩;have I:=(zP.1 h).1;rw[yM,yC] at I;rw[xC,iP,xB] at h;rw[xV];apply ext_getElem?;intro j;rw[xC,xB];match j with
 | 0=>simp[gS,h]
 | j+1=>simp
def Gl{b o len cap:Nat}{lo hi:Int}{h:Nat}(u:0<=lo)(C:lo<=hi)(E:hi<=cap)(G:lo<cap)(k:K ⟨some ⟨b,o+lo.toNat*h,none⟩,hi.toNat-lo.toNat,cap-lo.toNat⟩):gb ⟨some (dm b o),len,cap⟩ (some lo) (some hi) none h K:=by unfold gb;refine⟨by simpa using ⟨u,C,E⟩,?_⟩;simp only[xY,xX,zJ];rw[iN];simp only[Option.map_some,Addr.j1];exact k
def Gf{b o len cap:Nat}{lo:Int}{h:Nat}(u:0<=lo)(C:lo<=len)(E:len<=cap)(G:lo<cap)(k:K ⟨some ⟨b,o+lo.toNat*h,none⟩,len-lo.toNat,cap-lo.toNat⟩):gb ⟨some (dm b o),len,cap⟩ (some lo) none none h K:=by unfold gb;refine⟨by simp;omega,?_⟩;simp only[xY,xX,zJ];rw[iN];simp only[Option.map_some,Addr.j1];exact k
def eE.part{α:Type}{enc:α->List Kw}{k:Nat}{l:List α}(h:eE enc k S w s l){lo hi:Option Int}(a b:Nat)(u:lo.getD 0=a)(C:hi.getD s.len=b)(U:a<=b)(Q:b<=l.length)(V:∀E,E.len=b-a->eE enc k S w E ((l.take b).drop a)->(s.a.isNone=true->E.a.isNone=true)->K E):gb s lo hi none k K:=by
 obtain⟨h1,h2,I⟩:=h;unfold gb;refine⟨by rw[u,C];simp;omega,V _ ?_ ⟨?_,?_,?_⟩ ?_⟩;rw[u,C];simp;rw[u,C];simp;omega;rw[u,C];simp;omega;by_cases he:(l.take b).drop a=[];exact .inl he;right;have aa:a<b:=by rcases Nat.lt_or_ge a b with h|h;exact h;exact absurd (by rw[vG];simp;omega) he
 rcases I with I|⟨bl,o,cs,T,fr,ha,J,O,hc⟩;rw[I] at Q;simp at Q;omega;refine⟨bl,o+a*k,cs,T,fr,?_,J,O,λi x G=>?_⟩;rw[u];simp only[xY,zJ];rw[iN,ha];simp[Addr.j1];rw[xB,xC] at G;split at G;have:=hc (a+i) x G;rw[<- this,xW,Nat.add_assoc];cases G;intro R;rw[Option.isNone_iff_eq_none] at R;rw[R];simp
def iA (n:Int) (j:Nat):Int:=wrap .u8 (Int.fdiv n (2^min (8*j) 32))
def be (n:Int) (k:Nat):KE:=(List.range k).map λi=>iA n (k-1-i)
def lM(n:Int)(k:Nat):(be n k).length=k:=by simp[be]
def gu(n:Int)(h:-1000000000000000<=n/\n<=1000000000000000):wrap .i64 n=n:=by rw[IntWalk.i64_in];omega
def Iz{w0:Kv}{b o k cap:Nat}{A X Z:KE}{n:Int}{K:Unit->WP}(h:ed S w0 w L)(i:Nat)(hi:L[i]?=some (b,.c (gS (A++X++Z)) T))(ho:A.length=o)(hX:X.length=k)(U:k<=4)(V:∀w',ed S w0 w' (L.set i (b,.c (gS (A++be n k++Z)) T))->K () w'): cW 208 [.slice (some (dm b o)) k cap,.u n] [] w K:=by
 refine qus (b:=⟨some (dm b o),k,cap⟩)<|kz (λx w'=>∃j:Nat,x=j/\j<=k/\ed S w0 w' (L.set i (b,.c (gS (A++((be n k).take j++X.drop j)++Z)) T))) (λx _=>((k:Int)-x).toNat) ⟨0,rfl,oK,?_⟩ ?_;have:L.set i (b,.c (gS (A++((be n k).take 0++X.drop 0)++Z)) T)=L:=by
  apply ext_getElem?;intro j;rw[List.getElem?_set];by_cases hij:i=j;subst hij;rw[iP rfl,hi];have:=(zP.1 hi).1;simp[this];rw[iN hij]
 rw[this];exact h;rintro x w1 ⟨j,rfl,hj,E⟩ Y hY;have O:=(zP.1 hi).1;dsimp only;apply cD<;>intro Q;have G:j<k:=oK;have e1:wrap .i64 (8*wrap .i64 (wrap .i64 ((k:Int)-1)-j))=((8*(k-1-j):Nat):Int):=by rw[gu ((k:Int)-1) oK,gu ((k:Int)-1-j) oK,gu (8*((k:Int)-1-j)) oK];omega
 rw[e1,gu _ oK];refine mI oK<|qZ oK oK ?_;rw[zJ,xV,zJ];have I:X.drop j=X[j]::X.drop (j+1):=zY oK;have R:(be n k).take (j+1)=(be n k).take j++[iA n (k-1-j)]:=by rw[yH (by rw[lM];exact G)];simp[be]
 have C:((be n k).take j).length=j:=(by rw[yM,lM];omega);refine oI E i (by rw[List.getElem?_set,iP rfl,iP O]) (gS (A++((be n k).take (j+1)++X.drop (j+1))++Z)) ?_ rfl ?_ λw2 J _=>?_;rw[ef,ef];apply Array.ext';rw[Array.toList_setIfInBounds];show (gS _).toList.set _ _=(gS _).toList;unfold gS;simp only[toList_toArray];rw[<- map_set,I,R,zV A,set_append_right _ _ oK];rw[show o+j-A.length=j by omega,zV ((be n k).take j),set_append_right _ _ oK,C,Nat.sub_self,xL,set_cons_zero];simp only[zV,xL,xK,iA];refine Nat.ble_eq_true_of_le ?_;rw[B0,I];simp only[zF,yJ,xM,C];omega;refine hY _ _ ⟨j+1,oK,oK,?_⟩ oK;rw[set_set] at J;exact J;have G:j=k:=oK;subst G;rw[zS (by rw[lM];exact zM _),Kd oK,xJ] at E;exact V _ E
def jd (l:KE):Int:=l.foldl (λr x=>bits .or .u32 (wrap .u32 (r*2^8)) (wrap .u32 x)) 0
def H8{K:Int->WP}(h:eO S w s l)(R:l.length<=100000)(O:K (jd l) w):cW 196 [s.v] dD w K:=by refine qur ?_;have I:=h.1;refine kz (λx w'=>w'=w/\∃i:Nat,x.2=i/\i<=l.length/\x.1=jd (l.take i)) (λx _=>((l.length:Int)-x.2).toNat) ⟨rfl,0,rfl,oK,rfl⟩ ?_;rintro⟨r,ii⟩ w' ⟨rfl,i,E,U,J⟩ X Q;simp only at E J;subst E J;apply cD<;>intro G;have C:i<l.length:=oK;refine eO.at h i rfl (zA C) ?_;rw[gu _ oK];refine Q _ _ ⟨rfl,i+1,oM,oK,?_⟩ oO;rw[yH C,jd,jd,foldl_append];rfl;have C:i=l.length:=oK;subst C;rw[vB];exact O
def qmW{K:Sl->Kv->Prop}(h:eO S w s l)(hl:l.length<=1000000)(hk:∀s' B w',gA w' s' l B->Fr [] w w'->(∀b∈B,w.heap.size<=b)->(s.a.isNone=true->s'=dR)->(s.a.isNone=false->s'.a.isNone=false)->K s' w'): cond (Option.isNone s.a) (K dR w) (new (.cells #[] 5) w λr w1=>Pt.run dp ((Builtin.append_ #[96,96] 96 #[.slice (some (dm r)) 0 0,.slice s.a s.len s.cap]).run prog w1) λs' w'=>K s' w'):=by
 obtain⟨i5,hi,hz,hsz,hby⟩:=Ap;apply eV<;>intro hc;have hl0:l=[]:=by rcases h.2.2 with h3|⟨b,o,cs,T,fr,ha,_⟩;exact h3;rw[ha] at hc;cases hc
 subst hl0;exact hk _ [] w (.nil _ _ _) (.refl _ _) oM (λ_=>rfl) (λh=>by rw[hc] at h;cases h);obtain⟨a,ha⟩:∃a,s.a=some a:=by cases hs:s.a with|none=>rw[hs] at hc;cases hc|some a=>exact⟨a,rfl⟩
 have ho:=oF [] w;refine ed.new ho λr w1 e1 s1 ho=>?_;have h1:eO S w1 s l:=h.q8 ho.fr;have hb:gA w1 ⟨some (dm r),0,0⟩ [] [r]:=fB.fresh mW (ho.at (i:=0) rfl) rfl (zM _) oM oM;have hlen:=h.1;rw[ha];refine fB.j2 (s:=⟨some (dm r),0,0⟩) (ys:=l) (e:=5) hb mW oL hi hz hsz rfl (.ofSlice _ (e':=5) oL a s.len s.cap _ ?_ (h1.cells mW ha) ?_) hlen (by rw[hby,hlen];simp;omega) (by rw[hlen];simp;omega) λs' B w' g1 g2 g3 g4=>?_;rw[ug];simp[hlen];intro u hu;rw[ug] at hu;obtain⟨x,_,rfl⟩:=List.mem_map.1 hu;rfl;have hBn:∀b∈B,w.heap.size<=b:=λb hb=>by rcases g3 b hb with h|h;simp at h;omega;omega
 refine hk s' B w' (oQ g1) (ho.fr.j8 g2 (λb hb=>by simp at hb;subst hb;exact .inr oK)) hBn (λh=>by rw[hc] at h;cases h) λ_=>?_;rcases g4 with hn|hn;exact hn;simp at hn
def CP{K:Sl->WP}(h:eO S w s l)(C:l.length<=1000000)(E:∀u B w',gA w' u l B->Fr [] w w'->(∀b∈B,w.heap.size<=b)->(s.a.isNone=true->u=dR)->(s.a.isNone=false->u.a.isNone=false)->K u w'): cW 165 [s.v] dp w K:=by exact qog<|qmW h C E
def As{K:Sl->WP}(h:eO S w s l)(C:l.length<=1000000)(E:∀u B w',gA w' u l B->Fr [] w w'->(∀b∈B,w.heap.size<=b)->(s.a.isNone=true->u=dR)->(s.a.isNone=false->u.a.isNone=false)->K u w'): cW 89 [s.v] dp w K:=by exact qpO<|qmW h C E
def mn:KE:=[0,274646895,549293790,820201905,1098587580,1361435347,1640403810,1905808397,2197175160,2460548119,2722870694,2987750089,3280807620,3553878443,3811616794,4084100981]
abbrev HG:Nat:=1
def Hv (w:Kv):Prop:=∃T h,w.heap[HG]?=some (.cells (mn.map (Value.int .u32)).toArray T h)
def Hv.j0{w':Kv}(h:Hv w)(f:Fr S w w')(C:HG∉S):Hv w':=by obtain⟨T,E,u⟩:=h;exact⟨T,E,by rw[f.block HG (fl u) C];exact u⟩
def Hv.q8{w':Kv}(h:Hv w)(f:Fr [] w w'):Hv w':=h.j0 f oM
def Hv.lt(h:Hv w):HG<w.heap.size:=by obtain⟨T,C,u⟩:=h;exact fl u
def Iw(x:Int):0<=bits .and .u32 x 15/\bits .and .u32 x 15<16:=by have h:(BitVec.ofInt 32 x&&& BitVec.ofInt 32 15).toNat<16:=(by rw[BitVec.toNat_and];exact Nat.lt_of_le_of_lt Nat.and_le_right oN);have u:bits .and .u32 x 15=((BitVec.ofInt 32 x&&& BitVec.ofInt 32 15).toNat:Int):=(by show wrap .u32 _=_;unfold wrap;have:(IntKind.u32.signed)=false:=rfl;simp only[this,Bool.false_and,Bool.false_eq_true,if_false];have e:((2:Int)^IntKind.u32.bits)=4294967296:=rfl;rw[e];exact Int.emod_eq_of_lt oK (by have:(BitVec.ofInt IntKind.u32.bits x&&& BitVec.ofInt IntKind.u32.bits 15).toNat<16:=h;omega));rw[u];omega
def half (x:Int):Int:=mn.getD x.toNat 0
def Au (r:Int):Int:=bits .xor .u32 (Int.fdiv r (2^4)) (half (bits .and .u32 r 15))
def u5 (r x:Int):Int:=Au (Au (bits .xor .u32 r (wrap .u32 x)))
def wG (h:Int) (l:KE):Int:=bits .xor .u32 (l.foldl u5 (bits .xor .u32 h 4294967295)) 4294967295
def qt (l:KE):Int:=wG 0 l
def qva{x:Int}{K:Int->Prop}(h:Hv w)(k:K (half (bits .and .u32 x 15))):ld .u (Addr.add (dm HG) (Int.toNat (bits .and .u32 x 15)*1)) w K:=by obtain⟨T,J,E⟩:=h;obtain⟨G,I⟩:=Iw x;rw[Addr.j1];refine jH E _ ?_ k;generalize bits .and .u32 x 15=y at G I;have C:y.toNat<mn.length:=(by show y.toNat<16;omega);rw[xU,xV];simp only[List.getElem?_toArray,zQ,zA C,Option.map_some,half,yS,xX];rfl
def qBi{E:Int}{K:Int->WP}(h:eO S w s l)(J:Hv w)(V:l.length<=100000)(R:K (wG E l) w): cW 227 [.u E,s.v] dD w K:=by refine qt8 ?_;have O:=h.1;refine kz (λx w'=>w'=w/\∃i:Nat,x.2=i/\i<=l.length/\x.1=(l.take i).foldl u5 (bits .xor .u32 E 4294967295)) (λx _=>((l.length:Int)-x.2).toNat) ⟨rfl,0,rfl,oK,rfl⟩ ?_;rintro⟨r,ii⟩ w' ⟨rfl,i,G,hi,Q⟩ X U;simp only at G Q;subst G Q;apply cD<;>intro I;have C:i<l.length:=oK;refine eO.at h i rfl (zA C)<|mI (Iw _)<|qva J<|mI (Iw _)<|qva J ?_;rw[gu _ oK];refine U _ _ ⟨rfl,i+1,oM,oK,?_⟩ oO;rw[yH C,foldl_append];rfl;have C:i=l.length:=oK;subst C;rw[vB];exact R
def qyO{K:Int->WP}(h:eO S w s l)(C:Hv w)(E:l.length<=100000)(G:K (qt l) w): cW 197 [s.v] dD w K:=by exact qwd<|qBi h C E G
def Hs{α:Type}(A X Y Z:List α)(h:X.length=Y.length):(A++X++Z).take A.length++Y++(A++X++Z).drop (A.length+Y.length)=A++Y++Z:=by have u:(A++X++Z).take A.length=A:=(by rw[zV,JX (zM _),zS (zM _)]);have C:(A++X++Z).drop (A.length+Y.length)=Z:=(by rw[<- h,<- zF,Kf (zM _),Kd (zM _),xK]);rw[u,C]
def qlJ{A X Y Z:KE}(h:X.length=Y.length):ef (gS (A++X++Z)) A.length (Y.map (Value.int .u8))=gS (A++Y++Z):=by
 apply Array.ext';rw[sP _ _ _ (by rw[B0];simp only[zF,zK];omega)];have:=Hs (A.map (Value.int .u8)) (X.map (Value.int .u8)) (Y.map (Value.int .u8)) (Z.map (Value.int .u8)) (oQ h);simpa only[gS,xP,toList_toArray,zK] using this
def zs (n:Nat):KE:=List.replicate n 0
def rU(n:Nat):(zs n).length=n:=length_replicate
def BV(a b:Nat):zs (a+b)=zs a++zs b:=replicate_append_replicate.symm
def qCk:zs 1=[0]:=rfl
def qtZ(n:Nat):(List.replicate n (Value.int .u8 0)).toArray=gS (zs n):=by unfold gS zs;rw[map_replicate]
def ed.bytes{w0:Kv}{b:Nat}{l':KE}(h:ed S w0 w ((b,.c (gS l) T)::L))(e:l=l'):ed S w0 w ((b,.c (gS l') T)::L):=by rw[<- e];exact h
def mo (number kind:Int) (body:KE):KE:=be number 4++[kind]++be (wrap .u32 body.length) 2++[0]++body++zs (500-body.length)
def fS (number kind:Int) (body:KE):KE:=be (qt (mo number kind body)) 4++mo number kind body
def Fl{kind:Int}(h:body.length<=500):(mo number kind body).length=508:=by simp only[mo,lM,rU,zF,yJ,xM];omega
def C3{kind:Int}(h:body.length<=500):(fS number kind body).length=512:=by rw[fS,zF,lM,Fl h]
def qvv{kind:Int}{K:KN->WP}(h:eO S w s l)(O:Hv w)(hl:l.length<=100000)(I:500<l.length->K (dR,3) w)(hk:l.length<=500->∀b T w',w'.heap[b]?=some (.c (gS (fS number kind l)) T)->Fr [] w w'->w.heap.size<=b->K (⟨pW b,512,512⟩,0) w'): cW 175 [.u number,.b kind,s.v] dt w K:=by
 refine qtk ?_;have G:=h.1;refine eV (λQ=>I (by have:=zC Q;omega)) λQ=>?_;have E:l.length<=500:=(by have:=zB Q;omega);refine ed.IN (oF [] w) oN oN oN oN λb w1 eb C=>?_;rw[qtZ] at C;replace C:=ed.bytes (l':=zs 4++zs 4++zs 504) C (by rw[<- BV,<- BV];rfl);refine Gl oN oN oN oN<|Iz (k:=4) C 0 rfl (rU 4) (rU 4) oN λw2 C=>?_;replace C:=ed.bytes (l':=(zs 4++be number 4)++zs 1++zs 503) C (by rw[show (504:Nat)=1+503 from rfl,BV,zV,zV,zV]);refine qZ oK oM<|oI C 0 rfl _ (qlJ (A:=zs 4++be number 4) (X:=zs 1) (Y:=[kind]) rfl) rfl (by rw[B0];simp only[zF,rU,lM];rfl) λw3 C _=>?_;replace C:=ed.bytes (l':=(zs 4++be number 4++[kind])++zs 2++zs 501) C (by rw[show (503:Nat)=2+501 from rfl,BV,zV,zV,zV,zV,zV]);refine Gl oK oK oM oM<|Iz (k:=2) C 0 rfl (by simp only[zF,rU,lM];rfl) (rU 2) oN λw4 C=>?_;replace C:=ed.bytes (l':=(zs 4++be number 4++[kind]++be (wrap .u32 s.len) 2++[0])++zs l.length++zs (500-l.length)) C (by rw[show (501:Nat)=1+(l.length+(500-l.length)) by omega,BV,BV,qCk];simp only[zV]);refine Gf oK oM oM oM ?_;have V:eO S w4 s l:=h.q8 C.fr;have e6:(zs 4++be number 4++[kind]++be (wrap .u32 s.len) 2++[0]).length=12:=(by simp only[zF,rU,lM];rfl);refine ed.zh (el:=5) (vs:=l.map (Value.int .u8)) C 0 rfl oL oL (by rw[zK,G];exact (xT (by show l.length<=500;omega)).symm) (λJ=>?_) (λv O=>by obtain⟨x,_,rfl⟩:=mem_map.1 O;rfl) (by rw[B0,zF,zF,e6,rU,rU,zK];omega) λw5 C=>?_;rcases V.2.2 with h3|⟨bb,o,cs,T,fr,ha,_⟩;rw[h3] at J;exact absurd rfl J;refine⟨_,ha,?_⟩
 have:=V.cells mW ha;rw[ug] at this;exact this;have e5:=qlJ (A:=zs 4++be number 4++[kind]++be (wrap .u32 s.len) 2++[0]) (X:=zs l.length) (Y:=l) (Z:=zs (500-l.length)) (rU _);rw[e6] at e5;have e7:(0:Nat)+Int.toNat 12*1=12:=rfl;rw[e7,e5] at C;replace C:=ed.bytes (l':=[]++zs 4++mo number kind l) C (by simp only[mo,G,zV,xK]);refine Aw ⟨oK,oM⟩<|Gf oK oM oM oM ?_;have R:=C.drew;have hr:eO [] w5.drew ⟨some ⟨b,0+Int.toNat 4*1,none⟩,(512:Int).toNat-Int.toNat 4,(512:Int).toNat-Int.toNat 4⟩ (mo number kind l):=by
  have:=AZ (S:=[]) (o:=4) (n:=508) (cap:=508) (R.at (i:=0) rfl) (by rw[zF,zF,rU,Fl E];simp) (zM _) oM;rw[xK,Kf (by rw[rU];exact zM _),Kd (by rw[rU];exact zM _),xK,zS (by rw[Fl E];exact zM _)] at this;exact this
 have U:Hv w5.drew:=O.q8 R.fr;refine qyO hr U (by rw[Fl E];decide)<|Iz (k:=4) R 0 rfl rfl (rU 4) oN λw6 C=>hk E b _ w6 (C.at (i:=0) rfl) C.fr oK
def fq (l:KE):Prop:=∀x∈l,0<=x/\x<256
def fq.take{l:KE}(h:fq l)(n:Nat):fq (l.take n):=λx u=>h x (yW u)
def fq.drop{l:KE}(h:fq l)(n:Nat):fq (l.drop n):=λx u=>h x (yV u)
def qxq(h:fq l):((Lib.countByte (Lib.bytesOf l) (0:Int).toNat.toUInt8:Nat):Int)=l.length↔∀x∈l,x=0:=by
 have key:∀l:KE,fq l->((Lib.bytesOf l).count (0:UInt8)<=l.length/\((Lib.bytesOf l).count (0:UInt8)=l.length↔∀x∈l,x=0)):=by
  intro l;induction l with
  | nil=>intro _;simp[Lib.bytesOf]
  | cons a l ih=>
   intro u;obtain⟨J,C⟩:=ih λx E=>u x (zN _ E);have O:=u a oM;have e:Lib.bytesOf (a::l)=UInt8.ofNat a.toNat::Lib.bytesOf l:=rfl;rw[e,count_cons];have G:(UInt8.ofNat a.toNat==0)=decide (a=0):=by
    by_cases h0:a=0;subst h0;rfl;rw[zU h0,zR];intro I;have:=Kr UInt8.toNat I;simp at this;omega
   rw[G];by_cases h0:a=0;subst h0;simp only[decide_true,if_true,yJ,zG,forall_eq_or_imp,true_and];exact⟨oK,by rw[<- C];omega⟩;simp only[h0,decide_false,Bool.false_eq_true,if_false,yJ,zG,forall_eq_or_imp,false_and,iff_false];omega
 have:=(key l h).2
 show (((Lib.bytesOf l).count _:Nat):Int)=_↔_;rw[<- this];exact Int.ofNat_inj
def qpQ{b2 cap2:Nat}{K:Int->Kv->Prop}(h:eO S w s l)(hB:fq l)(hc2:w.cell? (dm b2)=some (.int .u8 0))(hk:∀c:Int,(c=l.length↔∀x∈l,x=0)->K c w): call prog 198 [.slice s.a s.len s.cap,.slice (some (dm b2)) 1 cap2] [.one (.int .i64)] w K:=by
 refine qpP (s:=s) (sep:=⟨some (dm b2),1,cap2⟩) ?_;have hlen:=h.1;refine JU (by rfl)<|JT (by rfl)<|qZ oK oM<|qj (c:=.int .u8) 0 hc2 ?_;have hcount:(Extern.BytealgCount.count #[.slice s.a s.len s.cap,.int .u8 0]).run prog w=.ok (.int .i64 (Lib.countByte (Lib.bytesOf l) (0:Int).toNat.toUInt8)) w:=by
  cases ha:s.a with
  | none=>
   have hl0:l=[]:=by rcases h.2.2 with h3|⟨b,o,cs,T,fr,ha',_⟩;exact h3;rw[ha] at ha';cases ha'
   subst hl0;exact Lib.run_countNil w _ _ _
  | some a=>
   refine Lib.run_countAt w a s.len s.cap l hlen.symm (λi hi=>?_) 0;have:=h.cells mW ha i (.int .u8 (l.getD i 0)) ?_;exact this;rw[ug,zQ,yS,zA oK];rfl
 exact Et (e:=Extern.BytealgCount.count) func229 oL oL oL oL (((Lib.countByte (Lib.bytesOf l) (0:Int).toNat.toUInt8:Nat):Int)) w hcount<|hk _ (qxq hB)
def fP (number:Int) (b:KE):Int×List Int×Int:=
 if b.length≠512 then (0,[],1)
 else if jd (b.take 4)≠qt (b.drop 4) then (0,[],8)
 else if jd ((b.take 8).drop 4)≠number then (0,[],4)
 else if jd ((b.take 11).drop 9)>500\/b.getD 11 0≠0 then (0,[],2)
 else if ∃x∈b.drop (12+(jd ((b.take 11).drop 9)).toNat),x≠0 then (0,[],2)
 else (b.getD 8 0,(b.take (12+(jd ((b.take 11).drop 9)).toNat)).drop 12,0)
def nR(x:Int)(h:0<=x/\x<4294967296):wrap .u32 x=x:=by unfold wrap;have:(IntKind.u32.signed)=false:=rfl;simp only[this,Bool.false_and,Bool.false_eq_true,if_false];exact Int.emod_eq_of_lt h.1 h.2
def AM(x:Int):0<=wrap .u32 x/\wrap .u32 x<4294967296:=by unfold wrap;have:(IntKind.u32.signed)=false:=rfl;simp only[this,Bool.false_and,Bool.false_eq_true,if_false];exact⟨Int.emod_nonneg _ oN,Int.emod_lt_of_pos _ oN⟩
def Fu(h:BinOp)(x y:Int):0<=bits h .u32 x y/\bits h .u32 x y<4294967296:=AM _
def qwk(l:KE):0<=jd l/\jd l<4294967296:=by
 unfold jd;have:∀(l:KE) (a:Int),0<=a/\a<4294967296->0<=l.foldl (λr x=>bits .or .u32 (wrap .u32 (r*2^8)) (wrap .u32 x)) a/\l.foldl (λr x=>bits .or .u32 (wrap .u32 (r*2^8)) (wrap .u32 x)) a<4294967296:=by
  intro l;induction l with
  | nil=>intro a h;exact h
  | cons x l ih=>intro a _;exact ih _ (Fu _ _ _)
 exact this l 0 oN
def HE{K:KS->WP}(h:eO S w s l)(hv:Hv w)(hB:fq l)(hl:l.length<=100000)(hk:∀s' B w',gA w' s' (fP number l).2.1 B->Fr [] w w'->(∀b∈B,w.heap.size<=b)->K ((fP number l).1,s',(fP number l).2.2) w'): cW 168 [.u number,s.v] dw w K:=by
 refine qtj ?_;have J:=h.1;have E:∀ {e:Int} {w':Kv},fP number l=(0,[],e)->Fr [] w w'->K (0,dR,e) w':=by
  intro e w' he hf;have:=hk dR [] w' (by rw[he];exact .nil _ _ _) hf oM;rw[he] at this;exact this
 apply eV<;>intro C;refine E ?_ (.refl _ _);have:l.length≠512:=(by simp at C;omega);simp[fP,this];have O:l.length=512:=(by simp at C;omega);refine eE.part h 0 4 rfl rfl oK oK λs1 l1 r1 _=>eE.part h 4 512 rfl (by rw[J,O];rfl) oK oK λs2 l2 r2 _=>?_;rw[zS oK] at r2;rw[xH] at r1;have fd:Fr [] w w.drew:=(Fr.refl _ _).drew;have ai:Hv w.drew:=hv.q8 fd;refine H8 (w:=w.drew) r1 (by rw[yM];omega)<|qyO (w:=w.drew) r2 ai (by rw[yC];omega) ?_;have V:¬l.length≠512:=oK;apply eV<;>intro C;refine E ?_ fd;have:jd (l.take 4)≠qt (l.drop 4):=(oQ C);rw[fP,iN V,iP this];have h1:¬jd (l.take 4)≠qt (l.drop 4):=(oQ C);have hd:eO S w.drew s l:=h;refine eE.part hd 4 8 rfl rfl oK oK λs3 l3 r3 _=>H8 r3 (by rw[yC,yM];omega) ?_;apply eV<;>intro C;refine E ?_ fd;have:jd ((l.take 8).drop 4)≠number:=(oQ C);rw[fP,iN V,iN h1,iP this];have h2:¬jd ((l.take 8).drop 4)≠number:=(oQ C);refine eE.part hd 9 11 rfl rfl oK oK λs4 l4 r4 _=>H8 r4 (by rw[yC,yM];omega) ?_;have hn:=qwk ((l.take 11).drop 9);have ak:l[11]?=some (l.getD 11 0):=(by rw[yS,zA oK];rfl);have g8:l[8]?=some (l.getD 8 0):=(by rw[yS,zA oK];rfl);refine jf (λb w'=>b=decide (jd ((l.take 11).drop 9)>500\/l.getD 11 0≠0)/\w'=w.drew) ?_ ?_;apply eV<;>intro C;exact⟨by rw[yA (Or.inl (zC C))],rfl⟩;refine eO.at hd 11 rfl ak ⟨?_,rfl⟩;have:=zB C;generalize l.getD 11 0=z;by_cases hz:z=0<;>simp[this,hz];rintro b w1 ⟨rfl,rfl⟩;apply eV<;>intro C;refine E ?_ fd;rw[fP,iN V,iN h1,iN h2,iP (zC C)];have h3:=zB C;have Q:jd ((l.take 11).drop 9)<=500:=by rcases Int.lt_or_le 500 (jd ((l.take 11).drop 9)) with h|h;exact absurd (Or.inl h) h3;exact h
 have ov:fP number l=if ∃x∈l.drop (12+(jd ((l.take 11).drop 9)).toNat),x≠0 then (0,[],2) else (l.getD 8 0,(l.take (12+(jd ((l.take 11).drop 9)).toNat)).drop 12,0):=by rw[fP,iN V,iN h1,iN h2,iN h3]
 generalize jd ((l.take 11).drop 9)=n at hn Q ov;obtain⟨m,rfl⟩:∃m:Nat,n=m:=⟨n.toNat,oK⟩;rw[nR _ oK];rw[zJ] at ov;refine eE.part hd (12+m) 512 oM (by rw[J,O];rfl) oK oK λs5 l5 r5 _=>?_;rw[zS oK] at r5;have ho:=oF [] w.drew;refine ed.new ho λzb w2 ez sz ho=>?_;have am:eO S w2 s5 (l.drop (12+m)):=r5.q8 ho.fr;refine qpQ am (hB.drop _) (ho.cell (off:=0) 0 rfl rfl) λc ac=>?_;have I:Fr [] w w2:=fd.trans ho.fr;have ad:=r5.1;apply eV<;>intro C;refine E ?_ I;have an:¬ ∀x∈l.drop (12+m),x=0:=by rw[<- ac];intro e;rw[e,ad] at C;simp at C
 rw[ov,if_pos];exact Classical.byContradiction λao=>an λx hx=>Classical.byContradiction λaq=>ao ⟨x,hx,aq⟩;have ae:∀x∈l.drop (12+m),x=0:=by rw[<- ac];rw[ad] at C;simpa using C
 rw[iN (by rintro⟨x,hx,V⟩;exact V (ae x hx))] at ov;have af:eO S w2.drew s l:=(h.q8 I).drew;obtain⟨_,b8,o8,au,_,ag,T8,av,R,aw⟩:=eE.at af 8 g8;have U:ag[o8+8]?=some (.b (l.getD 8 0)):=by
  have:=Kr (·[0]?) aw;simpa using this
 refine sM au ⟨oK,oK⟩ ?_;have G:∀ {w':Kv},w'.heap[b8]?=some (.cells ag T8 av)->w'.cell? ⟨b8,o8+Int.toNat 8*1,none⟩=some (.b (l.getD 8 0)):=λhb=>by rw[kD hb];exact U
 refine qj (l.getD 8 0) (G R)<|eE.part af 12 (12+m) rfl oM oK oK λs6 l6 r6 _=>?_;have lm:((l.take (12+m)).drop 12).length=m:=(by rw[yC,yM];omega);refine As r6 (by rw[lm];omega) λs7 B w3 ay f7 n7 _ _=>ja (G (by show _=_;rw[f7.block b8 (fl R) oM];exact R)) ?_;have e1:(w2.drew).heap.size=w2.heap.size:=rfl
 have:=hk s7 B w3 (by rw[ov];exact ay) (I.drew.trans f7) (λb hb=>by have:=n7 b hb;have:=I.size;omega);rw[ov] at this;exact this
end
section
open Go Go.Pt List
open Go.IntKind (wrap)
variable {K:KI->WP} {a b body:KE} {n number:Int}
def CW(x:Int):wrap .u8 x=x%256:=by unfold wrap;have:(IntKind.u8.signed)=false:=rfl;simp only[this,Bool.false_and,Bool.false_eq_true,if_false];rfl
def qB6{r x:Int}(h:0<=r/\r<16777216)(u:0<=x/\x<256):bits .or .u32 (wrap .u32 (r*2^8)) (wrap .u32 x)=r*256+x:=by rw[nR x oK,nR (r*2^8) oK];obtain⟨a,rfl⟩:∃a:Nat,r=a:=⟨r.toNat,oK⟩;obtain⟨b,rfl⟩:∃b:Nat,x=b:=⟨x.toNat,oK⟩;have e1:((a:Int)*2^8)=((2^8*a:Nat):Int):=oK;rw[e1];show wrap .u32 ((BitVec.ofInt 32 ((2^8*a:Nat):Int)||| BitVec.ofInt 32 (b:Int)).toNat:Nat)=_;rw[BitVec.toNat_or,BitVec.ofInt_natCast,BitVec.ofInt_natCast,BitVec.toNat_ofNat,BitVec.toNat_ofNat,Nat.mod_eq_of_lt (show 2^8*a<2^32 by omega),Nat.mod_eq_of_lt (show b<2^32 by omega),<- Nat.two_pow_add_eq_or_of_lt (show b<2^8 by omega)];rw[nR _ oK];omega
def li (l:KE):Int:=l.foldl (λr x=>r*256+x) 0
def FL:∀ {l:KE},fq l->l.length<=4->jd l=li l:=by
 have key:∀(l:KE) (r:Int) (k:Nat),fq l->l.length<=k->k<=4->0<=r->r<256^(4-k)->
   l.foldl (λr x=>bits .or .u32 (wrap .u32 (r*2^8)) (wrap .u32 x)) r=l.foldl (λr x=>r*256+x) r:=by
  intro l;induction l with
  | nil=>intros;rfl
  | cons x l ih=>
   intro r k u h C G E;have I:=u x oM;simp only[yJ] at h;have J:r<16777216:=by
    have:(256:Int)^(4-k)<=256^3:=by
     have:(4-k)<=3:=oK;match k,C,h with
     | 1,_,_=>decide
     | 2,_,_=>decide
     | 3,_,_=>decide
     | 4,_,_=>decide
    have e:(256:Int)^3=16777216:=oN;omega
   rw[foldl_cons,foldl_cons,qB6 ⟨G,J⟩ I];match k,C,h,E with
   | k+1,C,h,E=>
    refine ih _ k (λy O=>u y (zN _ O)) oK oK oK ?_;have e:4-k=(4-(k+1))+1:=oK;rw[e,Int.pow_succ];omega
 intro l u h;exact key l 0 4 u h oN oN oN
def BT(h:0<=n)(j:Nat)(u:j<=3):iA n j=n / 256^j%256:=by
 unfold iA;rw[CW,Int.fdiv_eq_ediv_of_nonneg _ (by exact Int.pow_nonneg oN)];match j,u with
 | 0,_=>rfl
 | 1,_=>rfl
 | 2,_=>rfl
 | 3,_=>rfl
def DX(h:0<=n):be n 4=[n / 16777216%256,n / 65536%256,n / 256%256,n%256]:=by have e:be n 4=[iA n 3,iA n 2,iA n 1,iA n 0]:=rfl;rw[e,BT h 3 oN,BT h 2 oN,BT h 1 oN,BT h 0 oN];simp
def be2(h:0<=n):be n 2=[n / 256%256,n%256]:=by have e:be n 2=[iA n 1,iA n 0]:=rfl;rw[e,BT h 1 oN,BT h 0 oN];simp
def u7(n:Int)(k:Nat):fq (be n k):=by intro x h;obtain⟨i,_,rfl⟩:=mem_map.1 h;unfold iA;rw[CW];omega
def GN(h:0<=n/\n<4294967296):jd (be n 4)=n:=by rw[FL (u7 _ _) (by rw[lM];exact zM _),DX h.1];show (((0*256+_)*256+_)*256+_)*256+_=n;omega
def qsT(h:0<=n/\n<65536):jd (be n 2)=n:=by rw[FL (u7 _ _) (by rw[lM];decide),be2 h.1];show (0*256+_)*256+_=n;omega
def qw0(l:KE):0<=qt l/\qt l<4294967296:=by unfold qt wG;exact Fu _ _ _
def fq.append(h:fq a)(k:fq b):fq (a++b):=λx C=>by rcases zD.1 C with u|u;exact h x u;exact k x u
def fq.zs(n:Nat):fq (zs n):=λx h=>by
 have:=eq_of_mem_replicate h;omega
def fq.one{x:Int}(h:0<=x/\x<256):fq [x]:=λy u=>by simp at u;subst u;exact h
def qyB{kind:Int}(h:0<=kind/\kind<256)(u:fq body):fq (mo number kind body):=
 (((((u7 _ _).append (.one h)).append (u7 _ _)).append (.one oN)).append u).append (.zs _)
def Hk{kind:Int}(h:0<=kind/\kind<256)(u:fq body):fq (fS number kind body):=(u7 _ _).append (qyB h u)
def qno{kind:Int}(I:0<=number/\number<4294967296)(J:body.length<=500):fP number (fS number kind body)=(kind,body,0):=by
 have u:wrap .u32 (body.length:Int)=(body.length:Int):=nR _ oK;have e0:fS number kind body=be (qt (mo number kind body)) 4++(be number 4++([kind]++(be body.length 2++([0]++(body++zs (500-body.length)))))):=by
  rw[fS];conv=>lhs;rhs;rw[mo]
  rw[u];simp only[zV]
 have l4:=lM (qt (mo number kind body)) 4;have e1:(fS number kind body).take 4=be (qt (mo number kind body)) 4:=(by rw[fS,JX (by rw[lM];exact zM _),zS (by rw[lM];exact zM _)]);have O:(fS number kind body).drop 4=mo number kind body:=(by rw[fS,Kf (by rw[lM];exact zM _),Kd (by rw[lM];exact zM _),xK]);have G:∀n,∃a b c d,be n 4=[a,b,c,d]:=λn=>⟨_,_,_,_,rfl⟩;have Q:∀n,∃a b,be n 2=[a,b]:=λn=>⟨_,_,rfl⟩;obtain⟨R,U,V,a3,ha⟩:=G (qt (mo number kind body));obtain⟨n0,n1,n2,n3,C⟩:=G number;obtain⟨l0,l1,E⟩:=Q body.length;have h:fS number kind body=R::U::V::a3::n0::n1::n2::n3::kind::l0::l1::0::(body++zs (500-body.length)):=by rw[e0,ha,C,E];rfl
 have g1:jd ((fS number kind body).take 4)=qt ((fS number kind body).drop 4):=(by rw[e1,O,GN (qw0 _)]);have g2:jd (((fS number kind body).take 8).drop 4)=number:=(by have:((fS number kind body).take 8).drop 4=be number 4:=(by rw[h,C];rfl);rw[this,GN I]);have g3:jd (((fS number kind body).take 11).drop 9)=body.length:=(by have:((fS number kind body).take 11).drop 9=be body.length 2:=(by rw[h,E];rfl);rw[this,qsT oK]);have g4:(fS number kind body).getD 11 0=0:=(by rw[h];rfl);have g5:(fS number kind body).getD 8 0=kind:=(by rw[h];rfl);have g6:(fS number kind body).drop (12+body.length)=zs (500-body.length):=(by rw[h,Nat.add_comm];show (body++zs (500-body.length)).drop body.length=_;rw[Kf (zM _),drop_length,xK]);have g7:((fS number kind body).take (12+body.length)).drop 12=body:=(by rw[h,Nat.add_comm];show (body++zs (500-body.length)).take body.length=_;rw[JX (zM _),vB]);rw[fP,iN (by rw[C3 J];simp),iN (by rw[g1];simp),iN (by rw[g2];simp),g3,g4,iN oP,zJ,g6,if_neg,g5,g7];rintro⟨x,hx,h0⟩;exact h0 (eq_of_mem_replicate hx)
def cmpL:KE->KE->Int
 | [],[]=>0
 | [],_::_=>-1
 | _::_,[]=>1
 | a::r,b::s=>if a<b then -1 else if b<a then 1 else cmpL r s
abbrev gq (a b:KE):Prop:=cmpL a b<0
def Je:∀a b:KE,cmpL a b=-1\/cmpL a b=0\/cmpL a b=1
 | [],[]=>.inr (.inl rfl)
 | [],_::_=>.inl rfl
 | _::_,[]=>.inr (.inr rfl)
 | a::r,b::s=>by rw[cmpL];split;exact .inl rfl;split;exact .inr (.inr rfl);exact Je r s
def HK:∀a:KE,cmpL a a=0
 | []=>rfl
 | a::r=>by rw[cmpL,iN,iN];exact HK r
def E1:∀ {a b:KE},cmpL a b=0->a=b
 | [],[],_=>rfl
 | [],_::_,h=>by simp[cmpL] at h
 | _::_,[],h=>by simp[cmpL] at h
 | a::r,b::s,h=>by rw[cmpL] at h;split at h;cases h;split at h;cases h;rw[E1 h,show a=b by omega]
def v8:∀a b:KE,cmpL b a =-cmpL a b
 | [],[]=>rfl
 | [],_::_=>rfl
 | _::_,[]=>rfl
 | a::r,b::s=>by rw[cmpL,cmpL];by_cases h1:a<b;rw[iN (show ¬b<a by omega),iP h1,iP h1];rfl;by_cases h2:b<a;rw[iP h2,iN h1,iP h2];rw[iN h2,iN h1,iN h1,iN h2];exact v8 r s
def tX:¬gq a a:=by unfold gq;rw[HK];decide
def rL:∀ {a b c:KE},gq a b->gq b c->gq a c
 | [],[],_,h,_=>by simp[gq,cmpL] at h
 | [],_::_,[],_,h=>by simp[gq,cmpL] at h
 | [],_::_,_::_,_,_=>by simp[gq,cmpL]
 | _::_,[],_,h,_=>by simp[gq,cmpL] at h
 | _::_,_::_,[],_,h=>by simp[gq,cmpL] at h
 | a::r,b::s,c::t,h,g=>by unfold gq at h g⊢;rw[cmpL] at h g⊢;by_cases h1:a<b;by_cases g1:b<c;rw[iP];decide;rw[iN g1] at g;by_cases g2:c<b;rw[iP g2] at g;omega;rw[iP];decide;rw[iN h1] at h;by_cases h2:b<a;rw[iP h2] at h;omega;rw[iN h2] at h;by_cases g1:b<c;rw[iP];decide;rw[iN g1] at g;by_cases g2:c<b;rw[iP g2] at g;omega;rw[iN g2] at g;rw[iN,iN];exact rL (a:=r) (b:=s) (c:=t) h g
def uH(h:gq a b):¬gq b a:=λg=>tX (rL h g)
def Ch(h:gq a b):a≠b:=λe=>by rw[e] at h;exact tX h
def qx4(a b:KE):gq a b\/a=b\/gq b a:=by rcases Je a b with h|h|h;exact .inl (by unfold gq;omega);exact .inr (.inl (E1 h));refine .inr (.inr ?_);unfold gq;rw[v8];omega
def EC:¬gq a b↔a=b\/gq b a:=by constructor;intro h;rcases qx4 a b with u|u|u;exact absurd u h;exact .inl u;exact .inr u;rintro (rfl|h);exact tX;exact uH h
abbrev nm (a b:KE):Prop:=¬gq b a
def Ex{c:KE}(h:nm a b)(g:gq b c):gq a c:=by rcases EC.1 h with u|u;rw[<- u];exact g;exact rL u g
def uf{c:KE}(h:gq a b)(g:nm b c):gq a c:=by rcases EC.1 g with u|u;rw[u];exact h;exact rL h u
def CA{c:KE}(h:nm a b)(g:nm b c):nm a c:=λk=>by rcases EC.1 h with u|u;subst u;exact g k;exact g (rL k u)
abbrev Key:=KE
variable {k:Key}
abbrev gH:=List (List Int×List Int)
variable {l:gH}
def dY (l:List Key) (k:Key):Nat:=(l.takeWhile λa=>decide (gq a k)).length
def eT (l:List Key) (k:Key):Nat:=(l.takeWhile λa=>decide (nm a k)).length
def gz (l:List Key):Prop:=l.Pairwise gq
def qgJ{α:Type}(p:α->Bool)(l:List α):(l.takeWhile p).length<=l.length:=(takeWhile_sublist p).length_le
def G0(l:List Key)(k:Key):dY l k<=l.length:=qgJ _ l
def Ce(l:List Key)(k:Key):eT l k<=l.length:=qgJ _ l
def IS{α:Type}(p:α->Bool):∀l:List α,l.take (l.takeWhile p).length=l.takeWhile p
 | []=>rfl
 | a::r=>by
  rw[takeWhile_cons];cases h:p a with
  | true=>simp[IS p r]
  | false=>simp
def Hg{α:Type}{p:α->Bool}:∀ {l:List α} {x:α},x∈l.takeWhile p->p x=true
 | a::r,x,h=>by
  rw[takeWhile_cons] at h;cases u:p a with
  | true=>
   rw[u] at h;rcases zG.1 h with rfl|h;exact u;exact Hg h
  | false=>rw[u] at h;cases h
def IV{α:Type}{p:α->Bool}:∀ {l:List α} {x:α} {r:List α},l.drop (l.takeWhile p).length=x::r->p x=false
 | a::s,x,r,h=>by
  rw[takeWhile_cons] at h;cases u:p a with
  | true=>
   rw[u] at h;exact IV (l:=s) (oQ h)
  | false=>
   rw[u] at h;simp at h;rw[<- h.1];exact u
def qtm{l:List Key}{a:Key}(h:a∈l.take (dY l k)):gq a k:=by unfold dY at h;rw[IS] at h;exact zC (p:=gq a k) (Hg (p:=λa=>decide (gq a k)) h)
def qoZ{l:List Key}{a:Key}(h:a∈l.take (eT l k)):nm a k:=by unfold eT at h;rw[IS] at h;exact zC (p:=nm a k) (Hg (p:=λa=>decide (nm a k)) h)
def BB{x:Key}{r:List Key}(h:gz (x::r)):∀a∈r,gq x a:=(yK.1 h).1
def gz.drop{l:List Key}(h:gz l)(n:Nat):gz (l.drop n):=List.Pairwise.sublist (drop_sublist n l) h
def gz.take{l:List Key}(h:gz l)(n:Nat):gz (l.take n):=List.Pairwise.sublist (take_sublist n l) h
def qr2{l:List Key}{a:Key}(E:gz l)(h:a∈l.drop (dY l k)):nm k a:=by
 have u:=E.drop (dY l k);cases e:l.drop (dY l k) with
 | nil=>rw[e] at h;cases h
 | cons x r=>
  have C:nm k x:=zB (IV (p:=λa=>decide (gq a k)) e);rw[e] at h u;rcases zG.1 h with rfl|h;exact C;exact CA C (uH (BB u a h))
def qnd{l:List Key}{a:Key}(E:gz l)(h:a∈l.drop (eT l k)):gq k a:=by
 have u:=E.drop (eT l k);cases e:l.drop (eT l k) with
 | nil=>rw[e] at h;cases h
 | cons x r=>
  have C:gq k x:=Classical.not_not.1 (zB (IV (p:=λa=>decide (nm a k)) e));rw[e] at h u;rcases zG.1 h with rfl|h;exact C;exact rL C (BB u a h)
def gI (k v:Key):gH->gH
 | []=>[(k,v)]
 | x::r=>if gq k x.1 then (k,v)::x::r else if k=x.1 then (k,v)::r else x::gI k v r
def ir (k:Key) (l:gH):gH:=l.filter λx=>decide (x.1≠k)
abbrev eh (l:gH):List Key:=l.map (·.1)
def fT (l:gH):Prop:=gz (eh l)
def Db{k v:Key}:∀ {a:gH} {l:gH},(∀x∈a,gq x.1 k)->gI k v (a++l)=a++gI k v l
 | [],l,_=>rfl
 | x::a,l,h=>by have u:=h x oM;rw[xL,gI,iN (uH u),iN λe=>Ch u e.symm,Db λy C=>h y (zN _ C),xL]
def qm9{k v:Key}{b:gH}(h:∀x∈b,gq k x.1):∀l:gH,gI k v (l++b)=gI k v l++b
 | []=>by
  cases b with
  | nil=>rfl
  | cons x r=>
   show gI k v (x::r)=(k,v)::x::r;rw[gI,iP (h x oM)]
 | x::l=>by rw[xL,gI,gI];split;rfl;split;rfl;rw[qm9 h l,xL]
def Ix{v w:Key}{a r:gH}(h:∀x∈a,gq x.1 k):gI k v (a++(k,w)::r)=a++(k,v)::r:=by rw[Db h,gI,iN tX,iP rfl]
def qxW{v:Key}{a b:gH}(h:∀x∈a,gq x.1 k)(u:∀x∈b,gq k x.1):gI k v (a++b)=a++(k,v)::b:=by
 rw[Db h];cases b with
 | nil=>rfl
 | cons x r=>rw[gI,iP (u x oM)]
def DV{k v:Key}{x:Key×Key}:∀ {l:gH},x∈gI k v l->x=(k,v)\/x∈l
 | [],h=>.inl (by simpa[gI] using h)
 | y::l,h=>by rw[gI] at h;split at h;rcases zG.1 h with h|h;exact .inl h;exact .inr h;split at h;rcases zG.1 h with h|h;exact .inl h;exact .inr (zN _ h);rcases zG.1 h with h|h;exact .inr (by rw[h];simp);rcases DV h with h|h;exact .inl h;exact .inr (zN _ h)
def Fh{k v:Key}:∀ {l:gH},fT l->fT (gI k v l)
 | [],_=>pairwise_singleton _ _
 | x::l,h=>by have C:=yK.1 (show (x.1::eh l).Pairwise gq from h);rw[gI];split;rename_i E;refine yK.2 ⟨λa u=>?_,h⟩;rcases zG.1 u with rfl|u;exact E;exact rL E (C.1 a u);split;rename_i E;refine yK.2 ⟨λa u=>?_,C.2⟩;show gq k a;rw[E];exact C.1 a u;rename_i G I;refine yK.2 ⟨λa u=>?_,Fh C.2⟩;obtain⟨y,J,rfl⟩:=mem_map.1 u;rcases DV J with rfl|J;rcases EC.1 G with e|e;exact absurd e I;exact e;exact C.1 _ (zZ J)
def Fg{k v:Key}:∀ {l:gH},k∉eh l->(gI k v l).length=l.length+1
 | [],_=>rfl
 | x::l,h=>by rw[gI];split;rfl;split;rename_i e;exact absurd (by rw[e];simp) h;rw[yJ,Fg λu=>h (zN _ u),yJ]
def E9{k v:Key}:∀ {l:gH},fT l->k∈eh l->(gI k v l).length=l.length
 | x::l,E,h=>by have C:=yK.1 (show (x.1::eh l).Pairwise gq from E);rw[gI];split;rename_i u;rcases zG.1 h with e|e;rw[e] at u;exact absurd u tX;exact absurd u (uH (C.1 k e));split;rfl;rename_i u;rcases zG.1 h with e|e;exact absurd e u;rw[yJ,E9 C.2 e,yJ]
def qoF{a:gH}(h:∀x∈a,gq x.1 k):ir k (a++l)=a++ir k l:=by unfold ir;rw[xE,filter_eq_self.2];intro x u;exact yA (Ch (h x u))
def qmX{b:gH}(h:∀x∈b,gq k x.1):ir k (l++b)=ir k l++b:=by unfold ir;rw[xE];congr 1;rw[filter_eq_self];intro x u;exact yA λe=>Ch (h x u) e.symm
def qzs{w:Key}{a b:gH}(h:∀x∈a,gq x.1 k)(u:∀x∈b,gq k x.1):ir k (a++(k,w)::b)=a++b:=by rw[qoF h,show (k,w)::b=[(k,w)]++b from rfl,qmX u];unfold ir;simp
def qqL(h:fT l):fT (ir k l):=List.Pairwise.sublist (List.Sublist.map _ filter_sublist) h
def H0{x:Key×Key}:x∈ir k l↔x∈l/\x.1≠k:=by unfold ir;rw[Kq];simp
def fT.vO{a b:gH}:fT (a++b)↔fT a/\fT b/\∀x∈a,∀y∈b,gq x.1 y.1:=by unfold fT gz eh;rw[xP,pairwise_append];constructor;rintro⟨h,u,C⟩;exact⟨h,u,λx E y G=>C _ (zZ E) _ (zZ G)⟩;rintro⟨h,u,C⟩;refine⟨h,u,λa I b J=>?_⟩;obtain⟨x,E,rfl⟩:=mem_map.1 I;obtain⟨y,G,rfl⟩:=mem_map.1 J;exact C x E y G
def BU(u:fT l):(∀x∈l.take (dY (eh l) k),gq x.1 k)/\∀x∈l.drop (dY (eh l) k),nm k x.1:=by refine⟨λx h=>qtm (l:=eh l) ?_,λx h=>qr2 (l:=eh l) u ?_⟩;rw[<- xR];exact zZ h;rw[<- xS];exact zZ h
def qwq{v:Key}(Q:fT l):gI k v l=if (eh l)[dY (eh l) k]?=some k then l.set (dY (eh l) k) (k,v) else l.take (dY (eh l) k)++[(k,v)]++l.drop (dY (eh l) k):=by
 obtain⟨E,R⟩:=BU (k:=k) Q;have G:fT (l.drop (dY (eh l) k)):=(by unfold fT eh;rw[xS];exact gz.drop Q _);generalize hi:dY (eh l) k=i at E R G;have I:l=l.take i++l.drop i:=(xG i l).symm;cases e:l.drop i with
 | nil=>
  have U:l.length<=i:=drop_eq_nil_iff.1 e;rw[iN (by rw[yT (by rw[zK];exact U)];simp)];conv=>lhs;rw[I,e]
  rw[Db E];simp[gI]
 | cons x r=>
  have V:=R x (by rw[e];simp);have u:i<l.length:=by rcases Nat.lt_or_ge i l.length with h|h;exact h;rw[vG h] at e;cases e
  have hg:l[i]=x:=by
   have:=zY u;rw[e] at this;exact (vE this).1.symm
  have hr:l.drop (i+1)=r:=by
   have:=zY u;rw[e] at this;exact (vE this).2.symm
  have J:(eh l)[i]?=some x.1:=(by rw[zQ,zA u,hg];rfl);rw[J];by_cases hk:x.1=k
  ·rw[iP (by rw[hk])];conv=>lhs;rw[I,e]
   obtain⟨a,w⟩:=x;dsimp only at hk;subst hk;rw[Ix E,set_eq_take_append_cons_drop,iP u,hr]
  ·rw[iN λh=>hk (yP h)];have C:gq k x.1:=by rcases EC.1 V with h|h;exact absurd h hk;exact h
   conv=>lhs;rw[I,e]
   rw[qxW E];simp;intro y O;rcases zG.1 O with rfl|O;exact C;rw[e] at G;exact rL C (BB (x:=x.1) (r:=eh r) G y.1 (zZ O))
def AP(E:fT l):(eh l)[dY (eh l) k]?=some k↔k∈eh l:=by
 constructor;exact λh=>yG h;intro J;obtain⟨O,Q⟩:=BU (k:=k) E;obtain⟨x,C,rfl⟩:=mem_map.1 J;have u:x∈l.drop (dY (eh l) x.1):=by rw[<- xG (dY (eh l) x.1) l,zD] at C;rcases C with C|C;exact absurd (O x C) tX;exact C
 have G:fT (l.drop (dY (eh l) x.1)):=(by unfold fT eh;rw[xS];exact gz.drop E _);cases e:l.drop (dY (eh l) x.1) with
 | nil=>rw[e] at u;cases u
 | cons y r=>
  have R:=Q y (by rw[e];simp);rw[e] at u G;have U:y.1=x.1:=by rcases zG.1 u with rfl|u;rfl;exact absurd (BB (x:=y.1) (r:=eh r) G x.1 (zZ u)) R
  have I:(l.drop (dY (eh l) x.1))[0]?=some y:=(by rw[e];rfl);rw[xB] at I;rw[zQ,show l[dY (eh l) x.1]?=some y by simpa using I,<- U];rfl
def qoG(C:fT l)(J:k∈eh l):ir k l=l.take (dY (eh l) k)++l.drop (dY (eh l) k+1):=by
 have u:=(AP C).2 J;obtain⟨I,O⟩:=BU (k:=k) C;generalize dY (eh l) k=i at I O u;have h:i<l.length:=by
  have:=(zP.1 u).1;simpa using this
 have Q:l=l.take i++l[i]::l.drop (i+1):=(by rw[<- zY h,xG]);have E:l[i].1=k:=(by rw[zQ,zA h] at u;exact yP u);have G:fT (l.drop i):=(by unfold fT eh;rw[xS];exact gz.drop C _);rw[zY h] at G;conv=>lhs;rw[Q]
 obtain⟨a,w,e⟩:∃a w,l[i]=(a,w):=⟨_,_,rfl⟩;rw[e] at E G⊢;dsimp only at E;subst E;exact qzs I λy R=>BB (x:=a) (r:=eh (l.drop (i+1))) G y.1 (zZ R)
def uR (t:Int):KI:=
 if t=0 then (16,88) else if t=1 then (16,108) else if t=2 then (16,1) else if t=3 then (16,16)
 else if t=4 then (24,16) else if t=5 then (24,16) else if t=6 then (24,65) else if t=7 then (1,8) else (0,0)
def qyJ(t:Int):t=0\/t=1\/t=2\/t=3\/t=4\/t=5\/t=6\/t=7\/(t≠0/\t≠1/\t≠2/\t≠3/\t≠4/\t≠5/\t≠6/\t≠7):=by omega
def qsr{t:Int}{w:Kv}(h:K (uR t) w):cW 115 [.i t] dA w K:=by apply qr5;rcases qyJ t with rfl|rfl|rfl|rfl|rfl|rfl|rfl|rfl|⟨u,C,E,G,I,J,O,Q⟩<;>simpa[uR, *] using h
def vW (k v:Int):KI:=if k<1\/k>24\/v<0\/v>108 then (0,0) else (498 / (k+v),(498+k) / (4+k))
def qAs{k v:Int}{w:Kv}(h:∀w',rJ w w'->K (vW k v) w'):cW 126 [.i k,.i v] dA w K:=by
 apply qta;by_cases hc:k<1\/k>24\/v<0\/v>108;refine sI true w (λM u=>?_) ?_;by_cases h1:k<1;simpa[h1] using u;by_cases h2:k>24;simpa[h1,h2] using u;by_cases h3:v<0;simpa[h1,h2,h3] using u;have C:v>108:=oK;simpa[h1,h2,h3,C] using u;have:=h w (.refl w);simpa[vW,hc] using this;refine sI false w (λM u=>?_) ?_;simpa[show ¬k<1 by omega,show ¬k>24 by omega,show ¬v<0 by omega,show ¬v>108 by omega] using u;have:=h w.drew (rJ.refl w).drew;simp only[vW,hc,if_false] at this;have e1:IntKind.i64.wrap (k+v)=k+v:=IntWalk.i64_in _ oK;have E:IntKind.i64.wrap (4+k)=4+k:=IntWalk.i64_in _ oK;have G:IntKind.i64.wrap (498+k)=498+k:=IntWalk.i64_in _ oK;have O:0<k+v:=oK;have Q:0<4+k:=oK;have I:(498:Int).tdiv (k+v)=498 / (k+v):=Ki oK;have J:(498+k).tdiv (4+k)=(498+k) / (4+k):=Ki oK;have R:498 / (k+v)<=498:=Int.ediv_le_self _ oK;have U:(498+k) / (4+k)<=498+k:=Int.ediv_le_self _ oK;have V:0<=498 / (k+v):=Int.ediv_nonneg oK oK;have b4:0<=(498+k) / (4+k):=Int.ediv_nonneg oK oK;rw[e1,E,G,I,J,IntWalk.i64_in _ ⟨oK,oK⟩,IntWalk.i64_in _ ⟨oK,oK⟩];exact⟨oK,oK,this⟩
abbrev C5 (t:Int):Prop:=0<=t/\t<=7
end
section
open Go Go.Pt List
open Go.IntKind (wrap)
attribute [local irreducible] ld dT iH pK ku fw st new idx kZ kM gb kV ke nz ig nn call eF inv run fM i9 join loop held ext kJ ft pw pQ pT IntKind.wrap
variable {B F F1 F2 S X:KD} {K:Int->WP} {L:KK} {T:Kx} {body c l t:KE} {db:Option Addr} {defb fb mb pb r:Nat} {f:Nat->Int} {n q:Int} {s sl sn:Sl} {w w' w0:Kv}
def gW (n:Nat):Nat:=if n=0 then 0 else (n-1) / 124+1
def qyW{n:Nat}(E:n<=1000000)(h:K (gW n) w):cW 141 [.i n] dq w K:=by
 refine qnV ?_;apply cD<;>intro u;have:=u;have C:n=0:=oK;subst C;exact h;have:=u;have C:n≠0:=oK;rw[gW,iN C] at h;rw[gu ((n:Int)-1) oK];have e:Int.tdiv ((n:Int)-1) 124=(((n-1) / 124:Nat):Int):=(by rw[Ki oK];omega);rw[e,gu (((n-1) / 124:Nat):Int) oK,gu ((((n-1) / 124:Nat):Int)+1) oK];exact h
def jI:Int->KE->Bool
 | _,[]=>true
 | a,x::r=>decide (a<x)&&jI x r
def qtA{K:Bool->WP}(h:Rd S w s l)(R:l.length<=1000000)(G:K (jI 1 l) w): cW 205 [s.v] dr w K:=by
 refine qmE ?_;have O:=h.1;refine kz (λx w'=>w'=w/\∃i:Nat,x.2=i/\i<=l.length/\jI x.1 (l.drop i)=jI 1 l) (λx _=>((l.length:Int)-x.2).toNat) ⟨rfl,0,rfl,oK,oM⟩ ?_;rintro⟨a,ii⟩ w' ⟨rfl,i,E,U,C⟩ X Q;simp only at E C;subst E;apply cD<;>intro I;have u:i<l.length:=oK;refine Rd.at h i rfl (zA u) ?_;rw[zY u,jI] at C;apply cD<;>intro J;have:=J;rw[show decide (a<l[i])=false by rw[Kn];omega,Bool.false_and] at C;rw[<- C] at G;exact G;have:=J;rw[show decide (a<l[i])=true by rw[yO];omega,Bool.true_and] at C;rw[gu _ oK];exact Q _ _ ⟨rfl,i+1,oM,oK,C⟩ oO;have u:i=l.length:=oK;subst u;rw[drop_length] at C;rw[<- C] at G;exact G
def qAR(n:Int):iA n 0=wrap .u8 n:=by
 unfold iA;have:Int.fdiv n (2^min (8*0) 32)=n:=by show Int.fdiv n (2^0)=n;simp
 rw[this]
def qrq{K:Sl->WP}(h:gA w s l B)(hl:l.length<=1000000)(V:∀C B' w',gA w' C (l++be n 4) B'->Fr B w w'->(∀b∈B',b∈B\/w.heap.size<=b)->K C w'): new (.cells #[.b (wrap .u8 (Int.fdiv n (2^24))),.b (wrap .u8 (Int.fdiv n (2^16))),.b (wrap .u8 (Int.fdiv n (2^8))),.b (wrap .u8 n)] 5) w λr w2=> Pt.run dp ((Builtin.append_ #[96,96] 96 #[s.v,.slice (pW r) 4 4]).run prog w2) λC w'=>K C w':=by obtain⟨i5,E,hz,G,I⟩:=Ap;refine oB (oF [] w) λr w1 e1 J ho=>?_;have O:be n 4=[iA n 3,iA n 2,iA n 1,iA n 0]:=rfl;have ac:=J.size;refine fB.j2 (ys:=be n 4) (e:=5) (h.q8 J) mW oL E hz G rfl (.ofSlice _ (e':=5) oL _ 4 4 _ (by rw[ug];simp[lM]) (λj u R=>?_) λu U=>?_) (lM n 4).symm (by rw[I];omega) oK λC B' w' g1 g2 g3 _=>?_;rw[Addr.j1,kD (ho.at (i:=0) rfl),xU];rw[ug,O,qAR] at R;rw[List.getElem?_toArray];exact R;rw[ug] at U;obtain⟨x,_,rfl⟩:=mem_map.1 U;rfl;refine V C B' w' g1 ((J.mono λi E _=>by cases E).j8 g2 λb Q=>.inl Q) λb Q=>?_;rcases g3 b Q with h|h;exact .inl h;exact .inr oK
def qu8{K:Sl->WP}(h:gA w s l B)(E:l.length<=1000000)(G:∀C B' w',gA w' C (l++be n 4) B'->Fr B w w'->(∀b∈B',b∈B\/w.heap.size<=b)->K C w'): cW 207 [s.v,.u n] dp w K:=by exact qoQ<|qrq h E G
def JG{A B:Int}(k:Nat)(G:0<=A)(C:A%2^k=0)(I:0<=B)(h:B<2^k)(J:A+B<4294967296):bits .or .u32 A B=A+B:=by
 obtain⟨a,rfl⟩:∃a:Nat,A=a:=⟨A.toNat,oK⟩;obtain⟨b,rfl⟩:∃b:Nat,B=b:=⟨B.toNat,oK⟩;have E:a%2^k=0:=by have:((a:Int)%((2^k:Nat):Int))=0:=(by rw[Int.natCast_pow];exact C);omega
 have u:b<2^k:=(by have:(b:Int)<((2^k:Nat):Int):=(by rw[Int.natCast_pow];exact h);omega);obtain⟨q,rfl⟩:∃q,a=2^k*q:=⟨a / 2^k,by have:=Nat.div_add_mod a (2^k);omega⟩;show wrap .u32 ((BitVec.ofInt 32 ((2^k*q:Nat):Int)||| BitVec.ofInt 32 (b:Int)).toNat:Nat)=_;rw[BitVec.toNat_or,BitVec.ofInt_natCast,BitVec.ofInt_natCast,BitVec.toNat_ofNat,BitVec.toNat_ofNat,Nat.mod_eq_of_lt (show 2^k*q<2^32 by omega),Nat.mod_eq_of_lt (show b<2^32 by omega),<- Nat.two_pow_add_eq_or_of_lt u];rw[nR _ oK];omega
def qM (a b c d:Int):Int:=bits .or .u32 (bits .or .u32 (bits .or .u32 (wrap .u32 (wrap .u32 a*2^24)) (wrap .u32 (wrap .u32 b*2^16))) (wrap .u32 (wrap .u32 c*2^8))) (wrap .u32 d)
def qsS{a b c d:Int}(h:0<=a/\a<256)(u:0<=b/\b<256)(C:0<=c/\c<256)(E:0<=d/\d<256):qM a b c d=((a*256+b)*256+c)*256+d:=by unfold qM;rw[nR a oK,nR b oK,nR c oK,nR d oK,nR (a*2^24) oK,nR (b*2^16) oK,nR (c*2^8) oK];rw[JG (A:=a*2^24) (B:=b*2^16) 24 oK oK oK oK oK];rw[JG (B:=c*2^8) 16 oK oK oK oK oK];rw[JG (B:=d) 8 oK oK oK oK oK];omega
def qzi(h:0<=n/\n<4294967296):qM (n / 16777216%256) (n / 65536%256) (n / 256%256) (n%256)=n:=by rw[qsS oK oK oK oK];omega
def fZ (l:KE):Int:=qM (l.getD 0 0) (l.getD 1 0) (l.getD 2 0) (l.getD 3 0)
def getD_some{n:Nat}(h:n<l.length):l[n]?=some (l.getD n 0):=by rw[yS,zA h];rfl
def qxN(h:eO S w s l)(J:4<=l.length)(u:K (fZ l) w): (idx s 0 1 λa=>ld .b a w λC=>idx s 1 1 λa=>ld .b a w λE=>idx s 2 1 λa=>ld .b a w λG=>idx s 3 1 λa=>ld .b a w λI=>K (qM C E G I) w):=by exact eO.at h 0 rfl (getD_some oK)<|eO.at h 1 rfl (getD_some oK)<|eO.at h 2 rfl (getD_some oK)<|eO.at h 3 rfl (getD_some oK)<|u
def qu7(h:eO S w s l)(C:4<=l.length)(E:K (fZ l) w.drew):cW 211 [s.v] dD w K:=by exact qoP<|qxN (w:=w.drew) h C E
def qth{A B:Int}(k:Nat)(G:0<=A)(C:A%2^k=0)(I:0<=B)(h:B<2^k)(J:A+B<4294967296):bits .or .i64 A B=A+B:=by
 obtain⟨a,rfl⟩:∃a:Nat,A=a:=⟨A.toNat,oK⟩;obtain⟨b,rfl⟩:∃b:Nat,B=b:=⟨B.toNat,oK⟩;have E:a%2^k=0:=by have:((a:Int)%((2^k:Nat):Int))=0:=(by rw[Int.natCast_pow];exact C);omega
 have u:b<2^k:=(by have:(b:Int)<((2^k:Nat):Int):=(by rw[Int.natCast_pow];exact h);omega);obtain⟨q,rfl⟩:∃q,a=2^k*q:=⟨a / 2^k,by have:=Nat.div_add_mod a (2^k);omega⟩;show wrap .i64 ((BitVec.ofInt 64 ((2^k*q:Nat):Int)||| BitVec.ofInt 64 (b:Int)).toNat:Nat)=_;rw[BitVec.toNat_or,BitVec.ofInt_natCast,BitVec.ofInt_natCast,BitVec.toNat_ofNat,BitVec.toNat_ofNat,Nat.mod_eq_of_lt (show 2^k*q<2^64 by omega),Nat.mod_eq_of_lt (show b<2^64 by omega),<- Nat.two_pow_add_eq_or_of_lt u];rw[gu _ oK];omega
def lX (l:KE):Int:=l.getD 4 0*256+l.getD 5 0
def lG (l:KE) (n:Nat):KE:=(List.range n).map λi=>fZ (l.drop (6+4*i))
def jl (l:KE):Int×List Int×Int:=
 if l.length<6 then (0,[],2) else
 if fZ l=1\/lX l>123\/(l.length:Int)≠6+4*lX l then (0,[],2) else
 if jI 1 (lG l (lX l).toNat) then (fZ l,lG l (lX l).toNat,0) else (0,[],2)
def qw8{K:KS->WP}(h:eO S w s l)(hB:fq l)(hl:l.length<=100000)(hk:∀s' B w',tc w' s' (jl l).2.1 B->Fr [] w w'->(∀b∈B,w.heap.size<=b)->K ((jl l).1,s',(jl l).2.2) w'): cW 178 [s.v] dO w K:=by
 refine qmC ?_;have I:=h.1;have O:∀ {e:Int} {w':Kv},jl l=(0,[],e)->Fr [] w w'->K (0,dR,e) w':=by
  intro e w' he hf;have:=hk dR [] w' (by rw[he];exact .nil _ _ _) hf oM;rw[he] at this;exact this
 apply eV<;>intro C;have:=zC C;exact O (by rw[jl,iP]) (.refl _ _);have h6:¬l.length<6:=(by have:=zB C;omega);have fd:Fr [] w w.drew:=(Fr.refl _ _).drew;have E:Fr [] w w.drew.drew:=fd.drew;obtain⟨_,b4,o4,ai,aH,aj,T4,aI,U,ak⟩:=eE.at h 4 (getD_some (l:=l) (n:=4) oK);obtain⟨_,b5,o5,al,aJ,am,T5,aK,V,an⟩:=eE.at h 5 (getD_some (l:=l) (n:=5) oK);have g4:aj[o4+4]?=some (.b (l.getD 4 0)):=(by have:=Kr (·[0]?) ak;simpa using this);have g5:am[o5+5]?=some (.b (l.getD 5 0)):=(by have:=Kr (·[0]?) an;simpa using this);have c4:∀ {w':Kv},Fr [] w w'->w'.cell? ⟨b4,o4+Int.toNat 4*1,none⟩=some (.b (l.getD 4 0)):=λf=>by rw[kD (by rw[f.block b4 (fl U) oM];exact U)];exact g4
 have c5:∀ {w':Kv},Fr [] w w'->w'.cell? ⟨b5,o5+Int.toNat 5*1,none⟩=some (.b (l.getD 5 0)):=λf=>by rw[kD (by rw[f.block b5 (fl V) oM];exact V)];exact g5
 refine sM ai ⟨oK,oK⟩<|qj (l.getD 4 0) (c4 fd)<|sM al ⟨oK,oK⟩<|qj (l.getD 5 0) (c5 fd)<|qu7 (w:=w.drew) (S:=S) h oK<|kH (c5 E) (c4 E) ?_;have r4:0<=l.getD 4 0/\l.getD 4 0<256:=hB _ (yG (getD_some (l:=l) (n:=4) oK));have r5:0<=l.getD 5 0/\l.getD 5 0<256:=hB _ (yG (getD_some (l:=l) (n:=5) oK));have aa:bits .or .i64 (wrap .i64 (wrap .i64 (l.getD 4 0)*2^8)) (wrap .i64 (l.getD 5 0))=lX l:=by rw[gu (l.getD 4 0) oK,gu (l.getD 5 0) oK,gu (l.getD 4 0*2^8) oK,qth 8 oK oK oK oK oK];rfl
 have aF:0<=lX l/\lX l<65536:=(by unfold lX;omega);rw[aa];refine jf (λb w'=>b=decide (fZ l=1\/lX l>123\/(l.length:Int)≠6+4*lX l)/\w'=w.drew.drew) ?_ ?_;apply eV<;>intro C;exact⟨by rw[yA (Or.inl (oQ C))],rfl⟩;have ao:¬fZ l=1:=(oQ C);apply cD<;>intro Q;exact⟨by rw[yA (Or.inr (Or.inl (Q)))],rfl⟩;have ab:¬lX l>123:=Q;refine⟨?_,rfl⟩;rw[gu (4*lX l) oK,gu (6+4*lX l) oK,I];by_cases h3:(l.length:Int)=6+4*lX l<;>simp[ao,ab,h3];rintro b w1 ⟨rfl,rfl⟩;refine eV (λC=>O (by rw[jl,iN h6,iP (zC C)]) E) λC=>?_;have R:=zB C;have ac:lX l<=123:=by rcases Int.lt_or_le 123 (lX l) with h|h;exact absurd (Or.inr (Or.inl h)) R;exact h
 have ap:(l.length:Int)=6+4*lX l:=Classical.byContradiction λh=>R (Or.inr (Or.inr h));have pv:jl l=if jI 1 (lG l (lX l).toNat) then (fZ l,lG l (lX l).toNat,0) else (0,[],2):=by rw[jl,iN h6,iN R]
 obtain⟨n,hn⟩:∃n:Nat,lX l=n:=⟨(lX l).toNat,oK⟩;rw[hn] at ac ap pv⊢;rw[zJ] at pv;refine kz (λx w'=>∃(i:Nat) (B:KD),x.2=i/\i<=n/\tc w' x.1 (lG l i) B/\Fr [] w w'/\∀b∈B,w.heap.size<=b) (λx _=>((n:Int)-x.2).toNat)
  ⟨0,[],rfl,oK,.nil _ _ _,E,oM⟩ ?_
 rintro⟨s1,ii⟩ w2 ⟨i,B,ad,hi,J,f2,n2⟩ X hX;simp only at ad J;subst ad;apply cD<;>intro C;have ae:i<n:=oK;rw[gu (4*(i:Int)) oK,gu (6+4*(i:Int)) oK];have h2:eO S w2 s l:=h.q8 f2;refine eE.part h2 (6+4*i) l.length oM (by rw[I];rfl) oK oK λs3 l3 r3 _=>?_;rw[vB] at r3;refine qu7 r3 (by rw[yC];omega) ?_;have af:Fr [] w w2.drew:=f2.drew;refine qAr (w:=w2.drew) (B:=B) J (by simp[lG];omega) λs4 B4 w4 g1 g2 g3=>?_;rw[gu _ oK];have aW:=af.size;refine hX _ _ ⟨i+1,B4,oM,oK,?_,af.j8 g2 λb J=>.inr (n2 b J),λb J=>?_⟩ oO;have:lG l (i+1)=lG l i++[fZ (l.drop (6+4*i))]:=(by simp[lG,range_succ]);rw[this];exact g1;rcases g3 b J with h|h;exact n2 b h;omega;have ae:i=n:=oK;subst ae;refine qtA (S:=[]) (J.k5 u9 oM) (by simp[lG];omega) ?_;apply eV<;>intro hr;have G:¬jI 1 (lG l i)=true:=(oQ hr);exact O (by rw[pv,iN G]) f2;have G:jI 1 (lG l i)=true:=by simpa using hr
 have:=hk s1 B w2 (by rw[pv,iP G];exact J) f2 n2;rw[pv,iP G] at this;exact this
def v6:Sl->List Kw:=λs=>[s.v]
def qsF:∀x,(v6 x).length=1:=λ_=>rfl
def qCq:∃i,prog.info? 96=some i/\i.zero=some (.slice none 0 0)/\i.size=1/\i.bytes=24:=uN oL
def kO (S:KD) (w:Kv) (s:Sl) (u:List (KE)) (B:KD):Prop:=
 ∃h:List Sl,fB v6 1 w s h B/\h.length=u.length/\∀(i:Nat) sl l,h[i]?=some sl->u[i]?=some l->eO (S++B) w sl l
def kO.nil(S:KD)(w:Kv):kO S w dR [] []:=⟨[],.nil _ _ _,rfl,λi sl l h=>by simp at h⟩
def kO.j0{S S':KD}{w w':Kv}{s:Sl}{G:List (KE)}{B:KD}(h:kO S w s G B)(f:Fr S w w')(I:∀b∈B,b∉S)(C:∀b∈S',b∈S\/w.heap.size<=b):kO S' w' s G B:=by obtain⟨E,J,O,Q⟩:=h;refine⟨E,J.j0 f I,O,λi sl l R U=>(Q i sl l R U).j0 (f.mono λb u _=>zH _ u) λb u=>?_⟩;rcases zD.1 u with u|u;rcases C b u with h|h;exact .inl (zH _ h);exact .inr h;exact .inl (zI _ u)
def kO.push{S:KD}{w:Kv}{s sl:Sl}{J:List (KE)}{B:KD}{l:KE}{T:Kx}{K:Sl->WP}(h:kO S w s J B)(hr:eO (S++B) w sl l)(hl:J.length<=1000000)(kk:∀I B' w',kO S w' I (J++[l]) B'->Fr B w w'->(∀b∈B',b∈B\/w.heap.size<=b)->K I w'): Pt.new (.cells #[sl.v] T) w λr w1=>Pt.run dp ((Builtin.append_ #[173,173] 173 #[s.v,.slice (pW r) 1 1]).run prog w1) K:=by
 obtain⟨i,hi,hz,O,Q⟩:=qCq;obtain⟨G,h1,R,h3⟩:=h;refine fB.push (e:=96) (x:=sl) h1 qsF (by simp[v6,Value.oneCell']) oL hi hz O rfl rfl (by rw[Q];omega) oK λI B' w' b' U n'=>kk I B' w' ⟨_,b',by simp[R],λj sj lj C u=>?_⟩ U n';have V:∀b∈S++B',b∈S++B\/w.heap.size<=b:=λb E=>by rcases zD.1 E with E|E;exact .inl (zH _ E);rcases n' b E with h|h;exact .inl (zI _ h);exact .inr h
 have hf:Fr (S++B) w w':=U.mono λb E _=>zI _ E;by_cases hjl:j<G.length;rw[xA hjl] at C;rw[xA oK] at u;exact (h3 j sj lj C u).j0 hf V;by_cases hje:j=G.length;subst hje;rw[yZ (zM _),Nat.sub_self] at C;rw[R,yZ (zM _),Nat.sub_self] at u;simp at C u;subst C u;exact hr.j0 hf V;rw[yT (by rw[zF];simp;omega)] at C;cases C
def kr (next:Int) (c:KE):KE:=be next 4++[wrap .u8 (Int.fdiv c.length (2^8)),wrap .u8 c.length]++c.flatMap (be · 4)
def iR (numbers y7:KE) (k:Nat):List (KE):=(List.range k).map λi=>kr (y7.getD (i+1) 0) ((numbers.drop (123*i)).take 123)
def iu (numbers y7:KE):List (KE)×Int:=
 if jI 1 numbers=false\/numbers.length>123*y7.length then ([],1) else if ∃p∈y7,p<2 then ([],1) else (iR numbers y7 y7.length,0)
def qy6{K:Kw->WP}(E:∀u C w',Fr [] w w'->(∀S w0 L,ed S w0 w L->ed S w0 w' ((u,.c #[.i n] 3)::(C,.c #[s.v] 174)::L))->K (.func (.func 235) #[] #[dQ u,dQ C]) w'): cW 206 [s.v,.i n] dC w K:=by exact qmD<|Pt.Gq<|Pt.Gq<|E _ _ _ (((Fr.refl [] w).alloc _).alloc _) λS w0 L h=>(h.alloc _).alloc _
def CX:∀l:KE,(l.flatMap (be · 4)).length=l.length*4
 | []=>rfl
 | x::l=>by rw[yI,zF,lM,CX l,yJ];omega
def qBy(a b:Int):([a,b]:KE).length=2:=rfl
def qvF{G:KD}{sp:Sl}{numbers y7:KE}{K:KN->WP}(hn:Rd S w sn numbers)(U:Rd S w sp y7)(b2:numbers.length<=100000)(b3:y7.length<=100000)(hG:∀b∈G,b<w.heap.size)(hk:∀s' B w',kO G w' s' (iu numbers y7).1 B->Fr [] w w'->(∀b∈B,w.heap.size<=b)->K (s',(iu numbers y7).2) w'): cW 174 [sn.v,sp.v] dt w K:=by
 refine qlb ?_;have bi:=hn.1;have bj:=U.1;have aU:∀ {w':Kv},iu numbers y7=([],1)->Fr [] w w'->K (dR,1) w':=by
  intro w' he hf;have:=hk dR [] w' (by rw[he];exact .nil _ _) hf oM;rw[he] at this;exact this
 refine oB (oF [] w) λr1 w1 e1 f1 ho=>?_;have bk:Rd S w1 sn numbers:=hn.q8 ho.fr;have bl:Rd S w1 sp y7:=U.q8 ho.fr;refine jf (λb w'=>b=decide (jI 1 numbers=false\/numbers.length>123*y7.length)/\w'=w1) ?_ ?_;refine qtA bk oK ?_;apply eV<;>intro hc;have hr:jI 1 numbers=false:=(oQ hc);exact⟨by rw[yA (Or.inl hr)],rfl⟩;have hr:jI 1 numbers=true:=(oQ hc);refine KA ho 0 rfl sp ⟨?_,rfl⟩;rw[gu (123*(sp.len:Int)) oK,bi,bj];have e:decide ((numbers.length:Int)>123*(y7.length:Int))=decide (numbers.length>123*y7.length):=by by_cases h:numbers.length>123*y7.length;rw[yA h,yA];omega;rw[zU h,zU];omega
 rw[e];by_cases h:numbers.length>123*y7.length<;>simp[hr,h];rintro b w2 ⟨rfl,rfl⟩;refine eV (λhc=>aU (by rw[iu,iP (zC hc)]) ho.fr) λhc=>?_;have aV:=zB hc;refine KA ho 0 rfl sp<|kz (λx w'=>w'=w2/\∃i:Nat,x.2.2=i/\i<=y7.length/\∀p∈y7.take i,¬p<2) (λx _=>((y7.length:Int)-x.2.2).toNat) ⟨rfl,0,rfl,oK,oM⟩ ?_;rintro⟨sx,ex,ii⟩ w3 ⟨rfl,i,aW,hi,ao⟩ X hX;simp only at aW;subst aW;dsimp only;apply cD<;>intro hc;have ap:i<y7.length:=oK;refine Rd.at bl i rfl (zA ap) ?_;apply cD<;>intro hx;exact aU (by rw[iu,iN aV,iP ⟨y7[i],zX ap,hx⟩]) ho.fr;rw[gu _ oK];refine hX _ _ ⟨rfl,i+1,oM,oK,λp U=>?_⟩ oO;rw[yH ap] at U;rcases zD.1 U with U|U;exact ao p U;simp at U;subst U;exact hx;have ap:i=y7.length:=oK;subst ap;rw[vB] at ao;have bp:iu numbers y7=(iR numbers y7 y7.length,0):=by rw[iu,iN aV,if_neg];rintro⟨p,U,h2⟩;exact ao p U h2
 rw[bp] at hk;refine oB ho λro w4 eo fo ho=>KA ho 1 rfl sp<|qy6 λrp rl w5 f5 aX=>?_;have bt:=aX _ _ _ ho;refine ed.kJ (lb:=[dQ rp,dQ rl]) bt rfl oL λDm l R Bz J E E0 w6 el eD b5 aY hy=>qjs<|KA aY 2 rfl sp.len<|kz (λx w'=>∃(j:Nat) (cl so:Sl) (Bo:KD),x=j/\j<=y7.length/\Rd [] w cl (numbers.drop (123*j))/\kO ([l,Dm,rp,rl,ro,r1]++G) w' so (iR numbers y7 j) Bo/\(∀b∈Bo,w.heap.size<=b/\b∉[l,Dm,rp,rl,ro,r1])/\
   ed [] w w' [(l,R),(Dm,.deferred (some [])),(rp,.c #[.i sp.len] 3),(rl,.c #[cl.v] 174),(ro,.c #[so.v] 173),(r1,.c #[sp.v] 174)]) (λx _=>((y7.length:Int)-x).toNat)
  ⟨0,sn,dR,[],rfl,oK,hn.j6 (λb C=>by cases C),.nil _ _,oM,aY⟩ ?_
 rintro x w7 ⟨j,cl,so,Bo,rfl,hj,aI,aq,al,aa⟩ X hX;have ai:∀b∈Bo,b∉[l,Dm,rp,rl,ro,r1]++G:=λb C O=>by
  rcases zD.1 O with O|O;exact (al b C).2 O;have:=hG b O;have:=(al b C).1;omega
 have bv:=aI.1;rw[yC] at bv;apply cD<;>intro hc
 ·have b7:j<y7.length:=oK;refine KA aa 3 rfl cl<|KA aa 3 rfl cl ?_;obtain⟨m,O,V⟩:∃m:Nat,(if (123:Int)<(cl.len:Int) then 123 else (cl.len:Int))=m/\m=Nat.min 123 cl.len:=(by by_cases h:123<cl.len;exact⟨123,by rw[iP];rfl,(xT oK).symm⟩;exact⟨cl.len,by rw[iN],(Nat.min_eq_right oK).symm⟩);rw[O];have bx:m<=123:=(by rw[V];exact Nat.min_le_left _ _);have bT:m<=cl.len:=(by rw[V];exact Nat.min_le_right _ _);refine eE.part aI 0 m rfl rfl oK (by rw[yC];omega) λcs bU aA _=>?_;rw[xH] at aA;have aj:(numbers.drop (123*j)).take m=(numbers.drop (123*j)).take 123:=(by by_cases h:123<cl.len;rw[V];congr 1;exact xT oK;have:m=cl.len:=(by rw[V];exact Nat.min_eq_right oK);rw[this,zS (by rw[yC];omega),zS (by rw[yC];omega)]);generalize bz:(numbers.drop (123*j)).take m=chunk at aA aj;have aZ:chunk.length=m:=(by rw[<- bz,yM,yC];omega);have aG:cs.len=m:=oK;refine hy ((j:Int),cs) w7 _ (aa.at (i:=0) rfl) ?_;dsimp only;refine⟨aa.at (i:=0) rfl,?_⟩;have I:=aa.jy (o':=Bz) 0 rfl;have Q:=I.yy [];have a0:Rd [] (Pt.jy w7 l Bz) sp y7:=(U.j6 λb C=>by cases C).q8 I.fr;have ar:kO ([l,Dm,rp,rl,ro,r1]++G) (Pt.jy w7 l Bz) so (iR numbers y7 j) Bo:=aq.j0 ((rI (fl (aa.at (i:=0) rfl)) Bz).mono λb C _=>by simp at C;subst C;simp) ai λb C=>.inl C;have a1:=aq.choose_spec.1.lt;refine jf (λx w'=>x=y7.getD (j+1) 0/\w'=Pt.jy w7 l Bz) ?_ ?_;refine KA Q 5 rfl sp ?_;rw[gu ((j:Int)+1) oK];apply cD<;>intro aJ;have h2:j+1<y7.length:=oK;exact KA Q 5 rfl sp<|Rd.at a0 (j+1) oK (getD_some h2)<|⟨rfl,rfl⟩;have h2:¬j+1<y7.length:=oK;exact⟨by rw[yS,yT oK];rfl,rfl⟩;rintro x w8 ⟨rfl,rfl⟩;generalize bA:y7.getD (j+1) 0=next
  have hW:(Pt.jy w7 l Bz).heap.size=w7.heap.size:=wO _ _ _;generalize ca:Pt.jy w7 l Bz=w8 at I Q a0 hW ar;have bV:Rd [] w8 cs chunk:=aA.q8 I.fr;have ak:∀p∈[l,Dm,rp,rl,ro,r1],p<w8.heap.size:=λp U=>by have am:=λ(k:Nat) (q:Nat×Obj) (hq:_[k]?=some q)=>fl (I.at (i:=k) hq);simp only[zG,xZ,or_false] at U;rcases U with rfl|rfl|rfl|rfl|rfl|rfl;exact am 0 _ rfl;exact am 1 _ rfl;exact am 2 _ rfl;exact am 3 _ rfl;exact am 4 _ rfl;exact am 5 _ rfl
  obtain⟨i5,bB,bC,a2,a3⟩:=Ap;refine qu8 (s:=dR) (l:=[]) (B:=[]) (.nil _ _ _) oM λs9 B9 w9 b9 f9 n9=>?_;rw[xK] at b9;have Q:=Q.q8 f9;refine oB Q λr2 ce cf a4 Q=>?_;have aL:∀b∈B9,w8.heap.size<=b:=λb C=>by rcases n9 b C with h|h;cases h;exact h
  refine fB.j2 (ys:=[wrap .u8 (Int.fdiv chunk.length (2^8)),wrap .u8 chunk.length]) (e:=5) (b9.q8 a4) mW oL bB bC a2 rfl (.ofSlice _ (e':=5) oL _ 2 2 _ (by rw[ug];rfl) (λq u hq=>?_) λu hu=>?_) rfl (by rw[a3,lM];decide) (by rw[lM];decide) λcg a5 ch bE bF bG _=>?_;rw[Addr.j1,kD (Q.at (i:=0) rfl),xU,aG,<- aZ];rw[ug] at hq;rw[List.getElem?_toArray];exact hq;rw[ug] at hu;obtain⟨x,_,rfl⟩:=mem_map.1 hu;rfl;have ci:=f9.size;have bY:=a4.size;have bH:=b9.lt;have Q:=(Q.sub (Kl _ _)).j0 bF (λb C=>.inr (aL b C)) (λp U C=>by have h1:=ak p.1 (zZ (f:=(·.1)) U);have h2:=aL _ C;omega);have a6:∀b∈a5,w8.heap.size<=b:=λb C=>by rcases bG b C with h|h;exact aL b h;omega
  refine kz (λx w'=>∃(q:Nat) (Bq:KD),x.2=q/\q<=m/\gA w' x.1 (be next 4++[wrap .u8 (Int.fdiv chunk.length (2^8)),wrap .u8 chunk.length]++(chunk.take q).flatMap (be · 4)) Bq/\(∀b∈Bq,w8.heap.size<=b)/\
    ed ([l,Dm,rp,rl,ro,r1]++[]) w8 w' [(l,Bz),(Dm,.deferred (some [])),(rp,.c #[.i sp.len] 3),(rl,.c #[cl.v] 174),(ro,.c #[so.v] 173),(r1,.c #[sp.v] 174)]) (λx _=>((m:Int)-x.2).toNat)
   ⟨0,a5,rfl,oK,by simpa using bE,a6,Q⟩ ?_
  rintro⟨bJ,qq⟩ aM ⟨q,Bq,a7,cj,bq,nq,hq⟩ Y hY;simp only at a7 bq;subst a7;dsimp only;rw[aG];apply cD<;>intro aN
  ·have au:q<chunk.length:=oK;have aO:Rd [] aM cs chunk:=aA.q8 (I.AC (T:=[]) oM hq.fr);refine Rd.at aO q rfl (zA au) ?_;have aP:(be next 4++[wrap .u8 (Int.fdiv chunk.length (2^8)),wrap .u8 chunk.length]++(chunk.take q).flatMap (be · 4)).length<=1000000:=(by rw[zF,zF,lM,CX,yM,qBy];omega);refine qu8 bq aP λa8 aB aC aQ aR aT=>?_;rw[gu _ oK];refine hY _ _ ⟨q+1,aB,oM,oK,?_,λb C=>?_,hq.j0 aR (λb C=>.inr (nq b C)) λp U C=>?_⟩ oO;rw[yH au,yR,flatMap_singleton,<- zV];exact aQ;rcases aT b C with h|h;exact nq b h;exact zL hq.fr.size h;have h1:=ak p.1 (zZ (f:=(·.1)) U);have h2:=nq _ C;omega
  ·have bK:q=m:=oK;subst bK;rw[zS oK] at bq;refine KA hq 4 rfl so ?_;have a9:eO (([l,Dm,rp,rl,ro,r1]++G)++Bo) aM bJ (kr next chunk):=bq.k5 mW λb C O=>by
    have h2:=nq _ C;rcases zD.1 O with O|O;rcases zD.1 O with O|O;have:=ak b O;omega;have:=hG b O;have:=I.fr.size;omega;have:=a1 b O;omega
   have aD:kO ([l,Dm,rp,rl,ro,r1]++G) aM so (iR numbers y7 j) Bo:=ar.j0 (hq.fr.mono λb C _=>by rw[xJ] at C;exact zH _ C) ai λb C=>.inl C;refine kO.push aD a9 (by rw[iR,zK,length_range];omega) λa8 aB aC aQ aR aT=>?_;have av:=(I.AN (T:=[]) oM hq).j0 aR (λb C=>.inr (al b C).1) λp U C=>(al _ C).2 (zZ (f:=(·.1)) U);refine oE av 4 rfl _ λcm av bL=>⟨av.at (i:=0) rfl,?_⟩;have au:=av.jy (o':=R) 0 rfl;refine JU rfl<|KA au 3 rfl cl<|eE.part aI q (numbers.drop (123*j)).length rfl (by rw[yC];show (cl.len:Int)=_;omega) (by rw[yC];omega) (zM _) λcr b0 a' _=>oE au 3 rfl _ λbM bN bO=>?_;rw[gu _ oK];have aw:∀b∈aB,w.heap.size<=b/\b∉[l,Dm,rp,rl,ro,r1]:=λb C=>by
    rcases aT b C with h|h;exact al b h;have h1:=hq.fr.size;refine⟨?_,λO=>?_⟩;have:=I.fr.size;omega;have:=ak b O;omega
   have ff:Fr [l,Dm,rp,rl,ro,r1] aC bM:=
    (bL.mono λb C _=>by simp at C;subst C;simp).j8 ((rI (fl (av.at (i:=0) rfl)) R).mono (T:=[l,Dm,rp,rl,ro,r1]) λb C _=>by simp at C;subst C;simp) (λb C=>.inl C) |>.j8 (bO.mono (T:=[l,Dm,rp,rl,ro,r1]) λb C _=>by simp at C;subst C;simp) (λb C=>.inl C)
   have aE:=aQ.j0 (ff.mono λb C _=>zH _ C) (λb C O=>by
    rcases zD.1 O with O|O;exact (aw b C).2 O;have:=hG b O;have:=(aw b C).1;omega) (λb C=>.inl C)
   have ba:((numbers.drop (123*j)).take (numbers.drop (123*j)).length).drop q=numbers.drop (123*(j+1)):=(by rw[vB,xF];by_cases h:123<cl.len;rw[show q=123 by rw[V];exact xT oK,Nat.mul_add];have:q=cl.len:=(by rw[V];exact Nat.min_eq_right oK);rw[vG oK,vG oK]);rw[ba] at a';have aP:iR numbers y7 (j+1)=iR numbers y7 j++[kr next chunk]:=(by rw[iR,range_succ,xP,map_singleton,bA,<- aj];rfl);refine hX _ _ ⟨j+1,cr,a8,aB,oM,oK,a',by rw[aP];exact aE,aw,bN⟩ oK
 have bP:j=y7.length:=oK;subst bP;refine .inl ⟨aa.at (i:=0) rfl,?_⟩;have I:=aa.jy (o':=E0) 0 rfl;refine KA I 4 rfl so<|ed.ft I.mQ 1 rfl λaC hd=>?_;have bQ:kO ([l,Dm,rp,rl,ro,r1]++G) (Pt.jy w7 l E0) so (iR numbers y7 y7.length) Bo:=aq.j0 ((rI (fl (aa.at (i:=0) rfl)) E0).mono λb C _=>by simp at C;subst C;simp) ai λb C=>.inl C;exact hk so Bo aC (bQ.j0 (S':=G) (hd.fr.mono λb C _=>zH _ C) ai λb C=>.inl (zI _ C)) (I.back hd.fr) (λb C=>(al b C).1)
def gh (q:Int) (t:KE):List Kw:=.w q::t.map (Value.int .u32)
def iE (q:Int) (t:KE):KE:=be (wrap .u32 (Int.fdiv q (2^32))) 4++be (wrap .u32 q) 4++t.flatMap (be · 4)
def Cp(h:t.length=27):(iE q t).length=116:=by rw[iE,zF,zF,lM,lM,CX,h]
def ue(h:t.length=27):(gh q t).length=28:=by simp[gh,h]
def Ek(n:Nat)(h:n<t.length):(gh q t).toArray[n+1]?=some (.u (t.getD n 0)):=by simp[gh,yS,zA h]
def qtK(q:Int)(t:KE):((gh q t).all Value.oneCell')=true:=by rw[Kh];intro v h;rcases zG.1 h with rfl|h;rfl;obtain⟨x,_,rfl⟩:=mem_map.1 h;rfl
def qsw{α:Type}{enc:α->List Kw}{k:Nat}{l:List α}(h:fB enc k w s l B):fB enc k w.drew s l B:=h
def pX (w0:Kv) (L:KK) (B:KD):Prop:=∀b∈B,w0.heap.size<=b/\b∉L.map (·.1)
def pX.cons{o:Obj}(h:pX w0 L B)(E:r∉B):pX w0 ((r,o)::L) B:=λb u=>⟨(h b u).1,λC=>by rcases zG.1 C with rfl|C;exact E u;exact (h b u).2 C⟩
def pX.tail{p:Nat×Obj}(h:pX w0 (p::L) B):pX w0 L B:=λb u=>⟨(h b u).1,λC=>(h b u).2 (zN _ C)⟩
def G2{j:Nat}(h:j+3<=l.length):l.drop j=l.getD j 0::l.getD (j+1) 0::l.getD (j+2) 0::l.drop (j+3):=by rw[zY oK,zY (i:=j+1) oK,zY (i:=j+1+1) oK];simp only[yS];rw[zA (show j<l.length by omega),zA (show j+1<l.length by omega),zA (show j+2<l.length by omega)];rfl
def tN{j:Nat}(h:j+3<=l.length):l.take (j+3)=l.take j++[l.getD j 0,l.getD (j+1) 0,l.getD (j+2) 0]:=by rw[take_add,G2 h];rfl
def qCE{j:Nat}(h:j+3<=l.length):(l.map (Value.int .u32)).extract j (j+3)=[.u (l.getD j 0),.u (l.getD (j+1) 0),.u (l.getD (j+2) 0)]:=by rw[extract_eq_take_drop,<- xS,G2 h,show j+3-j=3 by omega];rfl
def AG{K:Sl->WP}(G:ed [] w0 w L)(h:gA w s l B)(I:pX w0 L B)(Q:l.length<=1000000)(R:∀E B' w',ed [] w0 w' L->gA w' E (l++be n 4) B'->pX w0 L B'->K E w'): cW 209 [s.v,.u n] dp w K:=by
 refine qtL<|qrq h Q λE B' w' b' U n'=>R E B' w' (G.j0 U (λb C=>.inr (I b C).1) λp J C=>(I _ C).2 (zZ J)) b' λb C=>?_;rcases n' b C with O|O;exact I b O;refine⟨zL G.fr.size O,λV=>?_⟩;obtain⟨p,J,rfl⟩:=mem_map.1 V
 have:=fl (G.jz p J);omega
def qxl{K:Sl->WP}(hv:Hv w)(J:t.length=27)(hk:∀b T w',w'.heap[b]?=some (.c (gS (fS (wrap .u32 (Int.tmod q 2)) 1 (iE q t))) T)->Fr [] w w'->w.heap.size<=b->K ⟨pW b,512,512⟩ w'): cW 176 [.agg (gh q t).toArray] dp w K:=by
 refine qqq<|oB (oF [] w) λr1 w1 e1 f1 C=>?_;have V:(gh q t).toArray[0]?=some (.w q):=rfl;have I:=λn (h:n<27)=>Ek (q:=q) (t:=t) n oK;refine oA C.drew 0 rfl q V<|oA C.drew 0 rfl q V<|AG (s:=dR) (l:=[]) (B:=[]) C.drew (.nil _ _ _) (λb E=>by cases E) oM λs5 B5 w6 C b5 O=>ja (C.cell (off:=0) 0 rfl V)<|AG C b5 O (by simp[lM]) λs8 B8 w9 C b8 n8=>oA C.drew 0 rfl (t.getD 0 0) (I 0 oN)<|oA C.drew 0 rfl (t.getD 1 0) (I 1 oN)<|oA C.drew 0 rfl (t.getD 2 0) (I 2 oN)<|AG C.drew (qsw b8) n8 (by simp[lM]) λaz aA aB C ab ac=>kH (C.cell (off:=3) 0 rfl (I 2 oN)) (C.cell (off:=2) 0 rfl (I 1 oN))<|AG C ab ac (by simp[lM]) λaC aD aE C ad ae=>ja (C.cell (off:=3) 0 rfl (I 2 oN))<|AG C ad ae (by simp[lM]) λaF af aG C Q ag=>?_;have hr:((gh q t).toArray.toList.drop 4).take 24=(t.drop 3).map (Value.int .u32):=by show (List.drop 3 (t.map (Value.int .u32))).take 24=_;rw[xS,zS (by rw[yC,zK,J];decide)]
 refine ou (C.at (i:=0) rfl) ((t.drop 3).map (Value.int .u32)) (by rw[zK,yC,J]) hr ?_;have ah:(t.drop 3).length=24:=(by rw[yC,J]);have ai:t=[t.getD 0 0,t.getD 1 0,t.getD 2 0]++t.drop 3:=by
  have:=G2 (l:=t) (j:=0) oK;rw[xH] at this;exact this
 have base:[]++be (wrap .u32 (Int.fdiv q (2^32))) 4++be (wrap .u32 q) 4++be (t.getD 0 0) 4++be (t.getD 1 0) 4++be (t.getD 2 0) 4=be (wrap .u32 (Int.fdiv q (2^32))) 4++be (wrap .u32 q) 4++[t.getD 0 0,t.getD 1 0,t.getD 2 0].flatMap (be · 4):=oM;rw[base] at Q;refine kz (λx w'=>∃(i:Nat) (B:KD),x.2=i/\i<=8/\gA w' x.1 (be (wrap .u32 (Int.fdiv q (2^32))) 4++be (wrap .u32 q) 4++[t.getD 0 0,t.getD 1 0,t.getD 2 0].flatMap (be · 4)++((t.drop 3).take (3*i)).flatMap (be · 4)) B/\ed [] w w' [(r1,.c (gh q t).toArray 238)]/\pX w [(r1,.c (gh q t).toArray 238)] B) (λx _=>(8-x.2).toNat)
  ⟨0,af,rfl,oK,by simpa using Q,C,ag⟩ ?_
 rintro⟨s,ii⟩ w2 ⟨i,B,R,aI,G,C,nb⟩ X hX;simp only at R G;subst R;dsimp only;have al:(be (wrap .u32 (Int.fdiv q (2^32))) 4++be (wrap .u32 q) 4++[t.getD 0 0,t.getD 1 0,t.getD 2 0].flatMap (be · 4)++((t.drop 3).take (3*i)).flatMap (be · 4)).length<=200:=by rw[zF,zF,zF,lM,lM,CX,CX,yM,ah];show 4+4+3*4+_<=200;omega
 apply cD<;>intro hc;have hi:i<8:=oK;refine mI ⟨oK,oK⟩ ?_;have h3:3*i+3<=(t.drop 3).length:=oK;refine qAY ((t.drop 3).getD (3*i) 0,(t.drop 3).getD (3*i+1) 0,(t.drop 3).getD (3*i+2) 0) ?_ ?_;have:=qCE h3;rw[show Int.toNat (i:Int)*3=3*i by simp;omega];exact this;refine oB C λr2 w3 e3 f3 u=>oE u 0 rfl _ λw4 u f4=>?_;have ak:=G.lt;have U:r2∉B:=λE=>by have:=ak _ E;omega
 have G:=(G.q8 f3).j0 f4 (λb E hm=>by simp only[zE] at hm;subst hm;exact U E);refine KA u.drew 0 rfl ((t.drop 3).getD (3*i) 0)<|KA u.drew 0 rfl ((t.drop 3).getD (3*i+1) 0)<|KA u.drew 0 rfl ((t.drop 3).getD (3*i+2) 0)<|AG u.drew (qsw G) (nb.cons U) oK λs5 B5 w5 u b5 O=>kH (u.cell (off:=2) 0 rfl rfl) (u.cell (off:=1) 0 rfl rfl)<|AG u b5 O (by rw[zF,lM];omega) λs6 B6 w6 u b6 n6=>ja (u.cell (off:=2) 0 rfl rfl)<|AG u b6 n6 (by rw[zF,zF,lM,lM];omega) λs7 B7 w7 u b7 n7=>?_;rw[gu _ oK];refine hX _ _ ⟨i+1,B7,oM,oK,?_,u.sub (Kl _ _),n7.tail⟩ oO;rw[show 3*(i+1)=3*i+3 by omega,tN h3,yR];have e:([(t.drop 3).getD (3*i) 0,(t.drop 3).getD (3*i+1) 0,(t.drop 3).getD (3*i+2) 0]:KE).flatMap (be · 4)=be ((t.drop 3).getD (3*i) 0) 4++be ((t.drop 3).getD (3*i+1) 0) 4++be ((t.drop 3).getD (3*i+2) 0) 4:=oM;rw[e];simpa only[zV] using b7;obtain rfl:i=8:=by omega
 rw[zS oK,zV,<- yR,<- ai] at G;refine oA C 0 rfl q V ?_;have E:=G.k5 (S:=[]) mW oM;refine qvv E (hv.q8 C.fr) (by show (iE q t).length<=_;rw[Cp J];decide) (λh=>?_) λ_ b T w5 h5 f5 O=>?_;have h':500<(iE q t).length:=h;rw[Cp J] at h';exact absurd h' oN;exact hk b T w5 h5 (C.fr.j8 f5 oM) (zL C.fr.size O)
def AB(J:ed [] w0 w L)(i:Nat)(hi:L[i]?=some (r,.c #[s.v] 96))(h:eO [] w0 s l)(O:4<=l.length)(Q:∀E w',eO [] w0 E (l.drop 4)->ed [] w0 w' (L.set i (r,.c #[E.v] 96))->K (fZ l) w'): eF prog (.func (.func 253) #[] #[dQ r]) [] dD w K:=by refine rS (lb:=[dQ r]) rfl oL<|qmO ?_;have C:=J.drew;have G:eO [] w.drew s l:=h.q8 C.fr;exact oA C i hi s rfl<|eO.at G 0 rfl (getD_some oK)<|oA C i hi s rfl<|eO.at G 1 rfl (getD_some oK)<|oA C i hi s rfl<|eO.at G 2 rfl (getD_some oK)<|oA C i hi s rfl<|eO.at G 3 rfl (getD_some oK)<|oA C i hi s rfl<|eE.drop h 4 rfl O oK λE R=>oI C i hi _ rfl rfl rfl λw' I _=>Q E w' R I
def js (l:KE):Int:=bits .or .u64 (wrap .u64 (wrap .u64 (fZ l)*2^32)) (wrap .u64 (fZ (l.drop 4)))
def mV (l:KE):KE:=(List.range 27).map λi=>fZ (l.drop (8+4*i))
def vM(l:KE):(mV l).length=27:=by simp[mV]
def mC (q:Int) (f:Nat->Int) (n:Nat):Array Kw:=(gh q ((List.range n).map f++zs (27-n))).toArray
def qwY{x y:Int}{A Z:KE}:ef (gh q (A++x::Z)).toArray (A.length+1) [.u y]=(gh q (A++y::Z)).toArray:=by
 apply Array.ext';have:=Hs (.w q::A.map (Value.int .u32)) [Value.int .u32 x] [Value.int .u32 y] (Z.map (Value.int .u32)) rfl;rw[sP _ _ _ (by simp[gh])];simpa[gh] using this
def Cu{n:Nat}(h:n<27):ef (mC q f n) (n+1) [.u (f n)]=mC q f (n+1):=by
 have C:zs (27-n)=0::zs (27-(n+1)):=by rw[show 27-n=(27-(n+1))+1 by omega];rfl
 have:=qwY (q:=q) (x:=0) (y:=f n) (A:=(List.range n).map f) (Z:=zs (27-(n+1)));rw[zK,length_range] at this;rw[mC,C,this,mC,range_succ,xP,zV];rfl
def qyQ{h:Int}{n:Nat}:ef (mC q f n) 0 [.w h]=mC h f n:=by apply Array.ext';rw[sP _ _ _ (by simp[mC,gh])];simp[mC,gh]
def CR{n:Nat}(h:n<=27):(mC q f n).size=28:=by simp[mC,gh,rU];omega
def qyP:mC q f 27=(gh q ((List.range 27).map f)).toArray:=by show (gh q ((List.range 27).map f++[])).toArray=_;rw[xJ]
def qxj{K:List Kw->WP}(h:eO S w s l)(hl:l.length=116)(hk:∀w',Fr [] w w'->K (gh (js l) (mV l)) w'): cW 236 [s.v] dF w K:=by
 refine qqr ?_;have h0:eO [] w s l:=h.j6 oM;have O:((prog.info? 238).bind (·.zero)).map (λz=>z.cells.toList)=some (gh 0 (zs 27)):=oL;refine oB (oF [] w) λr1 w1 e1 f1 u=>oJ u O λr3 w2 e3 u=>oJ u O λE w3 e5 u=>AB u 2 rfl h0 oK λs1 w4 h1 u=>?_;have G:∀(q:Int),(gh q (zs 27)).toArray=mC q (λi=>fZ (l.drop (8+4*i))) 0:=λq=>rfl;refine oH u 0 rfl (mC (wrap .u64 (wrap .u64 (fZ l)*2^32)) (λi=>fZ (l.drop (8+4*i))) 0) ?_ rfl ?_ λw5 u _=>?_;rw[G 0];exact qyQ;exact zO rfl;refine oA u.drew 0 rfl (wrap .u64 (wrap .u64 (fZ l)*2^32)) rfl<|AB u.drew 2 rfl h1 (by rw[yC];omega) λs2 w6 Q u=>ja (u.cell (off:=0) 0 rfl rfl)<|oH u 0 rfl (mC (js l) (λi=>fZ (l.drop (8+4*i))) 0) qyQ rfl (zO rfl) λw7 u _=>?_;rw[xF] at Q;refine AB u 2 rfl Q (by rw[yC];omega) λs3 w8 R u=>oH u 0 rfl (mC (js l) (λi=>fZ (l.drop (8+4*i))) 1) (Cu oN) rfl (by show 1+1<=_;rw[CR oN];decide) λw9 u _=>?_;rw[xF] at R;refine AB u 2 rfl R (by rw[yC];omega) λs4 ag U u=>oH u 0 rfl (mC (js l) (λi=>fZ (l.drop (8+4*i))) 2) (Cu oN) rfl (by show 2+1<=_;rw[CR oN];decide) λah u _=>?_;rw[xF] at U;refine AB u 2 rfl U (by rw[yC];omega) λs5 aj V u=>oH u 0 rfl (mC (js l) (λi=>fZ (l.drop (8+4*i))) 3) (Cu oN) rfl (by show 3+1<=_;rw[CR oN];decide) λak u _=>?_;rw[xF] at V;refine kz (λx w'=>∃(i:Nat) (I:Sl),x=i/\i<=8/\eO [] w I (l.drop (20+12*i))/\
   ed [] w w' [(E,.c (mC (js l) (λi=>fZ (l.drop (8+4*i))) (3+3*i)) 238),(r3,.c (gh 0 (zs 27)).toArray 238),(r1,.c #[I.v] 96)]) (λx _=>(8-x).toNat)
  ⟨0,s5,rfl,oK,V,u⟩ ?_
 rintro x al ⟨i,I,rfl,am,hx,u⟩ X hX;apply cD<;>intro J;have hi:i<8:=oK;refine mI ⟨oK,oK⟩ ?_;simp only[Addr.j1];have ap:Int.toNat (i:Int)=i:=oK;refine AB u 2 rfl hx (by rw[yC];omega) λs6 C h6 u=>?_;show Pt.st ⟨E,4+Int.toNat (i:Int)*3+0,none⟩ _ _ _;refine oH u 0 rfl (mC (js l) (λi=>fZ (l.drop (8+4*i))) (3+3*i+1)) ?_ rfl ?_ λaq u _=>?_;rw[show 20+12*i=8+4*(3+3*i) by omega,show 4+Int.toNat (i:Int)*3+0=(3+3*i)+1 by omega];exact Cu (f:=λi=>fZ (l.drop (8+4*i))) oK;rw[CR oK];show _+1<=28;omega;rw[xF] at h6;refine AB u 2 rfl h6 (by rw[yC];omega) λs7 ar h7 u=>?_;show Pt.st ⟨E,0+4+Int.toNat (i:Int)*3+1,none⟩ _ _ _;refine oH u 0 rfl (mC (js l) (λi=>fZ (l.drop (8+4*i))) (3+3*i+2)) ?_ rfl ?_ λau u _=>?_;rw[show 20+12*i+4=8+4*(3+3*i+1) by omega];show ef _ (0+4+Int.toNat (i:Int)*3+1) _=_;rw[show 0+4+Int.toNat (i:Int)*3+1=(3+3*i+1)+1 by omega];exact Cu (f:=λi=>fZ (l.drop (8+4*i))) oK;rw[CR oK];show 0+4+Int.toNat (i:Int)*3+1+1<=28;omega;rw[xF] at h7;refine AB u 2 rfl h7 (by rw[yC];omega) λs8 aw h8 u=>?_;show Pt.st ⟨E,0+4+Int.toNat (i:Int)*3+2,none⟩ _ _ _;refine oH u 0 rfl (mC (js l) (λi=>fZ (l.drop (8+4*i))) (3+3*i+3)) ?_ rfl ?_ λax u _=>?_;rw[show 20+12*i+4+4=8+4*(3+3*i+2) by omega];show ef _ (0+4+Int.toNat (i:Int)*3+2) _=_;rw[show 0+4+Int.toNat (i:Int)*3+2=(3+3*i+2)+1 by omega];exact Cu (f:=λi=>fZ (l.drop (8+4*i))) oK;rw[CR oK];show 0+4+Int.toNat (i:Int)*3+2+1<=28;omega;rw[xF] at h8;rw[gu _ oK];refine hX _ _ ⟨i+1,s8,oM,oK,?_,?_⟩ oK;rw[show 20+12*(i+1)=20+12*i+4+4+4 by omega];exact h8;rw[show 3+3*(i+1)=3+3*i+3 by omega];exact u;obtain rfl:i=8:=by omega
 rw[show 3+3*8=27 from rfl,qyP] at u;refine ou (u.at (i:=0) rfl) (gh (js l) (mV l)) (ue (vM l)) (by rw[xH];exact zS (Nat.le_of_eq (ue (vM l))))<|mI (ue (vM l))<|oH u 1 rfl (gh (js l) (mV l)).toArray ?_ (qtK _ _) ?_ λC u _=>?_;apply Array.ext';rw[sP _ _ _ (by rw[ue (vM l)];decide),ue (vM l),take_zero,xK,Kd oN,xJ];rw[ue (vM l)];decide;exact ou (u.at (i:=1) rfl) (gh (js l) (mV l)) (ue (vM l)) (by rw[xH];exact zS (Nat.le_of_eq (ue (vM l))))<|hk C u.fr
def xn:((prog.info? 238).bind (·.zero)).map (λz=>z.cells.toList)=some (gh 0 (zs 27)):=by kernel_rfl
def qwT{P:Ky}{t:Kx}{z:Kw}{offs:Array (KQ)}(u:(P.info? t).bind (·.zero)=some z)(C:P.underlying t=some (.struct (fieldsOf P t)))(h:∀w,((fieldsOf P t).mapM λf=>do pure (f.offset,<- sizeOf f.type):Sem (Array (KQ))).run P w=.ok offs w)(w:Kv): (Instr.build t #[]).run P w=.ok (.agg z.cells) w:=by simp only[Instr.build,Kb,xw u,Kc,run_underlying C,h,Instr.fill,Sem.run_pure]
def CE{K:List Kw->Prop}(k:K (gh 0 (zs 27))):fM [i3.pF] (λw'=>(Instr.build 238 #[]).run prog w') w K:=by
 obtain⟨z,u,h⟩:=yU.1 xn;refine tP (ts:=[i3.pF]) (gh 0 (zs 27)) ?_ k;have:=qwT (P:=prog) (t:=238) (offs:=#[(0,1),(1,1),(2,1),(3,1),(4,24)]) u oL (λw=>oL) w;rw[this];show Result.ok (Value.agg z.cells) w=.ok (Value.agg (gh 0 (zs 27)).toArray) w;rw[<- h]
def iK{cs:Array Kw}{vs:List Kw}(h:vs.length=cs.size):ef cs 0 vs=vs.toArray:=by apply Array.ext';rw[sP _ _ _ oK,take_zero,xK,Kd (by rw[Ku];omega),xJ]
def IX(h:t.length=27):(gh q t).toArray.size=28:=by rw[size_toArray];exact ue h
def CC{u:KQ}{K:List Kw->Prop}(C:w.heap[r]?=some (.cells (gh q t).toArray T u))(h:t.length=27)(k:K (gh q t)):iH 28 (dm r) w K:=
 ou C (gh q t) (ue h) (by rw[xH,zS (Nat.le_of_eq (ue h))]) k
def Ep{G:Int}{C:KE}{K:WP}(I:ed [] w0 w L)(i:Nat)(hi:L[i]?=some (r,.c (gh G C).toArray T))(E:C.length=27)(h:t.length=27)(J:∀w',ed [] w0 w' (L.set i (r,.c (gh q t).toArray T))->K w'):ig ((gh q t).length=28) (st (dm r) (gh q t) w K):=by refine mI (ue h)<|oH I i hi (gh q t).toArray (iK (by rw[IX E,ue h])) (qtK _ _) (by rw[IX E,ue h];decide) λw' u _=>J w' u
def wS{I:Int}{E:KE}{K:List Kw->WP}(J:ed [] w0 w L)(i:Nat)(hi:L[i]?=some (r,.c (gh I E).toArray T))(O:E.length=27)(G:t.length=27)(Q:∀w',Fr [] w0 w'->K (gh q t) w'):ig ((gh q t).length=28) (st (dm r) (gh q t) w λw'=>iH 28 (dm r) w' λvs=>K vs w'):=by
 refine Ep J i hi O G λw' u=>?_;have C:i<L.length:=by rcases Nat.lt_or_ge i L.length with h|h;exact h;rw[yT h] at hi;cases hi
 exact CC (u.at (i:=i) (by rw[List.getElem?_set_self C])) G (Q w' u.fr)
abbrev rf:=KW
def jX:rf:=(0,zs 27)
def fR (place:Int) (l:KE):rf×Int:=
 if (fP place l).2.2≠0 then (jX,(fP place l).2.2)
 else if (fP place l).1≠1\/(fP place l).2.1.length≠116 then (jX,2)
 else if Int.tmod (js (fP place l).2.1) 2≠place then (jX,2)
 else ((js (fP place l).2.1,mV (fP place l).2.1),0)
def BJ(place:Int)(l:KE):(fR place l).1.2.length=27:=by unfold fR;split<;>(try rfl);split<;>(try rfl);split<;>rfl
def i6 (a b:KE):rf×Int:=
 if (fR 0 a).2≠0/\(fR 1 b).2≠0 then (jX,5)
 else if (fR 0 a).2≠0\/((fR 1 b).2=0/\(fR 1 b).1.1>(fR 0 a).1.1) then ((fR 1 b).1,0)
 else ((fR 0 a).1,0)
def qng(a b:KE):(i6 a b).1.2.length=27:=by unfold i6;split<;>(try rfl);split<;>exact BJ _ _
def qsq{place:Int}{K:List Kw×Int->WP}(h:eO S w s l)(hv:Hv w)(hB:fq l)(hl:l.length<=100000)(Q:place=0\/place=1)(hk:∀w',Fr [] w w'->K (gh (fR place l).1.1 (fR place l).1.2,(fR place l).2) w'): cW 210 [.i place,s.v] dJ w K:=by
 refine qr4<|oJ (oF [] w) xn λr1 w1 e1 u=>?_;have R:wrap .u32 place=place:=by rcases Q with rfl|rfl<;>kernel_rfl
 have U:wrap .u64 place=place:=by rcases Q with rfl|rfl<;>kernel_rfl
 rw[R,U];refine jf (λb w'=>b=false/\w'=w1) ?_ ?_;rcases Q with rfl|rfl;exact JU rfl ⟨rfl,rfl⟩;exact JT rfl ⟨rfl,rfl⟩;rintro b w2 ⟨rfl,rfl⟩;refine JU rfl ?_;have E:∀ {e:Int} {w':Kv},fR place l=(jX,e)->Fr [] w w'->K (gh 0 (zs 27),e) w':=by
  intro e w' G hf;have:=hk w' hf;rw[G] at this;exact this
 refine HE (h.q8 u.fr) (hv.q8 u.fr) hB hl λs3 B3 w3 b3 f3 n3=>?_;have u:=u.q8 f3;apply eV<;>intro C;have G:(fP place l).2.2≠0:=(oQ C);exact CE<|wS u 0 rfl rfl rfl λw4 f4=>E (by rw[fR,iP G]) f4;have G:¬(fP place l).2.2≠0:=(oQ C);refine jf (λb w'=>b=decide ((fP place l).1≠1\/(fP place l).2.1.length≠116)/\w'=w3) ?_ ?_;apply eV<;>intro C;have O:(fP place l).1≠1:=(oQ C);exact⟨by simp[O],rfl⟩;have O:(fP place l).1=1:=(oQ C);have V:s3.len=(fP place l).2.1.length:=b3.len;refine⟨?_,rfl⟩;dsimp only;rw[V];by_cases hx:(fP place l).2.1.length=116;rw[hx];simp[O];have:¬(((fP place l).2.1.length:Int)=116):=oK;simp[O,hx,this];rintro b w4 ⟨rfl,rfl⟩;apply eV<;>intro C;exact CE<|wS u 0 rfl rfl rfl λw5 f5=>E (by rw[fR,iN G,iP (zC C)]) f5;have I:=zB C;have J:(fP place l).2.1.length=116:=by rcases Nat.decEq (fP place l).2.1.length 116 with h|h;exact absurd (Or.inr h) I;exact h
 have ab:=b3.k5 (S:=[]) mW oM;refine qxj ab J λw5 f5=>?_;have u:=u.q8 f5;refine oJ u xn λr6 w6 e6 u=>Ep u 0 rfl rfl (vM _) λw7 u=>KA u 0 rfl (js (fP place l).2.1) ?_;apply eV<;>intro C;have hq:Int.tmod (js (fP place l).2.1) 2≠place:=(oQ C);exact CE<|wS u 1 rfl rfl rfl λw8 f8=>E (by rw[fR,iN G,iN I,iP hq]) f8;have hq:¬Int.tmod (js (fP place l).2.1) 2≠place:=(oQ C);refine CC (u.at (i:=0) rfl) (vM _)<|wS u 1 rfl rfl (vM _) λw8 f8=>?_
 have:=hk w8 f8;rw[fR,iN G,iN I,iN hq] at this;exact this
def qv0{V sb:Sl}{a b:KE}{K:List Kw×Int->WP}(ha:eO S w V a)(hb:eO S w sb b)(hv:Hv w)(J:fq a)(O:fq b)(Q:a.length<=100000)(R:b.length<=100000)(U:∀w',Fr [] w w'->K (gh (i6 a b).1.1 (i6 a b).1.2,(i6 a b).2) w'): cW 177 [V.v,sb.v] dJ w K:=by
 refine qpA<|oJ (oF [] w) xn λr1 w1 e1 h=>qsq (ha.q8 h.fr) (hv.q8 h.fr) J Q (.inl rfl) λw2 f2=>?_;have h:=h.q8 f2;refine oJ h xn λr3 w3 e3 h=>Ep h 0 rfl rfl (BJ _ _) λw4 h=>qsq (hb.q8 h.fr) (hv.q8 h.fr) O R (.inr rfl) λw5 f5=>?_;have h:=h.q8 f5;refine oJ h xn λr6 w6 e6 h=>Ep h 0 rfl rfl (BJ _ _) λw7 h=>jf (λc w'=>c=decide ((fR 0 a).2≠0/\(fR 1 b).2≠0)/\w'=w7) ?_ ?_;apply eV<;>intro u;have C:(fR 0 a).2≠0:=(oQ u);refine⟨?_,rfl⟩;by_cases I:(fR 1 b).2=0<;>simp[C,I];have C:(fR 0 a).2=0:=(oQ u);exact⟨by simp[C],rfl⟩;rintro c w8 ⟨rfl,rfl⟩;apply eV<;>intro u;refine CE<|wS h 2 rfl rfl rfl λw9 f9=>?_
 have:=U w9 f9;rw[i6,iP (zC u)] at this;exact this;have hn:=zB u;refine jf (λc w'=>c=decide ((fR 0 a).2≠0\/((fR 1 b).2=0/\(fR 1 b).1.1>(fR 0 a).1.1))/\w'=w8) ?_ ?_;apply eV<;>intro u;have C:(fR 0 a).2≠0:=(oQ u);exact⟨by simp[C],rfl⟩;have C:(fR 0 a).2=0:=(oQ u);apply eV<;>intro u;have I:(fR 1 b).2=0:=(oQ u);refine oA h 0 rfl (fR 1 b).1.1 rfl<|oA h 1 rfl (fR 0 a).1.1 rfl<|⟨?_,rfl⟩;by_cases h3:(fR 1 b).1.1>(fR 0 a).1.1<;>simp[C,I,h3];have I:(fR 1 b).2≠0:=(oQ u);exact⟨by simp[C,I],rfl⟩;rintro c w9 ⟨rfl,rfl⟩;apply cD<;>intro u;refine CC (h.at (i:=0) rfl) (BJ _ _)<|wS h 2 rfl rfl (BJ _ _) λE G=>?_
 have:=U E G;rw[i6,iN hn,iP (u)] at this;exact this;refine CC (h.at (i:=1) rfl) (BJ _ _)<|wS h 2 rfl rfl (BJ _ _) λE G=>?_
 have:=U E G;rw[i6,iN hn,iN (u)] at this;exact this
abbrev iZ (n:Int):Prop:=0<=n/\n<4294967296
def EI(h:iZ n)(r:KE):fZ (be n 4++r)=n:=by rw[DX h.1];exact qzi h
def qqW:∀(c:KE) (i:Nat),(c.flatMap (be · 4)).drop (4*i)=(c.drop i).flatMap (be · 4)
 | [],i=>by simp
 | a::c,0=>by simp
 | a::c,i+1=>by rw[yI,drop_succ_cons,<- qqW c i,drop_append,lM,vG (by rw[lM];omega),xK];congr 1
def qzA(c:KE):(c.flatMap (be · 4)).length=4*c.length:=by
 induction c with
 | nil=>rfl
 | cons a c ih=>rw[yI,zF,lM,ih,yJ];omega
def qm4{i:Nat}(h:i<c.length)(u:∀x∈c,iZ x):fZ ((c.flatMap (be · 4)).drop (4*i))=c[i]:=by rw[qqW,zY h,yI];exact EI (u _ (zX h)) _
def Ge(next:Int)(c:KE):(kr next c).length=6+4*c.length:=by rw[kr,zF,zF,lM,qzA];rfl
def qsN(c:KE):fq (c.flatMap (be · 4)):=by
 induction c with
 | nil=>exact λx h=>by cases h
 | cons a c ih=>rw[yI];exact (u7 _ _).append ih
def qBC(x:Int):0<=wrap .u8 x/\wrap .u8 x<256:=by rw[CW];omega
def qqH(next:Int)(c:KE):fq (kr next c):=by refine ((u7 _ _).append λx h=>?_).append (qsN c);simp only[zG,xZ,or_false] at h;rcases h with rfl|rfl<;>exact qBC _
def qtl{next:Int}(C:iZ next)(I:next≠1)(J:∀x∈c,iZ x)(O:jI 1 c=true)(hl:c.length<=123):jl (kr next c)=(next,c,0):=by
 have E:=Ge next c;have e:kr next c=be next 4++([wrap .u8 (Int.fdiv c.length (2^8)),wrap .u8 c.length]++c.flatMap (be · 4)):=by rw[kr,zV]
 have G:fZ (kr next c)=next:=by rw[e];exact EI C _
 have h:lX (kr next c)=c.length:=(by have Q:(kr next c).getD 4 0=wrap .u8 (Int.fdiv c.length (2^8)):=(by rw[e,DX C.1];rfl);have R:(kr next c).getD 5 0=wrap .u8 c.length:=(by rw[e,DX C.1];rfl);have U:Int.fdiv (c.length:Int) (2^8)=0:=(by rw[Int.fdiv_eq_ediv_of_nonneg _ oN];omega);rw[lX,Q,R,CW,CW,U];omega);have u:lG (kr next c) c.length=c:=by
  apply ext_getElem;simp[lG];intro i I V;have:(kr next c).drop (6+4*i)=(c.flatMap (be · 4)).drop (4*i):=by have h6:(kr next c).drop 6=c.flatMap (be · 4):=(by rw[e,DX C.1];rfl);rw[<- h6,xF]
  simp only[lG,getElem_map,getElem_range,this];exact qm4 V J
 rw[jl,iN,iN (by rw[G,h];omega),h,zJ,u,iP O,G]
def rQ(x:Int)(h:0<=x/\x<18446744073709551616):wrap .u64 x=x:=by unfold wrap;have:(IntKind.u64.signed)=false:=rfl;simp only[this,Bool.false_and,Bool.false_eq_true,if_false];exact Int.emod_eq_of_lt h.1 h.2
def qrj{A B:Int}(k:Nat)(G:0<=A)(C:A%2^k=0)(I:0<=B)(h:B<2^k)(J:A+B<18446744073709551616):bits .or .u64 A B=A+B:=by
 obtain⟨a,rfl⟩:∃a:Nat,A=a:=⟨A.toNat,oK⟩;obtain⟨b,rfl⟩:∃b:Nat,B=b:=⟨B.toNat,oK⟩;have E:a%2^k=0:=by have:((a:Int)%((2^k:Nat):Int))=0:=(by rw[Int.natCast_pow];exact C);omega
 have u:b<2^k:=(by have:(b:Int)<((2^k:Nat):Int):=(by rw[Int.natCast_pow];exact h);omega);obtain⟨q,rfl⟩:∃q,a=2^k*q:=⟨a / 2^k,by have:=Nat.div_add_mod a (2^k);omega⟩;show wrap .u64 ((BitVec.ofInt 64 ((2^k*q:Nat):Int)||| BitVec.ofInt 64 (b:Int)).toNat:Nat)=_;rw[BitVec.toNat_or,BitVec.ofInt_natCast,BitVec.ofInt_natCast,BitVec.toNat_ofNat,BitVec.toNat_ofNat,Nat.mod_eq_of_lt (show 2^k*q<2^64 by omega),Nat.mod_eq_of_lt (show b<2^64 by omega),<- Nat.two_pow_add_eq_or_of_lt u];rw[rQ _ oK];omega
abbrev lA (n:Int):Prop:=0<=n/\n<18446744073709551616
def E5:iE q t=be (wrap .u32 (Int.fdiv q (2^32))) 4++(be (wrap .u32 q) 4++t.flatMap (be · 4)):=by rw[iE,zV]
def qki(I:lA q):js (iE q t)=q:=by have h:Int.fdiv q (2^32)=q / 4294967296:=(by rw[Int.fdiv_eq_ediv_of_nonneg _ oN];rfl);have u:fZ (iE q t)=q / 4294967296:=(by rw[E5,h,nR _ oK];exact EI (by constructor<;>omega) _);have C:(iE q t).drop 4=be (wrap .u32 q) 4++t.flatMap (be · 4):=(by rw[E5,drop_append,lM,vG (by rw[lM];exact zM _)];rfl);have E:wrap .u32 q=q%4294967296:=(by unfold wrap;have:(IntKind.u32.signed)=false:=rfl;simp only[this,Bool.false_and,Bool.false_eq_true,if_false];rfl);have G:fZ ((iE q t).drop 4)=q%4294967296:=(by rw[C,E];exact EI (by constructor<;>omega) _);rw[js,u,G,rQ (q / 4294967296) oK,rQ (q%4294967296) oK,rQ (q / 4294967296*2^32) oK];rw[qrj 32 oK oK oK oK oK];omega
def qw1(q:Int)(t:KE):fq (iE q t):=by rw[E5];exact (u7 _ _).append ((u7 _ _).append (qsN t))
def qr1(h:t.length=27)(u:∀x∈t,iZ x):mV (iE q t)=t:=by
 apply ext_getElem;rw[vM,h];intro i G C;have E:(iE q t).drop 8=t.flatMap (be · 4):=by rw[E5,<- zV,drop_append,zF,lM,lM,vG (by rw[zF,lM,lM];exact zM _)];rfl
 have:(iE q t).drop (8+4*i)=(t.flatMap (be · 4)).drop (4*i):=(by rw[<- E,xF]);simp only[mV,getElem_map,getElem_range,this];exact qm4 C u
def qux{place:Int}(h:lA q)(u:t.length=27)(G:∀x∈t,iZ x)(E:Int.tmod q 2=place):fR place (fS place 1 (iE q t))=((q,t),0):=by have C:iZ place:=(by rw[<- E,Kj h.1];constructor<;>omega);have I:=qno (kind:=1) (body:=iE q t) C (by rw[Cp u];decide);rw[fR,I,iN oM,iN (by simp[Cp u]),iN (by rw[qki h,E];simp),qki h,qr1 u G]
abbrev uW:Kx:=244
abbrev MLT:Kx:=240
def look {β:Type} (n:Int):List (Int×β)->Option (Nat×β)
 | []=>none
 | p::r=>if n=p.1 then some (0,p.2) else (look n r).map λq=>(q.1+1,q.2)
def iV {β:Type} (n:Int) (v:β) (l:List (Int×β)):List (Int×β):=match look n l with|some q=>l.set q.1 (n,v)|none=>l++[(n,v)]
def kL {β:Type} (n:Int) (l:List (Int×β)):List (Int×β):=match look n l with|some q=>l.eraseIdx q.1|none=>l
def Bj{β γ:Type}(g:β->γ)(n:Int):∀l:List (Int×β),look n (l.map λe=>(e.1,g e.2))=(look n l).map λq=>(q.1,g q.2)
 | []=>rfl
 | p::r=>by simp only[xQ,look];by_cases h:n=p.1;simp[h];rw[iN h,iN h,Bj g n r];cases look n r<;>rfl
def CL(n:Int):∀l:List (Int×Kw),posOf n l=look n l
 | []=>rfl
 | p::r=>by simp only[posOf,look,CL n r]
def vT{β:Type}{n:Int}:∀ {l:List (Int×β)} {q:Nat×β},look n l=some q->l[q.1]?=some (n,q.2)/\(n,q.2)∈l
 | p::r,q,h=>by simp only[look] at h;by_cases hp:n=p.1;rw[iP hp] at h;cases h;subst hp;exact⟨rfl,oM⟩;rw[iN hp] at h;obtain⟨x,u,rfl⟩:=yU.1 h;obtain⟨C,E⟩:=vT u;exact⟨by simpa using C,zN _ E⟩
def Ai{β:Type}{n:Int}:∀ {l:List (Int×β)},look n l=none↔n∉l.map (·.1)
 | []=>by simp[look]
 | p::r=>by simp only[look,xQ,zG,not_or];by_cases hp:n=p.1;simp[hp];rw[iN hp,Option.map_eq_none_iff,Ai (l:=r)];simp[hp]
def FJ{β γ:Type}(g:β->γ)(n:Int)(v:β)(l:List (Int×β)):(iV n v l).map (λe=>(e.1,g e.2))=iV n (g v) (l.map λe=>(e.1,g e.2)):=by
 unfold iV;rw[Bj];cases look n l with
 | none=>simp
 | some q=>simp[map_set]
def qsC{β γ:Type}(g:β->γ)(n:Int)(l:List (Int×β)):(kL n l).map (λe=>(e.1,g e.2))=kL n (l.map λe=>(e.1,g e.2)):=by
 unfold kL;rw[Bj];cases look n l with
 | none=>rfl
 | some q=>simp only[Option.map_some];exact xf _ l q.1
def FB{β:Type}{v:β}{l:List (Int×β)}{e:Int×β}(h:e∈iV n v l):e∈l\/e=(n,v):=by unfold iV at h;split at h;exact mem_or_eq_of_mem_set h;rcases zD.1 h with h|h;exact .inl h;exact .inr (oQ h)
def qs8{β:Type}{l:List (Int×β)}{e:Int×β}(h:e∈kL n l):e∈l:=by unfold kL at h;split at h;exact mem_of_mem_eraseIdx h;exact h
def H9{t et:Kx}{v:Kw}(V:prog.underlying t=some (.map 44 et)){b:Nat}{f:List (Int×Kw)}(h:kG lK w b f)(x:Int): ∃o,(Instr.mapUpdate t (.map (some b)) (lK x) v).run prog w=.ok () (jy w b o)/\kG lK (jy w b o) b (iV x v f):=by
 have K:=zq;cases I:posOf x f with
 | none=>
  obtain⟨o,J,h2⟩:=kG.new V K h x (v:=v) I;refine⟨o,J,?_⟩;rw[CL] at I;rw[iV,I];exact h2
 | some q=>
  obtain⟨C,c,Q,he,hs,hc⟩:=h;have R:=I;rw[CL] at R;obtain⟨J,_⟩:=vT R;have G:=he;simp only[qU] at G;have hi:C[q.1]?.map (·.key)=some (lK x):=by
   have:=Kr (·[q.1]?) G;simp only[zQ,J,Option.map_some] at this;rw[<- xN];cases E:C.toList[q.1]? with
   | none=>rw[E] at this;cases this
   | some e=>rw[E] at this;simp at this;simp[this.1]
  refine⟨.map (C.modify q.1 λe=>{ e with key:=lK x,val:=v }) c,?_,C.modify q.1 λe=>{ e with key:=lK x,val:=v },c,?_,?_,?_,?_⟩;simp[Instr.mapUpdate,run_underlying V,Ko Q,K.check,wK K he,I,hi,Instr.keyThatStays,Instr.sameBits,Go.MapKept.run_setObj_map _ Q];rfl;rw[qY _ _ _ _ (fl Q),iP rfl];rw[iV,R];show ((C.modify q.1 _).toList).map _=(f.set q.1 (x,v)).map _;rw[Array.toList_modify];apply ext_getElem?;intro j;have u:=Kr (·[j]?) G;simp only[zQ] at u;rw[zQ,zQ,List.getElem?_modify,List.getElem?_set];by_cases hqj:q.1=j;subst hqj;have U:=(zP.1 J).1;rw[J] at u;cases E:C.toList[q.1]? with
  | none=>rw[E] at u;cases u
  | some e=>simp[U]
  simp only[hqj,if_false];rw[<- u];cases C.toList[j]?<;>rfl;have e:(C.modify q.1 λe=>{ e with key:=lK x,val:=v }).toList.map (·.born)=C.toList.map (·.born):=by rw[Array.toList_modify];apply ext_getElem?;intro j;rw[zQ,zQ,List.getElem?_modify];by_cases hqj:q.1=j;subst hqj;cases C.toList[q.1]?<;>simp;simp[hqj]
  rw[e];exact hs;intro e O;rw[Array.toList_modify] at O;obtain⟨j,u⟩:=mem_iff_getElem?.1 O;rw[List.getElem?_modify] at u;by_cases hqj:q.1=j;subst hqj;cases E:C.toList[q.1]? with
  | none=>rw[E] at u;simp at u
  | some e0=>
   rw[E] at u;simp at u;subst u;exact hc e0 (yG E)
  simp[hqj] at u;exact hc e (yG (by rw[xN];exact u))
section
structure eZ where
 j9:rf
 Q4:KE
 Q8:KE
 x5:Int
 Q2:Bool
 Q0:KE
 J6:KE
 J7:List (Int×Int×List Int)
 Q1:KE
abbrev mJ:=Int×Sl×List Int
def nd (x:mJ):Kw:=.agg #[.b x.1,x.2.1.v]
def pB (sl sn:Sl) (x5:Int) (Q2:Bool) (fb defb mb:Nat):List Kw:=
 [sl.v,sn.v,.i x5,.bool Q2,dQ fb,dQ defb,.map (some mb)]
def gQ (db:Option Addr) (j9:rf) (sl sn:Sl) (x5:Int) (Q2:Bool) (fb defb mb:Nat) (Q1:KE):Array Kw:=
 ((.pointer db::gh j9.1 j9.2)++pB sl sn x5 Q2 fb defb mb++Q1.map (Value.int .u32)).toArray
section
variable {db:Option Addr} {j9:rf} {sl sn:Sl} {x5:Int} {Q2:Bool} {fb defb mb:Nat} {Q1:KE}
def uV(h:j9.2.length=27):(Value.pointer db::gh j9.1 j9.2).length=29:=by rw[yJ,ue h]
def qvt(h:j9.2.length=27):(gQ db j9 sl sn x5 Q2 fb defb mb Q1).size=36+Q1.length:=by rw[gQ,size_toArray,zF,zF,uV h,zK];rfl
def qCM:(gQ db j9 sl sn x5 Q2 fb defb mb Q1)[0]?=some (.pointer db):=rfl
def qB7(C:j9.2.length=27)(n:Nat)(h:n<27):(gQ db j9 sl sn x5 Q2 fb defb mb Q1)[n+2]?=some (.u (j9.2.getD n 0)):=by
 rw[gQ,List.getElem?_toArray,zV,xA (by rw[uV C];omega),List.getElem?_cons_succ];have:=Ek (q:=j9.1) (t:=j9.2) n oK;rw[List.getElem?_toArray] at this;exact this
def CV(u:j9.2.length=27)(j:Nat)(h:j<7):(gQ db j9 sl sn x5 Q2 fb defb mb Q1)[29+j]?=(pB sl sn x5 Q2 fb defb mb)[j]?:=by rw[gQ,List.getElem?_toArray,zV,yZ (by rw[uV u];omega),uV u,vF,xA (by exact h)]
def qzU(h:j9.2.length=27):(gQ db j9 sl sn x5 Q2 fb defb mb Q1)[29]?=some sl.v:=CV h 0 oN
def qzV(h:j9.2.length=27):(gQ db j9 sl sn x5 Q2 fb defb mb Q1)[30]?=some sn.v:=CV h 1 oN
def DO(h:j9.2.length=27):(gQ db j9 sl sn x5 Q2 fb defb mb Q1)[32]?=some (.bool Q2):=CV h 3 oN
def Em(h:j9.2.length=27):(gQ db j9 sl sn x5 Q2 fb defb mb Q1)[33]?=some (dQ fb):=CV h 4 oN
def qyj(h:j9.2.length=27):(gQ db j9 sl sn x5 Q2 fb defb mb Q1)[34]?=some (dQ defb):=CV h 5 oN
def xo(h:j9.2.length=27):(gQ db j9 sl sn x5 Q2 fb defb mb Q1)[35]?=some (.map (some mb)):=CV h 6 oN
end
structure Rows (F:KD) (w:Kv) (sl sn:Sl) (Q4 Q8:KE) (fs:List (Int×mJ)):Prop where
 Q4:Rd F w sl Q4
 Q8:Rd F w sn Q8
 cA:∀ e∈fs,eO F w e.2.2.1 e.2.2.2
def Rows.j0{F F':KD}{w w':Kv}{sl sn:Sl}{u Q8:KE}{E:List (Int×mJ)}(h:Rows F w sl sn u Q8 E)(f:Fr F w w')(C:∀b∈F',b∈F\/w.heap.size<=b):Rows F' w' sl sn u Q8 E:=
 ⟨h.Q4.j0 f C,h.Q8.j0 f C,λe G=>(h.cA e G).j0 f C⟩
structure qr (w:Kv) (X:KD) (pb:Nat) (db:Option Addr) (M:eZ) (fb defb mb:Nat) (sl sn:Sl) (F1 F2:KD) (fs:List (Int×mJ)):Prop where
 cell:w.heap[pb]?=some (.c (gQ db M.j9 sl sn M.x5 M.Q2 fb defb mb M.Q1) uW)
 Q0:i4 w fb F1 M.Q0
 J6:i4 w defb F2 M.J6
 map:kG lK w mb (fs.map λe=>(e.1,nd e.2))
 J7:M.J7=fs.map λe=>(e.1,e.2.1,e.2.2.2)
 rows:Rows (X++pb::mb::(F1++F2)) w sl sn M.Q4 M.Q8 fs
 si:∀ b∈X,b<w.heap.size
 pu:∀ b∈X,b∉pb::mb::(F1++F2)
 sep:pb≠mb/\(∀ b∈F1,b≠pb/\b≠mb/\b∉F2)/\(∀ b∈F2,b≠pb/\b≠mb)
 Q7:M.j9.2.length=27
 x6:M.Q1.length=24
def gd (w:Kv) (X:KD) (pb:Nat) (db:Option Addr) (F:KD) (M:eZ):Prop:=
 ∃fb defb mb sl sn h F2 u,F=pb::mb::(h++F2)/\qr w X pb db M fb defb mb sl sn h F2 u
def qr.cZ{M:eZ}{u:List (Int×mJ)}(h:qr w X pb db M fb defb mb sl sn F1 F2 u):mb<w.heap.size:=by exact h.map.lt
def qr.lt{w:Kv}{X:KD}{pb:Nat}{db:Option Addr}{M:eZ}{fb defb mb:Nat}{sl sn:Sl}{F1 F2:KD}{C:List (Int×mJ)}(h:qr w X pb db M fb defb mb sl sn F1 F2 C):∀b∈pb::mb::(F1++F2),b<w.heap.size:=by intro b u;rcases zG.1 u with rfl|u;exact fl h.cell;rcases zG.1 u with rfl|u;exact h.cZ;rcases zD.1 u with u|u;exact h.Q0.lt b u;exact h.J6.lt b u
def gd.lt{w:Kv}{X:KD}{pb:Nat}{db:Option Addr}{F:KD}{M:eZ}(h:gd w X pb db F M):∀b∈F,b<w.heap.size:=by obtain⟨fb,defb,mb,sl,sn,C,F2,E,rfl,u⟩:=h;exact u.lt
def qr.j0{w w':Kv}{S X:KD}{pb:Nat}{db:Option Addr}{M:eZ}{fb defb mb:Nat}{sl sn:Sl}{F1 F2:KD}{E:List (Int×mJ)}(h:qr w X pb db M fb defb mb sl sn F1 F2 E)(f:Fr S w w')(C:∀b∈pb::mb::(F1++F2),b∉S)(G:Rows (X++pb::mb::(F1++F2)) w' sl sn M.Q4 M.Q8 E):qr w' X pb db M fb defb mb sl sn F1 F2 E where
 cell:=by rw[f.block pb (fl h.cell) (C pb oM)];exact h.cell
 Q0:=h.Q0.j0 f λb u=>C b (by simp[u])
 J6:=h.J6.j0 f λb u=>C b (by simp[u])
 map:=h.map.j0 f (C mb oM)
 J7:=h.J7
 rows:=G
 si:=λb u=>yE (h.si b u) f.size
 pu:=h.pu
 sep:=h.sep
 Q7:=h.Q7
 x6:=h.x6
def qr.q8{M:eZ}{C:List (Int×mJ)}(h:qr w X pb db M fb defb mb sl sn F1 F2 C)(f:Fr [] w w'):qr w' X pb db M fb defb mb sl sn F1 F2 C:=
 h.j0 f oM (h.rows.j0 (f.mono λb u=>by cases u) λb u=>.inl u)
def gd.q8{w w':Kv}{X:KD}{pb:Nat}{db:Option Addr}{F:KD}{M:eZ}(h:gd w X pb db F M)(f:Fr [] w w'):gd w' X pb db F M:=by obtain⟨fb,defb,mb,sl,sn,u,F2,C,rfl,E⟩:=h;exact⟨fb,defb,mb,sl,sn,u,F2,C,rfl,E.q8 f⟩
def Fj{u:KD}(n1:∀b∈u,b∈F1\/w.heap.size<=b):∀b∈pb::mb::(u++F2),b∈pb::mb::(F1++F2)\/w.heap.size<=b:=λb h=>by simp only[zG,zD] at h⊢;rcases h with h|h|h|h;exact .inl (.inl h);exact .inl (.inr (.inl h));rcases n1 b h with C|C;exact .inl (.inr (.inr (.inl C)));exact .inr C;exact .inl (.inr (.inr (.inr h)))
def G9{u:KD}(n1:∀b∈u,b∈F2\/w.heap.size<=b):∀b∈pb::mb::(F1++u),b∈pb::mb::(F1++F2)\/w.heap.size<=b:=λb h=>by simp only[zG,zD] at h⊢;rcases h with h|h|h|h;exact .inl (.inl h);exact .inl (.inr (.inl h));exact .inl (.inr (.inr (.inl h)));rcases n1 b h with C|C;exact .inl (.inr (.inr (.inr C)));exact .inr C
def Cr{F':KD}(n:∀b∈F',b∈F\/w.heap.size<=b):∀b∈X++F',b∈X++F\/w.heap.size<=b:=λb u=>by rcases zD.1 u with h|h;exact .inl (zH _ h);rcases n b h with h|h;exact .inl (zI _ h);exact .inr h
def Iu{F':KD}(C:∀b∈X,b<w.heap.size)(E:∀b∈X,b∉F)(n:∀b∈F',b∈F\/w.heap.size<=b):∀b∈X,b∉F':=λb u h=>by
 rcases n b h with h|h;exact E b u h;have:=C b u;omega
def qr.sZ{M:eZ}{C:KD}{I:List (Int×mJ)}(h:qr w X pb db M fb defb mb sl sn F1 F2 I)(f:Fr F1 w w')(O:i4 w' fb C l)(E:∀b∈C,b∈F1\/w.heap.size<=b): qr w' X pb db { M with Q0:=l } fb defb mb sl sn C F2 I where
 cell:=by rw[f.block pb (fl h.cell) λu=>(h.sep.2.1 pb u).1 rfl];exact h.cell
 Q0:=O
 J6:=h.J6.j0 f λb u G=>(h.sep.2.1 b G).2.2 u
 map:=h.map.j0 f (λu=>(h.sep.2.1 mb u).2.1 rfl)
 J7:=h.J7
 rows:=h.rows.j0 (f.mono λb u _=>by simp[u]) (Cr (Fj E))
 si:=λb u=>yE (h.si b u) f.size
 pu:=Iu h.si h.pu (Fj E)
 sep:=⟨h.sep.1,λb u=>by rcases E b u with J|J;exact h.sep.2.1 b J;have R:=fl h.cell;have U:=h.cZ;exact⟨oK,oK,λQ=>by have:=h.J6.lt b Q;omega⟩,h.sep.2.2⟩
 Q7:=h.Q7
 x6:=h.x6
def qr.A3{M:eZ}{C:KD}{J:List (Int×mJ)}(h:qr w X pb db M fb defb mb sl sn F1 F2 J)(f:Fr F2 w w')(O:i4 w' defb C l)(G:∀b∈C,b∈F2\/w.heap.size<=b): qr w' X pb db { M with J6:=l } fb defb mb sl sn F1 C J where
 cell:=by rw[f.block pb (fl h.cell) λu=>(h.sep.2.2 pb u).1 rfl];exact h.cell
 Q0:=h.Q0.j0 f λb u I=>(h.sep.2.1 b u).2.2 I
 J6:=O
 map:=h.map.j0 f (λu=>(h.sep.2.2 mb u).2 rfl)
 J7:=h.J7
 rows:=h.rows.j0 (f.mono λb u _=>by simp[u]) (Cr (G9 G))
 si:=λb u=>yE (h.si b u) f.size
 pu:=Iu h.si h.pu (G9 G)
 sep:=⟨h.sep.1,λb u=>⟨(h.sep.2.1 b u).1,(h.sep.2.1 b u).2.1,λQ=>by
  rcases G b Q with E|E;exact (h.sep.2.1 b u).2.2 E;have:=h.Q0.lt b u;omega⟩,λb u=>by
  rcases G b u with E|E;exact h.sep.2.2 b E;have R:=fl h.cell;have U:=h.cZ;exact⟨oK,oK⟩⟩
 Q7:=h.Q7
 x6:=h.x6
def qr.uu{o:Obj}{M:eZ}{I C:List (Int×mJ)}(h:qr w X pb db M fb defb mb sl sn F1 F2 I)(O:kG lK (jy w mb o) mb (C.map λe=>(e.1,nd e.2)))(u:∀e∈C,e∈I\/eO (X++pb::mb::(F1++F2)) w e.2.2.1 e.2.2.2): qr (jy w mb o) X pb db { M with J7:=C.map λe=>(e.1,e.2.1,e.2.2.2) } fb defb mb sl sn F1 F2 C:=by
 have f:Fr [mb] w (jy w mb o):=Bg h.cZ o;have J:Fr (X++pb::mb::(F1++F2)) w (jy w mb o):=f.mono λb u _=>by simp only[zE] at u;subst u;simp
 have E:=h.rows.j0 J (F':=X++pb::mb::(F1++F2)) λb u=>.inl u;exact {
  cell:=by rw[f.block pb (fl h.cell) (oQ h.sep.1)];exact h.cell
  Q0:=h.Q0.j0 f λb u=>by simpa using (h.sep.2.1 b u).2.1
  J6:=h.J6.j0 f λb u=>by simpa using (h.sep.2.2 b u).2
  map:=O
  J7:=rfl
  rows:=⟨E.Q4,E.Q8,λe Q=>by rcases u e Q with G|G;exact E.cA e G;exact G.j0 J λb u=>.inl u⟩
  si:=λb u=>yE (h.si b u) f.size
  pu:=h.pu
  sep:=h.sep
  Q7:=h.Q7
  x6:=h.x6 }
def gd.A0{C:KD}{M:eZ}(h:gd w X pb db F M)(f:Fr X w w')(E:∀b∈C,b<w'.heap.size)(I:∀b∈C,b∈X\/w.heap.size<=b):gd w' C pb db F M:=by
 obtain⟨fb,defb,mb,sl,sn,J,F2,Q,rfl,h⟩:=h;have R:∀b∈pb::mb::(J++F2),b∉X:=λb u E=>h.pu b E u;have G:=h.j0 (w':=w') f R (h.rows.j0 (f.mono λb u _=>zH _ u) λb u=>.inl u);refine⟨fb,defb,mb,sl,sn,J,F2,Q,rfl,{ G with rows:=h.rows.j0 (f.mono λb u _=>zH _ u) λb u=>?_,si:=E,pu:=λb u O=>?_ }⟩;rcases zD.1 u with u|u;rcases I b u with u|u;exact .inl (zH _ u);exact .inr u;exact .inl (zI _ u);rcases I b u with u|u;exact h.pu b u O;have:=h.lt b O;omega
def gd.sep{M:eZ}(h:gd w X pb db F M):∀b∈X,b∉F:=by obtain⟨fb,defb,mb,sl,sn,u,F2,C,rfl,h⟩:=h;exact h.pu
end
section
def qyY(h:Rd S w s l)(Q:l.length<=1000000)(I:∀x:Int,(decide (x>=0)=decide (n∈l))->K x w): cW 225 [s.v,.u n] dq w K:=by refine qpv ?_;have J:=h.1;refine kz (λx w'=>w'=w/\∃i:Nat,x=i/\i<=l.length/\n∉l.take i) (λx _=>((l.length:Int)-x).toNat) ⟨rfl,0,rfl,oK,oM⟩ ?_;rintro x w' ⟨rfl,i,rfl,R,C⟩ X O;apply eV<;>intro E;have G:i<l.length:=(by have:=zC E;omega);refine Rd.at h i rfl (zA G) ?_;apply eV<;>intro E;have e:n=l[i]:=(oQ E);refine I _ ?_;rw[yA (show (i:Int)>=0 by omega),yA (by rw[e];exact zX G)];have e:n≠l[i]:=(oQ E);rw[gu _ oK];refine O _ _ ⟨rfl,i+1,oM,oK,?_⟩ oK;rw[yH G];simp only[zD,zE,not_or];exact⟨C,e⟩;have:i=l.length:=(by have:=zB E;omega);subst this;rw[vB] at C;refine I _ ?_;rw[zU oN,zU C]
def qt1{K:Bool->WP}(h:Rd S w s l)(C:l.length<=1000000)(E:K (decide (n∈l)) w): cW 193 [s.v,.u n] dr w K:=by refine qlG<|qyY h C λx G=>?_;rw[G];exact E
def qCI:∀w,(zeroValue 289).run prog w=.ok (.agg #[.b 0,.slice none 0 0]) w:=λw=>by kernel_rfl
def EN:prog.underlying MLT=some (.map 44 289):=by kernel_rfl
def GC{C:List (Int×mJ)}{K:((Int×Sl)×Bool)->Prop}(h:mt lK w mb (C.map λe=>(e.1,nd e.2)))(G:∀q,look n C=some q->K ((q.2.1,q.2.2.1),true))(I:look n C=none->K ((0,dR),false)): fM [i3.agg [Cell.int .u8,Cell.slice],i3.one Cell.bool] (λw'=>(Instr.lookup MLT (.map (some mb)) (.u n) true).run prog w') w K:=by
 have:=qtC (P:=prog) EN qCI zq h n;rw[CL,Bj] at this;cases E:look n C with
 | none=>
  rw[E] at this;exact tP (ts:=[i3.agg [Cell.int .u8,Cell.slice],i3.one Cell.bool]) ((0,dR),false) this (I E)
 | some q=>
  rw[E] at this;exact tP (ts:=[i3.agg [Cell.int .u8,Cell.slice],i3.one Cell.bool]) ((q.2.1,q.2.2.1),true) this (G q E)
section
variable {w:Kv} {X:KD} {pb:Nat} {db:Option Addr} {F:KD} {M:eZ}
def qy3(h:gd w X pb db F M)(C:K M.Q0.length w):cW 151 [dQ pb] dq w K:=by obtain⟨fb,defb,mb,sl,sn,E,F2,G,rfl,u⟩:=h;refine qky<|gV (jH u.cell (pW fb) (Em u.Q7) ?_);exact qAA u.Q0 C
def iy (M:eZ) (n:Int):Bool:=!(decide (n<2)||decide (n>=M.j9.2.getD 0 0)||decide (n∈M.Q4)||decide (n∈M.Q0)||decide (n∈M.J6))&&(look n M.J7).isNone
def qsl{K:Bool->WP}(h:gd w X pb db F M)(hl:M.Q4.length<=1000000)(R:∀w',Fr [] w w'->K (iy M n) w'):cW 166 [dQ pb,.u n] dr w K:=by
 obtain⟨fb,defb,mb,sl,sn,F1,F2,V,rfl,C⟩:=h;refine qkB<|jf (λb w'=>b=(decide (n<2)||decide (n>=M.j9.2.getD 0 0)||decide (n∈M.Q4)||decide (n∈M.Q0)||decide (n∈M.J6))/\w'=w) ?_ ?_;refine eV (λE=>⟨by rw[E];rfl,rfl⟩) λE=>gV ?_;simp only[Addr.j1];refine jH C.cell (M.j9.2.getD 0 0) (qB7 C.Q7 0 oN)<|eV (λG=>⟨by rw[E,G];rfl,by trivial⟩) λG=>gV (jH C.cell sl (qzU C.Q7) ?_);refine qt1 C.rows.Q4 hl<|eV (λI=>⟨by rw[E,G,I];rfl,by trivial⟩) λI=>gV (jH C.cell (pW fb) (Em C.Q7) ?_);refine HH C.Q0<|eV (λJ=>⟨by rw[E,G,I,J];rfl,by trivial⟩) λJ=>gV<|jH C.cell (pW defb) (qyj C.Q7)<|HH C.J6 ⟨by rw[E,G,I,J];rfl,by trivial⟩;rintro b w' ⟨rfl,rfl⟩;have Q:(look n M.J7).isNone=(look n V).isNone:=by rw[C.J7,Bj λx:mJ=>(x.1,x.2.2)];cases look n V<;>rfl
 apply eV<;>intro E;have:=R w' (.refl _ _);rw[iy,E] at this;exact this;refine gV ?_;simp only[Addr.j1];refine jH C.cell (some mb) (xo C.Q7)<|GC C.map.at (λq U=>?_) λU=>?_;refine oB (oF [] w') λr w1 e1 f1 O=>oI O 0 rfl _ rfl rfl rfl λw2 O _=>?_
 have:=R w2 O.fr;rw[iy,E,Q,U] at this;exact this;refine oB (oF [] w') λr w1 e1 f1 O=>oI O 0 rfl _ rfl rfl rfl λw2 O _=>?_;have:=R w2 O.fr;rw[iy,E,Q,U] at this;exact this
def ia (M:eZ) (kind:Int) (body:KE):KI×eZ:=
 if M.Q2 then ((0,7),M) else if body.length>500 then ((0,3),M) else
 match M.Q0 with
 | []=>((0,6),M)
 | n::r=>((n,0),{ M with Q0:=r,J7:=iV n (kind,body) M.J7 })
def qy2{kind:Int}{K:KI->WP}(h:gd w X pb db F M)(hb:eO (X++F) w s body)(hl:body.length<=100000)(hf:M.Q0.length<=1000000)(hk:∀F' w',gd w' X pb db F' (ia M kind body).2->Fr F w w'->(∀b∈F',b∈F\/w.heap.size<=b)->K (ia M kind body).1 w'): cW 185 [dQ pb,.b kind,s.v] dB w K:=by
 have h0:=h;obtain⟨fb,defb,mb,sl,sn,F1,F2,fs,rfl,hx⟩:=h;have hlen:=hb.1;refine qkw (p:=pW pb) (body:=s) ?_;have same:∀ {e:Int},ia M kind body=((0,e),M)->K (0,e) w:=by
  intro e he;have:=hk _ w (by rw[he];exact h0) (.refl _ _) (λb hb=>.inl hb);rw[he] at this;exact this
 refine gV (jH (c:=.bool) hx.cell M.Q2 (DO hx.Q7) ?_);refine eV (λhc=>same (by rw[ia,iP hc])) λhc=>?_;have ho:¬M.Q2=true:=(by rw[hc];decide);apply cD<;>intro hc;have:=hc;exact same (by rw[ia,iN ho,iP]);have hb5:¬body.length>500:=oK;refine gV (jH (c:=.ptr) hx.cell (pW fb) (Em hx.Q7) ?_);refine qAH hx.Q0 hf λF1' w1 hp1 f1 n1=>?_;have hx1:=hx.sZ f1 hp1 n1;have fF:Fr (pb::mb::(F1++F2)) w w1:=f1.mono λb hb _=>by simp[hb]
 have nF:=Fj (w:=w) (pb:=pb) (mb:=mb) (F2:=F2) n1;cases hfr:M.Q0 with
 | nil=>
  have hmv:ia M kind body=((0,6),M):=(by rw[ia,iN ho,iN hb5,hfr]);rw[hfr] at hp1 hx1;refine JT rfl ?_;have hM:{ M with Q0:=(wq []).2 }=M:=(by show { M with Q0:=[] }=M;rw[<- hfr]);rw[hM] at hx1;have:=hk _ w1 (by rw[hmv];exact⟨fb,defb,mb,sl,sn,F1',F2,fs,rfl,hx1⟩) fF nF;rw[hmv] at this;exact this
 | cons n r=>
  have hmv:ia M kind body=((n,0),{ M with Q0:=r,J7:=iV n (kind,body) M.J7 }):=(by rw[ia,iN ho,iN hb5,hfr]);rw[hfr] at hp1 hx1;refine JU rfl<|gV ?_;simp only[Addr.j1];have c1:w1.heap[pb]?=_:=hx1.cell;refine jH (w:=w1.drew) (c:=.map) c1 (some mb) (xo hx.Q7) ?_;have hb1:eO (X++pb::mb::(F1'++F2)) w1.drew s body:=hb.j0 (fF.drew.mono λb hb _=>zI _ hb) (Cr nF);refine CP hb1 oK λs2 B2 w2 b2 f2 n2 _ _=>?_;have f12:Fr [] w1 w2:=((Fr.refl [] w1).drew).trans f2;have hx2:=hx1.q8 f12;refine ja (by show _=_;rw[kD hx2.cell];exact xo hx.Q7) ?_;obtain⟨o,hr,hm⟩:=H9 (v:=nd (kind,s2,body)) EN hx2.map n;refine Gz _ hr ?_;have hm':kG lK (jy w2 mb o) mb ((iV n (kind,s2,body) fs).map λe=>(e.1,nd e.2)):=(by rw[FJ nd];exact hm);have hx3:=hx2.uu hm' λe he=>by
   rcases FB he with h1|h1;exact .inl h1;subst h1;refine .inr (b2.k5 mW λb hb hb2=>?_);have l2:w1.heap.size<=b:=n2 b hb;rcases zD.1 hb2 with hb2|hb2;have:=hx1.si b hb2;omega;have:=hx1.lt b hb2;omega
  have hM:(iV n (kind,s2,body) fs).map (λe=>(e.1,e.2.1,e.2.2.2))=iV n (kind,body) M.J7:=(by rw[hx.J7];exact FJ (λx:mJ=>(x.1,x.2.2)) n (kind,s2,body) fs);rw[hM] at hx3;have f3:Fr (pb::mb::(F1++F2)) w (jy w2 mb o):=(fF.j8 f12 oM).j8 (Bg hx2.cZ o) λb hb=>by simp only[zE] at hb;subst hb;exact .inl oM
  have:=hk _ (jy w2 mb o) (by rw[hmv];exact⟨fb,defb,mb,sl,sn,F1',F2,_,rfl,hx3⟩) f3 nF;rw[hmv] at this;exact this
end
end
section
def qr.cM{M:eZ}{u:List (Int×mJ)}(h:qr w X pb db M fb defb mb sl sn F1 F2 u)(n:Int):look n M.J7=(look n u).map λq=>(q.1,q.2.1,q.2.2.2):=by rw[h.J7,Bj λx:mJ=>(x.1,x.2.2)]
section
variable {w:Kv} {X:KD} {pb:Nat} {db:Option Addr} {F:KD} {M:eZ}
def kB (M:eZ) (n kind:Int) (body:KE):Int×eZ:=
 if M.Q2 then (7,M) else match look n M.J7 with
 | none=>(10,M)
 | some _=>if body.length>500 then (3,M) else (0,{ M with J7:=iV n (kind,body) M.J7 })
def qAB{kind:Int}(h:gd w X pb db F M)(E:eO (X++F) w s body)(hl:body.length<=100000)(hk:∀w',gd w' X pb db F (kB M n kind body).2->Fr F w w'->K (kB M n kind body).1 w'): cW 184 [dQ pb,.u n,.b kind,s.v] dq w K:=by
 have h0:=h;obtain⟨fb,defb,mb,sl,sn,F1,F2,fs,rfl,G⟩:=h;have an:=E.1;refine qlv ?_;have I:∀ {e:Int} {w':Kv},kB M n kind body=(e,M)->Fr [] w w'->K e w':=by
  intro e w' he hf;have:=hk w' (by rw[he];exact h0.q8 hf) (hf.mono λb E=>by cases E);rw[he] at this;exact this
 have J:=G.cM n;refine gV (jH G.cell M.Q2 (DO G.Q7) ?_);refine eV (λR=>I (by rw[kB,iP R]) (.refl _ _)) λR=>?_;have ho:¬M.Q2=true:=(by rw[R];decide);refine gV ?_;simp only[Addr.j1];refine jH G.cell (some mb) (xo G.Q7)<|GC G.map.at (λq hq=>?_) λhq=>?_;rw[hq] at J;refine oB (oF [] w) λr w1 e1 f1 C=>oI C 0 rfl _ rfl rfl rfl λw2 C _=>JU rfl ?_;apply cD<;>intro R
 have:=R;exact I (by rw[kB,iN ho,J];dsimp only [Option.map_some];rw[iP]) C.fr;have aj:¬body.length>500:=oK;have V:kB M n kind body=(0,{ M with J7:=iV n (kind,body) M.J7 }):=(by rw[kB,iN ho,J];dsimp only [Option.map_some];rw[iN aj]);have U:=G.q8 C.drew.fr;refine gV<|jH (w:=w2.drew) (c:=.map) U.cell (some mb) (xo G.Q7)<|CP (E.q8 C.drew.fr) oK λs2 B2 w3 b2 f2 n2 _ _=>?_;have aa:Fr [] w w3:=C.drew.fr.trans f2;have Q:=G.q8 aa;refine ja (by show _=_;simp only[Addr.j1];rw[kD Q.cell];exact xo G.Q7) ?_;obtain⟨o,hr,hm⟩:=H9 (v:=nd (kind,s2,body)) EN Q.map n;refine Gz _ hr ?_;have ak:kG lK (jy w3 mb o) mb ((iV n (kind,s2,body) fs).map λe=>(e.1,nd e.2)):=(by rw[FJ nd];exact hm);have ab:=Q.uu ak λe he=>by rcases FB he with h1|h1;exact .inl h1;subst h1;refine .inr (b2.k5 mW λb E O=>?_);have l2:w2.drew.heap.size<=b:=n2 b E;rcases zD.1 O with O|O;have:b<w2.heap.size:=U.si b O;have:w2.drew.heap.size=w2.heap.size:=rfl;omega;have:b<w2.heap.size:=U.lt b O;have:w2.drew.heap.size=w2.heap.size:=rfl;omega
 have hM:(iV n (kind,s2,body) fs).map (λe=>(e.1,e.2.1,e.2.2.2))=iV n (kind,body) M.J7:=(by rw[G.J7];exact FJ (λx:mJ=>(x.1,x.2.2)) n (kind,s2,body) fs);rw[hM] at ab;have f4:Fr (pb::mb::(F1++F2)) w (jy w3 mb o):=(aa.mono (T:=pb::mb::(F1++F2)) λb E=>by cases E).j8 (Bg Q.cZ o) λb E=>by simp only[zE] at E;subst E;exact .inl oM
 have:=hk (jy w3 mb o) (by rw[V];exact⟨fb,defb,mb,sl,sn,F1,F2,_,rfl,ab⟩) f4;rw[V] at this;exact this;rw[hq] at J;exact oB (oF [] w) λr w1 e1 f1 C=>oI C 0 rfl _ rfl rfl rfl λw2 C _=>JT rfl<|I (by rw[kB,iN ho,J];rfl) C.fr
def fX (M:eZ) (n:Int):Int×eZ:=
 if M.Q2 then (7,M) else match look n M.J7 with
 | some _=>(0,{ M with J7:=kL n M.J7,Q0:=ins n M.Q0 })
 | none=>if iy M n then (0,{ M with J6:=ins n M.J6 }) else (10,M)
def qy0(h:gd w X pb db F M)(hl:M.Q4.length<=1000000)(hf:M.Q0.length<=1000000)(hd:M.J6.length<=1000000)(hk:∀F' w',gd w' X pb db F' (fX M n).2->Fr F w w'->(∀b∈F',b∈F\/w.heap.size<=b)->K (fX M n).1 w'): cW 186 [dQ pb,.u n] dq w K:=by
 have h0:=h;obtain⟨fb,defb,mb,sl,sn,F1,F2,fs,rfl,I⟩:=h;refine qkv ?_;have U:∀ {e:Int} {w':Kv},fX M n=(e,M)->Fr [] w w'->K e w':=by
  intro e w' he hf;have:=hk _ w' (by rw[he];exact h0.q8 hf) (hf.mono λb E=>by cases E) (λb E=>.inl E);rw[he] at this;exact this
 have J:=I.cM n;refine gV (jH I.cell M.Q2 (DO I.Q7) ?_);refine eV (λV=>U (by rw[fX,iP V]) (.refl _ _)) λV=>?_;have ho:¬M.Q2=true:=(by rw[V];decide);refine gV ?_;simp only[Addr.j1];refine jH I.cell (some mb) (xo I.Q7)<|GC I.map.at (λq hq=>?_) λhq=>?_;rw[hq] at J;refine oB (oF [] w) λr w1 e1 f1 C=>oI C 0 rfl _ rfl rfl rfl λw2 C _=>JT rfl ?_;have O:fX M n=(0,{ M with J7:=kL n M.J7,Q0:=ins n M.Q0 }):=(by rw[fX,iN ho,J];rfl);have Q:=I.q8 C.fr;refine gV<|jH Q.cell (some mb) (xo I.Q7) ?_;obtain⟨o,hr,hm⟩:=kG.del (ty:=0) EN zq Q.map n;refine qyH (ts:=[]) () _ hr ?_;have ao:kG lK (jy w2 mb o) mb ((kL n fs).map λe=>(e.1,nd e.2)):=by
  rw[qsC nd];rw[CL] at hm;unfold kL;cases hl:look n (fs.map λe=>(e.1,nd e.2)) with
  | none=>rw[hl] at hm;exact hm
  | some q=>rw[hl] at hm;exact hm
 have G:=Q.uu ao λe he=>.inl (qs8 he);have hM:(kL n fs).map (λe=>(e.1,e.2.1,e.2.2.2))=kL n M.J7:=by rw[I.J7];exact qsC (λx:mJ=>(x.1,x.2.2)) n fs
 rw[hM] at G;have f3:Fr (pb::mb::(F1++F2)) w (jy w2 mb o):=(C.fr.mono (T:=pb::mb::(F1++F2)) λb E=>by cases E).j8 (Bg Q.cZ o) λb E=>by simp only[zE] at E;subst E;exact .inl oM
 refine gV (jH G.cell (pW fb) (Em I.Q7) ?_);refine Ig G.Q0 hf λaq w4 aa f4 n4=>?_;have ab:=G.sZ f4 aa n4;have hs:w.heap.size<=(jy w2 mb o).heap.size:=by rw[wO];exact C.fr.size
 have:=hk _ w4 (by rw[O];exact⟨fb,defb,mb,sl,sn,aq,F2,_,rfl,ab⟩) (f3.j8 f4 λb E=>.inl (by simp[E])) λb E=>by rcases Fj n4 b E with h1|h1;exact .inl h1;exact .inr (zL hs h1)
 rw[O] at this;exact this;rw[hq] at J;refine oB (oF [] w) λr w1 e1 f1 C=>oI C 0 rfl _ rfl rfl rfl λw2 C _=>JU rfl<|qsl (h0.q8 C.fr) hl λw3 f3=>?_;have R:=C.fr.trans f3;apply eV<;>intro V;have hu:iy M n=false:=(oQ V);exact U (by rw[fX,iN ho,J];show (if iy M n then _ else _)=_;rw[hu];rfl) R;have hu:iy M n=true:=(oQ V);have O:fX M n=(0,{ M with J6:=ins n M.J6 }):=by rw[fX,iN ho,J];show (if iy M n then _ else _)=_;rw[hu];rfl
 have G:=I.q8 R;refine gV (jH G.cell (pW defb) (qyj I.Q7) ?_);refine Ig G.J6 hd λav w4 aa f4 n4=>?_;have ab:=G.A3 f4 aa n4;have:=hk _ w4 (by rw[O];exact⟨fb,defb,mb,sl,sn,F1,av,_,rfl,ab⟩) ((R.mono (T:=pb::mb::(F1++F2)) λb E=>by cases E).j8 f4 λb E=>.inl (by simp[E])) λb E=>by rcases G9 n4 b E with h1|h1;exact .inl h1;exact .inr (zL R.size h1)
 rw[O] at this;exact this
end
end
def left (es:Array MapEntry) (seen:Array Nat):List MapEntry:=es.toList.filter λe=>!seen.toList.contains e.born
end
end Go.Proofs.YtfneoijhmknlnaaGreatDoor
