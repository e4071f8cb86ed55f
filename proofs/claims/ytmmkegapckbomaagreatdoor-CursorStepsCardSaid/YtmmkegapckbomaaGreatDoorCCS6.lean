/- Texts FormsU, RfD, RfE, CuI, CuJ, CuK, HiB, TrL, CuA, CuB, CuL, LwA, CuM, CuN: contracts of the program's functions, one behind the other. Conditions: those that stand in each line. -/
import Derived.Test.YtmmkegapckbomaaGreatDoorCCS1
import Derived.Test.YtmmkegapckbomaaGreatDoorProg
import Derived.KernelRfl
import Derived.Test.YtmmkegapckbomaaGreatDoorCCS5
import Derived.Test.YtmmkegapckbomaaGreatDoorCCS3
set_option linter.unusedVariables false
set_option linter.unusedSimpArgs false
section
set_option maxRecDepth 100000
namespace Go.Proofs.YtmmkegapckbomaaGreatDoor
open Go Go.Pt
@[reducible] def qeQ:List Cell:=[Cell.int IntKind.i64,Cell.slice,Cell.slice,Cell.slice,Cell.slice,Cell.bool]
def qbF (a0:Int) (a1:Sl) (a2:Sl) (a3:Sl) (a4:Sl) (a5:Bool) (K:Bool->WP) (w:World):Prop:=new (Obj.cells #[.i a0,a1.v,a2.v,a3.v,a4.v,.bool a5] 49) w fun b c=>join (Bool) (fun d=>ld .slice ⟨b,1,none⟩ c fun e=>cond (decide ((↑e.len:Int)>120)) (d true c) (ld .slice ⟨b,2,none⟩ c fun f=>cond (decide ((↑f.len:Int)>120)) (d true c) (ld .slice ⟨b,3,none⟩ c fun g=>cond (decide ((↑g.len:Int)>100)) (d true c) (ld .slice ⟨b,4,none⟩ c fun h=>d (decide ((↑h.len:Int)>100)) c)))) fun (i:Bool) j=>cond i (K true j) (ld .slice ⟨b,1,none⟩ j fun k=>loop (Int) (fun l (m:Int) n=>cond (decide (m<(↑k.len:Int))) (idx k m 1 fun o=>ld .slice o n fun p=>cond (decide ((↑p.len:Int)>100)) (K true n) (l (IntKind.wrap .i64 (m+1)) n)) (K false n)) 0 j)
theorem qcS {a0 a1 a2 a3 a4 a5 w K} (hF:qbF a0 a1 a2 a3 a4 a5 K w):cW 23 [.agg #[.i a0,a1.v,a2.v,a3.v,a4.v,.bool a5]] [.one .bool] w K:=qad (an:=[.n,.n,.j [(26,.one .bool)],.n,.n,.n,.l [(30,.one .i)],.n,.n,.n,.n,.n,.n,.n]) Tryz.func23 hF
def qcr  (K:Bool->WP) (w:World):Prop:=cW 14 ([.i 30]) ([.one .ptr,.one .ptr]) w fun (b:Option Addr×Option Addr) c=>cond (Option.isNone b.snd) (K false c) (new (Obj.cells #[.b 1,.b 3,.b 5] 5) c fun d e=>loop (Int) (fun f (g:Int) h=>cond (decide (g<(↑3:Int))) (idx ({ a:=pW d,len:=3,cap:=3 }) g 1 fun i=>ld .b i h fun (j:Int)=>new (Obj.cells #[.b j] 5) h fun k l=>mkS 5 ([.b 0]) 1 1 8 8 l fun m n=>cW 17 ([.pointer b.snd,.i 7,.slice (pW k) 1 1,m.v]) ([.one .i]) n fun (o:Int) p=>cond (!o==0) (K false p) (f (IntKind.wrap .i64 (g+1)) p)) (new (Obj.cells #[.b 2] 5) h fun q r=>new (Obj.cells #[.b 5] 5) r fun s t=>cW 26 ([.pointer b.snd,.i 7,.slice (pW q) 1 1,.slice (pW s) 1 1,.bool true,.i 9]) ([.one .slice]) t fun u v=>cond ((↑u.len:Int)==2) (idx u 0 2 fun x=>ld .slice x v fun y=>runQ [.one .str] (fun z=>(convert 23 9 y.v).run Tryz.prog z) v fun (A:ByteArray)=>cond (ByteArray.toList A==ByteArray.toList { data:=#[5] }) (idx u 1 2 fun B=>ld .slice B v fun C=>runQ [.one .str] (fun D=>(convert 23 9 C.v).run Tryz.prog D) v fun (E:ByteArray)=>K (ByteArray.toList E==ByteArray.toList { data:=#[3] }) v) (K false v)) (K false v))) 0 e)
theorem qeP {w K} (hF:qcr  K w):cW 24 [] [.one .bool] w K:=qad (an:=[.n,.n,.n,.n,.n,.n,.n,.l [(14,.one .i)],.n,.n,.n,.n,.n,.n,.n,.n]) Tryz.func24 hF
def qbD (a0:Int) (a1:Sl) (a2:Sl) (a3:Sl) (a4:Sl) (a5:Bool) (K:((Option Addr)×Int×Sl)->WP) (w:World):Prop:=new (Obj.cells #[.i a0,a1.v,a2.v,a3.v,a4.v,.bool a5] 49) w fun b c=>cW 14 ([.i 400]) ([.one .ptr,.one .ptr]) c fun (d:Option Addr×Option Addr) e=>ld .i ⟨b,0,none⟩ e fun (f:Int)=>cond (Option.isNone d.snd) (K ((none,IntKind.wrap .i64 (Int.tmod (IntKind.wrap .u64 f) 8),{ a:=none,len:=0,cap:=0 })) e) (cW 15 ([.i (IntKind.wrap .i64 (Int.tmod (IntKind.wrap .u64 f) 8))]) ([.one .i,.one .i]) e fun (g:Int×Int) h=>ld .slice ⟨b,1,none⟩ h fun i=>loop (Sl×Int) (fun j (k:Sl×Int) l=>cond (decide (k.snd<(↑i.len:Int))) (idx i k.snd 1 fun m=>ld .slice m l fun n=>runQ [.one .str] (fun o=>(convert 23 9 n.v).run Tryz.prog o) l fun (p:ByteArray)=>cW 16 ([.string p,.i g.fst,.b 0]) ([.one .str]) l fun (q:ByteArray) r=>mkS 5 ([.b 0]) 1 1 g.snd g.snd r fun s t=>idx s 0 1 fun u=>st u ([.b (IntKind.wrap .u8 k.snd)]) t fun v=>run [.one .slice] ((convert 9 23 (.string q)).run Tryz.prog v) fun x y=>cW 17 ([.pointer d.snd,.i (IntKind.wrap .i64 (Int.tmod (IntKind.wrap .u64 f) 8)),x.v,s.v]) ([.one .i]) y fun (z:Int) A=>cond (!z==0) (K ((none,IntKind.wrap .i64 (Int.tmod (IntKind.wrap .u64 f) 8),{ a:=none,len:=0,cap:=0 })) A) (runQ [.one .str] (fun B=>(convert 23 9 s.v).run Tryz.prog B) A fun (C:ByteArray)=>cW 18 ([k.fst.v,.i (IntKind.wrap .i64 (Int.tmod (IntKind.wrap .u64 f) 8)),.string q,.string C]) ([.one .slice,.one .i]) A fun (D:Sl×Int) E=>j ((D.fst,IntKind.wrap .i64 (k.snd+1))) E)) (join (Sl) (fun F=>ld .slice ⟨b,2,none⟩ l fun G=>loop (Sl×Int) (fun H (I:Sl×Int) J=>cond (decide (I.snd<(↑G.len:Int))) (idx G I.snd 1 fun L=>ld .b L J fun (M:Int)=>cond ((↑I.fst.len:Int)==0) (F I.fst J) (chk ((↑I.fst.len:Int)≠0)<|idx I.fst (Int.tmod (IntKind.wrap .i64 M) (↑I.fst.len:Int)) 2 fun N=>ld .str N J fun (O:ByteArray)=>run [.one .slice] ((convert 9 23 (.string O)).run Tryz.prog J) fun P Q=>cW 21 ([.pointer d.snd,.i (IntKind.wrap .i64 (Int.tmod (IntKind.wrap .u64 f) 8)),P.v]) ([.one .i]) Q fun (R:Int) S=>cond (!R==0) (K ((none,IntKind.wrap .i64 (Int.tmod (IntKind.wrap .u64 f) 8),{ a:=none,len:=0,cap:=0 })) S) (cW 22 ([I.fst.v,.i (IntKind.wrap .i64 (Int.tmod (IntKind.wrap .u64 f) 8)),.string O]) ([.one .slice,.one .i]) S fun (T:Sl×Int) U=>H ((T.fst,IntKind.wrap .i64 (I.snd+1))) U))) (F I.fst J)) ((k.fst,0)) l) fun V W=>K ((d.snd,IntKind.wrap .i64 (Int.tmod (IntKind.wrap .u64 f) 8),V)) W)) (({ a:=none,len:=0,cap:=0 },0)) h)
theorem qcR {a0 a1 a2 a3 a4 a5 w K} (hF:qbD a0 a1 a2 a3 a4 a5 K w):cW 25 [.agg #[.i a0,a1.v,a2.v,a3.v,a4.v,.bool a5]] [.one .ptr,.one .i,.one .slice] w K:=qad (an:=[.n,.n,.n,.n,.n,.n,.n,.n,.n,.n,.l [(10,.one .slice),(38,.one .i)],.n,.n,.n,.n,.n,.n,.n,.n,.n,.n,.j [(10,.one .slice)],.n,.l [(10,.one .slice),(74,.one .i)],.n,.n,.n,.n,.n,.n,.n,.n,.n,.n,.n]) Tryz.func25 hF
def qct (l:Sl) (from_:ByteArray) (to:ByteArray) (down:Bool) (K:Sl->WP) (w:World):Prop:=new (Obj.cells #[] 44) w fun b c=>loop (Sl×Int) (fun d (e:Sl×Int) f=>cond (decide (e.snd<(↑l.len:Int))) (join (Sl) (fun g=>join (Bool) (fun h=>idx l e.snd 2 fun i=>ld .str i f fun (j:ByteArray)=>cW 34 ([.string j,.string from_]) ([.one .i]) f fun (k:Int) m=>cond (decide (k>=0)) (idx l e.snd 2 fun n=>ld .str n m fun (o:ByteArray)=>cW 34 ([.string o,.string to]) ([.one .i]) m fun (p:Int) q=>h (decide (p<=0)) q) (h false m)) fun (r:Bool) s=>cond r (idx l e.snd 2 fun t=>ldA ([.str,.str]) t s fun (u:ByteArray×ByteArray)=>new (Obj.cells #[.string u.fst,.string u.snd] 44) s fun v x=>run [.one .slice] ((Builtin.append_ (#[31,31]) 31 (#[e.fst.v,.slice (pW v) 1 1])).run Tryz.prog x) fun y z=>g y z) (g e.fst s)) fun A B=>d ((A,IntKind.wrap .i64 (e.snd+1))) B) (cond down (cW 33 ([e.fst.v]) ([.one .slice]) f fun C D=>K C D) (K e.fst f))) (({ a:=pW b,len:=0,cap:=0 },0)) c
theorem qeN {l from_ to down w K} (hF:qct l from_ to down K w):cW 30 [l.v,.string from_,.string to,.bool down] [.one .slice] w K:=qad (an:=[.n,.n,.n,.n,.l [(9,.one .slice),(10,.one .i)],.n,.n,.j [(9,.one .slice)],.j [(35,.one .bool)],.n,.n,.n,.n]) Tryz.func30 hF
def qca (l:Sl) (K:Sl->WP) (w:World):Prop:=new (Obj.cells #[] 44) w fun b c=>loop (Sl×Int) (fun d (e:Sl×Int) f=>cond (decide (e.snd>=0)) (idx l e.snd 2 fun g=>ldA ([.str,.str]) g f fun (h:ByteArray×ByteArray)=>new (Obj.cells #[.string h.fst,.string h.snd] 44) f fun i j=>run [.one .slice] ((Builtin.append_ (#[31,31]) 31 (#[e.fst.v,.slice (pW i) 1 1])).run Tryz.prog j) fun k m=>d ((k,IntKind.wrap .i64 (e.snd-1))) m) (K e.fst f)) (({ a:=pW b,len:=0,cap:=0 },IntKind.wrap .i64 ((↑l.len:Int)-1))) c
theorem qec {l w K} (hF:qca l K w):cW 33 [l.v] [.one .slice] w K:=qad (an:=[.n,.n,.n,.n,.l [(3,.one .slice),(4,.one .i)],.n,.n,.n,.n]) Tryz.func33 hF
def qbE (a0:Int) (a1:Sl) (a2:Sl) (a3:Sl) (a4:Sl) (a5:Bool) (by_:Int) (K:Bool->WP) (w:World):Prop:=new (Obj.cells #[.i a0,a1.v,a2.v,a3.v,a4.v,.bool a5] 49) w fun b c=>ldA (qeQ) ⟨b,0,none⟩ c fun (d:Int×Sl×Sl×Sl×Sl×Bool)=>cW 23 ([.agg (List.toArray (HL.mk qeQ d))]) ([.one .bool]) c fun (e:Bool) f=>cond e (cW 24 [] ([.one .bool]) f fun (g:Bool) h=>K g h) (ldA (qeQ) ⟨b,0,none⟩ f fun (i:Int×Sl×Sl×Sl×Sl×Bool)=>cW 25 ([.agg (List.toArray (HL.mk qeQ i))]) ([.one .ptr,.one .i,.one .slice]) f fun (j:Option Addr×Int×Sl) k=>cond (Option.isNone j.fst) (K false k) (ld .slice ⟨b,3,none⟩ k fun l=>ld .slice ⟨b,4,none⟩ k fun m=>ld .bool ⟨b,5,none⟩ k fun (n:Bool)=>cW 31 ([.pointer j.fst,.i j.snd.fst,l.v,m.v,.bool n]) ([.one .ptr]) k fun o p=>cond (Option.isNone o) (K false p) (ld .slice ⟨b,3,none⟩ p fun q=>runQ [.one .str] (fun r=>(convert 23 9 q.v).run Tryz.prog r) p fun (s:ByteArray)=>ld .slice ⟨b,4,none⟩ p fun t=>runQ [.one .str] (fun u=>(convert 23 9 t.v).run Tryz.prog u) p fun (v:ByteArray)=>ld .bool ⟨b,5,none⟩ p fun (x:Bool)=>cW 30 ([j.snd.snd.v,.string s,.string v,.bool x]) ([.one .slice]) p fun y z=>loop (Int) (fun A (B:Int) C=>cond (decide (B<(↑y.len:Int))) (idx y B 2 fun D=>ldA ([.str,.str]) D C fun (E:ByteArray×ByteArray)=>new (Obj.cells #[.string { data:=#[] },.string { data:=#[] }] 44) C fun F G=>st ⟨F,0,none⟩ ([.string E.fst,.string E.snd]) G fun H=>cW 32 ([.pointer o]) ([.agg [.slice,.slice],.one .bool]) H fun (I:(Sl×Sl)×Bool) J=>new (Obj.cells #[.slice none 0 0,.slice none 0 0] 62) J fun L M=>st ⟨L,0,none⟩ ([I.fst.fst.v,I.fst.snd.v]) M fun N=>join (Bool) (fun O=>cond (!I.snd) (O true N) (ld .slice ⟨L,0,none⟩ N fun P=>runQ [.one .str] (fun Q=>(convert 23 9 P.v).run Tryz.prog Q) N fun (R:ByteArray)=>ld .str ⟨F,0,none⟩ N fun (S:ByteArray)=>cond (!ByteArray.toList R==ByteArray.toList S) (O true N) (ld .slice ⟨L,1,none⟩ N fun T=>runQ [.one .str] (fun U=>(convert 23 9 T.v).run Tryz.prog U) N fun (V:ByteArray)=>ld .str ⟨F,1,none⟩ N fun (W:ByteArray)=>O (!ByteArray.toList V==ByteArray.toList W) N))) fun (X:Bool) Y=>cond X (K false Y) (ld .slice ⟨L,0,none⟩ Y fun Z=>loop (Int) (fun aa (ab:Int) ac=>cond (decide (ab<(↑Z.len:Int))) (ld .slice ⟨L,0,none⟩ ac fun ad=>idx ad ab 1 fun ae=>ld .b ae ac fun (af:Int)=>idx ad ab 1 fun ag=>st ag ([.b (IntKind.wrap .u8 (af+by_))]) ac fun ah=>aa (IntKind.wrap .i64 (ab+1)) ah) (ld .slice ⟨L,1,none⟩ ac fun ai=>loop (Int) (fun aj (ak:Int) al=>cond (decide (ak<(↑ai.len:Int))) (ld .slice ⟨L,1,none⟩ al fun am=>idx am ak 1 fun an=>ld .b an al fun (ao:Int)=>idx am ak 1 fun ap=>st ap ([.b (IntKind.wrap .u8 (ao+by_))]) al fun aq=>aj (IntKind.wrap .i64 (ak+1)) aq) (A (IntKind.wrap .i64 (B+1)) al)) 0 ac)) 0 Y)) (loop (Int) (fun ar (au:Int) av=>cond (decide (au<3)) (cW 32 ([.pointer o]) ([.agg [.slice,.slice],.one .bool]) av fun (aw:(Sl×Sl)×Bool) ax=>new (Obj.cells #[.slice none 0 0,.slice none 0 0] 62) ax fun ay az=>st ⟨ay,0,none⟩ ([aw.fst.fst.v,aw.fst.snd.v]) az fun aA=>join (Bool) (fun aB=>cond aw.snd (aB true aA) (ld .slice ⟨ay,0,none⟩ aA fun aC=>cond (!(↑aC.len:Int)==0) (aB true aA) (ld .slice ⟨ay,1,none⟩ aA fun aD=>aB (!(↑aD.len:Int)==0) aA))) fun (aE:Bool) aF=>cond aE (K false aF) (ar (IntKind.wrap .i64 (au+1)) aF)) (cW 24 [] ([.one .bool]) av fun (aG:Bool) aH=>K aG aH)) 0 C)) 0 z)))
theorem qcT {a0 a1 a2 a3 a4 a5 by_ w K} (hF:qbE a0 a1 a2 a3 a4 a5 by_ K w):cW 5 [.agg #[.i a0,a1.v,a2.v,a3.v,a4.v,.bool a5],.b by_] [.one .bool] w K:=qad (an:=[.n,.n,.n,.n,.n,.n,.n,.n,.n,.n,.n,.n,.n,.n,.l [(50,.one .i)],.n,.n,.n,.n,.n,.n,.j [(76,.one .bool)],.n,.n,.n,.l [(80,.one .i)],.n,.n,.n,.n,.n,.l [(95,.one .i)],.n,.n,.n,.n,.n,.n,.l [(108,.one .i)],.n,.n,.n,.n,.j [(127,.one .bool)],.n,.n]) Tryz.func5 hF
end Go.Proofs.YtmmkegapckbomaaGreatDoor
end
section
namespace Go.Proofs.YtmmkegapckbomaaGreatDoor
open Go Go.Pt List
open Classical
attribute [local irreducible] ld ldA ldV fld fldA newZ st new idx idxS idxA slc slcS slcP mkS chk nn call callV inv run runQ runU join loop held ext rng undefer s2a nxt ent IntKind.wrap
theorem qpp {w:World} {S:List Nat} {s:Sl} {L:Prs} {K:Sl->WP} (h:Rds encPr 2 S w s L) (hL:L.length<=100000)
  (U:∀ Q B' w',Buf encPr 2 w' Q L.reverse B'->Fr [] w w'->(∀ b∈B',w.heap.size<=b)->K Q w') :
  cW 33 [s.v] [.one .slice] w K:=by
 refine qec ?_
 unfold qca
 have A:s.len=L.length:=h.1
 refine Own.new' (Own.start [] w) fun r V e1 f1 I=>?_
 have J:Buf encPr 2 V ⟨pW r,0,0⟩ [] [r]:=Buf.none (I.at (i:=0) rfl)
 refine qaj (fun q w'=>∃ i:Nat,∃ B,q.2=(i:Int)-1/\i<=L.length/\Buf encPr 2 w' q.1 (L.drop i).reverse B/\Fr [] w w'/\(∀ b∈B,w.heap.size<=b)) (fun q _=>(q.2+1).toNat) ⟨L.length,[r],by show IntKind.wrap .i64 _=_; rw [wi' _ (by omega),A],zM _,by rw [drop_length]; exact J,f1,fun b u=>by rw [zE.1 u]; omega⟩ ?_
 rintro ⟨s1,y⟩ w2 ⟨i,B,R,hi,u,G,O⟩ X hX
 dsimp only at R u ⊢
 subst R
 refine qaa (fun C=>?_) (fun C=>?_)
 ·have C:=zC C
  obtain ⟨i,rfl⟩:∃ j,i=j+1:=⟨i-1,by omega⟩
  have E:i<L.length:=by omega
  have e0:((i+1:Nat):Int)-1=(i:Int):=by omega
  refine Rds.getA (x:=L[i]) (y:=(strL L[i].1,strL L[i].2)) (h.frame0 G) i e0 (zA E) rfl rfl ?_
  refine qe6 (x:=L[i]) u rfl rfl (by rw [length_reverse,yB]; omega) fun s5 B5 w5 b5 f5 n5=>?_
  refine hX _ _ ⟨i,B5,?_,by omega,?_,G.trans' f5 (fun b u=>.inr (O b u)),fun b u=>?_⟩ ?_
  ·show IntKind.wrap .i64 _=_
   rw [wi' _ (by omega)]; omega
  ·rw [zX E,reverse_cons]
   exact b5
  ·rcases n5 b u with h | h
   ·exact O b h
   ·exact zL G.size h
  ·show (IntKind.wrap .i64 _+1).toNat<_
   rw [wi' _ (by omega)]; dsimp only; omega
 ·have C:=zB C
  have:i=0:=by omega
  subst this
  exact U s1 B w2 u G O
def inR (frm to:Key) (x:Key×Key):Bool:=decide (cmpL x.1 frm>=0)&&decide (cmpL x.1 to<=0)
def rangeP (frm to:Key) (L:Prs):Prs:=L.filter (inR frm to)
theorem qnW {frm to:Key} {L:Prs} {i:Nat} (h:i<L.length):rangeP frm to (L.take (i+1))=rangeP frm to (L.take i)++if inR frm to L[i] then [L[i]] else []:=by
 unfold rangeP
 rw [yF h,xB]
 congr 1
 cases e:inR frm to L[i] <;> simp [e]
theorem qqe {w:World} {S:List Nat} {s:Sl} {L:Prs} {frm to:Key} {down:Bool} {K:Sl->WP} (h:Rds encPr 2 S w s L) (hP:PrB L) (hL:L.length<=100000) (hf:IsB frm) (ht:IsB to) (lf:frm.length<=1000000) (lt:to.length<=1000000)
  (kk:∀ Q B' w',Buf encPr 2 w' Q (if down then (rangeP frm to L).reverse else rangeP frm to L) B'->Fr [] w w'->(∀ b∈B',w.heap.size<=b)->K Q w') :
  cW 30 [s.v,.string (strL frm),.string (strL to),.bool down] [.one .slice] w K:=by
 refine qeN ?_
 unfold qct
 have ac:s.len=L.length:=h.1
 refine Own.new' (Own.start [] w) fun r w1 e1 f1 U=>?_
 have V:Buf encPr 2 w1 ⟨pW r,0,0⟩ [] [r]:=Buf.none (U.at (i:=0) rfl)
 refine qaj (fun q w'=>∃ i:Nat,∃ B,q.2=i/\i<=L.length/\Buf encPr 2 w' q.1 (rangeP frm to (L.take i)) B/\Fr [] w w'/\(∀ b∈B,w.heap.size<=b)) (fun q _=>L.length-q.2.toNat) ⟨0,[r],rfl,yW _,V,f1,fun b u=>by rw [zE.1 u]; omega⟩ ?_
 rintro ⟨s1,y⟩ w2 ⟨i,B,hy,hi,u,I,R⟩ X hX
 dsimp only at hy u ⊢
 subst hy
 refine qaa (fun J=>?_) (fun J=>?_)
 ·have J:=zC J
  have A:i<L.length:=by omega
  obtain ⟨p1,p2,p3,p4⟩:=hP L[i] (zW A)
  refine qag (fun q w'=>∃ B',Buf encPr 2 w' q (rangeP frm to (L.take (i+1))) B'/\Fr [] w w'/\∀ b∈B',w.heap.size<=b) ?_ ?_
  ·refine qag (fun b w'=>b=inR frm to L[i]/\Fr [] w2 w') ?_ ?_
   ·refine Rds.str1 (h.frame0 I) i rfl A ?_
    refine qkN p1 hf p3 lf fun w3 C=>?_
    refine qaa (fun E=>?_) (fun E=>?_)
    ·refine Rds.str1 (h.frame0 (I.trans C)) i rfl A ?_
     refine qkN p1 ht p3 lt fun w4 f4=>?_
     exact ⟨by unfold inR; rw [E,Bool.true_and],C.trans f4⟩
    ·exact ⟨by unfold inR; rw [E,Bool.false_and],C⟩
   rintro b w3 ⟨rfl,C⟩
   have G:=I.trans C
   rw [qnW A]
   refine qaa (fun E=>?_) (fun E=>?_)
   ·refine Rds.getA (x:=L[i]) (y:=(strL L[i].1,strL L[i].2)) (h.frame0 G) i rfl (zA A) rfl rfl ?_
    have O:(rangeP frm to (L.take i)).length<=1000000:=by
     have E:(rangeP frm to (L.take i)).length<=(L.take i).length:=length_filter_le _ _
     rw [yK] at E
     omega
    refine qe6 (x:=L[i]) (u.frame0 C) rfl rfl O fun s5 B5 w5 b5 f5 n5=>?_
    refine ⟨B5,by rw [if_pos E]; exact b5,G.trans' f5 (fun b u=>.inr (R b u)),fun b u=>?_⟩
    rcases n5 b u with h | h
    ·exact R b h
    ·exact zL G.size h
   ·exact ⟨B,by rw [if_neg (by rw [E]; decide),xG]; exact u.frame0 C,G,R⟩
  ·rintro q w3 ⟨B3,b3,C,n3⟩
   refine hX _ _ ⟨i+1,B3,?_,A,b3,C,n3⟩ ?_
   ·show IntKind.wrap .i64 _=_
    rw [wi' _ (by omega)]; rfl
   ·show L.length-(IntKind.wrap .i64 _).toNat<_
    rw [wi' _ (by omega)]; show _<L.length-((i:Int)).toNat; omega
 ·have J:=zB J
  have aa:i=L.length:=by omega
  subst aa
  rw [xZ] at u
  cases down with
  | false=>exact kk s1 B w2 u I R
  | true=>
   have O:(rangeP frm to L).length<=L.length:=length_filter_le _ _
   refine cond_true rfl ?_
   refine qpp (S:=[]) (u.rds qbN fun b _=>by simp) (by omega) fun Q B' w' b' f' n'=>?_
   exact kk Q B' w' b' (I.trans f') fun b u=>zL I.size (n' b u)
section
def rangeD (down:Bool) (frm to:Key) (L:Prs):Prs:=if down then (rangeP frm to L).reverse else rangeP frm to L
theorem qsN {frm to:Key} {L:Prs} (E:SortP L):(fromP frm L).takeWhile (fun x=>!overV false frm to x.1)=rangeP frm to L:=by
 unfold fromP
 rw [qdO]
 ·rw [filter_filter]
  unfold rangeP
  congr 1
  funext x
  unfold inR overV KLt
  have:=qdH x.1 to
  by_cases A:cmpL x.1 frm<0 <;> by_cases u:cmpL x.1 to>0 <;> simp [A,u] <;> omega
 ·refine ((pairwise_map.1 E).filter _).imp ?_
  intro a b C h
  unfold overV at h ⊢
  simp only [Bool.false_eq_true,if_false,zT,decide_eq_false_iff_not] at h ⊢
  intro G
  have A:KLt to a.1:=by unfold KLt; rw [qbm]; omega
  have u:=qat A C
  unfold KLt at u
  rw [qbm] at u
  omega
theorem qpR {frm to:Key} {L:Prs} (A:SortP L):(toP to L).reverse.takeWhile (fun x=>!overV true frm to x.1)=(rangeP frm to L).reverse:=by
 unfold toP
 rw [qdO]
 ·rw [filter_reverse,filter_filter]
  unfold rangeP
  congr 2
  funext x
  have e:KLt to x.1↔cmpL x.1 to>0:=by unfold KLt; rw [qbm to x.1]; omega
  have C:decide (cmpL x.1 frm>=0) = !decide (cmpL x.1 frm<0):=by rw [<- decide_not]; exact decide_eq_decide.2 (by omega)
  have E:decide (¬ KLt to x.1)=decide (cmpL x.1 to<=0):=decide_eq_decide.2 (by rw [e]; omega)
  unfold inR overV
  simp only [if_true]
  rw [C,E]
 ·rw [pairwise_reverse]
  refine ((pairwise_map.1 A).filter _).imp ?_
  intro a b u h
  unfold overV at h ⊢
  simp only [if_true,zT,decide_eq_false_iff_not] at h ⊢
  intro G
  exact h (qat u G)
section
variable {dbk pb:Nat} {FD F:List Nat} {D:DiskM} {M:PgM} {k v:Nat} {frm to:Key} {down:Bool} {w0 w wA:World} {cb:Nat} {Y SB:List Nat} {st:Sl} {zs:List FrZ}
theorem BufB.rdb {S:List Nat} {w:World} {s:Sl} {l:List Int} {B:List Nat} (h:BufB w s l B) (u:∀ b∈B,b∉S):RdB S w s l:=h.rds qas u
theorem qmN {S:List Nat} {t:Int} {sf sto:Sl} {L:Prs} {P:List Int} {K:Option Addr->WP} (hT:TW dbk pb FD D 5000 w Y F M) (hs:shp t=((k:Int),(v:Int))) (hL:(k=0/\L=[])\/(k≠0/\TreeIs D M k v t L P)) (hLl:L.length<=90000) (hf:RdB S w sf frm) (ht:RdB S w sto to) (hfl:frm.length<=1000000) (htl:to.length<=1000000) (hfB:IsB frm) (htB:IsB to)
  (kk:∀ cb w' st SB zs,CurE dbk pb FD D F M k v frm to down w cb Y w' st SB zs->Left D M k v frm to down 1 (zs.map (·.2)) (rangeD down frm to L)->Fr [] w w'->K (pW cb) w') :
  cW 31 [.pointer (pW pb),.i t,sf.v,sto.v,.bool down] [.one .ptr] w K:=by
 refine qkp (p:=pW pb) (t:=t) (from_:=sf) (to:=sto) (down:=down) ?_
 unfold qgs
 refine qnk ?_
 rw [hs]
 refine qa8 hf hfl fun s1 B1 w1 b1 f1 n1 _ _=>?_
 refine qa8 (ht.frame0 f1) htl fun s2 B2 w2 b2 f2 n2 _ _=>?_
 refine Own.new' (Own.start [] w2) fun cb w3 e3 f3 h=>?_
 have hnf:(#[.pointer (pW pb),.i (k:Int),.i (v:Int),s1.v,s2.v,.slice none 0 0,.nilFunc,.nilFunc,.nilFunc]:Array Value)=(CuX.cells ⟨pb,k,v,s1,s2,⟨none,0,0⟩,.nilFunc,.nilFunc,.nilFunc⟩):=rfl
 refine Own.sz h 0 rfl (CuX.cells ⟨pb,k,v,s1,s2,⟨none,0,0⟩,dir1 cb false,.nilFunc,.nilFunc⟩) fun w4 h f4=>?_
 refine Own.sz h 0 rfl (CuX.cells ⟨pb,k,v,s1,s2,⟨none,0,0⟩,dir1 cb false,dir2 cb false,.nilFunc⟩) fun w5 h f5=>?_
 refine Own.sz h 0 rfl (CuX.cells ⟨pb,k,v,s1,s2,⟨none,0,0⟩,dir1 cb false,dir2 cb false,dir3 cb false⟩) fun w6 h f6=>?_
 refine qag (fun _ w'=>∃ T,Own [] w2 w' [(cb,.cells (CuX.cells ⟨pb,k,v,s1,s2,⟨none,0,0⟩,dir1 cb down,dir2 cb down,dir3 cb down⟩) T (0,0))]) ?_ ?_
 ·cases down with
  | false=>exact cond_false rfl ⟨_,h⟩
  | true=>
   refine cond_true rfl ?_
   refine Own.sz h 0 rfl (CuX.cells ⟨pb,k,v,s1,s2,⟨none,0,0⟩,dir1 cb true,dir2 cb false,dir3 cb false⟩) fun w7 h f7=>?_
   refine Own.sz h 0 rfl (CuX.cells ⟨pb,k,v,s1,s2,⟨none,0,0⟩,dir1 cb true,dir2 cb true,dir3 cb false⟩) fun w8 h f8=>?_
   refine Own.sz h 0 rfl (CuX.cells ⟨pb,k,v,s1,s2,⟨none,0,0⟩,dir1 cb true,dir2 cb true,dir3 cb true⟩) fun w9 h f9=>?_
   exact ⟨_,h⟩
 rintro _ w7 ⟨T,h⟩
 have f07:Fr [] w w7:=(f1.trans f2).trans h.fr
 have hcl:=qac (h.at (i:=0) rfl)
 dsimp only at hcl
 have hz1:=f1.size
 have hz2:=f2.size
 have hT7:=hT.frame0 f07
 have hylt:=hT.ylt
 have hcw:w.heap.size<=cb:=by omega
 have hC:CurE dbk pb FD D F M k v frm to down w cb Y w7 ⟨none,0,0⟩ [] []:=by
  refine ⟨⟨s1,s2,⟨T,h.at (i:=0) rfl⟩,BufB.rdb ((b1.frame0 f2).frame0 h.fr) (fun b hb hm=>?_),BufB.rdb (b2.frame0 h.fr) (fun b hb hm=>?_)⟩,?_,.nil _ _ _,(fun z hz=>nomatch hz),(fun h=>nomatch h),(fun hm=>?_),(fun b hb=>nomatch hb),(fun b hb=>?_),hfB,htB,yW _⟩
  ·have:=b1.lt b hb; have:=n1 b hb
   rcases zG.1 hm with rfl | hm
   ·omega
   ·have:=hylt b (by simpa using hm); omega
  ·have:=b2.lt b hb; have:=n2 b hb
   rcases zG.1 hm with rfl | hm
   ·omega
   ·have:=hylt b (by simpa using hm); omega
  ·exact hT.addY (B:=[cb]) (f07.mono fun _ h=>nomatch h) fun b hb=>by rw [zE.1 hb]; exact ⟨hcw,hcl⟩
  ·have:=hylt cb hm; omega
  ·rw [zE.1 hb]; exact hcw
 refine qag (fun _ w'=>∃ st SB zs,CurE dbk pb FD D F M k v frm to down w cb Y w' st SB zs/\Left D M k v frm to down 1 (zs.map (·.2)) (rangeD down frm to L)/\Fr [] w w') ?_ ?_
 ·refine TW.root hT7 fun w8 f8=>?_
  have hC8:=hC.frame0 f8
  refine qag (fun q w'=>q=decide (0<k/\(rootM M t).1≠0)/\w'=w8) ?_ ?_
  ·refine qaa (fun h=>⟨?_,rfl⟩) (fun h=>⟨?_,rfl⟩)
   ·have h:=zC h
    rw [Bool.eq_iff_iff,yM,zT,zR]
    exact ⟨fun g=>⟨by omega,g⟩,fun g=>g.2⟩
   ·have h:=zB h
    exact (zU fun g=>h (by omega)).symm
  rintro q w9 ⟨rfl,rfl⟩
  have h0:L=[]->Left D M k v frm to down 1 ([]:List CFr) (rangeD down frm to L):=fun e=>.inl ⟨rfl,by rw [e]; unfold rangeD rangeP; simp⟩
  refine qaa (fun hq=>?_) (fun hq=>?_)
  ·obtain ⟨hk,hr⟩:=zC hq
   obtain ⟨_,hTr⟩:k≠0/\TreeIs D M k v t L P:=hL.resolve_left fun h=>by omega
   have hrh:=(qbc hTr).1
   rcases hTr with ⟨e,_,_⟩ | ⟨hh,n,p,hp,e,hHas⟩
   ·rw [e] at hr
    exact absurd rfl hr
   ·have hrh2:hh+1<=L.length:=by
     rw [e] at hrh
     exact hrh
    have hpu:U32 p:=by
     have:=(qfX hT.wf t).1
     rw [e] at this
     exact this
    rw [e]
    refine ql5 (s:=⟨p,n,L,P⟩) hHas hpu hC8 (by show 0+hh+1<=100000; omega) fun w10 st10 SB10 zs10 hC10 hp10 f10 n10=>?_
    refine ⟨st10,SB10,zs10,hC10,?_,(f07.trans f8).trans' f10 fun b hb=>.inr ?_⟩
    ·obtain ⟨fs,e1,e2⟩:=qpZ (frm:=frm) (to:=to) (down:=down) hHas
     rw [hp10] at e1
     have e1:=yN e1
     rw [e1]
     refine .inr ⟨hh,_,e2,?_,fun e=>absurd e (by decide)⟩
     have hso:=hHas.sort
     unfold rangeD
     cases down with
     | false=>exact (qsN hso).symm
     | true=>exact (qpR hso).symm
    ·rw [zE.1 hb]; exact hcw
  ·have hq:=zB hq
   have hLn:L=[]:=by
    rcases hL with h | ⟨hk,hTr⟩
    ·exact h.2
    ·rcases hTr with ⟨_,h,_⟩ | ⟨hh,n,p,hp,e,hHas⟩
     ·exact h
     ·exact absurd ⟨by omega,by rw [e]; exact hp⟩ hq
   exact ⟨⟨none,0,0⟩,[],[],hC8,h0 hLn,f07.trans f8⟩
 rintro _ w8 ⟨st8,SB8,zs8,hC8,hL8,f8⟩
 exact kk cb w8 st8 SB8 zs8 hC8 hL8 f8
end
end
section
abbrev SS:=Sl×Sl
def encSS (x:SS):List Value:=[x.1.v,x.2.v]
theorem qli:∀ z,(encSS z).length=2:=fun _=>rfl
theorem qrk (z:SS):∀ u∈encSS z,u.oneCell'=true:=fun u h=>by
 unfold encSS at h
 simp only [zG,xX,or_false] at h
 rcases h with rfl | rfl <;> rfl
theorem qt6:∃ i,Tryz.prog.info? CPT=some i/\i.zero=some (.agg #[.slice none 0 0,.slice none 0 0])/\i.size=2/\i.bytes=48:=qcQ (by kernel_rfl)
theorem qt8 {w:World} {s:Sl} {zs:List SS} {SB:List Nat} {x:SS} {K:Sl->WP} (h:Buf encSS 2 w s zs SB) (O:zs.length<=1000000) (E:∀ C B' w',Buf encSS 2 w' C (zs++[x]) B'->Fr SB w w'->(∀ b∈B',b∈SB\/w.heap.size<=b)->K C w') :
  Pt.new (.cells (prV x.1 x.2) CPT) w fun r G=>Pt.run [Ty1.one Cell.slice] ((Builtin.append_ #[52,52] 52 #[s.v,.slice (pW r) 1 1]).run Tryz.prog G) K:=by
 obtain ⟨j,I,J,u,A⟩:=qt6
 exact Buf.push (e:=CPT) (x:=x) h qli (qrk _) (by kernel_rfl) I J u rfl rfl (by rw [A]; omega) (by omega) E
def RowsP (w:World) (h:List Nat) (ps:List (SS×(Key×Key))):Prop:=∀ p∈ps,∃ u A,BufB w p.1.1 p.2.1 u/\BufB w p.1.2 p.2.2 A/\(∀ b∈u,b∈h)/\∀ b∈A,b∈h
theorem RowsP.frame {w w':World} {S C A:List Nat} {ps:List (SS×(Key×Key))} (h:RowsP w C ps) (f:Fr S w w') (E:∀ b∈C,b∉S) (G:∀ b∈C,b∈A):RowsP w' A ps:=fun p K=>by
 obtain ⟨O,Q,R,U,I,J⟩:=h p K
 exact ⟨O,Q,R.frame f fun b u=>E b (I b u),U.frame f fun b u=>E b (J b u),fun b u=>G b (I b u),fun b u=>G b (J b u)⟩
section
variable {dbk pb:Nat} {FD F:List Nat} {D:DiskM} {M:PgM} {k v:Nat} {frm to:Key} {down:Bool} {w0 w wA:World} {cb:Nat} {Y SB:List Nat} {st:Sl} {zs:List FrZ}
theorem qq4 {S:List Nat} {t most:Int} {sf af:Sl} {L:Prs} {P:List Int} {K:Sl->WP} (hT:TW dbk pb FD D 5000 w [] F M) (hs:shp t=((k:Int),(v:Int))) (hL:(k=0/\L=[])\/(k≠0/\TreeIs D M k v t L P)) (au:L.length<=90000) (hf:RdB S w sf frm) (ht:RdB S w af to) (av:frm.length<=1000000) (aw:to.length<=1000000) (ax:IsB frm) (ay:IsB to)
  (kk:∀ s w' B A ps,Buf encSS 2 w' s (ps.map (·.1)) B->RowsP w' A ps->(∀ b∈A,b∉B)->ps.map (·.2)=(rangeD down frm to L).take most.toNat->Fr [] w w'->(∀ b∈B,w.heap.size<=b)->(∀ b∈A,w.heap.size<=b)->K s w') :
  cW 26 [.pointer (pW pb),.i t,sf.v,af.v,.bool down,.i most] [.one .slice] w K:=by
 refine qkM ?_
 unfold qhl
 refine qmN hT hs hL au hf ht av aw ax ay fun cb w1 st SB zs ag az f1=>?_
 have a4:(rangeD down frm to L).length<=90000:=by
  have R:(rangeP frm to L).length<=L.length:=length_filter_le _ _
  unfold rangeD
  split
  ·rw [length_reverse]; omega
  ·omega
 have a5:∀ b∈cb::SB,w.heap.size<=b:=ag.new
 refine qag (fun s w'=>∃ B A ps,Buf encSS 2 w' s (ps.map (·.1)) B/\RowsP w' A ps/\(∀ b∈A,b∉B)/\ps.map (·.2)=(rangeD down frm to L).take most.toNat/\Fr [] w w'/\(∀ b∈B,w.heap.size<=b)/\(∀ b∈A,w.heap.size<=b)) ?_ ?_
 ·refine qh6 (fun (i:Nat) s w'=>∃ B A ps st SB zs,i<=(rangeD down frm to L).length/\Buf encSS 2 w' s (ps.map (·.1)) B/\RowsP w' A ps/\(∀ b∈A,b∉B)/\ps.map (·.2)=(rangeD down frm to L).take i/\(most.toNat<i->i=0)/\Fr [] w w'/\(∀ b∈B,w.heap.size<=b)/\(∀ b∈A,w.heap.size<=b)/\CurE dbk pb FD D F M k v frm to down w cb (B++A) w' st SB zs/\Left D M k v frm to down 1 (zs.map (·.2)) ((rangeD down frm to L).drop i)) (fun i=>(rangeD down frm to L).length+1-i) 0 ⟨[],[],[],st,SB,zs,yW _,.nil _ _ _,(fun p V=>nomatch V),(fun b u=>nomatch u),rfl,fun _=>rfl,f1,(fun b u=>nomatch u),(fun b u=>nomatch u),ag,by rw [xE]; exact az⟩ ?_
  rintro i s w2 ⟨B,A,ps,a6,aa,a7,hi,u,hR,hd,J,aD,f2,n2,n3,E,aF⟩ X hX
  have a9:s.len=i:=by
   rw [u.len,zK]
   have:=congrArg List.length J
   rw [zK,yK] at this
   omega
  refine qaa (fun hc=>?_) (fun hc=>?_)
  rotate_left
  ·have hc:=zB hc
   refine ⟨B,A,ps,u,hR,hd,?_,f2,n2,n3⟩
   rw [J]
   by_cases h0:most.toNat<i
   ·have:=aD h0; omega
   ·have:most.toNat=i:=by omega
    rw [this]
  have hc:=zC hc
  have a':i<most.toNat:=by omega
  have ba:=E.lt
  refine qhD E aF (fun aG w3 ab f3=>?_) (fun x L' O ks vs B1 B2 w3 aH aI aJ hk hv ab aK f3 n4 n5 n6 aU=>?_)
  ·refine Own.new' (Own.start [] w3) fun r w4 e4 f4 h=>?_
   refine Own.sz h 0 rfl (prV ⟨none,0,0⟩ ⟨none,0,0⟩) fun w5 h f5=>?_
   refine cond_true rfl ?_
   have ac:Fr (cb::aa) w2 w5:=f3.trans (h.fr.mono fun _ h=>nomatch h)
   have C:∀ b∈B++A,b∉cb::aa:=fun b u I=>by
    rcases zG.1 I with rfl | I
    ·exact E.cby u
    ·exact E.sby b I u
   refine ⟨B,A,ps,u.frame ac fun b u=>C b (by simp [u]),hR.frame ac (fun b u=>C b (by simp [u])) fun b u=>u,hd,?_,f2.trans' ac fun b u=>.inr (E.new b u),n2,n3⟩
   rw [J]
   have G:(rangeD down frm to L).length<=i:=by
    have:=congrArg List.length aG
    rw [yB,xJ] at this
    omega
   rw [zS G,zS (by omega)]
  ·have G:i<(rangeD down frm to L).length:=by
    have:=congrArg List.length O
    rw [yB,yH] at this
    omega
   have hx:(rangeD down frm to L).take (i+1)=(rangeD down frm to L).take i++[x]:=by
    rw [yF G]
    rw [zX G] at O
    rw [(vC O).1]
   have ad:(rangeD down frm to L).drop (i+1)=L':=by
    rw [zX G] at O
    exact (vC O).2
   have C:∀ b∈B++A,b∉cb::aa:=fun b u I=>by
    rcases zG.1 I with rfl | I
    ·exact E.cby u
    ·exact E.sby b I u
   have aM:Buf encSS 2 w3 s (ps.map (·.1)) B:=u.frame f3 fun b u=>C b (by simp [u])
   have aN:RowsP w3 (B1++(B2++A)) (ps++[((ks,vs),x)]):=fun p V=>by
    rcases zD.1 V with V | V
    ·exact hR.frame f3 (fun b u=>C b (by simp [u])) (fun b u=>by simp [u]) p V
    ·rw [zE.1 V]
     exact ⟨B1,B2,hk,hv,fun b u=>by simp [u],fun b u=>by simp [u]⟩
   have an:∀ b∈B1++(B2++A),b∉B:=fun b Q I=>by
    have:=u.lt b I
    rcases zD.1 Q with h | Q
    ·have:=n5 b h; omega
    ·rcases zD.1 Q with h | Q
     ·have:=n6 b h; omega
     ·exact hd b Q I
   refine Own.new' (Own.start [] w3) fun r w4 e4 f4 h=>?_
   refine Own.sz h 0 rfl (prV ks vs) fun w5 h f5=>?_
   refine cond_false rfl ?_
   refine Own.ldA h 0 rfl (ks,vs) rfl ?_
   have aO:=ab.frame0 h.fr
   refine qt8 (x:=(ks,vs)) (aM.frame0 h.fr) (by rw [zK]; have:=congrArg List.length J; rw [zK,yK] at this; omega) fun s6 B6 w6 b6 f6 n7=>?_
   have ao:=ab.lt
   have U:∀ b∈B1++(B2++A),b<w5.heap.size:=fun b u=>yC (ao b (by simp only [zD,zG] at u ⊢; rcases u with h | h | h <;> simp [h])) h.fr.size
   have aQ:Fr [] w w6:=by
    refine (f2.trans' f3 fun b u=>.inr (E.new b u)).trans (h.fr) |>.trans' f6 fun b u=>.inr (n2 b u)
   have hz:=(f2.trans' f3 fun b u=>.inr (E.new b u)).size
   refine hX (i+1) s6 w6 ⟨B6,B1++(B2++A),ps++[((ks,vs),x)],aH,aI,aJ,G,by rw [xM]; exact b6,(aN.frame h.fr (fun _ _ h=>nomatch h) fun b u=>u).frame f6 an fun b u=>u,fun b u I=>?_,by rw [xM,J,hx]; rfl,fun h=>by omega,aQ,fun b u=>?_,fun b u=>?_,aO.frame (f6.mono fun b u _=>by simp [u]) (fun b u=>?_) (fun b u=>?_),by rw [ad]; exact aK⟩ ?_
   ·rcases n7 b I with R | R
    ·exact an b u R
    ·have:=U b u; omega
   ·rcases n7 b u with R | R
    ·exact n2 b R
    ·have:=h.fr.size; omega
   ·have ap:=f2.size
    rcases zD.1 u with h | u
    ·exact zL ap (n5 b h)
    ·rcases zD.1 u with h | u
     ·exact zL ap (n6 b h)
     ·exact n3 b u
   ·rcases zD.1 u with u | u
    ·exact (n7 b u).imp (fun h=>by simp [h]) id
    ·exact .inl (by simp only [zD] at u ⊢; rcases u with h | h | h <;> simp [h])
   ·rcases zD.1 u with u | u
    ·exact b6.lt b u
    ·exact yC (U b u) f6.size
   ·show _+1-(i+1)<_+1-i
    omega
 rintro s w2 ⟨B,A,ps,R,h2,h3,h4,h5,h6,h7⟩
 exact kk s w2 B A ps R h2 h3 h4 h5 h6 h7
end
end
end Go.Proofs.YtmmkegapckbomaaGreatDoor
end
section
namespace Go.Pt
open Go
end Go.Pt
namespace Go.Proofs.YtmmkegapckbomaaGreatDoor
open Go Go.Pt List
open Classical
attribute [local irreducible] ld ldA ldV fld fldA newZ st new idx idxS idxA slc slcS slcP mkS chk nn call callV inv run runQ runU join loop held ext rng undefer s2a nxt ent IntKind.wrap
abbrev RPT:TypeId:=44
section
variable {w:World} {S S1 S2:List Nat} {a b s:Sl} {L L1 L2:Prs}
end
end Go.Proofs.YtmmkegapckbomaaGreatDoor
end
section
namespace Go.Proofs.YtmmkegapckbomaaGreatDoor
open Go Go.Pt List
open Classical
attribute [local irreducible] ld ldA ldV fld fldA newZ st new idx idxS idxA slc slcS slcP mkS chk nn call callV inv run runQ runU join loop held ext rng undefer s2a nxt ent IntKind.wrap
theorem qsw {S:List Nat} {w:World} {v:Nat} {c:Int} {K:Sl->WP} (E:c=v) (U:v<=1000000) (I:∀ b∈S,b<w.heap.size) (J:∀ s w',RdB S w' s (zs v)->Fr [] w w'->(∀ G:List Nat,(∀ b∈G,b<w.heap.size)->RdB G w' s (zs v))->K s w') :
  mkS 5 [.b 0] 1 1 c c w K:=by
 subst E
 refine Own.mkN (Own.start [] w) rfl (by omega) (Int.le_refl _) (by omega) (by omega) fun b w' e u=>?_
 rw [zJ] at u ⊢
 have O:=u.at (i:=0) rfl
 have h:∀ G:List Nat,(∀ b∈G,b<w.heap.size)->RdB G w' ⟨pW b,v,v⟩ (zs v):=fun G Q=>by
  refine ⟨by simp [zs],zM _,.inr ⟨b,0,_,_,_,rfl,O,fun R=>by have:=Q b R; omega,fun i x C=>?_⟩⟩
  have V:i<v:=by have:=(zP.1 C).1; simpa [zs] using this
  have A:x=0:=by
   have:=yE C
   exact (mem_replicate.1 this).2
  subst A
  have e1:(List.replicate v [Value.int .u8 0]).flatten=List.replicate v (Value.int .u8 0):=by simp
  rw [e1]
  simp [drop_replicate,take_replicate]
  show List.replicate (min 1 (v-i)) _=_
  rw [show min 1 (v-i)=1 by omega]
  rfl
 exact J _ w' (h S I) u.fr h
end Go.Proofs.YtmmkegapckbomaaGreatDoor
end
section
namespace Go.Proofs.YtmmkegapckbomaaGreatDoor
open Go Go.Pt List
open Classical
section
variable {D:DiskM} {M M':PgM} {k v c:Nat} {t:Int} {L L':Prs} {P P':List Int}
theorem Has.pages_lt (I:4<=(capsV k v).1):∀ {h:Nat} {s:Seg},Has D M k v h s->minOf k v h<=s.size->s.pages.length+1<=s.prs.length
 | 0,s,C,E=>by
  have G:(capsV k v).1 / 2<=s.size:=E
  rw [C.2.1] at G
  rw [C.1,xL]
  omega
 | h+1,s,⟨J,U,G,K,O,u,V,h6,Q⟩,E=>by
  have h8:=u.right.innerTwo.1
  rw [K,O]
  have key:∀ l:List Ent,(∀ e∈l,Has D M k v h e.2/\minOf k v h<=e.2.size)->(l.flatMap (·.2.pages)).length+l.length<=(l.flatMap (·.2.prs)).length:=by
   intro l
   induction l with
   | nil=>intro _; simp
   | cons a l ih=>
    intro A
    have i:=ih fun e R=>A e (zN _ R)
    have j:=Has.pages_lt I (A a (by simp)).1 (A a (by simp)).2
    rw [yG,yG,zF,zF,yH]
    omega
  have:=key J Q
  rw [yH]
  omega
theorem Has.pages_le (E:4<=(capsV k v).1) {h:Nat} {s:Seg} (u:Has D M k v h s):s.pages.length<=s.prs.length:=by
 cases h with
 | zero=>
  have:=length_pos_iff.2 u.ne
  rw [u.1,xL]
  omega
 | succ h=>
  obtain ⟨G,Q,R,I,J,A,U,V,K⟩:=u
  have h8:=A.right.innerTwo.1
  rw [I,J]
  have key:∀ l:List Ent,(∀ e∈l,Has D M k v h e.2/\minOf k v h<=e.2.size)->(l.flatMap (·.2.pages)).length+l.length<=(l.flatMap (·.2.prs)).length:=by
   intro l
   induction l with
   | nil=>intro _; simp
   | cons a l ih=>
    intro C
    have i:=ih fun e O=>C e (zN _ O)
    have j:=Has.pages_lt E (C a (by simp)).1 (C a (by simp)).2
    rw [yG,yG,zF,zF,yH]
    omega
  have:=key G K
  rw [yH]
  omega
theorem TreeIs.pages_le (u:4<=(capsV k v).1) (A:TreeIs D M k v t L P):P.length<=L.length:=by
 rcases A with ⟨C,rfl,rfl⟩ | ⟨h,n,p,G,C,E⟩
 ·exact zM _
 ·exact E.pages_le u
theorem Sole.room3 (h:Sole D M k v c t L P) (u:4<=(capsV k v).1) (E:3*L.length+1<=c):2*(rootM M t).2.2.toNat+1<=M.free.length:=by
 have A:=h.named.length_eq
 rw [zF,h.many] at A
 have G:(M.fresh.map (·.1)).length<=P.length:=List.Nodup.length_le_of_subset h.wf.keysNodup fun x C=>h.use x (.inl C)
 have I:=h.tree.pages_le u
 have J:=(qbc h.tree).1
 omega
theorem Sole.insert3 {key val:Key} (h:Sole D M k v c t L P) (u:CapsOk k v) (A:4<=(capsV k v).1) (C:0<=t/\t<8) (E:key.length=k/\IsB key) (G:val.length=v/\IsB val) (I:3*L.length+1<=c) (O:L.length<=100000) :
  ∃ M' P',insertN D k v t key val (rootM M t).2.2.toNat M=(0,M')/\Sole D M' k v c t (insP key val L) P':=by
 obtain ⟨M',P',e,J,K,_⟩:=qqq u C E G h.tree h.wf h.over h.len h.nodup (by omega) (h.room3 A I)
 exact ⟨M',P',e,h.next J K⟩
theorem Sole.remove3 {key:Key} (h:Sole D M k v c t L P) (u:CapsOk k v) (A:4<=(capsV k v).1) (C:0<=t/\t<8) (E:key∈keysP L) (G:3*L.length+1<=c) (K:L.length<=100000) :
  ∃ M' P',removeN D k v t key (rootM M t).2.2.toNat M=(0,M')/\Sole D M' k v c t (cutP key L) P':=by
 obtain ⟨M',P',e,I,J,_⟩:=qq1 u C h.tree E h.wf h.over h.len h.nodup (by omega) (h.room3 A G)
 exact ⟨M',P',e,h.next I J⟩
end
end Go.Proofs.YtmmkegapckbomaaGreatDoor
end
section
namespace Go.Proofs.YtmmkegapckbomaaGreatDoor
open Go Go.Pt List
open Classical
attribute [local irreducible] ld ldA ldV fld fldA newZ st new idx idxS idxA slc slcS slcP mkS chk nn call callV inv run runQ runU join loop held ext rng undefer s2a nxt ent IntKind.wrap
theorem qsR {w:World} {a0:Int} {E I J O:Sl} {a5:Bool} {u:Kps} {K:Bool->WP} (Q:RdK [] w E u)
  (U:∀ b w',Fr [] w w'->(b=false->E.len<=120/\I.len<=120/\J.len<=100/\O.len<=100/\∀ p∈u,p.2.length<=100)->K b w') :
  cW 23 [.agg #[.i a0,E.v,I.v,J.v,O.v,.bool a5]] [.one .bool] w K:=by
 refine qcS ?_
 unfold qbF
 refine Own.new' (Own.start [] w) fun r w1 e1 R h=>?_
 refine qag (fun b w'=>w'=w1/\(b=false->E.len<=120/\I.len<=120/\J.len<=100/\O.len<=100)) ?_ ?_
 ·refine Own.ld h 0 rfl E rfl ?_
  refine qaa (fun h=>⟨rfl,fun h=>nomatch h⟩) fun g1=>?_
  refine Own.ld h 0 rfl I rfl ?_
  refine qaa (fun h=>⟨rfl,fun h=>nomatch h⟩) fun g2=>?_
  refine Own.ld h 0 rfl J rfl ?_
  refine qaa (fun h=>⟨rfl,fun h=>nomatch h⟩) fun g3=>?_
  refine Own.ld h 0 rfl O rfl ?_
  refine ⟨rfl,fun g4=>?_⟩
  have g1:=zB g1
  have g2:=zB g2
  have g3:=zB g3
  have g4:=zB g4
  omega
 rintro b w2 ⟨rfl,hb⟩
 refine qaa (fun Q=>U true _ R fun h=>nomatch h) fun V=>?_
 obtain ⟨q1,q2,q3,q4⟩:=hb V
 refine Own.ld h 0 rfl E rfl ?_
 have hl:=Q.len
 refine qaj (fun s w'=>w'=w2/\∃ i:Nat,s=i/\i<=u.length/\∀ p∈u.take i,p.2.length<=100) (fun s _=>u.length-s.toNat) ⟨rfl,0,rfl,yW _,by simp⟩ ?_
 rintro s w3 ⟨rfl,i,rfl,hi,hp⟩ X hX
 refine qaa (fun G=>?_) (fun G=>?_)
 ·have G:=zC G
  have A:i<u.length:=by omega
  refine RdK.get (Q.frame0 R) i rfl A ?_
  have ap:=(Q.2 _ (zW A)).1
  refine qaa (fun _=>U true _ R fun h=>nomatch h) fun hs=>?_
  have hs:=zB hs
  refine hX _ _ ⟨rfl,i+1,?_,A,fun p C=>?_⟩ ?_
  ·rw [wi' _ (by omega)]; rfl
  ·rw [yF A] at C
   rcases zD.1 C with h | h
   ·exact hp p h
   ·rw [zE.1 h]; omega
  ·rw [wi' _ (by omega)]; omega
 ·have G:=zB G
  refine U false _ R fun _=>⟨q1,q2,q3,q4,fun p C=>hp p ?_⟩
  rw [zS (by omega)]
  exact C
section
variable {k v c:Nat} {t:Int} {w0 w:World} {s:Sl} {m:Nat} {dbk pb:Nat} {FD F B:List Nat} {D:DiskM} {M:PgM} {P:List Int} {L:Prs}
theorem HiI.put3 {ks vs:Sl} {key val:Key} {K:Int->WP} (h:HiI k v c t w0 w s m dbk pb FD D F M P L B) (O:0<=t/\t<8) (Q:shp t=((k:Int),(v:Int))) (u:CapsOk k v) (A:4<=(capsV k v).1) (R:1<=k) (hm:3*m+1<=c) (U:m<=100000)
  (C:IsB key) (E:key.length=k) (G:IsB val) (I:val.length=v) (V:RdB (Zo FD [] F) w ks key) (hv:RdB (Zo FD [] F) w vs val)
  (kk:∀ F' w' M' P',TW dbk pb FD D 5000 w' [] F' M'->Sole D M' k v c t (insP key val L) P'->Fr F w w'->(∀ b∈F',b∈F\/w.heap.size<=b)->K 0 w') :
  cW 17 [.pointer (pW pb),.i t,ks.v,vs.v] [.one .i] w K:=by
 have hl:=h.len
 obtain ⟨M',P',e,hS⟩:=h.sole.insert3 (key:=key) (val:=val) u A O ⟨E,C⟩ ⟨I,G⟩ (by omega) (by omega)
 obtain ⟨r1,r2,r3,r4⟩:=qbc h.sole.tree
 refine qoA (f:=(rootM M t).2.2.toNat) C G Q (by omega) E I h.tw V hv ⟨r4,by omega⟩ (h.sole.room3 A (by omega)) (qiq e) fun F' w' J f n=>?_
 rw [e] at J ⊢
 exact kk F' w' M' P' J hS f n
theorem HiI.cut3 {ks:Sl} {key:Key} {K:Int->WP} (h:HiI k v c t w0 w s m dbk pb FD D F M P L B) (I:0<=t/\t<8) (J:shp t=((k:Int),(v:Int))) (u:CapsOk k v) (C:4<=(capsV k v).1) (O:1<=k) (hm:3*m+1<=c) (Q:m<=100000)
  (A:key∈keysP L) (R:RdB (Zo FD [] F) w ks key)
  (U:∀ F' w' M' P',TW dbk pb FD D 5000 w' [] F' M'->Sole D M' k v c t (cutP key L) P'->Fr F w w'->(∀ b∈F',b∈F\/w.heap.size<=b)->K 0 w') :
  cW 21 [.pointer (pW pb),.i t,ks.v] [.one .i] w K:=by
 have hl:=h.len
 obtain ⟨M',P',e,V⟩:=h.sole.remove3 (key:=key) u C I A (by omega) (by omega)
 obtain ⟨r1,r2,r3,r4⟩:=qbc h.sole.tree
 obtain ⟨x,hx,rfl⟩:=mem_map.1 A
 obtain ⟨q1,q2,q3,q4⟩:=h.sole.tree.sort.2 x hx
 obtain ⟨y,hy⟩:=qlG A
 have E:=h.sole.tree.get (key:=x.1) h.sole.wf h.sole.over
 rw [hy] at E
 refine qtL (f:=(rootM M t).2.2.toNat) (f2:=(rootM M t).2.2.toNat) q3 u J (by omega) q1 h.tw R ⟨r4,by omega⟩ (h.sole.room3 C (by omega)) (by rw [E]) (h.sole.tree.safe u A h.sole.wf h.sole.over h.sole.nodup (h.sole.room3 C (by omega))) fun F' w' G f n=>?_
 rw [e] at G ⊢
 exact U F' w' M' P' G V f n
theorem HiI.go {C A w3:World} {F F' B':List Nat} {M M':PgM} {P P':List Int} {L L':Prs} {B:List Nat} {s G:Sl} {m I:Nat} (h:HiI k v c t w0 C s m dbk pb FD D F M P L B) (J:TW dbk pb FD D 5000 A [] F' M') (O:Sole D M' k v c t L' P') (f:Fr F C A) (n:∀ b∈F',b∈F\/C.heap.size<=b) (K:Fr [] A w3) (u:Buf encPr 2 w3 G L' B') (Q:∀ b∈B',A.heap.size<=b) (R:L'.length<=I):HiI k v c t w0 w3 G I dbk pb FD D F' M' P' L' B':=by
 refine ⟨J.frame0 K,O,u,R,(h.fr.trans' f fun b u=>.inr (h.new b (zI _ u))).trans K,fun b u=>?_,fun b u U=>?_⟩
 ·rcases zD.1 u with u | u
  ·exact h.new b (zH _ u)
  ·rcases n b u with E | E
   ·exact h.new b (zI _ E)
   ·exact zL h.fr.size E
 ·have:=Q b u
  have:=J.pager.lt b U
  omega
end
theorem qnu {t:Int} {k v:Nat} (h:good t) (A:shp t=((k:Int),(v:Int))):4<=(capsV k v).1:=by
 obtain ⟨C,E⟩:=h
 have:t=0\/t=1\/t=2\/t=3\/t=4\/t=5\/t=6\/t=7:=by omega
 rcases this with rfl | rfl | rfl | rfl | rfl | rfl | rfl | rfl <;>
  (obtain ⟨e1,u⟩:=vB A; have e1:=Int.ofNat.inj e1; have u:=Int.ofNat.inj u; subst e1 u; decide)
theorem qq7 {S:List Nat} {w:World} {v:Nat} {c y:Int} {K:Sl->WP} (E:c=v) (G:1<=v) (hv:v<=1000000) (I:∀ b∈S,b<w.heap.size) (J:∀ s w',RdB S w' s (y::zs (v-1))->Fr [] w w'->K s w') :
  mkS 5 [.b 0] 1 1 c c w fun s O=>idx s 0 1 fun a=>st a [.b y] O fun C=>K s C:=by
 subst E
 refine Own.mkN (Own.start [] w) rfl (by omega) (Int.le_refl _) (by omega) (by omega) fun b w' e A=>?_
 rw [zJ] at A ⊢
 refine qa2 rfl ⟨by omega,by show (0:Int)<(v:Int); omega⟩ ?_
 have Q:(List.replicate v [Value.int .u8 0]).flatten.toArray=bytesA (zs v):=by simp [bytesA,zs]
 rw [Q] at A
 obtain ⟨n,rfl⟩:∃ n,v=n+1:=⟨v-1,by omega⟩
 have R:zs (n+1)=0::zs n:=replicate_succ
 rw [R] at A
 refine Own.st' A 0 rfl (bytesA (y::zs n)) (by simp [splice,bytesA]) rfl (by rw [qbW]; simp) fun C h f2=>?_
 have U:=h.at (i:=0) rfl
 have hl:(y::zs n).length=n+1:=by simp [zs]
 have u:=qcp (S:=S) (o:=0) (n:=n+1) (cap:=n+1) U (by omega) (zM _) (fun V=>by have:=I b V; omega)
 rw [xE,zS (by omega)] at u
 exact J _ C u h.fr
theorem qsA {w:World} {a0:Int} {a1 a2 a3 a4:Sl} {a5:Bool} {A:Kps} {C:List Int} {K:Option Addr×Int×Sl->WP} (hv:Hv w) (hk:RdK [] w a1 A) (hB:∀ p∈A,IsB p.2) (hc:RdB [] w a2 C) (aY:IsB C) (g1:a1.len<=120) (g2:a2.len<=120) (g3:∀ p∈A,p.2.length<=100)
  (kk:∀ t k v w' s m dbk pb FD D F M P L B,0<=t/\t<8->shp t=(((k:Nat):Int),((v:Nat):Int))->CapsOk k v->1<=k/\k<=24/\1<=v/\v<=108->HiI k v 394 t w w' s m dbk pb FD D F M P L B->m<=120->K (pW pb,t,s) w') :
  cW 25 [.agg #[.i a0,a1.v,a2.v,a3.v,a4.v,.bool a5]] [.one .ptr,.one .i,.one .slice] w K:=by
 refine qcR ?_
 unfold qbD
 have bx:a1.len=A.length:=hk.len
 have bz:a2.len=C.length:=hc.1
 refine Own.new' (Own.start [] w) fun r wr er fr hr=>?_
 have bA:r>=w.heap.size:=by omega
 refine qlu (n:=400) [] (fun b U=>nomatch U) (fun h=>nomatch h) (hv.frame0 fr) (by decide) (by decide) fun dbk pb FD F D w1 hT hM f1 n1=>?_
 have h:=hr.frame0 f1
 refine Own.ld h 0 rfl a0 rfl ?_
 have ht:0<=IntKind.wrap .i64 (Int.tmod (IntKind.wrap .u64 a0) 8)/\IntKind.wrap .i64 (Int.tmod (IntKind.wrap .u64 a0) 8)<8:=by
  have h0:0<=IntKind.wrap .u64 a0:=by rw [IntKind.wrap_u64]; omega
  rw [Int.tmod_eq_emod_of_nonneg h0,wi' _ (by omega)]
  omega
 generalize IntKind.wrap .i64 (Int.tmod (IntKind.wrap .u64 a0) 8)=t at ht
 refine cond_false rfl ?_
 obtain ⟨k,v,hs,J,ag,ab,aD,ah⟩:=qoz (t:=t) ⟨ht.1,by omega⟩
 have aE:=qnu ⟨ht.1,by omega⟩ hs
 refine qhE ?_
 rw [hs]
 have aF:Sole D (madeM 400) k v ((400-2)-needP (400-2)) t [] []:=qlE ht (by decide) (by decide) hT.wf
 have a6:(400-2)-needP (400-2)=394:=by decide
 rw [a6] at aF
 have h0:HiI k v 394 t wr w1 ⟨none,0,0⟩ 0 dbk pb FD D F (madeM 400) [] [] []:=⟨hT,aF,.nil _ _ _,zM _,f1,n1,fun b U=>nomatch U⟩
 refine Own.ld h 0 rfl a1 rfl ?_
 refine qaj (fun q w'=>∃ i:Nat,q.2=i/\i<=A.length/\∃ F M P L B,HiI k v 394 t wr w' q.1 i dbk pb FD D F M P L B) (fun q _=>A.length-q.2.toNat) ⟨0,rfl,yW _,F,_,_,_,_,h0⟩ ?_
 rintro ⟨s1,y⟩ w2 ⟨i,hy,hi,F,M,P,L,B,u⟩ X hX
 dsimp only at hy u ⊢
 subst hy
 refine qaa (fun ai=>?_) (fun ai=>?_)
 ·have ai:=zC ai
  have O:i<A.length:=by omega
  refine RdK.get ((hk.frame0 fr).frame0 u.fr) i rfl O ?_
  have ac:=((hk.frame0 fr).frame0 u.fr).2 _ (zW O)
  have aj:=hB _ (zW O)
  have aG:=g3 _ (zW O)
  generalize A[i]=bD at ac aj aG
  refine qdV ac aj ?_
  refine qpl (n:=k) aj (by omega) ab (by decide) fun key w3 Q I f3=>?_
  have aH:=u.tw.frame0 f3
  refine qq7 (S:=Zo FD [] F) rfl aD (by omega) (qjU aH) fun vs w4 aI f4=>?_
  have V:IsB (IntKind.wrap .u8 (i:Int)::zs (v-1)):=fun z hz=>by
   rcases zG.1 hz with rfl | hz
   ·exact qoV _
   ·exact qqG _ z hz
  have ak:(IntKind.wrap .u8 (i:Int)::zs (v-1)).length=v:=by simp [zs]; omega
  generalize IntKind.wrap .u8 (i:Int)::zs (v-1)=val at aI V ak
  refine qlx (e:=5) I (by kernel_rfl) (by kernel_rfl) (by kernel_rfl) fun kb w5 al f5=>?_
  have am:=(f3.trans f4).trans f5
  have G:HiI k v 394 t wr w5 s1 i dbk pb FD D F M P L B:=⟨u.tw.frame0 am,u.sole,u.buf.frame0 am,u.len,u.fr.trans am,u.new,u.apart⟩
  have ad:=aI.frame0 f5
  refine G.put3 ht hs J aE ag (by omega) (by omega) I Q V ak (al _ (qjU (aH.frame0 f4))) ad fun F6 w6 M6 P6 an ao f6 n6=>?_
  refine cond_false rfl ?_
  have aM:RdB [] w6 vs val:=Rds.frame ad (f6.mono fun b U _=>zI _ U) fun b U=>nomatch U
  refine qdV aM V ?_
  have ap:Buf encPr 2 w6 s1 L B:=G.buf.frame f6 G.apart
  have hl:=u.len
  have E:=u.sole.tree.sort
  refine qss (S:=[]) hs (by omega) Q ak I V (by omega) (ap.rds qbN fun b _=>by simp) (E.2.prB (by omega) (by omega)) (by omega) fun s7 B7 w7 b7 f7 n7=>?_
  rw [qmE E.1] at b7
  have bb:=qs0 (k:=key) (v:=val) E.1
  have aq:HiI k v 394 t wr w7 s7 (i+1) dbk pb FD D F6 M6 P6 (insP key val L) B7:=G.go an ao f6 n6 f7 b7 n7 (by omega)
  refine hX _ _ ⟨i+1,?_,O,F6,M6,P6,_,B7,aq⟩ ?_
  ·show IntKind.wrap .i64 _=_
   rw [wi' _ (by omega)]; rfl
  ·show A.length-(IntKind.wrap .i64 _).toNat<_
   rw [wi' _ (by omega)]; show _<A.length-((i:Int)).toNat; omega
 ·have bc:i<=120:=by omega
  refine qag (fun q w'=>∃ F M P L B,HiI k v 394 t wr w' q i dbk pb FD D F M P L B) ?_ ?_
  ·refine Own.ld (hr.frame0 u.fr) 0 rfl a2 rfl ?_
   refine qaj (fun q w'=>∃ j:Nat,q.2=j/\j<=C.length/\∃ F M P L B,HiI k v 394 t wr w' q.1 i dbk pb FD D F M P L B) (fun q _=>C.length-q.2.toNat) ⟨0,rfl,yW _,F,M,P,L,B,u⟩ ?_
   clear hX X u
   rintro ⟨s2,z⟩ w3 ⟨j,hz,hj,F,M,P,L,B,u⟩ X hX
   dsimp only at hz u ⊢
   subst hz
   refine qaa (fun ar=>?_) (fun ar=>⟨F,M,P,L,B,u⟩)
   have ar:=zC ar
   have au:j<C.length:=by omega
   have aO:=u.buf.len
   have hl:=u.len
   refine Rds.get ((hc.frame0 fr).frame0 u.fr) j rfl (zA au) (y:=C[j]) rfl ?_
   have aP:=aY _ (zW au)
   generalize C[j]=cb at aP
   refine qaa (fun h=>⟨F,M,P,L,B,u⟩) (fun h=>?_)
   have bH:L.length≠0:=fun e=>by rw [aO,e] at h; exact absurd h (by decide)
   refine qbg (by omega) ?_
   have aQ:Int.tmod (IntKind.wrap .i64 cb) (s2.len:Int)=((cb.toNat%L.length:Nat):Int):=by
    rw [wi' _ (by omega),Int.tmod_eq_emod_of_nonneg aP.1,aO]
    obtain ⟨cn,e⟩:∃ cn:Nat,cb=cn:=⟨cb.toNat,by omega⟩
    rw [e,zJ]
    rfl
   have av:cb.toNat%L.length<L.length:=Nat.mod_lt _ (by omega)
   have aR:Rds encPr 2 [] w3 s2 L:=u.buf.rds qbN fun b _=>by simp
   refine Rds.str1 aR _ aQ av ?_
   have R:L[cb.toNat%L.length].1∈keysP L:=zY (zW av)
   have E:=u.sole.tree.sort
   obtain ⟨q1,q2,q3,q4⟩:=E.2 _ (zW av)
   generalize L[cb.toNat%L.length].1=key at R q1 q3
   refine qlx (e:=5) q3 (by kernel_rfl) (by kernel_rfl) (by kernel_rfl) fun kb w5 al f5=>?_
   have G:HiI k v 394 t wr w5 s2 i dbk pb FD D F M P L B:=⟨u.tw.frame0 f5,u.sole,u.buf.frame0 f5,u.len,u.fr.trans f5,u.new,u.apart⟩
   refine G.cut3 ht hs J aE ag (by omega) (by omega) R (al _ (qjU u.tw)) fun F6 w6 M6 P6 an ao f6 n6=>?_
   refine cond_false rfl ?_
   have ap:Buf encPr 2 w6 s2 L B:=G.buf.frame f6 G.apart
   refine qsb (S:=[]) hs (by omega) q1 q3 (ap.rds qbN fun b _=>by simp) (E.2.prB (by omega) (by omega)) (by omega) R fun s7 B7 w7 b7 f7 n7=>?_
   have bb:=qty (k:=key) (l:=L)
   have aq:HiI k v 394 t wr w7 s7 i dbk pb FD D F6 M6 P6 (cutP key L) B7:=G.go an ao f6 n6 f7 b7 n7 (by omega)
   refine hX _ _ ⟨j+1,?_,au,F6,M6,P6,_,B7,aq⟩ ?_
   ·show IntKind.wrap .i64 _=_
    rw [wi' _ (by omega)]; rfl
   ·show C.length-(IntKind.wrap .i64 _).toNat<_
    rw [wi' _ (by omega)]; show _<C.length-((j:Int)).toNat; omega
  ·rintro s3 w3 ⟨F3,M3,P3,L3,B3,h3⟩
   have bf:=fr.size
   exact kk t k v w3 s3 i dbk pb FD D F3 M3 P3 L3 B3 ht hs J ⟨ag,ab,aD,ah⟩ ⟨h3.tw,h3.sole,h3.buf,h3.len,fr.trans h3.fr,fun b U=>zL bf (h3.new b U),h3.apart⟩ bc
theorem Sole.put {k v c:Nat} {t:Int} {w:World} {dbk pb:Nat} {FD F:List Nat} {D:DiskM} {M:PgM} {P:List Int} {L:Prs} {ks vs:Sl} {key val:Key} {K:Int->WP} (J:Sole D M k v c t L P) (I:TW dbk pb FD D 5000 w [] F M) (Q:0<=t/\t<8) (R:shp t=((k:Int),(v:Int))) (h:CapsOk k v) (u:4<=(capsV k v).1) (U:1<=k) (hm:3*L.length+1<=c) (V:L.length<=100000)
  (A:IsB key) (C:key.length=k) (E:IsB val) (G:val.length=v) (hk:RdB (Zo FD [] F) w ks key) (hv:RdB (Zo FD [] F) w vs val)
  (kk:∀ F' w' M' P',TW dbk pb FD D 5000 w' [] F' M'->Sole D M' k v c t (insP key val L) P'->Fr F w w'->(∀ b∈F',b∈F\/w.heap.size<=b)->K 0 w') :
  cW 17 [.pointer (pW pb),.i t,ks.v,vs.v] [.one .i] w K:=by
 obtain ⟨M',P',e,O⟩:=J.insert3 (key:=key) (val:=val) h u Q ⟨C,A⟩ ⟨G,E⟩ (by omega) (by omega)
 obtain ⟨r1,r2,r3,r4⟩:=qbc J.tree
 refine qoA (f:=(rootM M t).2.2.toNat) A E R (by omega) C G I hk hv ⟨r4,by omega⟩ (J.room3 u (by omega)) (qiq e) fun F' w' I f n=>?_
 rw [e] at I ⊢
 exact kk F' w' M' P' I O f n
def fixK (n:Nat):Prs:=(([[1],[3],[5]]:List Key).take n).map fun k=>(k,zs 8)
theorem qjn:insP [1] (zs 8) (fixK 0)=fixK 1/\insP [3] (zs 8) (fixK 1)=fixK 2/\insP [5] (zs 8) (fixK 2)=fixK 3:=by
 have h:¬ KLt [3] [1]:=by unfold KLt; decide
 have u:¬ KLt [5] [1]:=by unfold KLt; decide
 have A:¬ KLt [5] [3]:=by unfold KLt; decide
 refine ⟨rfl,?_,?_⟩
 ·show insP [3] (zs 8) [([1],zs 8)]=_
  rw [insP,if_neg h,if_neg (by decide)]
  rfl
 ·show insP [5] (zs 8) [([1],zs 8),([3],zs 8)]=_
  rw [insP,if_neg u,if_neg (by decide),insP,if_neg A,if_neg (by decide)]
  rfl
theorem qjO {w:World} {K:Bool->WP} (hv:Hv w) (kk:∀ w',Fr [] w w'->K true w'):cW 24 [] [.one .bool] w K:=by
 refine qeP ?_
 unfold qcr
 refine qlu (n:=30) [] (fun b u=>nomatch u) (fun h=>nomatch h) hv (by decide) (by decide) fun dbk pb FD F D w1 C hM f1 n1=>?_
 refine cond_false rfl ?_
 have hs:shp 7=(((1:Nat):Int),((8:Nat):Int)):=rfl
 obtain ⟨k,v,J,ab,_⟩:=qoz (t:=7) ⟨by decide,by decide⟩
 rw [hs] at J
 obtain ⟨rfl,rfl⟩:k=1/\v=8:=⟨(Int.ofNat.inj (vB J).1).symm,(Int.ofNat.inj (vB J).2).symm⟩
 have aq:=qnu (t:=7) ⟨by decide,by decide⟩ hs
 have O:Sole D (madeM 30) 1 8 ((30-2)-needP (30-2)) 7 [] []:=qlE ⟨by decide,by decide⟩ (by decide) (by decide) C.wf
 have ar:20<=(30-2)-needP (30-2):=by decide
 generalize (30-2)-needP (30-2)=c at O ar
 refine Own.new' (Own.start [] w1) fun r w2 e2 f2 h=>?_
 have av:=qac (h.at (i:=0) rfl)
 dsimp only at av
 refine qaj (fun q w'=>∃ n:Nat,q=n/\n<=3/\∃ F M P,TW dbk pb FD D 5000 w' [] F M/\Sole D M 1 8 c 7 (fixK n) P/\w'.heap[r]?=some (.cells #[.b 1,.b 3,.b 5] 5 (0,0))/\Fr [] w w'/\(∀ b∈FD++F,w.heap.size<=b)/\r∉F) (fun q _=>3-q.toNat) ⟨0,rfl,by decide,F,_,_,C.frame0 f2,O,h.at (i:=0) rfl,f1.trans f2,n1,fun hm=>?_⟩ ?_
 ·have:=C.pager.lt r hm
  omega
 clear C O hM h f2 n1
 rintro q w3 ⟨n,rfl,hn,F,M,P,C,hS,U,f3,n3,ad⟩ X hX
 refine qaa (fun E=>?_) (fun E=>?_)
 ·have E:=zC E
  have Q:n<3:=by
   have h:(n:Int)<((3:Nat):Int):=E
   omega
  have hx:∃ x:Int,(#[.b 1,.b 3,.b 5]:Array Value)[n]?=some (.b x)/\0<=x/\x<256/\insP [x] (zs 8) (fixK n)=fixK (n+1):=by
   obtain rfl | rfl | rfl:n=0\/n=1\/n=2:=by omega
   ·exact ⟨1,rfl,by decide,by decide,qjn.1⟩
   ·exact ⟨3,rfl,by decide,by decide,qjn.2.1⟩
   ·exact ⟨5,rfl,by decide,by decide,qjn.2.2⟩
  obtain ⟨x,ay,az,aA,aB⟩:=hx
  refine qce (by omega) (by omega) ?_
  rw [zJ,xT,xR]
  refine qao U x ay ?_
  refine Own.new' (Own.start [] w3) fun r2 w4 e4 V h4=>?_
  have aC:w4.heap[r2]?=some (.cells (bytesA [x]) 5 (0,0)):=h4.at (i:=0) rfl
  have af:=C.frame0 V
  refine qsw (S:=Zo FD [] F) (v:=8) rfl (by decide) (qjU af) fun vs w5 aD R _=>?_
  have aE:RdB (Zo FD [] F) w5 ⟨pW r2,1,1⟩ [x]:=by
   have:=qcp (S:=Zo FD [] F) (o:=0) (n:=1) (cap:=1) aC (zM _) (zM _) (fun hm=>by have:=qjU C _ hm; omega)
   exact this.frame0 R
  have a4:(fixK n).length<=3:=by unfold fixK; rw [zK,yK]; exact Nat.min_le_right _ _
  refine hS.put (af.frame0 R) ⟨by decide,by decide⟩ hs ab aq (by decide) (by omega) (by omega) (fun z hz=>by rw [zE.1 hz]; exact ⟨az,aA⟩) rfl (qqG 8) (by simp [zs]) aE aD fun F6 w6 M6 P6 aF ah f6 n6=>?_
  refine cond_false rfl ?_
  rw [aB] at ah
  have hz:=(f3.trans (V.trans R)).size
  have ai:=yC (qac U) (V.trans R).size
  refine hX _ _ ⟨n+1,?_,Q,F6,M6,P6,aF,ah,?_,(f3.trans (V.trans R)).trans' f6 (fun b u=>.inr (n3 b (zI _ u))),fun b u=>?_,fun hm=>?_⟩ ?_
  ·rw [wi' _ (by omega)]; rfl
  ·rw [f6.block r ai ad,(V.trans R).block r (qac U) (fun h=>nomatch h)]; exact U
  ·rcases zD.1 u with u | u
   ·exact n3 b (zH _ u)
   ·rcases n6 b u with h | h
    ·exact n3 b (zI _ h)
    ·exact zL hz h
  ·rcases n6 r hm with h | h
   ·exact ad h
   ·omega
  ·rw [wi' _ (by omega)]; omega
 ·have E:=zB E
  have Q:n=3:=by omega
  subst Q
  refine Own.new' (Own.start [] w3) fun ra w4 e4 V h=>?_
  refine Own.new' h fun rb w5 e5 R h=>?_
  have ha:RdB [] w5 ⟨pW ra,1,1⟩ [2]:=qcp (o:=0) (n:=1) (cap:=1) (L:=[2]) (h.at (i:=1) rfl) (by decide) (zM _) (fun h=>nomatch h)
  have u:RdB [] w5 ⟨pW rb,1,1⟩ [5]:=qcp (o:=0) (n:=1) (cap:=1) (L:=[5]) (h.at (i:=0) rfl) (by decide) (zM _) (fun h=>nomatch h)
  have hB:∀ x:Int,0<=x/\x<256->IsB [x]:=fun x hx z hz=>by rw [zE.1 hz]; exact hx
  refine qq4 (k:=1) (v:=8) (C.frame0 h.fr) hs (.inr ⟨by decide,hS.tree⟩) (by unfold fixK; rw [zK]; decide) ha u (by decide) (by decide) (hB 2 (by decide)) (hB 5 (by decide)) fun s w6 B KB ps aj ak a9 A f6 a' ba=>?_
  have aI:=f3.trans (h.fr.trans f6)
  have U:(rangeD true [2] [5] (fixK 3)).take (9:Int).toNat=[([5],zs 8),([3],zs 8)]:=by
   unfold rangeD rangeP fixK
   rfl
  rw [U] at A
  obtain ⟨G,I,rfl⟩:∃ G I,ps=[G,I]:=by
   match ps,congrArg List.length A with
   | [G,I],_=>exact ⟨G,I,rfl⟩
  have q0:=(vC A).1
  have q1:=(vC (vC A).2).1
  obtain ⟨B1,B2,r1,_⟩:=ak G (by simp)
  obtain ⟨B3,B4,r3,_⟩:=ak I (by simp)
  dsimp only at q0 q1
  rw [q0] at r1
  rw [q1] at r3
  have aJ:Rds encSS 2 [] w6 s [G.1,I.1]:=aj.rds qli fun b _=>by simp
  have aK:s.len=2:=aj.len
  refine cond_true (by rw [aK]; rfl) ?_
  have al:∀ (p:SS) (n:Nat) (x:Int) (B:List Nat) (K:ByteArray->Prop),([G.1,I.1]:List SS)[n]?=some p->BufB w6 p.1 [x] B->0<=x/\x<256->K (strL [x])->idx s n 2 fun a=>ld .slice a w6 fun q=>runQ [.one .str] (fun w'=>(convert 23 9 q.v).run Tryz.prog w') w6 K:=by
   intro p n x B K hp am hx hk
   obtain ⟨hl,b,o,ha,_,cs,T,fr,u,E⟩:=aJ.at n hp
   refine qa2 ha ⟨by omega,by omega⟩ ?_
   rw [zJ]
   have h0:((cs.toList.drop (o+n*2)).take 2)[0]?=(encSS p)[0]?:=by rw [E]
   rw [xA,if_pos (by decide),yZ,xS,xK] at h0
   refine qaN p.1 ((qaf u).trans h0) ?_
   exact qdV (S:=[]) (am.rdb fun b _=>by simp) (hB x hx) hk
  refine al G.1 0 5 B1 _ rfl r1 (by decide) ?_
  refine cond_true (beq_self_eq_true _) ?_
  refine al I.1 1 3 B3 _ rfl r3 (by decide) ?_
  have:=kk w6 aI
  rwa [<- beq_self_eq_true (ByteArray.toList (strL [3]))] at this
structure AskD (w:World) (a1 a2 a3 a4:Sl) (rows:Kps) (cuts:List Int) (frm to:Key):Prop where
 h1:RdK [] w a1 rows
 b1:∀ p∈rows,IsB p.2
 h2:RdB [] w a2 cuts
 b2:IsB cuts
 h3:RdB [] w a3 frm
 b3:IsB frm
 h4:RdB [] w a4 to
 b4:IsB to
theorem PrB.sub {L L':Prs} (h:PrB L) (u:∀ x∈L',x∈L):PrB L':=fun x A=>h x (u x A)
theorem qqN {down:Bool} {frm to:Key} {L:Prs}:∀ x∈rangeD down frm to L,x∈L:=fun x h=>by
 unfold rangeD rangeP at h
 split at h
 ·exact (mem_filter.1 (mem_reverse.1 h)).1
 ·exact (mem_filter.1 h).1
theorem qqR {down:Bool} {frm to:Key} {L:Prs}:(rangeD down frm to L).length<=L.length:=by
 unfold rangeD rangeP
 split
 ·rw [length_reverse]; exact length_filter_le _ _
 ·exact length_filter_le _ _
end Go.Proofs.YtmmkegapckbomaaGreatDoor
end
section
namespace Go.Proofs.YtmmkegapckbomaaGreatDoor
open Go.ChangeShapes Go.WideShapes Go.ChangeAt Go.RowKit Go.Pt
abbrev ASK:TypeId:=49
theorem qug:fieldT Tryz.prog ASK 1=some 22:=by kernel_rfl
theorem quq:fieldT Tryz.prog ASK 2=some 23:=by kernel_rfl
theorem qul:fieldT Tryz.prog ASK 3=some 23:=by kernel_rfl
theorem qun:fieldT Tryz.prog ASK 4=some 23:=by kernel_rfl
section
variable {H:Type} {enc:TypeId×Value->H} {W:World} {base:Nat} {spare:Nat->Bool} {held:Bool}
theorem qji {n:Nat} {s:Sl} {y:DataW H×List MemPlace} (h:DataW.trod enc Tryz.prog W base spare held n 23 [s.v]=some y):∃ l,RdB [] W s l/\IsB l:=by
 obtain ⟨l,g,e⟩:=qhT (P:=Tryz.prog) (t:=23) (e:=5) (s:=s) (k:=1) (encB:=fun n=>[Value.int .u8 n]) (by kernel_rfl) (by kernel_rfl) (by decide) (qnb (k:=.u8) (by kernel_rfl)) h
 exact ⟨l,g,fun z u=>qsX (e z u)⟩
theorem qrV {n:Nat} {x:HL qeQ} {y:DataW H×List MemPlace} (h:DataW.trod enc Tryz.prog W base spare held n ASK (HL.mk qeQ x)=some y):∃ u A frm to,AskD W x.2.1 x.2.2.1 x.2.2.2.1 x.2.2.2.2.1 u A frm to:=by
 obtain ⟨x',e,_,C⟩:=qrn (cs:=qeQ) (by kernel_rfl) n _ y h
 rw [<- e] at C
 obtain ⟨u1,n1,y1,E,K⟩:=C 1 x.2.1.v rfl
 obtain rfl:=yN (qug.symm.trans E)
 obtain ⟨u2,n2,y2,G,O⟩:=C 2 x.2.2.1.v rfl
 obtain rfl:=yN (quq.symm.trans G)
 obtain ⟨u3,n3,y3,I,Q⟩:=C 3 x.2.2.2.1.v rfl
 obtain rfl:=yN (qul.symm.trans I)
 obtain ⟨u4,n4,y4,J,R⟩:=C 4 x.2.2.2.2.1.v rfl
 obtain rfl:=yN (qun.symm.trans J)
 obtain ⟨u,U,V⟩:=qtR K
 obtain ⟨A,c1,c2⟩:=qji O
 obtain ⟨frm,d1,d2⟩:=qji Q
 obtain ⟨to,d3,d4⟩:=qji R
 exact ⟨u,A,frm,to,U,V,c1,c2,d1,d2,d3,d4⟩
end
end Go.Proofs.YtmmkegapckbomaaGreatDoor
end
section
namespace Go.Proofs.YtmmkegapckbomaaGreatDoor
open Go Go.Pt List
open Classical
attribute [local irreducible] ld ldA ldV fld fldA newZ st new idx idxS idxA slc slcS slcP mkS chk nn call callV inv run runQ runU join loop held ext rng undefer s2a nxt ent IntKind.wrap
section
variable {k v c:Nat} {t:Int} {w:World} {dbk pb:Nat} {FD F:List Nat} {D:DiskM} {M:PgM} {P:List Int} {L:Prs}
end
theorem qo4 {w:World} {s:Sl} {l:List Int} {B:List Nat} {r off:Nat} {by_:Int} {cs:Array Value} {T:TypeId} {E:WP} (U:BufB w s l B) (V:w.heap[r]?=some (.cells cs T (0,0))) (hs:cs[off]?=some s.v) (G:r∉B) (hl:l.length<=1000000)
  (kk:∀ w',Fr B w w'->E w') :
  loop Int (fun X x h=>cond (decide (x<(↑s.len:Int))) (ld .slice ⟨r,off,none⟩ h fun s1=>idx s1 x 1 fun a=>ld .b a h fun y=>idx s1 x 1 fun a2=>st a2 [.b (IntKind.wrap .u8 (y+by_))] h fun w2=>X (IntKind.wrap .i64 (x+1)) w2) (E h)) 0 w:=by
 have af:s.len=l.length:=U.len
 have I:=qac V
 refine qaj (fun q w'=>∃ n:Nat,∃ C,q=n/\n<=l.length/\C.length=l.length/\BufB w' s C B/\Fr B w w') (fun q _=>l.length-q.toNat) ⟨0,l,rfl,yW _,rfl,U,.refl _ _⟩ ?_
 rintro q h ⟨n,C,rfl,hn,J,u,K⟩ X hX
 refine qaa (fun O=>?_) (fun O=>kk h K)
 have O:=zC O
 have A:n<C.length:=by omega
 have Q:h.heap[r]?=some (.cells cs T (0,0)):=by rw [K.block r I G]; exact V
 refine qaN s ((qaf Q).trans hs) ?_
 refine Rds.get (S:=[]) (c:=.b) (u.rdb fun b _=>by simp) n rfl (zA A) (y:=C[n]) rfl ?_
 refine Buf.idxAt u rfl A fun b hB=>?_
 subst hB
 refine Buf.stAt (e:=fun x=>Value.int .u8 x) (fun _=>rfl) (x:=IntKind.wrap .u8 (C[n]+by_)) u A rfl rfl fun w2 R f2=>?_
 refine hX _ _ ⟨n+1,_,?_,by omega,by rw [xF]; exact J,R,K.trans f2⟩ ?_
 ·rw [wi' _ (by omega)]; rfl
 ·rw [wi' _ (by omega)]; omega
theorem qkV {w:World} {a0 by_:Int} {a1 a2 a3 a4:Sl} {J:Bool} {af:Kps} {ao:List Int} {frm to:Key} {K:Bool->WP} (hv:Hv w) (hA:AskD w a1 a2 a3 a4 af ao frm to) (kk:∀ w',Fr [] w w'->K true w') :
  cW 5 [.agg #[.i a0,a1.v,a2.v,a3.v,a4.v,.bool J],.b by_] [.one .bool] w K:=by
 obtain ⟨h1,b1,h2,b2,h3,b3,h4,b4⟩:=hA
 refine qcT ?_
 unfold qbE
 refine Own.new' (Own.start [] w) fun r w1 e1 f1 h=>?_
 refine Own.ldA h 0 rfl (a0,a1,a2,a3,a4,J) rfl ?_
 refine qsR (h1.frame0 f1) fun g w2 f2 hg=>?_
 have h:=h.frame0 f2
 refine qaa (fun U=>qjO (hv.frame0 h.fr) fun w' f=>kk w' (h.fr.trans f)) fun U=>?_
 obtain ⟨g1,g2,g3,g4,g5⟩:a1.len<=120/\a2.len<=120/\a3.len<=100/\a4.len<=100/\∀ p∈af,p.2.length<=100:=hg U
 refine Own.ldA h 0 rfl (a0,a1,a2,a3,a4,J) rfl ?_
 refine qsA (hv.frame0 h.fr) (h1.frame0 h.fr) b1 (h2.frame0 h.fr) b2 g1 g2 g5 fun t k v w3 s m dbk pb FD D F M P L B ht hs bs bO hI I=>?_
 have h:=h.frame0 hI.fr
 refine cond_false rfl ?_
 have bP:=hI.len
 have e3:a3.len=frm.length:=h3.1
 have e4:a4.len=to.length:=h4.1
 have ap:PrB L:=hI.sole.tree.sort.2.prB (by omega) (by omega)
 refine Own.ld h 0 rfl a3 rfl ?_
 refine Own.ld h 0 rfl a4 rfl ?_
 refine Own.ld h 0 rfl J rfl ?_
 refine qmN hI.tw hs (.inr ⟨by omega,hI.sole.tree⟩) (by omega) (h3.frame0 h.fr) (h4.frame0 h.fr) (by omega) (by omega) b3 b4 fun cb w4 aq ar au aU ai f4=>?_
 have h:=h.frame0 f4
 refine cond_false rfl ?_
 refine Own.ld h 0 rfl a3 rfl ?_
 refine qdV (S:=[]) (h3.frame0 h.fr) b3 ?_
 refine Own.ld h 0 rfl a4 rfl ?_
 refine qdV (S:=[]) (h4.frame0 h.fr) b4 ?_
 refine Own.ld h 0 rfl J rfl ?_
 have aV:Rds encPr 2 [] w4 s L:=Rds.frame0 (hI.buf.rds qbN fun b _=>by simp) f4
 refine qqe aV ap (by omega) b3 b4 (by omega) (by omega) fun s5 B5 w5 b5 f5 n5=>?_
 have b5:Buf encPr 2 w5 s5 (rangeD J frm to L) B5:=b5
 have aw:PrB (rangeD J frm to L):=ap.sub qqN
 have aX:=qqR (down:=J) (frm:=frm) (to:=to) (L:=L)
 have ax:CurE dbk pb FD D F M k v frm to J w3 cb B5 w5 aq ar au:=aU.frame f5 (fun b u=>.inr (n5 b u)) b5.lt
 have h:=h.frame0 f5
 generalize hR:rangeD J frm to L=R at ai b5 aw aX
 have ay:w.heap.size<=w3.heap.size:=by
  have h0:=(f1.trans f2).size
  have h9:=hI.fr.size
  omega
 have bR:s5.len=R.length:=b5.len
 refine qaj (fun q w'=>∃ n:Nat,∃ st SB zs,q=n/\n<=R.length/\CurE dbk pb FD D F M k v frm to J w3 cb B5 w' st SB zs/\Left D M k v frm to J 1 (zs.map (·.2)) (R.drop n)/\Buf encPr 2 w' s5 R B5/\Fr [] w w') (fun q _=>R.length-q.toNat) ⟨0,aq,ar,au,rfl,yW _,ax,ai,b5,h.fr⟩ ?_
 clear ax ai b5 h
 rintro q w6 ⟨n,az,ak,aA,rfl,hn,A,O,b6,f6⟩ X hX
 have V:=A.lt
 refine qaa (fun U=>?_) (fun U=>?_)
 ·have U:=zC U
  have ab:n<R.length:=by omega
  refine Rds.getA (x:=R[n]) (y:=(strL R[n].1,strL R[n].2)) (S:=[]) (b6.rds qbN fun b _=>by simp) n rfl (zA ab) rfl rfl ?_
  refine Own.new' (Own.start (cb::ak) w6) fun ra w7 e7 f7 C=>?_
  refine Own.st' C 0 rfl #[.string (strL R[n].1),.string (strL R[n].2)] rfl rfl (zO rfl) fun w8 C f8=>?_
  have Q:Fr [] w6 w8:=f7.trans' f8 fun b u=>.inr (by rw [zE.1 u]; omega)
  refine qhD (A.frame0 Q) O (fun a8=>?_) (fun x L' aB ks vs B1 B2 w9 a' ba bb hk aC bc bd f9 n4 n5 n6 aE=>?_)
  ·have:=congrArg List.length a8
   rw [yB,xJ] at this
   omega
  rw [zX ab] at aB
  obtain ⟨rfl,rfl⟩:=vC aB
  have C:=C.frame f9 (fun i hi=>.inl hi) fun p hp I=>by
   obtain rfl:p=(ra,.cells #[.string (strL R[n].1),.string (strL R[n].2)] RPT (0,0)):=by simpa using hp
   have:=V ra (by
    rcases zG.1 I with h | h
    ·exact zG.2 (.inl h)
    ·exact zN _ (zH _ h))
   omega
  refine Own.new' C fun rb bf bV bg C=>?_
  refine Own.sz C 0 rfl (prV ks vs) fun aF C bh=>?_
  have E:Fr [] w9 aF:=bg.trans' bh fun b u=>.inr (by rw [zE.1 u]; omega)
  have k1:=hk.frame0 E
  have v1:=aC.frame0 E
  obtain ⟨p1,p2,p3,p4⟩:=aw R[n] (zW ab)
  refine qag (fun q w'=>q=false/\w'=aF) ?_ ?_
  ·refine cond_false rfl ?_
   refine Own.ld C 0 rfl ks rfl ?_
   refine qdV (S:=[]) (BufB.rdb k1 fun b _=>by simp) p1 ?_
   refine Own.ld C 1 rfl (strL R[n].1) rfl ?_
   refine cond_false (by rw [beq_self_eq_true]; rfl) ?_
   refine Own.ld C 0 rfl vs rfl ?_
   refine qdV (S:=[]) (BufB.rdb v1 fun b _=>by simp) p2 ?_
   refine Own.ld C 1 rfl (strL R[n].2) rfl ?_
   exact ⟨by rw [beq_self_eq_true]; rfl,rfl⟩
  rintro q bi ⟨rfl,rfl⟩
  refine cond_false rfl ?_
  refine Own.ld C 0 rfl ks rfl ?_
  have ac:=C.at (i:=0) rfl
  have aG:=qac ac
  dsimp only at ac aG
  have aH:rb∉B1:=fun I=>by have:=hk.lt rb I; omega
  have bj:rb∉B2:=fun I=>by have:=aC.lt rb I; omega
  refine qo4 k1 ac rfl aH p3 fun bk al=>?_
  have aa:bk.heap[rb]?=some (.cells (prV ks vs) CPT (0,0)):=by rw [al.block rb aG aH]; exact ac
  refine qao aa vs rfl ?_
  refine qo4 (v1.frame al fun b u I=>aE b I u) aa rfl bj p4 fun aI bl=>?_
  have G:Fr (B1++B2) bi aI:=(al.mono fun b u _=>by simp [u]).trans (bl.mono fun b u _=>by simp [u])
  have aJ:Fr [] w aI:=(((f6.trans Q).trans' f9 fun b u=>.inr (zL ay (A.new b u))).trans E).trans' G fun b u=>.inr (by
   have h0:=(f6.trans Q).size
   rcases zD.1 u with u | u
   ·exact zL h0 (n5 b u)
   ·exact zL h0 (n6 b u))
  refine hX _ _ ⟨n+1,a',ba,bb,?_,ab,(bc.frame0 E).frame (G.mono fun b u _=>by simp only [zD] at u ⊢; rcases u with u | u <;> simp [u]) (fun b u=>.inl (by simp [u])) (fun b u=>?_),bd,?_,aJ⟩ ?_
  ·rw [wi' _ (by omega)]; rfl
  ·have:=V b (by simp [u])
   exact yC this (zL (zL Q.size f9.size) (zL E.size G.size))
  ·refine (((b6.frame0 Q).frame f9 fun b u I=>?_).frame0 E).frame G fun b u I=>?_
   ·rcases zG.1 I with rfl | I
    ·exact A.cby u
    ·exact A.sby b I u
   ·have:=b6.lt b u
    have:=Q.size
    rcases zD.1 I with I | I
    ·have:=n5 b I; omega
    ·have:=n6 b I; omega
  ·rw [wi' _ (by omega)]; omega
 ·have U:=zB U
  have bm:n=R.length:=by omega
  subst bm
  rw [drop_length] at O
  refine qaj (fun q w'=>∃ n:Nat,∃ st SB zs,q=n/\n<=3/\CurE dbk pb FD D F M k v frm to J w3 cb B5 w' st SB zs/\Left D M k v frm to J 1 (zs.map (·.2)) []/\Fr [] w w') (fun q _=>3-q.toNat) ⟨0,az,ak,aA,rfl,by decide,A,O,f6⟩ ?_
  clear A O b6 f6 V hX X
  rintro q w6 ⟨n,az,ak,aA,rfl,hn,A,O,f6⟩ X hX
  refine qaa (fun U=>?_) (fun U=>qjO (hv.frame0 f6) fun w' f=>kk w' (f6.trans f))
  have U:=zC U
  refine qhD A O (fun _ w7 bn f7=>?_) (fun x L' h=>nomatch h)
  refine Own.new' (Own.start [] w7) fun ra w8 e8 f8 C=>?_
  refine Own.sz C 0 rfl (prV ⟨none,0,0⟩ ⟨none,0,0⟩) fun w9 C f9=>?_
  refine qag (fun q w'=>q=false/\w'=w9) ?_ ?_
  ·refine cond_false rfl ?_
   refine Own.ld C 0 rfl ⟨none,0,0⟩ rfl ?_
   refine cond_false rfl ?_
   refine Own.ld C 0 rfl ⟨none,0,0⟩ rfl ?_
   exact ⟨rfl,rfl⟩
  rintro q bf ⟨rfl,rfl⟩
  refine cond_false rfl ?_
  refine hX _ _ ⟨n+1,⟨none,0,0⟩,[],[],?_,by omega,bn.frame0 C.fr,.inl ⟨rfl,rfl⟩,(f6.trans' f7 fun b u=>.inr (zL ay (A.new b u))).trans C.fr⟩ ?_
  ·rw [wi' _ (by omega)]; rfl
  ·rw [wi' _ (by omega)]; omega
end Go.Proofs.YtmmkegapckbomaaGreatDoor
end
