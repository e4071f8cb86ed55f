/- Texts FormsU, RfD, RfE, CuI, CuJ, CuK, HiB, TrL, CuA, CuB, CuL, LwA: contracts of the program's functions, one behind the other. Conditions: those that stand in each line. -/
import Derived.Test.YtmmkegapckbomaaGreatDoorCCL1
import Derived.Test.YtmmkegapckbomaaGreatDoorProg
import Derived.KernelRfl
import Derived.Test.YtmmkegapckbomaaGreatDoorCCL5
import Derived.Test.YtmmkegapckbomaaGreatDoorCCL3
set_option linter.unusedVariables false
set_option linter.unusedSimpArgs false
section
set_option maxRecDepth 100000
namespace Go.Proofs.YtmmkegapckbomaaGreatDoor
open Go Go.Pt
@[reducible] def qe1:List Cell:=[Cell.int IntKind.i64,Cell.slice,Cell.slice,Cell.slice,Cell.slice,Cell.bool]
def qbG (a0:Int) (a1:Sl) (a2:Sl) (a3:Sl) (a4:Sl) (a5:Bool) (K:Bool->WP) (w:World):Prop:=new (Obj.cells #[.i a0,a1.v,a2.v,a3.v,a4.v,.bool a5] 49) w fun b c=>join (Bool) (fun d=>ld .slice ⟨b,1,none⟩ c fun e=>cond (decide ((↑e.len:Int)>120)) (d true c) (ld .slice ⟨b,2,none⟩ c fun f=>cond (decide ((↑f.len:Int)>120)) (d true c) (ld .slice ⟨b,3,none⟩ c fun g=>cond (decide ((↑g.len:Int)>100)) (d true c) (ld .slice ⟨b,4,none⟩ c fun h=>d (decide ((↑h.len:Int)>100)) c)))) fun (i:Bool) j=>cond i (K true j) (ld .slice ⟨b,1,none⟩ j fun k=>loop (Int) (fun l (m:Int) n=>cond (decide (m<(↑k.len:Int))) (idx k m 1 fun o=>ld .slice o n fun p=>cond (decide ((↑p.len:Int)>100)) (K true n) (l (IntKind.wrap .i64 (m+1)) n)) (K false n)) 0 j)
theorem qcV {a0 a1 a2 a3 a4 a5 w K} (hF:qbG a0 a1 a2 a3 a4 a5 K w):cW 23 [.agg #[.i a0,a1.v,a2.v,a3.v,a4.v,.bool a5]] [.one .bool] w K:=qad (an:=[.n,.n,.j [(26,.one .bool)],.n,.n,.n,.l [(30,.one .i)],.n,.n,.n,.n,.n,.n,.n]) Tryz.func23 hF
def qcy  (K:Bool->WP) (w:World):Prop:=cW 14 ([.i 30]) ([.one .ptr,.one .ptr]) w fun (b:Option Addr×Option Addr) c=>cond (Option.isNone b.snd) (K false c) (new (Obj.cells #[.b 1,.b 3,.b 5] 5) c fun d e=>loop (Int) (fun f (g:Int) h=>cond (decide (g<(↑3:Int))) (idx ({ a:=pW d,len:=3,cap:=3 }) g 1 fun i=>ld .b i h fun (j:Int)=>new (Obj.cells #[.b j] 5) h fun k l=>mkS 5 ([.b 0]) 1 1 8 8 l fun m n=>cW 17 ([.pointer b.snd,.i 7,.slice (pW k) 1 1,m.v]) ([.one .i]) n fun (o:Int) p=>cond (!o==0) (K false p) (f (IntKind.wrap .i64 (g+1)) p)) (new (Obj.cells #[.b 2] 5) h fun q r=>new (Obj.cells #[.b 5] 5) r fun s t=>cW 26 ([.pointer b.snd,.i 7,.slice (pW q) 1 1,.slice (pW s) 1 1,.bool true,.i 9]) ([.one .slice]) t fun u v=>cond ((↑u.len:Int)==2) (idx u 0 2 fun x=>ld .slice x v fun y=>runQ [.one .str] (fun z=>(convert 23 9 y.v).run Tryz.prog z) v fun (A:ByteArray)=>cond (ByteArray.toList A==ByteArray.toList { data:=#[5] }) (idx u 1 2 fun B=>ld .slice B v fun C=>runQ [.one .str] (fun D=>(convert 23 9 C.v).run Tryz.prog D) v fun (E:ByteArray)=>K (ByteArray.toList E==ByteArray.toList { data:=#[3] }) v) (K false v)) (K false v))) 0 e)
theorem qeU {w K} (hF:qcy  K w):cW 24 [] [.one .bool] w K:=qad (an:=[.n,.n,.n,.n,.n,.n,.n,.l [(14,.one .i)],.n,.n,.n,.n,.n,.n,.n,.n]) Tryz.func24 hF
def qbE (a0:Int) (a1:Sl) (a2:Sl) (a3:Sl) (a4:Sl) (a5:Bool) (K:((Option Addr)×Int×Sl)->WP) (w:World):Prop:=new (Obj.cells #[.i a0,a1.v,a2.v,a3.v,a4.v,.bool a5] 49) w fun b c=>cW 14 ([.i 400]) ([.one .ptr,.one .ptr]) c fun (d:Option Addr×Option Addr) e=>ld .i ⟨b,0,none⟩ e fun (f:Int)=>cond (Option.isNone d.snd) (K ((none,IntKind.wrap .i64 (Int.tmod (IntKind.wrap .u64 f) 8),{ a:=none,len:=0,cap:=0 })) e) (cW 15 ([.i (IntKind.wrap .i64 (Int.tmod (IntKind.wrap .u64 f) 8))]) ([.one .i,.one .i]) e fun (g:Int×Int) h=>ld .slice ⟨b,1,none⟩ h fun i=>loop (Sl×Int) (fun j (k:Sl×Int) l=>cond (decide (k.snd<(↑i.len:Int))) (idx i k.snd 1 fun m=>ld .slice m l fun n=>runQ [.one .str] (fun o=>(convert 23 9 n.v).run Tryz.prog o) l fun (p:ByteArray)=>cW 16 ([.string p,.i g.fst,.b 0]) ([.one .str]) l fun (q:ByteArray) r=>mkS 5 ([.b 0]) 1 1 g.snd g.snd r fun s t=>idx s 0 1 fun u=>st u ([.b (IntKind.wrap .u8 k.snd)]) t fun v=>run [.one .slice] ((convert 9 23 (.string q)).run Tryz.prog v) fun x y=>cW 17 ([.pointer d.snd,.i (IntKind.wrap .i64 (Int.tmod (IntKind.wrap .u64 f) 8)),x.v,s.v]) ([.one .i]) y fun (z:Int) A=>cond (!z==0) (K ((none,IntKind.wrap .i64 (Int.tmod (IntKind.wrap .u64 f) 8),{ a:=none,len:=0,cap:=0 })) A) (runQ [.one .str] (fun B=>(convert 23 9 s.v).run Tryz.prog B) A fun (C:ByteArray)=>cW 18 ([k.fst.v,.i (IntKind.wrap .i64 (Int.tmod (IntKind.wrap .u64 f) 8)),.string q,.string C]) ([.one .slice,.one .i]) A fun (D:Sl×Int) E=>j ((D.fst,IntKind.wrap .i64 (k.snd+1))) E)) (join (Sl) (fun F=>ld .slice ⟨b,2,none⟩ l fun G=>loop (Sl×Int) (fun H (I:Sl×Int) J=>cond (decide (I.snd<(↑G.len:Int))) (idx G I.snd 1 fun L=>ld .b L J fun (M:Int)=>cond ((↑I.fst.len:Int)==0) (F I.fst J) (chk ((↑I.fst.len:Int)≠0)<|idx I.fst (Int.tmod (IntKind.wrap .i64 M) (↑I.fst.len:Int)) 2 fun N=>ld .str N J fun (O:ByteArray)=>run [.one .slice] ((convert 9 23 (.string O)).run Tryz.prog J) fun P Q=>cW 21 ([.pointer d.snd,.i (IntKind.wrap .i64 (Int.tmod (IntKind.wrap .u64 f) 8)),P.v]) ([.one .i]) Q fun (R:Int) S=>cond (!R==0) (K ((none,IntKind.wrap .i64 (Int.tmod (IntKind.wrap .u64 f) 8),{ a:=none,len:=0,cap:=0 })) S) (cW 22 ([I.fst.v,.i (IntKind.wrap .i64 (Int.tmod (IntKind.wrap .u64 f) 8)),.string O]) ([.one .slice,.one .i]) S fun (T:Sl×Int) U=>H ((T.fst,IntKind.wrap .i64 (I.snd+1))) U))) (F I.fst J)) ((k.fst,0)) l) fun V W=>K ((d.snd,IntKind.wrap .i64 (Int.tmod (IntKind.wrap .u64 f) 8),V)) W)) (({ a:=none,len:=0,cap:=0 },0)) h)
theorem qc1 {a0 a1 a2 a3 a4 a5 w K} (hF:qbE a0 a1 a2 a3 a4 a5 K w):cW 25 [.agg #[.i a0,a1.v,a2.v,a3.v,a4.v,.bool a5]] [.one .ptr,.one .i,.one .slice] w K:=qad (an:=[.n,.n,.n,.n,.n,.n,.n,.n,.n,.n,.l [(10,.one .slice),(38,.one .i)],.n,.n,.n,.n,.n,.n,.n,.n,.n,.n,.j [(10,.one .slice)],.n,.l [(10,.one .slice),(74,.one .i)],.n,.n,.n,.n,.n,.n,.n,.n,.n,.n,.n]) Tryz.func25 hF
def qcE (l:Sl) (K:Sl->WP) (w:World):Prop:=loop (Sl×Int) (fun b (c:Sl×Int) d=>cond (decide (c.snd<(↑l.len:Int))) (idx l c.snd 2 fun e=>ldA ([.slice,.slice]) e d fun (f:Sl×Sl)=>new (Obj.cells #[.slice none 0 0,.slice none 0 0] 62) d fun g h=>st ⟨g,0,none⟩ ([f.fst.v,f.snd.v]) h fun i=>ld .slice ⟨g,0,none⟩ i fun j=>runQ [.one .str] (fun k=>(convert 23 9 j.v).run Tryz.prog k) i fun (m:ByteArray)=>ld .slice ⟨g,1,none⟩ i fun n=>runQ [.one .str] (fun o=>(convert 23 9 n.v).run Tryz.prog o) i fun (p:ByteArray)=>new (Obj.cells #[.string m,.string p] 44) i fun q r=>run [.one .slice] ((Builtin.append_ (#[31,31]) 31 (#[c.fst.v,.slice (pW q) 1 1])).run Tryz.prog r) fun s t=>b ((s,IntKind.wrap .i64 (c.snd+1))) t) (K c.fst d)) (({ a:=none,len:=0,cap:=0 },0)) w
theorem qeV {l w K} (hF:qcE l K w):cW 28 [l.v] [.one .slice] w K:=qad (an:=[.n,.n,.n,.n,.l [(3,.one .slice),(8,.one .i)],.n,.n,.n,.n,.n]) Tryz.func28 hF
def qcR (a:Sl) (b:Sl) (K:Bool->WP) (w:World):Prop:=cond (!(↑a.len:Int)==(↑b.len:Int)) (K false w) (loop (Int) (fun c (d:Int) e=>cond (decide (d<(↑a.len:Int))) (idx a d 2 fun f=>ldA ([.str,.str]) f e.drew fun (g:ByteArray×ByteArray)=>idx b d 2 fun h=>ldA ([.str,.str]) h e.drew fun (i:ByteArray×ByteArray)=>runQ [.one .bool] (fun j=>(do eqGuard BinOp.neq 44 (Operand.tmp 20) (Operand.tmp 24) (.agg #[.string g.fst,.string g.snd]) (.agg #[.string i.fst,.string i.snd]); binOp BinOp.neq 44 (.agg #[.string g.fst,.string g.snd]) (.agg #[.string i.fst,.string i.snd])).run Tryz.prog j) e.drew fun (k:Bool)=>cond k (K false e.drew) (c (IntKind.wrap .i64 (d+1)) e.drew)) (K true e)) 0 w)
theorem qe2 {a b w K} (hF:qcR a b K w):cW 27 [a.v,b.v] [.one .bool] w K:=qad (an:=[.n,.n,.n,.n,.n,.n,.l [(5,.one .i)],.n,.n,.n,.n,.o [[0,1,2,3,4,5,6,7,8]],.n,.n]) Tryz.func27 hF
def qcQ (l:Sl) (most:Int) (K:Sl->WP) (w:World):Prop:=cond (decide (most<0)) (K ({ a:=none,len:=0,cap:=0 }) w) (cond (decide ((↑l.len:Int)>most)) (slc l none (some most) none 2 fun b=>K b w) (K l w))
theorem qfD {l most w K} (hF:qcQ l most K w):cW 29 [l.v,.i most] [.one .slice] w K:=qad (an:=[.n,.n,.n,.n,.n,.n,.n,.n]) Tryz.func29 hF
def qcG (l:Sl) (from_:ByteArray) (to:ByteArray) (down:Bool) (K:Sl->WP) (w:World):Prop:=new (Obj.cells #[] 44) w fun b c=>loop (Sl×Int) (fun d (e:Sl×Int) f=>cond (decide (e.snd<(↑l.len:Int))) (join (Sl) (fun g=>join (Bool) (fun h=>idx l e.snd 2 fun i=>ld .str i f fun (j:ByteArray)=>cW 34 ([.string j,.string from_]) ([.one .i]) f fun (k:Int) m=>cond (decide (k>=0)) (idx l e.snd 2 fun n=>ld .str n m fun (o:ByteArray)=>cW 34 ([.string o,.string to]) ([.one .i]) m fun (p:Int) q=>h (decide (p<=0)) q) (h false m)) fun (r:Bool) s=>cond r (idx l e.snd 2 fun t=>ldA ([.str,.str]) t s fun (u:ByteArray×ByteArray)=>new (Obj.cells #[.string u.fst,.string u.snd] 44) s fun v x=>run [.one .slice] ((Builtin.append_ (#[31,31]) 31 (#[e.fst.v,.slice (pW v) 1 1])).run Tryz.prog x) fun y z=>g y z) (g e.fst s)) fun A B=>d ((A,IntKind.wrap .i64 (e.snd+1))) B) (cond down (cW 33 ([e.fst.v]) ([.one .slice]) f fun C D=>K C D) (K e.fst f))) (({ a:=pW b,len:=0,cap:=0 },0)) c
theorem qeW {l from_ to down w K} (hF:qcG l from_ to down K w):cW 30 [l.v,.string from_,.string to,.bool down] [.one .slice] w K:=qad (an:=[.n,.n,.n,.n,.l [(9,.one .slice),(10,.one .i)],.n,.n,.j [(9,.one .slice)],.j [(35,.one .bool)],.n,.n,.n,.n]) Tryz.func30 hF
def qb8 (l:Sl) (K:Sl->WP) (w:World):Prop:=new (Obj.cells #[] 44) w fun b c=>loop (Sl×Int) (fun d (e:Sl×Int) f=>cond (decide (e.snd>=0)) (idx l e.snd 2 fun g=>ldA ([.str,.str]) g f fun (h:ByteArray×ByteArray)=>new (Obj.cells #[.string h.fst,.string h.snd] 44) f fun i j=>run [.one .slice] ((Builtin.append_ (#[31,31]) 31 (#[e.fst.v,.slice (pW i) 1 1])).run Tryz.prog j) fun k m=>d ((k,IntKind.wrap .i64 (e.snd-1))) m) (K e.fst f)) (({ a:=pW b,len:=0,cap:=0 },IntKind.wrap .i64 ((↑l.len:Int)-1))) c
theorem qef {l w K} (hF:qb8 l K w):cW 33 [l.v] [.one .slice] w K:=qad (an:=[.n,.n,.n,.n,.l [(3,.one .slice),(4,.one .i)],.n,.n,.n,.n]) Tryz.func33 hF
def qbF (a0:Int) (a1:Sl) (a2:Sl) (a3:Sl) (a4:Sl) (a5:Bool) (most:Int) (K:Bool->WP) (w:World):Prop:=new (Obj.cells #[.i a0,a1.v,a2.v,a3.v,a4.v,.bool a5] 49) w fun b c=>ldA (qe1) ⟨b,0,none⟩ c fun (d:Int×Sl×Sl×Sl×Sl×Bool)=>cW 23 ([.agg (List.toArray (HL.mk qe1 d))]) ([.one .bool]) c fun (e:Bool) f=>cond e (cW 24 [] ([.one .bool]) f fun (g:Bool) h=>K g h) (ldA (qe1) ⟨b,0,none⟩ f fun (i:Int×Sl×Sl×Sl×Sl×Bool)=>cW 25 ([.agg (List.toArray (HL.mk qe1 i))]) ([.one .ptr,.one .i,.one .slice]) f fun (j:Option Addr×Int×Sl) k=>cond (Option.isNone j.fst) (K false k) (ld .slice ⟨b,3,none⟩ k fun l=>ld .slice ⟨b,4,none⟩ k fun m=>ld .bool ⟨b,5,none⟩ k fun (n:Bool)=>cW 26 ([.pointer j.fst,.i j.snd.fst,l.v,m.v,.bool n,.i most]) ([.one .slice]) k fun o p=>cW 24 [] ([.one .bool]) p.drew fun (q:Bool) r=>cond q (ld .slice ⟨b,3,none⟩ r fun s=>runQ [.one .str] (fun t=>(convert 23 9 s.v).run Tryz.prog t) r fun (u:ByteArray)=>ld .slice ⟨b,4,none⟩ r fun v=>runQ [.one .str] (fun x=>(convert 23 9 v.v).run Tryz.prog x) r fun (y:ByteArray)=>ld .bool ⟨b,5,none⟩ r fun (z:Bool)=>cW 28 ([o.v]) ([.one .slice]) r fun A B=>held [cEl ⟨b,5,none⟩ (.bool z),fun D=>(convert 23 9 v.v).run Tryz.prog D=Result.ok (.string y) D,cEl ⟨b,4,none⟩ v.v,fun F=>(convert 23 9 s.v).run Tryz.prog F=Result.ok (.string u) F,cEl ⟨b,3,none⟩ s.v] B<|cW 30 ([j.snd.snd.v,.string u,.string y,.bool z]) ([.one .slice]) B fun H I=>cW 29 ([H.v,.i most]) ([.one .slice]) I fun J L=>cW 27 ([A.v,J.v]) ([.one .bool]) L fun (M:Bool) N=>cond M (ld .slice ⟨b,3,none⟩ N fun O=>ld .slice ⟨b,4,none⟩ N fun P=>ld .bool ⟨b,5,none⟩ N fun (Q:Bool)=>cW 26 ([.pointer j.fst,.i 8,O.v,P.v,.bool Q,.i most]) ([.one .slice]) N fun R S=>K ((↑R.len:Int)==0) S) (K false N)) (K false r)))
theorem qcS {a0 a1 a2 a3 a4 a5 most w K} (hF:qbF a0 a1 a2 a3 a4 a5 most K w):cW 4 [.agg #[.i a0,a1.v,a2.v,a3.v,a4.v,.bool a5],.i most] [.one .bool] w K:=qad (an:=[.n,.n,.n,.n,.n,.n,.n,.n,.n,.n,.o [[0,1,2,4,5,6,7,8,9,10,11,12,14,3,13,15,16,17,18,19,20,21,22,23,24,25,26,27,28,29,30,31]]]) Tryz.func4 hF
end Go.Proofs.YtmmkegapckbomaaGreatDoor
end
section
namespace Go.Proofs.YtmmkegapckbomaaGreatDoor
open Go Go.Pt List
open Classical
attribute [local irreducible] ld ldA ldV fld fldA newZ st new idx idxS idxA slc slcS slcP mkS chk nn call callV inv run runQ runU join loop held ext rng undefer s2a nxt ent IntKind.wrap
theorem qqd {w:World} {S:List Nat} {s:Sl} {L:Prs} {K:Sl->WP} (h:Rds encPr 2 S w s L) (hL:L.length<=100000)
  (U:∀ Q B' w',Buf encPr 2 w' Q L.reverse B'->Fr [] w w'->(∀ b∈B',w.heap.size<=b)->K Q w') :
  cW 33 [s.v] [.one .slice] w K:=by
 refine qef ?_
 unfold qb8
 have A:s.len=L.length:=h.1
 refine Own.new' (Own.start [] w) fun r V e1 f1 I=>?_
 have J:Buf encPr 2 V ⟨pW r,0,0⟩ [] [r]:=Buf.none (I.at (i:=0) rfl)
 refine qaj (fun q w'=>∃ i:Nat,∃ B,q.2=(i:Int)-1/\i<=L.length/\Buf encPr 2 w' q.1 (L.drop i).reverse B/\Fr [] w w'/\(∀ b∈B,w.heap.size<=b)) (fun q _=>(q.2+1).toNat) ⟨L.length,[r],by show IntKind.wrap .i64 _=_; rw [wi' _ (by omega),A],zM _,by rw [drop_length]; exact J,f1,fun b u=>by rw [zE.1 u]; omega⟩ ?_
 rintro ⟨s1,y⟩ w2 ⟨i,B,R,hi,u,G,O⟩ X hX
 dsimp only at R u ⊢
 subst R
 refine qaa (fun C=>?_) (fun C=>?_)
 ·have C:=zC C
  obtain ⟨i,rfl⟩:∃ j,i=j+1:=⟨i-1,by omega⟩
  have E:i<L.length:=by omega
  have e0:((i+1:Nat):Int)-1=(i:Int):=by omega
  refine Rds.getA (x:=L[i]) (y:=(strL L[i].1,strL L[i].2)) (h.frame0 G) i e0 (zA E) rfl rfl ?_
  refine qdZ (x:=L[i]) u rfl rfl (by rw [length_reverse,yB]; omega) fun s5 B5 w5 b5 f5 n5=>?_
  refine hX _ _ ⟨i,B5,?_,by omega,?_,G.trans' f5 (fun b u=>.inr (O b u)),fun b u=>?_⟩ ?_
  ·show IntKind.wrap .i64 _=_
   rw [wi' _ (by omega)]; omega
  ·rw [zX E,reverse_cons]
   exact b5
  ·rcases n5 b u with h | h
   ·exact O b h
   ·exact zL G.size h
  ·show (IntKind.wrap .i64 _+1).toNat<_
   rw [wi' _ (by omega)]; dsimp only; omega
 ·have C:=zB C
  have:i=0:=by omega
  subst this
  exact U s1 B w2 u G O
def inR (frm to:Key) (x:Key×Key):Bool:=decide (cmpL x.1 frm>=0)&&decide (cmpL x.1 to<=0)
def rangeP (frm to:Key) (L:Prs):Prs:=L.filter (inR frm to)
theorem qof {frm to:Key} {L:Prs} {i:Nat} (h:i<L.length):rangeP frm to (L.take (i+1))=rangeP frm to (L.take i)++if inR frm to L[i] then [L[i]] else []:=by
 unfold rangeP
 rw [yF h,xB]
 congr 1
 cases e:inR frm to L[i] <;> simp [e]
theorem qrA {w:World} {S:List Nat} {s:Sl} {L:Prs} {frm to:Key} {down:Bool} {K:Sl->WP} (h:Rds encPr 2 S w s L) (hP:PrB L) (hL:L.length<=100000) (hf:IsB frm) (ht:IsB to) (lf:frm.length<=1000000) (lt:to.length<=1000000)
  (kk:∀ Q B' w',Buf encPr 2 w' Q (if down then (rangeP frm to L).reverse else rangeP frm to L) B'->Fr [] w w'->(∀ b∈B',w.heap.size<=b)->K Q w') :
  cW 30 [s.v,.string (strL frm),.string (strL to),.bool down] [.one .slice] w K:=by
 refine qeW ?_
 unfold qcG
 have ac:s.len=L.length:=h.1
 refine Own.new' (Own.start [] w) fun r w1 e1 f1 U=>?_
 have V:Buf encPr 2 w1 ⟨pW r,0,0⟩ [] [r]:=Buf.none (U.at (i:=0) rfl)
 refine qaj (fun q w'=>∃ i:Nat,∃ B,q.2=i/\i<=L.length/\Buf encPr 2 w' q.1 (rangeP frm to (L.take i)) B/\Fr [] w w'/\(∀ b∈B,w.heap.size<=b)) (fun q _=>L.length-q.2.toNat) ⟨0,[r],rfl,yW _,V,f1,fun b u=>by rw [zE.1 u]; omega⟩ ?_
 rintro ⟨s1,y⟩ w2 ⟨i,B,hy,hi,u,I,R⟩ X hX
 dsimp only at hy u ⊢
 subst hy
 refine qaa (fun J=>?_) (fun J=>?_)
 ·have J:=zC J
  have A:i<L.length:=by omega
  obtain ⟨p1,p2,p3,p4⟩:=hP L[i] (zW A)
  refine qag (fun q w'=>∃ B',Buf encPr 2 w' q (rangeP frm to (L.take (i+1))) B'/\Fr [] w w'/\∀ b∈B',w.heap.size<=b) ?_ ?_
  ·refine qag (fun b w'=>b=inR frm to L[i]/\Fr [] w2 w') ?_ ?_
   ·refine Rds.str1 (h.frame0 I) i rfl A ?_
    refine qkQ p1 hf p3 lf fun w3 C=>?_
    refine qaa (fun E=>?_) (fun E=>?_)
    ·refine Rds.str1 (h.frame0 (I.trans C)) i rfl A ?_
     refine qkQ p1 ht p3 lt fun w4 f4=>?_
     exact ⟨by unfold inR; rw [E,Bool.true_and],C.trans f4⟩
    ·exact ⟨by unfold inR; rw [E,Bool.false_and],C⟩
   rintro b w3 ⟨rfl,C⟩
   have G:=I.trans C
   rw [qof A]
   refine qaa (fun E=>?_) (fun E=>?_)
   ·refine Rds.getA (x:=L[i]) (y:=(strL L[i].1,strL L[i].2)) (h.frame0 G) i rfl (zA A) rfl rfl ?_
    have O:(rangeP frm to (L.take i)).length<=1000000:=by
     have E:(rangeP frm to (L.take i)).length<=(L.take i).length:=length_filter_le _ _
     rw [yK] at E
     omega
    refine qdZ (x:=L[i]) (u.frame0 C) rfl rfl O fun s5 B5 w5 b5 f5 n5=>?_
    refine ⟨B5,by rw [if_pos E]; exact b5,G.trans' f5 (fun b u=>.inr (R b u)),fun b u=>?_⟩
    rcases n5 b u with h | h
    ·exact R b h
    ·exact zL G.size h
   ·exact ⟨B,by rw [if_neg (by rw [E]; decide),xG]; exact u.frame0 C,G,R⟩
  ·rintro q w3 ⟨B3,b3,C,n3⟩
   refine hX _ _ ⟨i+1,B3,?_,A,b3,C,n3⟩ ?_
   ·show IntKind.wrap .i64 _=_
    rw [wi' _ (by omega)]; rfl
   ·show L.length-(IntKind.wrap .i64 _).toNat<_
    rw [wi' _ (by omega)]; show _<L.length-((i:Int)).toNat; omega
 ·have J:=zB J
  have aa:i=L.length:=by omega
  subst aa
  rw [xZ] at u
  cases down with
  | false=>exact kk s1 B w2 u I R
  | true=>
   have O:(rangeP frm to L).length<=L.length:=length_filter_le _ _
   refine cond_true rfl ?_
   refine qqd (S:=[]) (u.rds qbx fun b _=>by simp) (by omega) fun Q B' w' b' f' n'=>?_
   exact kk Q B' w' b' (I.trans f') fun b u=>zL I.size (n' b u)
section
def rangeD (down:Bool) (frm to:Key) (L:Prs):Prs:=if down then (rangeP frm to L).reverse else rangeP frm to L
theorem qsC {frm to:Key} {L:Prs} (E:SortP L):(fromP frm L).takeWhile (fun x=>!overV false frm to x.1)=rangeP frm to L:=by
 unfold fromP
 rw [qdV]
 ·rw [filter_filter]
  unfold rangeP
  congr 1
  funext x
  unfold inR overV KLt
  have:=qdK x.1 to
  by_cases A:cmpL x.1 frm<0 <;> by_cases u:cmpL x.1 to>0 <;> simp [A,u] <;> omega
 ·refine ((pairwise_map.1 E).filter _).imp ?_
  intro a b C h
  unfold overV at h ⊢
  simp only [Bool.false_eq_true,if_false,zT,decide_eq_false_iff_not] at h ⊢
  intro G
  have A:KLt to a.1:=by unfold KLt; rw [qbn]; omega
  have u:=qat A C
  unfold KLt at u
  rw [qbn] at u
  omega
theorem qqk {frm to:Key} {L:Prs} (A:SortP L):(toP to L).reverse.takeWhile (fun x=>!overV true frm to x.1)=(rangeP frm to L).reverse:=by
 unfold toP
 rw [qdV]
 ·rw [filter_reverse,filter_filter]
  unfold rangeP
  congr 2
  funext x
  have e:KLt to x.1↔cmpL x.1 to>0:=by unfold KLt; rw [qbn to x.1]; omega
  have C:decide (cmpL x.1 frm>=0) = !decide (cmpL x.1 frm<0):=by rw [<- decide_not]; exact decide_eq_decide.2 (by omega)
  have E:decide (¬ KLt to x.1)=decide (cmpL x.1 to<=0):=decide_eq_decide.2 (by rw [e]; omega)
  unfold inR overV
  simp only [if_true]
  rw [C,E]
 ·rw [pairwise_reverse]
  refine ((pairwise_map.1 A).filter _).imp ?_
  intro a b u h
  unfold overV at h ⊢
  simp only [if_true,zT,decide_eq_false_iff_not] at h ⊢
  intro G
  exact h (qat u G)
section
variable {dbk pb:Nat} {FD F:List Nat} {D:DiskM} {M:PgM} {k v:Nat} {frm to:Key} {down:Bool} {w0 w wA:World} {cb:Nat} {Y SB:List Nat} {st:Sl} {zs:List FrZ}
theorem BufB.rdb {S:List Nat} {w:World} {s:Sl} {l:List Int} {B:List Nat} (h:BufB w s l B) (u:∀ b∈B,b∉S):RdB S w s l:=h.rds qas u
theorem qs4 {S:List Nat} {t:Int} {sf sto:Sl} {L:Prs} {P:List Int} {K:Option Addr->WP} (hT:TW dbk pb FD D 5000 w Y F M) (hs:shp t=((k:Int),(v:Int))) (hL:(k=0/\L=[])\/(k≠0/\TreeIs D M k v t L P)) (hLl:L.length<=90000) (hf:RdB S w sf frm) (ht:RdB S w sto to) (hfl:frm.length<=1000000) (htl:to.length<=1000000) (hfB:IsB frm) (htB:IsB to)
  (kk:∀ cb w' st SB zs,CurE dbk pb FD D F M k v frm to down w cb Y w' st SB zs->Left D M k v frm to down 1 (zs.map (·.2)) (rangeD down frm to L)->Fr [] w w'->K (pW cb) w') :
  cW 31 [.pointer (pW pb),.i t,sf.v,sto.v,.bool down] [.one .ptr] w K:=by
 refine qkJ (p:=pW pb) (t:=t) (from_:=sf) (to:=sto) (down:=down) ?_
 unfold qgH
 refine qmN ?_
 rw [hs]
 refine qa8 hf hfl fun s1 B1 w1 b1 f1 n1 _ _=>?_
 refine qa8 (ht.frame0 f1) htl fun s2 B2 w2 b2 f2 n2 _ _=>?_
 refine Own.new' (Own.start [] w2) fun cb w3 e3 f3 h=>?_
 have hnf:(#[.pointer (pW pb),.i (k:Int),.i (v:Int),s1.v,s2.v,.slice none 0 0,.nilFunc,.nilFunc,.nilFunc]:Array Value)=(CuX.cells ⟨pb,k,v,s1,s2,⟨none,0,0⟩,.nilFunc,.nilFunc,.nilFunc⟩):=rfl
 refine Own.sz h 0 rfl (CuX.cells ⟨pb,k,v,s1,s2,⟨none,0,0⟩,dir1 cb false,.nilFunc,.nilFunc⟩) fun w4 h f4=>?_
 refine Own.sz h 0 rfl (CuX.cells ⟨pb,k,v,s1,s2,⟨none,0,0⟩,dir1 cb false,dir2 cb false,.nilFunc⟩) fun w5 h f5=>?_
 refine Own.sz h 0 rfl (CuX.cells ⟨pb,k,v,s1,s2,⟨none,0,0⟩,dir1 cb false,dir2 cb false,dir3 cb false⟩) fun w6 h f6=>?_
 refine qag (fun _ w'=>∃ T,Own [] w2 w' [(cb,.cells (CuX.cells ⟨pb,k,v,s1,s2,⟨none,0,0⟩,dir1 cb down,dir2 cb down,dir3 cb down⟩) T (0,0))]) ?_ ?_
 ·cases down with
  | false=>exact cond_false rfl ⟨_,h⟩
  | true=>
   refine cond_true rfl ?_
   refine Own.sz h 0 rfl (CuX.cells ⟨pb,k,v,s1,s2,⟨none,0,0⟩,dir1 cb true,dir2 cb false,dir3 cb false⟩) fun w7 h f7=>?_
   refine Own.sz h 0 rfl (CuX.cells ⟨pb,k,v,s1,s2,⟨none,0,0⟩,dir1 cb true,dir2 cb true,dir3 cb false⟩) fun w8 h f8=>?_
   refine Own.sz h 0 rfl (CuX.cells ⟨pb,k,v,s1,s2,⟨none,0,0⟩,dir1 cb true,dir2 cb true,dir3 cb true⟩) fun w9 h f9=>?_
   exact ⟨_,h⟩
 rintro _ w7 ⟨T,h⟩
 have f07:Fr [] w w7:=(f1.trans f2).trans h.fr
 have hcl:=qac (h.at (i:=0) rfl)
 dsimp only at hcl
 have hz1:=f1.size
 have hz2:=f2.size
 have hT7:=hT.frame0 f07
 have hylt:=hT.ylt
 have hcw:w.heap.size<=cb:=by omega
 have hC:CurE dbk pb FD D F M k v frm to down w cb Y w7 ⟨none,0,0⟩ [] []:=by
  refine ⟨⟨s1,s2,⟨T,h.at (i:=0) rfl⟩,BufB.rdb ((b1.frame0 f2).frame0 h.fr) (fun b hb hm=>?_),BufB.rdb (b2.frame0 h.fr) (fun b hb hm=>?_)⟩,?_,.nil _ _ _,(fun z hz=>nomatch hz),(fun h=>nomatch h),(fun hm=>?_),(fun b hb=>nomatch hb),(fun b hb=>?_),hfB,htB,yW _⟩
  ·have:=b1.lt b hb; have:=n1 b hb
   rcases zG.1 hm with rfl | hm
   ·omega
   ·have:=hylt b (by simpa using hm); omega
  ·have:=b2.lt b hb; have:=n2 b hb
   rcases zG.1 hm with rfl | hm
   ·omega
   ·have:=hylt b (by simpa using hm); omega
  ·exact hT.addY (B:=[cb]) (f07.mono fun _ h=>nomatch h) fun b hb=>by rw [zE.1 hb]; exact ⟨hcw,hcl⟩
  ·have:=hylt cb hm; omega
  ·rw [zE.1 hb]; exact hcw
 refine qag (fun _ w'=>∃ st SB zs,CurE dbk pb FD D F M k v frm to down w cb Y w' st SB zs/\Left D M k v frm to down 1 (zs.map (·.2)) (rangeD down frm to L)/\Fr [] w w') ?_ ?_
 ·refine TW.root hT7 fun w8 f8=>?_
  have hC8:=hC.frame0 f8
  refine qag (fun q w'=>q=decide (0<k/\(rootM M t).1≠0)/\w'=w8) ?_ ?_
  ·refine qaa (fun h=>⟨?_,rfl⟩) (fun h=>⟨?_,rfl⟩)
   ·have h:=zC h
    rw [Bool.eq_iff_iff,yM,zT,zR]
    exact ⟨fun g=>⟨by omega,g⟩,fun g=>g.2⟩
   ·have h:=zB h
    exact (zU fun g=>h (by omega)).symm
  rintro q w9 ⟨rfl,rfl⟩
  have h0:L=[]->Left D M k v frm to down 1 ([]:List CFr) (rangeD down frm to L):=fun e=>.inl ⟨rfl,by rw [e]; unfold rangeD rangeP; simp⟩
  refine qaa (fun hq=>?_) (fun hq=>?_)
  ·obtain ⟨hk,hr⟩:=zC hq
   obtain ⟨_,hTr⟩:k≠0/\TreeIs D M k v t L P:=hL.resolve_left fun h=>by omega
   have hrh:=(qbh hTr).1
   rcases hTr with ⟨e,_,_⟩ | ⟨hh,n,p,hp,e,hHas⟩
   ·rw [e] at hr
    exact absurd rfl hr
   ·have hrh2:hh+1<=L.length:=by
     rw [e] at hrh
     exact hrh
    have hpu:U32 p:=by
     have:=(qgf hT.wf t).1
     rw [e] at this
     exact this
    rw [e]
    refine qlB (s:=⟨p,n,L,P⟩) hHas hpu hC8 (by show 0+hh+1<=100000; omega) fun w10 st10 SB10 zs10 hC10 hp10 f10 n10=>?_
    refine ⟨st10,SB10,zs10,hC10,?_,(f07.trans f8).trans' f10 fun b hb=>.inr ?_⟩
    ·obtain ⟨fs,e1,e2⟩:=qpS (frm:=frm) (to:=to) (down:=down) hHas
     rw [hp10] at e1
     have e1:=yN e1
     rw [e1]
     refine .inr ⟨hh,_,e2,?_,fun e=>absurd e (by decide)⟩
     have hso:=hHas.sort
     unfold rangeD
     cases down with
     | false=>exact (qsC hso).symm
     | true=>exact (qqk hso).symm
    ·rw [zE.1 hb]; exact hcw
  ·have hq:=zB hq
   have hLn:L=[]:=by
    rcases hL with h | ⟨hk,hTr⟩
    ·exact h.2
    ·rcases hTr with ⟨_,h,_⟩ | ⟨hh,n,p,hp,e,hHas⟩
     ·exact h
     ·exact absurd ⟨by omega,by rw [e]; exact hp⟩ hq
   exact ⟨⟨none,0,0⟩,[],[],hC8,h0 hLn,f07.trans f8⟩
 rintro _ w8 ⟨st8,SB8,zs8,hC8,hL8,f8⟩
 exact kk cb w8 st8 SB8 zs8 hC8 hL8 f8
end
end
section
abbrev SS:=Sl×Sl
def encSS (x:SS):List Value:=[x.1.v,x.2.v]
theorem qhl:∀ z,(encSS z).length=2:=fun _=>rfl
theorem qqP (z:SS):∀ u∈encSS z,u.oneCell'=true:=fun u h=>by
 unfold encSS at h
 simp only [zG,xX,or_false] at h
 rcases h with rfl | rfl <;> rfl
theorem qul:∃ i,Tryz.prog.info? CPT=some i/\i.zero=some (.agg #[.slice none 0 0,.slice none 0 0])/\i.size=2/\i.bytes=48:=qcX (by kernel_rfl)
theorem que {w:World} {s:Sl} {zs:List SS} {SB:List Nat} {x:SS} {K:Sl->WP} (h:Buf encSS 2 w s zs SB) (O:zs.length<=1000000) (E:∀ C B' w',Buf encSS 2 w' C (zs++[x]) B'->Fr SB w w'->(∀ b∈B',b∈SB\/w.heap.size<=b)->K C w') :
  Pt.new (.cells (prV x.1 x.2) CPT) w fun r G=>Pt.run [Ty1.one Cell.slice] ((Builtin.append_ #[52,52] 52 #[s.v,.slice (pW r) 1 1]).run Tryz.prog G) K:=by
 obtain ⟨j,I,J,u,A⟩:=qul
 exact Buf.push (e:=CPT) (x:=x) h qhl (qqP _) (by kernel_rfl) I J u rfl rfl (by rw [A]; omega) (by omega) E
def RowsP (w:World) (h:List Nat) (ps:List (SS×(Key×Key))):Prop:=∀ p∈ps,∃ u A,BufB w p.1.1 p.2.1 u/\BufB w p.1.2 p.2.2 A/\(∀ b∈u,b∈h)/\∀ b∈A,b∈h
theorem RowsP.frame {w w':World} {S C A:List Nat} {ps:List (SS×(Key×Key))} (h:RowsP w C ps) (f:Fr S w w') (E:∀ b∈C,b∉S) (G:∀ b∈C,b∈A):RowsP w' A ps:=fun p K=>by
 obtain ⟨O,Q,R,U,I,J⟩:=h p K
 exact ⟨O,Q,R.frame f fun b u=>E b (I b u),U.frame f fun b u=>E b (J b u),fun b u=>G b (I b u),fun b u=>G b (J b u)⟩
section
variable {dbk pb:Nat} {FD F:List Nat} {D:DiskM} {M:PgM} {k v:Nat} {frm to:Key} {down:Bool} {w0 w wA:World} {cb:Nat} {Y SB:List Nat} {st:Sl} {zs:List FrZ}
theorem qg6 {S:List Nat} {t most:Int} {sf af:Sl} {L:Prs} {P:List Int} {K:Sl->WP} (hT:TW dbk pb FD D 5000 w [] F M) (hs:shp t=((k:Int),(v:Int))) (hL:(k=0/\L=[])\/(k≠0/\TreeIs D M k v t L P)) (au:L.length<=90000) (hf:RdB S w sf frm) (ht:RdB S w af to) (av:frm.length<=1000000) (aw:to.length<=1000000) (ax:IsB frm) (ay:IsB to)
  (kk:∀ s w' B A ps,Buf encSS 2 w' s (ps.map (·.1)) B->RowsP w' A ps->(∀ b∈A,b∉B)->ps.map (·.2)=(rangeD down frm to L).take most.toNat->Fr [] w w'->(∀ b∈B,w.heap.size<=b)->(∀ b∈A,w.heap.size<=b)->K s w') :
  cW 26 [.pointer (pW pb),.i t,sf.v,af.v,.bool down,.i most] [.one .slice] w K:=by
 refine qk4 ?_
 unfold qhi
 refine qs4 hT hs hL au hf ht av aw ax ay fun cb w1 st SB zs ag az f1=>?_
 have a4:(rangeD down frm to L).length<=90000:=by
  have R:(rangeP frm to L).length<=L.length:=length_filter_le _ _
  unfold rangeD
  split
  ·rw [length_reverse]; omega
  ·omega
 have a5:∀ b∈cb::SB,w.heap.size<=b:=ag.new
 refine qag (fun s w'=>∃ B A ps,Buf encSS 2 w' s (ps.map (·.1)) B/\RowsP w' A ps/\(∀ b∈A,b∉B)/\ps.map (·.2)=(rangeD down frm to L).take most.toNat/\Fr [] w w'/\(∀ b∈B,w.heap.size<=b)/\(∀ b∈A,w.heap.size<=b)) ?_ ?_
 ·refine qh4 (fun (i:Nat) s w'=>∃ B A ps st SB zs,i<=(rangeD down frm to L).length/\Buf encSS 2 w' s (ps.map (·.1)) B/\RowsP w' A ps/\(∀ b∈A,b∉B)/\ps.map (·.2)=(rangeD down frm to L).take i/\(most.toNat<i->i=0)/\Fr [] w w'/\(∀ b∈B,w.heap.size<=b)/\(∀ b∈A,w.heap.size<=b)/\CurE dbk pb FD D F M k v frm to down w cb (B++A) w' st SB zs/\Left D M k v frm to down 1 (zs.map (·.2)) ((rangeD down frm to L).drop i)) (fun i=>(rangeD down frm to L).length+1-i) 0 ⟨[],[],[],st,SB,zs,yW _,.nil _ _ _,(fun p V=>nomatch V),(fun b u=>nomatch u),rfl,fun _=>rfl,f1,(fun b u=>nomatch u),(fun b u=>nomatch u),ag,by rw [xE]; exact az⟩ ?_
  rintro i s w2 ⟨B,A,ps,a6,aa,a7,hi,u,hR,hd,J,aD,f2,n2,n3,E,aF⟩ X hX
  have a9:s.len=i:=by
   rw [u.len,zK]
   have:=congrArg List.length J
   rw [zK,yK] at this
   omega
  refine qaa (fun hc=>?_) (fun hc=>?_)
  rotate_left
  ·have hc:=zB hc
   refine ⟨B,A,ps,u,hR,hd,?_,f2,n2,n3⟩
   rw [J]
   by_cases h0:most.toNat<i
   ·have:=aD h0; omega
   ·have:most.toNat=i:=by omega
    rw [this]
  have hc:=zC hc
  have a':i<most.toNat:=by omega
  have ba:=E.lt
  refine qqN E aF (fun aG w3 ab f3=>?_) (fun x L' O ks vs B1 B2 w3 aH aI aJ hk hv ab aK f3 n4 n5 n6 aU=>?_)
  ·refine Own.new' (Own.start [] w3) fun r w4 e4 f4 h=>?_
   refine Own.sz h 0 rfl (prV ⟨none,0,0⟩ ⟨none,0,0⟩) fun w5 h f5=>?_
   refine cond_true rfl ?_
   have ac:Fr (cb::aa) w2 w5:=f3.trans (h.fr.mono fun _ h=>nomatch h)
   have C:∀ b∈B++A,b∉cb::aa:=fun b u I=>by
    rcases zG.1 I with rfl | I
    ·exact E.cby u
    ·exact E.sby b I u
   refine ⟨B,A,ps,u.frame ac fun b u=>C b (by simp [u]),hR.frame ac (fun b u=>C b (by simp [u])) fun b u=>u,hd,?_,f2.trans' ac fun b u=>.inr (E.new b u),n2,n3⟩
   rw [J]
   have G:(rangeD down frm to L).length<=i:=by
    have:=congrArg List.length aG
    rw [yB,xJ] at this
    omega
   rw [zS G,zS (by omega)]
  ·have G:i<(rangeD down frm to L).length:=by
    have:=congrArg List.length O
    rw [yB,yH] at this
    omega
   have hx:(rangeD down frm to L).take (i+1)=(rangeD down frm to L).take i++[x]:=by
    rw [yF G]
    rw [zX G] at O
    rw [(vC O).1]
   have ad:(rangeD down frm to L).drop (i+1)=L':=by
    rw [zX G] at O
    exact (vC O).2
   have C:∀ b∈B++A,b∉cb::aa:=fun b u I=>by
    rcases zG.1 I with rfl | I
    ·exact E.cby u
    ·exact E.sby b I u
   have aM:Buf encSS 2 w3 s (ps.map (·.1)) B:=u.frame f3 fun b u=>C b (by simp [u])
   have aN:RowsP w3 (B1++(B2++A)) (ps++[((ks,vs),x)]):=fun p V=>by
    rcases zD.1 V with V | V
    ·exact hR.frame f3 (fun b u=>C b (by simp [u])) (fun b u=>by simp [u]) p V
    ·rw [zE.1 V]
     exact ⟨B1,B2,hk,hv,fun b u=>by simp [u],fun b u=>by simp [u]⟩
   have an:∀ b∈B1++(B2++A),b∉B:=fun b Q I=>by
    have:=u.lt b I
    rcases zD.1 Q with h | Q
    ·have:=n5 b h; omega
    ·rcases zD.1 Q with h | Q
     ·have:=n6 b h; omega
     ·exact hd b Q I
   refine Own.new' (Own.start [] w3) fun r w4 e4 f4 h=>?_
   refine Own.sz h 0 rfl (prV ks vs) fun w5 h f5=>?_
   refine cond_false rfl ?_
   refine Own.ldA h 0 rfl (ks,vs) rfl ?_
   have aO:=ab.frame0 h.fr
   refine que (x:=(ks,vs)) (aM.frame0 h.fr) (by rw [zK]; have:=congrArg List.length J; rw [zK,yK] at this; omega) fun s6 B6 w6 b6 f6 n7=>?_
   have ao:=ab.lt
   have U:∀ b∈B1++(B2++A),b<w5.heap.size:=fun b u=>yC (ao b (by simp only [zD,zG] at u ⊢; rcases u with h | h | h <;> simp [h])) h.fr.size
   have aQ:Fr [] w w6:=by
    refine (f2.trans' f3 fun b u=>.inr (E.new b u)).trans (h.fr) |>.trans' f6 fun b u=>.inr (n2 b u)
   have hz:=(f2.trans' f3 fun b u=>.inr (E.new b u)).size
   refine hX (i+1) s6 w6 ⟨B6,B1++(B2++A),ps++[((ks,vs),x)],aH,aI,aJ,G,by rw [xM]; exact b6,(aN.frame h.fr (fun _ _ h=>nomatch h) fun b u=>u).frame f6 an fun b u=>u,fun b u I=>?_,by rw [xM,J,hx]; rfl,fun h=>by omega,aQ,fun b u=>?_,fun b u=>?_,aO.frame (f6.mono fun b u _=>by simp [u]) (fun b u=>?_) (fun b u=>?_),by rw [ad]; exact aK⟩ ?_
   ·rcases n7 b I with R | R
    ·exact an b u R
    ·have:=U b u; omega
   ·rcases n7 b u with R | R
    ·exact n2 b R
    ·have:=h.fr.size; omega
   ·have ap:=f2.size
    rcases zD.1 u with h | u
    ·exact zL ap (n5 b h)
    ·rcases zD.1 u with h | u
     ·exact zL ap (n6 b h)
     ·exact n3 b u
   ·rcases zD.1 u with u | u
    ·exact (n7 b u).imp (fun h=>by simp [h]) id
    ·exact .inl (by simp only [zD] at u ⊢; rcases u with h | h | h <;> simp [h])
   ·rcases zD.1 u with u | u
    ·exact b6.lt b u
    ·exact yC (U b u) f6.size
   ·show _+1-(i+1)<_+1-i
    omega
 rintro s w2 ⟨B,A,ps,R,h2,h3,h4,h5,h6,h7⟩
 exact kk s w2 B A ps R h2 h3 h4 h5 h6 h7
end
end
end Go.Proofs.YtmmkegapckbomaaGreatDoor
end
section
namespace Go.Pt
open Go
theorem quc {P:Program} {t:TypeId} {x y:Operand} {cs ds:Array Value} {w:World} {K:Bool->Prop} (d:Nat) (E:d<=10000) (r:Bool) (h:eqV P d t (.agg cs) (.agg ds)=some r)
  (A:P.eqGuardType P.depth t=false) (k:K (!r)) :
  runQ [Ty1.one Cell.bool] (fun w'=>(do eqGuard .neq t x y (.agg cs) (.agg ds); binOp .neq t (.agg cs) (.agg ds):Sem Value).run P w') w K:=by
 have u:=qkZ d t _ _ r h (10000-d) w
 rw [show d+(10000-d)=10000 by omega] at u
 have C:(binOp .neq t (.agg cs) (.agg ds)).run P w=.ok (.bool (!r)) w:=qaA (P:=P) true u (by simp) (by simp) (by simp) (by simp)
 refine qbc (ts:=[Ty1.one Cell.bool]) (!r) ?_ k
 show ((do eqGuard .neq t x y (.agg cs) (.agg ds); binOp .neq t (.agg cs) (.agg ds):Sem Value).run P w)=Result.ok (Value.bool (!r)) w
 simp [eqGuard,A,C]
theorem qqH {A B C D E:WP} {w:World} {K:Prop} (a:A w) (b:B w) (c:C w) (d:D w) (e:E w) (k:K):held [A,B,C,D,E] w K:=⟨⟨a,b,c,d,e⟩,k⟩
end Go.Pt
namespace Go.Proofs.YtmmkegapckbomaaGreatDoor
open Go Go.Pt List
open Classical
attribute [local irreducible] ld ldA ldV fld fldA newZ st new idx idxS idxA slc slcS slcP mkS chk nn call callV inv run runQ runU join loop held ext rng undefer s2a nxt ent IntKind.wrap
abbrev RPT:TypeId:=44
theorem quO (a b c d:ByteArray):eqV Tryz.prog 2 RPT (.agg #[.string a,.string b]) (.agg #[.string c,.string d])=some (bif a.toList==c.toList then (bif b.toList==d.toList then true else false) else false):=by kernel_rfl
section
variable {w:World} {S S1 S2:List Nat} {a b s:Sl} {L L1 L2:Prs}
theorem qsI {K:Bool->WP} (Q:Rds encPr 2 S1 w a L1) (R:Rds encPr 2 S2 w b L2) (I:PrB L1) (J:PrB L2) (hl:L1.length<=1000000) (u:∀ w',Fr [] w w'->K (decide (L1=L2)) w') :
  cW 27 [a.v,b.v] [.one .bool] w K:=by
 refine qe2 ?_
 unfold qcR
 have e1:a.len=L1.length:=Q.1
 have e2:b.len=L2.length:=R.1
 refine qaa (fun A=>?_) (fun A=>?_)
 ·rw [zT,zR] at A
  have u:=u w (.refl _ _)
  rw [zU (fun e=>A (by rw [e1,e2,e]))] at u
  exact u
 rw [yD,yO] at A
 have O:L1.length=L2.length:=by omega
 refine qaj (fun q w'=>∃ n:Nat,q=n/\n<=L1.length/\L1.take n=L2.take n/\Fr [] w w') (fun q _=>L1.length-q.toNat) ⟨0,rfl,yW _,rfl,.refl _ _⟩ ?_
 rintro q w1 ⟨n,rfl,hn,U,V⟩ X hX
 refine qaa (fun A=>?_) (fun A=>?_)
 ·have A:=zC A
  have h:n<L1.length:=by omega
  have C:n<L2.length:=by omega
  have G:=V.drew
  refine Rds.getA (x:=L1[n]) (y:=(strL L1[n].1,strL L1[n].2)) (Q.frame0 G) n rfl (zA h) rfl rfl ?_
  refine Rds.getA (x:=L2[n]) (y:=(strL L2[n].1,strL L2[n].2)) (R.frame0 G) n rfl (zA C) rfl rfl ?_
  obtain ⟨p1,p2,_⟩:=I L1[n] (zW h)
  obtain ⟨p3,p4,_⟩:=J L2[n] (zW C)
  refine quc 2 (by decide) _ (quO ..) (by kernel_rfl) ?_
  rw [qfM p1 p3,qfM p2 p4]
  have he:(bif decide (L1[n].1=L2[n].1) then (bif decide (L1[n].2=L2[n].2) then true else false) else false)=decide (L1[n]=L2[n]):=by
   by_cases g1:L1[n].1=L2[n].1
   ·by_cases g2:L1[n].2=L2[n].2
    ·rw [zZ g1,zZ g2,zZ (Prod.ext g1 g2)]; rfl
    ·rw [zZ g1,zU g2,zU (show ¬ L1[n]=L2[n] from fun e=>g2 (congrArg Prod.snd e))]; rfl
   ·rw [zU g1,zU (show ¬ L1[n]=L2[n] from fun e=>g1 (congrArg Prod.fst e))]; rfl
  rw [he]
  refine qaa (fun E=>?_) (fun E=>?_)
  ·rw [zT,decide_eq_false_iff_not] at E
   have u:=u _ G
   rw [zU (fun e=>E (by subst e; rfl))] at u
   exact u
  ·rw [yD,yM] at E
   refine hX _ _ ⟨n+1,?_,h,?_,G⟩ ?_
   ·rw [wi' _ (by omega)]; rfl
   ·rw [yF h,yF C,U,E]
   ·rw [wi' _ (by omega)]; omega
 ·have A:=zB A
  have h:n=L1.length:=by omega
  have u:=u _ V
  rw [zZ (by rw [<- xZ (l:=L1),<- h,U,h,O,xZ])] at u
  exact u
theorem qsW {most:Int} {K:Sl->WP} (h:Rds encPr 2 S w s L) (E:∀ C,Rds encPr 2 S w C (L.take most.toNat)->K C w) :
  cW 29 [s.v,.i most] [.one .slice] w K:=by
 refine qfD ?_
 unfold qcQ
 have e1:s.len=L.length:=h.1
 refine qaa (fun A=>?_) (fun A=>?_)
 ·have A:=zC A
  refine E _ ?_
  rw [show most.toNat=0 by omega]
  exact .nil _ _ _ _
 have A:=zB A
 refine qaa (fun u=>?_) (fun u=>?_)
 ·have u:=zC u
  refine Rds.part h 0 most.toNat rfl (by show most=_; omega) (yW _) (by omega) fun C _ G _=>E C ?_
  rw [xE] at G
  exact G
 ·have u:=zB u
  refine E s ?_
  rw [zS (by omega)]
  exact h
theorem qq5 {B KB:List Nat} {ps:List (SS×(Key×Key))} {K:Sl->WP} (E:Buf encSS 2 w s (ps.map (·.1)) B) (hR:RowsP w KB ps) (hP:PrB (ps.map (·.2))) (hl:ps.length<=100000)
  (kk:∀ R B' w',Buf encPr 2 w' R (ps.map (·.2)) B'->Fr [] w w'->(∀ b∈B',w.heap.size<=b)->K R w') :
  cW 28 [s.v] [.one .slice] w K:=by
 refine qeV ?_
 unfold qcE
 have e1:s.len=ps.length:=by rw [E.len,zK]
 refine qaj (fun q w'=>∃ n:Nat,∃ B',q.2=n/\n<=ps.length/\Buf encPr 2 w' q.1 ((ps.map (·.2)).take n) B'/\Fr [] w w'/\(∀ b∈B',w.heap.size<=b)) (fun q _=>ps.length-q.2.toNat) ⟨0,[],rfl,yW _,.nil _ _ _,.refl _ _,fun b E=>nomatch E⟩ ?_
 rintro ⟨s1,q⟩ U ⟨n,B',V,hn,A,I,J⟩ X hX
 dsimp only at V A ⊢
 subst V
 refine qaa (fun G=>?_) (fun G=>?_)
 ·have G:=zC G
  have u:n<ps.length:=by omega
  have O:Rds encSS 2 [] w s (ps.map (·.1)):=E.rds qhl fun b _=>by simp
  refine Rds.getA (x:=ps[n].1) (y:=ps[n].1) (O.frame0 I) n rfl (by rw [zQ,zA u]; rfl) rfl rfl ?_
  obtain ⟨B1,B2,r1,r2,_,_⟩:=hR ps[n] (zW u)
  obtain ⟨p1,p2,p3,p4⟩:=hP ps[n].2 (zY (zW u))
  refine Own.new' (Own.start [] U) fun r w2 e2 f2 h=>?_
  refine Own.sz h 0 rfl (prV ps[n].1.1 ps[n].1.2) fun w3 h f3=>?_
  have C:=I.trans h.fr
  refine Own.ld h 0 rfl ps[n].1.1 rfl ?_
  refine qdU (S:=[]) ((r1.rdb fun b _=>by simp).frame0 C) p1 ?_
  refine Own.ld h 0 rfl ps[n].1.2 rfl ?_
  refine qdU (S:=[]) ((r2.rdb fun b _=>by simp).frame0 C) p2 ?_
  refine qdZ (x:=ps[n].2) (A.frame0 h.fr) rfl rfl (by rw [yK,zK]; omega) fun s5 B5 w5 b5 f5 n5=>?_
  refine hX _ _ ⟨n+1,B5,?_,u,?_,C.trans' f5 (fun b E=>.inr (J b E)),fun b E=>?_⟩ ?_
  ·show IntKind.wrap .i64 _=_
   rw [wi' _ (by omega)]; rfl
  ·rw [yF (by rw [zK]; exact u),getElem_map]
   exact b5
  ·rcases n5 b E with Q | Q
   ·exact J b Q
   ·exact zL C.size Q
  ·show ps.length-(IntKind.wrap .i64 _).toNat<_
   rw [wi' _ (by omega)]; dsimp only; omega
 ·have G:=zB G
  rw [zS (by rw [zK]; omega)] at A
  exact kk s1 B' U A I J
end
end Go.Proofs.YtmmkegapckbomaaGreatDoor
end
section
namespace Go.Proofs.YtmmkegapckbomaaGreatDoor
open Go Go.Pt List
open Classical
attribute [local irreducible] ld ldA ldV fld fldA newZ st new idx idxS idxA slc slcS slcP mkS chk nn call callV inv run runQ runU join loop held ext rng undefer s2a nxt ent IntKind.wrap
theorem qrY {S:List Nat} {w:World} {v:Nat} {c:Int} {K:Sl->WP} (E:c=v) (U:v<=1000000) (I:∀ b∈S,b<w.heap.size) (J:∀ s w',RdB S w' s (zs v)->Fr [] w w'->(∀ G:List Nat,(∀ b∈G,b<w.heap.size)->RdB G w' s (zs v))->K s w') :
  mkS 5 [.b 0] 1 1 c c w K:=by
 subst E
 refine Own.mkN (Own.start [] w) rfl (by omega) (Int.le_refl _) (by omega) (by omega) fun b w' e u=>?_
 rw [zJ] at u ⊢
 have O:=u.at (i:=0) rfl
 have h:∀ G:List Nat,(∀ b∈G,b<w.heap.size)->RdB G w' ⟨pW b,v,v⟩ (zs v):=fun G Q=>by
  refine ⟨by simp [zs],zM _,.inr ⟨b,0,_,_,_,rfl,O,fun R=>by have:=Q b R; omega,fun i x C=>?_⟩⟩
  have V:i<v:=by have:=(zP.1 C).1; simpa [zs] using this
  have A:x=0:=by
   have:=yE C
   exact (mem_replicate.1 this).2
  subst A
  have e1:(List.replicate v [Value.int .u8 0]).flatten=List.replicate v (Value.int .u8 0):=by simp
  rw [e1]
  simp [drop_replicate,take_replicate]
  show List.replicate (min 1 (v-i)) _=_
  rw [show min 1 (v-i)=1 by omega]
  rfl
 exact J _ w' (h S I) u.fr h
end Go.Proofs.YtmmkegapckbomaaGreatDoor
end
section
namespace Go.Proofs.YtmmkegapckbomaaGreatDoor
open Go Go.Pt List
open Classical
section
variable {D:DiskM} {M M':PgM} {k v c:Nat} {t:Int} {L L':Prs} {P P':List Int}
theorem Has.pages_lt (I:4<=(capsV k v).1):∀ {h:Nat} {s:Seg},Has D M k v h s->minOf k v h<=s.size->s.pages.length+1<=s.prs.length
 | 0,s,C,E=>by
  have G:(capsV k v).1 / 2<=s.size:=E
  rw [C.2.1] at G
  rw [C.1,xL]
  omega
 | h+1,s,⟨J,U,G,K,O,u,V,h6,Q⟩,E=>by
  have h8:=u.right.innerTwo.1
  rw [K,O]
  have key:∀ l:List Ent,(∀ e∈l,Has D M k v h e.2/\minOf k v h<=e.2.size)->(l.flatMap (·.2.pages)).length+l.length<=(l.flatMap (·.2.prs)).length:=by
   intro l
   induction l with
   | nil=>intro _; simp
   | cons a l ih=>
    intro A
    have i:=ih fun e R=>A e (zN _ R)
    have j:=Has.pages_lt I (A a (by simp)).1 (A a (by simp)).2
    rw [yG,yG,zF,zF,yH]
    omega
  have:=key J Q
  rw [yH]
  omega
theorem Has.pages_le (E:4<=(capsV k v).1) {h:Nat} {s:Seg} (u:Has D M k v h s):s.pages.length<=s.prs.length:=by
 cases h with
 | zero=>
  have:=length_pos_iff.2 u.ne
  rw [u.1,xL]
  omega
 | succ h=>
  obtain ⟨G,Q,R,I,J,A,U,V,K⟩:=u
  have h8:=A.right.innerTwo.1
  rw [I,J]
  have key:∀ l:List Ent,(∀ e∈l,Has D M k v h e.2/\minOf k v h<=e.2.size)->(l.flatMap (·.2.pages)).length+l.length<=(l.flatMap (·.2.prs)).length:=by
   intro l
   induction l with
   | nil=>intro _; simp
   | cons a l ih=>
    intro C
    have i:=ih fun e O=>C e (zN _ O)
    have j:=Has.pages_lt E (C a (by simp)).1 (C a (by simp)).2
    rw [yG,yG,zF,zF,yH]
    omega
  have:=key G K
  rw [yH]
  omega
theorem TreeIs.pages_le (u:4<=(capsV k v).1) (A:TreeIs D M k v t L P):P.length<=L.length:=by
 rcases A with ⟨C,rfl,rfl⟩ | ⟨h,n,p,G,C,E⟩
 ·exact zM _
 ·exact E.pages_le u
theorem Sole.room3 (h:Sole D M k v c t L P) (u:4<=(capsV k v).1) (E:3*L.length+1<=c):2*(rootM M t).2.2.toNat+1<=M.free.length:=by
 have A:=h.named.length_eq
 rw [zF,h.many] at A
 have G:(M.fresh.map (·.1)).length<=P.length:=List.Nodup.length_le_of_subset h.wf.keysNodup fun x C=>h.use x (.inl C)
 have I:=h.tree.pages_le u
 have J:=(qbh h.tree).1
 omega
theorem Sole.insert3 {key val:Key} (h:Sole D M k v c t L P) (u:CapsOk k v) (A:4<=(capsV k v).1) (C:0<=t/\t<8) (E:key.length=k/\IsB key) (G:val.length=v/\IsB val) (I:3*L.length+1<=c) (O:L.length<=100000) :
  ∃ M' P',insertN D k v t key val (rootM M t).2.2.toNat M=(0,M')/\Sole D M' k v c t (insP key val L) P':=by
 obtain ⟨M',P',e,J,K,_⟩:=qrn u C E G h.tree h.wf h.over h.len h.nodup (by omega) (h.room3 A I)
 exact ⟨M',P',e,h.next J K⟩
theorem Sole.remove3 {key:Key} (h:Sole D M k v c t L P) (u:CapsOk k v) (A:4<=(capsV k v).1) (C:0<=t/\t<8) (E:key∈keysP L) (G:3*L.length+1<=c) (K:L.length<=100000) :
  ∃ M' P',removeN D k v t key (rootM M t).2.2.toNat M=(0,M')/\Sole D M' k v c t (cutP key L) P':=by
 obtain ⟨M',P',e,I,J,_⟩:=qru u C h.tree E h.wf h.over h.len h.nodup (by omega) (h.room3 A G)
 exact ⟨M',P',e,h.next I J⟩
end
end Go.Proofs.YtmmkegapckbomaaGreatDoor
end
section
namespace Go.Proofs.YtmmkegapckbomaaGreatDoor
open Go Go.Pt List
open Classical
attribute [local irreducible] ld ldA ldV fld fldA newZ st new idx idxS idxA slc slcS slcP mkS chk nn call callV inv run runQ runU join loop held ext rng undefer s2a nxt ent IntKind.wrap
theorem qs5 {w:World} {a0:Int} {E I J O:Sl} {a5:Bool} {u:Kps} {K:Bool->WP} (Q:RdK [] w E u)
  (U:∀ b w',Fr [] w w'->(b=false->E.len<=120/\I.len<=120/\J.len<=100/\O.len<=100/\∀ p∈u,p.2.length<=100)->K b w') :
  cW 23 [.agg #[.i a0,E.v,I.v,J.v,O.v,.bool a5]] [.one .bool] w K:=by
 refine qcV ?_
 unfold qbG
 refine Own.new' (Own.start [] w) fun r w1 e1 R h=>?_
 refine qag (fun b w'=>w'=w1/\(b=false->E.len<=120/\I.len<=120/\J.len<=100/\O.len<=100)) ?_ ?_
 ·refine Own.ld h 0 rfl E rfl ?_
  refine qaa (fun h=>⟨rfl,fun h=>nomatch h⟩) fun g1=>?_
  refine Own.ld h 0 rfl I rfl ?_
  refine qaa (fun h=>⟨rfl,fun h=>nomatch h⟩) fun g2=>?_
  refine Own.ld h 0 rfl J rfl ?_
  refine qaa (fun h=>⟨rfl,fun h=>nomatch h⟩) fun g3=>?_
  refine Own.ld h 0 rfl O rfl ?_
  refine ⟨rfl,fun g4=>?_⟩
  have g1:=zB g1
  have g2:=zB g2
  have g3:=zB g3
  have g4:=zB g4
  omega
 rintro b w2 ⟨rfl,hb⟩
 refine qaa (fun Q=>U true _ R fun h=>nomatch h) fun V=>?_
 obtain ⟨q1,q2,q3,q4⟩:=hb V
 refine Own.ld h 0 rfl E rfl ?_
 have hl:=Q.len
 refine qaj (fun s w'=>w'=w2/\∃ i:Nat,s=i/\i<=u.length/\∀ p∈u.take i,p.2.length<=100) (fun s _=>u.length-s.toNat) ⟨rfl,0,rfl,yW _,by simp⟩ ?_
 rintro s w3 ⟨rfl,i,rfl,hi,hp⟩ X hX
 refine qaa (fun G=>?_) (fun G=>?_)
 ·have G:=zC G
  have A:i<u.length:=by omega
  refine RdK.get (Q.frame0 R) i rfl A ?_
  have ap:=(Q.2 _ (zW A)).1
  refine qaa (fun _=>U true _ R fun h=>nomatch h) fun hs=>?_
  have hs:=zB hs
  refine hX _ _ ⟨rfl,i+1,?_,A,fun p C=>?_⟩ ?_
  ·rw [wi' _ (by omega)]; rfl
  ·rw [yF A] at C
   rcases zD.1 C with h | h
   ·exact hp p h
   ·rw [zE.1 h]; omega
  ·rw [wi' _ (by omega)]; omega
 ·have G:=zB G
  refine U false _ R fun _=>⟨q1,q2,q3,q4,fun p C=>hp p ?_⟩
  rw [zS (by omega)]
  exact C
section
variable {k v c:Nat} {t:Int} {w0 w:World} {s:Sl} {m:Nat} {dbk pb:Nat} {FD F B:List Nat} {D:DiskM} {M:PgM} {P:List Int} {L:Prs}
theorem HiI.put3 {ks vs:Sl} {key val:Key} {K:Int->WP} (h:HiI k v c t w0 w s m dbk pb FD D F M P L B) (O:0<=t/\t<8) (Q:shp t=((k:Int),(v:Int))) (u:CapsOk k v) (A:4<=(capsV k v).1) (R:1<=k) (hm:3*m+1<=c) (U:m<=100000)
  (C:IsB key) (E:key.length=k) (G:IsB val) (I:val.length=v) (V:RdB (Zo FD [] F) w ks key) (hv:RdB (Zo FD [] F) w vs val)
  (kk:∀ F' w' M' P',TW dbk pb FD D 5000 w' [] F' M'->Sole D M' k v c t (insP key val L) P'->Fr F w w'->(∀ b∈F',b∈F\/w.heap.size<=b)->K 0 w') :
  cW 17 [.pointer (pW pb),.i t,ks.v,vs.v] [.one .i] w K:=by
 have hl:=h.len
 obtain ⟨M',P',e,hS⟩:=h.sole.insert3 (key:=key) (val:=val) u A O ⟨E,C⟩ ⟨I,G⟩ (by omega) (by omega)
 obtain ⟨r1,r2,r3,r4⟩:=qbh h.sole.tree
 refine qo1 (f:=(rootM M t).2.2.toNat) C G Q (by omega) E I h.tw V hv ⟨r4,by omega⟩ (h.sole.room3 A (by omega)) (qjd e) fun F' w' J f n=>?_
 rw [e] at J ⊢
 exact kk F' w' M' P' J hS f n
theorem HiI.cut3 {ks:Sl} {key:Key} {K:Int->WP} (h:HiI k v c t w0 w s m dbk pb FD D F M P L B) (I:0<=t/\t<8) (J:shp t=((k:Int),(v:Int))) (u:CapsOk k v) (C:4<=(capsV k v).1) (O:1<=k) (hm:3*m+1<=c) (Q:m<=100000)
  (A:key∈keysP L) (R:RdB (Zo FD [] F) w ks key)
  (U:∀ F' w' M' P',TW dbk pb FD D 5000 w' [] F' M'->Sole D M' k v c t (cutP key L) P'->Fr F w w'->(∀ b∈F',b∈F\/w.heap.size<=b)->K 0 w') :
  cW 21 [.pointer (pW pb),.i t,ks.v] [.one .i] w K:=by
 have hl:=h.len
 obtain ⟨M',P',e,V⟩:=h.sole.remove3 (key:=key) u C I A (by omega) (by omega)
 obtain ⟨r1,r2,r3,r4⟩:=qbh h.sole.tree
 obtain ⟨x,hx,rfl⟩:=mem_map.1 A
 obtain ⟨q1,q2,q3,q4⟩:=h.sole.tree.sort.2 x hx
 obtain ⟨y,hy⟩:=qlH A
 have E:=h.sole.tree.get (key:=x.1) h.sole.wf h.sole.over
 rw [hy] at E
 refine qt5 (f:=(rootM M t).2.2.toNat) (f2:=(rootM M t).2.2.toNat) q3 u J (by omega) q1 h.tw R ⟨r4,by omega⟩ (h.sole.room3 C (by omega)) (by rw [E]) (h.sole.tree.safe u A h.sole.wf h.sole.over h.sole.nodup (h.sole.room3 C (by omega))) fun F' w' G f n=>?_
 rw [e] at G ⊢
 exact U F' w' M' P' G V f n
theorem HiI.go {C A w3:World} {F F' B':List Nat} {M M':PgM} {P P':List Int} {L L':Prs} {B:List Nat} {s G:Sl} {m I:Nat} (h:HiI k v c t w0 C s m dbk pb FD D F M P L B) (J:TW dbk pb FD D 5000 A [] F' M') (O:Sole D M' k v c t L' P') (f:Fr F C A) (n:∀ b∈F',b∈F\/C.heap.size<=b) (K:Fr [] A w3) (u:Buf encPr 2 w3 G L' B') (Q:∀ b∈B',A.heap.size<=b) (R:L'.length<=I):HiI k v c t w0 w3 G I dbk pb FD D F' M' P' L' B':=by
 refine ⟨J.frame0 K,O,u,R,(h.fr.trans' f fun b u=>.inr (h.new b (zI _ u))).trans K,fun b u=>?_,fun b u U=>?_⟩
 ·rcases zD.1 u with u | u
  ·exact h.new b (zH _ u)
  ·rcases n b u with E | E
   ·exact h.new b (zI _ E)
   ·exact zL h.fr.size E
 ·have:=Q b u
  have:=J.pager.lt b U
  omega
end
theorem qnd {t:Int} {k v:Nat} (h:good t) (A:shp t=((k:Int),(v:Int))):4<=(capsV k v).1:=by
 obtain ⟨C,E⟩:=h
 have:t=0\/t=1\/t=2\/t=3\/t=4\/t=5\/t=6\/t=7:=by omega
 rcases this with rfl | rfl | rfl | rfl | rfl | rfl | rfl | rfl <;>
  (obtain ⟨e1,u⟩:=vB A; have e1:=Int.ofNat.inj e1; have u:=Int.ofNat.inj u; subst e1 u; decide)
theorem qrL {S:List Nat} {w:World} {v:Nat} {c y:Int} {K:Sl->WP} (E:c=v) (G:1<=v) (hv:v<=1000000) (I:∀ b∈S,b<w.heap.size) (J:∀ s w',RdB S w' s (y::zs (v-1))->Fr [] w w'->K s w') :
  mkS 5 [.b 0] 1 1 c c w fun s O=>idx s 0 1 fun a=>st a [.b y] O fun C=>K s C:=by
 subst E
 refine Own.mkN (Own.start [] w) rfl (by omega) (Int.le_refl _) (by omega) (by omega) fun b w' e A=>?_
 rw [zJ] at A ⊢
 refine qa3 rfl ⟨by omega,by show (0:Int)<(v:Int); omega⟩ ?_
 have Q:(List.replicate v [Value.int .u8 0]).flatten.toArray=bytesA (zs v):=by simp [bytesA,zs]
 rw [Q] at A
 obtain ⟨n,rfl⟩:∃ n,v=n+1:=⟨v-1,by omega⟩
 have R:zs (n+1)=0::zs n:=replicate_succ
 rw [R] at A
 refine Own.st' A 0 rfl (bytesA (y::zs n)) (by simp [splice,bytesA]) rfl (by rw [qbZ]; simp) fun C h f2=>?_
 have U:=h.at (i:=0) rfl
 have hl:(y::zs n).length=n+1:=by simp [zs]
 have u:=qcg (S:=S) (o:=0) (n:=n+1) (cap:=n+1) U (by omega) (zM _) (fun V=>by have:=I b V; omega)
 rw [xE,zS (by omega)] at u
 exact J _ C u h.fr
theorem qrZ {w:World} {a0:Int} {a1 a2 a3 a4:Sl} {a5:Bool} {A:Kps} {C:List Int} {K:Option Addr×Int×Sl->WP} (hv:Hv w) (hk:RdK [] w a1 A) (hB:∀ p∈A,IsB p.2) (hc:RdB [] w a2 C) (aY:IsB C) (g1:a1.len<=120) (g2:a2.len<=120) (g3:∀ p∈A,p.2.length<=100)
  (kk:∀ t k v w' s m dbk pb FD D F M P L B,0<=t/\t<8->shp t=(((k:Nat):Int),((v:Nat):Int))->CapsOk k v->1<=k/\k<=24/\1<=v/\v<=108->HiI k v 394 t w w' s m dbk pb FD D F M P L B->m<=120->K (pW pb,t,s) w') :
  cW 25 [.agg #[.i a0,a1.v,a2.v,a3.v,a4.v,.bool a5]] [.one .ptr,.one .i,.one .slice] w K:=by
 refine qc1 ?_
 unfold qbE
 have bx:a1.len=A.length:=hk.len
 have bz:a2.len=C.length:=hc.1
 refine Own.new' (Own.start [] w) fun r wr er fr hr=>?_
 have bA:r>=w.heap.size:=by omega
 refine qlE (n:=400) [] (fun b U=>nomatch U) (fun h=>nomatch h) (hv.frame0 fr) (by decide) (by decide) fun dbk pb FD F D w1 hT hM f1 n1=>?_
 have h:=hr.frame0 f1
 refine Own.ld h 0 rfl a0 rfl ?_
 have ht:0<=IntKind.wrap .i64 (Int.tmod (IntKind.wrap .u64 a0) 8)/\IntKind.wrap .i64 (Int.tmod (IntKind.wrap .u64 a0) 8)<8:=by
  have h0:0<=IntKind.wrap .u64 a0:=by rw [IntKind.wrap_u64]; omega
  rw [Int.tmod_eq_emod_of_nonneg h0,wi' _ (by omega)]
  omega
 generalize IntKind.wrap .i64 (Int.tmod (IntKind.wrap .u64 a0) 8)=t at ht
 refine cond_false rfl ?_
 obtain ⟨k,v,hs,J,ag,ab,aD,ah⟩:=qpj (t:=t) ⟨ht.1,by omega⟩
 have aE:=qnd ⟨ht.1,by omega⟩ hs
 refine qhz ?_
 rw [hs]
 have aF:Sole D (madeM 400) k v ((400-2)-needP (400-2)) t [] []:=qlU ht (by decide) (by decide) hT.wf
 have a6:(400-2)-needP (400-2)=394:=by decide
 rw [a6] at aF
 have h0:HiI k v 394 t wr w1 ⟨none,0,0⟩ 0 dbk pb FD D F (madeM 400) [] [] []:=⟨hT,aF,.nil _ _ _,zM _,f1,n1,fun b U=>nomatch U⟩
 refine Own.ld h 0 rfl a1 rfl ?_
 refine qaj (fun q w'=>∃ i:Nat,q.2=i/\i<=A.length/\∃ F M P L B,HiI k v 394 t wr w' q.1 i dbk pb FD D F M P L B) (fun q _=>A.length-q.2.toNat) ⟨0,rfl,yW _,F,_,_,_,_,h0⟩ ?_
 rintro ⟨s1,y⟩ w2 ⟨i,hy,hi,F,M,P,L,B,u⟩ X hX
 dsimp only at hy u ⊢
 subst hy
 refine qaa (fun ai=>?_) (fun ai=>?_)
 ·have ai:=zC ai
  have O:i<A.length:=by omega
  refine RdK.get ((hk.frame0 fr).frame0 u.fr) i rfl O ?_
  have ac:=((hk.frame0 fr).frame0 u.fr).2 _ (zW O)
  have aj:=hB _ (zW O)
  have aG:=g3 _ (zW O)
  generalize A[i]=bD at ac aj aG
  refine qdU ac aj ?_
  refine qpE (n:=k) aj (by omega) ab (by decide) fun key w3 Q I f3=>?_
  have aH:=u.tw.frame0 f3
  refine qrL (S:=Zo FD [] F) rfl aD (by omega) (qkF aH) fun vs w4 aI f4=>?_
  have V:IsB (IntKind.wrap .u8 (i:Int)::zs (v-1)):=fun z hz=>by
   rcases zG.1 hz with rfl | hz
   ·exact qoQ _
   ·exact qrg _ z hz
  have ak:(IntKind.wrap .u8 (i:Int)::zs (v-1)).length=v:=by simp [zs]; omega
  generalize IntKind.wrap .u8 (i:Int)::zs (v-1)=val at aI V ak
  refine qmc (e:=5) I (by kernel_rfl) (by kernel_rfl) (by kernel_rfl) fun kb w5 al f5=>?_
  have am:=(f3.trans f4).trans f5
  have G:HiI k v 394 t wr w5 s1 i dbk pb FD D F M P L B:=⟨u.tw.frame0 am,u.sole,u.buf.frame0 am,u.len,u.fr.trans am,u.new,u.apart⟩
  have ad:=aI.frame0 f5
  refine G.put3 ht hs J aE ag (by omega) (by omega) I Q V ak (al _ (qkF (aH.frame0 f4))) ad fun F6 w6 M6 P6 an ao f6 n6=>?_
  refine cond_false rfl ?_
  have aM:RdB [] w6 vs val:=Rds.frame ad (f6.mono fun b U _=>zI _ U) fun b U=>nomatch U
  refine qdU aM V ?_
  have ap:Buf encPr 2 w6 s1 L B:=G.buf.frame f6 G.apart
  have hl:=u.len
  have E:=u.sole.tree.sort
  refine qsq (S:=[]) hs (by omega) Q ak I V (by omega) (ap.rds qbx fun b _=>by simp) (E.2.prB (by omega) (by omega)) (by omega) fun s7 B7 w7 b7 f7 n7=>?_
  rw [qmR E.1] at b7
  have bb:=qtR (k:=key) (v:=val) E.1
  have aq:HiI k v 394 t wr w7 s7 (i+1) dbk pb FD D F6 M6 P6 (insP key val L) B7:=G.go an ao f6 n6 f7 b7 n7 (by omega)
  refine hX _ _ ⟨i+1,?_,O,F6,M6,P6,_,B7,aq⟩ ?_
  ·show IntKind.wrap .i64 _=_
   rw [wi' _ (by omega)]; rfl
  ·show A.length-(IntKind.wrap .i64 _).toNat<_
   rw [wi' _ (by omega)]; show _<A.length-((i:Int)).toNat; omega
 ·have bc:i<=120:=by omega
  refine qag (fun q w'=>∃ F M P L B,HiI k v 394 t wr w' q i dbk pb FD D F M P L B) ?_ ?_
  ·refine Own.ld (hr.frame0 u.fr) 0 rfl a2 rfl ?_
   refine qaj (fun q w'=>∃ j:Nat,q.2=j/\j<=C.length/\∃ F M P L B,HiI k v 394 t wr w' q.1 i dbk pb FD D F M P L B) (fun q _=>C.length-q.2.toNat) ⟨0,rfl,yW _,F,M,P,L,B,u⟩ ?_
   clear hX X u
   rintro ⟨s2,z⟩ w3 ⟨j,hz,hj,F,M,P,L,B,u⟩ X hX
   dsimp only at hz u ⊢
   subst hz
   refine qaa (fun ar=>?_) (fun ar=>⟨F,M,P,L,B,u⟩)
   have ar:=zC ar
   have au:j<C.length:=by omega
   have aO:=u.buf.len
   have hl:=u.len
   refine Rds.get ((hc.frame0 fr).frame0 u.fr) j rfl (zA au) (y:=C[j]) rfl ?_
   have aP:=aY _ (zW au)
   generalize C[j]=cb at aP
   refine qaa (fun h=>⟨F,M,P,L,B,u⟩) (fun h=>?_)
   have bH:L.length≠0:=fun e=>by rw [aO,e] at h; exact absurd h (by decide)
   refine qbf (by omega) ?_
   have aQ:Int.tmod (IntKind.wrap .i64 cb) (s2.len:Int)=((cb.toNat%L.length:Nat):Int):=by
    rw [wi' _ (by omega),Int.tmod_eq_emod_of_nonneg aP.1,aO]
    obtain ⟨cn,e⟩:∃ cn:Nat,cb=cn:=⟨cb.toNat,by omega⟩
    rw [e,zJ]
    rfl
   have av:cb.toNat%L.length<L.length:=Nat.mod_lt _ (by omega)
   have aR:Rds encPr 2 [] w3 s2 L:=u.buf.rds qbx fun b _=>by simp
   refine Rds.str1 aR _ aQ av ?_
   have R:L[cb.toNat%L.length].1∈keysP L:=zY (zW av)
   have E:=u.sole.tree.sort
   obtain ⟨q1,q2,q3,q4⟩:=E.2 _ (zW av)
   generalize L[cb.toNat%L.length].1=key at R q1 q3
   refine qmc (e:=5) q3 (by kernel_rfl) (by kernel_rfl) (by kernel_rfl) fun kb w5 al f5=>?_
   have G:HiI k v 394 t wr w5 s2 i dbk pb FD D F M P L B:=⟨u.tw.frame0 f5,u.sole,u.buf.frame0 f5,u.len,u.fr.trans f5,u.new,u.apart⟩
   refine G.cut3 ht hs J aE ag (by omega) (by omega) R (al _ (qkF u.tw)) fun F6 w6 M6 P6 an ao f6 n6=>?_
   refine cond_false rfl ?_
   have ap:Buf encPr 2 w6 s2 L B:=G.buf.frame f6 G.apart
   refine qsg (S:=[]) hs (by omega) q1 q3 (ap.rds qbx fun b _=>by simp) (E.2.prB (by omega) (by omega)) (by omega) R fun s7 B7 w7 b7 f7 n7=>?_
   have bb:=qtL (k:=key) (l:=L)
   have aq:HiI k v 394 t wr w7 s7 i dbk pb FD D F6 M6 P6 (cutP key L) B7:=G.go an ao f6 n6 f7 b7 n7 (by omega)
   refine hX _ _ ⟨j+1,?_,au,F6,M6,P6,_,B7,aq⟩ ?_
   ·show IntKind.wrap .i64 _=_
    rw [wi' _ (by omega)]; rfl
   ·show C.length-(IntKind.wrap .i64 _).toNat<_
    rw [wi' _ (by omega)]; show _<C.length-((j:Int)).toNat; omega
  ·rintro s3 w3 ⟨F3,M3,P3,L3,B3,h3⟩
   have bf:=fr.size
   exact kk t k v w3 s3 i dbk pb FD D F3 M3 P3 L3 B3 ht hs J ⟨ag,ab,aD,ah⟩ ⟨h3.tw,h3.sole,h3.buf,h3.len,fr.trans h3.fr,fun b U=>zL bf (h3.new b U),h3.apart⟩ bc
theorem Sole.put {k v c:Nat} {t:Int} {w:World} {dbk pb:Nat} {FD F:List Nat} {D:DiskM} {M:PgM} {P:List Int} {L:Prs} {ks vs:Sl} {key val:Key} {K:Int->WP} (J:Sole D M k v c t L P) (I:TW dbk pb FD D 5000 w [] F M) (Q:0<=t/\t<8) (R:shp t=((k:Int),(v:Int))) (h:CapsOk k v) (u:4<=(capsV k v).1) (U:1<=k) (hm:3*L.length+1<=c) (V:L.length<=100000)
  (A:IsB key) (C:key.length=k) (E:IsB val) (G:val.length=v) (hk:RdB (Zo FD [] F) w ks key) (hv:RdB (Zo FD [] F) w vs val)
  (kk:∀ F' w' M' P',TW dbk pb FD D 5000 w' [] F' M'->Sole D M' k v c t (insP key val L) P'->Fr F w w'->(∀ b∈F',b∈F\/w.heap.size<=b)->K 0 w') :
  cW 17 [.pointer (pW pb),.i t,ks.v,vs.v] [.one .i] w K:=by
 obtain ⟨M',P',e,O⟩:=J.insert3 (key:=key) (val:=val) h u Q ⟨C,A⟩ ⟨G,E⟩ (by omega) (by omega)
 obtain ⟨r1,r2,r3,r4⟩:=qbh J.tree
 refine qo1 (f:=(rootM M t).2.2.toNat) A E R (by omega) C G I hk hv ⟨r4,by omega⟩ (J.room3 u (by omega)) (qjd e) fun F' w' I f n=>?_
 rw [e] at I ⊢
 exact kk F' w' M' P' I O f n
def fixK (n:Nat):Prs:=(([[1],[3],[5]]:List Key).take n).map fun k=>(k,zs 8)
theorem qjg:insP [1] (zs 8) (fixK 0)=fixK 1/\insP [3] (zs 8) (fixK 1)=fixK 2/\insP [5] (zs 8) (fixK 2)=fixK 3:=by
 have h:¬ KLt [3] [1]:=by unfold KLt; decide
 have u:¬ KLt [5] [1]:=by unfold KLt; decide
 have A:¬ KLt [5] [3]:=by unfold KLt; decide
 refine ⟨rfl,?_,?_⟩
 ·show insP [3] (zs 8) [([1],zs 8)]=_
  rw [insP,if_neg h,if_neg (by decide)]
  rfl
 ·show insP [5] (zs 8) [([1],zs 8),([3],zs 8)]=_
  rw [insP,if_neg u,if_neg (by decide),insP,if_neg A,if_neg (by decide)]
  rfl
theorem qjT {w:World} {K:Bool->WP} (hv:Hv w) (kk:∀ w',Fr [] w w'->K true w'):cW 24 [] [.one .bool] w K:=by
 refine qeU ?_
 unfold qcy
 refine qlE (n:=30) [] (fun b u=>nomatch u) (fun h=>nomatch h) hv (by decide) (by decide) fun dbk pb FD F D w1 C hM f1 n1=>?_
 refine cond_false rfl ?_
 have hs:shp 7=(((1:Nat):Int),((8:Nat):Int)):=rfl
 obtain ⟨k,v,J,ab,_⟩:=qpj (t:=7) ⟨by decide,by decide⟩
 rw [hs] at J
 obtain ⟨rfl,rfl⟩:k=1/\v=8:=⟨(Int.ofNat.inj (vB J).1).symm,(Int.ofNat.inj (vB J).2).symm⟩
 have aq:=qnd (t:=7) ⟨by decide,by decide⟩ hs
 have O:Sole D (madeM 30) 1 8 ((30-2)-needP (30-2)) 7 [] []:=qlU ⟨by decide,by decide⟩ (by decide) (by decide) C.wf
 have ar:20<=(30-2)-needP (30-2):=by decide
 generalize (30-2)-needP (30-2)=c at O ar
 refine Own.new' (Own.start [] w1) fun r w2 e2 f2 h=>?_
 have av:=qac (h.at (i:=0) rfl)
 dsimp only at av
 refine qaj (fun q w'=>∃ n:Nat,q=n/\n<=3/\∃ F M P,TW dbk pb FD D 5000 w' [] F M/\Sole D M 1 8 c 7 (fixK n) P/\w'.heap[r]?=some (.cells #[.b 1,.b 3,.b 5] 5 (0,0))/\Fr [] w w'/\(∀ b∈FD++F,w.heap.size<=b)/\r∉F) (fun q _=>3-q.toNat) ⟨0,rfl,by decide,F,_,_,C.frame0 f2,O,h.at (i:=0) rfl,f1.trans f2,n1,fun hm=>?_⟩ ?_
 ·have:=C.pager.lt r hm
  omega
 clear C O hM h f2 n1
 rintro q w3 ⟨n,rfl,hn,F,M,P,C,hS,U,f3,n3,ad⟩ X hX
 refine qaa (fun E=>?_) (fun E=>?_)
 ·have E:=zC E
  have Q:n<3:=by
   have h:(n:Int)<((3:Nat):Int):=E
   omega
  have hx:∃ x:Int,(#[.b 1,.b 3,.b 5]:Array Value)[n]?=some (.b x)/\0<=x/\x<256/\insP [x] (zs 8) (fixK n)=fixK (n+1):=by
   obtain rfl | rfl | rfl:n=0\/n=1\/n=2:=by omega
   ·exact ⟨1,rfl,by decide,by decide,qjg.1⟩
   ·exact ⟨3,rfl,by decide,by decide,qjg.2.1⟩
   ·exact ⟨5,rfl,by decide,by decide,qjg.2.2⟩
  obtain ⟨x,ay,az,aA,aB⟩:=hx
  refine qch (by omega) (by omega) ?_
  rw [zJ,xT,xR]
  refine qao U x ay ?_
  refine Own.new' (Own.start [] w3) fun r2 w4 e4 V h4=>?_
  have aC:w4.heap[r2]?=some (.cells (bytesA [x]) 5 (0,0)):=h4.at (i:=0) rfl
  have af:=C.frame0 V
  refine qrY (S:=Zo FD [] F) (v:=8) rfl (by decide) (qkF af) fun vs w5 aD R _=>?_
  have aE:RdB (Zo FD [] F) w5 ⟨pW r2,1,1⟩ [x]:=by
   have:=qcg (S:=Zo FD [] F) (o:=0) (n:=1) (cap:=1) aC (zM _) (zM _) (fun hm=>by have:=qkF C _ hm; omega)
   exact this.frame0 R
  have a4:(fixK n).length<=3:=by unfold fixK; rw [zK,yK]; exact Nat.min_le_right _ _
  refine hS.put (af.frame0 R) ⟨by decide,by decide⟩ hs ab aq (by decide) (by omega) (by omega) (fun z hz=>by rw [zE.1 hz]; exact ⟨az,aA⟩) rfl (qrg 8) (by simp [zs]) aE aD fun F6 w6 M6 P6 aF ah f6 n6=>?_
  refine cond_false rfl ?_
  rw [aB] at ah
  have hz:=(f3.trans (V.trans R)).size
  have ai:=yC (qac U) (V.trans R).size
  refine hX _ _ ⟨n+1,?_,Q,F6,M6,P6,aF,ah,?_,(f3.trans (V.trans R)).trans' f6 (fun b u=>.inr (n3 b (zI _ u))),fun b u=>?_,fun hm=>?_⟩ ?_
  ·rw [wi' _ (by omega)]; rfl
  ·rw [f6.block r ai ad,(V.trans R).block r (qac U) (fun h=>nomatch h)]; exact U
  ·rcases zD.1 u with u | u
   ·exact n3 b (zH _ u)
   ·rcases n6 b u with h | h
    ·exact n3 b (zI _ h)
    ·exact zL hz h
  ·rcases n6 r hm with h | h
   ·exact ad h
   ·omega
  ·rw [wi' _ (by omega)]; omega
 ·have E:=zB E
  have Q:n=3:=by omega
  subst Q
  refine Own.new' (Own.start [] w3) fun ra w4 e4 V h=>?_
  refine Own.new' h fun rb w5 e5 R h=>?_
  have ha:RdB [] w5 ⟨pW ra,1,1⟩ [2]:=qcg (o:=0) (n:=1) (cap:=1) (L:=[2]) (h.at (i:=1) rfl) (by decide) (zM _) (fun h=>nomatch h)
  have u:RdB [] w5 ⟨pW rb,1,1⟩ [5]:=qcg (o:=0) (n:=1) (cap:=1) (L:=[5]) (h.at (i:=0) rfl) (by decide) (zM _) (fun h=>nomatch h)
  have hB:∀ x:Int,0<=x/\x<256->IsB [x]:=fun x hx z hz=>by rw [zE.1 hz]; exact hx
  refine qg6 (k:=1) (v:=8) (C.frame0 h.fr) hs (.inr ⟨by decide,hS.tree⟩) (by unfold fixK; rw [zK]; decide) ha u (by decide) (by decide) (hB 2 (by decide)) (hB 5 (by decide)) fun s w6 B KB ps aj ak a9 A f6 a' ba=>?_
  have aI:=f3.trans (h.fr.trans f6)
  have U:(rangeD true [2] [5] (fixK 3)).take (9:Int).toNat=[([5],zs 8),([3],zs 8)]:=by
   unfold rangeD rangeP fixK
   rfl
  rw [U] at A
  obtain ⟨G,I,rfl⟩:∃ G I,ps=[G,I]:=by
   match ps,congrArg List.length A with
   | [G,I],_=>exact ⟨G,I,rfl⟩
  have q0:=(vC A).1
  have q1:=(vC (vC A).2).1
  obtain ⟨B1,B2,r1,_⟩:=ak G (by simp)
  obtain ⟨B3,B4,r3,_⟩:=ak I (by simp)
  dsimp only at q0 q1
  rw [q0] at r1
  rw [q1] at r3
  have aJ:Rds encSS 2 [] w6 s [G.1,I.1]:=aj.rds qhl fun b _=>by simp
  have aK:s.len=2:=aj.len
  refine cond_true (by rw [aK]; rfl) ?_
  have al:∀ (p:SS) (n:Nat) (x:Int) (B:List Nat) (K:ByteArray->Prop),([G.1,I.1]:List SS)[n]?=some p->BufB w6 p.1 [x] B->0<=x/\x<256->K (strL [x])->idx s n 2 fun a=>ld .slice a w6 fun q=>runQ [.one .str] (fun w'=>(convert 23 9 q.v).run Tryz.prog w') w6 K:=by
   intro p n x B K hp am hx hk
   obtain ⟨hl,b,o,ha,_,cs,T,fr,u,E⟩:=aJ.at n hp
   refine qa3 ha ⟨by omega,by omega⟩ ?_
   rw [zJ]
   have h0:((cs.toList.drop (o+n*2)).take 2)[0]?=(encSS p)[0]?:=by rw [E]
   rw [xA,if_pos (by decide),yZ,xS,xK] at h0
   refine qaO p.1 ((qaf u).trans h0) ?_
   exact qdU (S:=[]) (am.rdb fun b _=>by simp) (hB x hx) hk
  refine al G.1 0 5 B1 _ rfl r1 (by decide) ?_
  refine cond_true (beq_self_eq_true _) ?_
  refine al I.1 1 3 B3 _ rfl r3 (by decide) ?_
  have:=kk w6 aI
  rwa [<- beq_self_eq_true (ByteArray.toList (strL [3]))] at this
structure AskD (w:World) (a1 a2 a3 a4:Sl) (rows:Kps) (cuts:List Int) (frm to:Key):Prop where
 h1:RdK [] w a1 rows
 b1:∀ p∈rows,IsB p.2
 h2:RdB [] w a2 cuts
 b2:IsB cuts
 h3:RdB [] w a3 frm
 b3:IsB frm
 h4:RdB [] w a4 to
 b4:IsB to
theorem PrB.sub {L L':Prs} (h:PrB L) (u:∀ x∈L',x∈L):PrB L':=fun x A=>h x (u x A)
theorem qrq {down:Bool} {frm to:Key} {L:Prs}:∀ x∈rangeD down frm to L,x∈L:=fun x h=>by
 unfold rangeD rangeP at h
 split at h
 ·exact (mem_filter.1 (mem_reverse.1 h)).1
 ·exact (mem_filter.1 h).1
theorem qlS {down:Bool} {frm to:Key} {L:Prs}:(rangeD down frm to L).length<=L.length:=by
 unfold rangeD rangeP
 split
 ·rw [length_reverse]; exact length_filter_le _ _
 ·exact length_filter_le _ _
theorem qln {w:World} {a0 most:Int} {O Q A C:Sl} {u:Bool} {G:Kps} {R:List Int} {frm to:Key} {K:Bool->WP} (hv:Hv w) (hA:AskD w O Q A C G R frm to) (kk:∀ w',Fr [] w w'->K true w') :
  cW 4 [.agg #[.i a0,O.v,Q.v,A.v,C.v,.bool u],.i most] [.one .bool] w K:=by
 obtain ⟨h1,b1,h2,b2,U,V,h4,b4⟩:=hA
 refine qcS ?_
 unfold qbF
 refine Own.new' (Own.start [] w) fun r w1 e1 f1 h=>?_
 refine Own.ldA h 0 rfl (a0,O,Q,A,C,u) rfl ?_
 refine qs5 (h1.frame0 f1) fun g w2 f2 hg=>?_
 have h:=h.frame0 f2
 refine qaa (fun hc=>qjT (hv.frame0 h.fr) fun w' f=>kk w' (h.fr.trans f)) fun hc=>?_
 obtain ⟨g1,g2,g3,g4,g5⟩:O.len<=120/\Q.len<=120/\A.len<=100/\C.len<=100/\∀ p∈G,p.2.length<=100:=hg hc
 refine Own.ldA h 0 rfl (a0,O,Q,A,C,u) rfl ?_
 refine qrZ (hv.frame0 h.fr) (h1.frame0 h.fr) b1 (h2.frame0 h.fr) b2 g1 g2 g5 fun t k v w3 s m dbk pb FD D F M P L B ht hs ay aP I hm=>?_
 have h:=h.frame0 I.fr
 refine cond_false rfl ?_
 have aQ:=I.len
 have e3:A.len=frm.length:=U.1
 have e4:C.len=to.length:=h4.1
 refine Own.ld h 0 rfl A rfl ?_
 refine Own.ld h 0 rfl C rfl ?_
 refine Own.ld h 0 rfl u rfl ?_
 refine qg6 (k:=k) (v:=v) I.tw hs (.inr ⟨by omega,I.sole.tree⟩) (by omega) (U.frame0 h.fr) (h4.frame0 h.fr) (by omega) (by omega) V b4 fun s4 w4 B4 KB ps ah ai aR E f4 aS aT=>?_
 have h:=Own.drew (h.frame0 f4)
 refine qjT (hv.frame0 h.fr) fun w5 f5=>?_
 have h:=h.frame0 f5
 have ac:Fr [] w3 w5:=f4.drew.trans f5
 have ad:PrB L:=I.sole.tree.sort.2.prB (by omega) (by omega)
 have ak:PrB (rangeD u frm to L):=ad.sub qrq
 have J:PrB ((rangeD u frm to L).take most.toNat):=ak.sub fun x hx=>yU hx
 have aV:=qlS (down:=u) (frm:=frm) (to:=to) (L:=L)
 have aW:ps.length<=120:=by
  have:=congrArg List.length E
  rw [zK,yK] at this
  omega
 refine cond_true rfl ?_
 refine Own.ld h 0 rfl A rfl ?_
 refine qdU (S:=[]) (U.frame0 h.fr) V ?_
 refine Own.ld h 0 rfl C rfl ?_
 refine qdU (S:=[]) (h4.frame0 h.fr) b4 ?_
 refine Own.ld h 0 rfl u rfl ?_
 have ae:Fr [] w4 w5:=(Fr.refl [] w4).drew.trans f5
 refine qq5 (ah.frame0 ae) (ai.frame ae (fun _ _ h=>nomatch h) fun b hb=>hb) (by rw [E]; exact J) (by omega) fun s6 B6 w6 b6 f6 n6=>?_
 have h:=h.frame0 f6
 refine qqH (h.cell 0 rfl rfl) (qmX (S:=[]) (e:=5) (h4.frame0 h.fr) b4 (by kernel_rfl) (by kernel_rfl) (by kernel_rfl)) (h.cell 0 rfl rfl) (qmX (S:=[]) (e:=5) (U.frame0 h.fr) V (by kernel_rfl) (by kernel_rfl) (by kernel_rfl)) (h.cell 0 rfl rfl) ?_
 have am:Rds encPr 2 [] w6 s L:=Rds.frame0 (I.buf.rds qbx fun b _=>by simp) (ac.trans f6)
 refine qrA am ad (by omega) V b4 (by omega) (by omega) fun s7 B7 w7 b7 f7 n7=>?_
 have ao:Rds encPr 2 [] w7 s7 (rangeD u frm to L):=b7.rds qbx fun b _=>by simp
 refine qsW (most:=most) ao fun s8 h8=>?_
 have ap:Rds encPr 2 [] w7 s6 (ps.map (·.2)):=Rds.frame0 (b6.rds qbx fun b _=>by simp) f7
 refine qsI ap h8 (by rw [E]; exact J) J (by rw [zK]; omega) fun w8 f8=>?_
 rw [zZ E]
 have h:=(h.frame0 f7).frame0 f8
 refine cond_true rfl ?_
 refine Own.ld h 0 rfl A rfl ?_
 refine Own.ld h 0 rfl C rfl ?_
 refine Own.ld h 0 rfl u rfl ?_
 refine qg6 (k:=0) (v:=0) (L:=[]) (P:=[]) (I.tw.frame0 (((ac.trans f6).trans f7).trans f8)) rfl (.inl ⟨rfl,rfl⟩) (by decide) (U.frame0 h.fr) (h4.frame0 h.fr) (by omega) (by omega) V b4 fun s9 w9 B9 bb aq ar bc bd af f9 bg bh=>?_
 have hz:aq=[]:=by
  have:=congrArg List.length af
  have h0:(rangeD u frm to []).length<=0:=qlS (L:=[])
  rw [zK,yK] at this
  exact length_eq_zero_iff.1 (by omega)
 have au:s9.len=0:=by rw [ar.len,hz]; rfl
 rw [au]
 exact kk w9 (h.fr.trans f9)
end Go.Proofs.YtmmkegapckbomaaGreatDoor
end
section
namespace Go.Proofs.YtmmkegapckbomaaGreatDoor
open Go.ChangeShapes Go.WideShapes Go.ChangeAt Go.RowKit Go.Pt
abbrev ASK:TypeId:=49
theorem quE:fieldT Tryz.prog ASK 1=some 22:=by kernel_rfl
theorem quD:fieldT Tryz.prog ASK 2=some 23:=by kernel_rfl
theorem quz:fieldT Tryz.prog ASK 3=some 23:=by kernel_rfl
theorem quF:fieldT Tryz.prog ASK 4=some 23:=by kernel_rfl
section
variable {H:Type} {enc:TypeId×Value->H} {W:World} {base:Nat} {spare:Nat->Bool} {held:Bool}
theorem qjG {n:Nat} {s:Sl} {y:DataW H×List MemPlace} (h:DataW.trod enc Tryz.prog W base spare held n 23 [s.v]=some y):∃ l,RdB [] W s l/\IsB l:=by
 obtain ⟨l,g,e⟩:=qg4 (P:=Tryz.prog) (t:=23) (e:=5) (s:=s) (k:=1) (encB:=fun n=>[Value.int .u8 n]) (by kernel_rfl) (by kernel_rfl) (by decide) (qnK (k:=.u8) (by kernel_rfl)) h
 exact ⟨l,g,fun z u=>qtd (e z u)⟩
theorem qsr {n:Nat} {x:HL qe1} {y:DataW H×List MemPlace} (h:DataW.trod enc Tryz.prog W base spare held n ASK (HL.mk qe1 x)=some y):∃ u A frm to,AskD W x.2.1 x.2.2.1 x.2.2.2.1 x.2.2.2.2.1 u A frm to:=by
 obtain ⟨x',e,_,C⟩:=qqy (cs:=qe1) (by kernel_rfl) n _ y h
 rw [<- e] at C
 obtain ⟨u1,n1,y1,E,K⟩:=C 1 x.2.1.v rfl
 obtain rfl:=yN (quE.symm.trans E)
 obtain ⟨u2,n2,y2,G,O⟩:=C 2 x.2.2.1.v rfl
 obtain rfl:=yN (quD.symm.trans G)
 obtain ⟨u3,n3,y3,I,Q⟩:=C 3 x.2.2.2.1.v rfl
 obtain rfl:=yN (quz.symm.trans I)
 obtain ⟨u4,n4,y4,J,R⟩:=C 4 x.2.2.2.2.1.v rfl
 obtain rfl:=yN (quF.symm.trans J)
 obtain ⟨u,U,V⟩:=qtP K
 obtain ⟨A,c1,c2⟩:=qjG O
 obtain ⟨frm,d1,d2⟩:=qjG Q
 obtain ⟨to,d3,d4⟩:=qjG R
 exact ⟨u,A,frm,to,U,V,c1,c2,d1,d2,d3,d4⟩
end
end Go.Proofs.YtmmkegapckbomaaGreatDoor
end
