/- Texts FormsU, RfD, RfE, CuI, CuJ, CuK, HiB, TrL, CuA, CuB, CuL, LwA, PtU, FormsY, CwA, CuM, CwB: contracts of the program's functions, one behind the other. Conditions: those that stand in each line. -/
import Derived.Test.YtmmkegapckbomaaGreatDoorCCP1
import Derived.Test.YtmmkegapckbomaaGreatDoorProg
import Derived.KernelRfl
import Derived.Test.YtmmkegapckbomaaGreatDoorCCP5
import Derived.Test.YtmmkegapckbomaaGreatDoorCCP3
import Derived.Test.YtmmkegapckbomaaGreatDoorCCP2
set_option linter.unusedVariables false
set_option linter.unusedSimpArgs false
section
set_option maxRecDepth 100000
namespace Go.Proofs.YtmmkegapckbomaaGreatDoor
open Go Go.Pt
@[reducible] def qql:List Cell:=[Cell.int IntKind.i64,Cell.slice,Cell.slice,Cell.slice,Cell.slice,Cell.bool]
def qbH (a0:Int) (a1:Sl) (a2:Sl) (a3:Sl) (a4:Sl) (a5:Bool) (K:Bool->WP) (w:World):Prop:=new (Obj.cells #[.i a0,a1.v,a2.v,a3.v,a4.v,.bool a5] 49) w fun b c=>join (Bool) (fun d=>ld .slice ⟨b,1,none⟩ c fun e=>cond (decide ((↑e.len:Int)>120)) (d true c) (ld .slice ⟨b,2,none⟩ c fun f=>cond (decide ((↑f.len:Int)>120)) (d true c) (ld .slice ⟨b,3,none⟩ c fun g=>cond (decide ((↑g.len:Int)>100)) (d true c) (ld .slice ⟨b,4,none⟩ c fun h=>d (decide ((↑h.len:Int)>100)) c)))) fun (i:Bool) j=>cond i (K true j) (ld .slice ⟨b,1,none⟩ j fun k=>loop (Int) (fun l (m:Int) n=>cond (decide (m<(↑k.len:Int))) (idx k m 1 fun o=>ld .slice o n fun p=>cond (decide ((↑p.len:Int)>100)) (K true n) (l (IntKind.wrap .i64 (m+1)) n)) (K false n)) 0 j)
theorem qcT {a0 a1 a2 a3 a4 a5 w K} (hF:qbH a0 a1 a2 a3 a4 a5 K w):cW 23 [.agg #[.i a0,a1.v,a2.v,a3.v,a4.v,.bool a5]] [.one .bool] w K:=qad (an:=[.n,.n,.j [(26,.one .bool)],.n,.n,.n,.l [(30,.one .i)],.n,.n,.n,.n,.n,.n,.n]) Tryz.func23 hF
def qcG  (K:Bool->WP) (w:World):Prop:=cW 14 ([.i 30]) ([.one .ptr,.one .ptr]) w fun (b:Option Addr×Option Addr) c=>cond (Option.isNone b.snd) (K false c) (new (Obj.cells #[.b 1,.b 3,.b 5] 5) c fun d e=>loop (Int) (fun f (g:Int) h=>cond (decide (g<(↑3:Int))) (idx ({ a:=pW d,len:=3,cap:=3 }) g 1 fun i=>ld .b i h fun (j:Int)=>new (Obj.cells #[.b j] 5) h fun k l=>mkS 5 ([.b 0]) 1 1 8 8 l fun m n=>cW 17 ([.pointer b.snd,.i 7,.slice (pW k) 1 1,m.v]) ([.one .i]) n fun (o:Int) p=>cond (!o==0) (K false p) (f (IntKind.wrap .i64 (g+1)) p)) (new (Obj.cells #[.b 2] 5) h fun q r=>new (Obj.cells #[.b 5] 5) r fun s t=>cW 26 ([.pointer b.snd,.i 7,.slice (pW q) 1 1,.slice (pW s) 1 1,.bool true,.i 9]) ([.one .slice]) t fun u v=>cond ((↑u.len:Int)==2) (idx u 0 2 fun x=>ld .slice x v fun y=>runQ [.one .str] (fun z=>(convert 23 9 y.v).run Tryz.prog z) v fun (A:ByteArray)=>cond (ByteArray.toList A==ByteArray.toList { data:=#[5] }) (idx u 1 2 fun B=>ld .slice B v fun C=>runQ [.one .str] (fun D=>(convert 23 9 C.v).run Tryz.prog D) v fun (E:ByteArray)=>K (ByteArray.toList E==ByteArray.toList { data:=#[3] }) v) (K false v)) (K false v))) 0 e)
theorem qeY {w K} (hF:qcG  K w):cW 24 [] [.one .bool] w K:=qad (an:=[.n,.n,.n,.n,.n,.n,.n,.l [(14,.one .i)],.n,.n,.n,.n,.n,.n,.n,.n]) Tryz.func24 hF
def qbG (a0:Int) (a1:Sl) (a2:Sl) (a3:Sl) (a4:Sl) (a5:Bool) (K:((Option Addr)×Int×Sl)->WP) (w:World):Prop:=new (Obj.cells #[.i a0,a1.v,a2.v,a3.v,a4.v,.bool a5] 49) w fun b c=>cW 14 ([.i 400]) ([.one .ptr,.one .ptr]) c fun (d:Option Addr×Option Addr) e=>ld .i ⟨b,0,none⟩ e fun (f:Int)=>cond (Option.isNone d.snd) (K ((none,IntKind.wrap .i64 (Int.tmod (IntKind.wrap .u64 f) 8),{ a:=none,len:=0,cap:=0 })) e) (cW 15 ([.i (IntKind.wrap .i64 (Int.tmod (IntKind.wrap .u64 f) 8))]) ([.one .i,.one .i]) e fun (g:Int×Int) h=>ld .slice ⟨b,1,none⟩ h fun i=>loop (Sl×Int) (fun j (k:Sl×Int) l=>cond (decide (k.snd<(↑i.len:Int))) (idx i k.snd 1 fun m=>ld .slice m l fun n=>runQ [.one .str] (fun o=>(convert 23 9 n.v).run Tryz.prog o) l fun (p:ByteArray)=>cW 16 ([.string p,.i g.fst,.b 0]) ([.one .str]) l fun (q:ByteArray) r=>mkS 5 ([.b 0]) 1 1 g.snd g.snd r fun s t=>idx s 0 1 fun u=>st u ([.b (IntKind.wrap .u8 k.snd)]) t fun v=>run [.one .slice] ((convert 9 23 (.string q)).run Tryz.prog v) fun x y=>cW 17 ([.pointer d.snd,.i (IntKind.wrap .i64 (Int.tmod (IntKind.wrap .u64 f) 8)),x.v,s.v]) ([.one .i]) y fun (z:Int) A=>cond (!z==0) (K ((none,IntKind.wrap .i64 (Int.tmod (IntKind.wrap .u64 f) 8),{ a:=none,len:=0,cap:=0 })) A) (runQ [.one .str] (fun B=>(convert 23 9 s.v).run Tryz.prog B) A fun (C:ByteArray)=>cW 18 ([k.fst.v,.i (IntKind.wrap .i64 (Int.tmod (IntKind.wrap .u64 f) 8)),.string q,.string C]) ([.one .slice,.one .i]) A fun (D:Sl×Int) E=>j ((D.fst,IntKind.wrap .i64 (k.snd+1))) E)) (join (Sl) (fun F=>ld .slice ⟨b,2,none⟩ l fun G=>loop (Sl×Int) (fun H (I:Sl×Int) J=>cond (decide (I.snd<(↑G.len:Int))) (idx G I.snd 1 fun L=>ld .b L J fun (M:Int)=>cond ((↑I.fst.len:Int)==0) (F I.fst J) (chk ((↑I.fst.len:Int)≠0)<|idx I.fst (Int.tmod (IntKind.wrap .i64 M) (↑I.fst.len:Int)) 2 fun N=>ld .str N J fun (O:ByteArray)=>run [.one .slice] ((convert 9 23 (.string O)).run Tryz.prog J) fun P Q=>cW 21 ([.pointer d.snd,.i (IntKind.wrap .i64 (Int.tmod (IntKind.wrap .u64 f) 8)),P.v]) ([.one .i]) Q fun (R:Int) S=>cond (!R==0) (K ((none,IntKind.wrap .i64 (Int.tmod (IntKind.wrap .u64 f) 8),{ a:=none,len:=0,cap:=0 })) S) (cW 22 ([I.fst.v,.i (IntKind.wrap .i64 (Int.tmod (IntKind.wrap .u64 f) 8)),.string O]) ([.one .slice,.one .i]) S fun (T:Sl×Int) U=>H ((T.fst,IntKind.wrap .i64 (I.snd+1))) U))) (F I.fst J)) ((k.fst,0)) l) fun V W=>K ((d.snd,IntKind.wrap .i64 (Int.tmod (IntKind.wrap .u64 f) 8),V)) W)) (({ a:=none,len:=0,cap:=0 },0)) h)
theorem qcY {a0 a1 a2 a3 a4 a5 w K} (hF:qbG a0 a1 a2 a3 a4 a5 K w):cW 25 [.agg #[.i a0,a1.v,a2.v,a3.v,a4.v,.bool a5]] [.one .ptr,.one .i,.one .slice] w K:=qad (an:=[.n,.n,.n,.n,.n,.n,.n,.n,.n,.n,.l [(10,.one .slice),(38,.one .i)],.n,.n,.n,.n,.n,.n,.n,.n,.n,.n,.j [(10,.one .slice)],.n,.l [(10,.one .slice),(74,.one .i)],.n,.n,.n,.n,.n,.n,.n,.n,.n,.n,.n]) Tryz.func25 hF
def qcI (l:Sl) (from_:ByteArray) (to:ByteArray) (down:Bool) (K:Sl->WP) (w:World):Prop:=new (Obj.cells #[] 44) w fun b c=>loop (Sl×Int) (fun d (e:Sl×Int) f=>cond (decide (e.snd<(↑l.len:Int))) (join (Sl) (fun g=>join (Bool) (fun h=>idx l e.snd 2 fun i=>ld .str i f fun (j:ByteArray)=>cW 34 ([.string j,.string from_]) ([.one .i]) f fun (k:Int) m=>cond (decide (k>=0)) (idx l e.snd 2 fun n=>ld .str n m fun (o:ByteArray)=>cW 34 ([.string o,.string to]) ([.one .i]) m fun (p:Int) q=>h (decide (p<=0)) q) (h false m)) fun (r:Bool) s=>cond r (idx l e.snd 2 fun t=>ldA ([.str,.str]) t s fun (u:ByteArray×ByteArray)=>new (Obj.cells #[.string u.fst,.string u.snd] 44) s fun v x=>run [.one .slice] ((Builtin.append_ (#[31,31]) 31 (#[e.fst.v,.slice (pW v) 1 1])).run Tryz.prog x) fun y z=>g y z) (g e.fst s)) fun A B=>d ((A,IntKind.wrap .i64 (e.snd+1))) B) (cond down (cW 33 ([e.fst.v]) ([.one .slice]) f fun C D=>K C D) (K e.fst f))) (({ a:=pW b,len:=0,cap:=0 },0)) c
theorem qeT {l from_ to down w K} (hF:qcI l from_ to down K w):cW 30 [l.v,.string from_,.string to,.bool down] [.one .slice] w K:=qad (an:=[.n,.n,.n,.n,.l [(9,.one .slice),(10,.one .i)],.n,.n,.j [(9,.one .slice)],.j [(35,.one .bool)],.n,.n,.n,.n]) Tryz.func30 hF
def qcd (l:Sl) (K:Sl->WP) (w:World):Prop:=new (Obj.cells #[] 44) w fun b c=>loop (Sl×Int) (fun d (e:Sl×Int) f=>cond (decide (e.snd>=0)) (idx l e.snd 2 fun g=>ldA ([.str,.str]) g f fun (h:ByteArray×ByteArray)=>new (Obj.cells #[.string h.fst,.string h.snd] 44) f fun i j=>run [.one .slice] ((Builtin.append_ (#[31,31]) 31 (#[e.fst.v,.slice (pW i) 1 1])).run Tryz.prog j) fun k m=>d ((k,IntKind.wrap .i64 (e.snd-1))) m) (K e.fst f)) (({ a:=pW b,len:=0,cap:=0 },IntKind.wrap .i64 ((↑l.len:Int)-1))) c
theorem qed {l w K} (hF:qcd l K w):cW 33 [l.v] [.one .slice] w K:=qad (an:=[.n,.n,.n,.n,.l [(3,.one .slice),(4,.one .i)],.n,.n,.n,.n]) Tryz.func33 hF
end Go.Proofs.YtmmkegapckbomaaGreatDoor
end
section
namespace Go.Proofs.YtmmkegapckbomaaGreatDoor
open Go Go.Pt List
open Classical
attribute [local irreducible] ld ldA ldV fld fldA newZ st new idx idxS idxA slc slcS slcP mkS chk nn call callV inv run runQ runU join loop held ext rng undefer s2a nxt ent IntKind.wrap
theorem qqg {w:World} {S:List Nat} {s:Sl} {L:Prs} {K:Sl->WP} (h:Rds encPr 2 S w s L) (hL:L.length<=100000)
  (U:∀ Q B' w',Buf encPr 2 w' Q L.reverse B'->Fr [] w w'->(∀ b∈B',w.heap.size<=b)->K Q w') :
  cW 33 [s.v] [.one .slice] w K:=by
 refine qed ?_
 unfold qcd
 have A:s.len=L.length:=h.1
 refine Own.new' (Own.start [] w) fun r V e1 f1 I=>?_
 have J:Buf encPr 2 V ⟨pW r,0,0⟩ [] [r]:=Buf.none (I.at (i:=0) rfl)
 refine qak (fun q w'=>∃ i:Nat,∃ B,q.2=(i:Int)-1/\i<=L.length/\Buf encPr 2 w' q.1 (L.drop i).reverse B/\Fr [] w w'/\(∀ b∈B,w.heap.size<=b)) (fun q _=>(q.2+1).toNat) ⟨L.length,[r],by show IntKind.wrap .i64 _=_; rw [wi' _ (by omega),A],zM _,by rw [drop_length]; exact J,f1,fun b u=>by rw [zE.1 u]; omega⟩ ?_
 rintro ⟨s1,y⟩ w2 ⟨i,B,R,hi,u,G,O⟩ X hX
 dsimp only at R u ⊢
 subst R
 refine qaa (fun C=>?_) (fun C=>?_)
 ·have C:=zC C
  obtain ⟨i,rfl⟩:∃ j,i=j+1:=⟨i-1,by omega⟩
  have E:i<L.length:=by omega
  have e0:((i+1:Nat):Int)-1=(i:Int):=by omega
  refine Rds.getA (x:=L[i]) (y:=(strL L[i].1,strL L[i].2)) (h.frame0 G) i e0 (zA E) rfl rfl ?_
  refine qfg (x:=L[i]) u rfl rfl (by rw [length_reverse,yB]; omega) fun s5 B5 w5 b5 f5 n5=>?_
  refine hX _ _ ⟨i,B5,?_,by omega,?_,G.trans' f5 (fun b u=>.inr (O b u)),fun b u=>?_⟩ ?_
  ·show IntKind.wrap .i64 _=_
   rw [wi' _ (by omega)]; omega
  ·rw [zX E,reverse_cons]
   exact b5
  ·rcases n5 b u with h | h
   ·exact O b h
   ·exact zL G.size h
  ·show (IntKind.wrap .i64 _+1).toNat<_
   rw [wi' _ (by omega)]; dsimp only; omega
 ·have C:=zB C
  have:i=0:=by omega
  subst this
  exact U s1 B w2 u G O
def inR (frm to:Key) (x:Key×Key):Bool:=decide (cmpL x.1 frm>=0)&&decide (cmpL x.1 to<=0)
def rangeP (frm to:Key) (L:Prs):Prs:=L.filter (inR frm to)
theorem qn7 {frm to:Key} {L:Prs} {i:Nat} (h:i<L.length):rangeP frm to (L.take (i+1))=rangeP frm to (L.take i)++if inR frm to L[i] then [L[i]] else []:=by
 unfold rangeP
 rw [yF h,xB]
 congr 1
 cases e:inR frm to L[i] <;> simp [e]
theorem qqL {w:World} {S:List Nat} {s:Sl} {L:Prs} {frm to:Key} {down:Bool} {K:Sl->WP} (h:Rds encPr 2 S w s L) (hP:PrB L) (hL:L.length<=100000) (hf:IsB frm) (ht:IsB to) (lf:frm.length<=1000000) (lt:to.length<=1000000)
  (kk:∀ Q B' w',Buf encPr 2 w' Q (if down then (rangeP frm to L).reverse else rangeP frm to L) B'->Fr [] w w'->(∀ b∈B',w.heap.size<=b)->K Q w') :
  cW 30 [s.v,.string (strL frm),.string (strL to),.bool down] [.one .slice] w K:=by
 refine qeT ?_
 unfold qcI
 have ac:s.len=L.length:=h.1
 refine Own.new' (Own.start [] w) fun r w1 e1 f1 U=>?_
 have V:Buf encPr 2 w1 ⟨pW r,0,0⟩ [] [r]:=Buf.none (U.at (i:=0) rfl)
 refine qak (fun q w'=>∃ i:Nat,∃ B,q.2=i/\i<=L.length/\Buf encPr 2 w' q.1 (rangeP frm to (L.take i)) B/\Fr [] w w'/\(∀ b∈B,w.heap.size<=b)) (fun q _=>L.length-q.2.toNat) ⟨0,[r],rfl,yW _,V,f1,fun b u=>by rw [zE.1 u]; omega⟩ ?_
 rintro ⟨s1,y⟩ w2 ⟨i,B,hy,hi,u,I,R⟩ X hX
 dsimp only at hy u ⊢
 subst hy
 refine qaa (fun J=>?_) (fun J=>?_)
 ·have J:=zC J
  have A:i<L.length:=by omega
  obtain ⟨p1,p2,p3,p4⟩:=hP L[i] (zW A)
  refine qag (fun q w'=>∃ B',Buf encPr 2 w' q (rangeP frm to (L.take (i+1))) B'/\Fr [] w w'/\∀ b∈B',w.heap.size<=b) ?_ ?_
  ·refine qag (fun b w'=>b=inR frm to L[i]/\Fr [] w2 w') ?_ ?_
   ·refine Rds.str1 (h.frame0 I) i rfl A ?_
    refine qlc p1 hf p3 lf fun w3 C=>?_
    refine qaa (fun E=>?_) (fun E=>?_)
    ·refine Rds.str1 (h.frame0 (I.trans C)) i rfl A ?_
     refine qlc p1 ht p3 lt fun w4 f4=>?_
     exact ⟨by unfold inR; rw [E,Bool.true_and],C.trans f4⟩
    ·exact ⟨by unfold inR; rw [E,Bool.false_and],C⟩
   rintro b w3 ⟨rfl,C⟩
   have G:=I.trans C
   rw [qn7 A]
   refine qaa (fun E=>?_) (fun E=>?_)
   ·refine Rds.getA (x:=L[i]) (y:=(strL L[i].1,strL L[i].2)) (h.frame0 G) i rfl (zA A) rfl rfl ?_
    have O:(rangeP frm to (L.take i)).length<=1000000:=by
     have E:(rangeP frm to (L.take i)).length<=(L.take i).length:=length_filter_le _ _
     rw [yK] at E
     omega
    refine qfg (x:=L[i]) (u.frame0 C) rfl rfl O fun s5 B5 w5 b5 f5 n5=>?_
    refine ⟨B5,by rw [if_pos E]; exact b5,G.trans' f5 (fun b u=>.inr (R b u)),fun b u=>?_⟩
    rcases n5 b u with h | h
    ·exact R b h
    ·exact zL G.size h
   ·exact ⟨B,by rw [if_neg (by rw [E]; decide),xG]; exact u.frame0 C,G,R⟩
  ·rintro q w3 ⟨B3,b3,C,n3⟩
   refine hX _ _ ⟨i+1,B3,?_,A,b3,C,n3⟩ ?_
   ·show IntKind.wrap .i64 _=_
    rw [wi' _ (by omega)]; rfl
   ·show L.length-(IntKind.wrap .i64 _).toNat<_
    rw [wi' _ (by omega)]; show _<L.length-((i:Int)).toNat; omega
 ·have J:=zB J
  have aa:i=L.length:=by omega
  subst aa
  rw [xZ] at u
  cases down with
  | false=>exact kk s1 B w2 u I R
  | true=>
   have O:(rangeP frm to L).length<=L.length:=length_filter_le _ _
   refine cond_true rfl ?_
   refine qqg (S:=[]) (u.rds qbU fun b _=>by simp) (by omega) fun Q B' w' b' f' n'=>?_
   exact kk Q B' w' b' (I.trans f') fun b u=>zL I.size (n' b u)
section
def rangeD (down:Bool) (frm to:Key) (L:Prs):Prs:=if down then (rangeP frm to L).reverse else rangeP frm to L
theorem qsr {frm to:Key} {L:Prs} (E:SortP L):(fromP frm L).takeWhile (fun x=>!overV false frm to x.1)=rangeP frm to L:=by
 unfold fromP
 rw [qdU]
 ·rw [filter_filter]
  unfold rangeP
  congr 1
  funext x
  unfold inR overV KLt
  have:=qdH x.1 to
  by_cases A:cmpL x.1 frm<0 <;> by_cases u:cmpL x.1 to>0 <;> simp [A,u] <;> omega
 ·refine ((pairwise_map.1 E).filter _).imp ?_
  intro a b C h
  unfold overV at h ⊢
  simp only [Bool.false_eq_true,if_false,zT,decide_eq_false_iff_not] at h ⊢
  intro G
  have A:KLt to a.1:=by unfold KLt; rw [qbo]; omega
  have u:=qau A C
  unfold KLt at u
  rw [qbo] at u
  omega
theorem qpJ {frm to:Key} {L:Prs} (A:SortP L):(toP to L).reverse.takeWhile (fun x=>!overV true frm to x.1)=(rangeP frm to L).reverse:=by
 unfold toP
 rw [qdU]
 ·rw [filter_reverse,filter_filter]
  unfold rangeP
  congr 2
  funext x
  have e:KLt to x.1↔cmpL x.1 to>0:=by unfold KLt; rw [qbo to x.1]; omega
  have C:decide (cmpL x.1 frm>=0) = !decide (cmpL x.1 frm<0):=by rw [<- decide_not]; exact decide_eq_decide.2 (by omega)
  have E:decide (¬ KLt to x.1)=decide (cmpL x.1 to<=0):=decide_eq_decide.2 (by rw [e]; omega)
  unfold inR overV
  simp only [if_true]
  rw [C,E]
 ·rw [pairwise_reverse]
  refine ((pairwise_map.1 A).filter _).imp ?_
  intro a b u h
  unfold overV at h ⊢
  simp only [if_true,zT,decide_eq_false_iff_not] at h ⊢
  intro G
  exact h (qau u G)
section
variable {dbk pb:Nat} {FD F:List Nat} {D:DiskM} {M:PgM} {k v:Nat} {frm to:Key} {down:Bool} {w0 w wA:World} {cb:Nat} {Y SB:List Nat} {st:Sl} {zs:List FrZ}
theorem BufB.rdb {S:List Nat} {w:World} {s:Sl} {l:List Int} {B:List Nat} (h:BufB w s l B) (u:∀ b∈B,b∉S):RdB S w s l:=h.rds qat u
theorem qnA {S:List Nat} {t:Int} {sf sto:Sl} {L:Prs} {P:List Int} {K:Option Addr->WP} (hT:TW dbk pb FD D 5000 w Y F M) (hs:shp t=((k:Int),(v:Int))) (hL:(k=0/\L=[])\/(k≠0/\TreeIs D M k v t L P)) (hLl:L.length<=90000) (hf:RdB S w sf frm) (ht:RdB S w sto to) (hfl:frm.length<=1000000) (htl:to.length<=1000000) (hfB:IsB frm) (htB:IsB to)
  (kk:∀ cb w' st SB zs,CurE dbk pb FD D F M k v frm to down w cb Y w' st SB zs->Left D M k v frm to down 1 (zs.map (·.2)) (rangeD down frm to L)->Fr [] w w'->K (pW cb) w') :
  cW 31 [.pointer (pW pb),.i t,sf.v,sto.v,.bool down] [.one .ptr] w K:=by
 refine qki (p:=pW pb) (t:=t) (from_:=sf) (to:=sto) (down:=down) ?_
 unfold qgw
 refine qnx ?_
 rw [hs]
 refine qaO hf hfl fun s1 B1 w1 b1 f1 n1 _ _=>?_
 refine qaO (ht.frame0 f1) htl fun s2 B2 w2 b2 f2 n2 _ _=>?_
 refine Own.new' (Own.start [] w2) fun cb w3 e3 f3 h=>?_
 have hnf:(#[.pointer (pW pb),.i (k:Int),.i (v:Int),s1.v,s2.v,.slice none 0 0,.nilFunc,.nilFunc,.nilFunc]:Array Value)=(CuX.cells ⟨pb,k,v,s1,s2,⟨none,0,0⟩,.nilFunc,.nilFunc,.nilFunc⟩):=rfl
 refine Own.sz h 0 rfl (CuX.cells ⟨pb,k,v,s1,s2,⟨none,0,0⟩,dir1 cb false,.nilFunc,.nilFunc⟩) fun w4 h f4=>?_
 refine Own.sz h 0 rfl (CuX.cells ⟨pb,k,v,s1,s2,⟨none,0,0⟩,dir1 cb false,dir2 cb false,.nilFunc⟩) fun w5 h f5=>?_
 refine Own.sz h 0 rfl (CuX.cells ⟨pb,k,v,s1,s2,⟨none,0,0⟩,dir1 cb false,dir2 cb false,dir3 cb false⟩) fun w6 h f6=>?_
 refine qag (fun _ w'=>∃ T,Own [] w2 w' [(cb,.cells (CuX.cells ⟨pb,k,v,s1,s2,⟨none,0,0⟩,dir1 cb down,dir2 cb down,dir3 cb down⟩) T (0,0))]) ?_ ?_
 ·cases down with
  | false=>exact cond_false rfl ⟨_,h⟩
  | true=>
   refine cond_true rfl ?_
   refine Own.sz h 0 rfl (CuX.cells ⟨pb,k,v,s1,s2,⟨none,0,0⟩,dir1 cb true,dir2 cb false,dir3 cb false⟩) fun w7 h f7=>?_
   refine Own.sz h 0 rfl (CuX.cells ⟨pb,k,v,s1,s2,⟨none,0,0⟩,dir1 cb true,dir2 cb true,dir3 cb false⟩) fun w8 h f8=>?_
   refine Own.sz h 0 rfl (CuX.cells ⟨pb,k,v,s1,s2,⟨none,0,0⟩,dir1 cb true,dir2 cb true,dir3 cb true⟩) fun w9 h f9=>?_
   exact ⟨_,h⟩
 rintro _ w7 ⟨T,h⟩
 have f07:Fr [] w w7:=(f1.trans f2).trans h.fr
 have hcl:=qab (h.at (i:=0) rfl)
 dsimp only at hcl
 have hz1:=f1.size
 have hz2:=f2.size
 have hT7:=hT.frame0 f07
 have hylt:=hT.ylt
 have hcw:w.heap.size<=cb:=by omega
 have hC:CurE dbk pb FD D F M k v frm to down w cb Y w7 ⟨none,0,0⟩ [] []:=by
  refine ⟨⟨s1,s2,⟨T,h.at (i:=0) rfl⟩,BufB.rdb ((b1.frame0 f2).frame0 h.fr) (fun b hb hm=>?_),BufB.rdb (b2.frame0 h.fr) (fun b hb hm=>?_)⟩,?_,.nil _ _ _,(fun z hz=>nomatch hz),(fun h=>nomatch h),(fun hm=>?_),(fun b hb=>nomatch hb),(fun b hb=>?_),hfB,htB,yW _⟩
  ·have:=b1.lt b hb; have:=n1 b hb
   rcases zG.1 hm with rfl | hm
   ·omega
   ·have:=hylt b (by simpa using hm); omega
  ·have:=b2.lt b hb; have:=n2 b hb
   rcases zG.1 hm with rfl | hm
   ·omega
   ·have:=hylt b (by simpa using hm); omega
  ·exact hT.addY (B:=[cb]) (f07.mono fun _ h=>nomatch h) fun b hb=>by rw [zE.1 hb]; exact ⟨hcw,hcl⟩
  ·have:=hylt cb hm; omega
  ·rw [zE.1 hb]; exact hcw
 refine qag (fun _ w'=>∃ st SB zs,CurE dbk pb FD D F M k v frm to down w cb Y w' st SB zs/\Left D M k v frm to down 1 (zs.map (·.2)) (rangeD down frm to L)/\Fr [] w w') ?_ ?_
 ·refine TW.root hT7 fun w8 f8=>?_
  have hC8:=hC.frame0 f8
  refine qag (fun q w'=>q=decide (0<k/\(rootM M t).1≠0)/\w'=w8) ?_ ?_
  ·refine qaa (fun h=>⟨?_,rfl⟩) (fun h=>⟨?_,rfl⟩)
   ·have h:=zC h
    rw [Bool.eq_iff_iff,yM,zT,zR]
    exact ⟨fun g=>⟨by omega,g⟩,fun g=>g.2⟩
   ·have h:=zB h
    exact (zU fun g=>h (by omega)).symm
  rintro q w9 ⟨rfl,rfl⟩
  have h0:L=[]->Left D M k v frm to down 1 ([]:List CFr) (rangeD down frm to L):=fun e=>.inl ⟨rfl,by rw [e]; unfold rangeD rangeP; simp⟩
  refine qaa (fun hq=>?_) (fun hq=>?_)
  ·obtain ⟨hk,hr⟩:=zC hq
   obtain ⟨_,hTr⟩:k≠0/\TreeIs D M k v t L P:=hL.resolve_left fun h=>by omega
   have hrh:=(qbl hTr).1
   rcases hTr with ⟨e,_,_⟩ | ⟨hh,n,p,hp,e,hHas⟩
   ·rw [e] at hr
    exact absurd rfl hr
   ·have hrh2:hh+1<=L.length:=by
     rw [e] at hrh
     exact hrh
    have hpu:U32 p:=by
     have:=(qgr hT.wf t).1
     rw [e] at this
     exact this
    rw [e]
    refine qlz (s:=⟨p,n,L,P⟩) hHas hpu hC8 (by show 0+hh+1<=100000; omega) fun w10 st10 SB10 zs10 hC10 hp10 f10 n10=>?_
    refine ⟨st10,SB10,zs10,hC10,?_,(f07.trans f8).trans' f10 fun b hb=>.inr ?_⟩
    ·obtain ⟨fs,e1,e2⟩:=qqp (frm:=frm) (to:=to) (down:=down) hHas
     rw [hp10] at e1
     have e1:=yN e1
     rw [e1]
     refine .inr ⟨hh,_,e2,?_,fun e=>absurd e (by decide)⟩
     have hso:=hHas.sort
     unfold rangeD
     cases down with
     | false=>exact (qsr hso).symm
     | true=>exact (qpJ hso).symm
    ·rw [zE.1 hb]; exact hcw
  ·have hq:=zB hq
   have hLn:L=[]:=by
    rcases hL with h | ⟨hk,hTr⟩
    ·exact h.2
    ·rcases hTr with ⟨_,h,_⟩ | ⟨hh,n,p,hp,e,hHas⟩
     ·exact h
     ·exact absurd ⟨by omega,by rw [e]; exact hp⟩ hq
   exact ⟨⟨none,0,0⟩,[],[],hC8,h0 hLn,f07.trans f8⟩
 rintro _ w8 ⟨st8,SB8,zs8,hC8,hL8,f8⟩
 exact kk cb w8 st8 SB8 zs8 hC8 hL8 f8
end
end
section
abbrev SS:=Sl×Sl
def encSS (x:SS):List Value:=[x.1.v,x.2.v]
theorem qlw:∀ z,(encSS z).length=2:=fun _=>rfl
theorem qrv (z:SS):∀ u∈encSS z,u.oneCell'=true:=fun u h=>by
 unfold encSS at h
 simp only [zG,xX,or_false] at h
 rcases h with rfl | rfl <;> rfl
theorem que:∃ i,Tryz.prog.info? CPT=some i/\i.zero=some (.agg #[.slice none 0 0,.slice none 0 0])/\i.size=2/\i.bytes=48:=qcV (by kernel_rfl)
theorem qt9 {w:World} {s:Sl} {zs:List SS} {SB:List Nat} {x:SS} {K:Sl->WP} (h:Buf encSS 2 w s zs SB) (O:zs.length<=1000000) (E:∀ C B' w',Buf encSS 2 w' C (zs++[x]) B'->Fr SB w w'->(∀ b∈B',b∈SB\/w.heap.size<=b)->K C w') :
  Pt.new (.cells (prV x.1 x.2) CPT) w fun r G=>Pt.run [Ty1.one Cell.slice] ((Builtin.append_ #[52,52] 52 #[s.v,.slice (pW r) 1 1]).run Tryz.prog G) K:=by
 obtain ⟨j,I,J,u,A⟩:=que
 exact Buf.push (e:=CPT) (x:=x) h qlw (qrv _) (by kernel_rfl) I J u rfl rfl (by rw [A]; omega) (by omega) E
def RowsP (w:World) (h:List Nat) (ps:List (SS×(Key×Key))):Prop:=∀ p∈ps,∃ u A,BufB w p.1.1 p.2.1 u/\BufB w p.1.2 p.2.2 A/\(∀ b∈u,b∈h)/\∀ b∈A,b∈h
theorem RowsP.frame {w w':World} {S C A:List Nat} {ps:List (SS×(Key×Key))} (h:RowsP w C ps) (f:Fr S w w') (E:∀ b∈C,b∉S) (G:∀ b∈C,b∈A):RowsP w' A ps:=fun p K=>by
 obtain ⟨O,Q,R,U,I,J⟩:=h p K
 exact ⟨O,Q,R.frame f fun b u=>E b (I b u),U.frame f fun b u=>E b (J b u),fun b u=>G b (I b u),fun b u=>G b (J b u)⟩
section
variable {dbk pb:Nat} {FD F:List Nat} {D:DiskM} {M:PgM} {k v:Nat} {frm to:Key} {down:Bool} {w0 w wA:World} {cb:Nat} {Y SB:List Nat} {st:Sl} {zs:List FrZ}
theorem qrf {S:List Nat} {t most:Int} {sf af:Sl} {L:Prs} {P:List Int} {K:Sl->WP} (hT:TW dbk pb FD D 5000 w [] F M) (hs:shp t=((k:Int),(v:Int))) (hL:(k=0/\L=[])\/(k≠0/\TreeIs D M k v t L P)) (au:L.length<=90000) (hf:RdB S w sf frm) (ht:RdB S w af to) (av:frm.length<=1000000) (aw:to.length<=1000000) (ax:IsB frm) (ay:IsB to)
  (kk:∀ s w' B A ps,Buf encSS 2 w' s (ps.map (·.1)) B->RowsP w' A ps->(∀ b∈A,b∉B)->ps.map (·.2)=(rangeD down frm to L).take most.toNat->Fr [] w w'->(∀ b∈B,w.heap.size<=b)->(∀ b∈A,w.heap.size<=b)->K s w') :
  cW 26 [.pointer (pW pb),.i t,sf.v,af.v,.bool down,.i most] [.one .slice] w K:=by
 refine qk5 ?_
 unfold qhV
 refine qnA hT hs hL au hf ht av aw ax ay fun cb w1 st SB zs ag az f1=>?_
 have a4:(rangeD down frm to L).length<=90000:=by
  have R:(rangeP frm to L).length<=L.length:=length_filter_le _ _
  unfold rangeD
  split
  ·rw [length_reverse]; omega
  ·omega
 have a5:∀ b∈cb::SB,w.heap.size<=b:=ag.new
 refine qag (fun s w'=>∃ B A ps,Buf encSS 2 w' s (ps.map (·.1)) B/\RowsP w' A ps/\(∀ b∈A,b∉B)/\ps.map (·.2)=(rangeD down frm to L).take most.toNat/\Fr [] w w'/\(∀ b∈B,w.heap.size<=b)/\(∀ b∈A,w.heap.size<=b)) ?_ ?_
 ·refine qfB (fun (i:Nat) s w'=>∃ B A ps st SB zs,i<=(rangeD down frm to L).length/\Buf encSS 2 w' s (ps.map (·.1)) B/\RowsP w' A ps/\(∀ b∈A,b∉B)/\ps.map (·.2)=(rangeD down frm to L).take i/\(most.toNat<i->i=0)/\Fr [] w w'/\(∀ b∈B,w.heap.size<=b)/\(∀ b∈A,w.heap.size<=b)/\CurE dbk pb FD D F M k v frm to down w cb (B++A) w' st SB zs/\Left D M k v frm to down 1 (zs.map (·.2)) ((rangeD down frm to L).drop i)) (fun i=>(rangeD down frm to L).length+1-i) 0 ⟨[],[],[],st,SB,zs,yW _,.nil _ _ _,(fun p V=>nomatch V),(fun b u=>nomatch u),rfl,fun _=>rfl,f1,(fun b u=>nomatch u),(fun b u=>nomatch u),ag,by rw [xE]; exact az⟩ ?_
  rintro i s w2 ⟨B,A,ps,a6,aa,a7,hi,u,hR,hd,J,aD,f2,n2,n3,E,aF⟩ X hX
  have a9:s.len=i:=by
   rw [u.len,zK]
   have:=congrArg List.length J
   rw [zK,yK] at this
   omega
  refine qaa (fun hc=>?_) (fun hc=>?_)
  rotate_left
  ·have hc:=zB hc
   refine ⟨B,A,ps,u,hR,hd,?_,f2,n2,n3⟩
   rw [J]
   by_cases h0:most.toNat<i
   ·have:=aD h0; omega
   ·have:most.toNat=i:=by omega
    rw [this]
  have hc:=zC hc
  have a':i<most.toNat:=by omega
  have ba:=E.lt
  refine qlS E aF (fun aG w3 ab f3=>?_) (fun x L' O ks vs B1 B2 w3 aH aI aJ hk hv ab aK f3 n4 n5 n6 aU=>?_)
  ·refine Own.new' (Own.start [] w3) fun r w4 e4 f4 h=>?_
   refine Own.sz h 0 rfl (prV ⟨none,0,0⟩ ⟨none,0,0⟩) fun w5 h f5=>?_
   refine cond_true rfl ?_
   have ac:Fr (cb::aa) w2 w5:=f3.trans (h.fr.mono fun _ h=>nomatch h)
   have C:∀ b∈B++A,b∉cb::aa:=fun b u I=>by
    rcases zG.1 I with rfl | I
    ·exact E.cby u
    ·exact E.sby b I u
   refine ⟨B,A,ps,u.frame ac fun b u=>C b (by simp [u]),hR.frame ac (fun b u=>C b (by simp [u])) fun b u=>u,hd,?_,f2.trans' ac fun b u=>.inr (E.new b u),n2,n3⟩
   rw [J]
   have G:(rangeD down frm to L).length<=i:=by
    have:=congrArg List.length aG
    rw [yB,xJ] at this
    omega
   rw [zS G,zS (by omega)]
  ·have G:i<(rangeD down frm to L).length:=by
    have:=congrArg List.length O
    rw [yB,yH] at this
    omega
   have hx:(rangeD down frm to L).take (i+1)=(rangeD down frm to L).take i++[x]:=by
    rw [yF G]
    rw [zX G] at O
    rw [(vC O).1]
   have ad:(rangeD down frm to L).drop (i+1)=L':=by
    rw [zX G] at O
    exact (vC O).2
   have C:∀ b∈B++A,b∉cb::aa:=fun b u I=>by
    rcases zG.1 I with rfl | I
    ·exact E.cby u
    ·exact E.sby b I u
   have aM:Buf encSS 2 w3 s (ps.map (·.1)) B:=u.frame f3 fun b u=>C b (by simp [u])
   have aN:RowsP w3 (B1++(B2++A)) (ps++[((ks,vs),x)]):=fun p V=>by
    rcases zD.1 V with V | V
    ·exact hR.frame f3 (fun b u=>C b (by simp [u])) (fun b u=>by simp [u]) p V
    ·rw [zE.1 V]
     exact ⟨B1,B2,hk,hv,fun b u=>by simp [u],fun b u=>by simp [u]⟩
   have an:∀ b∈B1++(B2++A),b∉B:=fun b Q I=>by
    have:=u.lt b I
    rcases zD.1 Q with h | Q
    ·have:=n5 b h; omega
    ·rcases zD.1 Q with h | Q
     ·have:=n6 b h; omega
     ·exact hd b Q I
   refine Own.new' (Own.start [] w3) fun r w4 e4 f4 h=>?_
   refine Own.sz h 0 rfl (prV ks vs) fun w5 h f5=>?_
   refine cond_false rfl ?_
   refine Own.ldA h 0 rfl (ks,vs) rfl ?_
   have aO:=ab.frame0 h.fr
   refine qt9 (x:=(ks,vs)) (aM.frame0 h.fr) (by rw [zK]; have:=congrArg List.length J; rw [zK,yK] at this; omega) fun s6 B6 w6 b6 f6 n7=>?_
   have ao:=ab.lt
   have U:∀ b∈B1++(B2++A),b<w5.heap.size:=fun b u=>yC (ao b (by simp only [zD,zG] at u ⊢; rcases u with h | h | h <;> simp [h])) h.fr.size
   have aQ:Fr [] w w6:=by
    refine (f2.trans' f3 fun b u=>.inr (E.new b u)).trans (h.fr) |>.trans' f6 fun b u=>.inr (n2 b u)
   have hz:=(f2.trans' f3 fun b u=>.inr (E.new b u)).size
   refine hX (i+1) s6 w6 ⟨B6,B1++(B2++A),ps++[((ks,vs),x)],aH,aI,aJ,G,by rw [xM]; exact b6,(aN.frame h.fr (fun _ _ h=>nomatch h) fun b u=>u).frame f6 an fun b u=>u,fun b u I=>?_,by rw [xM,J,hx]; rfl,fun h=>by omega,aQ,fun b u=>?_,fun b u=>?_,aO.frame (f6.mono fun b u _=>by simp [u]) (fun b u=>?_) (fun b u=>?_),by rw [ad]; exact aK⟩ ?_
   ·rcases n7 b I with R | R
    ·exact an b u R
    ·have:=U b u; omega
   ·rcases n7 b u with R | R
    ·exact n2 b R
    ·have:=h.fr.size; omega
   ·have ap:=f2.size
    rcases zD.1 u with h | u
    ·exact zL ap (n5 b h)
    ·rcases zD.1 u with h | u
     ·exact zL ap (n6 b h)
     ·exact n3 b u
   ·rcases zD.1 u with u | u
    ·exact (n7 b u).imp (fun h=>by simp [h]) id
    ·exact .inl (by simp only [zD] at u ⊢; rcases u with h | h | h <;> simp [h])
   ·rcases zD.1 u with u | u
    ·exact b6.lt b u
    ·exact yC (U b u) f6.size
   ·show _+1-(i+1)<_+1-i
    omega
 rintro s w2 ⟨B,A,ps,R,h2,h3,h4,h5,h6,h7⟩
 exact kk s w2 B A ps R h2 h3 h4 h5 h6 h7
end
end
end Go.Proofs.YtmmkegapckbomaaGreatDoor
end
section
namespace Go.Pt
open Go
end Go.Pt
namespace Go.Proofs.YtmmkegapckbomaaGreatDoor
open Go Go.Pt List
open Classical
attribute [local irreducible] ld ldA ldV fld fldA newZ st new idx idxS idxA slc slcS slcP mkS chk nn call callV inv run runQ runU join loop held ext rng undefer s2a nxt ent IntKind.wrap
section
variable {w:World} {S S1 S2:List Nat} {a b s:Sl} {L L1 L2:Prs}
end
end Go.Proofs.YtmmkegapckbomaaGreatDoor
end
section
namespace Go.Proofs.YtmmkegapckbomaaGreatDoor
open Go Go.Pt List
open Classical
attribute [local irreducible] ld ldA ldV fld fldA newZ st new idx idxS idxA slc slcS slcP mkS chk nn call callV inv run runQ runU join loop held ext rng undefer s2a nxt ent IntKind.wrap
theorem qsb {S:List Nat} {w:World} {v:Nat} {c:Int} {K:Sl->WP} (E:c=v) (U:v<=1000000) (I:∀ b∈S,b<w.heap.size) (J:∀ s w',RdB S w' s (zs v)->Fr [] w w'->(∀ G:List Nat,(∀ b∈G,b<w.heap.size)->RdB G w' s (zs v))->K s w') :
  mkS 5 [.b 0] 1 1 c c w K:=by
 subst E
 refine Own.mkN (Own.start [] w) rfl (by omega) (Int.le_refl _) (by omega) (by omega) fun b w' e u=>?_
 rw [zJ] at u ⊢
 have O:=u.at (i:=0) rfl
 have h:∀ G:List Nat,(∀ b∈G,b<w.heap.size)->RdB G w' ⟨pW b,v,v⟩ (zs v):=fun G Q=>by
  refine ⟨by simp [zs],zM _,.inr ⟨b,0,_,_,_,rfl,O,fun R=>by have:=Q b R; omega,fun i x C=>?_⟩⟩
  have V:i<v:=by have:=(zP.1 C).1; simpa [zs] using this
  have A:x=0:=by
   have:=yE C
   exact (mem_replicate.1 this).2
  subst A
  have e1:(List.replicate v [Value.int .u8 0]).flatten=List.replicate v (Value.int .u8 0):=by simp
  rw [e1]
  simp [drop_replicate,take_replicate]
  show List.replicate (min 1 (v-i)) _=_
  rw [show min 1 (v-i)=1 by omega]
  rfl
 exact J _ w' (h S I) u.fr h
end Go.Proofs.YtmmkegapckbomaaGreatDoor
end
section
namespace Go.Proofs.YtmmkegapckbomaaGreatDoor
open Go Go.Pt List
open Classical
section
variable {D:DiskM} {M M':PgM} {k v c:Nat} {t:Int} {L L':Prs} {P P':List Int}
theorem Has.pages_lt (I:4<=(capsV k v).1):∀ {h:Nat} {s:Seg},Has D M k v h s->minOf k v h<=s.size->s.pages.length+1<=s.prs.length
 | 0,s,C,E=>by
  have G:(capsV k v).1 / 2<=s.size:=E
  rw [C.2.1] at G
  rw [C.1,xL]
  omega
 | h+1,s,⟨J,U,G,K,O,u,V,h6,Q⟩,E=>by
  have h8:=u.right.innerTwo.1
  rw [K,O]
  have key:∀ l:List Ent,(∀ e∈l,Has D M k v h e.2/\minOf k v h<=e.2.size)->(l.flatMap (·.2.pages)).length+l.length<=(l.flatMap (·.2.prs)).length:=by
   intro l
   induction l with
   | nil=>intro _; simp
   | cons a l ih=>
    intro A
    have i:=ih fun e R=>A e (zN _ R)
    have j:=Has.pages_lt I (A a (by simp)).1 (A a (by simp)).2
    rw [yG,yG,zF,zF,yH]
    omega
  have:=key J Q
  rw [yH]
  omega
theorem Has.pages_le (E:4<=(capsV k v).1) {h:Nat} {s:Seg} (u:Has D M k v h s):s.pages.length<=s.prs.length:=by
 cases h with
 | zero=>
  have:=length_pos_iff.2 u.ne
  rw [u.1,xL]
  omega
 | succ h=>
  obtain ⟨G,Q,R,I,J,A,U,V,K⟩:=u
  have h8:=A.right.innerTwo.1
  rw [I,J]
  have key:∀ l:List Ent,(∀ e∈l,Has D M k v h e.2/\minOf k v h<=e.2.size)->(l.flatMap (·.2.pages)).length+l.length<=(l.flatMap (·.2.prs)).length:=by
   intro l
   induction l with
   | nil=>intro _; simp
   | cons a l ih=>
    intro C
    have i:=ih fun e O=>C e (zN _ O)
    have j:=Has.pages_lt E (C a (by simp)).1 (C a (by simp)).2
    rw [yG,yG,zF,zF,yH]
    omega
  have:=key G K
  rw [yH]
  omega
theorem TreeIs.pages_le (u:4<=(capsV k v).1) (A:TreeIs D M k v t L P):P.length<=L.length:=by
 rcases A with ⟨C,rfl,rfl⟩ | ⟨h,n,p,G,C,E⟩
 ·exact zM _
 ·exact E.pages_le u
theorem Sole.room3 (h:Sole D M k v c t L P) (u:4<=(capsV k v).1) (E:3*L.length+1<=c):2*(rootM M t).2.2.toNat+1<=M.free.length:=by
 have A:=h.named.length_eq
 rw [zF,h.many] at A
 have G:(M.fresh.map (·.1)).length<=P.length:=List.Nodup.length_le_of_subset h.wf.keysNodup fun x C=>h.use x (.inl C)
 have I:=h.tree.pages_le u
 have J:=(qbl h.tree).1
 omega
theorem Sole.insert3 {key val:Key} (h:Sole D M k v c t L P) (u:CapsOk k v) (A:4<=(capsV k v).1) (C:0<=t/\t<8) (E:key.length=k/\IsB key) (G:val.length=v/\IsB val) (I:3*L.length+1<=c) (O:L.length<=100000) :
  ∃ M' P',insertN D k v t key val (rootM M t).2.2.toNat M=(0,M')/\Sole D M' k v c t (insP key val L) P':=by
 obtain ⟨M',P',e,J,K,_⟩:=qrH u C E G h.tree h.wf h.over h.len h.nodup (by omega) (h.room3 A I)
 exact ⟨M',P',e,h.next J K⟩
theorem Sole.remove3 {key:Key} (h:Sole D M k v c t L P) (u:CapsOk k v) (A:4<=(capsV k v).1) (C:0<=t/\t<8) (E:key∈keysP L) (G:3*L.length+1<=c) (K:L.length<=100000) :
  ∃ M' P',removeN D k v t key (rootM M t).2.2.toNat M=(0,M')/\Sole D M' k v c t (cutP key L) P':=by
 obtain ⟨M',P',e,I,J,_⟩:=qrQ u C h.tree E h.wf h.over h.len h.nodup (by omega) (h.room3 A G)
 exact ⟨M',P',e,h.next I J⟩
end
end Go.Proofs.YtmmkegapckbomaaGreatDoor
end
section
namespace Go.Proofs.YtmmkegapckbomaaGreatDoor
open Go Go.Pt List
open Classical
attribute [local irreducible] ld ldA ldV fld fldA newZ st new idx idxS idxA slc slcS slcP mkS chk nn call callV inv run runQ runU join loop held ext rng undefer s2a nxt ent IntKind.wrap
theorem qsG {w:World} {a0:Int} {E I J O:Sl} {a5:Bool} {u:Kps} {K:Bool->WP} (Q:RdK [] w E u)
  (U:∀ b w',Fr [] w w'->(b=false->E.len<=120/\I.len<=120/\J.len<=100/\O.len<=100/\∀ p∈u,p.2.length<=100)->K b w') :
  cW 23 [.agg #[.i a0,E.v,I.v,J.v,O.v,.bool a5]] [.one .bool] w K:=by
 refine qcT ?_
 unfold qbH
 refine Own.new' (Own.start [] w) fun r w1 e1 R h=>?_
 refine qag (fun b w'=>w'=w1/\(b=false->E.len<=120/\I.len<=120/\J.len<=100/\O.len<=100)) ?_ ?_
 ·refine Own.ld h 0 rfl E rfl ?_
  refine qaa (fun h=>⟨rfl,fun h=>nomatch h⟩) fun g1=>?_
  refine Own.ld h 0 rfl I rfl ?_
  refine qaa (fun h=>⟨rfl,fun h=>nomatch h⟩) fun g2=>?_
  refine Own.ld h 0 rfl J rfl ?_
  refine qaa (fun h=>⟨rfl,fun h=>nomatch h⟩) fun g3=>?_
  refine Own.ld h 0 rfl O rfl ?_
  refine ⟨rfl,fun g4=>?_⟩
  have g1:=zB g1
  have g2:=zB g2
  have g3:=zB g3
  have g4:=zB g4
  omega
 rintro b w2 ⟨rfl,hb⟩
 refine qaa (fun Q=>U true _ R fun h=>nomatch h) fun V=>?_
 obtain ⟨q1,q2,q3,q4⟩:=hb V
 refine Own.ld h 0 rfl E rfl ?_
 have hl:=Q.len
 refine qak (fun s w'=>w'=w2/\∃ i:Nat,s=i/\i<=u.length/\∀ p∈u.take i,p.2.length<=100) (fun s _=>u.length-s.toNat) ⟨rfl,0,rfl,yW _,by simp⟩ ?_
 rintro s w3 ⟨rfl,i,rfl,hi,hp⟩ X hX
 refine qaa (fun G=>?_) (fun G=>?_)
 ·have G:=zC G
  have A:i<u.length:=by omega
  refine RdK.get (Q.frame0 R) i rfl A ?_
  have ap:=(Q.2 _ (zW A)).1
  refine qaa (fun _=>U true _ R fun h=>nomatch h) fun hs=>?_
  have hs:=zB hs
  refine hX _ _ ⟨rfl,i+1,?_,A,fun p C=>?_⟩ ?_
  ·rw [wi' _ (by omega)]; rfl
  ·rw [yF A] at C
   rcases zD.1 C with h | h
   ·exact hp p h
   ·rw [zE.1 h]; omega
  ·rw [wi' _ (by omega)]; omega
 ·have G:=zB G
  refine U false _ R fun _=>⟨q1,q2,q3,q4,fun p C=>hp p ?_⟩
  rw [zS (by omega)]
  exact C
section
variable {k v c:Nat} {t:Int} {w0 w:World} {s:Sl} {m:Nat} {dbk pb:Nat} {FD F B:List Nat} {D:DiskM} {M:PgM} {P:List Int} {L:Prs}
theorem HiI.put3 {ks vs:Sl} {key val:Key} {K:Int->WP} (h:HiI k v c t w0 w s m dbk pb FD D F M P L B) (O:0<=t/\t<8) (Q:shp t=((k:Int),(v:Int))) (u:CapsOk k v) (A:4<=(capsV k v).1) (R:1<=k) (hm:3*m+1<=c) (U:m<=100000)
  (C:IsB key) (E:key.length=k) (G:IsB val) (I:val.length=v) (V:RdB (Zo FD [] F) w ks key) (hv:RdB (Zo FD [] F) w vs val)
  (kk:∀ F' w' M' P',TW dbk pb FD D 5000 w' [] F' M'->Sole D M' k v c t (insP key val L) P'->Fr F w w'->(∀ b∈F',b∈F\/w.heap.size<=b)->K 0 w') :
  cW 17 [.pointer (pW pb),.i t,ks.v,vs.v] [.one .i] w K:=by
 have hl:=h.len
 obtain ⟨M',P',e,hS⟩:=h.sole.insert3 (key:=key) (val:=val) u A O ⟨E,C⟩ ⟨I,G⟩ (by omega) (by omega)
 obtain ⟨r1,r2,r3,r4⟩:=qbl h.sole.tree
 refine qoJ (f:=(rootM M t).2.2.toNat) C G Q (by omega) E I h.tw V hv ⟨r4,by omega⟩ (h.sole.room3 A (by omega)) (qiF e) fun F' w' J f n=>?_
 rw [e] at J ⊢
 exact kk F' w' M' P' J hS f n
theorem HiI.cut3 {ks:Sl} {key:Key} {K:Int->WP} (h:HiI k v c t w0 w s m dbk pb FD D F M P L B) (I:0<=t/\t<8) (J:shp t=((k:Int),(v:Int))) (u:CapsOk k v) (C:4<=(capsV k v).1) (O:1<=k) (hm:3*m+1<=c) (Q:m<=100000)
  (A:key∈keysP L) (R:RdB (Zo FD [] F) w ks key)
  (U:∀ F' w' M' P',TW dbk pb FD D 5000 w' [] F' M'->Sole D M' k v c t (cutP key L) P'->Fr F w w'->(∀ b∈F',b∈F\/w.heap.size<=b)->K 0 w') :
  cW 21 [.pointer (pW pb),.i t,ks.v] [.one .i] w K:=by
 have hl:=h.len
 obtain ⟨M',P',e,V⟩:=h.sole.remove3 (key:=key) u C I A (by omega) (by omega)
 obtain ⟨r1,r2,r3,r4⟩:=qbl h.sole.tree
 obtain ⟨x,hx,rfl⟩:=mem_map.1 A
 obtain ⟨q1,q2,q3,q4⟩:=h.sole.tree.sort.2 x hx
 obtain ⟨y,hy⟩:=qmb A
 have E:=h.sole.tree.get (key:=x.1) h.sole.wf h.sole.over
 rw [hy] at E
 refine qtK (f:=(rootM M t).2.2.toNat) (f2:=(rootM M t).2.2.toNat) q3 u J (by omega) q1 h.tw R ⟨r4,by omega⟩ (h.sole.room3 C (by omega)) (by rw [E]) (h.sole.tree.safe u A h.sole.wf h.sole.over h.sole.nodup (h.sole.room3 C (by omega))) fun F' w' G f n=>?_
 rw [e] at G ⊢
 exact U F' w' M' P' G V f n
theorem HiI.go {C A w3:World} {F F' B':List Nat} {M M':PgM} {P P':List Int} {L L':Prs} {B:List Nat} {s G:Sl} {m I:Nat} (h:HiI k v c t w0 C s m dbk pb FD D F M P L B) (J:TW dbk pb FD D 5000 A [] F' M') (O:Sole D M' k v c t L' P') (f:Fr F C A) (n:∀ b∈F',b∈F\/C.heap.size<=b) (K:Fr [] A w3) (u:Buf encPr 2 w3 G L' B') (Q:∀ b∈B',A.heap.size<=b) (R:L'.length<=I):HiI k v c t w0 w3 G I dbk pb FD D F' M' P' L' B':=by
 refine ⟨J.frame0 K,O,u,R,(h.fr.trans' f fun b u=>.inr (h.new b (zI _ u))).trans K,fun b u=>?_,fun b u U=>?_⟩
 ·rcases zD.1 u with u | u
  ·exact h.new b (zH _ u)
  ·rcases n b u with E | E
   ·exact h.new b (zI _ E)
   ·exact zL h.fr.size E
 ·have:=Q b u
  have:=J.pager.lt b U
  omega
end
theorem qnd {t:Int} {k v:Nat} (h:good t) (A:shp t=((k:Int),(v:Int))):4<=(capsV k v).1:=by
 obtain ⟨C,E⟩:=h
 have:t=0\/t=1\/t=2\/t=3\/t=4\/t=5\/t=6\/t=7:=by omega
 rcases this with rfl | rfl | rfl | rfl | rfl | rfl | rfl | rfl <;>
  (obtain ⟨e1,u⟩:=vB A; have e1:=Int.ofNat.inj e1; have u:=Int.ofNat.inj u; subst e1 u; decide)
theorem qqS {S:List Nat} {w:World} {v:Nat} {c y:Int} {K:Sl->WP} (E:c=v) (G:1<=v) (hv:v<=1000000) (I:∀ b∈S,b<w.heap.size) (J:∀ s w',RdB S w' s (y::zs (v-1))->Fr [] w w'->K s w') :
  mkS 5 [.b 0] 1 1 c c w fun s O=>idx s 0 1 fun a=>st a [.b y] O fun C=>K s C:=by
 subst E
 refine Own.mkN (Own.start [] w) rfl (by omega) (Int.le_refl _) (by omega) (by omega) fun b w' e A=>?_
 rw [zJ] at A ⊢
 refine qa0 rfl ⟨by omega,by show (0:Int)<(v:Int); omega⟩ ?_
 have Q:(List.replicate v [Value.int .u8 0]).flatten.toArray=bytesA (zs v):=by simp [bytesA,zs]
 rw [Q] at A
 obtain ⟨n,rfl⟩:∃ n,v=n+1:=⟨v-1,by omega⟩
 have R:zs (n+1)=0::zs n:=replicate_succ
 rw [R] at A
 refine Own.st' A 0 rfl (bytesA (y::zs n)) (by simp [splice,bytesA]) rfl (by rw [qb1]; simp) fun C h f2=>?_
 have U:=h.at (i:=0) rfl
 have hl:(y::zs n).length=n+1:=by simp [zs]
 have u:=qce (S:=S) (o:=0) (n:=n+1) (cap:=n+1) U (by omega) (zM _) (fun V=>by have:=I b V; omega)
 rw [xE,zS (by omega)] at u
 exact J _ C u h.fr
theorem qse {w:World} {a0:Int} {a1 a2 a3 a4:Sl} {a5:Bool} {A:Kps} {C:List Int} {K:Option Addr×Int×Sl->WP} (hv:Hv w) (hk:RdK [] w a1 A) (hB:∀ p∈A,IsB p.2) (hc:RdB [] w a2 C) (aY:IsB C) (g1:a1.len<=120) (g2:a2.len<=120) (g3:∀ p∈A,p.2.length<=100)
  (kk:∀ t k v w' s m dbk pb FD D F M P L B,0<=t/\t<8->shp t=(((k:Nat):Int),((v:Nat):Int))->CapsOk k v->1<=k/\k<=24/\1<=v/\v<=108->HiI k v 394 t w w' s m dbk pb FD D F M P L B->m<=120->K (pW pb,t,s) w') :
  cW 25 [.agg #[.i a0,a1.v,a2.v,a3.v,a4.v,.bool a5]] [.one .ptr,.one .i,.one .slice] w K:=by
 refine qcY ?_
 unfold qbG
 have bx:a1.len=A.length:=hk.len
 have bz:a2.len=C.length:=hc.1
 refine Own.new' (Own.start [] w) fun r wr er fr hr=>?_
 have bA:r>=w.heap.size:=by omega
 refine qmm (n:=400) [] (fun b U=>nomatch U) (fun h=>nomatch h) (hv.frame0 fr) (by decide) (by decide) fun dbk pb FD F D w1 hT hM f1 n1=>?_
 have h:=hr.frame0 f1
 refine Own.ld h 0 rfl a0 rfl ?_
 have ht:0<=IntKind.wrap .i64 (Int.tmod (IntKind.wrap .u64 a0) 8)/\IntKind.wrap .i64 (Int.tmod (IntKind.wrap .u64 a0) 8)<8:=by
  have h0:0<=IntKind.wrap .u64 a0:=by rw [IntKind.wrap_u64]; omega
  rw [Int.tmod_eq_emod_of_nonneg h0,wi' _ (by omega)]
  omega
 generalize IntKind.wrap .i64 (Int.tmod (IntKind.wrap .u64 a0) 8)=t at ht
 refine cond_false rfl ?_
 obtain ⟨k,v,hs,J,ag,ab,aD,ah⟩:=qpg (t:=t) ⟨ht.1,by omega⟩
 have aE:=qnd ⟨ht.1,by omega⟩ hs
 refine qhq ?_
 rw [hs]
 have aF:Sole D (madeM 400) k v ((400-2)-needP (400-2)) t [] []:=qlC ht (by decide) (by decide) hT.wf
 have a6:(400-2)-needP (400-2)=394:=by decide
 rw [a6] at aF
 have h0:HiI k v 394 t wr w1 ⟨none,0,0⟩ 0 dbk pb FD D F (madeM 400) [] [] []:=⟨hT,aF,.nil _ _ _,zM _,f1,n1,fun b U=>nomatch U⟩
 refine Own.ld h 0 rfl a1 rfl ?_
 refine qak (fun q w'=>∃ i:Nat,q.2=i/\i<=A.length/\∃ F M P L B,HiI k v 394 t wr w' q.1 i dbk pb FD D F M P L B) (fun q _=>A.length-q.2.toNat) ⟨0,rfl,yW _,F,_,_,_,_,h0⟩ ?_
 rintro ⟨s1,y⟩ w2 ⟨i,hy,hi,F,M,P,L,B,u⟩ X hX
 dsimp only at hy u ⊢
 subst hy
 refine qaa (fun ai=>?_) (fun ai=>?_)
 ·have ai:=zC ai
  have O:i<A.length:=by omega
  refine RdK.get ((hk.frame0 fr).frame0 u.fr) i rfl O ?_
  have ac:=((hk.frame0 fr).frame0 u.fr).2 _ (zW O)
  have aj:=hB _ (zW O)
  have aG:=g3 _ (zW O)
  generalize A[i]=bD at ac aj aG
  refine qd3 ac aj ?_
  refine qpV (n:=k) aj (by omega) ab (by decide) fun key w3 Q I f3=>?_
  have aH:=u.tw.frame0 f3
  refine qqS (S:=Zo FD [] F) rfl aD (by omega) (qkg aH) fun vs w4 aI f4=>?_
  have V:IsB (IntKind.wrap .u8 (i:Int)::zs (v-1)):=fun z hz=>by
   rcases zG.1 hz with rfl | hz
   ·exact qo6 _
   ·exact qrn _ z hz
  have ak:(IntKind.wrap .u8 (i:Int)::zs (v-1)).length=v:=by simp [zs]; omega
  generalize IntKind.wrap .u8 (i:Int)::zs (v-1)=val at aI V ak
  refine ql7 (e:=5) I (by kernel_rfl) (by kernel_rfl) (by kernel_rfl) fun kb w5 al f5=>?_
  have am:=(f3.trans f4).trans f5
  have G:HiI k v 394 t wr w5 s1 i dbk pb FD D F M P L B:=⟨u.tw.frame0 am,u.sole,u.buf.frame0 am,u.len,u.fr.trans am,u.new,u.apart⟩
  have ad:=aI.frame0 f5
  refine G.put3 ht hs J aE ag (by omega) (by omega) I Q V ak (al _ (qkg (aH.frame0 f4))) ad fun F6 w6 M6 P6 an ao f6 n6=>?_
  refine cond_false rfl ?_
  have aM:RdB [] w6 vs val:=Rds.frame ad (f6.mono fun b U _=>zI _ U) fun b U=>nomatch U
  refine qd3 aM V ?_
  have ap:Buf encPr 2 w6 s1 L B:=G.buf.frame f6 G.apart
  have hl:=u.len
  have E:=u.sole.tree.sort
  refine qsq (S:=[]) hs (by omega) Q ak I V (by omega) (ap.rds qbU fun b _=>by simp) (E.2.prB (by omega) (by omega)) (by omega) fun s7 B7 w7 b7 f7 n7=>?_
  rw [qnN E.1] at b7
  have bb:=qtV (k:=key) (v:=val) E.1
  have aq:HiI k v 394 t wr w7 s7 (i+1) dbk pb FD D F6 M6 P6 (insP key val L) B7:=G.go an ao f6 n6 f7 b7 n7 (by omega)
  refine hX _ _ ⟨i+1,?_,O,F6,M6,P6,_,B7,aq⟩ ?_
  ·show IntKind.wrap .i64 _=_
   rw [wi' _ (by omega)]; rfl
  ·show A.length-(IntKind.wrap .i64 _).toNat<_
   rw [wi' _ (by omega)]; show _<A.length-((i:Int)).toNat; omega
 ·have bc:i<=120:=by omega
  refine qag (fun q w'=>∃ F M P L B,HiI k v 394 t wr w' q i dbk pb FD D F M P L B) ?_ ?_
  ·refine Own.ld (hr.frame0 u.fr) 0 rfl a2 rfl ?_
   refine qak (fun q w'=>∃ j:Nat,q.2=j/\j<=C.length/\∃ F M P L B,HiI k v 394 t wr w' q.1 i dbk pb FD D F M P L B) (fun q _=>C.length-q.2.toNat) ⟨0,rfl,yW _,F,M,P,L,B,u⟩ ?_
   clear hX X u
   rintro ⟨s2,z⟩ w3 ⟨j,hz,hj,F,M,P,L,B,u⟩ X hX
   dsimp only at hz u ⊢
   subst hz
   refine qaa (fun ar=>?_) (fun ar=>⟨F,M,P,L,B,u⟩)
   have ar:=zC ar
   have au:j<C.length:=by omega
   have aO:=u.buf.len
   have hl:=u.len
   refine Rds.get ((hc.frame0 fr).frame0 u.fr) j rfl (zA au) (y:=C[j]) rfl ?_
   have aP:=aY _ (zW au)
   generalize C[j]=cb at aP
   refine qaa (fun h=>⟨F,M,P,L,B,u⟩) (fun h=>?_)
   have bH:L.length≠0:=fun e=>by rw [aO,e] at h; exact absurd h (by decide)
   refine qbg (by omega) ?_
   have aQ:Int.tmod (IntKind.wrap .i64 cb) (s2.len:Int)=((cb.toNat%L.length:Nat):Int):=by
    rw [wi' _ (by omega),Int.tmod_eq_emod_of_nonneg aP.1,aO]
    obtain ⟨cn,e⟩:∃ cn:Nat,cb=cn:=⟨cb.toNat,by omega⟩
    rw [e,zJ]
    rfl
   have av:cb.toNat%L.length<L.length:=Nat.mod_lt _ (by omega)
   have aR:Rds encPr 2 [] w3 s2 L:=u.buf.rds qbU fun b _=>by simp
   refine Rds.str1 aR _ aQ av ?_
   have R:L[cb.toNat%L.length].1∈keysP L:=zY (zW av)
   have E:=u.sole.tree.sort
   obtain ⟨q1,q2,q3,q4⟩:=E.2 _ (zW av)
   generalize L[cb.toNat%L.length].1=key at R q1 q3
   refine ql7 (e:=5) q3 (by kernel_rfl) (by kernel_rfl) (by kernel_rfl) fun kb w5 al f5=>?_
   have G:HiI k v 394 t wr w5 s2 i dbk pb FD D F M P L B:=⟨u.tw.frame0 f5,u.sole,u.buf.frame0 f5,u.len,u.fr.trans f5,u.new,u.apart⟩
   refine G.cut3 ht hs J aE ag (by omega) (by omega) R (al _ (qkg u.tw)) fun F6 w6 M6 P6 an ao f6 n6=>?_
   refine cond_false rfl ?_
   have ap:Buf encPr 2 w6 s2 L B:=G.buf.frame f6 G.apart
   refine qsL (S:=[]) hs (by omega) q1 q3 (ap.rds qbU fun b _=>by simp) (E.2.prB (by omega) (by omega)) (by omega) R fun s7 B7 w7 b7 f7 n7=>?_
   have bb:=qtC (k:=key) (l:=L)
   have aq:HiI k v 394 t wr w7 s7 i dbk pb FD D F6 M6 P6 (cutP key L) B7:=G.go an ao f6 n6 f7 b7 n7 (by omega)
   refine hX _ _ ⟨j+1,?_,au,F6,M6,P6,_,B7,aq⟩ ?_
   ·show IntKind.wrap .i64 _=_
    rw [wi' _ (by omega)]; rfl
   ·show C.length-(IntKind.wrap .i64 _).toNat<_
    rw [wi' _ (by omega)]; show _<C.length-((j:Int)).toNat; omega
  ·rintro s3 w3 ⟨F3,M3,P3,L3,B3,h3⟩
   have bf:=fr.size
   exact kk t k v w3 s3 i dbk pb FD D F3 M3 P3 L3 B3 ht hs J ⟨ag,ab,aD,ah⟩ ⟨h3.tw,h3.sole,h3.buf,h3.len,fr.trans h3.fr,fun b U=>zL bf (h3.new b U),h3.apart⟩ bc
theorem Sole.put {k v c:Nat} {t:Int} {w:World} {dbk pb:Nat} {FD F:List Nat} {D:DiskM} {M:PgM} {P:List Int} {L:Prs} {ks vs:Sl} {key val:Key} {K:Int->WP} (J:Sole D M k v c t L P) (I:TW dbk pb FD D 5000 w [] F M) (Q:0<=t/\t<8) (R:shp t=((k:Int),(v:Int))) (h:CapsOk k v) (u:4<=(capsV k v).1) (U:1<=k) (hm:3*L.length+1<=c) (V:L.length<=100000)
  (A:IsB key) (C:key.length=k) (E:IsB val) (G:val.length=v) (hk:RdB (Zo FD [] F) w ks key) (hv:RdB (Zo FD [] F) w vs val)
  (kk:∀ F' w' M' P',TW dbk pb FD D 5000 w' [] F' M'->Sole D M' k v c t (insP key val L) P'->Fr F w w'->(∀ b∈F',b∈F\/w.heap.size<=b)->K 0 w') :
  cW 17 [.pointer (pW pb),.i t,ks.v,vs.v] [.one .i] w K:=by
 obtain ⟨M',P',e,O⟩:=J.insert3 (key:=key) (val:=val) h u Q ⟨C,A⟩ ⟨G,E⟩ (by omega) (by omega)
 obtain ⟨r1,r2,r3,r4⟩:=qbl J.tree
 refine qoJ (f:=(rootM M t).2.2.toNat) A E R (by omega) C G I hk hv ⟨r4,by omega⟩ (J.room3 u (by omega)) (qiF e) fun F' w' I f n=>?_
 rw [e] at I ⊢
 exact kk F' w' M' P' I O f n
def fixK (n:Nat):Prs:=(([[1],[3],[5]]:List Key).take n).map fun k=>(k,zs 8)
theorem qjm:insP [1] (zs 8) (fixK 0)=fixK 1/\insP [3] (zs 8) (fixK 1)=fixK 2/\insP [5] (zs 8) (fixK 2)=fixK 3:=by
 have h:¬ KLt [3] [1]:=by unfold KLt; decide
 have u:¬ KLt [5] [1]:=by unfold KLt; decide
 have A:¬ KLt [5] [3]:=by unfold KLt; decide
 refine ⟨rfl,?_,?_⟩
 ·show insP [3] (zs 8) [([1],zs 8)]=_
  rw [insP,if_neg h,if_neg (by decide)]
  rfl
 ·show insP [5] (zs 8) [([1],zs 8),([3],zs 8)]=_
  rw [insP,if_neg u,if_neg (by decide),insP,if_neg A,if_neg (by decide)]
  rfl
theorem qj0 {w:World} {K:Bool->WP} (hv:Hv w) (kk:∀ w',Fr [] w w'->K true w'):cW 24 [] [.one .bool] w K:=by
 refine qeY ?_
 unfold qcG
 refine qmm (n:=30) [] (fun b u=>nomatch u) (fun h=>nomatch h) hv (by decide) (by decide) fun dbk pb FD F D w1 C hM f1 n1=>?_
 refine cond_false rfl ?_
 have hs:shp 7=(((1:Nat):Int),((8:Nat):Int)):=rfl
 obtain ⟨k,v,J,ab,_⟩:=qpg (t:=7) ⟨by decide,by decide⟩
 rw [hs] at J
 obtain ⟨rfl,rfl⟩:k=1/\v=8:=⟨(Int.ofNat.inj (vB J).1).symm,(Int.ofNat.inj (vB J).2).symm⟩
 have aq:=qnd (t:=7) ⟨by decide,by decide⟩ hs
 have O:Sole D (madeM 30) 1 8 ((30-2)-needP (30-2)) 7 [] []:=qlC ⟨by decide,by decide⟩ (by decide) (by decide) C.wf
 have ar:20<=(30-2)-needP (30-2):=by decide
 generalize (30-2)-needP (30-2)=c at O ar
 refine Own.new' (Own.start [] w1) fun r w2 e2 f2 h=>?_
 have av:=qab (h.at (i:=0) rfl)
 dsimp only at av
 refine qak (fun q w'=>∃ n:Nat,q=n/\n<=3/\∃ F M P,TW dbk pb FD D 5000 w' [] F M/\Sole D M 1 8 c 7 (fixK n) P/\w'.heap[r]?=some (.cells #[.b 1,.b 3,.b 5] 5 (0,0))/\Fr [] w w'/\(∀ b∈FD++F,w.heap.size<=b)/\r∉F) (fun q _=>3-q.toNat) ⟨0,rfl,by decide,F,_,_,C.frame0 f2,O,h.at (i:=0) rfl,f1.trans f2,n1,fun hm=>?_⟩ ?_
 ·have:=C.pager.lt r hm
  omega
 clear C O hM h f2 n1
 rintro q w3 ⟨n,rfl,hn,F,M,P,C,hS,U,f3,n3,ad⟩ X hX
 refine qaa (fun E=>?_) (fun E=>?_)
 ·have E:=zC E
  have Q:n<3:=by
   have h:(n:Int)<((3:Nat):Int):=E
   omega
  have hx:∃ x:Int,(#[.b 1,.b 3,.b 5]:Array Value)[n]?=some (.b x)/\0<=x/\x<256/\insP [x] (zs 8) (fixK n)=fixK (n+1):=by
   obtain rfl | rfl | rfl:n=0\/n=1\/n=2:=by omega
   ·exact ⟨1,rfl,by decide,by decide,qjm.1⟩
   ·exact ⟨3,rfl,by decide,by decide,qjm.2.1⟩
   ·exact ⟨5,rfl,by decide,by decide,qjm.2.2⟩
  obtain ⟨x,ay,az,aA,aB⟩:=hx
  refine qck (by omega) (by omega) ?_
  rw [zJ,xT,xR]
  refine qaj U x ay ?_
  refine Own.new' (Own.start [] w3) fun r2 w4 e4 V h4=>?_
  have aC:w4.heap[r2]?=some (.cells (bytesA [x]) 5 (0,0)):=h4.at (i:=0) rfl
  have af:=C.frame0 V
  refine qsb (S:=Zo FD [] F) (v:=8) rfl (by decide) (qkg af) fun vs w5 aD R _=>?_
  have aE:RdB (Zo FD [] F) w5 ⟨pW r2,1,1⟩ [x]:=by
   have:=qce (S:=Zo FD [] F) (o:=0) (n:=1) (cap:=1) aC (zM _) (zM _) (fun hm=>by have:=qkg C _ hm; omega)
   exact this.frame0 R
  have a4:(fixK n).length<=3:=by unfold fixK; rw [zK,yK]; exact Nat.min_le_right _ _
  refine hS.put (af.frame0 R) ⟨by decide,by decide⟩ hs ab aq (by decide) (by omega) (by omega) (fun z hz=>by rw [zE.1 hz]; exact ⟨az,aA⟩) rfl (qrn 8) (by simp [zs]) aE aD fun F6 w6 M6 P6 aF ah f6 n6=>?_
  refine cond_false rfl ?_
  rw [aB] at ah
  have hz:=(f3.trans (V.trans R)).size
  have ai:=yC (qab U) (V.trans R).size
  refine hX _ _ ⟨n+1,?_,Q,F6,M6,P6,aF,ah,?_,(f3.trans (V.trans R)).trans' f6 (fun b u=>.inr (n3 b (zI _ u))),fun b u=>?_,fun hm=>?_⟩ ?_
  ·rw [wi' _ (by omega)]; rfl
  ·rw [f6.block r ai ad,(V.trans R).block r (qab U) (fun h=>nomatch h)]; exact U
  ·rcases zD.1 u with u | u
   ·exact n3 b (zH _ u)
   ·rcases n6 b u with h | h
    ·exact n3 b (zI _ h)
    ·exact zL hz h
  ·rcases n6 r hm with h | h
   ·exact ad h
   ·omega
  ·rw [wi' _ (by omega)]; omega
 ·have E:=zB E
  have Q:n=3:=by omega
  subst Q
  refine Own.new' (Own.start [] w3) fun ra w4 e4 V h=>?_
  refine Own.new' h fun rb w5 e5 R h=>?_
  have ha:RdB [] w5 ⟨pW ra,1,1⟩ [2]:=qce (o:=0) (n:=1) (cap:=1) (L:=[2]) (h.at (i:=1) rfl) (by decide) (zM _) (fun h=>nomatch h)
  have u:RdB [] w5 ⟨pW rb,1,1⟩ [5]:=qce (o:=0) (n:=1) (cap:=1) (L:=[5]) (h.at (i:=0) rfl) (by decide) (zM _) (fun h=>nomatch h)
  have hB:∀ x:Int,0<=x/\x<256->IsB [x]:=fun x hx z hz=>by rw [zE.1 hz]; exact hx
  refine qrf (k:=1) (v:=8) (C.frame0 h.fr) hs (.inr ⟨by decide,hS.tree⟩) (by unfold fixK; rw [zK]; decide) ha u (by decide) (by decide) (hB 2 (by decide)) (hB 5 (by decide)) fun s w6 B KB ps aj ak a9 A f6 a' ba=>?_
  have aI:=f3.trans (h.fr.trans f6)
  have U:(rangeD true [2] [5] (fixK 3)).take (9:Int).toNat=[([5],zs 8),([3],zs 8)]:=by
   unfold rangeD rangeP fixK
   rfl
  rw [U] at A
  obtain ⟨G,I,rfl⟩:∃ G I,ps=[G,I]:=by
   match ps,congrArg List.length A with
   | [G,I],_=>exact ⟨G,I,rfl⟩
  have q0:=(vC A).1
  have q1:=(vC (vC A).2).1
  obtain ⟨B1,B2,r1,_⟩:=ak G (by simp)
  obtain ⟨B3,B4,r3,_⟩:=ak I (by simp)
  dsimp only at q0 q1
  rw [q0] at r1
  rw [q1] at r3
  have aJ:Rds encSS 2 [] w6 s [G.1,I.1]:=aj.rds qlw fun b _=>by simp
  have aK:s.len=2:=aj.len
  refine cond_true (by rw [aK]; rfl) ?_
  have al:∀ (p:SS) (n:Nat) (x:Int) (B:List Nat) (K:ByteArray->Prop),([G.1,I.1]:List SS)[n]?=some p->BufB w6 p.1 [x] B->0<=x/\x<256->K (strL [x])->idx s n 2 fun a=>ld .slice a w6 fun q=>runQ [.one .str] (fun w'=>(convert 23 9 q.v).run Tryz.prog w') w6 K:=by
   intro p n x B K hp am hx hk
   obtain ⟨hl,b,o,ha,_,cs,T,fr,u,E⟩:=aJ.at n hp
   refine qa0 ha ⟨by omega,by omega⟩ ?_
   rw [zJ]
   have h0:((cs.toList.drop (o+n*2)).take 2)[0]?=(encSS p)[0]?:=by rw [E]
   rw [xA,if_pos (by decide),yZ,xS,xK] at h0
   refine qaE p.1 ((qaf u).trans h0) ?_
   exact qd3 (S:=[]) (am.rdb fun b _=>by simp) (hB x hx) hk
  refine al G.1 0 5 B1 _ rfl r1 (by decide) ?_
  refine cond_true (beq_self_eq_true _) ?_
  refine al I.1 1 3 B3 _ rfl r3 (by decide) ?_
  have:=kk w6 aI
  rwa [<- beq_self_eq_true (ByteArray.toList (strL [3]))] at this
structure AskD (w:World) (a1 a2 a3 a4:Sl) (rows:Kps) (cuts:List Int) (frm to:Key):Prop where
 h1:RdK [] w a1 rows
 b1:∀ p∈rows,IsB p.2
 h2:RdB [] w a2 cuts
 b2:IsB cuts
 h3:RdB [] w a3 frm
 b3:IsB frm
 h4:RdB [] w a4 to
 b4:IsB to
theorem PrB.sub {L L':Prs} (h:PrB L) (u:∀ x∈L',x∈L):PrB L':=fun x A=>h x (u x A)
theorem qrW {down:Bool} {frm to:Key} {L:Prs}:∀ x∈rangeD down frm to L,x∈L:=fun x h=>by
 unfold rangeD rangeP at h
 split at h
 ·exact (mem_filter.1 (mem_reverse.1 h)).1
 ·exact (mem_filter.1 h).1
theorem qqC {down:Bool} {frm to:Key} {L:Prs}:(rangeD down frm to L).length<=L.length:=by
 unfold rangeD rangeP
 split
 ·rw [length_reverse]; exact length_filter_le _ _
 ·exact length_filter_le _ _
end Go.Proofs.YtmmkegapckbomaaGreatDoor
end
section
namespace Go.Proofs.YtmmkegapckbomaaGreatDoor
open Go.ChangeShapes Go.WideShapes Go.ChangeAt Go.RowKit Go.Pt
abbrev ASK:TypeId:=49
theorem quH:fieldT Tryz.prog ASK 1=some 22:=by kernel_rfl
theorem quG:fieldT Tryz.prog ASK 2=some 23:=by kernel_rfl
theorem qux:fieldT Tryz.prog ASK 3=some 23:=by kernel_rfl
theorem quF:fieldT Tryz.prog ASK 4=some 23:=by kernel_rfl
section
variable {H:Type} {enc:TypeId×Value->H} {W:World} {base:Nat} {spare:Nat->Bool} {held:Bool}
theorem qjp {n:Nat} {s:Sl} {y:DataW H×List MemPlace} (h:DataW.trod enc Tryz.prog W base spare held n 23 [s.v]=some y):∃ l,RdB [] W s l/\IsB l:=by
 obtain ⟨l,g,e⟩:=qhX (P:=Tryz.prog) (t:=23) (e:=5) (s:=s) (k:=1) (encB:=fun n=>[Value.int .u8 n]) (by kernel_rfl) (by kernel_rfl) (by decide) (qmL (k:=.u8) (by kernel_rfl)) h
 exact ⟨l,g,fun z u=>qpq (e z u)⟩
theorem qsA {n:Nat} {x:HL qql} {y:DataW H×List MemPlace} (h:DataW.trod enc Tryz.prog W base spare held n ASK (HL.mk qql x)=some y):∃ u A frm to,AskD W x.2.1 x.2.2.1 x.2.2.2.1 x.2.2.2.2.1 u A frm to:=by
 obtain ⟨x',e,_,C⟩:=qqQ (cs:=qql) (by kernel_rfl) n _ y h
 rw [<- e] at C
 obtain ⟨u1,n1,y1,E,K⟩:=C 1 x.2.1.v rfl
 obtain rfl:=yN (quH.symm.trans E)
 obtain ⟨u2,n2,y2,G,O⟩:=C 2 x.2.2.1.v rfl
 obtain rfl:=yN (quG.symm.trans G)
 obtain ⟨u3,n3,y3,I,Q⟩:=C 3 x.2.2.2.1.v rfl
 obtain rfl:=yN (qux.symm.trans I)
 obtain ⟨u4,n4,y4,J,R⟩:=C 4 x.2.2.2.2.1.v rfl
 obtain rfl:=yN (quF.symm.trans J)
 obtain ⟨u,U,V⟩:=qt2 K
 obtain ⟨A,c1,c2⟩:=qjp O
 obtain ⟨frm,d1,d2⟩:=qjp Q
 obtain ⟨to,d3,d4⟩:=qjp R
 exact ⟨u,A,frm,to,U,V,c1,c2,d1,d2,d3,d4⟩
end
end Go.Proofs.YtmmkegapckbomaaGreatDoor
end
section
namespace Go.Pt
open Go
def PC.hasR:PC->Bool
 | .seq a b=>a.hasR||b.hasR
 | .join _ a b=>a.hasR||b.hasR
 | .cond _ a b=>a.hasR||b.hasR
 | .block _ b=>b.hasR
 | .loop _ b=>b.hasR
 | .rng ..=>true
 | _=>false
def PC.wrL:PC->Nat->Bool
 | .seq a b,t=>a.wrL t||b.wrL t
 | .join _ a b,t=>a.wrL t||b.wrL t
 | .cond _ a b,t=>a.wrL t||b.wrL t
 | .block _ b,t=>b.wrL t
 | .loop _ b,t=>b.wrL t
 | .rng ..,_=>false
 | c,t=>c.wr t
theorem qbQ:∀ (c:PC) (t:Nat),c.hasR=false->c.wrL t=false->c.wr t=false
 | .seq a b,t,h,g=>by
  simp only [PC.hasR,Bool.or_eq_false_iff] at h
  simp only [PC.wrL,Bool.or_eq_false_iff] at g
  simp [PC.wr,qbQ a t h.1 g.1,qbQ b t h.2 g.2]
 | .join _ a b,t,h,g=>by
  simp only [PC.hasR,Bool.or_eq_false_iff] at h
  simp only [PC.wrL,Bool.or_eq_false_iff] at g
  simp [PC.wr,qbQ a t h.1 g.1,qbQ b t h.2 g.2]
 | .cond _ a b,t,h,g=>by
  simp only [PC.hasR,Bool.or_eq_false_iff] at h
  simp only [PC.wrL,Bool.or_eq_false_iff] at g
  simp [PC.wr,qbQ a t h.1 g.1,qbQ b t h.2 g.2]
 | .block _ b,t,h,g=>qbQ b t h g
 | .loop _ b,t,h,g=>qbQ b t h g
 | .rng ..,t,h,g=>by cases h
 | .skip,t,_,g=>g
 | .region ..,t,_,g=>g
 | .draw ..,t,_,g=>g
 | .exit _,t,_,g=>g
 | .ret,t,_,g=>g
 | .other _,t,_,g=>g
def PC.ptL (C:Comb) (P:Program):PC->(List Nat->PPost)->List Nat->Env->WP
 | .seq a b,Q,m,e,w=>a.ptL C P (fun m' x e' w'=>match x with | .normal=>b.ptL C P Q m' e' w' | x=>Q m' x e' w') m e w
 | .block id body,Q,m,e,w=>body.ptL C P (fun m' x e' w'=>match x with
   | .exit j=>bif Nat.beq j id then Q m' .normal e' w' else Q m' (.exit j) e' w'
   | x=>Q m' x e' w') m e w
 | .join live a b,Q,m,e,w=>
  bif a.hasR||b.hasR then
   C.join (StOf live×List Nat)
    (fun X=>a.ptL C P (fun m' x e' w'=>match x with | .normal=>(match projR live e' with | some s=>X (s,m') w' | none=>False) | x=>Q m' x e' w') m e w)
    (fun s w'=>b.ptL C P Q s.2 (bldR live s.1++e.keep (fun t=>a.wrL t)) w')
  else (PC.join live a b).pt C P (Q m) e w
 | .cond c t f,Q,m,e,w=>
  bif t.hasR||f.hasR then
   match e.ev c with
   | some (.bool b)=>match b with
    | true=>t.ptL C P Q m e w
    | false=>f.ptL C P Q m e w
   | _=>False
  else (PC.cond c t f).pt C P (Q m) e w
 | .loop live body,Q,m,e,w=>
  bif body.hasR then
   match projR live e with
   | some s0=>
    C.loop (StOf live×List Nat)
     (fun X s w'=>body.ptL C P (fun m' x e' w''=>match x with | .normal=>(match projR live e' with | some s'=>X (s',m') w'' | none=>False) | x=>Q m' x e' w'') s.2 (bldR live s.1++e.keep (fun t=>body.wrL t)) w')
     (s0,m) w
   | none=>False
  else (PC.loop live body).pt C P (Q m) e w
 | .rng g ps pts x y,Q,m,e,w=>
  match e.ev g with
  | none=>False
  | some v=>
   C.rng v pts (rngBody C P x y ps pts e)
    (fun D w'=>Q (D::m) .normal e w') (y.outs.map fun z=>fun D w'=>Q (D::m) z e w') w
 | c,Q,m,e,w=>c.pt C P (Q m) e w
def takeAll:List Nat->Sem Unit
 | []=>pure ()
 | D::r=>do
  match <- Instr.takeDeferred D with
  | []=>takeAll r
  | _=>stuck "marks"
def fnPtL (C:Comb) (P:Program) (fn:Func) (as0:List Ann) (ts:List Ty1) (args:List Value) (K:ElR ts->WP) (w:World):Prop:=
 match fn.body with
 | some c=>(toPC c as0).1.ptL C P (fun m x e w'=>match x with
   | .exit _=>False
   | _=>C.runU ((takeAll m).run P w') (fun w2=>resPt C P fn.results.toList e w2 (fun vs=>match unRes ts (oneOf vs) with | some x=>K x w2 | none=>False))) [] (argEnv 0 args) w
 | none=>False
theorem qkJ {P:Program}:∀ {m:List Nat} {w:World},(∀ D∈m,w.heap[D]?=some (.deferred (some [])))->m.Nodup->∃ w',(takeAll m).run P w=.ok () w'/\Fr m w w'
 | [],w,_,_=>⟨w,rfl,.refl _ _⟩
 | D::r,w,h,hn=>by
  have hD:=h D (List.mem_cons_self ..)
  have hc:=List.nodup_cons.1 hn
  have hl:=qab hD
  obtain ⟨w',h1,h2⟩:=qkJ (P:=P) (m:=r) (w:=w.putObj D (.deferred none)) (fun E hE=>by
   show (w.heap.setIfInBounds D _)[E]?=_
   rw [Array.getElem?_setIfInBounds,if_neg (fun e=>hc.1 (by rw [e]; exact hE))]
   exact h E (zN _ hE)) hc.2
  refine ⟨w',?_,((qba hl (.deferred none)).mono fun b hb _=>by rw [zE.1 hb]; exact List.mem_cons_self ..).trans (h2.mono fun b hb _=>zN _ hb)⟩
  unfold takeAll
  rw [Sem.run_bind,run_takeDeferred hD]
  exact h1
section
variable {P:Program} {n m:Nat} {e:Env} {a:Act} {w:World}
def markL (k:List Nat):List Deferred:=k.map fun D=>{ target:=.collected D,args:=#[] }
theorem qgh {ds ds':List Deferred} {live:Live} {e0 e':Env} {a0 a':Act} {wr:Nat->Bool} {s:StOf live} (h0:Rel n ds e0 a0) (h':Rel n ds' e' a') (hk:Keeps wr a0 a') (hp:projR live e'=some s) :
  Rel n ds' (bldR live s++e0.keep wr) a':=by
 refine ⟨h'.size,h'.defers,fun t v hv=>?_⟩
 rw [qf1] at hv
 split at hv
 ·rename_i u hu
  cases hv
  exact h'.get t v (qjC hp t v hu)
 ·rw [qgl] at hv
  by_cases hw:wr t=true
  ·simp [hw] at hv
  ·rw [if_neg hw] at hv
   rw [hk t (by simpa using hw)]
   exact h0.get t v hv
theorem qpD {g:Operand} {ps:List Tmp} {pts:List Ty1} {x y:PC} {done:Nat->WP} {Qj:PExit->Nat->WP} {v:Value} (hg:e.ev g=some v) (hps:ps.length=pts.length) (hlt:(ps.all (Nat.blt · n))=true) (hfx:x.fits P n=true) (hfy:y.fits P n=true)
  {ds:List Deferred} (hr:Rel n ds e a)
  (h:rng P v pts (rngBody (std P) P x y ps pts e) done (y.outs.map fun z=>fun D w'=>Qj z D w') w)
  {Q':Exit->Act->WP} (hdone:∀ D w',done D w'->Q' .normal { a with defers:=mark (some D)++a.defers } w') (hjump:∀ z D w',Qj z D w'->z≠.normal->Q' z.to { a with defers:=mark (some D)++a.defers } w') (hno:∀ z∈y.outs,z≠.normal) :
  (Code.rangeFunc g ps.toArray x.erase y.erase).wpIn (Wd none) m P Q' a w:=by
 obtain ⟨f,lb,rfl,hb,h⟩:=h
 refine wpIn_rangeFunc ?_
 intro fn _
 have hro:(Wd none).round=none:=rfl
 rw [hro]
 obtain ⟨rec,hrec⟩:∃ rec:LoopState->Option Code->Loop,rec=fun st pe=>{ state:=st,pending:=pe,fn,tmps:=a.tmps,params:=ps.toArray,assign:=x.erase,body:=y.erase,defers:=w.heap.size }:=⟨_,rfl⟩
 let l:=w.heap.size+1
 let J:Nat->Obj:=fun i=>.loop (rec .done ((y.outs[i]?).map PExit.code))
 let E:Nat->Obj:=fun i=>.loop (rec .exhausted ((y.outs[i]?).map PExit.code))
 have hy:yieldsBy P pts (rngBody (std P) P x y ps pts e) l (.loop (rec .ready none)) (.loop (rec .busy none)) J:=by
  intro u W K hl hbody
  unfold rngBody at hbody
  refine .inr ⟨l,fn,(ps.zip (ElR.vals pts u)).foldl (fun t (x:Tmp×Value)=>t.setIfInBounds x.1 x.2) a.tmps,x.erase,y.erase,?_,?_⟩
  ·have hyl:=run_yield (P:=P) (args:=(ElR.vals pts u).toArray) hl (by rw [hrec]; simp [qdW,hps])
   rw [hrec] at hyl
   simp only [Deferred.ofValue,pure_bind]
   simp only [invoke]
   have hz:∀ (ps:List Tmp) (vs:List Value) (t0:Array Value),(ps.toArray.zip vs.toArray).foldl (fun (tmps:Array Value) (x:Tmp×Value)=>match x with | (t,a)=>tmps.setIfInBounds t a) t0=(ps.zip vs).foldl (fun t (x:Tmp×Value)=>t.setIfInBounds x.1 x.2) t0:=by
    intro ps vs t0
    rw [<- Array.foldl_toList]
    simp
   rw [hz] at hyl
   first
    | exact hyl
    | simpa using hyl
  ·refine roundIn_of_wpIn (F:=Wd none) (n:=0) trivial ?_
   have hrel:Rel n [] (putAll e ps (ElR.vals pts u)) { tmps:=(ps.zip (ElR.vals pts u)).foldl (fun t (x:Tmp×Value)=>t.setIfInBounds x.1 x.2) a.tmps,defers:=[] }:=
    qgo hlt ⟨hr.size,rfl,hr.get⟩ (by rw [qdW,hps])
   refine qap (r:=some l) (m:=0) x _ _ _ W _ hfx hbody hrel ?_
   intro z e' a' w' hz hr' _
   cases z with
   | exit id=>exact hz.elim
   | ret=>exact hz.elim
   | normal=>
    obtain ⟨hl1,hz⟩:=hz
    refine ⟨_,run_beginRound hl1 (by rw [hrec]),?_⟩
    have hbz:({ rec .ready none with state:=.busy }:Loop)=rec .busy none:=by rw [hrec]
    rw [hbz]
    refine qap (r:=some l) (m:=0) y _ _ _ _ _ hfy hz hr' ?_
    intro z e'' a'' w3 hz hr'' _
    have fin:∀ (jump:Option Code),w3.heap[l]?=some (.loop (rec .busy none))->(Instr.endRound l jump).run P w3=.ok (.bool jump.isNone) (w3.putObj l (.loop (rec (if jump.isNone then .ready else .done) jump))):=by
     intro jump hl3
     have:=run_endRound (P:=P) jump hl3
     rw [hrec] at this ⊢
     exact this
    have out:∀ z:PExit,(match outIx z y.outs 0 with | some i=>w3.heap[l]?=some (.loop (rec .busy none))/\K false (w3.putObj l (J i)) | none=>False)->
      ∃ v w',(Instr.endRound l (some z.code)).run P w3=.ok v w'/\∃ x:ElR [Ty1.one Cell.bool],Ending.returned v=.returned (resVal [.one .bool] x)/\K x w':=by
     intro z hz
     split at hz
     ·rename_i i hi
      obtain ⟨j,hj,hjl⟩:=qfK hi
      have:i=j:=by omega
      subst this
      refine ⟨_,_,fin (some z.code) hz.1,false,rfl,?_⟩
      have hJ:J i=.loop (rec (if (some z.code).isNone then .ready else .done) (some z.code)):=by
       show Obj.loop (rec .done ((y.outs[i]?).map PExit.code))=_
       rw [hjl]; rfl
      rw [<- hJ]
      exact hz.2
     ·exact hz.elim
    cases z with
    | normal=>exact ⟨_,_,fin none hz.1,true,rfl,hz.2⟩
    | ret=>exact out .ret hz
    | exit id=>exact out (.exit id) hz
 have hcall:=h (.loop (rec .ready none)) (.loop (rec .busy none)) J E (.loop (rec .exhausted none)) hy
 refine ⟨l,[{ target:=.collected w.heap.size,args:=#[] }],(w.alloc (.deferred (some []))).alloc (.loop (rec .ready none)),{ target:=.fn (.func f) lb.toArray,args:=#[.func (.yield l) #[] #[]] },(w.alloc (.deferred (some []))).alloc (.loop (rec .ready none)),f,
  (.func (.yield l) #[] #[]::lb).toArray,(w.alloc (.deferred (some []))).alloc (.loop (rec .ready none)),?_,?_,fun _ _=>trivial,?_,qh8 none,?_⟩
 ·rw [hrec]; exact run_enterLoop_outer _ _ _ _ _
 ·simp only [resolve,hr.ev hg]
  simp [Deferred.ofValue]
  rfl
 ·simp [invoke,qbe hb]
 ·refine qb9 (Calls.mono hcall ?_)
  rintro e2 W2 ⟨u,rfl,hh⟩
  rcases hh with ⟨hl,hd⟩ | ⟨i,k,hk,hl,hd⟩
  ·refine ⟨none,_,?_,hdone _ _ hd⟩
   have:=run_endLoop (P:=P) hl (by rw [hrec]; simp)
   rw [hrec] at this ⊢
   exact this
  ·have hk':=hk
   rw [zQ] at hk
   cases hz:y.outs[i]? with
   | none=>rw [hz] at hk; cases hk
   | some z=>
    rw [hz] at hk
    cases hk
    have hJ:J i=.loop (rec .done (some z.code)):=by
     show Obj.loop (rec .done ((y.outs[i]?).map PExit.code))=_
     rw [hz]; rfl
    have hE:E i=.loop (rec .exhausted (some z.code)):=by
     show Obj.loop (rec .exhausted ((y.outs[i]?).map PExit.code))=_
     rw [hz]; rfl
    rw [hJ] at hl
    rw [hE] at hd
    have hzn:=hno z (yE hz)
    have hq:=hjump z _ _ hd hzn
    refine ⟨some z.code,W2.putObj (w.heap.size+1) (.loop (rec .exhausted (some z.code))),?_,?_⟩
    ·have:=run_endLoop (P:=P) hl (by rw [hrec]; simp)
     rw [hrec] at this ⊢
     exact this
    ·cases z with
     | normal=>exact absurd rfl hzn
     | ret=>exact wpIn_ret hq
     | exit id=>exact wpIn_exit hq
def PC.fitsL:PC->Bool
 | .seq a b=>a.fitsL&&b.fitsL
 | .join _ a b=>a.fitsL&&b.fitsL
 | .cond _ a b=>a.fitsL&&b.fitsL
 | .block _ b=>b.fitsL
 | .loop _ b=>b.fitsL
 | .rng _ _ _ _ y=>y.noNormal
 | _=>true
theorem qaR:∀ (c:PC) (Q:List Nat->PPost) (k:List Nat) (e:Env) (a:Act) (w:World) (Q':Exit->Act->WP),c.fits P n=true->c.fitsL=true->c.ptL (std P) P Q k e w->Rel n (markL k) e a->
  (∀ k' x e' a' w',Q k' x e' w'->Rel n (markL k') e' a'->Keeps c.wrL a a'->Q' x.to a' w')->c.erase.wpIn (Wd none) m P Q' a w
 | .seq x y,Q,k,e,a,w,Q',hf,hs,h,hr,hQ=>by
  simp only [PC.fits,yA] at hf
  simp only [PC.fitsL,yA] at hs
  refine wpIn_seq (qaR x _ k e a w _ hf.1 hs.1 h hr ?_)
  intro k' z e1 a1 w1 hz hr1 hk1
  cases z with
  | normal=>
   refine qaR y Q k' e1 a1 w1 Q' hf.2 hs.2 hz hr1 fun k2 z e2 a2 w2 hz2 hr2 hk2=>hQ k2 z e2 a2 w2 hz2 hr2 ?_
   exact hk1.trans hk2 (fun t ht=>by simpa [PC.wrL] using ht)
  | exit id=>exact hQ k' (.exit id) e1 a1 w1 hz hr1 (hk1.mono (fun t ht=>by simp [PC.wrL] at ht; exact ht.1))
  | ret=>exact hQ k' .ret e1 a1 w1 hz hr1 (hk1.mono (fun t ht=>by simp [PC.wrL] at ht; exact ht.1))
 | .join live x y,Q,k,e,a,w,Q',hf,hs,h,hr,hQ=>by
  cases hR:x.hasR||y.hasR with
  | false=>
   simp only [PC.ptL,hR] at h
   refine qap (.join live x y) (Q k) e a w Q' hf h hr fun z e' a' w' hx hr' hk=>hQ k z e' a' w' hx hr' (hk.mono fun t ht=>qbQ (.join live x y) t hR ht)
  | true=>
   simp only [PC.ptL,hR] at h
   simp only [PC.fits,yA] at hf
   simp only [PC.fitsL,yA] at hs
   obtain ⟨Mid,hX,hY⟩:=h
   refine wpIn_seq (qaR x _ k e a w _ hf.1 hs.1 hX hr ?_)
   intro k' z e1 a1 w1 hz hr1 hk1
   cases z with
   | normal=>
    simp only at hz
    split at hz
    ·rename_i s hp
     refine qaR y Q k' _ a1 w1 Q' hf.2 hs.2 (hY (s,k') w1 hz) (qgh hr hr1 hk1 hp) fun k2 z e2 a2 w2 hz2 hr2 hk2=>hQ k2 z e2 a2 w2 hz2 hr2 ?_
     exact hk1.trans hk2 (fun t ht=>by simpa [PC.wrL] using ht)
    ·exact hz.elim
   | exit id=>exact hQ k' (.exit id) e1 a1 w1 hz hr1 (hk1.mono (fun t ht=>by simp [PC.wrL] at ht; exact ht.1))
   | ret=>exact hQ k' .ret e1 a1 w1 hz hr1 (hk1.mono (fun t ht=>by simp [PC.wrL] at ht; exact ht.1))
 | .cond c x y,Q,k,e,a,w,Q',hf,hs,h,hr,hQ=>by
  cases hR:x.hasR||y.hasR with
  | false=>
   simp only [PC.ptL,hR] at h
   refine qap (.cond c x y) (Q k) e a w Q' hf h hr fun z e' a' w' hx hr' hk=>hQ k z e' a' w' hx hr' (hk.mono fun t ht=>qbQ (.cond c x y) t hR ht)
  | true=>
   simp only [PC.ptL,hR] at h
   simp only [PC.fits,yA] at hf
   simp only [PC.fitsL,yA] at hs
   split at h
   ·rename_i b hb
    cases b with
    | true=>exact wpIn_cond_true (hr.ev hb) (qaR x Q k e a w Q' hf.1 hs.1 h hr (fun k' z e1 a1 w1 hz hr1 hk1=>hQ k' z e1 a1 w1 hz hr1 (hk1.mono (fun t ht=>by simp [PC.wrL] at ht; exact ht.1))))
    | false=>exact wpIn_cond_false (hr.ev hb) (qaR y Q k e a w Q' hf.2 hs.2 h hr (fun k' z e1 a1 w1 hz hr1 hk1=>hQ k' z e1 a1 w1 hz hr1 (hk1.mono (fun t ht=>by simp [PC.wrL] at ht; exact ht.2))))
   ·exact h.elim
 | .block id body,Q,k,e,a,w,Q',hf,hs,h,hr,hQ=>by
  refine wpIn_block (qaR body _ k e a w _ hf hs h hr ?_)
  intro k' z e1 a1 w1 hz hr1 hk1
  cases z with
  | normal=>exact hQ k' .normal e1 a1 w1 hz hr1 hk1
  | exit j=>
   simp only at hz
   simp only [PExit.to,Exit.inBlock]
   cases hj:Nat.beq j id with
   | true=>
    rw [hj] at hz
    rw [if_pos (yV hj)]
    exact hQ k' .normal e1 a1 w1 hz hr1 hk1
   | false=>
    rw [hj] at hz
    rw [if_neg (fun hq=>by subst hq; simp at hj)]
    exact hQ k' (.exit j) e1 a1 w1 hz hr1 hk1
  | ret=>exact hQ k' .ret e1 a1 w1 hz hr1 hk1
 | .loop live body,Q,k,e,a,w,Q',hf,hs,h,hr,hQ=>by
  cases hR:body.hasR with
  | false=>
   simp only [PC.ptL,hR] at h
   refine qap (.loop live body) (Q k) e a w Q' hf h hr fun z e' a' w' hx hr' hk=>hQ k z e' a' w' hx hr' (hk.mono fun t ht=>qbQ (.loop live body) t hR ht)
  | true=>
   simp only [PC.ptL,hR] at h
   split at h
   ·rename_i s0 hs0
    have key:=h (fun s w1=>∀ a1,Rel n (markL s.2) (bldR live s.1++e.keep (fun t=>body.wrL t)) a1->Keeps body.wrL a a1->LoopWp none m P body.erase Q' a1 w1) ?_
    ·exact LoopWp.loop (key a (qgh hr hr (Keeps.refl _ _) hs0) (Keeps.refl _ _))
    ·intro s w1 hB a1 hr1 hk1
     refine LoopWp.unroll (qaR body _ s.2 _ a1 w1 _ hf hs hB hr1 ?_)
     intro k2 z e2 a2 w2 hz hr2 hk2
     have hk:Keeps body.wrL a a2:=hk1.trans hk2 (fun t ht=>⟨ht,ht⟩)
     cases z with
     | normal=>
      simp only at hz
      split at hz
      ·rename_i s' hs'
       exact hz a2 (qgh hr hr2 hk hs') hk
      ·exact hz.elim
     | exit id=>exact hQ k2 (.exit id) e2 a2 w2 hz hr2 hk
     | ret=>exact hQ k2 .ret e2 a2 w2 hz hr2 hk
   ·exact h.elim
 | .rng g ps pts x y,Q,k,e,a,w,Q',hf,hs,h,hr,hQ=>by
  simp only [PC.fits,yA] at hf
  simp only [PC.ptL] at h
  split at h
  ·exact h.elim
  ·rename_i v hg
   have h':rng P v pts (rngBody (std P) P x y ps pts e) (fun D w'=>Q (D::k) .normal e w') (y.outs.map fun z=>fun D w'=>Q (D::k) z e w') w:=h
   refine qpD (done:=fun D w'=>Q (D::k) .normal e w') (Qj:=fun z D w'=>Q (D::k) z e w') hg (yV hf.1.1.1) hf.1.1.2 hf.1.2 hf.2 hr h' ?_ ?_ ?_
   ·intro D w' hq
    exact hQ (D::k) .normal e _ w' hq ⟨hr.size,by show _++a.defers=_; rw [hr.defers]; rfl,hr.get⟩ (fun _ _=>rfl)
   ·intro z D w' hq _
    exact hQ (D::k) z e _ w' hq ⟨hr.size,by show _++a.defers=_; rw [hr.defers]; rfl,hr.get⟩ (fun _ _=>rfl)
   ·intro z hz hzn
    subst hzn
    simp only [PC.fitsL,PC.noNormal,List.all_eq_true] at hs
    have:=hs _ hz
    cases this
 | .skip,Q,k,e,a,w,Q',hf,_,h,hr,hQ=>qap .skip (Q k) e a w Q' hf h hr (fun z e' a' w' hx hr' hk=>hQ k z e' a' w' hx hr' hk)
 | .region id ops,Q,k,e,a,w,Q',hf,_,h,hr,hQ=>qap (.region id ops) (Q k) e a w Q' hf h hr (fun z e' a' w' hx hr' hk=>hQ k z e' a' w' hx hr' hk)
 | .draw id ops os,Q,k,e,a,w,Q',hf,_,h,hr,hQ=>qap (.draw id ops os) (Q k) e a w Q' hf h hr (fun z e' a' w' hx hr' hk=>hQ k z e' a' w' hx hr' hk)
 | .exit id,Q,k,e,a,w,Q',hf,_,h,hr,hQ=>qap (.exit id) (Q k) e a w Q' hf h hr (fun z e' a' w' hx hr' hk=>hQ k z e' a' w' hx hr' hk)
 | .ret,Q,k,e,a,w,Q',hf,_,h,hr,hQ=>qap .ret (Q k) e a w Q' hf h hr (fun z e' a' w' hx hr' hk=>hQ k z e' a' w' hx hr' hk)
 | .other c,Q,k,e,a,w,Q',hf,_,h,hr,hQ=>h.elim
theorem qhu {fn:Func} {tmps:Array Value} {R:Ending->WP}:∀ {k:List Nat} {w w2:World},(takeAll k).run P w=.ok () w2->LeavesInM (Wd none) 0 P fn tmps R [] .returning w2->LeavesInM (Wd none) 0 P fn tmps R (markL k) .returning w
 | [],w,w2,h,hl=>by
  cases h
  exact hl
 | D::r,w,w2,h,hl=>by
  unfold takeAll at h
  rw [Sem.run_bind] at h
  cases ht:(Instr.takeDeferred D).run P w with
  | ok ds w1=>
   rw [ht] at h
   cases ds with
   | nil=>exact ⟨by simp,.inl ⟨D,w1,rfl,ht,qhu h hl⟩⟩
   | cons d ds=>cases h
  | _=>rw [ht] at h; cases h
theorem qlm {f:FuncId} {fn:Func} {an:List Ann} {ts:List Ty1} {args:List Value} {w:World} {K:ElR ts->WP}
  (hf:P.funcs[f]?=some fn)
  (hfit:(match fn.body with | some c=>(toPC c an).1.fits P fn.ntmps&&(toPC c an).1.fitsL&&Nat.ble args.length fn.ntmps&&(!ts.isEmpty||fn.results.isEmpty) | none=>false)=true)
  (h:fnPtL (std P) P fn an ts args K w):call P f args ts w K:=by
 unfold fnPtL at h
 split at h
 ·rename_i c hb
  simp only [hb,yA] at hfit
  obtain ⟨⟨⟨hfit,hfs⟩,hlen⟩,hts⟩:=hfit
  have hlen':args.length<=fn.ntmps:=zO hlen
  unfold call
  refine callsIn_wide.1 (callsIn_of_wp_marks (F:=Wd none) (n:=0) hf hb trivial ?_)
  have hsp:=qaR (m:=0) (n:=fn.ntmps) (toPC c an).1 _ [] _ _ w (bodyPostM (Wd none) 0 P fn fun e w'=>∃ x:ElR ts,e=.returned (resVal ts x)/\K x w') hfit hfs h (qnR hlen') ?_
  ·rw [qaI] at hsp
   exact hsp
  ·intro k x e' a' w' hx hr' _
   have fin:(Pt.runU ((takeAll k).run P w') fun w2=>resPt (std P) P fn.results.toList e' w2 (fun vs=>match unRes ts (oneOf vs) with | some x=>K x w2 | none=>False))->
     LeavesInM (Wd none) 0 P fn a'.tmps (fun e w'=>∃ x:ElR ts,e=.returned (resVal ts x)/\K x w') a'.defers .returning w':=by
    rintro ⟨w2,hu,hres⟩
    rw [hr'.defers]
    refine qhu hu ?_
    obtain ⟨v,h1,h2⟩:=qkV hts hr' hres
    exact ⟨v,h1,h2⟩
   cases x with
   | normal=>exact fin hx
   | ret=>exact fin hx
   | exit id=>exact hx.elim
 ·exact h.elim
end
end Go.Pt
end
section
set_option maxRecDepth 100000
namespace Go.Proofs.YtmmkegapckbomaaGreatDoor
open Go Go.Pt
@[reducible] def qld:List Cell:=[Cell.int IntKind.i64,Cell.slice,Cell.slice,Cell.slice,Cell.slice,Cell.bool]
def qg2 (p:Option Addr) (t:Int) (from_:Sl) (to:Sl) (down:Bool) (K:Value->WP) (w:World):Prop:=new (Obj.cells #[.pointer p] 26) w fun b c=>new (Obj.cells #[.i t] 3) c fun d e=>new (Obj.cells #[from_.v] 23) e fun f g=>new (Obj.cells #[to.v] 23) g fun h i=>new (Obj.cells #[.bool down] 4) i fun j k=>ld .slice ⟨f,0,none⟩ k.drew fun l=>ld .slice ⟨h,0,none⟩ k.drew fun m=>cW 68 ([l.v]) ([.one .slice]) k.drew fun n o=>held [cEl ⟨h,0,none⟩ m.v] o<|cW 68 ([m.v]) ([.one .slice]) o fun r s=>st ⟨f,0,none⟩ ([n.v]) s fun u=>st ⟨h,0,none⟩ ([r.v]) u fun v=>K (Value.func (Fn.func 77) #[] #[.pointer (pW b),.pointer (pW d),.pointer (pW f),.pointer (pW h),.pointer (pW j)]) v
theorem qkR {p t from_ to down w K} (hF:qg2 p t from_ to down K w):cW 35 [.pointer p,.i t,from_.v,to.v,.bool down] [.one .any] w K:=qad (an:=[.n,.n,.o [[0,2,1,3,4,5]],.n]) Tryz.func35 hF
def qez (yield:Value) (cap0:Addr) (cap1:Addr) (cap2:Addr) (cap3:Addr) (cap4:Addr) (K:Unit->WP) (w:World):Prop:=ld .ptr cap0 w fun b=>ld .i cap1 w fun (c:Int)=>ld .slice cap2 w fun d=>ld .slice cap3 w fun e=>ld .bool cap4 w fun (f:Bool)=>cW 31 ([.pointer b,.i c,d.v,e.v,.bool f]) ([.one .ptr]) w fun g h=>cW 32 ([.pointer g]) ([.agg [.slice,.slice],.one .bool]) h fun (i:(Sl×Sl)×Bool) j=>new (Obj.cells #[.slice none 0 0,.slice none 0 0] 62) j fun k l=>st ⟨k,0,none⟩ ([i.fst.fst.v,i.fst.snd.v]) l fun m=>loop (Option Addr×Bool) (fun n (o:Option Addr×Bool) p=>cond o.snd (nn o.fst fun q=>ld .slice q p fun r=>nn o.fst fun s=>ld .slice ⟨s.block,s.off+1,none⟩ p fun t=>callV Tryz.prog yield ([r.v,t.v]) ([.one .bool]) p fun (u:Bool) v=>cond (!u) (K () v) (nn o.fst fun x=>ldA ([.slice,.slice]) x v fun (y:Sl×Sl)=>new (Obj.cells #[.slice none 0 0,.slice none 0 0] 62) v fun z A=>st ⟨z,0,none⟩ ([y.fst.v,y.snd.v]) A fun B=>cW 32 ([.pointer g]) ([.agg [.slice,.slice],.one .bool]) B fun (C:(Sl×Sl)×Bool) D=>st ⟨z,0,none⟩ ([C.fst.fst.v,C.fst.snd.v]) D fun E=>n ((pW z,C.snd)) E)) (K () p)) ((pW k,i.snd)) m
theorem qiz {yield cap0 cap1 cap2 cap3 cap4 w K} (hF:qez yield cap0 cap1 cap2 cap3 cap4 K w):cW 77 [yield,.pointer (some cap0),.pointer (some cap1),.pointer (some cap2),.pointer (some cap3),.pointer (some cap4)] [] w K:=qad (an:=[.n,.n,.l [(8,.one .ptr),(9,.one .bool)],.n,.n,.n,.n,.n,.n]) Tryz.func77 hF
def qa4 (a0:Int) (a1:Sl) (a2:Sl) (a3:Sl) (a4:Sl) (a5:Bool) (stop:Int) (K:Bool->WP) (w:World):Prop:=new (Obj.cells #[.i a0,a1.v,a2.v,a3.v,a4.v,.bool a5] 49) w fun b c=>new (Obj.cells #[.b stop] 5) c fun d e=>ldA (qld) ⟨b,0,none⟩ e fun (f:Int×Sl×Sl×Sl×Sl×Bool)=>cW 23 ([.agg (List.toArray (HL.mk qld f))]) ([.one .bool]) e fun (g:Bool) h=>cond g (cW 24 [] ([.one .bool]) h fun (i:Bool) j=>runU ((takeAll []).run Tryz.prog j) fun k=>K i k) (ldA (qld) ⟨b,0,none⟩ h fun (l:Int×Sl×Sl×Sl×Sl×Bool)=>cW 25 ([.agg (List.toArray (HL.mk qld l))]) ([.one .ptr,.one .i,.one .slice]) h fun (m:Option Addr×Int×Sl) n=>cond (Option.isNone m.fst) (runU ((takeAll []).run Tryz.prog n) fun o=>K false o) (ld .slice ⟨b,3,none⟩ n fun p=>runQ [.one .str] (fun q=>(convert 23 9 p.v).run Tryz.prog q) n fun (r:ByteArray)=>ld .slice ⟨b,4,none⟩ n fun s=>runQ [.one .str] (fun t=>(convert 23 9 s.v).run Tryz.prog t) n fun (u:ByteArray)=>ld .bool ⟨b,5,none⟩ n fun (v:Bool)=>cW 30 ([m.snd.snd.v,.string r,.string u,.bool v]) ([.one .slice]) n fun x y=>new (Obj.cells #[.slice none 0 0] 31) y fun z A=>st ⟨z,0,none⟩ ([x.v]) A fun B=>ld .slice ⟨b,3,none⟩ B fun C=>ld .slice ⟨b,4,none⟩ B fun D=>ld .bool ⟨b,5,none⟩ B fun (E:Bool)=>cW 35 ([.pointer m.fst,.i m.snd.fst,C.v,D.v,.bool E]) ([.one .any]) B fun (F:Value) G=>loop ((Bool×Int)×List Nat) (fun H (I:(Bool×Int)×List Nat) J=>cond (decide (I.fst.snd<2)) (new (Obj.cells #[.i 0] 3) J fun L M=>st ⟨L,0,none⟩ ([.i 0]) M fun N=>new (Obj.cells #[.bool false] 4) N fun O P=>st ⟨O,0,none⟩ ([.bool true]) P fun Q=>rng Tryz.prog F [.one .slice,.one .slice] (fun (R:Sl×Sl) (S:World->(WP)->Prop) (T:WP) U V=>S V fun W=>ld .i ⟨L,0,none⟩ W fun (X:Int)=>ld .b ⟨d,0,none⟩ W fun (Y:Int)=>cond (X==IntKind.wrap .i64 Y) (U 0 W) (join (PUnit) (fun Z=>ld .bool ⟨O,0,none⟩ W.drew fun (aa:Bool)=>cond aa (ld .i ⟨L,0,none⟩ W.drew fun (ab:Int)=>ld .slice ⟨z,0,none⟩ W.drew fun ac=>cond (decide (ab<(↑ac.len:Int))) (runQ [.one .str] (fun ad=>(convert 23 9 R.fst.v).run Tryz.prog ad) W.drew fun (ae:ByteArray)=>ld .slice ⟨z,0,none⟩ W.drew fun af=>ld .i ⟨L,0,none⟩ W.drew fun (ag:Int)=>idx af ag 2 fun ah=>ld .str ah W.drew fun (ai:ByteArray)=>cond (ByteArray.toList ae==ByteArray.toList ai) (runQ [.one .str] (fun aj=>(convert 23 9 R.snd.v).run Tryz.prog aj) W.drew fun (ak:ByteArray)=>ld .slice ⟨z,0,none⟩ W.drew fun al=>ld .i ⟨L,0,none⟩ W.drew fun (am:Int)=>idx al am 2 fun an=>ld .str ⟨an.block,an.off+1,none⟩ W.drew fun (ao:ByteArray)=>st ⟨O,0,none⟩ ([.bool (ByteArray.toList ak==ByteArray.toList ao)]) W.drew fun ap=>Z () ap) (st ⟨O,0,none⟩ ([.bool false]) W.drew fun aq=>Z () aq)) (st ⟨O,0,none⟩ ([.bool false]) W.drew fun ar=>Z () ar)) (st ⟨O,0,none⟩ ([.bool false]) W.drew fun au=>Z () au)) fun (av:PUnit) aw=>ld .i ⟨L,0,none⟩ aw fun (ax:Int)=>st ⟨L,0,none⟩ ([.i (IntKind.wrap .i64 (ax+1))]) aw fun ay=>T ay)) (fun az aA=>join (Bool) (fun aB=>ld .bool ⟨O,0,none⟩ aA fun (aC:Bool)=>cond (!aC) (aB true aA) (ld .i ⟨L,0,none⟩ aA fun (aD:Int)=>ld .b ⟨d,0,none⟩ aA fun (aE:Int)=>ld .slice ⟨z,0,none⟩ aA fun aF=>aB (!aD==if (↑aF.len:Int)<IntKind.wrap .i64 aE then (↑aF.len:Int) else IntKind.wrap .i64 aE) aA)) fun (aG:Bool) aH=>cond aG (runU ((takeAll (az::I.snd)).run Tryz.prog aH) fun aI=>K false aI) (H (((I.fst.fst,IntKind.wrap .i64 (I.fst.snd+1)),az::I.snd)) aH)) [fun aJ aL=>join (Bool) (fun aM=>ld .bool ⟨O,0,none⟩ aL fun (aN:Bool)=>cond (!aN) (aM true aL) (ld .i ⟨L,0,none⟩ aL fun (aO:Int)=>ld .b ⟨d,0,none⟩ aL fun (aP:Int)=>ld .slice ⟨z,0,none⟩ aL fun aQ=>aM (!aO==if (↑aQ.len:Int)<IntKind.wrap .i64 aP then (↑aQ.len:Int) else IntKind.wrap .i64 aP) aL)) fun (aR:Bool) aS=>cond aR (runU ((takeAll (aJ::I.snd)).run Tryz.prog aS) fun aT=>K false aT) (H (((I.fst.fst,IntKind.wrap .i64 (I.fst.snd+1)),aJ::I.snd)) aS)] Q) (cW 24 [] ([.one .bool]) J fun (aU:Bool) aV=>runU ((takeAll I.snd).run Tryz.prog aV) fun aW=>K aU aW)) (((false,0),[])) G))
theorem qcW {a0:Int} {a1:Sl} {a2:Sl} {a3:Sl} {a4:Sl} {a5:Bool} {stop:Int} {w:World} {K:Bool->WP} (hF:qa4 a0 a1 a2 a3 a4 a5 stop K w):cW 7 [.agg #[.i a0,a1.v,a2.v,a3.v,a4.v,.bool a5],.b stop] [.one .bool] w K:=qlm (an:=[.n,.n,.n,.n,.n,.n,.n,.n,.n,.n,.n,.n,.l [(4,.one .bool),(44,.one .i)],.n,.n,.n,.n,.n,.n,.n,.r [.one .slice,.one .slice],.n,.n,.n,.j [],.o [[0,1,2,3,4,5,6,7,8,9,10,11,12,13,14,15,16,17,18,19,20,21,22,23,24,25,26,27]],.j [(92,.one .bool)],.n,.n]) (ts:=[.one .bool]) (args:=[.agg #[.i a0,a1.v,a2.v,a3.v,a4.v,.bool a5],.b stop]) Tryz.func7 (by kernel_rfl) ((show fnPtL (std Tryz.prog) Tryz.prog Tryz.f7 [.n,.n,.n,.n,.n,.n,.n,.n,.n,.n,.n,.n,.l [(4,.one .bool),(44,.one .i)],.n,.n,.n,.n,.n,.n,.n,.r [.one .slice,.one .slice],.n,.n,.n,.j [],.o [[0,1,2,3,4,5,6,7,8,9,10,11,12,13,14,15,16,17,18,19,20,21,22,23,24,25,26,27]],.j [(92,.one .bool)],.n,.n] [.one .bool] [.agg #[.i a0,a1.v,a2.v,a3.v,a4.v,.bool a5],.b stop] K w=qa4 a0 a1 a2 a3 a4 a5 stop K w by kernel_rfl).mpr hF)
end Go.Proofs.YtmmkegapckbomaaGreatDoor
end
section
namespace Go.Proofs.YtmmkegapckbomaaGreatDoor
open Go Go.Pt List
open Classical
attribute [local irreducible] ld ldA ldV fld fldA newZ st new idx idxS idxA slc slcS slcP mkS chk nn call callV inv run runQ runU join loop held ext rng undefer s2a nxt ent IntKind.wrap
abbrev WF:FuncId:=77
structure WalkAt (w:World) (v:Value) (pb:Nat) (t:Int) (frm to:Key) (down:Bool) (WB:List Nat):Prop where
 val:∃ r1 r3 r5 r7 r9 s1 s2 B1 B2,v=.func (.func WF) #[] #[.pointer (pW r1),.pointer (pW r3),.pointer (pW r5),.pointer (pW r7),.pointer (pW r9)]/\WB=r1::r3::r5::r7::r9::(B1++B2)/\
  w.cell? ⟨r1,0,none⟩=some (.pointer (pW pb))/\w.cell? ⟨r3,0,none⟩=some (.i t)/\w.cell? ⟨r5,0,none⟩=some s1.v/\w.cell? ⟨r7,0,none⟩=some s2.v/\w.cell? ⟨r9,0,none⟩=some (.bool down)/\BufB w s1 frm B1/\BufB w s2 to B2
 lt:∀ b∈WB,b<w.heap.size
theorem qp0 {S:List Nat} {w w':World} {b off:Nat} (f:Fr S w w') (h:b<w.heap.size) (u:b∉S):w'.cell? ⟨b,off,none⟩=w.cell? ⟨b,off,none⟩:=by
 simp only [World.cell?,f.block b h u]
theorem WalkAt.frame {S:List Nat} {w w':World} {v:Value} {pb:Nat} {t:Int} {frm to:Key} {down:Bool} {A:List Nat} (h:WalkAt w v pb t frm to down A) (f:Fr S w w') (C:∀ b∈A,b∉S):WalkAt w' v pb t frm to down A:=by
 obtain ⟨⟨E,G,I,J,K,U,V,O,Q,e,rfl,c1,c3,c5,c7,c9,b1,b2⟩,R⟩:=h
 have g:∀ b∈E::G::I::J::K::(O++Q),w'.cell? ⟨b,0,none⟩=w.cell? ⟨b,0,none⟩:=fun b u=>qp0 f (R b u) (C b u)
 exact ⟨⟨E,G,I,J,K,U,V,O,Q,e,rfl,by rw [g E (by simp)]; exact c1,by rw [g G (by simp)]; exact c3,by rw [g I (by simp)]; exact c5,by rw [g J (by simp)]; exact c7,by rw [g K (by simp)]; exact c9,b1.frame f fun b u=>C b (by simp [u]),b2.frame f fun b u=>C b (by simp [u])⟩,fun b u=>yC (R b u) f.size⟩
section
variable {dbk pb:Nat} {FD F:List Nat} {D:DiskM} {M:PgM} {k v:Nat} {frm to:Key} {down:Bool} {w:World}
theorem qt4 {S:List Nat} {t:Int} {J A:Sl} {p:Option Addr} {K:Value->WP} (hp:p=pW pb) (hf:RdB S w J frm) (ht:RdB S w A to) (O:frm.length<=1000000) (Q:to.length<=1000000)
  (kk:∀ v w' WB,WalkAt w' v pb t frm to down WB->(∀ b∈WB,w.heap.size<=b)->Fr [] w w'->K v w') :
  cW 35 [.pointer p,.i t,J.v,A.v,.bool down] [.one .any] w K:=by
 subst hp
 refine qkR ?_
 unfold qg2
 have h:=Own.start [] w
 refine Own.new' h fun r1 w1 e1 f1 h=>?_
 refine Own.new' h fun r3 w3 e3 f3 h=>?_
 refine Own.new' h fun R w5 e5 f5 h=>?_
 refine Own.new' h fun U w7 e7 f7 h=>?_
 refine Own.new' h fun r9 I e9 f9 h=>?_
 have h:=Own.drew h
 have l1:=qab (h.at (i:=4) rfl)
 have l3:=qab (h.at (i:=3) rfl)
 have l5:=qab (h.at (i:=2) rfl)
 have l7:=qab (h.at (i:=1) rfl)
 have l9:=qab (h.at (i:=0) rfl)
 dsimp only at l1 l3 l5 l7 l9
 have n1:=f1.size
 have n3:=f3.size
 have n5:=f5.size
 have n7:=f7.size
 refine Own.ld h 2 rfl J rfl ?_
 refine Own.ld h 1 rfl A rfl ?_
 refine qaO (hf.frame0 h.fr) O fun V B1 wa b1 fa na _ _=>?_
 have h:=h.frame0 fa
 refine qah (h.cell 1 rfl rfl) ?_
 refine qaO (ht.frame0 h.fr) Q fun s2 B2 wb b2 fb nb _ _=>?_
 have h:=h.frame0 fb
 have za:=fa.size
 have zb:=fb.size
 refine Own.sz h 2 rfl #[V.v] fun wc h fc=>?_
 refine Own.sz h 1 rfl #[s2.v] fun E h fd=>?_
 have C:Fr [R,U] wb E:=(fc.mono fun b u _=>by rw [zE.1 u]; simp).trans (fd.mono fun b u _=>by rw [zE.1 u]; simp)
 have z0:w.heap.size<=I.heap.size:=by have:=f9.size; omega
 have ns:∀ b,I.drew.heap.size<=b->b∉[R,U]:=fun b u hm=>by
  simp only [zG,xX,or_false] at hm
  rcases hm with rfl | rfl <;> omega
 have q1:BufB E V frm B1:=(b1.frame0 fb).frame C fun b u=>ns b (na b u)
 have q2:BufB E s2 to B2:=b2.frame C fun b u=>ns b (zL za (nb b u))
 have aM:=h.fr.size
 have zd:I.drew.heap.size<=E.heap.size:=zL (zL za zb) C.size
 refine kk _ E _ ⟨⟨r1,r3,R,U,r9,V,s2,B1,B2,rfl,rfl,h.cell 4 rfl rfl,h.cell 3 rfl rfl,h.cell 2 rfl rfl,h.cell 1 rfl rfl,h.cell 0 rfl rfl,q1,q2⟩,fun b u=>?_⟩ (fun b u=>?_) h.fr
 ·simp only [zG,zD] at u
  rcases u with rfl | rfl | rfl | rfl | rfl | u | u
  ·omega
  ·omega
  ·omega
  ·omega
  ·omega
  ·exact q1.lt b u
  ·exact q2.lt b u
 ·have G:w.heap.size<=I.drew.heap.size:=z0
  simp only [zG,zD] at u
  rcases u with rfl | rfl | rfl | rfl | rfl | u | u
  ·omega
  ·omega
  ·omega
  ·omega
  ·omega
  ·exact zL G (na b u)
  ·exact zL G (zL za (nb b u))
structure Taker (yield:Value) (Yc:List Nat) (wb:World) (L:Prs) (I:Nat->WP) (E:WP):Prop where
 stay:∀ i W W' Z,I i W->Fr Z W W'->(∀ b∈Z,wb.heap.size<=b)->I i W'
 take:∀ i (hi:i<L.length) W ks vs B1 B2 (K:Bool->WP),I i W->BufB W ks L[i].1 B1->BufB W vs L[i].2 B2->(∀ b∈B1++B2,wb.heap.size<=b)->wb.heap.size<=W.heap.size->(∀ W',Fr Yc W W'->I (i+1) W'->K true W')->(∀ W',E W'->K false W')->callV Tryz.prog yield [ks.v,vs.v] [.one .bool] W K
theorem qss {t:Int} {L:Prs} {P:List Int} {Yc WB:List Nat} {v0 aa:Value} {I:Nat->WP} {E:WP} {K:Unit->WP} {lb:List Value} (hv:v0=.func (.func WF) #[] lb.toArray) (hW:WalkAt w v0 pb t frm to down WB) (hT:TW dbk pb FD D 5000 w Yc F M) (hs:shp t=((k:Int),(v:Int))) (hL:k≠0/\TreeIs D M k v t L P) (aH:L.length<=90000) (aI:frm.length<=1000000) (aJ:to.length<=1000000) (aK:IsB frm) (aL:IsB to)
  (hY:Taker aa Yc w (rangeD down frm to L) I E) (h0:I 0 w) (k1:∀ A,I (rangeD down frm to L).length A->K () A) (k2:∀ A,E A->K () A) :
  cW WF (aa::lb) [] w K:=by
 obtain ⟨⟨r1,r3,r5,r7,r9,s1,s2,B1,B2,e,rfl,c1,c3,c5,c7,c9,b1,b2⟩,C⟩:=hW
 rw [e] at hv
 have aM:lb=[.pointer (pW r1),.pointer (pW r3),.pointer (pW r5),.pointer (pW r7),.pointer (pW r9)]:=by
  injection hv with _ _ h3
  simpa using (congrArg Array.toList h3).symm
 subst aM
 refine qiz ?_
 unfold qez
 refine qaE (pW pb) c1 ?_
 refine qaE t c3 ?_
 refine qaE s1 c5 ?_
 refine qaE s2 c7 ?_
 refine qaE down c9 ?_
 refine qnA (S:=[]) hT hs (.inr hL) aH (b1.rdb fun b _=>by simp) (b2.rdb fun b _=>by simp) aI aJ aK aL fun cb w1 st SB zs hC O f1=>?_
 generalize rangeD down frm to L=R at O hY k1
 have an:=hY.stay 0 w w1 [] h0 f1 fun b u=>nomatch u
 let J:Nat->Option Addr×Bool->WP:=fun i s W=>∃ (st:Sl) (SB:List Nat) (zs:List FrZ) (ks G:Sl) (C1 C2:List Nat) (r:Nat) (T:TypeId),s=(pW r,decide (i<R.length))/\i<=R.length/\W.heap[r]?=some (.cells (prV ks G) T (0,0))/\CurE dbk pb FD D F M k v frm to down w cb Yc W st SB zs/\I i W/\(∀ h:i<R.length,BufB W ks R[i].1 C1/\BufB W G R[i].2 C2)/\Left D M k v frm to down 1 (zs.map (·.2)) (R.drop (i+1))/\r∉Yc/\w.heap.size<=W.heap.size/\∀ b∈C1++C2,w.heap.size<=b
 have ad:∀ (Y:List Nat) (i:Nat) (W:World) (st:Sl) (SB:List Nat) (zs:List FrZ) (K':(Sl×Sl)×Bool->WP),CurE dbk pb FD D F M k v frm to down w cb Y W st SB zs->I i W->Left D M k v frm to down 1 (zs.map (·.2)) (R.drop i)->i<=R.length->w.heap.size<=W.heap.size->
   (∀ ks G C1 C2 A Z st' SB' zs',CurE dbk pb FD D F M k v frm to down w cb Y A st' SB' zs'->I i A->(∀ h:i<R.length,BufB A ks R[i].1 C1/\BufB A G R[i].2 C2)->(∀ b∈C1++C2,W.heap.size<=b)->Left D M k v frm to down 1 (zs'.map (·.2)) (R.drop (i+1))->Fr Z W A->(∀ b∈Z,b∈cb::SB)->w.heap.size<=A.heap.size->K' ((ks,G),decide (i<R.length)) A)->
   cW 32 [.pointer (pW cb)] [.agg nxcs,.one .bool] W K':=by
  intro Y i W st SB zs K' hC hI O bB ae kK
  refine qlS hC O (fun hn A Q U=>?_) (fun x L' hx ks G C1 C2 A st' SB' zs' hk hv Q aQ U _ n1 n2 _=>?_)
  ·have aR:R.length<=i:=by
    have:=congrArg List.length hn
    rw [yB,xJ] at this
    omega
   have:=kK ⟨none,0,0⟩ ⟨none,0,0⟩ [] [] A (cb::SB) _ _ _ Q (hY.stay i W A _ hI U hC.new) (fun h=>absurd h (by omega)) (fun b u=>nomatch u) (.inl ⟨rfl,vE (by omega)⟩) U (fun b u=>u) (zL ae U.size)
   rw [zU (show ¬ i<R.length by omega)] at this
   exact this
  ·have C:i<R.length:=by
    have:=congrArg List.length hx
    rw [yB,yH] at this
    omega
   rw [zX C] at hx
   obtain ⟨rfl,rfl⟩:=vC hx
   have:=kK ks G C1 C2 A (cb::SB) st' SB' zs' (Q.frame (.refl _ _) (fun b u=>.inl (by simp [u])) fun b u=>Q.lt b (by simp [u])) (hY.stay i W A _ hI U hC.new) (fun _=>⟨hk,hv⟩) (fun b u=>(zD.1 u).elim (n1 b) (n2 b)) aQ U (fun b u=>u) (zL ae U.size)
   rw [zZ C] at this
   exact this
 refine ad Yc 0 w1 st SB zs _ hC an O (yW _) f1.size fun ks G C1 C2 w2 Z aS aT aU aj ap ak nC aq f2 hZ aV=>?_
 refine Own.new' (Own.start [] w2) fun r w3 e3 f3 h=>?_
 refine Own.sz h 0 rfl (prV ks G) fun w4 h f4=>?_
 have ar:=aj.lt
 refine qfB J (fun i=>R.length+1-i) 0 ⟨aS,aT,aU,ks,G,C1,C2,r,CPT,rfl,yW _,h.at (i:=0) rfl,aj.frame0 h.fr,hY.stay 0 w2 w4 [] ap h.fr (fun b u=>nomatch u),fun hl=>⟨(ak hl).1.frame0 h.fr,(ak hl).2.frame0 h.fr⟩,aq,fun hm=>by have:=ar r (by simp [hm]); omega,zL aV h.fr.size,fun b u=>zL f1.size (nC b u)⟩ ?_
 clear aj ap ak aq h an hC O nC
 rintro i s W ⟨st,SB,zs,ks,G,C1,C2,r,T,rfl,hi,hr,hC,hI,hB,O,aW,ae,nC⟩ X hX
 dsimp only
 refine qaa (fun hc=>?_) (fun hc=>?_)
 ·have C:=zC hc
  obtain ⟨q1,q2⟩:=hB C
  refine qae (qaj hr ks rfl ?_)
  refine qae (qaj hr G rfl ?_)
  refine hY.take i C W ks G C1 C2 _ hI q1 q2 nC ae (fun A U aY=>?_) fun A hE=>cond_true rfl (k2 A hE)
  refine cond_false rfl ?_
  have aZ:A.heap[r]?=some (.cells (prV ks G) T (0,0)):=by rw [U.block r (qab hr) aW]; exact hr
  refine qae (qh7 aZ (ks,G) rfl ?_)
  have Q:=hC.frame U (fun b u=>.inl u) fun b u=>yC (hC.lt b (by simp [u])) U.size
  refine Own.new' (Own.start [] A) fun V Wa ea fa h=>?_
  refine Own.sz h 0 rfl (prV ks G) fun Wb h fb=>?_
  have af:=Q.lt
  have a1:CurE dbk pb FD D F M k v frm to down w cb (V::Yc) Wb st SB zs:=Q.frame (h.fr.mono fun _ h=>nomatch h) (fun b u=>(zG.1 u).elim (fun e=>.inr (by rw [e,ea]; exact zM _)) .inl) fun b u=>by
   rcases zG.1 u with rfl | u
   ·exact qab (h.at (i:=0) rfl)
   ·exact yC (af b (by simp [u])) h.fr.size
  have av:=qab (h.at (i:=0) rfl)
  dsimp only at av
  have ag:w.heap.size<=A.heap.size:=zL ae U.size
  refine ad (V::Yc) (i+1) Wb st SB zs _ a1 (hY.stay _ A Wb [] aY h.fr fun b u=>nomatch u) O C (zL ag h.fr.size) fun aw ax D1 D2 Wc Z st' SB' zs' ay a2 az aA a3 fc a4 a5=>?_
  have aB:V∉Z:=fun hm=>by
   have:=af V (by rcases zG.1 (a4 V hm) with h | h <;> simp [h])
   omega
  have a6:Wc.heap[V]?=some (.cells (prV ks G) CPT (0,0)):=by rw [fc.block V av aB]; exact h.at (i:=0) rfl
  have aC:V∉Yc:=fun hm=>by have:=af V (by simp [hm]); omega
  refine qbY a6 (prV aw ax) rfl rfl (zO rfl) fun Wd hd fd=>?_
  have hn:∀ b∈D1++D2,b∉[V]:=fun b u hm=>by
   have:=aA b u
   rw [zE.1 hm] at this
   omega
  refine hX (i+1) _ Wd ⟨st',SB',zs',aw,ax,D1,D2,V,CPT,rfl,C,hd,ay.frame (fd.mono fun b u _=>by rw [zE.1 u]; simp) (fun b u=>.inl (by simp [u])) (fun b u=>yC (ay.lt b (by simp [u])) fd.size),hY.stay _ Wc Wd [V] a2 fd (fun b u=>by rw [zE.1 u,ea]; exact ag),fun hl=>⟨(az hl).1.frame fd fun b u=>hn b (by simp [u]),(az hl).2.frame fd fun b u=>hn b (by simp [u])⟩,a3,aC,zL a5 fd.size,fun b u=>zL (zL ag h.fr.size) (aA b u)⟩ (by omega)
 ·have aR:=zB hc
  have:i=R.length:=by omega
  subst this
  exact k1 W hI
end
section
section
variable {k v c:Nat} {t:Int} {w:World} {dbk pb:Nat} {FD F:List Nat} {D:DiskM} {M:PgM} {P:List Int} {L:Prs}
end
end
end Go.Proofs.YtmmkegapckbomaaGreatDoor
end
section
namespace Go.Pt
open Go
theorem Rds.getC {α:Type} {enc:α->List Value} {k:Nat} {S:List Nat} {w:World} {s:Sl} {l:List α} (h:Rds enc k S w s l) (n:Nat) {i:Int} {x:α} {K:Addr->Prop} (hi:i=n) (C:l[n]?=some x) (E:∀ b o u T A,w.heap[b]?=some (.cells u T A)->(u.toList.drop o).take k=enc x->K ⟨b,o,none⟩):idx s i k K:=by
 subst hi
 obtain ⟨O,b,o,G,_,u,T,A,I,J⟩:=h.at n C
 refine qa0 G ⟨by omega,by omega⟩ ?_
 rw [zJ]
 exact E b _ u T A I J
theorem qqN {cs:Array Value} {o:Nat} {a b:Value} (h:(cs.toList.drop o).take 2=[a,b]):cs[o]?=some a/\cs[o+1]?=some b:=by
 have u:=congrArg (·[0]?) h
 have A:=congrArg (·[1]?) h
 simp only [xA,yZ] at u A
 exact ⟨by simpa using u,by simpa using A⟩
theorem qte {P:Program} {m:List Nat} {w:World} {K:WP} (h:∀ D∈m,w.heap[D]?=some (.deferred (some []))) (u:m.Nodup) (A:∀ w',Fr m w w'->K w'):runU ((takeAll m).run P w) K:=by
 obtain ⟨w',C,E⟩:=qkJ (P:=P) h u
 exact ⟨w',C,A w' E⟩
end Go.Pt
namespace Go.Proofs.YtmmkegapckbomaaGreatDoor
open Go Go.Pt List
open Classical
attribute [local irreducible] ld ldA ldV fld fldA newZ st new idx idxS idxA slc slcS slcP mkS chk nn call callV inv run runQ runU join loop held ext rng undefer s2a nxt ent IntKind.wrap
theorem qi4 {w:World} {h u Q A:Nat} {C G R I:TypeId} {n stop:Int} {s:Sl} {E:Bool->WP} (J:w.heap[h]?=some (.cells #[.bool true] C (0,0))) (K:w.heap[u]?=some (.cells #[.i n] G (0,0))) (U:w.heap[Q]?=some (.cells #[.b stop] R (0,0))) (O:w.heap[A]?=some (.cells #[s.v] I (0,0))) (hs:0<=stop/\stop<256) (V:n=if (s.len:Int)<stop then (s.len:Int) else stop) (kk:E false w) :
  join Bool (fun X=>ld .bool ⟨h,0,none⟩ w fun b=>cond (!b) (X true w) (ld .i ⟨u,0,none⟩ w fun x=>ld .b ⟨Q,0,none⟩ w fun y=>ld .slice ⟨A,0,none⟩ w fun s=>X (!x==if (↑s.len:Int)<IntKind.wrap .i64 y then (↑s.len:Int) else IntKind.wrap .i64 y) w)) E:=by
 refine qag (fun q w'=>q=false/\w'=w) ?_ ?_
 ·refine qaj J true rfl ?_
  refine cond_false rfl ?_
  refine qaj K n rfl ?_
  refine qaj U stop rfl ?_
  refine qaj O s rfl ?_
  exact ⟨by rw [wi' _ (by omega),<- V,beq_self_eq_true]; rfl,rfl⟩
 ·rintro q w' ⟨rfl,rfl⟩
  exact kk
theorem qlh {w:World} {a0 stop:Int} {a1 a2 a3 a4:Sl} {a5:Bool} {au:Kps} {aN:List Int} {frm to:Key} {K:Bool->WP} (aO:0<=stop/\stop<256) (hv:Hv w) (hA:AskD w a1 a2 a3 a4 au aN frm to) (kk:∀ w',Fr [] w w'->K true w') :
  cW 7 [.agg #[.i a0,a1.v,a2.v,a3.v,a4.v,.bool a5],.b stop] [.one .bool] w K:=by
 obtain ⟨h1,b1,h2,b2,h3,b3,h4,b4⟩:=hA
 refine qcW ?_
 unfold qa4
 refine Own.new' (Own.start [] w) fun r w0 e0 f0 h=>?_
 refine Own.new' h fun r3 w1 e1 f1 h=>?_
 refine Own.ldA h 1 rfl (a0,a1,a2,a3,a4,a5) rfl ?_
 refine qsG (h1.frame0 h.fr) fun g w2 f2 hg=>?_
 have h:=h.frame0 f2
 refine qaa (fun hc=>qj0 (hv.frame0 h.fr) fun w' f=>qte (fun D hD=>nomatch hD) nodup_nil fun aw f'=>kk aw ((h.fr.trans f).trans f')) fun hc=>?_
 obtain ⟨g1,g2,g3,g4,g5⟩:a1.len<=120/\a2.len<=120/\a3.len<=100/\a4.len<=100/\∀ p∈au,p.2.length<=100:=hg hc
 refine Own.ldA h 1 rfl (a0,a1,a2,a3,a4,a5) rfl ?_
 refine qse (hv.frame0 h.fr) (h1.frame0 h.fr) b1 (h2.frame0 h.fr) b2 g1 g2 g5 fun t k v w3 s m dbk pb FD D F M P L B ht hs bC b9 hI Q=>?_
 have h:=h.frame0 hI.fr
 refine cond_false rfl ?_
 have b':=hI.len
 have e3:a3.len=frm.length:=h3.1
 have e4:a4.len=to.length:=h4.1
 have aP:PrB L:=hI.sole.tree.sort.2.prB (by omega) (by omega)
 refine Own.ld h 1 rfl a3 rfl ?_
 refine qd3 (S:=[]) (h3.frame0 h.fr) b3 ?_
 refine Own.ld h 1 rfl a4 rfl ?_
 refine qd3 (S:=[]) (h4.frame0 h.fr) b4 ?_
 refine Own.ld h 1 rfl a5 rfl ?_
 have bn:Rds encPr 2 [] w3 s L:=hI.buf.rds qbU fun b _=>by simp
 refine qqL bn aP (by omega) b3 b4 (by omega) (by omega) fun s5 B5 w5 b5 f5 n5=>?_
 have b5:Buf encPr 2 w5 s5 (rangeD a5 frm to L) B5:=b5
 have bo:PrB (rangeD a5 frm to L):=aP.sub qrW
 have ca:=qqC (down:=a5) (frm:=frm) (to:=to) (L:=L)
 have h:=h.frame0 f5
 refine Own.new' h fun cc w6 e6 f6 h=>?_
 refine Own.sz h 0 rfl #[s5.v] fun w7 h f7=>?_
 have aQ:Fr [] w5 w7:=f6.trans' f7 fun b hb=>.inr (by rw [zE.1 hb]; omega)
 refine Own.ld h 2 rfl a3 rfl ?_
 refine Own.ld h 2 rfl a4 rfl ?_
 refine Own.ld h 2 rfl a5 rfl ?_
 refine qt4 (S:=[]) rfl (h3.frame0 h.fr) (h4.frame0 h.fr) (by omega) (by omega) fun bp w8 WB hW nW f8=>?_
 have h:=h.frame0 f8
 have hT:TW dbk pb FD D 5000 w8 [] F M:=hI.tw.frame0 ((f5.trans aQ).trans f8)
 have b8:Buf encPr 2 w8 s5 (rangeD a5 frm to L) B5:=b5.frame0 (aQ.trans f8)
 have br:s5.len=(rangeD a5 frm to L).length:=b5.len
 have q3:=h.at (i:=1) rfl
 have ai:=h.at (i:=0) rfl
 have az:=h.fr
 clear h
 refine qak (fun s W=>∃ n:Nat,s.1.2=n/\n<=2/\Fr [] w8 W/\s.2.Nodup/\∀ D∈s.2,W.heap[D]?=some (.deferred (some []))/\w8.heap.size<=D) (fun s _=>2-s.1.2.toNat) ⟨0,rfl,by decide,.refl _ _,nodup_nil,fun D hD=>nomatch hD⟩ ?_
 rintro ⟨⟨b,q⟩,ms⟩ W ⟨n,rfl,hn,fW,aS,ad⟩ X hX
 dsimp only
 refine qaa (fun hc=>?_) (fun hc=>qj0 (hv.frame0 (az.trans fW)) fun w' f=>qte (fun D hD=>by rw [f.block D (qab (ad D hD).1) (fun h=>nomatch h)]; exact (ad D hD).1) aS fun aw f'=>kk aw (((az.trans fW).trans f).trans' f' fun b hb=>.inr (zL az.size (ad b hb).2)))
 have hc:=zC hc
 refine Own.new' (Own.start [] W) fun C wa ea fa h=>?_
 refine Own.sz h 0 rfl #[.i 0] fun wb h fb=>?_
 refine Own.new' h fun A wc ec fc h=>?_
 refine Own.sz h 0 rfl #[.bool true] fun wd h fd=>?_
 obtain ⟨lb,aT⟩:∃ lb:List Value,bp=.func (.func WF) #[] lb.toArray:=by
  obtain ⟨r1,r3,r5,r7,r9,s1,s2,B1,B2,e,_⟩:=hW.val
  exact ⟨[_,_,_,_,_],e⟩
 refine Own.rng h aT (by kernel_rfl) fun D l R B J E E0 w9 el eD f9 h hy=>?_
 have aA:Fr [] W w9:=h.fr
 have af:=fW.trans aA
 obtain ⟨aj,aU⟩:∃ T,w9.heap[A]?=some (.cells #[.bool true] T (0,0)):=⟨_,h.at (i:=2) rfl⟩
 obtain ⟨am,aV⟩:∃ T,w9.heap[C]?=some (.cells #[.i 0] T (0,0)):=⟨_,h.at (i:=3) rfl⟩
 have ql:w9.heap[l]?=some R:=h.at (i:=0) rfl
 have qD:w9.heap[D]?=some (.deferred (some [])):=h.at (i:=1) rfl
 have ol:W.heap.size<=l:=(h.own _ (mem_cons_self ..)).resolve_left fun h=>nomatch h
 have oD:W.heap.size<=D:=(h.own _ (zN _ (mem_cons_self ..))).resolve_left fun h=>nomatch h
 have ck:W.heap.size<=A:=(h.own _ (zN _ (zN _ (mem_cons_self ..)))).resolve_left fun h=>nomatch h
 have cm:W.heap.size<=C:=(h.own _ (zN _ (zN _ (zN _ (mem_cons_self ..))))).resolve_left fun h=>nomatch h
 obtain ⟨⟨d1,d2,d3⟩,⟨d4,d5⟩,d6⟩:(¬l=D/\¬l=A/\¬l=C)/\(¬D=A/\¬D=C)/\¬A=C:=by simpa using h.nodup
 have gl:=qab ql
 have gD:=qab qD
 have co:=qab aU
 have cp:=qab aV
 clear h
 have sW:=fW.size
 have U:∀ x∈[l,C,A],W.heap.size<=x:=fun x G=>by
  simp only [zG,xX,or_false] at G
  rcases G with rfl | rfl | rfl <;> assumption
 have aW:∀ x∈[l,C,A],x<w9.heap.size:=fun x G=>by
  simp only [zG,xX,or_false] at G
  rcases G with rfl | rfl | rfl <;> assumption
 have V:∀ {Z:World} {x:Nat} {o:Obj},Fr [l,C,A] w9 Z->w8.heap[x]?=some o->Z.heap[x]?=some o:=fun {Z x o} f G=>by
  have aX:=qab G
  rw [f.block x (yC aX af.size) (fun Q=>by have:=U x Q; omega),af.block x aX (fun h=>nomatch h)]
  exact G
 have aY:∀ Z:World,Fr [l,C,A] w9 Z->X ((b,IntKind.wrap .i64 ((n:Int)+1)),D::ms) Z:=fun Z f=>by
  refine hX _ _ ⟨n+1,?_,by omega,af.trans' f fun x G=>.inr (zL sW (U x G)),nodup_cons.2 ⟨fun Q=>?_,aS⟩,fun x G=>?_⟩ ?_
  ·dsimp only
   rw [wi' _ (by omega)]; rfl
  ·have:=qab (ad D Q).1
   omega
  ·rcases zG.1 G with rfl | G
   ·refine ⟨?_,zL sW oD⟩
    rw [f.block _ gD (fun Q=>by simp only [zG,xX,or_false] at Q; rcases Q with h | h | h <;> omega)]
    exact qD
   ·have aZ:=qab (ad x G).1
    refine ⟨?_,(ad x G).2⟩
    rw [f.block x (yC aZ aA.size) (fun Q=>by have:=U x Q; omega),aA.block x aZ (fun h=>nomatch h)]
    exact (ad x G).1
  ·dsimp only
   rw [wi' _ (by omega)]; omega
 have O:∀ {Z:World} {o:Obj} {y:Nat} {u:Obj},l<Z.heap.size->¬l=y->Z.heap[y]?=some u->(Z.putObj l o).heap[y]?=some u:=fun {Z o y u} hl hy hu=>((qba hl o).block y (qab hu) (fun Q=>hy (zE.1 Q).symm)).trans hu
 have aB:∀ {Z:World} {o:Obj},l<Z.heap.size->(Z.putObj l o).heap[l]?=some o:=fun {Z o} hl=>(qay Z l o l hl).trans (if_pos rfl)
 have an:∀ {Z:World} {o:Obj},l<Z.heap.size->Fr [l,C,A] w9 Z->Fr [l,C,A] w9 (Z.putObj l o):=fun {Z o} hl f=>f.trans' (qba hl o) fun x G=>.inl (by rw [zE.1 G]; simp)
 refine qss (t:=t) (pb:=pb) (L:=L) (P:=P) (Yc:=[l,C,A]) (I:=fun i Z=>(i:Int)<=stop/\Z.heap[C]?=some (.cells #[.i i] am (0,0))/\Z.heap[A]?=some (.cells #[.bool true] aj (0,0))/\Z.heap[l]?=some R/\Fr [l,C,A] w9 Z) (E:=fun Z=>∃ i:Nat,(i:Int)=stop/\i<(rangeD a5 frm to L).length/\Z.heap[C]?=some (.cells #[.i i] am (0,0))/\Z.heap[A]?=some (.cells #[.bool true] aj (0,0))/\Z.heap[l]?=some (J 0)/\Fr [l,C,A] w9 Z)
  aT (hW.frame af fun b _=>by simp) (hT.frameY af aW fun x G=>.inr (zL sW (U x G))) hs ⟨by omega,hI.sole.tree⟩ (by omega) (by omega) (by omega) b3 b4 ⟨fun i Z Z' Y ⟨z1,z2,z3,z4,z5⟩ f hY=>?_,fun i hi Z ks vs C1 C2 K' ⟨z1,z2,z3,z4,z5⟩ p1 p2 nC cy kT kE=>?_⟩ ⟨by omega,aV,aU,ql,.refl _ _⟩ (fun Z ⟨z1,z2,z3,z4,z5⟩=>.inl ⟨z4,?_⟩) fun Z ⟨i,z0,z1,z2,z3,z4,z5⟩=>.inr ⟨0,_,rfl,z4,?_⟩
 ·have nY:∀ x∈[l,C,A],x∉Y:=fun x G Q=>by
   have:=aW x G
   have:=hY x Q
   omega
  have sZ:=z5.size
  exact ⟨z1,by rw [f.block _ (by omega) (nY _ (by simp))]; exact z2,by rw [f.block _ (by omega) (nY _ (by simp))]; exact z3,by rw [f.block _ (by omega) (nY _ (by simp))]; exact z4,z5.trans' f fun x G=>.inr (hY x G)⟩
 ·have gZ:=qab z4
  refine hy (ks,vs) Z K' z4 ⟨z4,?_⟩
  have yl:(Z.putObj l B).heap[l]?=some B:=aB gZ
  have aa:(Z.putObj l B).heap[C]?=some (.cells #[.i i] am (0,0)):=O gZ d3 z2
  have ap:(Z.putObj l B).heap[A]?=some (.cells #[.bool true] aj (0,0)):=O gZ d2 z3
  have fu:Fr [l] Z (Z.putObj l B):=qba gZ B
  have fZ:Fr [l,C,A] w9 (Z.putObj l B):=an gZ z5
  generalize Z.putObj l B=Zb at yl aa ap fu fZ ⊢
  refine qaj aa (i:Int) rfl ?_
  refine qaj (V fZ q3) stop rfl ?_
  refine qaa (fun hc=>?_) (fun hc=>?_)
  ·rw [wi' _ (by omega)] at hc
   have hc:=eq_of_beq hc
   have gb:=qab yl
   exact ⟨yl,kE _ ⟨i,hc,hi,O gb d3 aa,O gb d2 ap,aB gb,an gb fZ⟩⟩
  rw [wi' _ (by omega)] at hc
  have hc:¬(i:Int)=stop:=fun e=>by rw [e,beq_self_eq_true] at hc; cases hc
  have cC:i<s5.len:=by omega
  obtain ⟨k1,k2,k3,k4⟩:=bo _ (zW hi)
  have nl:∀ x∈C1++C2,x∉[l]:=fun x G Q=>by
   have:=nC x G
   rw [zE.1 Q] at this
   omega
  have bw:Fr [l,C,A] Z Zb:=fu.mono fun x G _=>by rw [zE.1 G]; simp
  have hR:Rds encPr 2 [l,C,A] Zb s5 (rangeD a5 frm to L):=(((b8.frame0 af).rds qbU (S:=[l,C,A]) fun x G Q=>by
   have:=U x Q
   have:=b8.lt x G
   omega).frame fZ fun x G=>.inl G)
  refine qag (fun _ Zc=>Zc.heap[C]?=some (.cells #[.i i] am (0,0))/\Zc.heap[A]?=some (.cells #[.bool true] aj (0,0))/\Zc.heap[l]?=some B/\Fr [A] Zb Zc) ?_ ?_
  ·refine qaj ap true rfl ?_
   refine cond_true rfl ?_
   refine qaj aa (i:Int) rfl ?_
   refine qaj (V fZ.drew ai) s5 rfl ?_
   refine cond_true (zZ (by omega)) ?_
   refine qd3 (S:=[]) (BufB.rdb (p1.frame fu.drew fun x G=>nl x (by simp [G])) fun x _=>by simp) k1 ?_
   refine qaj (V fZ.drew ai) s5 rfl ?_
   refine qaj aa (i:Int) rfl ?_
   refine Rds.getC hR i rfl (zA hi) fun c o cs T fr hb aG=>?_
   refine qaj (w:=Zb.drew) hb (strL (rangeD a5 frm to L)[i].1) (qqN aG).1 ?_
   refine cond_true (beq_self_eq_true _) ?_
   refine qd3 (S:=[]) (BufB.rdb (p2.frame fu.drew fun x G=>nl x (by simp [G])) fun x _=>by simp) k2 ?_
   refine qaj (V fZ.drew ai) s5 rfl ?_
   refine qaj aa (i:Int) rfl ?_
   refine Rds.getC hR i rfl (zA hi) fun c o cs T fr hb aG=>?_
   refine qaj (w:=Zb.drew) hb (strL (rangeD a5 frm to L)[i].2) (qqN aG).2 ?_
   rw [beq_self_eq_true]
   refine qbY (w:=Zb.drew) ap #[.bool true] rfl rfl (zO rfl) fun Zc hZ f=>?_
   have f':Fr [A] Zb Zc:=((Fr.refl [A] Zb).drew).trans f
   exact ⟨by rw [f'.block _ (qab aa) (fun Q=>d6 (zE.1 Q).symm)]; exact aa,hZ,by rw [f'.block _ (qab yl) (fun Q=>d2 (zE.1 Q))]; exact yl,f'⟩
  rintro _ Zc ⟨a8,a9,cl,fc⟩
  refine qaj a8 (i:Int) rfl ?_
  refine qbY a8 #[.i ((i+1:Nat):Int)] (by rw [wi' _ (by omega)]; rfl) rfl (zO rfl) fun Zd hd fd=>?_
  have bz:Zd.heap[A]?=some (.cells #[.bool true] aj (0,0)):=by rw [fd.block _ (qab a9) (fun Q=>d6 (zE.1 Q))]; exact a9
  have xl:Zd.heap[l]?=some B:=by rw [fd.block _ (qab cl) (fun Q=>d3 (zE.1 Q))]; exact cl
  have gd:=qab xl
  have fe:Fr [l,C,A] Z (Zd.putObj l R):=((bw.trans (fc.mono fun x G _=>by rw [zE.1 G]; simp)).trans (fd.mono fun x G _=>by rw [zE.1 G]; simp)).trans ((qba gd R).mono fun x G _=>by rw [zE.1 G]; simp)
  exact ⟨xl,kT _ fe ⟨by omega,O gd d3 hd,O gd d2 bz,aB gd,z5.trans fe⟩⟩
 ·have gZ:=qab z4
  have fe:=an (o:=E0) gZ z5
  refine qi4 (n:=(((rangeD a5 frm to L).length:Nat):Int)) (stop:=stop) (s:=s5) (O gZ d2 z3) (O gZ d3 z2) (V fe q3) (V fe ai) aO ?_ (cond_false rfl (aY _ fe))
  rw [br]
  split <;> omega
 ·have gZ:=qab z4
  have fe:=an (o:=E 0) gZ z5
  refine qi4 (n:=(i:Int)) (stop:=stop) (s:=s5) (O gZ d2 z3) (O gZ d3 z2) (V fe q3) (V fe ai) aO ?_ (cond_false rfl (aY _ fe))
  rw [if_neg (by omega)]
  exact z0
end Go.Proofs.YtmmkegapckbomaaGreatDoor
end
