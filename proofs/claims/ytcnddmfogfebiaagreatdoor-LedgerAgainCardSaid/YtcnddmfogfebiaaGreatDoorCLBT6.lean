/- Conditions: those that stand in each line. -/
import Derived.Test.YtcnddmfogfebiaaGreatDoorCLBT5
import Derived.Test.YtcnddmfogfebiaaGreatDoorCLBT3
import Derived.Test.YtcnddmfogfebiaaGreatDoorCLBT2
set_option linter.unusedVariables false
set_option linter.unusedSimpArgs false
set_option linter.defProp false
namespace Go.Proofs.YtcnddmfogfebiaaGreatDoor
open Go Go.Pt
attribute [local irreducible] ld dP iA qg kO eX st new idx kz gi jH nD gV nn call dU inv run eO jt join loop held ext mn fc pZ qG qz IntKind.wrap
open Go.Proofs.Tryz (prog)
open Go Go.Pt List
open Go.IntKind (wrap)
open Classical
variable {w:Md} {C D E:WP} {K:Prop} {a:HL eH}
def FH{A B:WP}(a:A w)(b:B w)(c:C w)(d:D w)(k:K):held [A,B,C,D] w K:=by unfold held;exact⟨⟨a,b,c,d⟩,k⟩
def hd5{A B:WP}(a:A w)(b:B w)(c:C w)(d:D w)(e:E w)(k:K):held [A,B,C,D,E] w K:=by unfold held;exact⟨⟨a,b,c,d,e⟩,k⟩
def hd6{A B F:WP}(a:A w)(b:B w)(c:C w)(d:D w)(e:E w)(f:F w)(k:K):held [A,B,C,D,E,F] w K:=by unfold held;exact⟨⟨a,b,c,d,e,f⟩,k⟩
def vE (h:Me) (k:Nat):Prop:=∀(b o:Nat) (w:Md) (K:Option Addr->WP),(∀w',Fr [] w w'->K (some ⟨b,o+k,none⟩) w')->dU prog h [.agg #[.pointer (some (dh b o))]] dp w K
abbrev DL:Me:=.func (.func 216) #[] #[]
abbrev Ay:Me:=.func (.func 217) #[] #[]
abbrev DN:Me:=.func (.func 219) #[] #[]
abbrev Ao:Me:=.func (.func 218) #[] #[]
def EU:vE DL 2:=λb o w K E=>by refine nM rfl oM (qbZ ?_);exact oD (oG [] w) λr w2 _ G h=>oB h 0 rfl _ rfl (fH (E w2 G))
def Dt:vE Ay 4:=λb o w K E=>by refine nM rfl oM (qei ?_);exact oD (oG [] w) λr w2 _ G h=>oB h 0 rfl _ rfl (fH (E w2 G))
def E7:vE DN 6:=λb o w K E=>by refine nM rfl oM (qbP ?_);exact oD (oG [] w) λr w2 _ G h=>oB h 0 rfl _ rfl (fH (E w2 G))
def C6:vE Ao 8:=λb o w K E=>by refine nM rfl oM (qdY ?_);exact oD (oG [] w) λr w2 _ G h=>oB h 0 rfl _ rfl (fH (E w2 G))
def At (a:HL eH) (k:Nat) (x:e9):Prop:=((HL.mk eH a).drop k).take 2=gx x/\ji x
def E9(h:dV eH a):At a 2 (i6 a):=⟨rfl,Au h⟩
def BU(h:dV eH a):At a 4 (eQ a).1:=⟨rfl,py h.2.2.2.2.1,py h.2.2.2.2.2.1⟩
def Fl(h:dV eH a):At a 6 (ja a):=⟨rfl,AS h⟩
def Cq(h:dV eH a):At a 8 (eQ a).2:=⟨rfl,py h.2.2.2.2.2.2.2.2.1,py h.2.2.2.2.2.2.2.2.2.1⟩
variable {K:Me×Me×Me->WP}
def Eu(h:∀w',Fr [] w w'->K (DL,Ay,Ao) w'):cW 158 [] [.agg [.any,.any,.any]] w K:=by exact qfa<|oD (oG [] w) λr w1 _ E o=>o.z' 0 rfl λw2 o _=>oE o 0 rfl (_,_,_) rfl (h w2 o.fr)
def E8(h:∀w',Fr [] w w'->K (DN,Ao,Ay) w'):cW 159 [] [.agg [.any,.any,.any]] w K:=by exact qeI<|oD (oG [] w) λr w1 _ E o=>o.z' 0 rfl λw2 o _=>oE o 0 rfl (_,_,_) rfl (h w2 o.fr)
variable {K:e9->WP} {c0 c1 c2:Me} {k0 k1:Nat} {P i am:e9} {b b':Bk} {s n v z:Int} {p r:Pa} {k:Kp} {x x' y:HL eH} {l:List (HL kK)} {d:HL kK} {side:HL eu->e9} {t q:HL eu}
def qw2{k2:Nat}{Q R:e9}(h0:vE c0 k0)(h1:vE c1 k1)(h2:vE c2 k2)(e0:At a k0 P)(e1:At a k1 Q)(e2:At a k2 R)(kk:∀w',Fr [] w w'->K (qp P Q R) w'): cW 225 [.agg #[c0,c1,c2],LI eH a] [.agg dg] w K:=by
 refine qgh ?_;have g:∀ {k x},At a k x->((HL.mk eH a).toArray.toList.drop (0+k)).take 2=gx x:=λ{k x} h=>by rw[xQ];exact h.1
 refine oD (oG [] w) λr1 w1 _ f1 o=>oD o λr3 w2 _ f2 o=>oD o λr5 w3 _ f3 o=>oD o λr7 w4 _ f4 o=>o.z' 0 rfl λw5 o _=>?_;have o:=o.drew;have O:∀ {U:Md} {I:Nat},dY [] w U [(I,.c cq nf),(r7,.c #[dM r3] 332),(r5,.c cq nf),(r3,LH eH a 38),(r1,.c #[c0,c1,c2] 263)]->
   DG K I ((jK P Q).getD (0,0),(jK P Q).isSome) U r5 r1 r7:=λ{U I} o=>by
  unfold DG;unfold qp at kk;refine o.z' 0 rfl λw7 o _=>?_;cases hs:jK P Q with
  | none=>
   rw[hs] at kk;exact y_ (o.z' 2 rfl λV o _=>Mj o 2 (0,0) (kk V o.fr))
  | some S=>
   rw[hs] at kk o;have hS:=(zn e0.2 e1.2 hs).2;have o:=o.drew;refine x_ (Mi o 4 c2 (Mj o 1 (pW r3) (Mj o 0 S (h2 r3 0 _ _ λV J=>gY ((o.q9 J).cells 0) (fH (oE (o.q9 J) 3 rfl R (g e2) (qDp e2.2 hS λw9 f9=>?_)))))));have o:=(o.q9 J).q9 f9;exact o.z' 2 rfl λag o _=>Mj o 2 (wt R S) (kk ag o.fr)
 refine⟨Mi o 3 c0 (Mj o 0 (pW r3) (Mi o 3 c1 (Mj o 0 (pW r3) (h0 r3 0 _ _ λU E=>jU ((o.q9 E).cells 0) ((o.q9 E).cell 3) (fH (oE (o.q9 E) 2 rfl P (g e0) (h1 r3 0 _ _ λw7 G=>gY (((o.q9 E).q9 G).cells 2 rfl (g e0)) (fH (oE ((o.q9 E).q9 G) 2 rfl Q (g e1) (Ad e0.2 e1.2 λV J=>oD (((o.q9 E).q9 G).q9 J) λI w9 _ f9 o=>hd6 (o.cells 3 rfl (g e1)) (o.cells 3 rfl (g e0)) (o.cells 1) (o.cell 4) (o.cells 1) (o.cell 4) (O o))))))))))),
  Mi o 3 c0 (Mj o 0 (pW r3) (Mi o 3 c1 (Mj o 0 (pW r3) (h0 r3 0 _ _ λU E=>jU ((o.q9 E).cells 0) ((o.q9 E).cell 3) (fH (oE (o.q9 E) 2 rfl P (g e0) (h1 r3 0 _ _ λw7 G=>gY (((o.q9 E).q9 G).cells 2 rfl (g e0)) (fH (oE ((o.q9 E).q9 G) 2 rfl Q (g e1) (oD ((o.q9 E).q9 G) λI w9 _ f9 o=>hd6 (o.cells 3 rfl (g e1)) (o.cells 3 rfl (g e0)) (o.cells 1) (o.cell 4) (o.cells 1) (o.cell 4) (Ad e0.2 e1.2 λV J=>O (o.q9 J)))))))))))),
  Mi o 3 c0 (Mj o 0 (pW r3) (Mi o 3 c1 (Mj o 0 (pW r3) (h0 r3 0 _ _ λU E=>jU ((o.q9 E).cells 0) ((o.q9 E).cell 3) (fH (oE (o.q9 E) 2 rfl P (g e0) (oD (o.q9 E) λI w9 _ f9 o=>hd5 (o.cells 3 rfl (g e0)) (o.cells 1) (o.cell 4) (o.cells 1) (o.cell 4) (h1 r3 0 _ _ λw7 G=>gY ((o.q9 G).cells 3 rfl (g e0)) (fH (oE (o.q9 G) 3 rfl Q (g e1) (Ad e0.2 e1.2 λV J=>O ((o.q9 G).q9 J)))))))))))),
  Mi o 3 c0 (Mj o 0 (pW r3) (Mi o 3 c1 (Mj o 0 (pW r3) (oD o λI U _ E o=>FH (o.cells 1) (o.cell 4) (o.cells 1) (o.cell 4) (h0 r3 0 _ _ λw7 G=>jU ((o.q9 G).cells 1) ((o.q9 G).cell 4) (fH (oE (o.q9 G) 3 rfl P (g e0) (h1 r3 0 _ _ λV J=>gY (((o.q9 G).q9 J).cells 3 rfl (g e0)) (fH (oE ((o.q9 G).q9 J) 3 rfl Q (g e1) (Ad e0.2 e1.2 λw9 f9=>O (((o.q9 G).q9 J).q9 f9))))))))))))⟩
def qrJ:(k7 b a s n).acc=b.acc/\(k7 b a s n).gL=b.gL/\(k7 b a s n).lP=b.lP/\(k7 b a s n).due=b.due/\(k7 b a s n).oc=b.oc/\(k7 b a s n).nV=b.nV/\(k7 b a s n).oU.length<=b.oU.length+1/\(k7 b a s n).last=b.last/\(k7 b a s n).cm=b.cm:=by unfold k7;split;exact⟨rfl,rfl,rfl,rfl,rfl,rfl,vI,rfl,rfl⟩;exact⟨rfl,rfl,rfl,rfl,rfl,rfl,Nat.le_succ _,rfl,rfl⟩
def DJ:(fE b p n).acc=((b.fp p.1).fp p.2.1).acc/\(fE b p n).gL=b.gL/\(fE b p n).lP=b.lP/\(fE b p n).due=b.due/\(fE b p n).oc=b.oc/\(fE b p n).nV=b.nV/\(fE b p n).oU.length<=b.oU.length+2/\(fE b p n).last=b.last/\(fE b p n).cm=b.cm:=by obtain⟨G,I,J,O,U,V,a7,h⟩:=qrJ;obtain⟨b1,b2,b3,b4,b5,b6,b7,E⟩:=qrJ;exact⟨G.trans b1,I.trans b2,J.trans b3,O.trans b4,U.trans b5,V.trans b6,zL a7 (Nat.succ_le_succ b7),h.1.trans E.1,h.2.trans E.2⟩
def qzU{i:Int}(h:∃T,Hb T b)(E:dV eH a)(hi:IntKind.u8.has i)(G:lH n):∃T,Hb T (k7 b a i n):=by unfold k7;split;obtain⟨T,h⟩:=h;exact⟨_,h.oz ⟨⟨E.1,E.2.1⟩,qsH E hi (pH G)⟩⟩;exact h
def JW(h:∃T,Hb T b)(E:dV eH p.1)(G:dV eH p.2.1)(I:lH n):∃T,Hb T (fE b p n):=by obtain⟨T,h⟩:=h;exact qzU (qzU ⟨_,(h.fp E).fp G⟩ E (show (0:Int)<=1/\(1:Int)<=255 from⟨oO,oO⟩) I) G (show (0:Int)<=2/\(2:Int)<=255 from⟨oO,oO⟩) I
def qzW(h:∃T,Hb T b)(E:sV k):∃T,Hb T (b.dS k):=by obtain⟨T,h⟩:=h;have f:=E.1;exact⟨_,((h.mY E).oZ (a:=Db k.1) ⟨⟨⟨f.2.2.1,f.2.2.2.1⟩,f.2.2.2.2.2.2.2.2.2.2.2.2.2.2.2⟩,⟨f.1,f.2.1⟩⟩).pT ⟨⟨⟨f.2.2.2.2.1,f.2.2.2.2.2.1⟩,f.2.2.2.2.2.2.2.2.2.2.2.2.2.2.2⟩,⟨f.1,f.2.1⟩⟩⟩
def qpw(h:∀x∈l,pR x≠pR d):lX d l=l:=filter_eq_self.2 λx E=>yA (h x E)
def Hh{a b:HL kK}:wJ a b=true↔(pR a).1<(pR b).1\/(pR a).1=(pR b).1/\(pR a).2<(pR b).2:=yN
def yg.inj(h:yg l){x y:HL kK}(J:x∈l)(O:y∈l)(e:pR x=pR y):x=y:=by
 induction l with
 | nil=>cases J
 | cons a l ih=>
  have U:=yJ.1 h;have I:∀z∈l,pR a≠pR z:=λz V e=>by
   have:=Hh.1 (U.1 z V);rw[e] at this;omega
  rcases zG.1 J with G|G;rcases zG.1 O with E|E;rw[G,E];exact absurd (by rw[<- G];exact e) (I y E);rcases zG.1 O with E|E;exact absurd (by rw[<- E];exact e.symm) (I x G);exact ih U.2 G E
def quC{x:HL kK}:x∈pM d l↔x=d\/x∈l:=by rw[Et.mem_iff,zG]
def qsc{d:HL kK}:∀ {l:List (HL kK)},yg l->(∀x∈l,pR x≠pR d)->yg (pM d l)
 | [],_,_=>by unfold pM;exact pairwise_singleton _ _
 | x::r,h,I=>by
  have G:=yJ.1 h;unfold pM;by_cases e:wJ d x=true;rw[iP e];refine yJ.2 ⟨λy E=>?_,h⟩;rcases zG.1 E with rfl|E;exact e;have:=G.1 y E;rw[Hh] at *;omega;rw[iN e];refine yJ.2 ⟨λy E=>?_,qsc G.2 λy E=>I y (zN _ E)⟩;rcases quC.1 E with rfl|E;have J:=I x oN;rw[Hh] at *;have:¬((pR x).1=(pR y).1/\(pR x).2=(pR y).2):=λh=>J (Prod.ext h.1 h.2);omega;exact G.1 y E
def nS.oc{u:Int}(h:nS x)(c:tP x x' u v 0 0)(G:0<=v)(I:wv (i6 x)+wv (eQ x).1+(u+v)<18446744073709551616*18446744073709551616)(E:hasB (eJ x) 2=true->wv (i6 x)+wv (eQ x).1+(u+v)<=wv (eQ x).2):nS x':=by unfold nS at h⊢;rw[c.wG.1,c.wG.2,c.rz.1,c.rz.2.1,c.rz.2.2.1,c.rz.2.2.2];exact⟨oL,oL,λe=>by have:=E e;omega,λe=>by have:=h.2.2.2 e;omega⟩
def nS.nV{u:Int}(h:nS x)(c:tP x x' 0 0 u v)(G:0<=v)(I:wv (ja x)+wv (eQ x).2+(u+v)<18446744073709551616*18446744073709551616)(E:hasB (eJ x) 4=true->wv (ja x)+wv (eQ x).2+(u+v)<=wv (eQ x).1):nS x':=by unfold nS at h⊢;rw[c.wG.1,c.wG.2,c.rz.1,c.rz.2.1,c.rz.2.2.1,c.rz.2.2.2];exact⟨oL,oL,λe=>by have:=h.2.2.1 e;omega,λe=>by have:=E e;omega⟩
def qAY(h:∀y∈b.gL,kV y≠kV k)(E:b'.gL=iT kV k b.gL)(G:∀y∈b.gL,ig b' y=ig b y):ky side b' i=ky side b i+nY side b' i k:=by unfold ky;rw[E,Gs h];congr 2;exact map_congr_left λy I=>by unfold nY;rw[G y I]
def qsT(h:∀y∈b.gL,kV y≠kV k)(E:b'.gL=iT kV k b.gL):k8 side b' i=k8 side b i+vL side i k:=by unfold k8;rw[E,Gs h]
def qqu{q:Kp}(h:lh n b)(E:q∈b.gL)(G:∀y∈b.gL,kV y≠kV q->ig b' y=ig b y)(I:ig b q=true)(J:ig b' q=false):(b.gL.map (nY side b' i)).sum=ky side b i+if side q.1=i then-wv (fM q.1) else 0:=by rw[qvo h.Gx E λy O e=>by unfold nY;rw[G y O e]];unfold ky nY;rw[I,J];by_cases e:side q.1=i;rw[iP ⟨e,rfl⟩,iN (λh=>nomatch h.2),iP e];omega;rw[iN λh=>e h.1,iN λh=>e h.1,iN e];omega
def lh.wm{q:Kp}(h:lh n b)(hq:q∈b.gL)(hw:ig b q=true)(ht:∀k0,(k0∈b'.gL/\ig b' k0=true)↔(k0∈b.gL/\kV k0≠kV q/\ig b k0=true)){e:HL kK}(hd:b'.due=b.due/\iD q.1=none\/∃x,iD q.1=some x/\pR e=(x,kR q.1)/\b'.due=lX e b.due):∀d,d∈b'.due↔∃k∈b'.gL,ig b' k=true/\iD k.1=some d.1/\d=qF k d.1:=by
 have O:=h.Gx;have key:∀d,d∈b'.due↔d∈b.due/\∀x,iD q.1=some x->pR d≠(x,kR q.1):=λd=>by rcases hd with ⟨e1,U⟩|⟨x,U,e3,e1⟩;rw[e1,U];exact⟨λh=>⟨h,λ_ h=>nomatch h⟩,λh=>h.1⟩;rw[e1,U];unfold lX;rw[L9,yN,e3];exact⟨λh=>⟨h.1,λy hy=>by cases hy;exact h.2⟩,λh=>⟨h.1,h.2 x rfl⟩⟩
 intro d;rw[key];constructor;rintro⟨V,h2⟩;obtain⟨k0,I,w0,J,e0⟩:=(h.tk d).1 V;have E:kV k0≠kV q:=λe=>by
  have:=Hc O I hq e;subst this;exact h2 _ J (by rw[e0];rfl)
 obtain⟨m1,w1⟩:=(ht k0).2 ⟨I,E,w0⟩;exact⟨k0,m1,w1,J,e0⟩;rintro⟨k0,m1,w1,J,e0⟩;obtain⟨I,E,w0⟩:=(ht k0).1 ⟨m1,w1⟩;have G:=(h.tk d).2 ⟨k0,I,w0,J,e0⟩;refine⟨G,λx hx e=>E ?_⟩;have ab:qF q x∈b.due:=(h.tk _).2 ⟨q,hq,hw,hx,rfl⟩;have:=h.due.inj G ab e;rw[e0] at this;have V:=Ma xv this;exact V
def qCV{r:Int}(h:tO t n r=0):r=0:=by unfold tO at h;split at h;exact h;split at h;omega;exact h
def qzo(h:jD t n p=(0,am)):pY t=0/\qw t=0/\rV t p=0/\ry t am p=0/\am=lw t p:=by
 unfold jD at h;split at h
 ·next e=>exact absurd (Ma Prod.fst h) e
 ·next e1=>
  split at h
  ·next e=>exact absurd (Ma Prod.fst h) e
  ·next e2=>
   split at h
   ·next e=>exact absurd (Ma Prod.fst h) e
   ·next e3=>
    split at h
    ·next e=>exact absurd (Ma Prod.fst h) e
    ·next e4=>
     have:=Ma Prod.snd h;subst this;exact⟨Decidable.not_not.1 e1,Decidable.not_not.1 e2,Decidable.not_not.1 e3,qCV (Decidable.not_not.1 e4),rfl⟩
def qAl(h:pY t=0):fI t≠fJ t:=by unfold pY at h;(repeat' split at h);all_goals first|omega|assumption
def qBN(h:rV t p=0):p.2.2.1=true/\p.2.2.2=true/\jM p.1=jM p.2.1:=by
 unfold rV at h;split at h;omega
 ·next e1=>
  split at h;omega
  ·next e2=>
   split at h;omega
   ·next e3=>exact⟨by simpa using e1,by simpa using e2,Decidable.not_not.1 e3⟩
def GT{a c d e:e9}(E:ji a)(G:ji c)(I:ji d)(h:sH a c d=some e):wv e=wv a+wv c+wv d/\ji e:=by obtain⟨f,J,O⟩:=Option.bind_eq_some_iff.1 h;obtain⟨g1,U⟩:=zn E G J;obtain⟨g3,V⟩:=zn U I O;exact⟨oL,V⟩
def qCN(h:ry t am p=0):∃X Y d c,jK (rW t p.1) am=some X/\jK (sI t p.2.1) am=some Y/\sH (i6 p.1) (eQ p.1).1 am=some d/\sH (ja p.2.1) (eQ p.2.1).2 am=some c/\(hasB (eJ p.1) 2=true->wv d<=wv (eQ p.1).2)/\(hasB (eJ p.2.1) 4=true->wv c<=wv (eQ p.2.1).1):=by
 unfold ry at h;split at h;split at h<;>omega
 ·next e1=>
  split at h;split at h<;>omega
  ·next e2=>
   obtain⟨X,E⟩:=Option.ne_none_iff_exists'.1 e1;obtain⟨Y,G⟩:=Option.ne_none_iff_exists'.1 e2;split at h;omega;omega
   ·next d c e3 e4=>
    split at h;omega
    ·next e5=>
     split at h;omega
     ·next e6=>exact⟨X,Y,d,c,E,G,e3,e4,λh=>Int.not_lt.1 λg=>e5 ⟨h,g⟩,λh=>Int.not_lt.1 λg=>e6 ⟨h,g⟩⟩
def Gy{a c d:e9}(E:ji a)(G:ji c)(I:ji d):ji (qp a c d):=by
 have z:ji (0,0):=⟨⟨oO,oO⟩,⟨oO,oO⟩⟩;unfold qp;split;exact z
 ·next h e=>
  have J:=(zn E G e).2;unfold wt;cases O:oo d h with|none=>exact z|some g=>exact (EN I J O).2
def GS{a c:e9}(h:ji a)(E:ji c):ji (jr a c):=by unfold jr;split;exact E;exact h
def qrI(O:dV eu t)(E:dV eH p.1)(G:dV eH p.2.1):ji (lw t p):=by have I:=Gy (Au E) (u9 E).1 (u9 E).2;have J:=Gy (AS G) (u9 G).2 (u9 G).1;have h:=u5 O;unfold lw;dsimp only;split<;>split;exact GS (GS h I) J;exact GS h J;exact GS h I;exact h
def qDD{X:e9}(E:dV eH x)(J:ji am)(h:jK (rW t x) am=some X):tP x (let d:=my t X x;if hasB (dT t) 64 then lc (uu (eJ d) 16) d else d) (if hasB (dT t) 2 then wv am else 0) (if hasB (dT t) 2 then 0 else wv am) 0 0:=by
 have base:tP x (my t X x) (if hasB (dT t) 2 then wv am else 0) (if hasB (dT t) 2 then 0 else wv am) 0 0:=by
  unfold my;unfold rW at h;split
  ·next e=>
   rw[iP e] at h;obtain⟨G,I⟩:=zn (Au E) J h;exact⟨JL I E,rfl,rfl,⟨rfl,rfl⟩,G,(Int.add_zero _).symm,(Int.add_zero _).symm,(Int.add_zero _).symm⟩
  ·next e=>
   rw[iN e] at h;obtain⟨G,I⟩:=zn (u9 E).1 J h;exact⟨qsJ I E,rfl,rfl,⟨rfl,rfl⟩,(Int.add_zero _).symm,G,(Int.add_zero _).symm,(Int.add_zero _).symm⟩
 split;exact base.fl (qAp (sC base.fit)) qwS;exact base
def qDC{X:e9}(E:dV eH x)(J:ji am)(h:jK (sI t x) am=some X):tP x (let c:=k6 t X x;if hasB (dT t) 128 then lc (uu (eJ c) 16) c else c) 0 0 (if hasB (dT t) 2 then wv am else 0) (if hasB (dT t) 2 then 0 else wv am):=by
 have base:tP x (k6 t X x) 0 0 (if hasB (dT t) 2 then wv am else 0) (if hasB (dT t) 2 then 0 else wv am):=by
  unfold k6;unfold sI at h;split
  ·next e=>
   rw[iP e] at h;obtain⟨G,I⟩:=zn (AS E) J h;exact⟨JO I E,rfl,rfl,⟨rfl,rfl⟩,(Int.add_zero _).symm,(Int.add_zero _).symm,G,(Int.add_zero _).symm⟩
  ·next e=>
   rw[iN e] at h;obtain⟨G,I⟩:=zn (u9 E).2 J h;exact⟨qsI I E,rfl,rfl,⟨rfl,rfl⟩,(Int.add_zero _).symm,(Int.add_zero _).symm,(Int.add_zero _).symm,G⟩
 split;exact base.fl (qAp (sC base.fit)) qwS;exact base
def qA5:(iO b t).acc=b.acc/\(iO b t).gL=b.gL/\(iO b t).oc=b.oc/\(iO b t).nV=b.nV/\(iO b t).oU=b.oU/\(iO b t).last=b.last/\(iO b t).cm=b.cm:=by unfold iO;split;split<;>exact⟨rfl,rfl,rfl,rfl,rfl,rfl,rfl⟩;exact⟨rfl,rfl,rfl,rfl,rfl,rfl,rfl⟩
def qA7:iM (iO b t) i=if hasB (dT t) 2=true/\gb t=i then 1 else iM b i:=by
 have key:∀B:Bk,hasB _ 2=true->B.lP=(b.fG (gb t,1)).lP->iM B i=if hasB (dT t) 2=true/\gb t=i then 1 else iM b i:=λB h E=>by rw[Ez E,Jr];by_cases g:gb t=i;rw[iP g,iP ⟨h,g⟩];rw[iN g,iN λx=>g x.2]
 unfold iO;split
 ·next h=>split<;>exact key _ h rfl
 ·next h=>rw[iN λg=>h g.1]
def qA6:(iO b t).due=match hasB (dT t) 2,iD t with|true,some x=>pM (x,kR t,(gb t).1,(gb t).2) (lX (x,kR t,(gb t).1,(gb t).2) b.due)|_,_=>b.due:=by
 unfold iO;cases hasB _ 2<;>cases iD t<;>rfl
def qua(E:dV eu t)(h:iD t=some z):lH z:=by have G:=py E.2.2.2.2.2.2.2.2.2.2.2.2.2.2.2;have J:0<=kQ t:=E.2.2.2.2.2.2.2.2.2.2.2.1.1;have I:0<=kR t:=G.1;unfold iD at h;split at h;cases h;split at h;cases h;exact⟨oL,by assumption⟩;cases h
def qDQ(h:∃T,Hb T b)(E:dV eu t):∃T,Hb T (iO b t):=by
 obtain⟨T,h⟩:=h;have G:lU (gb t):=⟨E.1,E.2.1⟩;have I:=h.fG (a:=(gb t,1)) ⟨G,(show (0:Int)<=1/\(1:Int)<=255 from⟨oO,oO⟩)⟩;unfold iO;split
 ·split
  ·next z e=>exact⟨_,I.ou ⟨pH (qua E e),E.2.2.2.2.2.2.2.2.2.2.2.2.2.2.2,G⟩⟩
  exact⟨_,I⟩
 exact⟨_,h⟩
def Bk.cost (b:Bk):Nat:=2*(b.acc.length+b.gL.length+b.oU.length)+b.lP.length+4*b.due.length+b.oc.length+b.nV.length
def Bk.mQ:b.rm<=b.cost+137:=by have:b.last.toList.length<=1:=(by cases b.last<;>simp);unfold Bk.rm Bk.cost;omega
def HN{α κ:Type}[DecidableEq κ]{kf:α->κ}{a:α}:∀ {l:List α},(l.find? λx=>decide (kf x=kf a))≠none->(iT kf a l).length=l.length
 | [],h=>absurd rfl h
 | x::r,h=>by unfold iT;by_cases e:kf x=kf a;rw[iP e];rfl;rw[iN e,yI,yI,HN (l:=r) (by rw[List.find?_cons,zU e] at h;exact h)]
def I4{C D:e9}{y':HL eH}(E:D≠C)(G:dZ b D=some x)(I:dZ b C=some y)(e1:fP x'=D)(J:fP y'=C):((b.fp x').fp y').acc.length=b.acc.length:=by have O:(b.fp x').acc.length=b.acc.length:=HN (by rw[e1];show dZ b _≠none;rw[G];exact λh=>nomatch h);rw[<- O];refine HN ?_;show dZ (b.fp x') (fP y')≠none;rw[BN,e1,J,iN E,I];exact λh=>nomatch h
def qg1:(b.dS k).acc=b.acc/\(b.dS k).gL=iT kV k b.gL/\(b.dS k).lP=b.lP/\(b.dS k).due=b.due/\(b.dS k).oU=b.oU/\(b.dS k).oc.length<=b.oc.length+1/\(b.dS k).nV.length<=b.nV.length+1:=⟨rfl,rfl,rfl,rfl,rfl,vI,vI⟩
def qw3(V:dV eu t)(U:ji am)(hU:lH s):sV (lY t am s):=by obtain⟨f1,f2,f3,f4,f5,f6,f7,f8,f9,h,E,G,I,J,O,ak⟩:=V;exact⟨⟨f1,f2,f3,f4,f5,f6,pH U.1,pH U.2,f9,h,E,G,I,J,O,pH hU⟩,f7,f8⟩
structure EH (b b':Bk):Prop where
 gL:∀ i k,eM b i=some k->eM b' i=some k
 acc:∀ i,(dZ b i).isSome=true->(dZ b' i).isSome=true
structure tI (b b':Bk) (i:e9) (s:Int) (t:HL eu):Prop where
 acc:∀ j,(dZ b' j).isSome=(dZ b j).isSome
 gL:∃ k,b'.gL=iT kV k b.gL/\kV k=i/\kR k.1=s/\kY t k=16
 last:b'.last=b.last
 cm:b'.cm=b.cm
def qwd(h:gr t=false):kY t (lY t am s)=16:=by
 have e:∀ {α:Type} [DecidableEq α] (none E there:α),nm t none E there=E:=λnone E there=>by unfold nm;rw[h,iN λh=>nomatch h.1]
 unfold kY;rw[e,e,e,e];unfold lY;simp[dT,iB,kQ,fI,fJ,fM,wE,mc,mz]
def qvj(G:gr t=true)(h:iQ t q true=0):kY t (kL t q am s)=16:=by
 have e:∀ {α:Type} [DecidableEq α] (none E there:α),(E=none\/E=there)->nm t none E there=there:=λnone E there h=>by unfold nm;rcases h with h|h;rw[iP ⟨G,h⟩];rw[h];split<;>rfl
 have g:(fI t=(0,0)\/fI t=fI q)/\(fJ t=(0,0)\/fJ t=fJ q)/\(mc t=0\/mc t=mc q)/\(mz t=0\/mz t=mz q):=by
  unfold iQ at h;rw[iN λh=>nomatch h] at h;split at h;omega
  ·split at h;omega
   ·next e1=>
    split at h;omega
    ·next e2=>
     split at h;omega
     ·next e3=>
      split at h;omega
      ·next e4=>
       have or:∀ {α:Type} [DecidableEq α] {a b c:α},¬(a≠b/\a≠c)->a=b\/a=c:=λ{α _ a b c} h=>by by_cases e:a=b;exact .inl e;exact .inr (Decidable.not_not.1 λf=>h ⟨e,f⟩)
       exact⟨or e1,or e2,or e3,or e4⟩
 unfold kY;have I:fI (kL t q am s).1=fI q:=rfl;have J:fJ (kL t q am s).1=fJ q:=rfl;have O:mc (kL t q am s).1=mc q:=rfl;have U:mz (kL t q am s).1=mz q:=rfl;rw[I,J,O,U,e _ _ _ g.1,e _ _ _ g.2.1,e _ _ _ g.2.2.1,e _ _ _ g.2.2.2];unfold kL;simp[dT,iB,kQ,fM,wE]
def Km{P:Pa}(h:(dZ b (fP P.1)).isSome=true)(E:(dZ b (fP P.2.1)).isSome=true)(G:b'.acc=((b.fp P.1).fp P.2.1).acc)(j:e9):(dZ b' j).isSome=(dZ b j).isSome:=by
 rw[qrG G,BN,BN];split
 ·next e=>rw[<- e,E];rfl
 ·split
  ·next e=>rw[<- e,h];rfl
  rfl
def lh.plain(h:lh n b)(ht:dV eu t)(aj:eM b (gb t)=none)(ak:jz t=0)(ab:gr t=false)(hs:n<=s)(hU:lH s)(hc:jD t s (mo b (fI t) (fJ t))=(0,am)): ∃r,rT t am (mo b (fI t) (fJ t))=some r/\dV eH r.1/\dV eH r.2.1/\ji am/\lh (s+1) (fE (iO (b.dS (lY t am s)) (lY t am s).1) r s)/\(fE (iO (b.dS (lY t am s)) (lY t am s).1) r s).cost<=b.cost+13/\tI b (fE (iO (b.dS (lY t am s)) (lY t am s).1) r s) (gb t) s t:=by
 obtain⟨c1,c2,c3,c4,c5⟩:=qzo hc;have ac:=qAl c1;obtain⟨a1,a2,a3⟩:=qBN c3;obtain⟨x,U⟩:=Option.isSome_iff_exists.1 a1;obtain⟨y,V⟩:=Option.isSome_iff_exists.1 a2;have ep:mo b (fI t) (fJ t)=(x,y,true,true):=(by unfold mo;rw[U,V];rfl);rw[ep] at hc c3 c4 c5 a3⊢;obtain⟨X,Y,d,c,r1,r2,r3,r4,r5,r6⟩:=qCN c4;have fx:=h.m7 U;have fy:=h.m7 V;have G:ji am:=(by rw[c5];exact qrI ht fx fy);have bm:=xh G;have cx:=qDD fx G r1;have cy:=qDC fy G r2;refine⟨_,(by unfold rT;rw[r1,Option.bind_some,r2,Option.map_some]),cx.fit,cy.fit,G,?_⟩;generalize (if hasB (dT t) 64 then lc (uu (eJ (my t X x)) 16) (my t X x) else my t X x)=x' at cx⊢;generalize (if hasB (dT t) 128 then lc (uu (eJ (k6 t Y y)) 16) (k6 t Y y) else k6 t Y y)=y' at cy⊢;have af:=qw3 ht G hU;obtain⟨g1,g2⟩:=GT (Au fx) (u9 fx).1 G r3;obtain⟨g3,g4⟩:=GT (AS fy) (u9 fy).2 G r4;have w1:=xh g2;have w2:=xh g4;have aa:(if hasB (dT t) 2 then wv am else 0)+(if hasB (dT t) 2 then 0 else wv am)=wv am:=(by split<;>omega);have ao:0<=(if hasB (dT t) 2 then 0 else wv am):=(by split<;>omega);have lx:=(h.lim _ _ U).oc cx ao (by rw[aa];omega) λe=>by have:wv d<=wv (eQ x).2:=r5 e;rw[aa];omega
 have ly:=(h.lim _ _ V).nV cy ao (by rw[aa];omega) λe=>by have:wv c<=wv (eQ y).1:=r6 e;rw[aa];omega
 have kG:=qwd (s:=s) (am:=am) ab;generalize hk:lY t am s=k at kG;have kI:kV k=gb t:=(by rw[<- hk];rfl);have kF:dT k.1=dT t:=(by rw[<- hk];rfl);have kA:fM k.1=am:=(by rw[<- hk];rfl);have kD:fI k.1=fI t:=(by rw[<- hk];rfl);have kC:fJ k.1=fJ t:=(by rw[<- hk];rfl);have kN:kR k.1=s:=(by rw[<- hk];rfl);rw[hk] at af;have new:∀z∈b.gL,kV z≠kV k:=λz E=>by rw[kI];exact Lv aj z E
 obtain⟨p1,p2,p3,p4,p5,p6,p7⟩:=qg1;obtain⟨q1,q2,q3,q4,q5,q6⟩:=qA5;have qs:=λi=>qA7 (b:=b.dS k) (t:=k.1) (i:=i);have qd:=qA6 (b:=b.dS k) (t:=k.1);have qh:=qDQ (qzW h.hb af) af.1;have ql:(iO (b.dS k) k.1).lP.length<=b.lP.length+1/\(iO (b.dS k) k.1).due.length<=b.due.length+1:=by have z1:((b.dS k).fG (gb k.1,1)).lP.length<=b.lP.length+1:=vI;refine⟨?_,?_⟩;unfold iO;split;split<;>exact z1;exact Nat.le_succ _;rw[qd,p4];split;rw[Et.length_eq,yI];exact Nat.succ_le_succ (length_filter_le _ _);exact Nat.le_succ _
 generalize iO (b.dS k) k.1=B at *;obtain⟨s1,s2,s3,s4,s5,s6,s7,s8⟩:=DJ;have aH:=JW (p:=(x',y',true,true)) qh cx.fit cy.fit hU;generalize fE B (x',y',true,true) s=R at *;have ea:R.acc=((b.fp x').fp y').acc:=(by rw[s1];show iT fP y' (iT fP x' B.acc)=_;rw[q1,p1];rfl);have et:R.gL=iT kV k b.gL:=(by rw[s2,q2,p2]);have es:∀i,iM R i=if hasB (dT t) 2=true/\gb t=i then 1 else iM b i:=λi=>by rw[Ez s3,qs,kF];show (if _/\kV k=i then _ else iM b i)=_;simp only[kI]
 have wo:∀z∈b.gL,ig R z=ig b z:=λz E=>by unfold ig;rw[es,iN λe=>new z E (by rw[kI];exact e.2.symm)]
 have wk:ig R k=hasB (dT t) 2:=(by unfold ig;rw[es,kF,kI];by_cases e:hasB (dT t) 2=true;rw[iP ⟨e,rfl⟩,e];rfl;rw[Bool.eq_false_iff.2 e];rfl);have pk:uD k = !hasB (dT t) 2:=(by unfold gr at ab;unfold uD;rw[kF,(Bool.or_eq_false_iff.1 ab).2];simp);have tw:∀(side:HL eu->e9) i,ky side R i=ky side b i+if side k.1=i then (if hasB (dT t) 2 then wv am else 0) else 0:=λside i=>by rw[qAY new et wo,nY,wk,kA];by_cases e:side k.1=i<;>by_cases O:hasB (dT t) 2=true<;>simp[e,O]
 have tp:∀(side:HL eu->e9) i,k8 side R i=k8 side b i+if side k.1=i then (if hasB (dT t) 2 then 0 else wv am) else 0:=λside i=>by rw[qsT new et,vL,pk,kA];by_cases e:side k.1=i<;>by_cases O:hasB (dT t) 2=true<;>simp[e,O]
 have td:=tw fI;have aq:=tp fI;have tc:=tw fJ;have ar:=tp fJ;rw[kD] at td aq;rw[kC] at tc ar;obtain⟨T1,T2,T3⟩:=h.x6 ac U V ea cx cy lx ly td aq tc ar;have I:∀z,z∈R.gL↔z=k\/z∈b.gL:=λz=>by rw[et];exact Jb new
 refine⟨⟨aH,λz E=>?_,λz E=>?_,λz E au=>?_,T1,T2,?_,λd=>?_,λz E=>?_⟩,?_,?_⟩;rcases (I z).1 E with rfl|E;unfold jz gr at ak⊢;rw[kF];exact ak;exact h.wG z E;rcases (I z).1 E with rfl|E;rw[kD,kC];obtain⟨x2,e1,O⟩:=T3 _ _ U;obtain⟨y2,e3,e4⟩:=T3 _ _ V;exact⟨ac,x2,y2,e1,e3,by rw[O,e4];exact a3⟩;obtain⟨z1,z2,z3,z4,z5,z6⟩:=h.A9 z E;obtain⟨x2,e1,O⟩:=T3 _ _ z4;obtain⟨y2,e3,e4⟩:=T3 _ _ z5;exact⟨z1,x2,y2,e1,e3,by rw[O,e4];exact z6⟩
 ·rw[es];split;exact⟨oO,oO⟩
  ·next e=>
   rcases (I z).1 E with rfl|E;exact absurd ⟨by rw[<- kF];exact au,kI.symm⟩ e;exact h.lP z E au
 ·rw[s4,qd,p4];split
  ·next z _ ez=>
   exact qsc (h.due.sublist filter_sublist) λw hw=>zC (mem_filter.1 hw).2
  exact h.due
 ·rw[s4,qd,p4];have aP:∀w∈b.due,w.2.1<s:=λw hw=>by
   obtain⟨k0,J,_,_,e0⟩:=(h.tk w).1 hw;have:=h.Cn k0 J;rw[e0];show kR k0.1<s;omega
  have aw:d∈b.due↔∃k0∈b.gL,ig R k0=true/\iD k0.1=some d.1/\d=qF k0 d.1:=(by rw[h.tk];constructor;rintro⟨k0,J,w0,g⟩;exact⟨k0,J,by rw[wo k0 J];exact w0,g⟩;rintro⟨k0,J,w0,g⟩;exact⟨k0,J,by rw[<- wo k0 J];exact w0,g⟩);have ax:(∃k0∈R.gL,ig R k0=true/\iD k0.1=some d.1/\d=qF k0 d.1)↔(hasB (dT t) 2=true/\iD k.1=some d.1/\d=qF k d.1)\/d∈b.due:=by rw[aw];constructor;rintro⟨k0,J,w0,g⟩;rcases (I k0).1 J with rfl|J;exact .inl ⟨by rw[<- wk];exact w0,g⟩;exact .inr ⟨k0,J,w0,g⟩;rintro (⟨e,g⟩|⟨k0,J,w0,g⟩);exact⟨k,(I k).2 (.inl rfl),by rw[wk];exact e,g⟩;exact⟨k0,(I k0).2 (.inr J),w0,g⟩
  rw[ax];split
  ·next z e1 O=>
   rw[kF] at e1;rw[quC,qpw (d:=(z,kR k.1,(gb k.1).1,(gb k.1).2)) λw hw e=>Int.ne_of_lt (aP w hw) ((Ma Prod.snd e).trans kN),e1];constructor;rintro (rfl|hd);exact .inl ⟨rfl,O,rfl⟩;exact .inr hd;rintro (⟨_,g1,g2⟩|hd);rw[O] at g1;cases g1;exact .inl g2;exact .inr hd
  ·next e=>
   constructor;exact .inr;rintro (⟨g1,g2,g3⟩|hd);exact absurd g2 (e d.1 (by rw[kF];exact g1));exact hd
 rcases (I z).1 E with rfl|E;rw[kN];omega;have:=h.Cn z E;omega;have la:=I4 ac U V (cx.id.trans (vp U).2) (cy.id.trans (vp V).2);have lt:R.gL.length<=b.gL.length+1:=(by rw[et];exact vI);rw[q5,p5] at s7;rw[q3] at s5;rw[q4] at s6;unfold Bk.cost;rw[ea,la,s3,s4,s5,s6];omega;exact⟨Km (P:=(x',y',true,true)) (by rw[cx.id,(vp U).2,U];rfl) (by rw[cy.id,(vp V).2,V];rfl) ea,⟨k,et,kI,kN,kG⟩,by rw[s8.1,q6.1];rfl,by rw[s8.2,q6.2];rfl⟩
def qvs{Q:e9}{K:e9×Bool->WP}(U:vE c0 k0)(V:vE c1 k1)(e0:At a k0 P)(e1:At a k1 Q)(E:ji am)(J:∀w',Fr [] w w'->K ((sH P Q am).getD (0,0),(sH P Q am).isSome) w'): cW 226 [.agg #[c0,c1,c2],LI eH a,df am.1 am.2] [.agg dg,.one .bool] w K:=by
 refine qfL ?_;have g:∀ {k x},At a k x->((HL.mk eH a).toArray.toList.drop (0+k)).take 2=gx x:=λ{k x} h=>by rw[xQ];exact h.1
 rw[<- qFG e0.2] at J;refine oD (oG [] w) λr1 w1 _ f1 o=>oD o λr3 w2 _ f2 o=>oD o λr5 w3 _ f3 o=>oD o λr7 w4 _ f4 o=>oD o λr9 w5 _ f5 o=>o.z' 0 rfl λw6 o _=>?_;have o:=o.drew;refine Mi o 4 c0 (oE o 0 rfl _ rfl (Mi o 4 c1 (oE o 0 rfl _ rfl (Mj o 2 am (U r3 0 _ _ λw7 f7=>?_)))));have o:=o.q9 f7;refine nh (o.cells 2) (o.cells 0) (o.cell 4) (fH (oE o 3 rfl P (g e0) (V r3 0 _ _ λw8 f8=>?_)));have o:=o.q9 f8;refine jU (o.cells 3 rfl (g e0)) (o.cells 2) (fH (oE o 3 rfl Q (g e1) (oD o λac w9 _ f9 o=>?_)));refine qEA (l:=[P,Q,am]) (o.at (i:=0) rfl) rfl oO (λx O=>by simp at O;rcases O with rfl|rfl|rfl<;>first|exact e0.2|exact e1.2|exact E) λad G=>?_;have o:=o.q9 G;exact o.z' 2 rfl λI o _=>oE o 2 rfl _ rfl (J I o.fr)
def GX{K:Me->WP}(h:dV eu t)(E:∀w',Fr [] w w'->K (if hasB (dT t) 2 then c0 else c1) w'): cW 177 [.agg #[c0,c1,c2],LI eu t] dx w K:=by
 refine qfq<|oD (oG [] w) λr1 w1 _ G o=>oD o λr3 w2 _ I o=>Mi o 0 (dT t) ?_;rw[show bits .and .u16 (dT t) 2=if hasB (dT t) 2 then 2 else 0 from qL 1 (vS h) oO]
 have:=E w2 o.fr;by_cases e:hasB (dT t) 2;rw[iP e] at this⊢;exact y_ (Mi o 1 c0 this);rw[iN e] at this⊢;exact x_ (Mi o 1 c1 this)
def qt4{J:Me}{k:Nat}{K:Bool->WP}(h:vE J k)(e:At a k P)(G:ji am)(kk:∀w',Fr [] w w'->K (!(jK P am).isSome) w'): cW 227 [J,LI eH a,df am.1 am.2] dk w K:=by
 refine qph ?_;have g:((HL.mk eH a).toArray.toList.drop (0+k)).take 2=gx P:=(by rw[xQ];exact e.1);refine oD (oG [] w) λr1 w1 _ f1 o=>oD o λr3 w2 _ f2 o=>?_;have o:=o.drew;refine⟨Mj o 0 am (h r1 0 _ _ λw3 E=>gY ((o.q9 E).cells 0) (fH (oE (o.q9 E) 1 rfl P g (Ad e.2 G λw4 I=>oD ((o.q9 E).q9 I) λO w5 _ V o=>jU (o.cells 2 rfl g) (o.cells 1) (o.z' 0 rfl λU o _=>kk U o.fr))))),
  Mj o 0 am (h r1 0 _ _ λw3 E=>gY ((o.q9 E).cells 0) (fH (oE (o.q9 E) 1 rfl P g (oD (o.q9 E) λO w4 _ I o=>jU (o.cells 2 rfl g) (o.cells 1) (Ad e.2 G λw5 V=>(o.q9 V).z' 0 rfl λU o _=>kk U o.fr))))),
  Mj o 0 am (oD o λO w3 _ E o=>gY (o.cells 1) (h r1 0 _ _ λw4 I=>gY ((o.q9 I).cells 1) (fH (oE (o.q9 I) 2 rfl P g (Ad e.2 G λw5 V=>((o.q9 I).q9 V).z' 0 rfl λU o _=>kk U o.fr)))))⟩
def qtK(ht:dV eu t)(G:dV eH p.1)(E:dV eH p.2.1)(kk:∀w',Fr [] w w'->K (lw t p) w'):cW 171 [LI eu t,.agg (kJ p).toArray] [.agg dg] w K:=by
 refine qob ?_;have hF:=vS ht;have e1:bits .and .u16 (dT t) 16=if hasB (dT t) 16 then 16 else 0:=qL 4 hF oO
 have e2:bits .and .u16 (dT t) 32=if hasB (dT t) 32 then 32 else 0:=qL 5 hF oO
 have J:∀x y,ji x->[x,y].foldl jr li=jr x y:=λx y I=>by rw[foldl_cons,qAe I];rfl
 have g1:=Gy (E9 G).2 (BU G).2 (Cq G).2;have g2:=Gy (Fl E).2 (Cq E).2 (BU E).2;have tA:=u5 ht;refine oD (oG [] w) λr1 w1 _ f1 o=>oD o λr3 w2 _ f2 o=>oD o λr5 w3 _ f3 o=>Mj o 2 (fM t) (oD o λr8 w4 _ f4 o=>o.z' 0 rfl λw5 o _=>?_);refine jd (λ_ w'=>∃x,x=(if hasB (dT t) 16 then jr (fM t) (qp (i6 p.1) (eQ p.1).1 (eQ p.1).2) else fM t)/\ji x/\dY [] w w' [(r8,.c #[.w x.1,.w x.2] nf),(r5,.c cq nf),(r3,.c (kJ p).toArray qP),(r1,LH eu t 43)]) ?_ ?_
 ·refine Mi o 3 (dT t) ?_;rw[e1];by_cases h:hasB (dT t) 16
  ·rw[iP h];have o:=o.drew;refine y_ (Mj o 0 (fM t) (Mj o 2 p.1 (Eu λw6 f6=>?_)));have o:=o.q9 f6;refine jU (o.cells 2) (o.cells 0) (qw2 EU Dt C6 (E9 G) (BU G) (Cq G) λw7 O=>?_);have o:=o.q9 O;refine gY (o.cells 0) (oD o λaq U _ f8 o=>qtT (l:=[fM t,qp (i6 p.1) (eQ p.1).1 (eQ p.1).2]) (o.at (i:=0) rfl) rfl oO (λx I=>by simp at I;rcases I with rfl|rfl<;>first|exact tA|exact g1) λw9 f9=>?_);rw[J _ _ tA];have o:=o.q9 f9;refine o.z' 1 rfl λV o _=>⟨_,(iP h).symm,?_,o.sub (.cons _ (.refl _))⟩;unfold jr;split<;>assumption
  rw[iN h];exact x_ ⟨_,(iN h).symm,tA,o⟩
 rintro _ w6 ⟨x,I,wx,o⟩;refine jd (λ_ w'=>∃y,y=lw t p/\dY [] w w' [(r8,.c #[.w y.1,.w y.2] nf),(r5,.c cq nf),(r3,.c (kJ p).toArray qP),(r1,LH eu t 43)]) ?_ ?_
 ·refine Mi o 3 (dT t) ?_;rw[e2];unfold lw;rw[<- I];by_cases h:hasB (dT t) 32
  ·rw[iP h,iP h];have o:=o.drew;refine y_ (Mj o 0 x (Mj o 2 p.2.1 (E8 λw7 O=>?_)));have o:=o.q9 O;refine jU (o.cells 2) (o.cells 0) (qw2 E7 C6 Dt (Fl E) (Cq E) (BU E) λU f8=>?_);have o:=o.q9 f8;refine gY (o.cells 0) (oD o λau w9 _ f9 o=>qtT (l:=[x,qp (ja p.2.1) (eQ p.2.1).2 (eQ p.2.1).1]) (o.at (i:=0) rfl) rfl oO (λz hz=>by simp at hz;rcases hz with rfl|rfl<;>first|exact wx|exact g2) λV aa=>?_);rw[J _ _ wx];have o:=o.q9 aa;exact o.z' 1 rfl λav o _=>⟨_,rfl,o.sub (.cons _ (.refl _))⟩
  rw[iN h,iN h];exact x_ ⟨_,rfl,o⟩
 rintro _ w7 ⟨y,rfl,o⟩;exact Mj o 0 (lw t p) (o.z' 1 rfl λU o _=>Mj o 1 (lw t p) (kk U o.fr))
def qDE(h:dV eH a):∃k,vE (if hasB (dT t) 2 then DL else Ay) k/\At a k (rW t a):=by unfold rW;by_cases e:hasB (dT t) 2;rw[iP e,iP e];exact⟨2,EU,E9 h⟩;rw[iN e,iN e];exact⟨4,Dt,BU h⟩
def qDB(h:dV eH a):∃k,vE (if hasB (dT t) 2 then DN else Ao) k/\At a k (sI t a):=by unfold sI;by_cases e:hasB (dT t) 2;rw[iP e,iP e];exact⟨6,E7,Fl h⟩;rw[iN e,iN e];exact⟨8,C6,Cq h⟩
def KG{x y:Int}:decide (pD x y>0)=decide (x>y):=by unfold pD;rw[LM];(repeat' split);all_goals omega
variable {K:Int->WP} {there:Bool}
def qDq(ht:dV eu t)(U:dV eH p.1)(G:dV eH p.2.1)(I:ji am)(E:∀w',Fr [] w w'->K (ry t am p) w'): cW 172 [LI eu t,df am.1 am.2,.agg (kJ p).toArray] dm w K:=by
 refine qpd ?_;have e0:bits .and .u16 (dT t) 2=if hasB (dT t) 2 then 2 else 0:=qL 1 (vS ht) oO
 have e1:bits .and .u16 (eJ p.1) 2=if hasB (eJ p.1) 2 then 2 else 0:=qL 1 (sC U) oO
 have e2:bits .and .u16 (eJ p.2.1) 4=if hasB (eJ p.2.1) 4 then 4 else 0:=qL 2 (sC G) oO
 obtain⟨kd,JI,af⟩:=qDE U;obtain⟨kc,IK,ag⟩:=qDB G;refine oD (oG [] w) λr1 w1 _ f1 o=>oD o λr3 w2 _ f2 o=>oD o λr5 w3 _ f3 o=>Eu λw4 f4=>E8 λw5 f5=>oD ((o.q9 f4).q9 f5) λax w6 _ f6 o=>oD o λay w7 _ f7 o=>o.z' 1 rfl λw8 o _=>o.z' 0 rfl λw9 o _=>qW (if hasB (dT t) 2 then ((35:Int),(36:Int)) else (37,38)) w9 (λM hM=>Mi o 4 (dT t) ?_) ?_;rw[e0];by_cases h:hasB (dT t) 2;rw[iP h] at hM⊢;exact y_ hM;rw[iN h] at hM⊢;exact x_ hM;refine Mj o 1 (DL,Ay,Ao) (Mj o 2 p.1 (Mj o 3 am (qvs EU Dt (E9 U) (BU U) I λaA ah=>?_)));refine oD (o.q9 ah) λaB aC _ aD o=>o.z' 0 rfl λaE o _=>Mj o 1 (DN,Ao,Ay) (Mj o 3 p.2.1 (Mj o 4 am (qvs E7 C6 (Fl G) (Cq G) I λaF ai=>?_)));refine oD (o.q9 ai) λaG aH _ aI o=>o.z' 0 rfl λaJ o _=>?_;have o:=o.drew;refine Mj o 3 (DL,Ay,Ao) (Mj o 6 t (Mj o 4 p.1 (Mj o 5 am (GX ht λaK aj=>?_))));have o:=o.q9 aj;refine jU (o.cells 5) (o.cells 4) (qt4 JI af I λak al=>?_);have o:=o.q9 al;unfold ry at E;cases hX:jK (rW t p.1) am with
 | none=>
  rw[hX,iP rfl] at E;refine y_ ?_;have:=E ak o.fr;by_cases h:hasB (dT t) 2;rw[iP h] at this⊢;exact this;rw[iN h] at this⊢;exact this
 | some X=>
  rw[hX,iN λh=>nomatch h] at E;refine x_ ?_;have o:=o.drew;refine Mj o 2 (DN,Ao,Ay) (Mj o 6 t (Mj o 4 p.2.1 (Mj o 5 am (GX ht λaL an=>?_))));have o:=o.q9 an;refine jU (o.cells 5) (o.cells 4) (qt4 IK ag I λJ ao=>?_);have o:=o.q9 ao;cases hY:jK (sI t p.2.1) am with
  | none=>
   rw[hY,iP rfl] at E;refine y_ ?_;have:=E J o.fr;by_cases h:hasB (dT t) 2;rw[iP h] at this⊢;exact this;rw[iN h] at this⊢;exact this
  | some Y=>
   rw[hY,iN λh=>nomatch h] at E;refine x_ ?_;cases hd:sH (i6 p.1) (eQ p.1).1 am with
   | none=>rw[hd] at E;exact y_ (E J o.fr)
   | some d=>
    refine x_ ?_;cases hc:sH (ja p.2.1) (eQ p.2.1).2 am with
    | none=>rw[hd,hc] at E;exact y_ (E J o.fr)
    | some c=>
     rw[hd,hc] at E o;have wd:=(GT (Au U) (u9 U).1 I hd).2;have wc:=(GT (AS G) (u9 G).2 I hc).2;refine x_ ?_;dsimp only at E;refine jd (λv w'=>v=decide (hasB (eJ p.1) 2=true/\wv d>wv (eQ p.1).2)/\Fr [] J w') ?_ ?_;refine Mi o 4 (eJ p.1) ?_;rw[e1];by_cases h:hasB (eJ p.1) 2=true;rw[iP h];refine y_ (Mj o 1 d (oE o 4 rfl (eQ p.1).2 rfl (HD wd (u9 U).2 λV aa=>⟨?_,aa⟩)));rw[KG,LM];exact⟨λg=>⟨h,g⟩,λg=>g.2⟩;rw[iN h];exact x_ ⟨(zU λg=>h g.1).symm,.refl _ _⟩;rintro v V ⟨rfl,aa⟩;have o:=o.q9 aa;refine eF (λg=>?_) λg=>?_;rw[iP (zC g)] at E;exact E V o.fr;rw[iN (zB g)] at E;refine jd (λv w'=>v=decide (hasB (eJ p.2.1) 4=true/\wv c>wv (eQ p.2.1).1)/\Fr [] V w') ?_ ?_;refine Mi o 4 (eJ p.2.1) ?_;rw[e2];by_cases h:hasB (eJ p.2.1) 4=true;rw[iP h];refine y_ (Mj o 0 c (oE o 4 rfl (eQ p.2.1).1 rfl (HD wc (u9 G).1 λab O=>⟨?_,O⟩)));rw[KG,LM];exact⟨λg=>⟨h,g⟩,λg=>g.2⟩;rw[iN h];exact x_ ⟨(zU λg=>h g.1).symm,.refl _ _⟩;rintro v ab ⟨rfl,O⟩;refine eF (λg=>?_) λg=>?_;rw[iP (zC g)] at E;exact E ab (o.q9 O).fr;rw[iN (zB g)] at E;exact E ab (o.q9 O).fr
def qAt{st:Int}(h:nK t s q there st p=(0,am)):gO t=0/\iQ t q there=0/\lN q st s=0/\am=(if hasB (dT t) 4=true/\fM t≠li then fM t else fM q):=by
 have key:∀v:Int,(if v≠0 then (v,((0,0):e9)) else if hasB _ 4=true/\fM t≠li then (0,fM t) else (0,fM q))=(0,am)->v=0/\am=(if hasB (dT t) 4=true/\fM t≠li then fM t else fM q):=λv h=>by
  by_cases e:v=0
  ·rw[iN λg=>g e] at h;refine⟨e,?_⟩;split at h
   ·next g=>rw[iP g];exact (Ma Prod.snd h).symm
   ·next g=>rw[iN g];exact (Ma Prod.snd h).symm
  rw[iP e] at h;exact absurd (Ma Prod.fst h) e
 obtain⟨e,E⟩:=key _ h;by_cases e1:gO t=0;rw[iN λg=>g e1] at e;by_cases e2:iQ t q there=0;rw[iN λg=>g e2] at e;by_cases e3:lN q st s=0;exact⟨e1,e2,e3,E⟩;rw[iP e3] at e;exact absurd e e3;rw[iP e2] at e;exact absurd e e2;rw[iP e1] at e;exact absurd e e1
def qBa(h:iQ t q there=0):there=true/\hasB (dT q) 2=true/\(hasB (dT t) 4=true->fM t≠li->wv (fM t)<=wv (fM q)):=by
 unfold iQ at h;split at h;omega
 ·next e1=>
  split at h;omega
  ·next e2=>
   refine⟨by simpa using e1,by simpa using e2,λE G=>?_⟩;split at h;omega
   ·split at h;omega
    ·split at h;omega
     ·split at h;omega
      ·split at h;omega
       ·next e=>exact Int.not_lt.1 λg=>e ⟨E,G,g⟩
def qBg{st:Int}(h:lN q st s=0):st≠2/\st≠3/\st≠4:=by unfold lN at h;refine⟨λe=>?_,λe=>?_,λe=>?_⟩<;>· subst e;simp at h
def qzO(h:jz t=0)(E:gr t=true):hasB (dT t) 2=false/\hasB (dT t) 8 = !hasB (dT t) 4:=by
 unfold jz at h;split at h;omega
 ·next e=>
  unfold gr at E e;generalize hasB _ 4=G at *;generalize hasB _ 8=I at *;generalize hasB _ 2=J at *
  cases G<;>cases I<;>cases J<;>simp_all
def qyE{z:Bool×Bool}(hq:dV eu q)(hx:dV eH x)(hy:dV eH y)(h1:wv (fM q)<=wv (i6 x))(h2:wv (fM q)<=wv (ja y))(I:nS x)(J:nS y)(G:ji am)(ap:wv am<=wv (fM q))(E:Bool): ∃r,lz q am E (x,y,z)=some r/\tP x r.1 (-wv (fM q)) (if E then wv am else 0) 0 0/\tP y r.2.1 0 0 (-wv (fM q)) (if E then wv am else 0)/\nS r.1/\nS r.2.1:=by
 have aq:=xh G;have e1:oo _ _=some _:=iP h1;have O:oo _ _=some _:=iP h2;have U:=EN (Au hx) (u5 hq) e1;have V:=EN (AS hy) (u5 hq) O;generalize za _=X at e1 U;generalize za _=Y at O V;have key:∃r,lz q am E (x,y,z)=some r/\tP x r.1 (-wv (fM q)) (if E then wv am else 0) 0 0/\tP y r.2.1 0 0 (-wv (fM q)) (if E then wv am else 0):=by
  have bx:tP x _ _ 0 0 0:=⟨JL U.2 hx,rfl,rfl,⟨rfl,rfl⟩,U.1,(Int.add_zero _).symm,(Int.add_zero _).symm,(Int.add_zero _).symm⟩;have bY:tP y _ 0 0 _ 0:=⟨JO V.2 hy,rfl,rfl,⟨rfl,rfl⟩,(Int.add_zero _).symm,(Int.add_zero _).symm,V.1,(Int.add_zero _).symm⟩;cases E with
  | true=>
   have l1:=I.1;have l2:=J.2.1;have e3:jK (eQ x).1 am=some _:=iP oL;have e4:jK (eQ y).2 am=some _:=iP oL;have g3:=zn (u9 hx).1 G e3;have g4:=zn (u9 hy).2 G e4;refine⟨_,(by unfold lz;rw[iP rfl,e1,Option.bind_some,O,Option.bind_some,e3,Option.bind_some,e4,Option.map_some]),?_,?_⟩;exact⟨qsJ g3.2 bx.fit,rfl,rfl,⟨rfl,rfl⟩,U.1,g3.1,(Int.add_zero _).symm,(Int.add_zero _).symm⟩;exact⟨qsI g4.2 bY.fit,rfl,rfl,⟨rfl,rfl⟩,(Int.add_zero _).symm,(Int.add_zero _).symm,V.1,g4.1⟩
  | false=>
   refine⟨_,(by unfold lz lR;rw[iN (λh=>nomatch h),e1,Option.bind_some,O,Option.map_some]),?_,?_⟩;split;exact bx.fl (Fz (sC bx.fit)) qux;exact bx;dsimp only;split;exact bY.fl (Fz (sC bY.fit)) qux;exact bY
 obtain⟨r,e,cx,cy⟩:=key;have hv:0<=(if E then wv am else 0)/\-wv (fM q)+(if E then wv am else 0)<=0:=(by split<;>omega);exact⟨r,e,cx,cy,I.oc cx hv.1 (by have:=I.1;omega) λe=>by have:=I.2.2.1 e;omega,J.nV cy hv.1 (by have:=J.2.1;omega) λe=>by have:=J.2.2.2 e;omega⟩
def lh.gone{q:Kp}(h:lh n b)(J:q∈b.gL)(hw:ig b q=true)(O:ji am)(U:wv am<=wv (fM q.1))(E:Bool): ∃x y r,dZ b (fI q.1)=some x/\dZ b (fJ q.1)=some y/\jM x=jM y/\fI q.1≠fJ q.1/\lz q.1 am E (mo b (fI q.1) (fJ q.1))=some r/\tP x r.1 (-wv (fM q.1)) (if E then wv am else 0) 0 0/\tP y r.2.1 0 0 (-wv (fM q.1)) (if E then wv am else 0)/\nS r.1/\nS r.2.1:=by obtain⟨V,x,y,G,I,hl⟩:=h.A9 q J;have g:=h.le J hw G I;have ep:mo b (fI q.1) (fJ q.1)=(x,y,true,true):=(by unfold mo;rw[G,I];rfl);rw[ep];obtain⟨r,k⟩:=qyE (h.qD J).1 (h.m7 G) (h.m7 I) g.1 g.2 (h.lim _ _ G) (h.lim _ _ I) O U E;exact⟨x,y,r,G,I,hl,V,k⟩
def qCn(V:dV eu t)(hq:dV eu q)(U:ji am)(hU:lH s):sV (kL t q am s):=by obtain⟨f1,f2,f3,f4,f5,f6,f7,f8,f9,h,E,G,ah,ai,I,aj⟩:=V;obtain⟨g1,g2,g3,g4,g5,g6,g7,g8,g9,ap,aq,ar,J,O,au,av⟩:=hq;exact⟨⟨f1,f2,g3,g4,g5,g6,pH U.1,pH U.2,f9,h,E,G,J,O,I,pH hU⟩,f7,f8⟩
def qrW:(jv b q).acc=b.acc/\(jv b q).gL=b.gL/\(jv b q).lP=b.lP/\(jv b q).oc=b.oc/\(jv b q).nV=b.nV/\(jv b q).oU=b.oU/\(jv b q).last=b.last/\(jv b q).cm=b.cm:=by unfold jv;split<;>exact⟨rfl,rfl,rfl,rfl,rfl,rfl,rfl,rfl⟩
def qzA:(jv b q).due=b.due/\iD q=none\/∃x,iD q=some x/\pR (x,kR q,0,0)=(x,kR q)/\(jv b q).due=lX (x,kR q,0,0) b.due:=by
 unfold jv;split
 ·next z e=>exact .inr ⟨z,e,rfl,rfl⟩
 ·next e=>exact .inl ⟨rfl,e⟩
def qDP(h:∃T,Hb T b)(E:dV eu q):∃T,Hb T (jv b q):=by
 obtain⟨T,h⟩:=h;unfold jv;split
 ·next z e=>exact⟨_,h.iI ⟨pH (qua E e),E.2.2.2.2.2.2.2.2.2.2.2.2.2.2.2,mv,mv⟩⟩
 exact⟨_,h⟩
variable {q:Kp} {o:HL eH} {R:Nat->Bk->Prop}
def lh.settle(h:lh n b)(ht:dV eu t)(ah:eM b (gb t)=none)(aa:jz t=0)(ai:gr t=true)(hs:n<=s)(hU:lH s)(hc:nK t s ((eM b (iB t)).getD nE).1 (eM b (iB t)).isSome (iM b (iB t)) (mo b (fI ((eM b (iB t)).getD nE).1) (fJ ((eM b (iB t)).getD nE).1))=(0,am)): ∃q r,eM b (iB t)=some q/\lz q.1 am (hasB (dT t) 4) (mo b (fI q.1) (fJ q.1))=some r/\dV eH r.1/\dV eH r.2.1/\ji am/\sV (kL t q.1 am s)/\(∀x,iD q.1=some x->qF q x∈b.due)/\ lh (s+1) (fE (jv ((b.dS (kL t q.1 am s)).fG (iB t,if hasB (dT t) 4 then 2 else 3)) q.1) r s)/\(fE (jv ((b.dS (kL t q.1 am s)).fG (iB t,if hasB (dT t) 4 then 2 else 3)) q.1) r s).cost<=b.cost+13/\tI b (fE (jv ((b.dS (kL t q.1 am s)).fG (iB t,if hasB (dT t) 4 then 2 else 3)) q.1) r s) (gb t) s t:=by
 obtain⟨c1,c2,c3,c4⟩:=qAt hc;obtain⟨a1,a2,a3⟩:=qBa c2;obtain⟨q,hq⟩:=Option.isSome_iff_exists.1 a1;rw[hq] at c2 c3 c4 a2 a3;simp only[xT] at c2 c3 c4 a2 a3;obtain⟨mq,iq⟩:=Gq hq;have fq:=h.qD mq;have sq:=h.lP q mq a2;have oq:=qBg c3;rw[iq] at sq;have wq:ig b q=true:=(by unfold ig;rw[a2,iq];simp;omega);have J:ji am/\wv am<=wv (fM q.1):=by
  rw[c4];split
  ·next g=>exact⟨u5 ht,a3 g.1 g.2⟩
  exact⟨u5 fq.1,Int.le_refl _⟩
 obtain⟨f2,f8⟩:=qzO aa ai;obtain⟨x,y,r,hx,hy,hl,E,er,cx,cy,lx,ly⟩:=h.gone mq wq J.1 J.2 _;have al:=qCn ht fq.1 J.1 hU;refine⟨q,r,hq,er,cx.fit,cy.fit,J.1,al,λz G=>(h.tk _).2 ⟨q,mq,wq,G,rfl⟩,?_⟩;have kG:=qvj (s:=s) (am:=am) ai c2;generalize hk:kL t q.1 am s=k at *;have kI:kV k=gb t:=(by rw[<- hk];rfl);have kF:dT k.1=dT t:=(by rw[<- hk];rfl);have kA:fM k.1=am:=(by rw[<- hk];rfl);have kD:fI k.1=fI q.1:=(by rw[<- hk];rfl);have kC:fJ k.1=fJ q.1:=(by rw[<- hk];rfl);have kN:kR k.1=s:=(by rw[<- hk];rfl);have new:∀z∈b.gL,kV z≠kV k:=λz G=>by rw[kI];exact Lv ah z G
 obtain⟨p1,p2,p3,p4,p5,p6,p7⟩:=qg1;generalize hS:(if hasB _ 4 then (2:Int) else 3)=S;have aG:∃T,Hb T ((b.dS k).fG (iB t,S)):=by obtain⟨T,g⟩:=qzW h.hb al;have w1:lU (iB t):=⟨ht.2.2.2.2.2.2.2.2.1,ht.2.2.2.2.2.2.2.2.2.1⟩;exact⟨_,g.fG ⟨w1,(show (0:Int)<=S/\S<=255 from⟨oL,oL⟩)⟩⟩
 obtain⟨q1,q2,q3,q4,q5,q6,q7⟩:=qrW (b:=(b.dS k).fG _) (q:=q.1);have qd:=qzA (b:=(b.dS k).fG (iB t,S)) (q:=q.1);have qh:=qDP aG fq.1;have ql:(((b.dS k).fG (iB t,S)).lP).length<=b.lP.length+1:=vI;have qs:∀i,iM ((b.dS k).fG (iB t,S)) i=if iB t=i then S else iM b i:=λi=>Jr
 generalize aI:(b.dS k).fG _=O at *;have z1:O.acc=b.acc/\O.gL=iT kV k b.gL/\O.due=b.due/\O.oU=b.oU/\O.oc.length<=b.oc.length+1/\O.nV.length<=b.nV.length+1/\O.last=b.last/\O.cm=b.cm:=(by rw[<- aI];exact⟨rfl,rfl,rfl,rfl,p6,p7,rfl,rfl⟩);obtain⟨z1,z2,z3,z4,z5,z6,z7⟩:=z1;generalize jv O q.1=B at *;obtain⟨s1,s2,s3,s4,s5,s6,s7,s8⟩:=DJ;have aL:=JW qh cx.fit cy.fit hU;generalize fE B r s=R at *;have ea:R.acc=((b.fp r.1).fp r.2.1).acc:=(by rw[s1];show iT fP r.2.1 (iT fP r.1 B.acc)=_;rw[q1,z1];rfl);have et:R.gL=iT kV k b.gL:=(by rw[s2,q2,z2]);have es:∀i,iM R i=if iB t=i then S else iM b i:=λi=>by rw[Ez s3,Ez q3,qs]
 have I:∀z,z∈R.gL↔z=k\/z∈b.gL:=λz=>by rw[et];exact Jb new
 have wo:∀z∈b.gL,kV z≠kV q->ig R z=ig b z:=λz G E=>by unfold ig;rw[es,iN λe=>E (by rw[iq];exact e.symm)]
 have ap:ig R q=false:=(by unfold ig;rw[es,iP iq.symm];simp;omega);have wk:ig R k=false:=(by unfold ig;rw[kF,f2];rfl);have pk:uD k=hasB (dT t) 4:=(by unfold uD;rw[kF,f2,f8];simp);have tw:∀(side:HL eu->e9) i,ky side R i=ky side b i+if side q.1=i then -wv _ else 0:=λside i=>by have e:nY side R i k=0:=(by unfold nY;rw[wk];exact iN λe=>nomatch e.2);unfold ky;rw[et,Gs new,e,Int.add_zero];exact qqu h mq wo wq ap
 have tp:∀(side:HL eu->e9) i,k8 side R i=k8 side b i+if side k.1=i then (if hasB (dT t) 4 then wv am else 0) else 0:=λside i=>by rw[qsT new et,vL,pk,kA];by_cases e:side k.1=i<;>by_cases e2:hasB (dT t) 4=true<;>simp[e2]
 have aq:=tp fI;have ar:=tp fJ;rw[kD] at aq;rw[kC] at ar;obtain⟨T1,T2,T3⟩:=h.x6 E hx hy ea cx cy lx ly (tw fI) aq (tw fJ) ar;have U:∀a c:e9,∀x2 y2,dZ b a=some x2->dZ b c=some y2->jM x2=jM y2->∃x y,dZ R a=some x/\dZ R c=some y/\jM x=jM y:=λa c x2 y2 g1 g2 g3=>by obtain⟨x3,e1,e2⟩:=T3 _ _ g1;obtain⟨y3,e3,e4⟩:=T3 _ _ g2;exact⟨x3,y3,e1,e3,by rw[e2,e4];exact g3⟩
 refine⟨⟨aL,λz G=>?_,λz G=>?_,λz G ac=>?_,T1,T2,?_,h.wm mq wq (λk0=>?_) (e:=((iD q.1).getD 0,kR q.1,0,0)) ?_,λz G=>?_⟩,?_,?_⟩;rcases (I z).1 G with rfl|G;unfold jz gr at aa⊢;rw[kF];exact aa;exact h.wG z G;rcases (I z).1 G with rfl|G;rw[kD,kC];exact⟨E,U _ _ _ _ hx hy hl⟩;obtain⟨z1,z2,z3,z4,z5,z6⟩:=h.A9 z G;exact⟨z1,U _ _ _ _ z4 z5 z6⟩;rw[es];split;omega;rcases (I z).1 G with rfl|G;rw[kF,f2] at ac;cases ac;exact h.lP z G ac;rw[s4];rcases qd with ⟨e,_⟩|⟨z,_,_,e⟩;rw[e,z3];exact h.due;rw[e,z3];exact h.due.sublist filter_sublist;constructor;rintro⟨V,w0⟩;rcases (I k0).1 V with rfl|V;rw[wk] at w0;cases w0;have E:kV k0≠kV q:=λe=>by
  have:=Hc h.Gx V mq e;subst this;rw[ap] at w0;cases w0
 exact⟨V,E,by rw[<- wo k0 V E];exact w0⟩;rintro⟨V,E,w0⟩;exact⟨(I k0).2 (.inr V),by rw[wo k0 V E];exact w0⟩;rw[s4,<- z3];rcases qd with e|⟨z,g1,g2,e⟩;exact .inl e;refine .inr ⟨z,g1,?_,?_⟩;rw[g1];rfl;rw[g1];exact e;rcases (I z).1 G with rfl|G;rw[kN];omega;have:=h.Cn z G;omega;have la:=I4 E hx hy (cx.id.trans (vp hx).2) (cy.id.trans (vp hy).2);have lt:R.gL.length<=b.gL.length+1:=(by rw[et];exact vI);have ld:R.due.length<=b.due.length:=by rw[s4];rcases qd with ⟨e,_⟩|⟨z,_,_,e⟩;rw[e,z3];exact zM _;rw[e,z3];exact length_filter_le _ _
 rw[q6,z4] at s7;rw[q4] at s5;rw[q5] at s6;unfold Bk.cost;rw[ea,la,s3,q3,s5,s6];omega;exact⟨Km (by rw[cx.id,(vp hx).2,hx];rfl) (by rw[cy.id,(vp hy).2,hy];rfl) ea,⟨k,et,kI,kN,kG⟩,by rw[s8.1,q7.1,z7.1],by rw[s8.2,q7.2,z7.2]⟩
def lh.one(h:lh n b)(hd:d∈b.due)(hU:lH s):(∃k r,eM b (xv d)=some k/\lR k.1 (mo b (fI k.1) (fJ k.1))=some r)/\lh n (pX b d s)/\(pX b d s).cost<=b.cost/\∀j,(dZ (pX b d s) j).isSome=(dZ b j).isSome:=by
 obtain⟨q,U,V,dq,eq⟩:=(h.tk d).1 hd;have aa:=h.Gx;have iq:xv d=kV q:=(by rw[eq];rfl);have hq:eM b (xv d)=some q:=by
  cases I:eM b (xv d) with
  | none=>exact absurd iq.symm (Lv I q U)
  | some k0=>
   obtain⟨J,i0⟩:=Gq I;rw[Hc aa J U (i0.trans iq)]
 have fq:=h.qD U;have wA:=xh (u5 fq.1);have ai:ji (0,0):=⟨⟨oO,oO⟩,⟨oO,oO⟩⟩;obtain⟨x,y,r,I,hy,hl,E,er,cx,cy,lx,ly⟩:=h.gone U V ai wA.1 false;have er:lR q.1 (mo b (fI q.1) (fJ q.1))=some r:=er;refine⟨⟨q,r,hq,er⟩,?_⟩;have eo:pX b d s=((fE b r s).fG (kV q,4)).iI d:=(by unfold pX;rw[hq];simp only[xT];rw[er];rfl);obtain⟨s1,s2,s3,s4,s5,s6,s7,s8⟩:=DJ (b:=b);have aj:=JW h.hb cx.fit cy.fit hU;rw[eo];have ak:∃T,Hb T (((fE b r s).fG (kV q,4)).iI d):=by obtain⟨T,g⟩:=aj;have hf:dV kK d:=(by obtain⟨T,g⟩:=h.hb;exact g.due.2 d hd);exact⟨_,(g.fG (a:=(kV q,4)) ⟨⟨fq.1.1,fq.1.2.1⟩,(show (0:Int)<=4/\(4:Int)<=255 from⟨oO,oO⟩)⟩).iI hf⟩
 have es:∀i,iM (((fE b r s).fG (kV q,4)).iI d) i=if kV q=i then 4 else iM b i:=λi=>by rw[<- Ez s3];exact Jr
 have ls:(((fE b r s).fG (kV q,4)).iI d).lP.length=b.lP.length:=(by show (iT _ _ (fE b r s).lP).length=_;rw[s3];refine HN λe=>?_;unfold ig iM at V;rw[show (b.lP.find? λx=>decide (x.1=kV q))=none from e] at V;simp at V);have e1:(((fE b r s).fG (kV q,4)).iI d).acc=((b.fp r.1).fp r.2.1).acc:=s1;have O:(((fE b r s).fG (kV q,4)).iI d).gL=b.gL:=s2;have e3:(((fE b r s).fG (kV q,4)).iI d).due=lX d b.due:=Ma (lX d) s4;have e4:(((fE b r s).fG (kV q,4)).iI d).oc=b.oc/\(((fE b r s).fG (kV q,4)).iI d).nV=b.nV/\(((fE b r s).fG (kV q,4)).iI d).oU.length<=b.oU.length+2:=⟨s5,s6,s7⟩;generalize ((fE b r s).fG (kV q,4)).iI d=R at *;have wo:∀z∈b.gL,kV z≠kV q->ig R z=ig b z:=λz G E=>by unfold ig;rw[es,iN λe=>E e.symm]
 have ac:ig R q=false:=(by unfold ig;rw[es,iP rfl];simp);have tw:∀(side:HL eu->e9) i,ky side R i=ky side b i+if side q.1=i then -wv (fM q.1) else 0:=λside i=>by rw[<- qqu h U wo V ac,ky,O]
 have tp:∀(side:HL eu->e9) i j,k8 side R i=k8 side b i+if j=i then (0:Int) else 0:=λside i j=>by rw[ite_self,Int.add_zero];unfold k8;rw[O]
 obtain⟨T1,T2,T3⟩:=h.x6 E I hy e1 cx cy lx ly (tw fI) (λi=>tp fI i _) (tw fJ) λi=>tp fJ i _;refine⟨⟨ak,λz G=>?_,λz G=>?_,λz G ap=>?_,T1,T2,?_,h.wm U V (λk0=>?_) (.inr ⟨d.1,dq,by rw[eq];rfl,e3⟩),λz G=>?_⟩,?_,Km (by rw[cx.id,(vp I).2,I];rfl) (by rw[cy.id,(vp hy).2,hy];rfl) e1⟩;rw[O] at G;exact h.wG z G;rw[O] at G;obtain⟨z1,z2,z3,z4,z5,z6⟩:=h.A9 z G;obtain⟨x3,g1,g2⟩:=T3 _ _ z4;obtain⟨y3,g3,g4⟩:=T3 _ _ z5;exact⟨z1,x3,y3,g1,g3,by rw[g2,g4];exact z6⟩;rw[O] at G;rw[es];split;exact⟨oO,oO⟩;exact h.lP z G ap;rw[e3];exact h.due.sublist filter_sublist;rw[O];constructor;rintro⟨J,w0⟩;have E:kV k0≠kV q:=λe=>by
  have:=Hc aa J U e;subst this;rw[ac] at w0;cases w0
 exact⟨J,E,by rw[<- wo k0 J E];exact w0⟩;rintro⟨J,E,w0⟩;exact⟨J,by rw[wo k0 J E];exact w0⟩;rw[O] at G;exact h.Cn z G;have la:=I4 E I hy (cx.id.trans (vp I).2) (cy.id.trans (vp hy).2);have ld:(lX d b.due).length<b.due.length:=by unfold lX;rw[length_filter_lt_length_iff_exists];exact⟨d,hd,oN⟩
 unfold Bk.cost;rw[e1,la,O,e3,ls,e4.1,e4.2.1];omega
def qCz(h:jN a o false=0):i6 a=(0,0)/\(eQ a).1=(0,0)/\ja a=(0,0)/\(eQ a).2=(0,0):=by
 unfold jN at h;split at h;omega
 ·split at h;omega
  ·split at h;omega
   ·split at h;omega
    ·rw[iN λh=>nomatch h] at h;split at h;omega
     ·split at h;omega
      ·next e=>exact Decidable.not_not.1 e
def lh.acc(h:lh n b)(ha:dV eH a)(G:dZ b (fP a)=none)(hc:jN a ((dZ b (fP a)).getD iV) (dZ b (fP a)).isSome=0)(hU:lH s):lh n (b.fp (js s a))/\(b.fp (js s a)).cost<=b.cost+13/\dV eH (js s a):=by
 rw[G] at hc;obtain⟨z1,z2,z3,z4⟩:=qCz hc;have J:dV eH (js s a):=by obtain⟨f1,f2,f3,f4,f5,f6,f7,f8,f9,U,V,aa,ab,ac,aA⟩:=ha;exact⟨f1,f2,f3,f4,f5,f6,f7,f8,f9,U,V,aa,ab,ac,pH hU⟩
 have I:∀i,dZ (b.fp (js s a)) i=if fP a=i then some _ else dZ b i:=λi=>BN
 have O:∀i x,dZ b i=some x->dZ _ i=some x:=λi x E=>by rw[I,iN λe=>by rw[<- e,G] at E;cases E];exact E
 have w0:wv (0,0)=0:=oO;have b1:i6 (js s a)=(0,0):=z1;have b2:(eQ (js s a)).1=(0,0):=z2;have b3:ja (js s a)=(0,0):=z3;have b4:(eQ (js s a)).2=(0,0):=z4;refine⟨⟨?_,h.wG,λk hk=>?_,h.lP,λi x E=>?_,λi x E=>?_,h.due,h.tk,h.Cn⟩,?_,J⟩;obtain⟨T,g⟩:=h.hb;exact⟨_,g.fp J⟩;obtain⟨c1,x,y,c2,c3,c4⟩:=h.A9 k hk;exact⟨c1,x,y,O _ _ c2,O _ _ c3,c4⟩
 ·rw[I] at E;split at E
  ·next e=>
   cases E;subst e;obtain⟨s1,s2,s3,s4⟩:=h.J8 G;rw[b1,b2,b3,b4,w0];exact⟨s1.symm,s2.symm,s3.symm,s4.symm⟩
  exact h.rz i x E
 rw[I] at E;split at E;cases E;unfold nS;rw[b1,b2,b3,b4,w0];exact⟨oO,oO,λ_=>oO,λ_=>oO⟩;exact h.lim i x E;have:(iT fP (js s a) b.acc).length<=b.acc.length+1:=vI;unfold Bk.cost Bk.fp;dsimp only;omega
def qrH:kY t k=16\/3<=kY t k/\kY t k<=15:=by unfold kY;(repeat' split);all_goals omega
def Ij(h:(kX b t s).1≠0):(kX b t s).2=b:=by
 unfold kX at h⊢;split;rfl
 ·next e1=>
  rw[iN e1] at h;split;rfl
  ·next e2=>
   rw[e2] at h;split;rfl
   ·next e3=>
    rw[iN e3] at h;split
    ·next e4=>
     rw[iP e4] at h;unfold rq at h⊢;dsimp only at h⊢;split;rfl
     ·next e5=>rw[iN e5] at h;exact absurd rfl h
    ·next e4=>
     rw[iN e4] at h;unfold oX at h⊢;dsimp only at h⊢;split;rfl
     ·next e5=>rw[iN e5] at h;exact absurd rfl h
def Kr(h:(mD b a s).1≠0):(mD b a s).2=b:=by
 unfold mD at h⊢;dsimp only at h⊢;split;rfl
 ·next e=>rw[iN e] at h;exact absurd rfl h
def lh.BQ(h:lh n b)(O:dV eu t)(U:n<=s)(V:lH s):lh (s+1) (kX b t s).2/\(kX b t s).2.cost<=b.cost+13/\((kX b t s).1=0->tI b (kX b t s).2 (gb t) s t):=by
 by_cases e0:(kX b t s).1=0
 ·have wy:lh (s+1) (kX b t s).2/\(kX b t s).2.cost<=b.cost+13/\tI b (kX b t s).2 (gb t) s t:=by
   unfold kX at e0⊢;split
   ·next e1=>rw[iP e1] at e0;exact absurd e0 e1
   ·next e1=>
    rw[iN e1] at e0;split
    ·next k e2=>
     rw[e2] at e0;have:=qrH (t:=t) (k:=k);dsimp only at e0;omega
    ·next e2=>
     rw[e2] at e0;split
     ·next E=>rw[iP E] at e0;exact absurd e0 E
     ·next E=>
      rw[iN E] at e0;have E:=Decidable.not_not.1 E;split
      ·next e4=>
       rw[iP e4] at e0;unfold rq at e0⊢;by_cases e5:(nK t s ((eM b (iB t)).getD nE).1 (eM b (iB t)).isSome (iM b (iB t)) (mo b (fI ((eM b (iB t)).getD nE).1) (fJ ((eM b (iB t)).getD nE).1))).1=0;obtain⟨q,r,hq,G,_,_,_,_,_,L,I,J⟩:=h.settle O e2 E e4 U V (Prod.ext e5 rfl);rw[iN λg=>g e5];rw[hq] at G L I J⊢;simp only[xT] at G L I J⊢;rw[G];exact⟨L,I,J⟩;rw[iP e5] at e0;exact absurd e0 e5
      ·next e4=>
       rw[iN e4] at e0;unfold oX at e0⊢;by_cases e5:(jD t s (mo b (fI t) (fJ t))).1=0;obtain⟨r,G,_,_,_,L,I,J⟩:=h.plain O e2 E (Bool.eq_false_iff.2 e4) U V (Prod.ext e5 rfl);rw[iN λg=>g e5,G];exact⟨L,I,J⟩;rw[iP e5] at e0;exact absurd e0 e5
  exact⟨wy.1,wy.2.1,λ_=>wy.2.2⟩
 rw[Ij e0];exact⟨h.mono oL,oL,λe=>absurd e e0⟩
def tI.grow(h:tI b b' i s t)(E:eM b i=none):EH b b':=by
 obtain⟨k,I,J,_,_⟩:=h.gL;refine⟨λj x G=>?_,λj O=>by rw[h.acc];exact O⟩;have e:eM b' j=if kV k=j then some k else eM b j:=by unfold eM;rw[I];exact Df
 rw[e,J];split
 ·next e=>rw[e,G] at E;cases E
 exact G
def qCY(h:(kX b t s).1=0):eM b (gb t)=none:=by
 unfold kX at h;split at h
 ·next e=>exact absurd h e
 ·split at h
  ·next k _=>
   have:=qrH (t:=t) (k:=k);dsimp only at h;omega
  ·next e=>exact e
def qyO(h:(kX b t s).1=0):mX t=0:=by
 unfold kX at h;split at h
 ·next e=>exact absurd h e
 ·next e=>exact Decidable.not_not.1 e
def qyN{h:Int}(E:mX t=0)(G:eM b' (gb t)=some k)(I:kY t k=16):kX b' t h=(16,b'):=by unfold kX;rw[iN λg=>g E,G];dsimp only;rw[I]
theorem lh.yh(h:lh n b)(G:dV eH a)(I:lH s):lh n (mD b a s).2/\(mD b a s).2.cost<=b.cost+13/\((mD b a s).1=0->dZ b (fP a)=none/\jN a iV false=0/\dV eH (js s a)/\(mD b a s).2=b.fp (js s a)):=by
 by_cases e0:(mD b a s).1=0
 ·have e1:jN a ((dZ b (fP a)).getD iV) (dZ b (fP a)).isSome=0/\(mD b a s).2=b.fp (js s a):=(by unfold mD at e0⊢;by_cases e:jN a ((dZ b (fP a)).getD iV) (dZ b (fP a)).isSome=0;rw[iN λg=>g e];exact⟨e,rfl⟩;rw[iP e] at e0;exact absurd e0 e);have E:dZ b (fP a)=none:=by
   cases J:dZ b (fP a) with
   | none=>rfl
   | some o=>
    have h:=e1.1;rw[J] at h;unfold jN nO at h;grind
  rw[e1.2];obtain⟨O,U,V⟩:=h.acc G E e1.1 I;exact⟨O,U,λ_=>⟨E,by have:=e1.1;rw[E] at this;exact this,V,rfl⟩⟩
 rw[Kr e0];exact⟨h,oL,λe=>absurd e e0⟩
def qyM{E:Int}(G:dV eH a)(h:jN a iV false=0)(I:dZ b' (fP a)=some (js s a)):mD b' a E=(16,b'):=by
 have key:jN a (js s a) true=16:=by
  unfold jN at h⊢;split at h;omega
  ·next e1=>
   rw[iN e1];split at h;omega
   ·next e2=>
    rw[iN e2];split at h;omega
    ·next e3=>
     rw[iN e3];split at h;omega
     ·next e4=>
      rw[iN e4,iP rfl];have J:=sC G;have e:me (eJ (js s a)) 16=eJ a:=by show me (eJ a) 16=_;unfold me hasB;rw[iN (by rw[yN];omega)]
      unfold nO;rw[e,iN λg=>g rfl,iN λg=>g rfl,iN λg=>g rfl,iN λg=>g rfl]
 unfold mD;dsimp only;rw[I];simp only[xT,Option.isSome_some];rw[iP (by rw[key];decide),key]
section
variable {K:List Me×Bool->WP} {st:Int}
def qC9{x:Int}(J:0<=x/\x<65536):bits .or .u16 x 16=uu x 16:=by
 have E:=HW 4 J oO;obtain⟨n,rfl⟩:∃n:Nat,x=n:=⟨x.toNat,oL⟩;have e1:bits .andNot .u16 (n:Int) ((2^4:Nat):Int)=wrap .u16 ((BitVec.ofInt 16 (n:Int)&&& ~~~ BitVec.ofInt 16 ((2^4:Nat):Int)).toNat:Nat):=rfl;have O:bits .or .u16 (n:Int) 16=wrap .u16 ((BitVec.ofInt 16 (n:Int)||| BitVec.ofInt 16 ((2^4:Nat):Int)).toNat:Nat):=rfl;have I:=DR (2^4) oO;rw[e1] at E;rw[O];generalize BitVec.ofInt 16 (n:Int)=X at E;generalize BitVec.ofInt 16 ((2^4:Nat):Int)=Y at E I;have U:X||| Y=(X&&& ~~~ Y)+Y:=by rw[BitVec.add_eq_or_of_and_eq_zero _ _ (by ext k hk;simp)];ext k hk;simp;cases X[k]<;>cases Y[k]<;>rfl
 rw[U,BitVec.toNat_add,I];rw[xo _ oL] at E;have G:(hasB (n:Int) 16=true->16<=(n:Int))/\(hasB (n:Int) 16=false->(n:Int)<65520):=by exact⟨λh=>by have:=zC h;omega,λh=>by have:=zB h;omega⟩
 have V:((2^4:Nat):Int)=16:=rfl;rw[V] at E;unfold me at E;unfold uu;split
 ·next h=>rw[iP h] at E;have:=G.1 h;rw[xo _ oL];omega
 ·next h=>rw[iN h] at E;have:=G.2 (oS h);rw[xo _ oL];omega
section
variable {w:Md} {am:e9} {t:HL eu} {p q:Pa} {a:HL eH}
def Hw{b o k:Nat}{cs:Array Me}{T:Mf}{G:Me}{x y z:e9}{K:Bool->WP}(hb:w.heap[b]?=some (.c cs T))(I:vE G k)(J:(cs.toList.drop (o+k)).take 2=gx x)(O:ji x)(ha:ji z)(hs:jK x z=some y)(kk:∀w',w'.heap[b]?=some (.c (d7 cs (o+k) (gx y)) T)->Fr [b] w w'->K true w'): cW 160 [G,.p (some (dh b o)),df z.1 z.2] dk w K:=by
 refine qpg ?_;have U:o+k+2<=cs.size:=by
  have:=Ma List.length J;rw[yL,yC,uV,Mc] at this;omega
 have V:∀ {w1 w2:Md} {r:Nat} {t:e9},dY [b] w w2 [(r,.cells #[.w t.1,.w t.2] nf _),(b,.cells cs T _)]->JY K r ((jK x z).getD (0,0),(jK x z).isSome) w2 _:=λ{w1 w2 r t} h=>by rw[hs];refine h.z' 0 rfl λw3 h _=>jd (λ_ w'=>w'.heap[b]?=some _/\Fr [b] w w') ?_ λ_ E h=>kk E h.1 h.2;refine y_ (Mj h 0 y (fH (h.st' 1 rfl _ rfl rfl U λE h _=>⟨h.at (i:=1) rfl,h.fr⟩)))
 refine oD (CY hb) λr1 w1 _ f1 h=>I b o w1 _ λw2 f2=>?_;have h:=(h.q9 f2).drew;refine⟨fH (oE h 1 rfl x J (Mj h 0 z (Ad O ha λw3 f3=>?_))),fH (oE h 1 rfl x J (Mj h 0 z ?_))⟩;refine oD (h.q9 f3) λr4 E _ f4 h=>jU (h.cells 1) (h.cells 2 rfl J) (V (w1:=E) (t:=(0,0)) ?_);exact h.sub (.cons_cons _ (.cons _ (.refl _)));refine oD h λr4 E _ f4 h=>jU (h.cells 1) (h.cells 2 rfl J) (Ad O ha λw5 f5=>V (w1:=E) (t:=(0,0)) ?_);exact (h.q9 f5).sub (.cons_cons _ (.cons _ (.refl _)))
def qxI{h:Bool}(U:dV eu t)(V:dV eH p.1)(G:dV eH p.2.1)(J:ji am)(E:lz t am h p=some q)(I:∀w',Fr [] w w'->K (kJ q,true) w'): cW 107 [LI eu t,df am.1 am.2,.bool h,.agg (kJ p).toArray] dt w K:=by
 cases h with
 | false=>exact G4 U V G E I
 | true=>
  refine qe9 ?_;unfold lz at E;rw[iP rfl] at E;obtain⟨x,hx,E⟩:=Option.bind_eq_some_iff.1 E;obtain⟨y,hy,E⟩:=Option.bind_eq_some_iff.1 E;obtain⟨u,hu,E⟩:=Option.bind_eq_some_iff.1 E;obtain⟨v,hv,rfl⟩:=yT.1 E;have hz:=CW;refine oD (oG [] w) λr1 w1 _ f1 o=>oD o λr3 w2 _ f2 o=>oD o λr5 w3 _ f3 o=>oK o hz λr7 w4 _ o=>jd (λO w'=>O=false/\dY [] w w' [(r7,.c (kJ ux).toArray qP),(r5,.c (kJ (pQ x p.1,ol y p.2.1,p.2.2)).toArray qP),(r3,.c #[.w am.1,.w am.2] nf),(r1,LH eu t 43)]) ?_ ?_;have o:=o.drew;refine Mj o 3 (fM t) (Eu λw5 f5=>?_);have o:=o.q9 f5;refine gY (o.cells 3) (G8 (o.at (i:=1) rfl) (λw1 K I=>EU _ _ w1 K I) rfl (Au V) (u5 U) hx λw6 aa f6=>?_);have o:=xi o 1 rfl f6 aa;refine x_ (Mj o 3 (fM t) (E8 λw7 f7=>?_));have o:=o.q9 f7;refine gY (o.cells 3) (G8 (o.at (i:=1) rfl) (λw1 K I=>E7 _ _ w1 K I) rfl (AS G) (u5 U) hy λw8 ae f8=>?_);exact⟨rfl,xi o 1 rfl f8 ae⟩;rintro O w5 ⟨rfl,o⟩;refine x_ (y_ ?_);refine jd (λO w'=>O=false/\dY [] w w' [(r7,.c (kJ ux).toArray qP),(r5,.c (kJ (vO u (pQ x p.1),vU v (ol y p.2.1),p.2.2)).toArray qP),(r3,.c #[.w am.1,.w am.2] nf),(r1,LH eu t 43)]) ?_ ?_;have o:=o.drew;refine Mj o 2 am (Eu λw6 f6=>?_);have o:=o.q9 f6;refine gY (o.cells 2) (Hw (o.at (i:=1) rfl) Dt rfl (u9 V).1 J hu λw7 ag f7=>?_);have o:=xi o 1 rfl f7 ag;refine x_ (Mj o 2 am (E8 λw8 f8=>?_));have o:=o.q9 f8;refine gY (o.cells 2) (Hw (o.at (i:=1) rfl) C6 rfl (u9 G).2 J hv λw9 ah f9=>?_);exact⟨rfl,xi o 1 rfl f9 ah⟩;rintro O w6 ⟨rfl,o⟩;refine x_ (lW (o.at (i:=1) rfl) _ (qn _) rfl (nc (qn _) (o.z' 0 rfl λw8 o _=>lW (o.at (i:=0) rfl) _ (qn _) rfl ?_)));exact I w8 o.fr
def qDm(ht:dV eu t)(hp:dV eH p.1)(G:dV eH p.2.1)(I:ji am)(hs:rT t am p=some q)(V:∀w',Fr [] w w'->K (kJ q,true) w'): cW 118 [LI eu t,df am.1 am.2,.agg (kJ p).toArray] dt w K:=by
 refine qpc ?_;obtain⟨x,hx,hs⟩:=Option.bind_eq_some_iff.1 hs;obtain⟨y,hy,rfl⟩:=yT.1 hs;have hz:=CW;have kD:∃k,vE (if hasB (dT t) 2 then DL else Ay) k/\At p.1 k (rW t p.1)/\d7 (kJ p).toArray (0+k) (gx x)=(kJ (my t x p.1,p.2.1,p.2.2)).toArray/\((kJ p).toArray.toList.drop (0+k)).take 2=gx (rW t p.1):=by unfold rW my;by_cases e:hasB (dT t) 2;rw[iP e,iP e,iP e];exact⟨2,EU,E9 hp,rfl,rfl⟩;rw[iN e,iN e,iN e];exact⟨4,Dt,BU hp,rfl,rfl⟩
 have kC:∃k,vE (if hasB (dT t) 2 then DN else Ao) k/\At p.2.1 k (sI t p.2.1)/\(∀d:HL eH,((kJ (d,p.2.1,p.2.2)).toArray.toList.drop (15+k)).take 2=gx (sI t p.2.1))/\∀d:HL eH,d7 (kJ (d,p.2.1,p.2.2)).toArray (15+k) (gx y)=(kJ (d,k6 t y p.2.1,p.2.2)).toArray:=(by unfold sI k6;by_cases e:hasB (dT t) 2;rw[iP e,iP e,iP e];exact⟨6,E7,Fl G,λd=>rfl,λd=>rfl⟩;rw[iN e,iN e,iN e];exact⟨8,C6,Cq G,λd=>rfl,λd=>rfl⟩);obtain⟨kd,J,ad,ae,af⟩:=kD;obtain⟨kc,O,ag,ah,ai⟩:=kC;refine oD (oG [] w) λr1 w1 _ f1 o=>oD o λr3 w2 _ f2 o=>oD o λr5 w3 _ f3 o=>oK o hz λr7 w4 _ o=>jd (λbo w'=>bo=false/\dY [] w w' [(r7,.c (kJ ux).toArray qP),(r5,.c (kJ (my t x p.1,k6 t y p.2.1,p.2.2)).toArray qP),(r3,.c #[.w am.1,.w am.2] nf),(r1,LH eu t 43)]) ?_ ?_;have o:=o.drew;refine Mj o 3 t (Mj o 2 am (Eu λw5 f5=>?_));have o:=o.q9 f5;refine jU (o.cells 2) (o.cells 3) (GX ht λw6 f6=>?_);have o:=o.q9 f6;refine gY (o.cells 2) (Hw (o.at (i:=1) rfl) J af ad.2 I hx λw7 U f7=>?_);rw[ae] at U;have o:=xi o 1 rfl f7 U;refine x_ (Mj o 3 t (Mj o 2 am (E8 λw8 f8=>?_)));have o:=o.q9 f8;refine jU (o.cells 2) (o.cells 3) (GX ht λw9 f9=>?_);have o:=o.q9 f9;refine gY (o.cells 2) (Hw (o.at (i:=1) rfl) O (ah _) ag.2 I hy λaG E an=>?_);rw[ai] at E;exact⟨rfl,xi o 1 rfl an E⟩;rintro bo w5 ⟨rfl,o⟩;refine x_ ?_;have hF:=vS ht;have e1:bits .and .u16 _ 64=if hasB _ 64 then 64 else 0:=qL 6 hF oO
 have e2:bits .and .u16 _ 128=if hasB _ 128 then 128 else 0:=qL 7 hF oO
 have fx:0<=eJ (my t x p.1)/\eJ (my t x p.1)<65536:=(by have:eJ (my t x p.1)=eJ p.1:=(by unfold my;split<;>rfl);rw[this];exact sC hp);have fy:0<=eJ (k6 t y p.2.1)/\eJ (k6 t y p.2.1)<65536:=(by have:eJ (k6 t y p.2.1)=eJ p.2.1:=(by unfold k6;split<;>rfl);rw[this];exact sC G);generalize my t x p.1=d at o V fx;generalize k6 t y p.2.1=c at o V fy;refine jd (λ_ w'=>dY [] w w' [(r7,.c (kJ ux).toArray qP),(r5,.c (kJ (if hasB (dT t) 64 then lc (uu (eJ d) 16) d else d,c,p.2.2)).toArray qP),(r3,.c #[.w am.1,.w am.2] nf),(r1,LH eu t 43)]) ?_ λ_ w6 o=>?_;refine Mi o 3 (dT t) ?_;rw[e1];by_cases h:hasB (dT t) 64;rw[iP h];refine y_ (Mi o 1 (eJ d) ?_);rw[qC9 fx];refine o.st' 1 rfl (kJ (lc (uu (eJ d) 16) d,c,p.2.2)).toArray rfl rfl (zO rfl) λw6 o _=>?_;rw[iP h];exact o;rw[iN h];refine x_ ?_;rw[iN h];exact o;generalize (if hasB _ 64 then lc _ d else d)=d at o V;refine jd (λ_ w'=>dY [] w w' [(r7,.c (kJ ux).toArray qP),(r5,.c (kJ (d,if hasB (dT t) 128 then lc (uu (eJ c) 16) c else c,p.2.2)).toArray qP),(r3,.c #[.w am.1,.w am.2] nf),(r1,LH eu t 43)]) ?_ λ_ w7 o=>?_;refine Mi o 3 (dT t) ?_;rw[e2];by_cases h:hasB (dT t) 128;rw[iP h];refine y_ (Mi o 1 (eJ c) ?_);rw[qC9 fy];refine o.st' 1 rfl (kJ (d,lc (uu (eJ c) 16) c,p.2.2)).toArray rfl rfl (zO rfl) λw6 o _=>?_;rw[iP h];exact o;rw[iN h];refine x_ ?_;rw[iN h];exact o;exact lW (o.at (i:=1) rfl) _ (qn _) rfl (nc (qn _) (o.z' 0 rfl λw8 o _=>lW (o.at (i:=0) rfl) _ (qn _) rfl (V w8 o.fr)))
end
section
section
variable {w:Md} {am:e9} {t q:HL eu} {p:Pa} {n s:Int} {there:Bool}
def IU{K:Mz->WP}(J:dV eu t)(U:∀w',Fr [] w w'->K ((iD t).getD 0,(iD t).isSome) w'): cW 163 [LI eu t] dF w K:=by
 refine qm0 ?_;have hN:lH (kR t):=py J.2.2.2.2.2.2.2.2.2.2.2.2.2.2.2;have hO:0<=kQ t/\kQ t<=4294967295:=J.2.2.2.2.2.2.2.2.2.2.2.1;refine oD (oG [] w) λr1 w1 _ f1 o=>qW (decide ((iD t).isSome=false)) w1 (λM I=>Mi o 0 (kQ t) (eF (λE=>?_) λE=>?_)) ?_;have O:kQ t=0:=(oS E);have e:(iD t).isSome=false:=(by unfold iD;rw[iP O];rfl);rw[yA e] at I;exact I;have O:kQ t≠0:=(oS E);refine Mi o 0 (kQ t) (Mi o 0 (kR t) ?_);rw[qV _ ⟨oL,oL⟩,qV _ ⟨oL,oL⟩];have e:decide (kQ t>18446744073709551615-kR t)=decide ((iD t).isSome=false):=by unfold iD;split;simp;omega;simp;omega
 rw[e];exact I;have:=U w1 o.fr;refine eF (λE=>?_) λE=>?_;have e:=Option.not_isSome_iff_eq_none.1 (by rw[zC E];exact λh=>nomatch h);rw[e] at this;exact this;have e:=Option.isSome_iff_ne_none.2 (by simpa using zB E);obtain⟨x,G⟩:=Option.isSome_iff_exists.1 e;rw[G] at this;refine Mi o 0 (kR t) (Mi o 0 (kQ t) ?_);have V:x=kR t+kQ t/\kR t+kQ t<18446744073709551616:=by unfold iD at G;split at G;cases G;split at G;cases G;exact⟨rfl,by assumption⟩;cases G
 rw[qV (kQ t) ⟨oL,oL⟩,qV _ ⟨oL,oL⟩,<- V.1];exact this
def qDY{K:Bool->WP}(E:dV eu t)(G:∀w',Fr [] w w'->K (yo t s) w'):cW 214 [LI eu t,.w s] dk w K:=by
 refine qtt<|oD (oG [] w) λr1 w1 _ J o=>Mj o 0 t (IU E λw2 I=>?_)
 have:=G w2 (o.q9 I).fr;unfold yo at this;cases h:iD t with|none=>rw[h] at this;exact x_ this|some x=>rw[h] at this;exact y_ this
def qBf{K:Int->WP}(I:dV eu t)(E:∀w',Fr [] w w'->K (gO t) w'):cW 153 [LI eu t] dm w K:=by refine qrj ?_;unfold gO at E;refine oD (oG [] w) λr1 w1 _ J o=>Mj o 0 (iB t) (vg (b:=(0,0)) (eF (λh=>?_) λh=>?_));rw[iP (zC h)] at E;exact E w1 o.fr;rw[iN (zB h)] at E;have o:=o.drew;refine Mj o 0 (iB t) (Bg λw2 G=>?_);have o:=o.q9 G;refine gY (o.cells 0) (vg (eF (λh=>?_) λh=>?_));rw[iP (zC h)] at E;exact E w2 o.fr;rw[iN (zB h)] at E;refine Mj o 0 (iB t) (Mj o 0 (gb t) (vg (eF (λh=>?_) λh=>?_)));rw[iP (zC h)] at E;exact E w2 o.fr;rw[iN (zB h)] at E;refine Mi o 0 (kQ t) (eF (λh=>?_) λh=>?_);rw[iP (oS h)] at E;exact E w2 o.fr;rw[iN (oS h)] at E;exact E w2 o.fr
def xf (q:HL eu) (there:Bool) (st:Int):List Me:=HL.mk eu q++[.bool there,.b st]
def FB:(xf q there s).length=18:=rfl
def qC5{K:Int->WP}(J:dV eu q)(E:∀w',Fr [] w w'->K (lN q st s) w'):cW 155 [.agg (xf q there st).toArray,.w s] dm w K:=by
 refine qtu ?_;unfold lN at E;refine oD (oG [] w) λr1 w1 _ U o=>Mi o 0 st ?_;by_cases h2:st=2;rw[iP h2] at E;exact jd (λ_ _=>False) (LJ (by simp[h2]) (E w1 o.fr)) λ_ _ h=>h.elim;rw[iN h2] at E;by_cases h3:st=3;rw[iP h3] at E;exact jd (λ_ _=>False) (LK (by simp[h2]) (LJ (by simp[h3]) (E w1 o.fr))) λ_ _ h=>h.elim;rw[iN h3] at E;by_cases h4:st=4;rw[iP h4] at E;exact jd (λ_ _=>False) (LK (by simp[h2]) (LK (by simp[h3]) (LJ (by simp[h4]) (E w1 o.fr)))) λ_ _ h=>h.elim;rw[iN h4] at E;refine qW PUnit.unit w1 (λM I=>LK (by simp[h2]) (LK (by simp[h3]) (LK (by simp[h4]) (eF (λ_=>I) λ_=>I))))<|Mj o 0 q (qDY J λw2 O=>?_);have:=E w2 (o.q9 O).fr;refine eF (λG=>?_) λG=>?_;rw[iP G] at this;exact this;rw[iN (by rw[G];exact λh=>nomatch h)] at this;exact this
def qyP{K:Int->WP}(I:dV eu t)(J:dV eH p.1)(G:dV eH p.2.1)(E:∀w',Fr [] w w'->K (qo t p) w'):cW 156 [LI eu t,.agg (kJ p).toArray] dm w K:=by
 refine qp9 ?_;unfold qo at E;have e0:bits .and .u16 (dT t) 4=if hasB (dT t) 4 then 4 else 0:=qL 2 (vS I) oO
 have e1:bits .and .u16 (eJ p.1) 16=if hasB (eJ p.1) 16 then 16 else 0:=qL 4 (sC J) oO
 have O:bits .and .u16 (eJ p.2.1) 16=if hasB (eJ p.2.1) 16 then 16 else 0:=qL 4 (sC G) oO
 refine oD (oG [] w) λr1 w1 _ U o=>oD o λr3 w2 _ V o=>Mi o 1 (dT t) ?_;rw[e0];by_cases h:hasB (dT t) 4;rw[iN (by rw[h];exact λh=>nomatch h)] at E;rw[iP h];refine x_ (Mi o 0 (eJ p.1) ?_);rw[e1];by_cases h1:hasB (eJ p.1) 16;rw[iP h1] at E⊢;exact y_ (E w2 o.fr);rw[iN h1] at E⊢;refine x_ (Mi o 0 (eJ p.2.1) ?_);rw[O];by_cases h2:hasB (eJ p.2.1) 16;rw[iP h2] at E⊢;exact y_ (E w2 o.fr);rw[iN h2] at E⊢;exact x_ (E w2 o.fr);rw[iP (oS h)] at E;rw[iN h];exact y_ (E w2 o.fr)
end
end
section
section
variable {w:Md} {am:e9} {t q:HL eu} {p:Pa} {n s:Int} {there:Bool}
def Fu{α:Type}[DecidableEq α]{a b c:α}(h:(!decide (a=b))=true):(!decide (a=c))=decide (a≠b/\a≠c):=by have h:a≠b:=(oS h);by_cases e:a=c;rw[yA e,zU λg=>g.2 e];rfl;rw[zU e,yA ⟨h,e⟩];rfl
def Es{α:Type}[DecidableEq α]{a b c:α}(h:(!decide (a=b))=false):false=decide (a≠b/\a≠c):=by have h:a=b:=(oS h);rw[zU λg=>g.1 h]
def GD{x y:Int}:(!x==y) = !decide (x=y):=by by_cases e:x=y<;>simp[e]
def qC3{K:Int->WP}(V:dV eu t)(hq:dV eu q)(G:∀w',Fr [] w w'->K (iQ t q there) w'):cW 154 [LI eu t,.agg (xf q there st).toArray] dm w K:=by
 refine qts ?_;unfold iQ at G;have e0:bits .and .u16 _ 2=if hasB _ 2 then 2 else 0:=qL 1 (vS hq) oO
 have e4:bits .and .u16 _ 4=if hasB _ 4 then 4 else 0:=qL 2 (vS V) oO
 have e8:bits .and .u16 _ 8=if hasB _ 8 then 8 else 0:=qL 3 (vS V) oO
 refine oD (oG [] w) λr1 w1 _ f1 o=>oD o λr3 w2 _ f2 o=>Mj o 0 q (oD o λr6 w3 _ f3 o=>o.z' 0 rfl λJ o _=>Mi o 1 there ?_);cases there with|false=>rw[iP rfl] at G;exact y_ (G J o.fr)|true=>
 rw[iN λh=>nomatch h] at G;refine x_ (Mi o 0 (dT q) ?_);rw[e0];by_cases h:¬hasB (dT q) 2=true;rw[iP (oS h)] at G;rw[iN h];exact y_ (G J o.fr);have h:=Decidable.not_not.1 h;rw[iN (by rw[h];exact λh=>nomatch h)] at G;rw[iP h];refine x_ (qW (decide (fI t≠(0,0)/\fI t≠fI q)) J (λM I=>Mj o 2 (fI t) (wF (b:=(0,0)) (eF (λE=>Mj o 2 (fI t) (Mj o 0 (fI q) (wF ?_))) λE=>?_))) (eF (λE=>?_) λE=>?_));rw[Fu E];exact I;rw[Es E];exact I;rw[iP (zC E)] at G;exact G J o.fr;rw[iN (zB E)] at G;refine qW (decide (fJ t≠(0,0)/\fJ t≠fJ q)) J (λM I=>Mj o 2 (fJ t) (wF (b:=(0,0)) (eF (λE=>Mj o 2 (fJ t) (Mj o 0 (fJ q) (wF ?_))) λE=>?_))) (eF (λE=>?_) λE=>?_);rw[Fu E];exact I;rw[Es E];exact I;rw[iP (zC E)] at G;exact G J o.fr;rw[iN (zB E)] at G;refine qW (decide (mc t≠0/\mc t≠mc q)) J (λM I=>Mi o 2 (mc t) (eF (λE=>Mi o 2 (mc t) (oB o 0 rfl _ rfl ?_)) λE=>?_)) (eF (λE=>?_) λE=>?_);rw[GD] at E⊢;rw[Fu E];exact I;rw[GD] at E;rw[Es E];exact I;rw[iP (zC E)] at G;exact G J o.fr;rw[iN (zB E)] at G;refine qW (decide (mz t≠0/\mz t≠mz q)) J (λM I=>Mi o 2 (mz t) (eF (λE=>Mi o 2 (mz t) (oB o 0 rfl _ rfl ?_)) λE=>?_)) (eF (λE=>?_) λE=>?_);rw[GD] at E⊢;rw[Fu E];exact I;rw[GD] at E;rw[Es E];exact I;rw[iP (zC E)] at G;exact G J o.fr;rw[iN (zB E)] at G;refine jd (λv w'=>v=decide (hasB (dT t) 4=true/\fM t≠li/\wv (fM t)>wv (fM q))/\Fr [] J w') ?_ ?_;have o:=o.drew;refine Mi o 2 (dT t) ?_;rw[e4];by_cases g:hasB (dT t) 4=true;rw[iP g];refine y_ (Mj o 2 (fM t) (Bg λO U=>?_));have o:=o.q9 U;refine gY (o.cells 2) (wF (eF (λE=>oE o 2 rfl _ rfl (oE o 0 rfl _ rfl (HD (u5 V) (u5 hq) λw6 f6=>⟨?_,((Fr.refl [] J).drew.trans U).trans f6⟩))) λE=>⟨?_,(Fr.refl [] J).drew.trans U⟩));have h1:fM t≠li:=(oS E);rw[KG,LM];exact⟨λx=>⟨g,h1,x⟩,λx=>x.2.2⟩;have h1:fM t=li:=(oS E);exact (zU λx=>x.2.1 h1).symm;rw[iN g];exact x_ ⟨(zU λx=>g x.1).symm,(Fr.refl [] J).drew⟩;rintro v O ⟨rfl,U⟩;have o:=o.q9 U;refine eF (λE=>?_) λE=>?_;rw[iP (zC E)] at G;exact G O o.fr;rw[iN (zB E)] at G;refine qW (decide (hasB (dT t) 4=false/\hasB (dT t) 8=true/\fM t≠(0,0)/\fM t≠fM q)) O (λM I=>Mi o 2 (dT t) ?_) (eF (λE=>?_) λE=>?_);rw[e4];by_cases g:hasB (dT t) 4=true;rw[iP g];rw[zU λx=>by rw[g] at x;exact nomatch x.1] at I;exact x_ I;rw[iN g];refine y_ (Mi o 2 (dT t) ?_);rw[e8];by_cases g8:hasB (dT t) 8=true;rw[iP g8];have e:decide (hasB (dT t) 4=false/\hasB (dT t) 8=true/\fM t≠(0,0)/\fM t≠fM q)=decide (fM t≠(0,0)/\fM t≠fM q):=by rw[LM];exact⟨λx=>x.2.2,λx=>⟨by simpa using g,g8,x⟩⟩
 rw[e] at I;refine y_ (Mj o 2 (fM t) (wF (b:=(0,0)) (eF (λE=>Mj o 2 (fM t) (Mj o 0 (fM q) (wF ?_))) λE=>?_)));rw[Fu E];exact I;rw[Es E];exact I;rw[iN g8];rw[zU λx=>g8 x.2.1] at I;exact x_ I;rw[iP (zC E)] at G;exact G O o.fr;rw[iN (zB E)] at G;exact G O o.fr
end
end
section
section
variable {w:Md} {am:e9} {t q:HL eu} {p:Pa} {n s:Int} {there:Bool}
def qy8{K:Int×e9->WP}(O:dV eu t)(hq:dV eu q)(hp:dV eH p.1)(aa:dV eH p.2.1)(G:∀w',Fr [] w w'->K (nK t s q there st p) w'): cW 106 [LI eu t,.w s,.agg (xf q there st).toArray,.agg (kJ p).toArray] [.one .u,.agg dg] w K:=by
 refine qri ?_;unfold nK at G;have e4:bits .and .u16 _ 4=if hasB _ 4 then 4 else 0:=qL 2 (vS O) oO
 refine oD (oG [] w) λr1 w1 _ f1 o=>oD o λr3 w2 _ f2 o=>oD o λr5 w3 _ f3 o=>oD o λr7 w4 _ f4 o=>Mj o 3 t (qBf O λw5 f5=>?_);have o:=o.q9 f5;refine jd (λv w'=>v=(if gO t≠0 then gO t else iQ t q there)/\Fr [] w5 w') (eF (λh=>?_) λh=>?_) ?_;rw[iN λg=>g (oS h)];exact Mj o 3 t (lW (o.at (i:=2) rfl) _ FB rfl (qC3 O hq λw6 f6=>⟨rfl,f6⟩));rw[iP (oS h)];exact⟨rfl,.refl _ _⟩;rintro v w6 ⟨rfl,f6⟩;have o:=o.q9 f6;refine jd (λv w'=>v=(if gO t≠0 then gO t else if iQ t q there≠0 then iQ t q there else lN q st s)/\Fr [] w6 w') (eF (λh=>?_) λh=>?_) ?_;have h:(if gO t≠0 then gO t else iQ t q there)=0:=(oS h);have E:¬gO t≠0:=λg=>by rw[iP g] at h;exact g h
 rw[iN E] at h;rw[iN E,iN λg=>g h];exact lW (o.at (i:=2) rfl) _ FB rfl (qC5 hq λw7 f7=>⟨rfl,f7⟩);have h:(if gO t≠0 then gO t else iQ t q there)≠0:=(oS h);refine⟨?_,.refl _ _⟩;by_cases E:gO t≠0;rw[iP E,iP E];rw[iN E] at h;rw[iN E,iN E,iP h];rintro v w7 ⟨rfl,f7⟩;have o:=o.q9 f7;refine jd (λv w'=>v=(if gO t≠0 then gO t else if iQ t q there≠0 then iQ t q there else if lN q st s≠0 then lN q st s else qo t p)/\Fr [] w7 w') (eF (λh=>?_) λh=>?_) ?_;have h:(if gO t≠0 then gO t else if iQ t q there≠0 then iQ t q there else lN q st s)=0:=(oS h);have E:¬gO t≠0:=λg=>by rw[iP g] at h;exact g h
 rw[iN E] at h;have I:¬iQ t q there≠0:=λg=>by rw[iP g] at h;exact g h
 rw[iN I] at h;rw[iN E,iN I,iN λg=>g h];exact Mj o 3 t (lW (o.at (i:=1) rfl) _ (qn _) rfl (qyP O hp aa λU f8=>⟨rfl,f8⟩));have h:(if gO t≠0 then gO t else if iQ t q there≠0 then iQ t q there else lN q st s)≠0:=(oS h);refine⟨?_,.refl _ _⟩;by_cases E:gO t≠0;rw[iP E,iP E];rw[iN E] at h;by_cases I:iQ t q there≠0;rw[iP I,iP I];rw[iN I] at h;rw[iN I,iN I,iP h];rintro v U ⟨hv,f8⟩;rw[<- hv] at G;have o:=o.q9 f8;refine eF (λh=>?_) λh=>?_;rw[iP (oS h)] at G;exact o.z' 0 rfl λw9 o _=>oE o 0 rfl _ rfl (G w9 o.fr);rw[iN λg=>g (oS h)] at G;refine jd (λv w'=>v=decide (hasB (dT t) 4=true/\fM t≠li)/\Fr [] U w') ?_ ?_;have o:=o.drew;refine Mi o 3 (dT t) ?_;rw[e4];by_cases g:hasB (dT t) 4=true;rw[iP g];refine y_ (Mj o 3 (fM t) (Bg λw9 V=>?_));refine gY ((o.q9 V).cells 3) (wF ⟨?_,(Fr.refl [] U).drew.trans V⟩);by_cases e:fM t=li;rw[yA e,zU λx=>x.2 e];rfl;rw[zU e,yA ⟨g,e⟩];rfl;rw[iN g];exact x_ ⟨(zU λx=>g x.1).symm,(Fr.refl [] U).drew⟩;rintro v w9 ⟨rfl,V⟩;have o:=(o.q9 V).drew;refine eF (λh=>?_) λh=>?_;rw[iP (zC h)] at G;exact oE o 3 rfl _ rfl (o.z' 0 rfl λJ o _=>oE o 0 rfl _ rfl (G J o.fr));rw[iN (zB h)] at G;exact oE o 2 rfl _ rfl (o.z' 0 rfl λJ o _=>oE o 0 rfl _ rfl (G J o.fr))
end
end
section
def tD (x:e9):HL eu->HL eu:=λ(h,E,_,_,r)=>(h,E,x.1,x.2,r)
def tC (x:e9):HL eu->HL eu:=λ(h,E,G,I,_,_,r)=>(h,E,G,I,x.1,x.2,r)
def tA (x:e9):HL eu->HL eu:=λ(h,E,G,I,c0,c1,_,_,r)=>(h,E,G,I,c0,c1,x.1,x.2,r)
def tL (x:Int):HL eu->HL eu:=λ(h,E,G,I,c0,c1,J,O,w0,w1,g,o,_,r)=>(h,E,G,I,c0,c1,J,O,w0,w1,g,o,x,r)
def tK (x:Int):HL eu->HL eu:=λ(h,E,G,I,c0,c1,J,O,w0,w1,g,o,l,_,r)=>(h,E,G,I,c0,c1,J,O,w0,w1,g,o,l,x,r)
def tN (x:Int):HL eu->HL eu:=λ(h,E,G,I,c0,c1,J,O,w0,w1,g,o,l,k,f,_)=>(h,E,G,I,c0,c1,J,O,w0,w1,g,o,l,k,f,x)
section
variable {u:HL eu} {b x:e9} {n:Int}
def spD:d7 (mV (u,b)).toArray 2 (gx x)=(mV (tD x u,b)).toArray:=rfl
def spC:d7 (mV (u,b)).toArray 4 (gx x)=(mV (tC x u,b)).toArray:=rfl
def spA:d7 (mV (u,b)).toArray 6 (gx x)=(mV (tA x u,b)).toArray:=rfl
def spL:d7 (mV (u,b)).toArray 12 [.u n]=(mV (tL n u,b)).toArray:=rfl
def spK:d7 (mV (u,b)).toArray 13 [.int .u16 n]=(mV (tK n u,b)).toArray:=rfl
def spN:d7 (mV (u,b)).toArray 15 [.w n]=(mV (tN n u,b)).toArray:=rfl
end
section
variable {w:Md} {am:e9} {t q:HL eu} {s:Int}
def qBx{K:List Me->WP}(G:∀w',Fr [] w w'->K (mV (kL t q am s)) w'): cW 110 [LI eu t,LI eu q,df am.1 am.2,.w s] dz w K:=by refine qtr ?_;have E:=yk;refine oD (oG [] w) λr1 w1 _ V o=>oD o λr3 w2 _ f2 o=>oD o λr5 w3 _ f3 o=>oK o E λr7 w4 _ o=>Mj o 3 t (oE o 3 rfl _ rfl (tf _ (II (k:=(t,fM t)) _) (oK o E λI w5 _ o=>nc (sE _) (o.z' 0 rfl λw6 o _=>?_))));have o:=o.drew;refine Mj o 3 (fI q) (Mj o 3 (fJ q) (oB o 3 rfl _ rfl (oB o 3 rfl _ rfl ?_)));exact o.st' 0 rfl _ (spD) rfl (zO rfl) λw7 o _=>nh (o.cell 3) (o.cell 3) (o.cells 3)<|o.st' 0 rfl _ (spC) rfl (zO rfl) λw8 o _=>jU (o.cell 3) (o.cell 3)<|o.st' 0 rfl _ spL rfl (zO rfl) λw9 o _=>gY (o.cell 3)<|o.st' 0 rfl _ spK rfl (zO rfl) λJ o _=>Mj o 2 am<|o.st' 0 rfl _ (spA) rfl (zO rfl) λO o _=>o.st' 0 rfl _ spN rfl (zO rfl) λU o _=>lW (o.at (i:=0) rfl) (mV (kL t q am s)) (sE _) rfl (nc (sE _) (o.z' 1 rfl λh o _=>lW (o.at (i:=1) rfl) _ (sE _) rfl (G h o.fr)))
def qBI{K:List Me->WP}(E:∀w',Fr [] w w'->K (mV (lY t am s)) w'): cW 119 [LI eu t,df am.1 am.2,.w s] dz w K:=by refine qqd ?_;have h:=yk;refine oD (oG [] w) λr1 w1 _ J o=>oD o λr3 w2 _ O o=>oK o h λU V _ o=>Mj o 2 t (Mj o 2 (fM t) (tf (mV (t,fM t)) (II (k:=(t,fM t)) _) (oK o h λG w5 _ o=>nc (sE _) (o.z' 0 rfl λw6 o _=>?_))));refine Mj o 2 am (o.st' 0 rfl _ (spA) rfl (zO rfl) λw7 o _=>o.st' 0 rfl _ spN rfl (zO rfl) λw8 o _=>?_);exact lW (o.at (i:=0) rfl) (mV (lY t am s)) (sE _) rfl (nc (sE _) (o.z' 1 rfl λI o _=>lW (o.at (i:=1) rfl) _ (sE _) rfl (E I o.fr)))
end
end
end
variable {n i m iZ:Nat} {f:Bk->Nat->Int×Bk}
def Is(E:∀i b,i<n->R i b->R (i+1) (f b i).2):∀ {m i:Nat} {b:Bk},i+m<=n->R i b->(iR f i m b).1=none->R (i+m) (iR f i m b).2
 | 0,i,b,_,h,_=>h
 | m+1,i,b,G,h,e=>by
  unfold iR at e⊢;split
  ·next g=>rw[iP g] at e;cases e
  ·next g=>
   rw[iN g] at e;rw[show i+(m+1)=i+1+m by omega];exact Is E oL (E i b oL h) e
def qxR(I:∀i b,i<n->R i b->R (i+1) (f b i).2)(E:∀i j b,i<=j->R i b->R j b){c:My}(G:c.1<=c.2.1)(J:c.2.1<=n)(h:R c.1 b):R c.2.1 (jO f b c).1:=by
 unfold jO;split;exact E _ _ _ G h
 ·split
  ·next b1 e=>
   have:=Is I (m:=c.2.1-c.1) oL h (by rw[e]);rw[e,show c.1+(c.2.1-c.1)=c.2.1 by omega] at this;exact this
  exact E _ _ _ G h
def Row (n:Nat):Nat->List (My)->Prop
 | i,[]=>i=n
 | i,c::r=>c.1=i/\c.1<c.2.1/\Row n c.2.1 r
def Row.le:∀ {l:List (My)} {i:Nat},Row n i l->i<=n
 | [],i,h=>Nat.le_of_eq h
 | c::r,i,h=>by have:=h.2.2.le;have:=h.1;have:=h.2.1;omega
def Ie:∀ {l:List Bool} {iZ i:Nat},iZ<=i->l≠[]->Row (i+l.length) iZ (gE iZ i l)
 | [x],iZ,i,h,_=>⟨rfl,by show iZ<i+1;omega,rfl⟩
 | x::y::r,iZ,i,h,_=>by unfold gE;have e:i+(x::y::r).length=i+1+(y::r).length:=(by simp only[yI];omega);rw[e];split;exact Ie oL λh=>nomatch h;exact⟨rfl,by show iZ<i+1;omega,Ie (zM _) λh=>nomatch h⟩
def CS(l:List Bool):Row l.length 0 (gE 0 0 l):=by
 cases l with
 | nil=>rfl
 | cons x r=>have:=Ie (l:=x::r) (zM 0) λh=>nomatch h;rw[xQ] at this;exact this
def KA(I:∀i b,i<n->R i b->R (i+1) (f b i).2)(E:∀i j b,i<=j->R i b->R j b):∀ {l:List (My)} {i:Nat} {b:Bk},Row n i l->R i b->R n (fD f b l).1
 | [],i,b,h,G=>by cases h;exact G
 | c::r,i,b,h,G=>by obtain⟨rfl,O,J⟩:=h;show R n (fD f (jO f b c).1 r).1;exact KA I E J (qxR I E (Nat.le_of_lt O) J.le G)
def qr6{at_:Nat}(h:iZ<i):iC iZ i at_ v≠[]:=λe=>by
 have:=Ma List.length e;unfold iC at this;rw[zK,length_range'] at this;simp at this;omega
def IX(J:∀i b,i<n->R i b->(f b i).1=0->R (i+1) (f b i).2):∀ {l:List (My)} {i:Nat} {b:Bk},Row n i l->R i b->(fD f b l).2=[]->R n (fD f b l).1/\∀c∈l,c.2.2=false
 | [],i,b,h,G,_=>by cases h;exact⟨G,λ_ h=>nomatch h⟩
 | c::r,i,b,h,G,e=>by
  obtain⟨rfl,O,U⟩:=h;have E:∀ {m i:Nat} {b:Bk},i+m<=n->R i b->(iR f i m b).1=none->R (i+m) (iR f i m b).2:=by
   intro m;induction m with
   | zero=>intro i b _ h _;exact h
   | succ m ih=>
    intro i b hi h e;unfold iR at e⊢;split
    ·next g=>rw[iP g] at e;cases e
    ·next g=>
     rw[iN g] at e;rw[show i+(m+1)=i+1+m by omega];exact ih oL (J i b oL h (Decidable.not_not.1 g)) e
  unfold fD at e⊢;obtain⟨e1,e2⟩:=append_eq_nil_iff.1 e;have V:R c.2.1 (jO f b c).1/\c.2.2=false:=by
   unfold jO at e1⊢;split
   ·next g=>rw[iP g] at e1;exact absurd e1 (qr6 O)
   ·next g=>
    rw[iN g] at e1;have hl:=U.le;cases I:iR f c.1 (c.2.1-c.1) b with
    | mk o b1=>
     cases o with
     | none=>
      have:=E (m:=c.2.1-c.1) oL G (by rw[I]);rw[I,show c.1+(c.2.1-c.1)=c.2.1 by omega] at this;exact⟨this,by simpa using g⟩
     | some z=>rw[I] at e1;exact absurd e1 (qr6 O)
  have ih:=IX J U V.1 e2;exact⟨ih.1,λd hd=>(zG.1 hd).elim (λe=>by rw[e];exact V.2) (ih.2 d)⟩
def Jo(G:∀i b',i<n->b'=b->f b' i=(16,b')):∀ {l:List (My)} {i:Nat},Row n i l->(∀c∈l,c.2.2=false)->(fD f b l).1=b/\(fD f b l).2.length=n-i/\∀(j:Nat) (x:Mo),(fD f b l).2[j]?=some x->x.1=((i+j:Nat):Int)/\(x.2=16\/x.2=1)
 | [],i,h,_=>by cases h;exact⟨rfl,by unfold fD;simp,λj x E=>by unfold fD at E;simp at E⟩
 | c::r,i,h,I=>by
  obtain⟨rfl,h1,J⟩:=h;have hl:=J.le;have e:jO f b c=(b,iC c.1 c.2.1 c.1 16):=by unfold jO;rw[iN (by rw[I c oN];exact λh=>nomatch h)];obtain⟨m,O⟩:∃m,c.2.1-c.1=m+1:=⟨c.2.1-c.1-1,oL⟩;rw[O];unfold iR;rw[G c.1 b oL rfl,iP (show (16:Int)≠0 by decide)]
  obtain⟨U,V,i3⟩:=Jo G J λd hd=>I d (zN _ hd);unfold fD;rw[e];dsimp only;have len:(iC c.1 c.2.1 c.1 16).length=c.2.1-c.1:=(by unfold iC;rw[zK,length_range']);refine⟨U,by rw[zF,len,V];omega,λj x E=>?_⟩;by_cases hj:j<c.2.1-c.1;rw[yZ (by rw[len];exact hj)] at E;unfold iC at E;rw[zQ,List.getElem?_range' oL] at E;cases E;refine⟨by dsimp only;rw[Nat.one_mul],?_⟩;dsimp only;split;exact .inl rfl;exact .inr rfl;rw[yY (by rw[len];omega),len] at E
  have:=i3 _ _ E;rw[show c.2.1+(j-(c.2.1-c.1))=c.1+j by omega] at this;exact this
variable {n first:Int} {c k:Nat} {A T:List e9} {q:Nat×Nat×Gh}
def lh.iK(h:lh n b):lh n (b.iK z):=⟨by obtain⟨T,g⟩:=h.hb;exact⟨_,g.iK⟩,h.wG,h.A9,h.lP,h.rz,h.lim,h.due,h.tk,h.Cn⟩
def qCv:(pX b d s).gL=b.gL/\(pX b d s).due=lX d b.due/\(pX b d s).last=b.last/\(pX b d s).cm=b.cm:=by obtain⟨s1,s2,G,E,I,J,O,h⟩:=DJ;exact⟨s2,Ma _ E,h.1,h.2⟩
def yg.rest{r:List (HL kK)}(h:yg l)(E:(d::r).Sublist l):r.Sublist (lX d l):=by
 have:=E.filter λx=>decide (pR x≠pR d);rw[filter_cons,iN oN,show r.filter (λx=>decide _)=r from qpw λx G e=>by
  have:=Hh.1 ((yJ.1 (h.sublist E)).1 x G);rw[e] at this;omega] at this
 exact this
structure Pls (b b':Bk):Prop where
 cost:b'.cost<=b.cost
 gL:b'.gL=b.gL
 last:b'.last=b.last
 cm:b'.cm=b.cm
 acc:∀ j,(dZ b' j).isSome=(dZ b j).isSome
def lh.uA:∀ {l:List (HL kK)} {b:Bk} {z:Int},lh n b->l.Sublist b.due->b.cost+146<=3*c->lH z->px c b l z/\lh n (lO b l z)/\Pls b (lO b l z)
 | [],b,z,h,_,_,_=>⟨trivial,h,zM _,rfl,rfl,rfl,λ_=>rfl⟩
 | d::r,b,z,h,G,hc,J=>by
  have I:d∈b.due:=G.subset LQ;obtain⟨O,L,U,V⟩:=h.one I J;obtain⟨e1,e2,e3,e4⟩:=qCv (b:=b) (d:=d) (s:=z);obtain⟨i1,i2,E⟩:=lh.uA (l:=r) (z:=(z+1)%18446744073709551616) L (by rw[e2];exact h.due.rest G) oL ⟨oL,oL⟩;have:=Bk.mQ (b:=b);exact⟨⟨⟨I,O,oL⟩,i1⟩,i2,zL E.cost U,E.gL.trans e1,E.last.trans e3,E.cm.trans e4,λj=>(E.acc j).trans (V j)⟩
def H5{J0 most:Int}:(lp l J0 most).Sublist l:=(take_sublist _ _).trans filter_sublist
structure Rn (b:Bk) (first:Int) (A T:List e9) (i:Nat) (b':Bk):Prop where
 lg:lh (first+i) b'
 cost:b'.cost<=b.cost+13*i
 last:b'.last=b.last
 cm:b'.cm=b.cm
 acc:∀ j,(dZ b' j).isSome=true->j∈A
 gL:∀ j,(eM b' j).isSome=true->j∈T
def Rn.mono(i j:Nat)(b':Bk)(E:i<=j)(h:Rn b first A T i b'):Rn b first A T j b':=⟨h.lg.mono oL,by have:=h.cost;omega,h.last,h.cm,h.acc,h.gL⟩
def Rn.kX(h:Rn b first A T i b')(J:dV eu t)(O:gb t∈T)(U:lH (first+i)):Rn b first A T (i+1) (kX b' t (first+i)).2:=by
 obtain⟨L,hc,E⟩:=h.lg.BQ J (Int.le_refl _) U;have h1:=h.cost;have I:lh (first+((i+1:Nat):Int)) (Proofs.YtcnddmfogfebiaaGreatDoor.kX b' t (first+i)).2:=L.mono oL;by_cases e:(Proofs.YtcnddmfogfebiaaGreatDoor.kX b' t (first+i)).1=0
 ·have E:=E e;obtain⟨k,V,ki,_,_⟩:=E.gL;refine⟨I,oL,E.last.trans h.last,E.cm.trans h.cm,λj G=>h.acc j (by rw[<- E.acc j];exact G),λj G=>?_⟩;have e2:eM (Proofs.YtcnddmfogfebiaaGreatDoor.kX b' t (first+i)).2 j=if kV k=j then some k else eM b' j:=by unfold eM;rw[V];exact Df
  rw[e2] at G;split at G
  ·next e=>rw[<- e,ki];exact O
  exact h.gL j G
 have es:=Ij e;rw[es] at I⊢;exact⟨I,oL,h.last,h.cm,h.acc,h.gL⟩
def Rn.mD(h:Rn b first A T i b')(G:dV eH a)(I:fP a∈A)(J:lH (first+i)):Rn b first A T (i+1) (mD b' a (first+i)).2:=by
 obtain⟨L,O,U⟩:=h.lg.yh (s:=first+i) G J;have h1:=h.cost;by_cases e:(Proofs.YtcnddmfogfebiaaGreatDoor.mD b' a (first+i)).1=0
 ·obtain⟨_,_,_,V⟩:=U e;rw[V] at L O⊢;refine⟨L.mono oL,oL,h.last,h.cm,λj E=>?_,h.gL⟩;rw[show dZ (b'.fp (js (first+i) a)) j=if fP a=j then some (js (first+i) a) else dZ b' j from BN] at E;split at E
  ·next e=>rw[<- e];exact I
  exact h.acc j E
 rw[Kr e];exact⟨h.lg.mono oL,oL,h.last,h.cm,h.acc,h.gL⟩
abbrev rB:=List (HL eH)×List (HL eu)×Int
def fT (l:List (HL eu)) (first:Int) (b:Bk) (i:Nat):Int×Bk:=kX b (l.getD i nE.1) (first+i)
def fA (l:List (HL eH)) (first:Int) (b:Bk) (i:Nat):Int×Bk:=mD b (l.getD i iV) (first+i)
def sL (t:HL eu):Bool:=hasB (dT t) 1
def sM (a:HL eH):Bool:=hasB (eJ a) 1
def runT (b:Bk) (first:Int) (l:List (HL eu)):Bk×List (Mo):=jp (fT l first) b first (l.map sL)
def mr (b:Bk) (first:Int) (l:List (HL eH)):Bk×List (Mo):=jp (fA l first) b first (l.map sM)
def nJ (b:Bk) (first:Int):Bk×Int:=let l:=lp b.due first 16;if l=[] then (b,0) else ((lO b l first).iK (first+l.length-1),l.length)
def gH (b:Bk):Int:=b.last.getD 0
def qU (b:Bk) (x:rB):Bk×List (Mo)×Int:=
 let first:=gH b+1+x.2.2
 if x.1≠[] then ((mr b first x.1).1,(mr b first x.1).2,0) else if x.2.1≠[] then ((runT b first x.2.1).1,(runT b first x.2.1).2,0) else ((nJ b first).1,[],(nJ b first).2)
structure rg (x:rB):Prop where
 acc:x.1.length<=30
 gL:x.2.1.length<=30
 m7:∀ a∈x.1,dV eH a
 qD:∀ t∈x.2.1,dV eu t
 later:0<=x.2.2/\x.2.2<65536
structure qi (q:Nat×Nat×Gh) (A T:List e9) (m:Nat) (b:Bk):Prop where
 lg:lh (gH b+1) b
 last:0<=gH b/\gH b<=70000*m
 cost:b.cost<=390*m
 cm:b.cm=q
 acc:∀ j,(dZ b j).isSome=true->j∈A
 gL:∀ j,(eM b j).isSome=true->j∈T
def qi.more{A' T':List e9}(h:qi q A T m b)(G:∀j∈A,j∈A')(I:∀j∈T,j∈T'):qi q A' T' m b:=⟨h.lg,h.last,h.cost,h.cm,λj E=>G j (h.acc j E),λj E=>I j (h.gL j E)⟩
def qi.rn(h:qi q A T m b)(E:gH b+1<=first):Rn b first A T 0 b:=⟨h.lg.mono oL,oL,rfl,rfl,h.acc,h.gL⟩
def Em{α:Type}{l:List α}{d:α}(h:i<l.length):l.getD i d∈l:=by rw[yR,zA h];exact zW h
def qi.ze{E:List Bool}(h:qi q A T m b)(G:E.length=k)(J:0<k)(O:k<=30)(U:gH b+1<=first/\first<=gH b+65536)(V:∀i b',i<k->Rn b first A T i b'->Rn b first A T (i+1) (f b' i).2):qi q A T (m+1) (jp f b first E).1:=by
 have r:=KA V (Rn.mono) (by rw[<- G];exact CS E) (h.rn U.1);unfold jp;have I:E≠[]:=λe=>by rw[e] at G;simp at G;omega
 rw[iN I,G];have h2:=h.last;have h3:=h.cost;have h4:=r.cost;exact⟨r.lg.iK.mono (by show first+k<=first+k-1+1;omega),⟨by show 0<=first+k-1;omega,by show first+k-1<=_;omega⟩,by show Bk.cost _<=_;exact zL h4 oL,r.cm.trans h.cm,r.acc,r.gL⟩
def qi.runT(h:qi q A T m b){l:List (HL eu)}(J:l≠[])(I:l.length<=30)(G:∀t∈l,dV eu t)(O:∀t∈l,gb t∈T)(U:gH b+1<=first/\first<=gH b+65536)(hm:m<=40):qi q A T (m+1) (runT b first l).1:=by have h2:=h.last;refine h.ze (k:=l.length) (by rw[zK]) (length_pos_iff.2 J) I U λi b' V r=>?_;have E:=Em (d:=nE.1) V;exact r.kX (G _ E) (O _ E) ⟨oL,oL⟩
variable {l:List (HL eH)} {x room:Int} {B:Mk}
def qi.mr(h:qi q A T m b)(J:l≠[])(I:l.length<=30)(G:∀t∈l,dV eH t)(O:∀t∈l,fP t∈A)(U:gH b+1<=first/\first<=gH b+65536)(hm:m<=40):qi q A T (m+1) (mr b first l).1:=by have h2:=h.last;refine h.ze (k:=l.length) (by rw[zK]) (length_pos_iff.2 J) I U λi b' V r=>?_;have E:=Em (d:=iV) V;exact r.mD (G _ E) (O _ E) ⟨oL,oL⟩
def qi.uA(h:qi q A T m b)(hf:gH b+1<=first/\first<=gH b+65536)(hm:m<=17)(hc:6792<=3*c):px c b (lp b.due first 16) first/\qi q A T (m+1) (nJ b first).1:=by
 have I:=h.last;have h3:=h.cost;obtain⟨J,O,E⟩:=h.lg.uA (c:=c) (z:=first) (H5) oL ⟨oL,oL⟩;refine⟨J,?_⟩;unfold nJ;dsimp only;split;exact (show qi q A T _ b from⟨h.lg,⟨I.1,oL⟩,oL,h.cm,h.acc,h.gL⟩)
 ·next e=>
  have U:=length_pos_iff.2 e;have V:(lp b.due first 16).length<=b.due.length:=H5.length_le;have l3:4*b.due.length<=b.cost:=(by unfold Bk.cost;omega);generalize (lp b.due first 16).length=k at U V⊢;have h4:=E.cost;exact⟨O.iK.mono (by show gH b+1<=first+k-1+1;omega),⟨by show 0<=first+k-1;omega,by show first+k-1<=_;omega⟩,by show Bk.cost (lO _ _ _)<=_;omega,E.cm.trans h.cm,λj G=>h.acc j (by rw[<- E.acc j];exact G),λj G=>h.gL j (by rw[qA3 E.gL.symm];exact G)⟩
def qi.step(h:qi q A T m b){x:rB}(E:rg x)(I:m<=17)(J:∀a∈x.1,fP a∈A)(O:∀t∈x.2.1,gb t∈T):qi q A T (m+1) (qU b x).1:=by
 have U:=E.later;have G:gH b+1<=gH b+1+x.2.2/\gH b+1+x.2.2<=gH b+65536:=⟨oL,oL⟩;unfold qU;split
 ·next e=>exact h.mr e E.acc E.m7 J G oL
 ·split
  ·next e=>exact h.runT e E.gL E.qD O G oL
  exact (h.uA (c:=2264) G I oO).2
def lh.nil:lh 1 (BA q):=⟨⟨_,qzV q⟩,λ_ h=>(nomatch h),λ_ h=>(nomatch h),λ_ h=>(nomatch h),λ_ _ h=>(nomatch h),λ_ _ h=>(nomatch h),List.Pairwise.nil,λd=>⟨λh=>(nomatch h),λ⟨_,h,_⟩=>(nomatch h)⟩,λ_ h=>(nomatch h)⟩
def qi.nil:qi q A T 0 (BA q):=⟨lh.nil,⟨Int.le_refl _,Int.le_refl _⟩,zM _,rfl,λ_ h=>(nomatch h),λ_ h=>(nomatch h)⟩
def Cw (l:List rB):List e9:=l.flatMap λx=>x.1.map fP
def BZ (l:List rB):List e9:=l.flatMap λx=>x.2.1.map gb
def qY (q:Nat×Nat×Gh) (l:List rB):Bk:=l.foldl (λb x=>(qU b x).1) (BA q)
def qqa{l:List rB}(h:i<l.length):qY q (l.take (i+1))=(qU (qY q (l.take i)) l[i]).1:=by unfold qY;rw[yG h,foldl_append];rfl
def Kg{l:List rB}(E:∀x∈l,rg x)(G:l.length<=15):∀i,i<=l.length->qi q (Cw l) (BZ l) i (qY q (l.take i))
 | 0,_=>qi.nil
 | i+1,O=>by rw[qqa oL];have h:l[i]∈l:=zW oL;exact (Kg E G i oL).step (E _ h) oL (λa I=>yK.2 ⟨_,h,zY I⟩) λt J=>yK.2 ⟨_,h,zY J⟩
def qEY:∀n:Fin 256,bits .and .u16 (n.val:Int) 12=(if hasB (n.val:Int) 4 then 4 else 0)+(if hasB (n.val:Int) 8 then 8 else 0):=zC oM
def qD7:∀n:Fin 256,(bits .and .u16 (n.val:Int) 242==0) = !(hasB (n.val:Int) 2||hasB (n.val:Int) 16||hasB (n.val:Int) 32||hasB (n.val:Int) 64||hasB (n.val:Int) 128):=zC oM
def Ky(h:0<=x/\x<=255):bits .and .u16 x 12=(if hasB x 4 then 4 else 0)+(if hasB x 8 then 8 else 0):=by obtain⟨n,rfl⟩:=Int.eq_ofNat_of_zero_le h.1;exact qEY ⟨n,oL⟩
def qEE(h:0<=x/\x<=255):(bits .and .u16 x 242==0) = !(hasB x 2||hasB x 16||hasB x 32||hasB x 64||hasB x 128):=by obtain⟨n,rfl⟩:=Int.eq_ofNat_of_zero_le h.1;exact qD7 ⟨n,oL⟩
def qBq(E:∀w',Fr [] w w'->K (mX t) w'):cW 67 [LI eu t] dm w K:=by refine qoQ ?_;unfold mX at E;refine oD (oG [] w) λr1 w1 _ I o=>Mi o 0 (kR t) (eF (λh=>?_) λh=>?_);rw[iP (oS h)] at E;exact E w1 o.fr;rw[iN λg=>g (oS h)] at E;refine Mi o 0 (dT t) (eF (λh=>?_) λh=>?_);rw[iP (zC h)] at E;exact E w1 o.fr;rw[iN (zB h)] at E;refine Mj o 0 (gb t) (vg (b:=(0,0)) (eF (λh=>?_) λh=>?_));rw[iP (zC h)] at E;exact E w1 o.fr;rw[iN (zB h)] at E;have o:=o.drew;refine Mj o 0 (gb t) (Bg λw2 G=>?_);have o:=o.q9 G;refine gY (o.cells 0) (vg (eF (λh=>?_) λh=>?_));rw[iP (zC h)] at E;exact E w2 o.fr;rw[iN (zB h)] at E;exact E w2 o.fr
def qBr(O:0<=dT t/\dT t<=255)(V:∀w',Fr [] w w'->K (jz t) w'):cW 69 [LI eu t] dm w K:=by
 refine qoR ?_;have e1:=Ky O;have U:=qEE O;refine oD (oG [] w) λr1 w1 _ f1 o=>qW (decide (jz t=17)) w1 (λM h=>Mi o 0 (dT t) ?_) ?_;unfold jz gr at h;rw[e1];cases E:hasB _ 4<;>cases G:hasB _ 8<;>rw[E,G] at h;exact x_ (Mi o 0 (dT t) (by rw[e1,E,G];exact x_ h));refine x_ (Mi o 0 (dT t) ?_);rw[e1,E,G];refine y_ (Mi o 0 (dT t) ?_);rw[U,Bool.not_not];generalize (hasB _ 2||hasB _ 16||hasB _ 32||hasB _ 64||hasB _ 128)=c at h⊢;cases c<;>exact h;refine x_ (Mi o 0 (dT t) ?_);rw[e1,E,G];refine y_ (Mi o 0 (dT t) ?_);rw[U,Bool.not_not];generalize (hasB _ 2||hasB _ 16||hasB _ 32||hasB _ 64||hasB _ 128)=c at h⊢;cases c<;>exact h;exact y_ h;have I:jz t=17\/jz t=0:=by unfold jz;split<;>simp
 have:=V w1 o.fr;refine eF (λJ=>?_) λJ=>?_;rw[zC J] at this;exact this;rw[I.resolve_left (zB J)] at this;exact this
section
variable {α β κ:Type} {f:e9->Option α} {x:α}
end
def Ku(h:0<=dT t/\dT t<=255):(!bits .and .u16 (dT t) 12==0)=gr t:=by rw[Ky h];unfold gr;cases hasB _ 4<;>cases hasB _ 8<;>rfl
def JR{α:Type}[DecidableEq α]{none E there:α}:nm t none E there=if decide (gr t=true/\E=none)=true then there else E:=by unfold nm;by_cases h:gr t=true/\E=none;rw[iP h,iP (yA h)];rw[iN h,iN (by rw[zU h];exact λh=>nomatch h)]
def qpB{E there:e9}{K:e9->WP}(V:0<=dT t/\dT t<=255)(G:∀w',Fr [] w w'->K (nm t (0,0) E there) w'): cW 102 [LI eu t,df E.1 E.2,df there.1 there.2] [.agg dg] w K:=by
 refine qlF ?_;rw[JR] at G;refine oD (oG [] w) λr1 w1 _ f1 o=>oD o λr3 w2 _ f2 o=>oD o λr5 w3 _ f3 o=>oD o λr7 w4 _ f4 o=>oD o λr9 w5 _ f5 o=>qW (decide (gr t=true/\E=(0,0))) w5 (λM I=>Mi o 4 (dT t) ?_) (eF (λJ=>?_) λJ=>?_);rw[Ku V];cases U:gr t with
 | false=>rw[U,zU λh=>nomatch h.1] at I;exact x_ I
 | true=>
  rw[U] at I;refine y_ (Mj o 3 E (Mj o 0 (0,0) (vg ?_)));rw[show decide _=decide (E=(0,0)) by rw[LM];exact⟨λh=>h.2,λh=>⟨rfl,h⟩⟩] at I;exact I
 rw[iP J] at G;exact Mj o 2 there (o.z' 1 rfl λO o _=>Mj o 1 there (G O o.fr));rw[iN (by rw[J];exact λh=>nomatch h)] at G;exact Mj o 3 E (o.z' 1 rfl λO o _=>Mj o 1 E (G O o.fr))
def qxZ{E there:Int}(U:0<=dT t/\dT t<=255)(G:∀w',Fr [] w w'->K (nm t 0 E there) w'): cW 103 [LI eu t,.u E,.u there] dm w K:=by
 refine qlE ?_;rw[JR] at G;refine oD (oG [] w) λr1 w1 _ V o=>qW (decide (gr t=true/\E=0)) w1 (λM I=>Mi o 0 (dT t) ?_) (eF (λJ=>?_) λJ=>?_);rw[Ku U];cases O:gr t with
 | false=>rw[O,zU λh=>nomatch h.1] at I;exact x_ I
 | true=>
  rw[O,show decide _=(E==0) by by_cases e:E=0<;>simp[e]] at I;exact y_ I
 rw[iP J] at G;exact G w1 o.fr;rw[iN (by rw[J];exact λh=>nomatch h)] at G;exact G w1 o.fr
def qxY{E there:Int}(U:0<=dT t/\dT t<=255)(G:∀w',Fr [] w w'->K (nm t 0 E there) w'): cW 104 [LI eu t,.int .u16 E,.int .u16 there] [.one (.int .u16)] w K:=by
 refine qlD ?_;rw[JR] at G;refine oD (oG [] w) λr1 w1 _ V o=>qW (decide (gr t=true/\E=0)) w1 (λM I=>Mi o 0 (dT t) ?_) (eF (λJ=>?_) λJ=>?_);rw[Ku U];cases O:gr t with
 | false=>rw[O,zU λh=>nomatch h.1] at I;exact x_ I
 | true=>
  rw[O,show decide (true=true/\E=0)=(E==0) by by_cases e:E=0<;>simp[e]] at I;exact y_ I
 rw[iP J] at G;exact G w1 o.fr;rw[iN (by rw[J];exact λh=>nomatch h)] at G;exact G w1 o.fr
def uY{y:Int}{A B:Prop}(E:x≠y->A)(G:¬x≠y->B):cond (!x==y) A B:=eF (λh=>E (oS h)) λh=>G (oS h)
def Fv{α:Type}[DecidableEq α]{x y:α}{A B:Prop}(E:x≠y->A)(G:¬x≠y->B):cond (!decide (x=y)) A B:=eF (λh=>E (oS h)) λh=>G (oS h)
def qBi{k:Kp}(G:0<=dT t/\dT t<=255)(E:∀w',Fr [] w w'->K (kY t k) w'): cW 68 [LI eu t,.agg (mV k).toArray] dm w K:=by refine qoO ?_;unfold kY at E;refine oD (oG [] w) λr1 w1 _ f1 o=>oD o λr3 w2 _ f2 o=>Mj o 0 k.1 (oD o λr6 w3 _ f3 o=>o.z' 0 rfl λI o _=>?_);refine Mi o 2 (dT t) (Mi o 0 (dT k.1) (uY (λh=>?_) λh=>?_));rw[iP h] at E;exact E I o.fr;rw[iN h] at E;refine Mj o 2 (iB t) (Mj o 0 (iB k.1) (wF (Fv (λh=>?_) λh=>?_)));rw[iP h] at E;exact E I o.fr;rw[iN h] at E;refine Mi o 2 (kQ t) (Mi o 0 (kQ k.1) (uY (λh=>?_) λh=>?_));rw[iP h] at E;exact E I o.fr;rw[iN h] at E;have o:=o.drew;refine Mj o 2 t (Mj o 2 (fI t) (Mj o 0 (fI k.1) (Mj o 0 (fI k.1) (qpB G λU V=>?_))));have o:=o.q9 V;refine gY (o.cells 0) (wF (Fv (λh=>?_) λh=>?_));rw[iP h] at E;exact E U o.fr;rw[iN h] at E;have o:=o.drew;refine Mj o 2 t (Mj o 2 (fJ t) (Mj o 0 (fJ k.1) (Mj o 0 (fJ k.1) (qpB G λJ f6=>?_))));have o:=o.q9 f6;refine gY (o.cells 0) (wF (Fv (λh=>?_) λh=>?_));rw[iP h] at E;exact E J o.fr;rw[iN h] at E;refine Mj o 2 (fM t) (Mj o 1 k.2 (wF (Fv (λh=>?_) λh=>?_)));rw[iP h] at E;exact E J o.fr;rw[iN h] at E;refine Mi o 2 (wE t) (Mi o 0 (wE k.1) (uY (λh=>?_) λh=>?_));rw[iP h] at E;exact E J o.fr;rw[iN h] at E;have o:=o.drew;refine Mj o 2 t (Mi o 2 (mc t) (Mi o 0 (mc k.1) (Mi o 0 (mc k.1) (qxZ G λw7 f7=>?_))));have o:=o.q9 f7;refine gY (o.cell 0) (uY (λh=>?_) λh=>?_);rw[iP h] at E;exact E w7 o.fr;rw[iN h] at E;have o:=o.drew;refine Mj o 2 t (Mi o 2 (mz t) (Mi o 0 (mz k.1) (Mi o 0 (mz k.1) (qxY G λO f8=>?_))));have o:=o.q9 f8;refine gY (o.cell 0) (uY (λh=>?_) λh=>?_);rw[iP h] at E;exact E O o.fr;rw[iN h] at E;exact E O o.fr
def vc (t:HL eu) (n:Int) (p:Pa) (am:e9) (room:Int):List Me:=HL.mk eu t++([.w n]++kJ p++[.w am.1,.w am.2,.u room])
def Do:(vc t n p am room).length=52:=rfl
def E4{α:Type}[DecidableEq α]{x y:α}{A B:Prop}(E:x=y->A)(G:¬x=y->B):cond (decide (x=y)) A B:=eF (λh=>E (oS h)) λh=>G (oS h)
def qCq(E:∀w',Fr [] w w'->K (pY t) w'):cW 173 [.agg (vc t n p am room).toArray] dm w K:=by refine qhC ?_;unfold pY at E;refine oD (oG [] w) λr1 w1 _ O o=>Mj o 0 (fI t) (vg (b:=(0,0)) (E4 (λh=>?_) λh=>?_));rw[iP h] at E;exact E w1 o.fr;rw[iN h] at E;have o:=o.drew;refine Mj o 0 (fI t) (Bg λw2 I=>?_);have o:=o.q9 I;refine gY (o.cells 0) (vg (E4 (λh=>?_) λh=>?_));rw[iP h] at E;exact E w2 o.fr;rw[iN h] at E;refine Mj o 0 (fJ t) (vg (b:=(0,0)) (E4 (λh=>?_) λh=>?_));rw[iP h] at E;exact E w2 o.fr;rw[iN h] at E;have o:=o.drew;refine Mj o 0 (fJ t) (Bg λG J=>?_);have o:=o.q9 J;refine gY (o.cells 0) (vg (E4 (λh=>?_) λh=>?_));rw[iP h] at E;exact E G o.fr;rw[iN h] at E;refine Mj o 0 (fI t) (Mj o 0 (fJ t) (vg (E4 (λh=>?_) λh=>?_)));rw[iP h] at E;exact E G o.fr;rw[iN h] at E;exact E G o.fr
def qx0{K:Bool->WP}(E:∀w',Fr [] w w'->K (decide (room=42\/room=43)) w'):cW 228 [.agg (vc t n p am room).toArray] dk w K:=by
 refine qf3<|oD (oG [] w) λr1 w1 _ G o=>Mi o 0 room ?_
 have:=E w1 o.fr;by_cases h:room=42;rw[yA (.inl h)] at this;exact LJ (by simp[h]) this;rw[show decide _=(room==43) by by_cases e:room=43<;>simp[h,e]] at this;exact LK (by simp[h]) (Mi o 0 room this)
def qEp(J:dV eu t)(O:lH n)(E:∀w',Fr [] w w'->K (tO t n room) w'):cW 176 [.agg (vc t n p am room).toArray] dm w K:=by refine qip ?_;unfold tO at E;have U:0<=kQ t/\kQ t<=4294967295:=J.2.2.2.2.2.2.2.2.2.2.2.1;refine oD (oG [] w) λr1 w1 _ V o=>jd (λv w'=>v=decide (room≠0/\room≠42/\room≠43)/\Fr [] w1 w') (Mi o 0 room (uY (λh=>?_) λh=>?_)) ?_;refine lW (o.at (i:=0) rfl) _ Do rfl (qx0 λw2 I=>⟨?_,I⟩);by_cases e:room=42\/room=43;rw[yA e,zU λg=>e.elim g.2.1 g.2.2];rfl;rw[zU e,yA ⟨h,λg=>e (.inl g),λg=>e (.inr g)⟩];rfl;exact⟨(zU λg=>h g.1).symm,.refl _ _⟩;rintro v w2 ⟨rfl,I⟩;have o:=o.q9 I;refine eF (λG=>?_) λG=>?_;rw[iP (zC G)] at E;exact Mi o 0 room (E w2 o.fr);rw[iN (zB G)] at E;refine Mi o 0 (kQ t) (Mi o 0 n ?_);rw[qV _ ⟨oL,oL⟩,qV _ ⟨oL,oL⟩];refine eF (λG=>?_) λG=>?_;rw[iP (zC G)] at E;exact E w2 o.fr;rw[iN (zB G)] at E;exact Mi o 0 room (E w2 o.fr)
def qDt(J:dV eH p.1)(I:dV eH p.2.1)(E:∀w',Fr [] w w'->K (rV t p) w'):cW 175 [.agg (vc t n p am room).toArray] dm w K:=by
 refine qfA ?_;unfold rV at E;have e1:bits .and .u16 (eJ p.1) 16=if hasB (eJ p.1) 16 then 16 else 0:=qL 4 (sC J) oO
 have O:bits .and .u16 (eJ p.2.1) 16=if hasB (eJ p.2.1) 16 then 16 else 0:=qL 4 (sC I) oO
 refine oD (oG [] w) λr1 w1 _ U o=>Mi o 0 p.2.2.1 (eF (λG=>?_) λG=>?_);rw[iP (oS G)] at E;exact E w1 o.fr;rw[iN (oS G)] at E;refine Mi o 0 p.2.2.2 (eF (λG=>?_) λG=>?_);rw[iP (oS G)] at E;exact E w1 o.fr;rw[iN (oS G)] at E;refine Mi o 0 (jM p.1) (Mi o 0 (jM p.2.1) (uY (λh=>?_) λh=>?_));rw[iP h] at E;exact E w1 o.fr;rw[iN h] at E;refine Mi o 0 (mc t) (Mi o 0 (jM p.1) (uY (λh=>?_) λh=>?_));rw[iP h] at E;exact E w1 o.fr;rw[iN h] at E;refine Mi o 0 (eJ p.1) ?_;rw[e1];by_cases h1:hasB (eJ p.1) 16;rw[iP h1] at E⊢;exact y_ (E w1 o.fr);rw[iN h1] at E⊢;refine x_ (Mi o 0 (eJ p.2.1) ?_);rw[O];by_cases h2:hasB (eJ p.2.1) 16;rw[iP h2] at E⊢;exact y_ (E w1 o.fr);rw[iN h2] at E⊢;exact x_ (E w1 o.fr)
abbrev rh:Bool->List Me:=λb=>[.bool b]
def K0:∀x,(rh x).length=1:=λ_=>rfl
abbrev lG:Mo->List Me:=λx=>[.u x.1,.u x.2]
def DV:∀x,(lG x).length=2:=λ_=>rfl
def qr3(x:Mo):∀u∈lG x,u.oneCell'=true:=λu h=>by rcases zG.1 h with rfl|h;rfl;rw[zE.1 h];rfl
abbrev HQ:Mf:=66
abbrev vz:Mf:=53
def qz0:∃i,prog.info? HQ=some i/\i.zero=some (.agg #[.u 0,.u 0])/\i.size=2/\i.bytes=8:=yy oM
def qEP:∃i,prog.info? 4=some i/\i.zero=some (.bool false)/\i.size=1/\i.bytes=1:=yy oM
variable {K:Sl->WP} {s:Sl} {r t f:Nat}
def qE9{l:List (Mo)}{x:Mo}(h:eZ lG 2 w s l B)(V:l.length<=1000000)(J:∀I B' w',eZ lG 2 w' I (l++[x]) B'->Fr B w w'->(∀b∈B',b∈B\/w.z<=b)->K I w'): Pt.new (.cells #[.u x.1,.u x.2] HQ) w λr w1=>Pt.run di ((Builtin.append_ #[vz,vz] vz #[s.v,.slice (pW r) 1 1]).run prog w1) K:=by obtain⟨j,O,U,E,G⟩:=qz0;exact eZ.push h DV (qr3 x) oM O U E rfl rfl (by rw[G];omega) oL J
def qAw{l:List Bool}{x:Bool}(h:eZ rh 1 w s l B)(hl:l.length<=1000000)(J:∀I B' w',eZ rh 1 w' I (l++[x]) B'->Fr B w w'->(∀b∈B',b∈B\/w.z<=b)->K I w'): Pt.new (.cells #[.bool x] 4) w λr w1=>Pt.run di ((Builtin.append_ #[103,103] 103 #[s.v,.slice (pW r) 1 1]).run prog w1) K:=by obtain⟨j,O,U,E,G⟩:=qEP;exact eZ.push h K0 (λu V=>by rw[zE.1 V];rfl) oM O U E rfl rfl (by rw[G];omega) oL J
def qFt{l:List (Mo)}{s2:Sl}{l2:List (Mo)}(h:eZ lG 2 w s l B)(O:eT lG 2 [] w s2 l2)(hl:l.length+l2.length<=1000000)(U:∀E B' w',eZ lG 2 w' E (l++l2) B'->Fr B w w'->(∀b∈B',b∈B\/w.z<=b)->K E w'): Pt.run di ((Builtin.append_ #[vz,vz] vz #[s.v,s2.v]).run prog w) K:=by obtain⟨j,V,hz,G,I⟩:=qz0;have J:=O.1;exact eZ.j2 h DV oM V hz G rfl (yd (e':=HQ) O DV qr3 oM) J (by rw[I,J];omega) (by rw[J];omega) λE B' w' g1 g2 g3 _=>U E B' w' g1 g2 g3
abbrev CH1:FuncId:=149
def qyV{K:Me->WP}(h:∀r w',w'.heap[r]?=some (.c #[s.v] 103)->Fr [] w w'->w.z<=r->K (.func (.func CH1) #[] #[dM r]) w'):cW 91 [s.v] dx w K:=by exact qpo<|oD (oG [] w) λr1 w1 e E o=>h r1 w1 (o.at (i:=0) rfl) E (by rw[e];exact zM _)
def qxl{J:Me}{l:List Bool}{I:Nat->WP}{K:Unit->WP}(hl:l.length<=100000)(hr:∀n W,I n W->(∃T,W.heap[r]?=some (.c #[s.v] T))/\eT rh 1 [] W s l)(ad:∀n c W (K':Bool->WP),I n W->(gE 0 0 l)[n]?=some c->(∀W',I (n+1) W'->K' true W')->dU prog J [.agg #[.i c.1,.i c.2.1,.bool c.2.2]] dk W K')(h0:I 0 w)(kk:∀W',I (gE 0 0 l).length W'->K () W'):cW CH1 [J,dM r] [] w K:=by
 refine qkR ?_;obtain⟨⟨T,q⟩,hR⟩:=hr 0 w h0;have ar:=hR.1;refine iH q s rfl<|lD (λx W=>∃(iZ i n:Nat) (U:List _),x=((iZ:Int),(i:Int))/\i<=l.length/\iZ<=i/\I n W/\U.length=n/\gE 0 0 l=U++gE iZ i (l.drop i)) (λx _=>l.length-x.2.toNat) ⟨0,0,0,[],rfl,yX _,zM _,h0,rfl,rfl⟩ ?_;rintro x W ⟨iZ,i,n,U,rfl,hi,av,hI,aa,O⟩ X hX;obtain⟨⟨T,q⟩,hR⟩:=hr n W hI;refine eF (λhc=>?_) λhc=>?_;have V:i<l.length:=(by have:=zC hc;omega);have hd:=zX V;rw[hd] at O;have e1:wrap .i64 ((i:Int)+1)=((i+1:Nat):Int):=(by rw[gJ _ oL];rfl);rw[e1];refine jd (λz W'=>∃(E n':Nat) (G:List _),z=(E:Int)/\E<=i+1/\I n' W'/\G.length=n'/\gE 0 0 l=G++gE E (i+1) (l.drop (i+1))) ?_ ?_;refine eT.get hR i rfl (zA V) rfl (iH q s rfl ?_);rw[gJ ((s.len:Int)-1) oL];have ab:∀ {fl:Bool},fl=l[i]->gE iZ i _=(iZ,i+1,fl)::gE _ _ _->∀Z:Int->WP,(∀z W',(∃(E n':Nat) (G:List (My)),z=(E:Int)/\E<=i+1/\I n' W'/\G.length=n'/\gE 0 0 l=G++gE E (i+1) (l.drop (i+1)))->Z z W')->
   dU prog J [.agg #[.i (iZ:Int),.i ((i+1:Nat):Int),.bool l[i]]] dk W λ(ay:Bool) af=>cond (!ay) (K () af) (Z ((i+1:Nat):Int) af):=λ{fl} ef es Z hZ=>by
  rw[es] at O;rw[<- ef];refine ad n (iZ,i+1,fl) W _ hI (by rw[O,<- aa];simp) λW' al=>x_ (hZ _ _ ⟨i+1,n+1,U++[(iZ,i+1,fl)],rfl,zM _,al,by rw[zF,aa];rfl,by rw[O,zV];rfl⟩)
 by_cases hlast:i+1=l.length;have hn:l.drop (i+1)=[]:=(by rw[hlast,drop_length]);refine qW false W (λM hM=>?_) (x_ (ab rfl (by rw[hn];rfl) _ λz W' h=>h));cases hx:l[i] with
 | true=>
  refine y_ ?_;rw[show (!(i:Int)==(s.len:Int)-1)=false by rw[show ((i:Int)==(s.len:Int)-1)=true from yP.2 oL];rfl];exact hM
 | false=>exact x_ hM
 have an:i+1<l.length:=oL;have ah:=zX an;cases hx:l[i] with
 | true=>
  refine qW true W (λM hM=>y_ ?_) (y_ ⟨iZ,n,U,rfl,oL,hI,aa,?_⟩);rw[show (!(i:Int)==(s.len:Int)-1)=true by rw[show ((i:Int)==(s.len:Int)-1)=false from zR.2 oL];rfl];exact hM;rw[O,ah,hx,gE,iP rfl]
 | false=>
  have g:=ab hx.symm (by rw[ah,hx,gE,iN oO]);rw[hx] at g;exact qW false W (λM hM=>x_ hM) (x_ (g _ λz W' h=>h))
 rintro z W' ⟨E,n',G,rfl,h1,h2,h3,h4⟩;exact hX _ _ ⟨E,i+1,n',G,rfl,V,h1,h2,h3,h4⟩ oP;have V:i=l.length:=(by have:=zB hc;omega);subst V;rw[drop_length,gE,xG] at O;exact kk W (by rw[O,aa];exact hI)
def FG{a:Nat}:(iC f t a v).length=t-f:=by unfold iC;rw[zK,length_range']
def qvR{a:Nat}(h:f<=i):iC f (i+1) a v=iC f i a v++[((i:Int),if i=a then v else 1)]:=by unfold iC;rw[show i+1-f=(i-f)+1 by omega,List.range'_1_concat,xL,show f+(i-f)=i by omega];rfl
def qy0{o:Bool}{a:Int}{at_:Nat}(ha:a=at_)(O:f<=t)(ht:t<=100000)(kk:∀s B w',eZ lG 2 w' s (iC f t at_ v) B->Fr [] w w'->(∀b∈B,w.z<=b)->K s w'): cW 92 [.agg #[.i f,.i t,.bool o],.i a,.u v] di w K:=by
 subst ha;refine qpp<|oD (oG [] w) λr1 w1 e1 f1 q=>Mi q 0 (f:Int) ?_;have ai:=gg (q.at (i:=0) rfl);have hl:∀i,(iC f i at_ v).length=i-f:=λi=>FG;refine lD (λx W=>∃(i:Nat) (B:Mk),x.2=(i:Int)/\f<=i/\i<=t/\eZ lG 2 W x.1 (iC f i at_ v) B/\dY [] w W [(r1,.c #[.i f,.i t,.bool o] 187)]/\w1.z<=W.z/\∀b∈B,w1.z<=b) (λx _=>t-x.2.toNat) ⟨f,[],rfl,zM _,O,?_,q,zM _,λ_ h=>nomatch h⟩ ?_;have e:iC f f at_ v=[]:=(by unfold iC;rw[Nat.sub_self];rfl);rw[e];exact eZ.nil _ _ _;rintro⟨s,x⟩ W ⟨i,B,G,U,hi,I,q,z2,J⟩ X hX;subst G;refine Mi q 0 (t:Int) (eF (λV=>?_) λV=>?_);have E:i<t:=(by have:=zC V;omega);rw[gJ _ oL,qj _ oL];refine oD (oG [] W) λr8 w2 _ _ p=>p.z' 0 rfl λw3 p _=>jd (λ_ W'=>dY [] W W' [(r8,.c #[.u i,.u (if i=at_ then v else 1)] HQ)]) ?_ ?_;refine eF (λhe=>?_) λhe=>?_;rw[iP (by have:=yP.1 he;omega)];exact p.st' 0 rfl _ rfl rfl (zO rfl) λw4 p _=>p;rw[iN (by have:=zR.1 he;omega)];exact p;rintro _ W2 p;refine Mj p 0 ((i:Int),if i=at_ then v else 1) (qE9 (I.q9 p.fr) (by rw[hl];omega) λs' B' w' b' f' n'=>?_);have f2:=p.fr.size;refine hX _ _ ⟨i+1,B',rfl,oL,E,by rw[qvR U];exact b',(q.q9 p.fr).j0 f' (λx G=>.inr (zL f1.size (J x G))) λy hy hm=>?_,zL z2 (zL f2 f'.size),λx G=>(n' x G).elim (J x) λg=>zL z2 (zL f2 g)⟩ oP;rw[zE.1 hy] at hm
 have:=J _ hm;omega;have E:i=t:=(by have:=zB V;omega);subst E;exact kk s B W I q.fr λb I=>zL f1.size (J b I)
variable {f:Bk->Nat->Int×Bk} {L:Mq} {F Y:Mk} {w0 w':Md} {sb bb:Nat} {v:Me} {I:Nat->Bk->Prop} {K:Int->WP} {lt:List (HL eu)} {first':Int} {la:List (HL eH)} {t:HL eu} {y:rB}
section
variable {α:Type} {enc:α->List Me} {k:Nat} {S:Mk} {w0 w w':Md} {L LB:Mq} {s:Sl} {l:List α} {B:Mk}
def uB (enc:α->List Me) (k:Nat) (s:Sl) (l:List α) (LB:Mq):Prop:=∀W:Md,(∀p∈LB,W.heap[p.1]?=some p.2)->eZ enc k W s l (fU LB)
def uB.nil:uB enc k dN [] []:=λW _=>.nil _ _ _
def uB.ve(h:uB enc k s l LB)(o:dY S w0 w L)(E:∀p∈LB,p∈L):eZ enc k w s l (fU LB):=h w λp G=>o.iX p (E p G)
def Gj(h:eZ enc k w s l B):∃LB,fU LB=B/\(∀p∈LB,w.heap[p.1]?=some p.2)/\(fU LB).Nodup/\uB enc k s l LB:=by rcases h with ⟨rfl,rfl,rfl⟩|⟨b,o,E,T,rfl,G,I,J,O⟩;exact⟨[],rfl,λ_ h=>(nomatch h),nodup_nil,.nil⟩;exact⟨[(b,.cells E T _)],rfl,λp U=>by rw[zE.1 U];exact J,oN,λW V=>.inr ⟨b,o,E,T,rfl,G,I,V _ LQ,O⟩⟩
def qEc(o:dY S w0 w (L++LB))(f:Fr (fU LB) w w')(I:eZ enc k w' s l B)(n:∀x∈B,x∈fU LB\/w.z<=x):∃G,dY S w0 w' (L++G)/\uB enc k s l G:=by
 obtain⟨G,rfl,U,V,h3⟩:=Gj I;have J:=o.nodup;rw[xL,yM] at J;obtain⟨n1,n2,O⟩:=J;have lt:∀p∈L,p.1<w.z:=λp E=>gg (o.iX p (zH _ E));refine⟨G,⟨λp E=>(zD.1 E).elim (λE=>?_) (U p),?_,o.fr.j8 f λx hx=>?_,λp E=>(zD.1 E).elim (λE=>o.own p (zH _ E)) λE=>?_⟩,h3⟩;rw[f.block _ (lt p E) λhm=>O p.1 (zY E) p.1 hm rfl];exact o.iX p (zH _ E);rw[xL,yM];refine⟨n1,V,λa ha b I e=>?_⟩;obtain⟨p,E,rfl⟩:=mem_map.1 ha;rcases n b I with h|h;exact O p.1 (zY E) b h e;have:=lt p E;omega;obtain⟨p,E,rfl⟩:=mem_map.1 hx;exact o.own p (zI _ E);rcases n p.1 (zY E) with h|h;obtain⟨q,hq,e⟩:=mem_map.1 h;have:=o.own q (zI _ hq);rw[e] at this;exact this;exact .inr (zL o.fr.size h)
def qw8{b i:Nat}{o1 V:Obj}(o:dY S w0 w L)(hi:L[i]?=some (b,o1))(hf:Fr S w0 w')(J:∀p∈L,p.1≠b->w'.heap[p.1]?=w.heap[p.1]?)(hb:w'.heap[b]?=some V):dY S w0 w' (L.set i (b,V)):=by
 obtain⟨G,hx⟩:=zP.1 hi;have E:(L.set i (b,V)).map (·.1)=L.map (·.1):=by
  rw[map_set];apply ext_getElem?;intro j;rw[xV];split
  ·next e=>
   subst e;split;rw[zQ,hi];rfl
   ·next h=>rw[zK] at h;omega
  rfl
 refine⟨λp hp=>?_,by rw[E];exact o.nodup,hf,λp hp=>?_⟩
 ·obtain⟨j,O⟩:=mem_iff_getElem?.1 hp;rw[xV] at O;split at O
  ·next e=>
   cases O;exact hb
  ·next e=>
   have U:=yF O;rw[J p U λh=>?_];exact o.iX p U;obtain⟨I,ab⟩:=zP.1 O;have nd:=pairwise_iff_getElem.1 o.nodup;have g1:(L.map (·.1))[i]'(by rw[zK];exact G)=b:=(by rw[getElem_map,hx]);have g2:(L.map (·.1))[j]'(by rw[zK];exact I)=b:=(by rw[getElem_map,ab];exact h);rcases Nat.lt_or_gt_of_ne e with h1|h1;exact nd i j (by rw[zK];exact G) (by rw[zK];exact I) h1 (g1.trans g2.symm);exact nd j i (by rw[zK];exact I) (by rw[zK];exact G) h1 (g2.trans g1.symm)
 have:p.1∈(L.set i _).map (·.1):=zY hp;rw[E] at this;obtain⟨q,hq,e⟩:=mem_map.1 this;rw[<- e];exact o.own q hq
def qCA{b i:Nat}{G E:Obj}(o:dY S w0 w L)(hi:L[i]?=some (b,G))(f:Fr [b] w w')(I:w'.heap[b]?=some E):dY S w0 w' (L.set i (b,E)):=
 qw8 o hi (o.fr.j8 f λx J=>by rw[zE.1 J];exact o.own _ (yF hi)) (λp O h=>f.block _ (gg (o.iX p O)) λg=>h (zE.1 g)) I
end
def jR.x6{T Fa:Mk}{W:Md}{F':Mk}{o1 U:Obj}(h:jR T Fa w0 W Y L sb F c b)(hi:L[i]?=some (bb,o1))(hs:SB w' (fU L++Y) sb F' c b')(f:Fr (bb::F) W w')(n:∀x∈F',x∈F\/W.z<=x)(hb:w'.heap[bb]?=some U):jR T Fa w0 w' Y (L.set i (bb,U)) sb F' c b':=by
 have hm:=yF hi;have G:bb∈fU L:=zY hm;have o:dY (fU L++F) W W L:=⟨h.own.iX,h.own.nodup,.refl _ _,λp J=>.inl (zH _ (zY J))⟩;have o:=qw8 o hi (f.mono λx E _=>(zG.1 E).elim (λe=>by rw[e];exact zH _ G) (zI _)) (λp J V=>f.block _ (gg (h.own.iX p J)) λg=>(zG.1 g).elim V (h.sB.yf p.1 (zH _ (zY J)))) hb;have I:∀x,x∈fU (L.set i (bb,U))->x∈fU L:=λx E=>by obtain⟨p,J,rfl⟩:=mem_map.1 E;obtain⟨j,O⟩:=mem_iff_getElem?.1 J;rw[xV] at O;split at O;rw[iP (zP.1 hi).1] at O;cases O;exact G;exact zY (yF O)
 exact⟨o.nI,hs.y4 λx E=>(zD.1 E).elim (λg=>zH _ (I x g)) (zI _),h.fr.j8 f λx E=>(zG.1 E).elim (λe=>by rw[e];exact (h.nL bb G).imp (zH _) id) λg=>(h.nF x g).imp (zI _) id,λx E=>h.nL x (I x E),λx E=>(n x E).elim (h.nF x) λg=>.inr (zL h.fr.size g),λE=>h.ns (I _ E)⟩
abbrev BTT:Mf:=102
abbrev md (sb:Nat) (first:Int) (la lt:Sl) (m:Option Addr):Obj:=.c #[dM sb,.w first,la.v,lt.v,.pointer m,.i 0] BTT
structure ui {α:Type} (enc:α->List Me) (k:Nat) (sb bb:Nat) (first:Int) (la lt s:Sl) (l:List α) (w:Md) (Y F:Mk):Prop where
 mem:bb∈Y
 iX:∃ m,w.heap[bb]?=some (md sb first la lt m)
 rd:eT enc k F w s l
structure uE {α:Type} (enc:α->List Me) (k:Nat) (sb bb c:Nat) (first:Int) (la lt s:Sl) (l:List α) (v:Me) (f:Bk->Nat->Int×Bk) (n:Nat) (I:Nat->Bk->Prop):Prop where
 step:∀ i b,i<n->I i b->I (i+1) (f b i).2
 mono:∀ i j b,i<=j->I i b->I j b
 same:∀ b i,(f b i).1≠0->(f b i).2=b
 cm:∀ b i,(f b i).2.cm=b.cm
 cells:v.cells = #[v]
 call:∀ i b W F Y (K:Int->WP),i<n->I i b->SB W Y sb F c b->ui enc k sb bb first la lt s l W Y F->(∀ F' W',SB W' Y sb F' c (f b i).2->lL F W F' W'->K (f b i).1 W')->dU prog v [.i i] dm W K
def ui.dst{α:Type}{enc:α->List Me}{la lt:Sl}{l:List α}{W:Md}{F':Mk}(h:ui enc k sb bb first la lt s l w Y F)(E:SB w Y sb F c b)(d:jR [] F w W Y L sb F' c b'):ui enc k sb bb first la lt s l W (fU L++Y) F' where
 mem:=zI _ h.mem
 iX:=by obtain⟨m,G⟩:=h.iX;exact⟨m,d.jT G (λg=>nomatch g) (E.yf bb h.mem)⟩
 rd:=(d.ju h.rd).j6 λx I=>.inl (zI _ I)
def qn2{f:Bk->Nat->Int×Bk}:∀ {m i:Nat} {b E:Bk} {j:Nat} {v:Int},iR f i m b=(some (j,v),E)->v≠0/\i<=j/\j<i+m
 | 0,i,b,E,j,v,h=>by cases h
 | m+1,i,b,E,j,v,h=>by
  unfold iR at h;split at h
  ·next e=>cases h;exact⟨e,zM _,oL⟩
  have:=qn2 h;omega
def qwn:iR f i (m+1) b=if (f b i).1≠0 then (some (i,(f b i).1),(f b i).2) else iR f (i+1) m (f b i).2:=rfl
def qsX{f:Bk->Nat->Int×Bk}(h:∀b i,(f b i).2.cm=b.cm):∀ {m i:Nat} {b:Bk},(iR f i m b).2.cm=b.cm
 | 0,i,b=>rfl
 | m+1,i,b=>by unfold iR;split;exact h b i;rw[qsX h,h]
def Ip (r:Option (Nat×Int)):Mo:=match r with|none=>(0,0)|some (i,v)=>((i:Int),v)
def qyU{α:Type}{enc:α->List Me}{n to:Nat}{o:Bool}{la lt:Sl}{l:List α}{K:Mo->WP}(T:uE enc k sb bb c first la lt s l v f n I)(h:SB w Y sb F c b)(hB:ui enc k sb bb first la lt s l w Y F)(G:I iZ b)(J:iZ<=to)(hn:to<=n)(ac:n<=100000)(kk:∀F' w',SB w' Y sb F' c (iR f iZ (to-iZ) b).2->lL F w F' w'->K (Ip (iR f iZ (to-iZ) b).1) w'): cW 93 [.agg #[.i iZ,.i to,.bool o],v] [.one .i,.one .u] w K:=by
 refine qqR ?_;have d:=jR.call h;refine oD d.own λr1 w1 e1 f1 q=>?_;have d:=d.J0 q;refine Mi d.own 0 (iZ:Int)<|lD (λx W=>∃(i:Nat) (F':Mk) (b':Bk),x=(i:Int)/\iZ<=i/\i<=to/\I i b'/\jR [] F w W Y [(r1,.c #[.i iZ,.i to,.bool o] 187)] sb F' c b'/\iR f iZ (to-iZ) b=iR f i (to-i) b') (λx _=>to-x.toNat) ⟨iZ,F,b,rfl,zM _,J,G,d,rfl⟩ ?_;rintro x W ⟨i,F',b',rfl,ad,hi,G,d,e⟩ X hX;refine Mi d.own 0 (to:Int) (eF (λO=>?_) λO=>?_);have E:i<to:=(by have:=zC O;omega);refine T.call i b' W F' _ _ oL G d.sB (hB.dst h d) λF2 W2 h2 s2=>?_;have U:=d.jw h2 s2;rw[show to-i=(to-(i+1))+1 by omega] at e;rw[qwn] at e;refine eF (λV=>?_) λV=>?_;rw[iP (oS V)] at e;have:=kk F2 W2 (by rw[e];exact U.out) (U.sub (nil_sublist _)).sG;rw[e] at this;exact this;rw[iN (oS V)] at e;rw[gJ _ oL];exact hX _ _ ⟨i+1,F2,_,rfl,oL,E,T.step i b' oL G,U,e⟩ oL;have E:i=to:=(by have:=zB O;omega);subst E;rw[Nat.sub_self] at e;have:=kk F' W (by rw[e];exact d.out) (d.sub (nil_sublist _)).sG;rw[e] at this;exact this
def qBP(U:0<=x/\x<65536):(bits .andNot .u16 x 15==0) = !decide (16<=x):=by
 obtain⟨n,rfl⟩:∃n:Nat,x=n:=⟨x.toNat,oL⟩;have e1:bits .andNot .u16 (n:Int) 15=wrap .u16 ((BitVec.ofInt 16 (n:Int)&&& ~~~ BitVec.ofInt 16 ((15:Nat):Int)).toNat:Nat):=rfl;have E:=DR n oL;have I:=DR 15 oO;rw[e1];generalize BitVec.ofInt 16 (n:Int)=X at E;generalize BitVec.ofInt 16 ((15:Nat):Int)=Y at I;have J:(X&&& ~~~ Y)+(X&&& Y)=X:=by rw[BitVec.add_eq_or_of_and_eq_zero _ _ (by ext k hk;simp;cases X[k]<;>cases Y[k]<;>simp)];ext k hk;simp;cases X[k]<;>cases Y[k]<;>rfl
 have O:(X&&& Y).toNat=n%16:=(by rw[BitVec.toNat_and,E,I];exact Nat.and_two_pow_sub_one_eq_mod n 4);have G:=Ma BitVec.toNat J;rw[BitVec.toNat_add,E,O] at G;have:(2:Nat)^16=65536:=rfl;rw[xo _ oL];by_cases h:(16:Int)<=(n:Int);rw[yA h];exact zR.2 oL;rw[zU h];exact yP.2 oL
def BR (x:Bool×Int):List Me:=[.bool x.1,.u x.2]
def Bp:∀x,(BR x).length=2:=λ_=>rfl
def kW:List (Bool×Int)->Int
 | []=>0
 | p::r=>if p.1 then p.2 else kW r
def qFv{A B:WP}{K:Prop}(a:A w)(b:B w)(c:C w)(d:D w)(e:E w)(k:K):held [A,B,C,D,E] w K:=by unfold held;exact⟨⟨a,b,c,d,e⟩,k⟩
def qDG{a b:e9}{x y:Operand}:(do eqGuard .eql nf x y (df a.1 a.2) (df b.1 b.2);binOp .eql nf (df a.1 a.2) (df b.1 b.2):Sem Me).run prog w=.ok (.bool (decide (a=b))) w:=by have h:=vg (a:=a) (b:=b) (x:=x) (y:=y) (w:=w) (K:=λr=>r=decide (a=b)) rfl;unfold eO at h;obtain⟨r,h,e⟩:=h;rw[e] at h;exact h
def Hg{l:List (Bool×Int)}(I:eT BR 2 [] w s l)(hl:l.length<=100)(J:∀w',Fr [] w w'->K (kW l) w'):cW 97 [s.v] dm w K:=by refine qoF ?_;have O:=I.1;refine lD (λx w'=>∃i:Nat,x=i/\i<=l.length/\kW (l.drop i)=kW l/\Fr [] w w') (λx _=>l.length-x.toNat) ⟨0,rfl,yX _,rfl,.refl _ _⟩ ?_;rintro x U ⟨i,rfl,hi,e,f⟩ X V;refine eF (λE=>?_) λE=>?_;have h:i<l.length:=(by have:=zC E;omega);rw[zX h] at e;refine eT.qC (I.q9 f) i rfl (zA h) rfl rfl (oD (oG [] U) λr6 w7 _ _ o=>o.z' 0 rfl λw8 o _=>oB o 0 rfl (l[i]).1 rfl ?_);rw[kW] at e;refine eF (λG=>?_) λG=>?_;rw[iP G] at e;refine oB o 0 rfl (l[i]).2 rfl ?_;rw[e];exact J w8 (f.trans o.fr);rw[iN (by rw[G];decide)] at e;rw[gJ _ oL];exact V _ _ ⟨i+1,rfl,h,e,f.trans o.fr⟩ oL;have h:i=l.length:=(by have:=zB E;omega);subst h;rw[drop_length] at e;rw[show (0:Int)=kW l from e];exact J U f
def qy4(E:dV eH o)(G:∀w',Fr [] w w'->K (nO a o) w'):cW 99 [LI eH a,LI eH o] dm w K:=by
 refine qoE ?_;have e:bits .andNot .u16 (eJ o) 16=me (eJ o) 16:=HW 4 (sC E) oO;refine oD (oG [] w) λr1 w1 _ f1 p=>oD p λr3 w2 _ f2 p=>Mi p 1 (eJ a) (Mi p 0 (eJ o) (Mi p 1 (uO a) (Mi p 0 (uO o) (Mi p 1 (jM a) (Mi p 0 (jM o) (Mi p 1 (ph a) (Mi p 0 (ph o) (oD p λI w3 _ f3 p=>?_))))))));rw[e] at p;have J:=eZ.ju Bp (S:=[]) (eZ.fresh (l:=[(!eJ a==me (eJ o) 16,(7:Int)),(!uO a==uO o,13),(!jM a==jM o,14),(!ph a==ph o,15),(true,16)]) Bp (p.at (i:=0) rfl) rfl (zM _) (zM _) rfl) λ_ _ h=>nomatch h;refine Hg J (zO rfl) λO U=>?_;have V:kW [(!eJ a==me (eJ o) 16,(7:Int)),(!uO a==uO o,13),(!jM a==jM o,14),(!ph a==ph o,15),(true,16)]=nO a o:=by unfold nO;simp only[kW,zT,zR,if_true]
 rw[V];exact G O (p.fr.trans U)
abbrev BG:List Cell:=[.w,.w,.w,.w,.w,.w,.w,.w]
def uj (a:HL eH):HL BG:=(a.2.2.1,a.2.2.2.1,a.2.2.2.2.1,a.2.2.2.2.2.1,a.2.2.2.2.2.2.1,a.2.2.2.2.2.2.2.1,a.2.2.2.2.2.2.2.2.1,a.2.2.2.2.2.2.2.2.2.1)
def qyT{K:HL BG->WP}(h:∀w',Fr [] w w'->K (uj a) w'):cW 100 [LI eH a] [.agg BG] w K:=by refine qkt<|oD (oG [] w) λr1 w1 _ G p=>oD p λr3 w2 _ I p=>Mj p 1 (i6 a) (oE p 1 rfl (eQ a).1 rfl (Mj p 1 (ja a) (oE p 1 rfl (eQ a).2 rfl ?_)));exact p.z' 0 rfl λE p _=>Mj p 0 (uj a) (h E p.fr)
abbrev JA:Mf:=199
def qE0{b:HL BG}{x y:Operand}{K:Bool->Prop}(k:K (!decide (b=(0,0,0,0,0,0,0,0)))): eO [jV.one Cell.bool] (λw'=>(do eqGuard .neq JA x y (LI BG b) (.agg c7);binOp .neq JA (LI BG b) (.agg c7):Sem Me).run prog w') w K:=by
 obtain⟨h,E,G,I,J,O,U,V⟩:=b;have e:∃r,xk prog 3 JA (LI BG (h,E,G,I,J,O,U,V)) (.agg c7)=some r/\r=decide ((h,E,G,I,J,O,U,V)=((0,0,0,0,0,0,0,0):HL BG)):=by refine⟨bif (bif h==0 then (bif E==0 then true else false) else false) then (bif (bif G==0 then (bif I==0 then true else false) else false) then (bif (bif J==0 then (bif O==0 then true else false) else false) then (bif (bif U==0 then (bif V==0 then true else false) else false) then true else false) else false) else false) else false,oM,?_⟩;by_cases h0:h=0<;>by_cases h1:E=0<;>by_cases h2:G=0<;>by_cases h3:I=0<;>by_cases h4:J=0<;>by_cases h5:O=0<;>by_cases h6:U=0<;>by_cases h7:V=0<;>simp[h0,h1,h2,h3,h4,h5,h6,h7]
 obtain⟨r,e,rfl⟩:=e;exact Lm 3 oO _ e oM k
def qy6{K:HL eH->WP}(h:∀w',Fr [] w w'->K (js n a) w'):cW 66 [LI eH a,.w n] [.agg eH] w K:=by exact qmX<|oD (oG [] w) λr1 w1 _ G p=>oD p λr3 w2 _ I p=>p.st' 1 rfl (HL.mk eH (js n a)).toArray rfl rfl (zO rfl) λJ p _=>Mj p 1 (js n a)<|p.z' 0 rfl λE p _=>Mj p 0 (js n a) (h E p.fr)
def qy5(ha:dV eH a)(ho:dV eH o)(E:∀w',Fr [] w w'->K (jN a o there) w'): cW 63 [LI eH a,LI eH o,.bool there] dm w K:=by
 refine qoD ?_;have e2:bits .and .u16 (eJ a) 2=if hasB (eJ a) 2 then 2 else 0:=qL 1 (sC ha) oO
 have e4:bits .and .u16 (eJ a) 4=if hasB (eJ a) 4 then 4 else 0:=qL 2 (sC ha) oO
 refine oD (oG [] w) λr1 w1 _ f1 p=>oD p λr3 w2 _ f2 p=>?_;have p:=p.drew;refine Mi p 1 (wD a) (Mi p 1 (eJ a) (Mj p 1 (fP a) (vg (b:=(0,0)) (Mj p 1 (fP a) (Bg λw3 f3=>?_)))));have p:=p.q9 f3;refine qFv (p.cells 1) (qDG (b:=(0,0))) (p.cells 1) (p.cell 1) (p.cell 1) (vg (oD p λaj w4 _ _ p=>?_));have O:=eZ.ju Bp (S:=[]) (eZ.fresh (l:=[(!wD a==0,(3:Int)),(!bits .andNot .u16 (eJ a) 15==0,4),(decide (fP a=(0,0)),5),(decide (fP a=li),6)]) Bp (p.at (i:=0) rfl) rfl (zM _) (zM _) rfl) λ_ _ h=>nomatch h;refine Hg O (zO rfl) λw5 f5=>?_;have p:=p.q9 f5;rw[qBP (sC ha)];have ab:jN a o there=if kW [(!wD a==0,(3:Int)),(!!decide (16<=eJ a),4),(decide (fP a=(0,0)),5),(decide (fP a=li),6)]≠0 then kW [(!wD a==0,(3:Int)),(!!decide (16<=eJ a),4),(decide (fP a=(0,0)),5),(decide (fP a=li),6)] else (if there then nO a o
   else if hasB (eJ a) 2=true/\hasB (eJ a) 4=true then 17 else if ¬(i6 a=(0,0)/\(eQ a).1=(0,0)/\ja a=(0,0)/\(eQ a).2=(0,0)) then 18 else if jM a=0 then 27 else if ph a=0 then 28 else 0):=by
  unfold jN;simp only[kW];by_cases h1:wD a=0;by_cases J:16<=eJ a;simp[h1,J];by_cases h3:fP a=(0,0);simp[h1,J,h3];have h5:¬li=(0,0):=oO;by_cases h4:fP a=li<;>simp[h1,J,h3,h4,h5];simp[h1]
 rw[ab] at E;generalize kW _=v at E⊢;refine uY (λh=>?_) λh=>?_;rw[iP h] at E;exact E w5 p.fr;rw[iN h] at E;refine eF (λht=>?_) λht=>?_;rw[iP ht] at E;exact Mj p 2 a (Mj p 1 o (qy4 ho λG I=>E G (p.fr.trans I)));rw[iN (by rw[ht];decide)] at E;have p:=p.drew;have U:(uj a=(0,0,0,0,0,0,0,0))=(i6 a=(0,0)/\(eQ a).1=(0,0)/\ja a=(0,0)/\(eQ a).2=(0,0)):=by unfold uj i6 ja eQ;simp only[Prod.mk.injEq,eq_iff_iff,and_assoc]
 have V:∀(q:Bool) (G:Md),q=decide (hasB (eJ a) 2=true/\hasB (eJ a) 4=true)->Fr [] w G->K (kW [(q,(17:Int)),(!decide (uj a=(0,0,0,0,0,0,0,0)),18),(jM a==0,27),(ph a==0,28)]) G:=λq G hq I=>by
  have e:kW [(q,(17:Int)),(!decide (uj a=(0,0,0,0,0,0,0,0)),18),(jM a==0,27),(ph a==0,28)]=if hasB (eJ a) 2=true/\hasB (eJ a) 4=true then 17 else if ¬(i6 a=(0,0)/\(eQ a).1=(0,0)/\ja a=(0,0)/\(eQ a).2=(0,0)) then 18 else if jM a=0 then 27 else if ph a=0 then 28 else 0:=by have hd:decide (uj a=(0,0,0,0,0,0,0,0))=decide (i6 a=(0,0)/\(eQ a).1=(0,0)/\ja a=(0,0)/\(eQ a).2=(0,0)):=(by rw[LM,U]);rw[hd];simp only[kW,hq,decide_eq_true_eq,zT,L7,yP]
  rw[e];exact E G I
 refine Mi p 2 (eJ a) ?_;rw[e2];cases J:hasB (eJ a) 2 with
 | true=>
  refine y_ (Mi p 2 (eJ a) (Mj p 2 a (Mi p 2 (jM a) (Mi p 2 (ph a) (qyT λG I=>?_)))));have p:=p.q9 I;refine nh (p.cell 2) (p.cell 2) (p.cell 2) (qE0 (oD p λad w7 _ _ p=>?_));have O:=eZ.ju Bp (S:=[]) (eZ.fresh (l:=[(!bits .and .u16 (eJ a) 4==0,(17:Int)),(!decide (uj a=(0,0,0,0,0,0,0,0)),18),(jM a==0,27),(ph a==0,28)]) Bp (p.at (i:=0) rfl) rfl (zM _) (zM _) rfl) λ_ _ h=>nomatch h;refine Hg O (zO rfl) λw8 f8=>V _ _ ?_ (p.fr.trans f8);rw[e4,J];cases hasB (eJ a) 4<;>rfl
 | false=>
  refine x_ (Mj p 2 a (Mi p 2 (jM a) (Mi p 2 (ph a) (qyT λG I=>?_))));have p:=p.q9 I;refine jU (p.cell 2) (p.cell 2) (qE0 (oD p λad w7 _ _ p=>?_));have O:=eZ.ju Bp (S:=[]) (eZ.fresh (l:=[(false,(17:Int)),(!decide (uj a=(0,0,0,0,0,0,0,0)),18),(jM a==0,27),(ph a==0,28)]) Bp (p.at (i:=0) rfl) rfl (zM _) (zM _) rfl) λ_ _ h=>nomatch h;refine Hg O (zO rfl) λw8 f8=>V _ _ ?_ (p.fr.trans f8);rw[J];exact (zU λg=>nomatch g.1).symm
structure Dx (l:List (HL eu)) (first:Int) (i:Nat) (b:Bk):Prop where
 lg:lh (first+i) b
 jT:∀ j,j<i->mX (l.getD j nE.1)=0/\∃ k,eM b (gb (l.getD j nE.1))=some k/\kY (l.getD j nE.1) k=16/\kR k.1=first+j
def Dx.step(h:Dx lt first i b)(G:∀t∈lt,dV eu t)(hi:i<lt.length)(I:lH (first+i))(e:(fT lt first b i).1=0):Dx lt first (i+1) (fT lt first b i).2:=by unfold fT at e⊢;obtain⟨L,_,E⟩:=h.lg.BQ (G _ (Em hi)) (Int.le_refl _) I;have E:=E e;refine⟨L.mono oL,λj hj=>?_⟩;by_cases ej:j=i;subst ej;obtain⟨k,J,O,U,V⟩:=E.gL;exact⟨qyO e,k,by unfold eM;rw[J,Df,iP O],V,U⟩;obtain⟨h1,k,h2,h3⟩:=h.jT j oL;exact⟨h1,k,(E.grow (qCY e)).gL _ _ h2,h3⟩
def qAQ(h:lh first b)(J:∀t∈lt,dV eu t)(O:∀i,i<lt.length->lH (first+i))(e:(runT b first lt).2=[]):Dx lt first lt.length (runT b first lt).1/\∀c∈gE 0 0 (lt.map sL),c.2.2=false:=by unfold runT jp at e⊢;dsimp only at e⊢;have U:(fD (fT lt first) b (gE 0 0 (lt.map sL))).2=[]:=(by split at e<;>exact e);have G:=CS (lt.map sL);rw[zK] at G;obtain⟨E,V⟩:=IX (R:=Dx lt first) (λi b I hb e=>hb.step J I (O i I) e) G ⟨h.mono oL,λj hj=>absurd hj oL⟩ U;refine⟨?_,V⟩;split;exact E;exact⟨E.lg.iK,E.jT⟩
def qyz(h:Dx lt first lt.length b)(G:∀c∈gE 0 0 (lt.map sL),c.2.2=false)(I:lt≠[]):(runT b first' lt).1=b.iK (first'+lt.length-1)/\(runT b first' lt).2.length=lt.length/\∀(j:Nat) (x:Mo),(runT b first' lt).2[j]?=some x->x.1=(j:Int)/\(x.2=16\/x.2=1):=by have E:=CS (lt.map sL);rw[zK] at E;obtain⟨J,O,U⟩:=Jo (f:=fT lt first') (b:=b) (λi b' V e=>by obtain⟨h1,k,h2,h3,_⟩:=h.jT i V;rw[e];exact qyN h1 h2 h3) E G;unfold runT jp;dsimp only;rw[iN λe=>I (map_eq_nil_iff.1 e),J,zK];exact⟨rfl,O,λj x hx=>by have:=U j x hx;rw[xQ] at this;exact this⟩
structure Dg (l:List (HL eH)) (first:Int) (n:Int) (i:Nat) (b:Bk):Prop where
 lg:lh n b
 jT:∀ j,j<i->jN (l.getD j iV) iV false=0/\dZ b (fP (l.getD j iV))=some (js (first+j) (l.getD j iV))
def Dg.step(h:Dg la first n i b)(I:∀t∈la,dV eH t)(hi:i<la.length)(J:lH (first+i))(e:(fA la first b i).1=0):Dg la first n (i+1) (fA la first b i).2:=by
 unfold fA at e⊢;obtain⟨L,_,O⟩:=h.lg.yh (I _ (Em hi)) J;obtain⟨U,V,_,m3⟩:=O e;refine⟨L,λj hj=>?_⟩;rw[m3];have E:∀x,dZ (b.fp (js (first+i) _)) x=if fP (la.getD i iV)=x then some _ else dZ b x:=λx=>BN
 by_cases ej:j=i;subst ej;exact⟨V,by rw[E,iP rfl]⟩;obtain⟨h1,G⟩:=h.jT j oL;refine⟨h1,?_⟩;rw[E,iN λe=>?_];exact G;rw[<- e,U] at G;cases G
def qAO(h:lh n b)(J:∀t∈la,dV eH t)(O:∀i,i<la.length->lH (first+i))(e:(mr b first la).2=[]):Dg la first n la.length (mr b first la).1/\∀c∈gE 0 0 (la.map sM),c.2.2=false:=by unfold mr jp at e⊢;dsimp only at e⊢;have U:(fD (fA la first) b (gE 0 0 (la.map sM))).2=[]:=(by split at e<;>exact e);have G:=CS (la.map sM);rw[zK] at G;obtain⟨E,V⟩:=IX (R:=Dg la first n) (λi b I hb e=>hb.step J I (O i I) e) G ⟨h,λj hj=>absurd hj oL⟩ U;refine⟨?_,V⟩;split;exact E;exact⟨E.lg.iK,E.jT⟩
def qyy(h:Dg la first n la.length b)(I:∀t∈la,dV eH t)(J:∀c∈gE 0 0 (la.map sM),c.2.2=false)(O:la≠[]):(mr b first' la).1=b.iK (first'+la.length-1)/\(mr b first' la).2.length=la.length/\∀(j:Nat) (x:Mo),(mr b first' la).2[j]?=some x->x.1=(j:Int)/\(x.2=16\/x.2=1):=by have E:=CS (la.map sM);rw[zK] at E;obtain⟨U,V,g3⟩:=Jo (f:=fA la first') (b:=b) (λi b' G e=>by obtain⟨h1,h2⟩:=h.jT i G;rw[e];exact qyM (I _ (Em (d:=iV) G)) h1 h2) E J;unfold mr jp;dsimp only;rw[iN λe=>O (map_eq_nil_iff.1 e),U,zK];exact⟨rfl,V,λj x hx=>by have:=g3 j x hx;rw[xQ] at this;exact this⟩
def qD6:∀n:Fin 256,(bits .and .u16 (n.val:Int) 192==0) = !(hasB (n.val:Int) 64||hasB (n.val:Int) 128):=zC oM
def qED(h:0<=x/\x<=255):(bits .and .u16 x 192==0) = !(hasB x 64||hasB x 128):=by obtain⟨n,rfl⟩:=Int.eq_ofNat_of_zero_le h.1;exact qD6 ⟨n,oL⟩
def qzM(O:0<=dT t/\dT t<=255)(E:∀w',Fr [] w w'->K (qw t) w'):cW 174 [.agg (vc t n p am room).toArray] dm w K:=by
 refine qgr ?_;unfold qw at E;have V:bits .and .u16 _ 2=if hasB _ 2 then 2 else 0:=qL 1 ⟨O.1,oL⟩ oO
 have J:(!!bits .and .u16 (dT t) 2==0)=decide (hasB (dT t) 2=false):=(by rw[V];cases hasB _ 2<;>rfl);refine oD (oG [] w) λr1 w1 _ f1 o=>Mi o 0 (dT t) (Mj o 0 (iB t) (wF (b:=(0,0)) (Fv (λh=>?_) λh=>?_)));rw[iP h] at E;exact E w1 o.fr;rw[iN h] at E;rw[J];refine qW (decide (kQ t≠0/\hasB (dT t) 2=false)) w1 (λM I=>oB o 0 rfl _ rfl (uY (λh=>?_) λh=>?_)) (eF (λG=>?_) λG=>?_);rw[show decide _=decide (kQ t≠0/\hasB _ 2=false) by rw[LM];exact⟨λg=>⟨h,g⟩,λg=>g.2⟩];exact I;rw[zU λg=>h g.1] at I;exact I;rw[iP (zC G)] at E;exact E w1 o.fr;rw[iN (zB G)] at E;refine qW (decide ((hasB (dT t) 64||hasB (dT t) 128)=true/\hasB (dT t) 2=false)) w1 (λM I=>Mi o 0 (dT t) ?_) (eF (λG=>?_) λG=>?_);rw[qED O,Bool.not_not];cases U:(hasB (dT t) 64||hasB (dT t) 128) with
 | true=>rw[U,show decide (true=true/\hasB (dT t) 2=false)=decide (hasB (dT t) 2=false) by rw[LM];exact⟨λg=>g.2,λg=>⟨rfl,g⟩⟩] at I;exact y_ I
 | false=>rw[U,zU λg=>nomatch g.1] at I;exact x_ I
 rw[iP (zC G)] at E;exact E w1 o.fr;rw[iN (zB G)] at E;refine Mi o 0 (mc t) (eF (λG=>?_) λG=>?_);rw[iP (oS G)] at E;exact E w1 o.fr;rw[iN (oS G)] at E;refine Mi o 0 (mz t) (eF (λG=>?_) λG=>?_);rw[iP (oS G)] at E;exact E w1 o.fr;rw[iN (oS G)] at E;exact E w1 o.fr
def qAP(h:l≠[]):(mr b first l).1.last=some (first+l.length-1):=by unfold mr jp;dsimp only;rw[iN λe=>h (map_eq_nil_iff.1 e),zK];rfl
def qAR{l:List (HL eu)}(h:l≠[]):(runT b first l).1.last=some (first+l.length-1):=by unfold runT jp;dsimp only;rw[iN λe=>h (map_eq_nil_iff.1 e),zK];rfl
def qrM(h:b.last=some n):rF (b.iK z)=rF b:=by unfold rF;rw[h];rfl
def qwH(h:y.1≠[]):qU b y=((mr b (gH b+1+y.2.2) y.1).1,(mr b (gH b+1+y.2.2) y.1).2,0):=by unfold qU;dsimp only;rw[iP h]
def qwI(h:y.1=[])(E:y.2.1≠[]):qU b y=((runT b (gH b+1+y.2.2) y.2.1).1,(runT b (gH b+1+y.2.2) y.2.1).2,0):=by unfold qU;dsimp only;rw[iN λg=>g h,iP E]
def qvH(P:qi q A T m b)(h:rg y)(V:m<=15)(G:y.1≠[]\/y.2.1≠[])(e:(qU b y).2.1=[]): (∀i,dZ (qU (qU b y).1 y).1 i=dZ (qU b y).1 i)/\rF (qU (qU b y).1 y).1=rF (qU b y).1/\(qU (qU b y).1 y).2.1.length=(if y.1=[] then y.2.1.length else y.1.length)/\∀(j:Nat) (x:Mo),(qU (qU b y).1 y).2.1[j]?=some x->x.1=(j:Int)/\(x.2=16\/x.2=1):=by
 have hl:=P.last;have hy:=h.later;by_cases h1:y.1=[]
 ·have E:=G.resolve_left λg=>g h1;rw[qwI h1 E] at e⊢;dsimp only at e⊢;rw[qwI h1 E,iP h1];dsimp only;have O:=h.gL;obtain⟨g,I⟩:=qAQ (first:=gH b+1+y.2.2) (P.lg.mono oL) h.qD (λi U=>⟨oL,oL⟩) e;obtain⟨k1,k2,J⟩:=qyz (first':=gH (runT b (gH b+1+y.2.2) y.2.1).1+1+y.2.2) g I E;rw[k1];exact⟨λi=>rfl,qrM (qAR E),k2,J⟩
 ·rw[qwH h1] at e⊢;dsimp only at e⊢;rw[qwH h1,iN h1];dsimp only;have O:=h.acc;obtain⟨g,I⟩:=qAO (first:=gH b+1+y.2.2) P.lg h.m7 (λi U=>⟨oL,oL⟩) e;obtain⟨k1,k2,J⟩:=qyy (first':=gH (mr b (gH b+1+y.2.2) y.1).1+1+y.2.2) g h.m7 I h1;rw[k1];exact⟨λi=>rfl,qrM (qAP h1),k2,J⟩
abbrev yj:Me->List Me:=λv=>[v]
variable {K:Unit->WP} {m:Option Addr} {la lt:Sl} {vs:List Me} {kb:Nat} {S:Mk}
def qtL(h:w.heap[bb]?=some (md sb first la lt m))(G:∀w',Fr [] w w'->K () w'):cW 95 [dM bb,.i 0] [] w K:=by exact qjg<|fH (iH h (0:Int) rfl (y_ (fH (wU h #[.pointer _,.int .u64 first,la.v,lt.v,.pointer m,.i 0] rfl rfl (zM _) λw2 E I=>G w2 (qDL I h E)))))
def Hm{sl:Sl}{P:Nat->WP}(V:∀i W,P i W->(∃m,W.heap[bb]?=some (md sb first la lt m))/\eT yj 1 [] W sl vs)(E:∀i W W',P i W->Fr [] W W'->P i W')(G:∀i (hi:i<vs.length) W (K':Int->WP),P i W->(∀W',P (i+1) W'->K' 0 W')->dU prog vs[i] [] dj W K')(h0:P 0 w)(hl:vs.length<=1000)(kk:∀W',P vs.length W'->K () W'): cW 61 [dM bb,sl.v] [] w K:=by refine qkr<|lD (λx W=>∃i:Nat,x=(i:Int)/\i<=vs.length/\P i W) (λx _=>vs.length-x.toNat) ⟨0,rfl,yX _,h0⟩ ?_;rintro x W ⟨i,rfl,hi,J⟩ X hX;obtain⟨⟨m,hb⟩,hr⟩:=V i W J;have ac:=hr.1;refine eF (λO=>?_) λO=>?_;have h:i<vs.length:=(by have:=zC O;omega);refine eT.get hr i rfl (zA h) rfl (fH (iH hb (0:Int) rfl (x_ (G i h W _ J λW' I=>?_))));obtain⟨⟨m',U⟩,_⟩:=V _ W' I;refine qtL U λW2 f2=>?_;rw[gJ _ oL];exact hX _ _ ⟨i+1,rfl,h,E _ _ _ I f2⟩ oL;have h:i=vs.length:=(by have:=zB O;omega);subst h;exact kk W J
def qBm(h:SB w Y sb F c b)(V:bb∈Y)(E:w.heap[bb]?=some (md sb first la lt m))(kk:∀kb w',wl w' (HG::(Y++F)) kb c b->w'.heap[bb]?=some (md sb first la lt (pW kb))->Fr [bb] w w'->K () w'): cW 59 [dM bb] [] w K:=by refine qjj<|fH (iH E _ rfl (qBG h λkb w1 hm O=>fH ?_));have G:w1.heap[bb]?=some (md sb first la lt m):=(by rw[O.block _ (gg E) λg=>nomatch g];exact E);exact wU G #[.pointer _,.w first,la.v,lt.v,.pointer _,.i 0] rfl rfl (zO rfl) λw2 I U=>kk kb w2 (hm.j0 (U.mono λx J _=>by rw[zE.1 J];simp[V]) λx J=>.inl J) I ((O.mono λ_ g _=>nomatch g).trans U)
def qBj(h:SB w Y sb F c b')(O:wl w (HG::(Y++F)) kb c b)(G:b'.cm=b.cm)(U:bb∈Y)(E:w.heap[bb]?=some (md sb first la lt (pW kb)))(V:∀F' w',SB w' Y sb F' c b->lL F w F' w'->K () w'): cW 60 [dM bb] [] w K:=by refine qje ?_;have g:=(Fr.refl [] w).drew;refine fH (iH E _ rfl (fH (iH E _ rfl (qBF (h.q9 g) (O.q9 g) (λx hx=>hx) G λF' w1 h1 s1=>?_))));have I:w1.heap[bb]?=some (md sb first la lt (pW kb)):=(by rw[s1.fr.block _ (gg E) (h.yf bb U)];exact E);exact qtL I λw2 J=>V F' w2 (h1.q9 J) ((lL.pre g s1).post J)
def IV{α:Type}{enc:α->List Me}{l:List α}(h:eT enc k S w s l)(n:Nat){i:Int}{x:α}{K:Addr->Prop}(hi:i=n)(I:l[n]?=some x)(J:∀b o E T G,w.heap[b]?=some (.cells E T G)->(E.toList.drop o).take k=enc x->K (dh b o)):idx s i k K:=by subst hi;obtain⟨hn,b,o,O,_,E,T,G,U,V⟩:=h.at n I;exact vD O ⟨oL,oL⟩<|J b _ E T G U V
def Ch{H G I:WP}{K:Prop}(h:H w)(J:E w)(O:G w)(U:I w)(k:K):held [H,E,G,I] w K:=by unfold held;exact⟨⟨h,J,O,U⟩,k⟩
def FW{n:Nat}{T:Mf}(o:dY S w0 w L)(E:(r,.c vs.toArray T)∈L)(G:n=vs.length):eT yj 1 [] w ⟨pW r,n,n⟩ vs:=by subst G;refine eZ.ju (λ_=>rfl) (eZ.fresh (k:=1) (λ_=>rfl) (o.iX _ E) rfl (zM _) oN ?_) λ_ _ h=>nomatch h;rw[xR,xY,Cj (e:=λv=>v) λ_=>rfl,map_id']
abbrev A7:Mf:=38
abbrev Gb:Mf:=145
abbrev xz:Mf:=99
variable {K:Int->WP}
def qDc(h:SB w Y sb F c b)(hB:ui (HL.mk eH) 15 sb bb first la lt la l w Y F)(hi:i<l.length)(hl:l.length<=100000)(J:dV eH l[i])(ab:∀a,dZ b (fP l[i])=some a->dV eH a)(hr:b.rm<=3*c)(hf:0<=first)(hU:lH (first+i))(U:∀F' w',SB w' Y sb F' c (mD b l[i] (first+i)).2->lL F w F' w'->K (mD b l[i] (first+i)).1 w'): cW 41 [dM bb,.i i] dm w K:=by
 refine qgj ?_;obtain⟨m,E⟩:=hB.iX;have G:=h.yf bb hB.mem;have d:=jR.call h;refine oD d.own λr1 w1 _ _ q=>oD q λr3 w2 _ _ q=>?_;have d:=(d.J0 q).q9 (Fr.refl [] w2).drew;have an:=d.jT E (λg=>nomatch g) G;generalize ha:l[i]=a at J ab U;have hx:l[i]?=some a:=(by rw[zA hi,ha]);refine oB d.own 1 rfl _ rfl (fH (iH an la rfl (Mi d.own 0 (i:Int) (IV (d.ju hB.rd) i rfl hx λrb ro cs T fr V ac=>zo V a ac (oD d.own λaa w3 _ f3 q=>?_)))));have ad:w3.heap[rb]?=some (.cells cs T fr):=(by rw[f3.block _ (gg V) λg=>nomatch g];exact V);have ao:=(d.q9 f3).jT E (λg=>nomatch g) G;refine Ch (Aj ad _ ro 0 ac) (q.cell 1) ((jI ao).trans rfl) (q.cell 2) (q.z' 0 rfl λw4 q _=>?_);have d:=d.J0 q;have ae:dV eH ((dZ b (fP a)).getD iV):=by
  cases he:dZ b _ with|none=>exact I3|some x=>exact ab x he
 have af:∀ {I:Nat} {W:Md},jR [] F w W Y [(I,LH eH iV A7),(aa,LH eH a A7),(r3,.c #[.i i] 3),(r1,.c #[dM bb] xz)] sb F c b->
   Ia K I ((dZ b (fP a)).getD iV,(dZ b (fP a)).isSome) W aa r1 r3:=by
  intro I W d;refine d.own.z' 0 rfl λw5 q _=>?_;have d:=d.J0 q;refine Mj d.own 1 a (oE d.own 0 rfl _ rfl (qy5 J ae λw6 f6=>?_));have d:=d.q9 f6;have et:mD b a _=if jN a _ (dZ b (fP a)).isSome≠0 then (jN a ((dZ b (fP a)).getD iV) (dZ b (fP a)).isSome,b) else (0,b.fp (js (first+i) a)):=rfl
  rw[et] at U;generalize jN a ((dZ b (fP a)).getD iV) (dZ b (fP a)).isSome=v at U⊢;by_cases hv:v=0
  ·subst hv;rw[iN λg=>g rfl] at U;refine Ek (y_ (Mi d.own 3 (pW bb) (oD d.own λar w7 _ _ q=>?_)));have d:=d.J0 q;refine Hm
    (P:=λj W=>∃F',jR [] F w W Y [(ar,.cells #[.func (.func 64) #[] #[.pointer _,.pointer _,.pointer _]] Gb _),(I,.cells (HL.mk eH _).toArray A7 _),(aa,.cells (HL.mk eH a).toArray A7 _),(r3,.c #[.i i] 3),(r1,.cells #[.pointer _] xz _)] sb F' c (if j=0 then b else b.fp (js (first+i) a)))
    (λj W ⟨F',d⟩=>⟨⟨m,d.jT E (λg=>nomatch g) G⟩,FW d.own LQ rfl⟩) (λj W W' ⟨F',d⟩ f=>⟨F',d.q9 f⟩) (λj hj W K' hd hk=>?_) ⟨F,d⟩ (zO rfl) λW' ⟨F',d⟩=>U F' W' d.out (d.sub (nil_sublist _)).sG
   obtain⟨F',d⟩:=hd;have au:j=0:=(by simp at hj;exact hj);subst au;refine nM rfl oM (qe3 ?_);have d:=d.q9 (Fr.refl [] W).drew;have hb:=d.jT E (λg=>nomatch g) G;refine oB d.own 4 rfl _ rfl (fH (iH hb _ rfl (Mj d.own 2 a (oB d.own 4 rfl _ rfl (fH (iH hb first rfl (Mi d.own 3 (i:Int) ?_)))))));have av:=hU.1;have aw:=hU.2;rw[qV (i:Int) ⟨oL,oL⟩,qV _ ⟨av,aw⟩];refine qy6 λw8 f8=>?_;have d:=d.q9 f8;have hb:=d.jT E (λg=>nomatch g) G;refine jU ((jI hb).trans rfl) (d.own.cell 4) (JD d.sB hr ?_ λF2 W2 h2 s2=>hk W2 ⟨F2,d.jw h2 s2⟩);obtain⟨f1,f2,f3,f4,f5,f6,f7,f8,f9,ay,az,aA,aB,aC,aZ⟩:=J;exact⟨f1,f2,f3,f4,f5,f6,f7,f8,f9,ay,az,aA,aB,aC,pH hU⟩
  rw[iP hv] at U;exact Ek (LK (zR.2 hv) (U F w6 d.out (d.sub (nil_sublist _)).sG))
 have d:=d.q9 (Fr.refl [] w4).drew;have ah:=d.jT E (λg=>nomatch g) G;have O:lU (fP a):=⟨J.1,J.2.1⟩;constructor;refine oB d.own 2 rfl _ rfl (fH (iH ah _ rfl (Mj d.own 0 (fP a) (Cu d.sB O λw5 f5=>?_))));have d:=d.q9 f5;refine oD d.own λI w6 _ _ q=>?_;have d:=d.J0 q;exact nh (q.cells 1) ((jI (d.jT E (λg=>nomatch g) G)).trans rfl) (q.cell 3) (af d);refine oB d.own 2 rfl _ rfl (fH (iH ah _ rfl (Mj d.own 0 (fP a) (oD d.own λI w6 _ _ q=>?_))));have d:=d.J0 q;exact nh (q.cells 1) ((jI (d.jT E (λg=>nomatch g) G)).trans rfl) (q.cell 3) (Cu d.sB O λw5 f5=>af (d.q9 f5))
abbrev zw:Mf:=43
abbrev Gm:Mf:=280
def qt6(w:Md):(Instr.build Gm #[(0,LI eu t),(1,.w n),(2,.agg (kJ p).toArray),(3,.agg #[.w am.1,.w am.2])]).run prog w=.ok (.agg (vc t n p am 0).toArray) w:=by kernel_rfl
def qpM{H G I:WP}{K:Prop}(h:H w)(J:E w)(O:G w)(U:I w)(k:K):held [H,E,G,I] w K:=by unfold held;exact⟨⟨h,J,O,U⟩,k⟩
def qEH:((prog.info? Gm).bind (·.zero)).map (λz=>z.cells.toList)=some (vc nE.1 0 ux (0,0) 0):=by kernel_rfl
def qEG:d7 (vc t n p am room).toArray 51 [.u x]=(vc t n p am x).toArray:=by exact wM (A:=HL.mk eu t++([.w n]++kJ p++[.w am.1,.w am.2])) (Y:=[.u x]) rfl
def qzi{K:Int×e9->WP}(U:dV eu t)(hF:0<=dT t/\dT t<=255)(hn:lH n)(V:dV eH p.1)(I:dV eH p.2.1)(kk:∀w',Fr [] w w'->K (jD t n p) w'):cW 117 [LI eu t,.w n,.agg (kJ p).toArray] [.one .u,.agg dg] w K:=by
 refine qoP ?_;have hz:=qEH;have ag:=qrI U V I;refine oD (oG [] w) λr1 w1 _ f1 o=>oD o λr3 w2 _ f2 o=>oD o λr5 w3 _ f3 o=>?_;have o:=o.drew;have ab:∀ {G:Nat} {O:Md},dY [] w O [(G,.c (vc nE.1 0 ux (0,0) 0).toArray Gm),(r5,.c cq nf),(r3,.c (kJ p).toArray qP),(r1,LH eu t zw)]->Ji K (vc t n p (lw t p) 0) G O r1 r3 r5:=by
  intro G O o;refine nc Do (o.st' 0 rfl (vc t n p _ 0).toArray (gS rfl) rfl (zM _) λw4 o _=>Mj o 3 t (oE o 0 rfl _ rfl (lW (o.at (i:=2) rfl) _ (qn _) rfl (qDq U V I ag λw5 f5=>?_))));have o:=o.q9 f5;refine o.st' 0 rfl (vc t n p _ _).toArray qEG rfl (zO rfl) λw6 o _=>oD o λah w7 _ _ o=>?_;generalize ac:ry t _ p=rm at o;have E:∀ {v:Int} {W:Md},dY [] w W [(ah,.c #[.func (.func 173) #[] #[],.func (.func 174) #[] #[],.func (.func 175) #[] #[],.func (.func 176) #[] #[]] 282),(G,.c (vc t n p (lw t p) rm).toArray Gm),(r5,.c cq nf),(r3,.c (kJ p).toArray qP),(r1,LH eu t zw)]->jD t n p=(v,(0,0))->
    st (dh r5) [.w 0,.w 0] W λad=>dP dg (dh r5) ad λai=>K (v,ai) ad:=by
   intro v W o e;rw[e] at kk;exact o.z' 2 rfl λw8 o _=>oE o 2 rfl _ rfl (kk w8 o.fr)
  refine vV λX J=>y_ (ur oO oO (oB o 0 rfl _ rfl (lW (o.at (i:=1) rfl) _ Do rfl (nM rfl oM (qCq λw8 f8=>?_)))));have o:=o.q9 f8;refine uY (λh=>E o (by unfold jD;rw[iP h])) λh1=>J _ _ ?_;rw[gJ _ oO];refine vV λX J=>y_ (ur oO oO (oB o 0 rfl _ rfl (lW (o.at (i:=1) rfl) _ Do rfl (nM rfl oM (qzM hF λw9 f9=>?_)))));have o:=o.q9 f9;refine uY (λh=>E o (by unfold jD;rw[iN h1,iP h])) λh2=>J _ _ ?_;rw[gJ _ oO];refine vV λX J=>y_ (ur oO oO (oB o 0 rfl _ rfl (lW (o.at (i:=1) rfl) _ Do rfl (nM rfl oM (qDt V I λwa fa=>?_)))));have o:=o.q9 fa;refine uY (λh=>E o (by unfold jD;rw[iN h1,iN h2,iP h])) λh3=>J _ _ ?_;rw[gJ _ oO];refine vV λX J=>y_ (ur oO oO (oB o 0 rfl _ rfl (lW (o.at (i:=1) rfl) _ Do rfl (nM rfl oM (qEp U hn λwb fb=>?_)))));have o:=o.q9 fb;refine uY (λh=>E o (by unfold jD;rw[iN h1,iN h2,iN h3,ac,iP h])) λh4=>J _ _ ?_;rw[gJ _ oO];refine vV λX J=>x_ ?_;have o:=o.drew;refine oE o 1 rfl _ rfl (o.z' 2 rfl λwc o _=>oE o 2 rfl _ rfl ?_);have e:jD t n p=(0,lw t p):=(by unfold jD;rw[iN h1,iN h2,iN h3,ac,iN h4]);rw[e] at kk;exact kk wc o.fr
 constructor;refine Mj o 2 t (lW (o.at (i:=1) rfl) _ (qn _) rfl (Mj o 2 t (lW (o.at (i:=1) rfl) _ (qn _) rfl (qtK U V I λw4 f4=>?_))));have o:=o.q9 f4;refine jU (o.cells 1) (o.cells 2) (tf _ (qt6 _) (oK o hz λG w5 _ o=>?_));exact qpM (o.cells 2) (o.cells 3) (o.cells 2) (o.cells 3) (ab o);refine Mj o 2 t (lW (o.at (i:=1) rfl) _ (qn _) rfl (Mj o 2 t (lW (o.at (i:=1) rfl) _ (qn _) rfl (oK o hz λG w5 _ o=>?_))));refine qpM (o.cells 2) (o.cells 3) (o.cells 2) (o.cells 3) (qtK U V I λw4 f4=>?_);have o:=o.q9 f4;exact jU (o.cells 2) (o.cells 3) (tf _ (qt6 _) (ab o))
def qkT:∀ {l:List (My)} {b:Bk} {c:My},fD f b (l++[c])=((jO f (fD f b l).1 c).1,(fD f b l).2++(jO f (fD f b l).1 c).2)
 | [],b,c=>by simp only[fD,xG,xH]
 | d::l,b,c=>by rw[xI];unfold fD;rw[qkT (l:=l),zV]
def qxS{c:My}:(jO f b c).2.length<=c.2.1-c.1:=by unfold jO;split;exact Nat.le_of_eq FG;split;exact yX _;exact Nat.le_of_eq FG
def qEd{I:Obj}(o:dY S w0 w L)(f:Fr [] w w')(h:w'.heap[r]?=some I)(n:w.z<=r):dY S w0 w' ((r,I)::L):=by
 have G:=o.q9 f;refine⟨λp E=>(zG.1 E).elim (λe=>by rw[e];exact h) (G.iX p),?_,G.fr,λp E=>(zG.1 E).elim (λe=>.inr (by rw[e];exact zL o.fr.size n)) (G.own p)⟩;rw[xM,LP];refine⟨λJ=>?_,G.nodup⟩;obtain⟨p,E,e⟩:=mem_map.1 J;have:=gg (o.iX p E);omega
abbrev FZ:List Cell:=[.i,.i,.bool]
abbrev CNT:Mf:=187
def qEz{α:Type}{enc:α->List Me}{sl:Sl}{l:List α}{lk:List Bool}{K:Sl->WP}(T:uE enc k sb bb c first la lt s l v f lk.length I)(h:SB w Y sb F c b)(hB:ui enc k sb bb first la lt s l w Y (bb::F))(a2:w.heap[bb]?=some (md sb first la lt m))(hI:I 0 b)(hl:lk.length<=100000)(hR:eT rh 1 (bb::F) w sl lk)(hs:sb≠bb)(kk:∀F' w' V U B,SB w' Y sb F' c (fD f b (gE 0 0 lk)).1->Fr (bb::F) w w'->(∀x∈F',x∈F\/w.z<=x)->w'.heap[bb]?=some (md sb first la lt V)->eZ lG 2 w' U (fD f b (gE 0 0 lk)).2 B->(∀x∈B,w.z<=x/\x∉F')->K U w'): cW 58 [sl.v,v,.func (.func 59) #[dM bb] #[],.func (.func 60) #[dM bb] #[]] di w K:=by
 refine qt8 ?_;rw[T.cells];have d:jR [bb] F w w Y [(bb,md sb first la lt m)] sb F c b:=⟨CY a2,h.y4 λx hx=>(zG.1 hx).elim (λe=>by rw[e];exact hB.mem) id,.refl _ _,λx hx=>.inl hx,λ_ h=>.inl h,λg=>hs (zE.1 g)⟩;refine oD d.own λr1 w1 _ _ q=>oD q λr3 w2 _ _ q=>oD q λr5 w3 _ _ q=>oD q λr7 w4 _ _ q=>?_;have d:=d.J0 q;refine qyV λr9 w5 h9 f9 n9=>?_;have d:=d.J0 (qEd d.own f9 h9 n9);refine dY.mn d.own rfl oM λD lr R Bo J E E0 w6 el eD f6 q hy=>?_;have d:=d.J0 q;generalize ay:gE 0 0 lk=cs at kk;have aK:Row lk.length 0 cs:=(by rw[<- ay];exact CS lk);let Js:Nat->WP:=λn Z=>∃(F':Mk) (V:Option Addr) (U:Sl) (LB:List _) (g:Nat),jR [bb] F w Z Y ((lr,R)::(D,.deferred (some []))::(r9,.c #[sl.v] 103)::(r7,.c #[U.v] vz)::(r5,.c #[.func (.func 60) #[dM bb] #[]] 1)::(r3,.c #[.func (.func 59) #[dM bb] #[]] 1)::(r1,.c #[v] 105)::(bb,md sb first la lt V)::LB) sb F' c (fD f b (cs.take n)).1/\uB lG 2 U (fD f b (cs.take n)).2 LB/\Row lk.length g (cs.drop n)/\I g (fD f b (cs.take n)).1/\(fD f b (cs.take n)).2.length<=g/\g<=lk.length;refine qxl (I:=Js) (s:=sl) hl (λn Z hJ=>?_) (λn ch Z K' hJ aM hk=>?_) ⟨F,m,dN,[],0,d,.nil,aK,hI,zM _,yX _⟩ λZ hJ=>.inl ?_;obtain⟨F',V,U,LB,g,d,_⟩:=hJ;exact⟨⟨_,d.own.at (i:=2) rfl⟩,(d.ju hR).j6 λ_ h=>nomatch h⟩
 ·obtain⟨F',V,U,LB,g,d,G,aa,ap,aO,hg⟩:=hJ;rw[ay] at aM;obtain⟨aP,hx⟩:=zP.1 aM;have a4:cs.take (n+1)=cs.take n++[ch]:=(by rw[yG aP,hx]);rw[zX aP,hx] at aa;obtain⟨e1,aq,aa⟩:=aa;have ar:=aa.le;have ag:=qxS (f:=f) (b:=(fD f b (cs.take n)).1) (c:=ch);have bI:Js (n+1)=Js (n+1):=rfl;simp only[Js] at hk;rw[a4,qkT] at hk;generalize fD f b _=P at d G ap aO ag hk;obtain⟨iZ,to,op⟩:=ch;dsimp only at e1 aq aa ar ag;subst e1;refine hy ((iZ:Int),(to:Int),op) Z K' (d.own.at (i:=0) rfl) (oD d.own λac bJ _ _ q=>q.z' 0 rfl λa5 q _=>⟨q.at (i:=1) rfl,?_⟩);have q:=dY.jA (o':=Bo) q 1 rfl;have d:=d.J0 q;rw[qyq];generalize Pt.jA a5 lr Bo=a6 at d⊢;have ai:∀ {F':Mk} {V:Option Addr} {W:Md} {a vd:Int} {az:Nat},a=az->jR [bb] F w W Y ((ac,.c #[.i iZ,.i to,.bool op] CNT)::(lr,Bo)::(D,.deferred (some []))::(r9,.c #[sl.v] 103)::(r7,.c #[U.v] vz)::(r5,.c #[.func (.func 60) #[dM bb] #[]] 1)::(r3,.c #[.func (.func 59) #[dM bb] #[]] 1)::(r1,.c #[v] 105)::(bb,md sb first la lt V)::LB) sb F' c P.1->
    jO f P.1 (iZ,to,op)=(P.1,iC iZ to az vd)->cW 92 [.agg #[.i iZ,.i to,.bool op],.i a,.u vd] di W (λaQ aA=>held [λa7=>a7.cell? (dh r7)=some U.v] aA (Pt.run di ((Builtin.append_ #[vz,vz] vz #[U.v,aQ.v]).run prog aA) λau aR=>st (dh r7) [au.v] aR λaB=>aB.heap[lr]?=some Bo/\K' true (aB.putObj lr R))):=by
   intro F' V W a vd az ha d aC;refine qy0 ha (Nat.le_of_lt aq) oL λaQ bL aA a8 a9 bM=>?_;have d:=d.q9 a9;refine gY (d.own.cell 4) ?_;have hb:=G.ve d.own λp hp=>by simp[hp]
   refine qFt hb (a8.ju DV λ_ _ h=>nomatch h) (by rw[FG];omega) λau bN aR bc bd bf=>?_;obtain⟨bg,q,aD⟩:=qEc (L:=[(ac,_),(lr,Bo),(D,_),(r9,_),(r7,_),(r5,_),(r3,_),(r1,_),(bb,_)]) d.own bd bc bf;have d:=d.J0 q;refine d.own.st' 4 rfl #[au.v] rfl rfl (zO rfl) λaB q _=>⟨q.at (i:=1) rfl,?_⟩;have d:=d.J0 (dY.jA (o':=R) q 1 rfl);refine hk _ ⟨F',V,au,bg,to,?_,?_,aa,?_,?_,ar⟩;rw[aC];exact d.sub (L5 _ _);rw[aC];exact aD;rw[aC];exact T.mono _ _ _ (Nat.le_of_lt aq) ap;rw[zF];omega
  refine Mi d.own 0 op (eF (λho=>?_) λho=>?_);have d:=d.q9 (Fr.refl [] a6).drew;refine Mi d.own 4 U (Mj d.own 0 ((iZ:Int),(to:Int),op) (Mi d.own 0 (to:Int) ?_));exact ai (az:=to-1) (by rw[gJ _ oL];omega) d (by unfold jO;rw[iP ho])
  ·refine Mi d.own 0 (to:Int) (Mi d.own 0 (iZ:Int) (Ek ?_));rw[gJ _ oL];have O:jO f P.1 (iZ,to,op)=match iR f iZ (to-iZ) P.1 with|(none,b')=>(b',[])|(some (i,v),_)=>(P.1,iC iZ to i v):=by unfold jO;dsimp only;rw[iN (by rw[ho];exact Bool.false_ne_true)];rfl
   have aj:∀ {F':Mk} {V:Option Addr} {W:Md},jR [bb] F w W Y ((ac,.c #[.i iZ,.i to,.bool op] CNT)::(lr,Bo)::(D,.deferred (some []))::(r9,.c #[sl.v] 103)::(r7,.c #[U.v] vz)::(r5,.c #[.func (.func 60) #[dM bb] #[]] 1)::(r3,.c #[.func (.func 59) #[dM bb] #[]] 1)::(r1,.c #[v] 105)::(bb,md sb first la lt V)::LB) sb F' c P.1->
     ((1:Int)<(to:Int)-iZ->∃kb,V=pW kb/\wl W (HG::((ac::lr::D::r9::r7::r5::r3::r1::bb::fU LB)++Y++F')) kb c P.1)->dP FZ (dh ac) W λbi=>ld .any (dh r1) W λbj=>cW 93 [eV FZ bi,bj] [.one .i,.one .u] W λaE ak=>cond (aE.2==0) (ak.heap[lr]?=some Bo/\K' true (ak.putObj lr R))
      (join PUnit (λaT=>cond (decide ((to:Int)-iZ>1)) (ld .any (dh r5) ak λbk=>dU prog bk [] [] ak λbO bl=>aT () bl) (aT () ak)) λbP aF=>ld .slice (dh r7) aF.drew λaU=>dP FZ (dh ac) aF.drew λbm=>cW 92 [eV FZ bm,.i aE.1,.u aE.2] di aF.drew λbn aV=>held [λbo=>bo.cell? (dh r7)=some aU.v] aV (Pt.run di ((Builtin.append_ #[vz,vz] vz #[aU.v,bn.v]).run prog aV) λbp bq=>st (dh r7) [bp.v] bq λaW=>aW.heap[lr]?=some Bo/\K' true (aW.putObj lr R))):=by
    intro F' V W d hm;refine Mj d.own 0 ((iZ:Int),(to:Int),op) (Mi d.own 7 v (qyU T d.sB ⟨oN,⟨_,d.own.at (i:=8) rfl⟩,(d.ju hB.rd).j6 λx hx=>.inl (zI _ hx)⟩ ap (Nat.le_of_lt aq) ar hl λF2 W2 h2 s2=>?_));have d2:=d.jw h2 s2;have aX:=qsX T.cm (m:=to-iZ) (i:=iZ) (b:=P.1);have aw:=Is T.step (m:=to-iZ) oL ap;generalize ht:iR f iZ _ P.1=tr at d2 aX aw O;obtain⟨r,b2⟩:=tr;cases r with
    | none=>
     refine y_ ⟨d2.own.at (i:=1) rfl,?_⟩;have d2:=d2.J0 (dY.jA (o':=R) d2.own 1 rfl);refine hk _ ⟨F2,V,U,LB,to,?_,?_,aa,?_,?_,ar⟩;rw[O];exact d2.sub (L5 _ _);rw[O,xG];exact G;rw[O];have:=aw rfl;rw[show iZ+(to-iZ)=to by omega] at this;exact this;rw[zF];omega
    | some iv=>
     obtain⟨i,vd⟩:=iv;obtain⟨v0,i1,i2⟩:=qn2 ht;refine LK (zR.2 v0) (Ek (eF (λad=>?_) λad=>?_));obtain⟨kb,rfl,bs⟩:=hm (zC ad);refine oB d2.own 5 rfl _ rfl (CT rfl oM (qBj d2.sB (bs.sG s2) aX oN (d2.own.at (i:=8) rfl) λF3 W3 h3 s3=>?_));have d3:=(d2.jw h3 s3).q9 (Fr.refl [] W3).drew;exact Mi d3.own 4 U (Mj d3.own 0 ((iZ:Int),(to:Int),op) (ai rfl d3 O))
     ·have aY:to-iZ=1:=(by have:=zB ad;omega);have aH:b2=P.1:=by
       rw[aY] at ht;unfold iR at ht;split at ht
       ·next e=>cases ht;exact T.same _ _ e
       cases ht
      subst aH;have d3:=d2.q9 (Fr.refl [] W2).drew;exact Mi d3.own 4 U (Mj d3.own 0 ((iZ:Int),(to:Int),op) (ai rfl d3 O))
   refine eF (λad=>?_) λad=>?_;refine oB d.own 6 rfl _ rfl (CT rfl oM (qBm d.sB oN (d.own.at (i:=8) rfl) λkb W2 hm aH f2=>?_));exact aj (d.J0 (qCA d.own (i:=8) rfl f2 aH)) λ_=>⟨kb,rfl,hm⟩;exact aj d λh=>absurd h (zB ad)
 obtain⟨F',V,U,LB,g,d,G,_⟩:=hJ;refine⟨d.own.at (i:=0) rfl,?_⟩;have d:=d.J0 (dY.jA (o':=E0) d.own 0 rfl);rw[ay,xY] at d G;refine Mi d.own 3 U (dY.fc d.own 1 rfl λw' q=>?_);have d:=d.J0 q;have hb:=G.ve d.own λp hp=>by simp[hp]
 refine kk F' w' V U _ d.out d.fr d.nF (d.own.at (i:=7) rfl) hb λx hx=>⟨?_,d.sB.yf x (by simp[hx])⟩;rcases d.nL x (by simp[hx]) with e|e;have nd:(lr::D::r9::r7::r5::r3::r1::bb::fU LB).Nodup:=d.own.nodup;simp only[LP] at nd;exact absurd hx (by rw[zE.1 e];exact nd.2.2.2.2.2.2.2.1);exact e
def qzN(L:lh n b){i j:e9}:dV eH (mo b i j).1/\dV eH (mo b i j).2.1:=by
 have key:∀i,dV eH ((dZ b i).getD iV):=λi=>by
  cases h:dZ b i with|none=>exact I3|some x=>exact L.m7 h
 exact⟨key i,key j⟩
def qrS(E:dV eu t)(h:iD t=some x):lH x:=by
 have G:0<=kQ t/\kQ t<=4294967295:=E.2.2.2.2.2.2.2.2.2.2.2.1;have I:=py E.2.2.2.2.2.2.2.2.2.2.2.2.2.2.2;unfold iD at h;split at h;cases h
 ·split at h
  ·next g=>
   cases h;have e:kR t=t.2.2.2.2.2.2.2.2.2.2.2.2.2.2.2:=rfl;exact⟨oL,g⟩
  cases h
def qBn(h:SB w Y sb F c b)(hY:bb∈Y)(I:w.heap[bb]?=some (md sb first la lt m))(E:dV eu t)(hr:b.rm+1<=3*c)(G:∀F' w',SB w' Y sb F' c (iO b t)->lL F w F' w'->K 0 w'): cW 122 [dM bb,LI eu t] dj w K:=by
 refine qjl ?_;have J:=h.yf bb hY;have e2:bits .and .u16 _ 2=if hasB _ 2 then 2 else 0:=qL 1 (vS E) oO
 have d:=jR.call h;refine oD d.own λr1 w1 _ _ q=>?_;have d:=d.J0 q;refine Mi d.own 0 (dT t) ?_;rw[e2];unfold iO at G;by_cases O:hasB (dT t) 2;rw[iP O] at G⊢;have d:=d.q9 (Fr.refl [] w1).drew;have U:=d.jT I (λg=>nomatch g) J;refine x_ (fH (iH U _ rfl (Mj d.own 0 (gb t) (KD d.sB oL ⟨E.1,E.2.1⟩ (show (0:Int)<=1/\(1:Int)<=255 from⟨oO,oO⟩) λF2 w2 O s2=>?_))));have d:=d.jw O s2;refine x_ (Mj d.own 0 t (IU E λw3 f3=>?_));have d:=d.q9 f3;cases V:iD t with
 | none=>
  rw[V] at G;exact x_ (G F2 w3 d.out (d.sub (nil_sublist _)).sG)
 | some x=>
  rw[V] at G;have hx:=qrS E V;have d:=d.q9 (Fr.refl [] w3).drew;have U:=d.jT I (λg=>nomatch g) J;refine y_ (fH (iH U _ rfl (oB d.own 0 rfl _ rfl (Mj d.own 0 (gb t) ?_))));refine qxG d.sB (zL Bk.nt hr) ⟨pH hx,E.2.2.2.2.2.2.2.2.2.2.2.2.2.2.2,E.1,E.2.1⟩ λF3 w4 h4 s4=>?_;have d:=d.jw h4 s4;exact G F3 w4 d.out (d.sub (nil_sublist _)).sG
 rw[iN O] at G⊢;exact y_ (G F w1 d.out (d.sub (nil_sublist _)).sG)
def qC2:(iO b t).rm<=b.rm+2:=by unfold iO;split;split;exact zL Bk.wP (Nat.succ_le_succ Bk.nt);exact zL Bk.nt (Nat.le_succ _);omega
def qBl{s:Int}(h:SB w Y sb F c b)(hY:bb∈Y)(G:w.heap[bb]?=some (md sb first la lt m))(L:lh n b)(J:dV eu t)(hF:0<=dT t/\dT t<=255)(ab:eM b (gb t)=none)(ak:jz t=0)(al:gr t=false)(hn:n<=s)(hU:lH s)(hr:b.cost+160<=3*c)(O:∀F' w',SB w' Y sb F' c (oX b t s).2->lL F w F' w'->K (oX b t s).1 w'):cW 71 [dM bb,LI eu t,.w s] dm w K:=by
 refine qjh ?_;have I:=h.yf bb hY;have hz:=CW;have an:=yk;have aH:=Bk.mQ (b:=b);obtain⟨U,V⟩:=qzN L;have hD:lU (fI t):=⟨J.2.2.1,J.2.2.2.1⟩;have hC:lU (fJ t):=⟨J.2.2.2.2.1,J.2.2.2.2.2.1⟩;have d:=jR.call h;refine oD d.own λr1 w1 _ _ q=>oD q λr3 w2 _ _ q=>oD q λr5 w3 _ _ q=>?_;have d:=(d.J0 q).q9 (Fr.refl [] w3).drew;generalize hp:mo b _ _=p at U V;have ac:∀ {E:Nat} {W:Md},jR [] F w W Y [(E,.c (kJ ux).toArray qP),(r5,.c #[.w s] 32),(r3,LH eu t zw),(r1,.c #[dM bb] xz)] sb F c b->IB K (kJ p) E W r3 r5 r1:=by
  intro E W d;refine nc (qn _) (d.own.st' 0 rfl (kJ p).toArray (gS rfl) rfl (zM _) λw4 q _=>?_);have d:=d.J0 q;refine Mj d.own 2 t (Mi d.own 1 s (lW (d.own.at (i:=0) rfl) _ (qn _) rfl (qzi J hF hU U V λw5 f5=>?_)));have d:=d.q9 f5;have et:oX b t s=if (jD t s p).1≠0 then ((jD t s p).1,b) else (0,fE (iO (b.dS (lY t (jD t s p).2 s)) (lY t (jD t s p).2 s).1) ((rT t (jD t s p).2 p).getD ux) s):=by rw[<- hp];rfl
  have hL:=λam hc=>L.plain (am:=am) J ab ak al hn hU hc;rw[hp] at hL;rw[et] at O;generalize hc:jD t s p=ck at O⊢;obtain⟨v,am⟩:=ck;refine oD d.own λaq w6 _ _ q=>q.z' 0 rfl λw7 q _=>?_;have d:=d.J0 q;by_cases hv:v=0;subst hv;obtain⟨r,hm,f1,f2,ae,_⟩:=hL am hc;rw[hm,xT] at O;have hk:=qw3 J ae hU;refine x_ (Mj d.own 3 t (Mj d.own 0 am (lW (d.own.at (i:=1) rfl) _ (qn _) rfl (qDm J U V ae hm λw8 f8=>?_))));have d:=d.q9 f8;refine nc (qn _) (d.own.st' 1 rfl (kJ r).toArray (gS rfl) rfl (zM _) λw9 q _=>?_);have d:=d.J0 q;refine Mj d.own 3 t (Mj d.own 0 am (Mi d.own 2 s (qBI λwa fa=>?_)));have d:=d.q9 fa;generalize lY t am s=k at O hk;refine oK d.own an λau wb _ q=>nc (sE _) (q.st' 0 rfl (mV k).toArray (gS rfl) rfl (zM _) λwc q _=>?_);have d:=d.J0 q;refine oB d.own 5 rfl _ rfl (oD d.own λav wd _ _ q=>?_);have d:=d.J0 q;have z1:=Bk.o7 (b:=b) (k:=k);have z2:=qC2 (b:=b.dS k) (t:=k.1);refine Hm
   (P:=λj W=>∃F',jR [] F w W Y [(av,.cells #[.func _ #[] #[.pointer _,.pointer _],.func _ #[] #[.pointer _,.pointer _],.func _ #[] #[.pointer _,.pointer _,.pointer _]] Gb _),(au,.cells (mV k).toArray AB _),(aq,.cells #[.w am.1,.w am.2] nf _),(E,.cells (kJ r).toArray qP _),(r5,.c #[.w s] 32),(r3,.cells (HL.mk eu t).toArray zw _),(r1,.cells #[.pointer _] xz _)] sb F' c
    (match j with|0=>b|1=>b.dS k|2=>iO (b.dS k) k.1|_=>fE (iO (b.dS k) k.1) r s))
   (λj W ⟨F',d⟩=>⟨⟨m,d.jT G (λg=>nomatch g) I⟩,FW d.own LQ rfl⟩) (λj W W' ⟨F',d⟩ f=>⟨F',d.q9 f⟩) (λj hj W K' hd aa=>?_) ⟨F,d⟩ (zO rfl) λW' ⟨F',d⟩=>O F' W' d.out (d.sub (nil_sublist _)).sG
  obtain⟨F',d⟩:=hd;have hb:=d.jT G (λg=>nomatch g) I;rcases (show j=0\/j=1\/j=2 by have:j<3:=hj;omega) with rfl|rfl|rfl;have d:jR [] F w W Y _ sb F' c b:=d;refine nM rfl oM (qgk ?_);have d:=d.q9 (Fr.refl [] W).drew;refine oB d.own 6 rfl _ rfl (fH (iH hb _ rfl (lW (d.own.at (i:=1) rfl) _ (sE k) rfl (qo9 d.sB oL hk λF2 W2 h2 s2=>aa W2 ⟨F2,d.jw h2 s2⟩))));have d:jR [] F w W Y _ sb F' c (b.dS k):=d;refine nM rfl oM (qgl ?_);refine oB d.own 6 rfl _ rfl (Mj d.own 1 k.1 (qBn d.sB (zI _ hY) hb hk.1 oL λF2 W2 h2 s2=>aa W2 ⟨F2,d.jw h2 s2⟩));have d:jR [] F w W Y _ sb F' c (iO _ k.1):=d;refine nM rfl oM (qgm ?_);have d:=d.q9 (Fr.refl [] W).drew;refine oB d.own 6 rfl _ rfl (fH (iH hb _ rfl (lW (d.own.at (i:=3) rfl) _ (qn r) rfl (Mi d.own 4 s (Ka d.sB f1 f2 (pH hU) oL λF2 W2 h2 s2=>aa W2 ⟨F2,d.jw h2 s2⟩)))));rw[iP hv] at O;exact LJ (by rw[zR.2 hv];rfl) (O F w7 d.out (d.sub (nil_sublist _)).sG)
 have ah:=d.jT G (λg=>nomatch g) I;constructor;refine oB d.own 2 rfl _ rfl (fH (iH ah _ rfl (oE d.own 1 rfl _ rfl (oE d.own 1 rfl _ rfl (Ca d.sB hD hC λw5 f5=>?_)))));have d:=d.q9 f5;refine oK d.own hz λE w6 _ q=>?_;have d:=d.J0 q;rw[hp];exact Ch (q.cells 2) (q.cells 2) ((jI (d.jT G (λg=>nomatch g) I)).trans rfl) (q.cell 3) (ac d);refine oB d.own 2 rfl _ rfl (fH (iH ah _ rfl (Mj d.own 1 (fI t) (Mj d.own 1 (fJ t) (oK d.own hz λE w6 _ q=>?_)))));have d:=d.J0 q;refine Ch (q.cells 2) (q.cells 2) ((jI (d.jT G (λg=>nomatch g) I)).trans rfl) (q.cell 3) (Ca d.sB hD hC λw5 f5=>?_);rw[hp];exact ac (d.q9 f5)
abbrev C3:Mf:=207
def qt7{q:HL eu}{st:Int}(w:Md):(Instr.build C3 #[(0,LI eu q),(1,.bool there),(2,.b st)]).run prog w=.ok (.agg (xf q there st).toArray) w:=by kernel_rfl
def qFo:((prog.info? C3).bind (·.zero)).map (λz=>z.cells.toList)=some (xf nE.1 false 0):=by kernel_rfl
def qun:dV eu nE.1:=⟨mv,mv,mv,mv,mv,mv,mv,mv,mv,mv,mv,show (0:Int)<=0/\(0:Int)<=4294967295 from⟨oO,oO⟩,show (0:Int)<=0/\(0:Int)<=4294967295 from⟨oO,oO⟩,show (0:Int)<=0/\(0:Int)<=65535 from⟨oO,oO⟩,show (0:Int)<=0/\(0:Int)<=65535 from⟨oO,oO⟩,mv⟩
def qB4{q:HL eu}:(jv b q).rm<=b.rm:=by unfold jv;split;exact Bk.wY;exact zM _
def qBk{q:HL eu}(h:SB w Y sb F c b)(hY:bb∈Y)(I:w.heap[bb]?=some (md sb first la lt m))(J:dV eu q)(hr:b.rm<=3*c)(hd:∀x,iD q=some x->∃y∈b.due,pR y=(x,kR q))(E:∀F' w',SB w' Y sb F' c (jv b q)->lL F w F' w'->K 0 w'): cW 114 [dM bb,LI eu q] dj w K:=by
 refine qjf ?_;have O:=h.yf bb hY;have d:=jR.call h;refine oD d.own λr1 w1 _ _ o=>?_;have d:=d.J0 o;refine Mj d.own 0 q (IU J λw3 f3=>?_);have d:=d.q9 f3;unfold jv at E;cases G:iD q with
 | none=>
  rw[G] at E;exact x_ (E F w3 d.out (d.sub (nil_sublist _)).sG)
 | some x=>
  rw[G] at E;have U:=qrS J G;have d:=d.q9 (Fr.refl [] w3).drew;have hb:=d.jT I (λg=>nomatch g) O;refine y_ (fH (iH hb _ rfl (oB d.own 0 rfl _ rfl (qvG d.sB hr ⟨pH U,J.2.2.2.2.2.2.2.2.2.2.2.2.2.2.2,mv,mv⟩ (λ_ F4 w4 h4 s4=>?_) λV=>?_))));have d:=d.jw h4 s4;exact E F4 w4 d.out (d.sub (nil_sublist _)).sG;obtain⟨y,hy,e⟩:=hd x G;exact absurd e (V y hy)
def qxk{s:Int}(h:SB w Y sb F c b)(hY:bb∈Y)(G:w.heap[bb]?=some (md sb first la lt m))(L:lh n b)(ht:dV eu t)(aq:eM b (gb t)=none)(aG:jz t=0)(aH:gr t=true)(hn:n<=s)(hU:lH s)(hr:b.cost+160<=3*c)(kk:∀F' w',SB w' Y sb F' c (rq b t s).2->lL F w F' w'->K (rq b t s).1 w'): cW 70 [dM bb,LI eu t,.w s] dm w K:=by
 refine qhv ?_;have I:=h.yf bb hY;have hz:=CW;have ar:=yk;have au:=qFo;have aZ:=Bk.mQ (b:=b);have hW:lU (iB t):=⟨ht.2.2.2.2.2.2.2.2.1,ht.2.2.2.2.2.2.2.2.2.1⟩;have e4:bits .and .u16 _ 4=if hasB _ 4 then 4 else 0:=qL 2 (vS ht) oO
 have O:dV eu ((eM b (iB t)).getD nE).1:=by
  cases he:eM b _ with|none=>exact qun|some x=>exact (L.qD (Gq he).1).1
 have et:rq b t s=if (nK t s ((eM b _).getD nE).1 (eM b _).isSome _ _).1≠0 then ((nK t s ((eM b _).getD nE).1 (eM b _).isSome _ _).1,b)
   else (0,fE _ _ s):=rfl
 have hL:=λam hc=>L.settle (am:=am) ht aq aG aH hn hU hc;rw[et] at kk;generalize hk:(eM b _).getD nE=k0 at kk hL O;generalize ax:(eM b _).isSome=there at kk hL;generalize ae:iM b _=U at kk hL;obtain⟨ah,ai⟩:=qzN L;generalize hp:mo b _ _=p at kk hL ah ai;have hD:lU (fI k0.1):=⟨O.2.2.1,O.2.2.2.1⟩;have hC:lU (fJ k0.1):=⟨O.2.2.2.2.1,O.2.2.2.2.2.1⟩;have d:=jR.call h;refine oD d.own λr1 w1 _ _ o=>oD o λr3 w2 _ _ o=>oD o λr5 w3 _ _ o=>?_;have d:=(d.J0 o).q9 (Fr.refl [] w3).drew;have g3:∀ {E J aa:Nat} {W:Md},jR [] F w W Y [(aa,.c (kJ ux).toArray qP),(J,.c (xf k0.1 there U).toArray C3),(E,.c (mV k0).toArray AB),(r5,.c #[.w s] 32),(r3,LH eu t zw),(r1,.c #[dM bb] xz)] sb F c b->Ic K (kJ p) aa W r3 r5 J r1:=by
  intro E J aa W d;refine nc (qn _) (d.own.st' 0 rfl (kJ p).toArray (gS rfl) rfl (zM _) λw4 o _=>?_);have d:=d.J0 o;refine Mj d.own 4 t (Mi d.own 3 s (lW (d.own.at (i:=1) rfl) _ FB rfl (lW (d.own.at (i:=0) rfl) _ (qn _) rfl (qy8 ht O ah ai λw5 f5=>?_))));have d:=d.q9 f5;generalize hc:nK t s k0.1 there U p=ck at kk⊢;obtain⟨v,am⟩:=ck;refine oD d.own λay w6 _ _ o=>o.z' 0 rfl λw7 o _=>?_;have d:=d.J0 o;by_cases hv:v=0;subst hv;obtain⟨q,r,hq,hm,f1,f2,aM,az,aA,_⟩:=hL am hc;have ek:k0=q:=(by rw[<- hk,hq];rfl);subst ek;rw[hp] at hm;rw[hm,xT] at kk;refine x_ (Mi d.own 5 (dT t) ?_);rw[e4];refine oD d.own λaB w8 _ _ o=>o.z' 0 rfl λw9 o _=>?_;have d:=d.J0 o;refine jd (λ_ W'=>jR [] F w W' Y [(aB,.c #[.b (if hasB (dT t) 4 then 2 else 3)] 5),(ay,.c #[.w am.1,.w am.2] nf),(aa,.c (kJ p).toArray qP),(J,.c (xf k0.1 there U).toArray C3),(E,.c (mV k0).toArray AB),(r5,.c #[.w s] 32),(r3,LH eu t zw),(r1,.c #[dM bb] xz)] sb F c b) ?_ ?_;by_cases h4:hasB (dT t) 4;rw[iP h4,iP h4];exact y_ (d.own.st' 0 rfl #[.b 2] rfl rfl (zM _) λwa o _=>d.J0 o);rw[iN h4,iN h4];exact x_ d;rintro _ wa d;have aj:(!(if hasB (dT t) 4 then (4:Int) else 0)==0)=hasB (dT t) 4:=(by cases hasB _ 4<;>rfl);rw[aj];refine Mj d.own 3 k0.1 (Mj d.own 1 am (lW (d.own.at (i:=2) rfl) _ (qn _) rfl (qxI O ah ai aM hm λwb fb=>?_)));have d:=d.q9 fb;refine nc (qn _) (d.own.st' 2 rfl (kJ r).toArray (gS rfl) rfl (zM _) λwc o _=>?_);have d:=d.J0 o;refine oB d.own 7 rfl _ rfl (oD d.own λaN wd _ _ o=>?_);have d:=d.J0 o;have aC:IntKind.u8.has (if hasB (dT t) 4 then 2 else 3):=(by split<;>exact⟨oO,oO⟩);generalize (if hasB _ 4 then (2:Int) else 3)=sx at kk d aC;generalize aO:kL t k0.1 am s=k2 at kk az;have z1:=Bk.o7 (b:=b) (k:=k2);have z2:=Bk.nt (b:=b.dS k2) (x:=(iB t,sx));have z3:=qB4 (b:=(b.dS k2).fG (iB t,sx)) (q:=k0.1);have aP:∀x,iD k0.1=some x->∃y∈((b.dS k2).fG (iB t,sx)).due,pR y=(x,kR k0.1):=λx hx=>⟨qF k0 x,by show qF k0 x∈(b.dS k2).due;exact aA x hx,rfl⟩;refine Hm
   (P:=λj W=>∃F',jR [] F w W Y [(aN,.cells #[.func _ #[] #[.pointer _,.pointer _,.pointer _,.pointer _,.pointer _],.func _ #[] #[.pointer _,.pointer _,.pointer _],.func _ #[] #[.pointer _,.pointer _],.func _ #[] #[.pointer _,.pointer _,.pointer _]] Gb _),(aB,.c #[.b sx] 5),(ay,.cells #[.w am.1,.w am.2] nf _),(aa,.cells (kJ r).toArray qP _),(J,.cells (xf k0.1 there U).toArray C3 _),(E,.cells (mV k0).toArray AB _),(r5,.c #[.w s] 32),(r3,.cells (HL.mk eu t).toArray zw _),(r1,.cells #[.pointer _] xz _)] sb F' c
    (match j with|0=>b|1=>b.dS k2|2=>(b.dS k2).fG (iB t,sx)|3=>jv ((b.dS k2).fG (iB t,sx)) k0.1|_=>fE (jv ((b.dS k2).fG (iB t,sx)) k0.1) r s))
   (λj W ⟨F',d⟩=>⟨⟨m,d.jT G (λg=>nomatch g) I⟩,FW d.own LQ rfl⟩) (λj W W' ⟨F',d⟩ f=>⟨F',d.q9 f⟩) (λj hj W K' hd ad=>?_) ⟨F,d⟩ (zO rfl) λW' ⟨F',d⟩=>kk F' W' d.out (d.sub (nil_sublist _)).sG
  obtain⟨F',d⟩:=hd;have hb:=d.jT G (λg=>nomatch g) I;rcases (show j=0\/j=1\/j=2\/j=3 by have:j<4:=hj;omega) with rfl|rfl|rfl|rfl;have d:jR [] F w W Y _ sb F' c b:=d;refine nM rfl oM (qfv ?_);have d:=d.q9 (Fr.refl [] W).drew;refine oB d.own 8 rfl _ rfl (fH (iH hb _ rfl (Mj d.own 7 t (Mj d.own 4 k0.1 (Mj d.own 2 am (Mi d.own 6 s (qBx λw2 g2=>?_)))))));have d:=d.q9 g2;rw[aO];exact jU ((jI (d.jT G (λg=>nomatch g) I)).trans rfl) (d.own.cell 8) (qo9 d.sB oL az λF2 W2 h2 s2=>ad W2 ⟨F2,d.jw h2 s2⟩);have d:jR [] F w W Y _ sb F' c (b.dS k2):=d;refine nM rfl oM (qfw ?_);have d:=d.q9 (Fr.refl [] W).drew;exact oB d.own 8 rfl _ rfl (fH (iH hb _ rfl (Mj d.own 7 (iB t) (Mi d.own 1 sx (KD d.sB oL hW aC λF2 W2 h2 s2=>ad W2 ⟨F2,d.jw h2 s2⟩)))));have d:jR [] F w W Y _ sb F' c ((b.dS k2).fG _):=d;refine nM rfl oM (qfx ?_);exact oB d.own 8 rfl _ rfl (Mj d.own 4 k0.1 (qBk d.sB (zI _ hY) hb O oL aP λF2 W2 h2 s2=>ad W2 ⟨F2,d.jw h2 s2⟩));have d:jR [] F w W Y _ sb F' c (jv _ k0.1):=d;refine nM rfl oM (qfy ?_);have d:=d.q9 (Fr.refl [] W).drew;exact oB d.own 8 rfl _ rfl (fH (iH hb _ rfl (lW (d.own.at (i:=3) rfl) _ (qn r) rfl (Mi d.own 6 s (Ka d.sB f1 f2 (pH hU) oL λF2 W2 h2 s2=>ad W2 ⟨F2,d.jw h2 s2⟩)))));rw[iP hv] at kk;exact LJ (by rw[zR.2 hv];rfl) (kk F w7 d.out (d.sub (nil_sublist _)).sG)
 have g2:∀ {E J:Nat} {W:Md},jR [] F w W Y [(J,.c (xf nE.1 false 0).toArray C3),(E,.c (mV k0).toArray AB),(r5,.c #[.w s] 32),(r3,LH eu t zw),(r1,.c #[dM bb] xz)] sb F c b->KF K (xf k0.1 there U) J W r1 r3 r5:=(by intro E J W d;refine nc FB (d.own.st' 0 rfl (xf k0.1 there U).toArray (gS rfl) rfl (zM _) λw4 o _=>?_);have d:=(d.J0 o).q9 (Fr.refl [] w4).drew;have V:=d.jT G (λg=>nomatch g) I;constructor;refine oB d.own 4 rfl _ rfl (fH (iH V _ rfl (oE d.own 0 rfl _ rfl (oE d.own 0 rfl _ rfl (Ca d.sB hD hC λw5 f5=>?_)))));have d:=d.q9 f5;refine oK d.own hz λaa w6 _ o=>?_;have d:=d.J0 o;rw[hp];exact Ch (o.cells 1) (o.cells 1) ((jI (d.jT G (λg=>nomatch g) I)).trans rfl) (o.cell 5) (g3 d);refine oB d.own 4 rfl _ rfl (fH (iH V _ rfl (Mj d.own 0 (fI k0.1) (Mj d.own 0 (fJ k0.1) (oK d.own hz λaa w6 _ o=>?_)))));have d:=d.J0 o;refine Ch (o.cells 1) (o.cells 1) ((jI (d.jT G (λg=>nomatch g) I)).trans rfl) (o.cell 5) (Ca d.sB hD hC λw5 f5=>?_);rw[hp];exact g3 (d.q9 f5));have g1:∀ {E:Nat} {W:Md},jR [] F w W Y [(E,.c (mV nE).toArray AB),(r5,.c #[.w s] 32),(r3,LH eu t zw),(r1,.c #[dM bb] xz)] sb F c b->Kb K (mV k0,there) E W r1 r3 r5:=(by intro E W d;refine nc (sE k0) (d.own.st' 0 rfl (mV k0).toArray (gS rfl) rfl (zM _) λw4 o _=>?_);have d:=(d.J0 o).q9 (Fr.refl [] w4).drew;have V:=d.jT G (λg=>nomatch g) I;constructor;refine Mj d.own 0 k0.1 (oB d.own 3 rfl _ rfl (fH (iH V _ rfl (Mj d.own 2 (iB t) (qww d.sB hW λw5 f5=>?_)))));have d:=d.q9 f5;rw[show iM b _=U from ae];refine gY (d.own.cells 0) (tf _ (qt7 _) (oK d.own au λJ w6 _ o=>?_));have d:=d.J0 o;exact Ch (o.cells 3) ((jI (d.jT G (λg=>nomatch g) I)).trans rfl) (o.cell 4) (o.cells 1) (g2 d);refine Mj d.own 0 k0.1 (oB d.own 3 rfl _ rfl (fH (iH V _ rfl (Mj d.own 2 (iB t) (oK d.own au λJ w6 _ o=>?_)))));have d:=d.J0 o;refine Ch (o.cells 3) ((jI (d.jT G (λg=>nomatch g) I)).trans rfl) (o.cell 4) (o.cells 1) (qww d.sB hW λw5 f5=>?_);have d:=d.q9 f5;rw[show iM b _=U from ae];exact gY (d.own.cells 1) (tf _ (qt7 _) (g2 d)));have V:=d.jT G (λg=>nomatch g) I;constructor;refine oB d.own 2 rfl _ rfl (fH (iH V _ rfl (Mj d.own 1 (iB t) (Dj d.sB hW λw5 f5=>?_))));have d:=d.q9 f5;refine oK d.own ar λE w6 _ o=>?_;have d:=d.J0 o;rw[show (eM b _).getD nE=k0 from hk,show (eM b _).isSome=there from ax];exact nh (o.cells 2) ((jI (d.jT G (λg=>nomatch g) I)).trans rfl) (o.cell 3) (g1 d);refine oB d.own 2 rfl _ rfl (fH (iH V _ rfl (Mj d.own 1 (iB t) (oK d.own ar λE w6 _ o=>?_))));have d:=d.J0 o;refine nh (o.cells 2) ((jI (d.jT G (λg=>nomatch g) I)).trans rfl) (o.cell 3) (Dj d.sB hW λw5 f5=>?_);rw[show (eM b _).getD nE=k0 from hk,show (eM b _).isSome=there from ax];exact g1 (d.q9 f5)
def qDd{l:List (HL eu)}(h:SB w Y sb F c b)(hB:ui (HL.mk eu) 16 sb bb first la lt lt l w Y F)(hi:i<l.length)(hl:l.length<=100000)(J:dV eu l[i])(L:lh n b)(hn:n<=first+i)(hr:b.cost+160<=3*c)(hf:0<=first)(hU:lH (first+i))(E:∀F' w',SB w' Y sb F' c (kX b l[i] (first+i)).2->lL F w F' w'->K (kX b l[i] (first+i)).1 w'): cW 42 [dM bb,.i i] dm w K:=by
 refine qfY ?_;obtain⟨m,G⟩:=hB.iX;have I:=h.yf bb hB.mem;have ac:=yk;have ao:=hU.1;have ap:=hU.2;have d:=(jR.call h).q9 (Fr.refl [] w).drew;have U:=d.jT G (λg=>nomatch g) I;generalize ha:l[i]=t at J E;have hx:l[i]?=some t:=(by rw[zA hi,ha]);refine fH (iH U lt rfl (IV (d.ju hB.rd) i rfl hx λrb ro cs T fr aa ad=>zo aa t ad (fH (iH U first rfl (oD d.own λr7 w3 _ f3 q=>?_)))));have ae:w3.heap[rb]?=some (.cells cs T fr):=(by rw[f3.block _ (gg aa) λg=>nomatch g];exact aa);have af:=(d.q9 f3).jT G (λg=>nomatch g) I;refine nh ((jI af).trans rfl) (Aj ae _ ro 0 ad) ((jI af).trans rfl) (q.z' 0 rfl λw4 q _=>?_);have d:=d.J0 q;have U:=d.jT G (λg=>nomatch g) I;refine gY ((jI U).trans rfl) (Mj d.own 0 t (qBq λw5 f5=>?_));have d:=d.q9 f5;have et:kX b t _=if mX t≠0 then (mX t,b) else match eM b (gb t) with|some k=>(kY t k,b)|none=>if jz t≠0 then (jz t,b) else if gr t then rq b t (first+i) else oX b t (first+i):=rfl
 rw[et] at E;refine uY (λhv=>?_) λhv=>?_;rw[iP hv] at E;exact E F w5 d.out (d.sub (nil_sublist _)).sG;rw[iN hv] at E;have hF:0<=dT t/\dT t<=255:=by refine⟨(vS J).1,?_⟩;have h0:=Classical.byContradiction hv;unfold mX at h0;split at h0;cases h0;split at h0;cases h0;omega
 have g1:∀ {O:Nat} {W:Md},jR [] F w W Y [(O,.c (mV nE).toArray AB),(r7,LH eu t zw)] sb F c b->Hf (pW bb) i K (mV ((eM b (gb t)).getD nE),(eM b (gb t)).isSome) O W r7 first:=by
  intro O W d;unfold Hf;refine nc (sE _) (d.own.st' 0 rfl (mV _).toArray (gS rfl) rfl (zM _) λw6 q _=>?_);have d:=d.J0 q;cases hk:eM b _ with
  | some k=>
   rw[hk] at E d;exact y_ (Mj d.own 1 t (lW (d.own.at (i:=0) rfl) _ (sE k) rfl (qBi hF λw7 f7=>by have d:=d.q9 f7;exact E F w7 d.out (d.sub (nil_sublist _)).sG)))
  | none=>
   rw[hk] at E d;refine x_ (Mj d.own 1 t (qBr hF λw7 f7=>?_));have d:=d.q9 f7;refine uY (λV=>?_) λV=>?_;rw[iP V] at E;exact E F w7 d.out (d.sub (nil_sublist _)).sG;rw[iN V] at E;have ah:=Classical.byContradiction V;refine Mi d.own 1 (dT t) ?_;rw[show (!bits .and .u16 _ 12==0)=gr t from by rw[Ky hF];unfold gr;cases hasB _ 4<;>cases hasB _ 8<;>rfl,qV (i:Int) ⟨oL,oL⟩,qV _ ⟨ao,ap⟩];have U:=d.jT G (λg=>nomatch g) I;refine eF (λhs=>?_) λhs=>?_;rw[iP hs] at E;refine Mj d.own 1 t (qxk d.sB (zI _ hB.mem) U L J hk ah hs hn hU hr λF2 W2 h2 s2=>?_);have d:=d.jw h2 s2;exact E F2 W2 d.out (d.sub (nil_sublist _)).sG;rw[iN (by rw[hs];exact Bool.false_ne_true)] at E;refine Mj d.own 1 t (qBl d.sB (zI _ hB.mem) U L J hF hk ah hs hn hU hr λF2 W2 h2 s2=>?_);have d:=d.jw h2 s2;exact E F2 W2 d.out (d.sub (nil_sublist _)).sG
 have d:=d.q9 (Fr.refl [] w5).drew;have U:=d.jT G (λg=>nomatch g) I;have hI:lU (gb t):=⟨J.1,J.2.1⟩;constructor;refine fH (iH U _ rfl (Mj d.own 0 (gb t) (Dj d.sB hI λw6 f6=>?_)));have d:=d.q9 f6;refine oK d.own ac λO w7 _ q=>?_;have d:=d.J0 q;exact jU (q.cells 1) ((jI (d.jT G (λg=>nomatch g) I)).trans rfl) (g1 d);refine fH (iH U _ rfl (Mj d.own 0 (gb t) (oK d.own ac λO w7 _ q=>?_)));have d:=d.J0 q;exact jU (q.cells 1) ((jI (d.jT G (λg=>nomatch g) I)).trans rfl) (Dj d.sB hI λw6 f6=>g1 (d.q9 f6))
def qC1:(iO b t).cm=b.cm:=by unfold iO;split;split<;>rfl;rfl
def qEs:(kX b t n).2.cm=b.cm:=by unfold kX;split;rfl;split;rfl;split;rfl;split;unfold rq;dsimp only;split;rfl;rw[(DJ).2.2.2.2.2.2.2.2,qrW.2.2.2.2.2.2.2];rfl;unfold oX;dsimp only;split;rfl;rw[(DJ).2.2.2.2.2.2.2.2,qC1];rfl
def qEr:(mD b a n).2.cm=b.cm:=by unfold mD;dsimp only;split<;>rfl
abbrev K3:Mf:=103
variable {K:Mr->WP}
def qws{α:Type}{enc:α->List Me}{sl:Sl}{l:List α}{E:List Bool}(T:uE enc k sb bb c first la lt s l v f E.length I)(h:SB w Y sb F c b)(hB:ui enc k sb bb first la lt s l w Y (bb::F))(ai:w.heap[bb]?=some (md sb first la lt m))(hI:I 0 b)(hl:E.length<=100000)(hR:eT rh 1 (bb::F) w sl E)(hs:sb≠bb)(aj:∀b',I E.length b'->b'.rm<=3*c)(hf:0<=first)(hU:first+E.length<18446744073709551616)(kk:∀F' w' s' B,SB w' Y sb F' c (jp f b first E).1->Fr (bb::F) w w'->(∀x∈F',x∈F\/w.z<=x)->eZ lG 2 w' s' (jp f b first E).2 B->(∀x∈B,w.z<=x/\x∉F')->K (s',0) w'): cW 40 [dM bb,sl.v,v] dl w K:=by
 refine qks ?_;have ac:=hR.1;have d:jR [bb] F w w Y [(bb,md sb first la lt m)] sb F c b:=⟨CY ai,h.y4 λx G=>(zG.1 G).elim (λe=>by rw[e];exact hB.mem) id,.refl _ _,λx G=>.inl G,λ_ h=>.inl h,λg=>hs (zE.1 g)⟩;refine oD d.own λr1 w1 _ _ q=>oD q λr3 w2 _ _ q=>?_;have d:=d.J0 q;have ad:∀x∈bb::F,x∈fU [(r3,Obj.cells #[sl.v] K3 (0,0)),(r1,Obj.cells #[dM bb] xz (0,0)),(bb,md sb first la lt m)]++F:=λx G=>(zG.1 G).elim (λe=>by rw[e];simp) λg=>zI _ g;refine Mi d.own 0 sl (oB d.own 1 rfl _ rfl (oB d.own 1 rfl _ rfl ?_));refine qEz T d.sB ⟨oN,⟨_,d.own.at (i:=2) rfl⟩,(d.ju hB.rd).j6 λx G=>.inl (ad x G)⟩ (d.own.at (i:=2) rfl) hI hl ((d.ju hR).j6 λx G=>.inl (ad x G)) hs λF' w9 m' s' B h9 f9 n9 al J nB=>?_;have d9:=d.x6 (i:=2) rfl h9 f9 n9 al;have an:∀x∈B,w.z<=x:=λx G=>zL d.fr.size (nB x G).1;have ae:∀x∈B,x∉F':=λx G=>(nB x G).2;have ao:=KA T.step T.mono (CS E) hI;have d:=d9;have O:∀ {F2:Mk} {W:Md},jR [bb] F w W Y [(r3,.c #[sl.v] K3),(r1,.c #[dM bb] xz),(bb,md sb first la lt m')] sb F2 c (jp f b first E).1->eZ lG 2 W s' (jp f b first E).2 B->(∀x∈B,x∉F2)->
   ld .ptr (dh r1) W λap=>nn ap λaf=>ld .i ⟨af.block,af.off+5,none⟩ W λaL=>cond (!aL==0) (ld .ptr (dh r1) W.drew λaq=>nn aq λag=>ld .i ⟨ag.block,ag.off+5,none⟩ W.drew λar=>K (dN,ar) W.drew) (K (s',0) W):=by
  intro F2 W d U V;exact oB d.own 1 rfl _ rfl (fH (Mi d.own 2 0 (x_ (kk F2 W s' B d.out d.fr d.nF U λx G=>⟨an x G,V x G⟩))))
 refine Ek (Mi d.own 0 sl (eF (λhc=>?_) λhc=>?_))
 ·have aa:0<E.length:=(by have:=zC hc;omega);have ah:E≠[]:=λe=>by rw[e] at aa;exact absurd aa (Nat.lt_irrefl 0)
  have e1:(jp f b first E).1=(fD f b (gE 0 0 E)).1.iK (first+E.length-1):=(by unfold jp;dsimp only;rw[iN ah]);have e2:(jp f b first E).2=(fD f b (gE 0 0 E)).2:=(by unfold jp;dsimp only;rw[iN ah]);rw[e1,e2] at O;refine oB d.own 1 rfl _ rfl (oD d.own λav wa _ fa q=>?_);have d:=d.J0 q;have J:=J.q9 fa;refine Hm
   (P:=λj W=>∃F2,jR [bb] F w W Y [(av,.cells #[.func (.func 62) #[] #[dM r1,dM r3]] Gb _),(r3,.c #[sl.v] K3),(r1,.c #[dM bb] xz),(bb,md sb first la lt m')] sb F2 c (if j=0 then (fD f b (gE 0 0 E)).1 else (fD f b (gE 0 0 E)).1.iK (first+E.length-1))/\eZ lG 2 W s' (fD f b (gE 0 0 E)).2 B/\∀x∈B,x∉F2)
   (λj W ⟨F2,d,_⟩=>⟨⟨m',d.own.at (i:=3) rfl⟩,FW d.own LQ rfl⟩) (λj W W' ⟨F2,d,U,V⟩ f=>⟨F2,d.q9 f,U.q9 f,V⟩) (λj hj W K' hd aw=>?_) ⟨F',d,J,ae⟩ (zO rfl) λW' ⟨F2,d,U,V⟩=>O (d.sub (L5 _ _)) U V
  obtain⟨F2,d,U,V⟩:=hd;have ax:j=0:=(by simp at hj;exact hj);subst ax;refine nM rfl oM (qhu ?_);have g:=(Fr.refl [] W).drew;have d:=d.q9 g;refine oB d.own 2 rfl _ rfl (fH (oB d.own 3 rfl _ rfl (oB d.own 2 rfl _ rfl (fH (Mi d.own 3 first (Mi d.own 1 sl ?_))))));rw[qV (sl.len:Int) ⟨oL,oL⟩,qV (first+_) ⟨oL,oL⟩,qV _ ⟨oL,oL⟩,ac];refine qnj d.sB (aj _ ao) λF3 W3 h3 s3=>aw W3 ⟨F3,d.jw h3 s3,(U.q9 g).j0 s3.fr V,λx G hm=>(s3.new x hm).elim (V x G) λh=>?_⟩;have:=(U.q9 g).lt x G;omega
 ·have hz:E=[]:=length_eq_zero_iff.1 (by have:=zB hc;omega);have e1:jp f b first E=fD f b (gE 0 0 E):=by unfold jp;dsimp only;rw[iP hz]
  rw[e1] at O;exact O d J ae
def FO{α:Type}{l:List α}{d:α}(h:i<l.length):l.getD i d=l[i]:=by rw[yR,zA h];rfl
def qFh{r1 n:Nat}(G:∀a∈l,dV eH a)(O:∀a∈l,fP a∈A)(J:n=l.length)(U:l.length<=100000)(V:0<=first)(hU:first+l.length<18446744073709551616)(hc:b.cost+13*l.length+137<=3*c): uE (HL.mk eH) 15 sb r1 c first s lt s l (.func (.func 41) #[dM r1] #[]) (fA l first) n (Rn b first A T) where
 step:=λi b' E r=>by subst J;unfold fA;rw[FO E];exact r.mD (G _ (zW E)) (O _ (zW E)) ⟨oL,oL⟩
 mono:=Rn.mono
 same:=λb i h=>Kr h
 cm:=λb i=>qEr
 cells:=rfl
 call:=λi b' W F Y K E r hS hB I=>by subst J;unfold fA at I;rw[FO E] at I;have h1:=r.cost;have h2:=Bk.mQ (b:=b');exact CT rfl oM (qDc hS hB E U (G _ (zW E)) (λa ha=>r.lg.m7 ha) oL V ⟨oL,oL⟩ I)
def qFi{l:List (HL eu)}{r1 n:Nat}(G:∀t∈l,dV eu t)(O:∀t∈l,gb t∈T)(J:n=l.length)(U:l.length<=100000)(V:0<=first)(hU:first+l.length<18446744073709551616)(hc:b.cost+13*l.length+147<=3*c): uE (HL.mk eu) 16 sb r1 c first la s s l (.func (.func 42) #[dM r1] #[]) (fT l first) n (Rn b first A T) where
 step:=λi b' E r=>by subst J;unfold fT;rw[FO E];exact r.kX (G _ (zW E)) (O _ (zW E)) ⟨oL,oL⟩
 mono:=Rn.mono
 same:=λb i h=>Ij h
 cm:=λb i=>qEs
 cells:=rfl
 call:=λi b' W F Y K E r hS hB I=>by subst J;unfold fT at I;rw[FO E] at I;have h1:=r.cost;exact CT rfl oM (qDd hS hB E U (G _ (zW E)) r.lg (Int.le_refl _) oL V ⟨oL,oL⟩ I)
def xN{α β:Type}{g:α->β}{l:List α}(hi:i<l.length):(l.take (i+1)).map g=(l.take i).map g++[g l[i]]:=by rw[yG hi,xL];rfl
def qEK(h:0<=x/\x<65536):(!bits .and .u16 x 1==0)=hasB x 1:=by rw[show bits .and .u16 x 1=if hasB x 1 then 1 else 0 from qL 0 h oO];cases hasB x 1<;>rfl
def qwv(h:SB w Y sb F c b)(hr:eT (HL.mk eH) 15 F w s l)(O:∀a∈l,dV eH a)(R:Rn b first A T 0 b)(hA:∀a∈l,fP a∈A)(hl:l.length<=1000)(hf:0<=first)(hU:first+l.length<18446744073709551616)(hc:b.cost+13*l.length+137<=3*c)(kk:∀F' w' U B,SB w' Y sb F' c (mr b first l).1->lL F w F' w'->eZ lG 2 w' U (mr b first l).2 B->(∀x∈B,w.z<=x/\x∉F')->K (U,0) w'): cW 22 [dM sb,.w first,s.v] dl w K:=by
 refine qlj ?_;have aj:=hr.1;have d:=jR.call h;refine oD d.own λr1 w1 e1 f1 q=>?_;have ar:=gg (q.at (i:=0) rfl);refine lD (λx W=>∃(i:Nat) (B:Mk),x.2=(i:Int)/\i<=l.length/\eZ rh 1 W x.1 ((l.take i).map sM) B/\dY [] w W [(r1,md sb first s dN none)]/\w1.z<=W.z/\∀y∈B,w1.z<=y) (λx _=>l.length-x.2.toNat) ⟨0,[],rfl,yX _,.nil _ _ _,q,zM _,λ_ h=>nomatch h⟩ ?_;rintro⟨sl,x⟩ W ⟨i,B,E,hi,hb,q,z2,V⟩ X hX;subst E;refine eF (λI=>?_) λI=>?_;have G:i<l.length:=(by have:=zC I;omega);have fa:=O _ (zW G);refine eT.qC ((hr.j6 (S':=[]) λ_ h=>nomatch h).q9 q.fr) i rfl (zA G) rfl rfl (oD (oG [] W) λr8 w2 _ _ p=>p.z' 0 rfl λw3 p _=>Mi p 0 (eJ l[i]) ?_);rw[qEK (sC fa),gJ _ oL];refine qAw (hb.q9 p.fr) (by rw[zK,yL];omega) λU B' w' b' f' n'=>?_;have g2:=p.fr.size;refine hX _ _ ⟨i+1,B',rfl,G,by rw[xN G];exact b',(q.q9 p.fr).j0 f' (λx E=>.inr (zL f1.size (V x E))) λy hy J=>?_,zL z2 (zL g2 f'.size),λx E=>(n' x E).elim (V x) λg=>zL z2 (zL g2 g)⟩ oP;rw[zE.1 hy] at J;have:=V _ J;omega;have G:i=l.length:=(by have:=zB I;omega);subst G;rw[xY] at hb;obtain⟨LB,rfl,g1,g2,g3⟩:=Gj hb;have nr:r1∉fU LB:=λJ=>by have:=V _ J;omega
 have q2:dY _ w W _:=⟨λp hp=>(zG.1 hp).elim (λe=>by rw[e];exact q.at (i:=0) rfl) (g1 p),by rw[xM];exact nodup_cons.2 ⟨nr,g2⟩,q.fr,λp hp=>.inr ((zG.1 hp).elim (λe=>by rw[e,e1];exact zM _) λg=>zL f1.size (V _ (zY g)))⟩;have d:=d.J0 q2;have z1:=q.fr.size;refine qws (qFh O hA (zK _) oL hf hU hc) d.sB ⟨oN,⟨_,d.own.at (i:=0) rfl⟩,(d.ju hr).j6 λx E=>.inl ((zG.1 E).elim (λe=>by rw[e];simp) λg=>zI _ g)⟩ (d.own.at (i:=0) rfl) R (by rw[zK];omega) (hb.ju K0 λx E J=>(zG.1 J).elim (λe=>nr (by rw[<- e];exact E)) λg=>d.sB.yf x (by simp[E]) g) (λe=>d.ns (by rw[e];simp)) (λb' r=>?_) hf (by rw[zK];exact hU) λF' w' U B h' f' n' ag aa=>?_;have h1:=r.cost;have h2:=Bk.mQ (b:=b');rw[zK] at h1;omega;refine kk F' w' U B (h'.y4 λ_ g=>zI _ g) ⟨q.fr.mono (λ_ g _=>nomatch g) |>.j8 f' λx E=>(zG.1 E).elim (λe=>.inr (by rw[e,e1];exact zM _)) .inl,λx E=>(n' x E).imp id (zL z1)⟩ ag λx E=>⟨zL z1 (aa x E).1,(aa x E).2⟩
def KP{l:List (HL eu)}(h:SB w Y sb F c b)(hr:eT (HL.mk eu) 16 F w s l)(O:∀t∈l,dV eu t)(R:Rn b first A T 0 b)(hT:∀t∈l,gb t∈T)(hl:l.length<=1000)(hf:0<=first)(hU:first+l.length<18446744073709551616)(hc:b.cost+13*l.length+147<=3*c)(kk:∀F' w' U B,SB w' Y sb F' c (runT b first l).1->lL F w F' w'->eZ lG 2 w' U (runT b first l).2 B->(∀x∈B,w.z<=x/\x∉F')->K (U,0) w'): cW 23 [dM sb,.w first,s.v] dl w K:=by
 refine qkq ?_;have aj:=hr.1;have d:=jR.call h;refine oD d.own λr1 w1 e1 f1 q=>?_;have ar:=gg (q.at (i:=0) rfl);refine lD (λx W=>∃(i:Nat) (B:Mk),x.2=(i:Int)/\i<=l.length/\eZ rh 1 W x.1 ((l.take i).map sL) B/\dY [] w W [(r1,md sb first dN s none)]/\w1.z<=W.z/\∀y∈B,w1.z<=y) (λx _=>l.length-x.2.toNat) ⟨0,[],rfl,yX _,.nil _ _ _,q,zM _,λ_ h=>nomatch h⟩ ?_;rintro⟨sl,x⟩ W ⟨i,B,E,hi,hb,q,z2,V⟩ X hX;subst E;refine eF (λI=>?_) λI=>?_;have G:i<l.length:=(by have:=zC I;omega);have fa:=O _ (zW G);refine eT.qC ((hr.j6 (S':=[]) λ_ h=>nomatch h).q9 q.fr) i rfl (zA G) rfl rfl (oD (oG [] W) λr8 w2 _ _ p=>p.z' 0 rfl λw3 p _=>Mi p 0 (dT l[i]) ?_);rw[qEK (vS fa),gJ _ oL];refine qAw (hb.q9 p.fr) (by rw[zK,yL];omega) λU B' w' b' f' n'=>?_;have g2:=p.fr.size;refine hX _ _ ⟨i+1,B',rfl,G,by rw[xN G];exact b',(q.q9 p.fr).j0 f' (λx E=>.inr (zL f1.size (V x E))) λy hy J=>?_,zL z2 (zL g2 f'.size),λx E=>(n' x E).elim (V x) λg=>zL z2 (zL g2 g)⟩ oP;rw[zE.1 hy] at J;have:=V _ J;omega;have G:i=l.length:=(by have:=zB I;omega);subst G;rw[xY] at hb;obtain⟨LB,rfl,g1,g2,g3⟩:=Gj hb;have nr:r1∉fU LB:=λJ=>by have:=V _ J;omega
 have q2:dY _ w W _:=⟨λp hp=>(zG.1 hp).elim (λe=>by rw[e];exact q.at (i:=0) rfl) (g1 p),by rw[xM];exact nodup_cons.2 ⟨nr,g2⟩,q.fr,λp hp=>.inr ((zG.1 hp).elim (λe=>by rw[e,e1];exact zM _) λg=>zL f1.size (V _ (zY g)))⟩;have d:=d.J0 q2;have z1:=q.fr.size;refine qws (qFi O hT (zK _) oL hf hU hc) d.sB ⟨oN,⟨_,d.own.at (i:=0) rfl⟩,(d.ju hr).j6 λx E=>.inl ((zG.1 E).elim (λe=>by rw[e];simp) λg=>zI _ g)⟩ (d.own.at (i:=0) rfl) R (by rw[zK];omega) (hb.ju K0 λx E J=>(zG.1 J).elim (λe=>nr (by rw[<- e];exact E)) λg=>d.sB.yf x (by simp[E]) g) (λe=>d.ns (by rw[e];simp)) (λb' r=>?_) hf (by rw[zK];exact hU) λF' w' U B h' f' n' ag aa=>?_;have h1:=r.cost;have h2:=Bk.mQ (b:=b');rw[zK] at h1;omega;refine kk F' w' U B (h'.y4 λ_ g=>zI _ g) ⟨q.fr.mono (λ_ g _=>nomatch g) |>.j8 f' λx E=>(zG.1 E).elim (λe=>.inr (by rw[e,e1];exact zM _)) .inl,λx E=>(n' x E).imp id (zL z1)⟩ ag λx E=>⟨zL z1 (aa x E).1,(aa x E).2⟩
def qy3{K:Mo->WP}(h:SB w Y sb F c b)(V:0<=first)(hU:first+100<18446744073709551616)(hd:yg b.due)(hl:b.size<=90000)(ok:px c b (lp b.due first 16) first)(O:(lO b (lp b.due first 16) first).rm<=3*c)(E:∀F' w',SB w' Y sb F' c (nJ b first).1->lL F w F' w'->K ((nJ b first).2,0) w'): cW 33 [dM sb,.w first] dv w K:=by
 refine qpS ?_;have G:(lp b.due first 16).length<=16:=(by unfold lp;rw[yL];exact Nat.min_le_left _ _);refine qBE h (pH ⟨V,oL⟩) hd hl ok λF2 w2 I s2=>?_;have ep:nJ b first=if lp b.due first 16=[] then (b,0) else ((lO b _ first).iK _,((lp b.due first 16).length:Int)):=rfl
 rw[ep] at E;generalize lp b.due first 16=J at G I E O;refine qW (J==[]) w2 (λM U=>x_ ?_) ?_;cases J with|nil=>exact U|cons x r=>rw[show (((x::r).length:Int)==0)=false from zR.2 (by rw[yI];omega)];exact U
 ·cases J with
  | nil=>
   exact y_ (E F2 w2 I s2)
  | cons x r=>
   refine x_ ?_;have hp:0<(x::r).length:=Nat.succ_pos _;rw[qV ((x::r).length:Int) ⟨oL,oL⟩,qV (first+_) ⟨oL,oL⟩,qV _ ⟨oL,oL⟩];exact qnj I O λF3 w3 h3 s3=>E F3 w3 h3 (s2.trans s3)
abbrev nG:List Cell:=[.slice,.slice,.int .u16]
structure ws (S:Mk) (w:Md) (x:HL nG) (y:rB):Prop where
 acc:eT (HL.mk eH) 15 S w x.1 y.1
 gL:eT (HL.mk eu) 16 S w x.2.1 y.2.1
 later:x.2.2=y.2.2
structure BS (w:Md) (s:Sl) (ss:List (HL nG)) (l:List rB):Prop where
 row:eT (HL.mk nG) 3 [] w s ss
 len:ss.length=l.length
 JG:∀ i (h1:i<ss.length) (h2:i<l.length),ws [] w ss[i] l[i]
structure oj (x:rB):Prop where
 m7:∀ a∈x.1,dV eH a
 qD:∀ t∈x.2.1,dV eu t
 later:0<=x.2.2/\x.2.2<65536
variable {x:HL nG} {l:List rB} {ss:List (HL nG)} {K:Option Addr×Bool->WP}
def ws.q9(h:ws S w x y)(f:Fr [] w w'):ws S w' x y:=⟨h.acc.q9 f,h.gL.q9 f,h.later⟩
def BS.q9(h:BS w s ss l)(f:Fr [] w w'):BS w' s ss l:=⟨h.row.q9 f,h.len,λi E G=>(h.JG i E G).q9 f⟩
def jR.JN{T Fa:Mk}{W:Md}(d:jR T Fa w0 W Y L sb F c b)(h:ws (T++Fa) w0 x y):ws F W x y:=
 ⟨(d.ju h.acc).j6 λx E=>.inl (zI _ E),(d.ju h.gL).j6 λx E=>.inl (zI _ E),h.later⟩
def xa (i:Int):HL eH:=(0,i,0,0,0,0,0,0,0,0,0,1,1,0,0)
def wT:HL eu:=(0,1,0,1,0,2,0,5,0,0,0,0,1,1,0,0)
def C4 (q:Nat×Nat×Gh):Bk:=(mr (BA q) 1 [xa 1,xa 2]).1
def DQ (q:Nat×Nat×Gh):Bk:=(runT (C4 q) 3 [wT]).1
def Ix (q:Nat×Nat×Gh):Bk:=(runT (DQ q) 4 [wT]).1
def qFO:(mr (BA q) 1 [xa 1,xa 2]).2=[]/\gH (C4 q)=2/\(C4 q).cost=4:=⟨oM,oM,oM⟩
def qFP:(runT (C4 q) 3 [wT]).2=[]/\gH (DQ q)=3/\(DQ q).cost=8:=⟨oM,oM,oM⟩
def qFQ:(runT (DQ q) 4 [wT]).2=[(0,16)]/\(Ix q).last=some 4/\(eQ ((dZ (Ix q) (0,1)).getD iV)).1=(0,5):=⟨oM,oM,oM⟩
def qwN{i:Int}(h:lH i):dV eH (xa i):=⟨mv,pH h,mv,mv,mv,mv,mv,mv,mv,mv,mv,show (0:Int)<=1/\(1:Int)<=4294967295 from⟨oO,oO⟩,show (0:Int)<=1/\(1:Int)<=65535 from⟨oO,oO⟩,show (0:Int)<=0/\(0:Int)<=65535 from⟨oO,oO⟩,mv⟩
def qDI:dV eu wT:=⟨mv,pH ⟨oO,oO⟩,mv,pH ⟨oO,oO⟩,mv,pH ⟨oO,oO⟩,mv,pH ⟨oO,oO⟩,mv,mv,mv,show (0:Int)<=0/\(0:Int)<=4294967295 from⟨oO,oO⟩,show (0:Int)<=1/\(1:Int)<=4294967295 from⟨oO,oO⟩,show (0:Int)<=1/\(1:Int)<=65535 from⟨oO,oO⟩,show (0:Int)<=0/\(0:Int)<=65535 from⟨oO,oO⟩,mv⟩
def HT:∀a:HL eH,(HL.mk eH a).length=15:=λ_=>rfl
def GI:∀t:HL eu,(HL.mk eu t).length=16:=λ_=>rfl
abbrev AY:Mf:=52
def qtQ{K:Bool->WP}(R:BS w s ss l)(k1:∀w',Fr [] w w'->K true w')(k2:l.length<=15->(∀x∈l,x.1.length<=30/\x.2.1.length<=30)->∀w',Fr [] w w'->K false w'): cW 9 [s.v] dk w K:=by refine qho ?_;have aa:=R.row.1;have ad:=R.len;refine eF (λU=>k1 w (.refl _ _)) λU=>?_;have U:=zB U;refine lD (λx W=>∃i:Nat,x=(i:Int)/\i<=l.length/\Fr [] w W/\∀y∈l.take i,y.1.length<=30/\y.2.1.length<=30) (λx _=>l.length-x.toNat) ⟨0,rfl,yX _,.refl _ _,λ_ h=>nomatch h⟩ ?_;rintro x W ⟨i,rfl,hi,f,V⟩ X hX;refine eF (λG=>?_) λG=>?_;have E:i<l.length:=(by have:=zC G;omega);have e:=(R.JG i oL E);have la:=e.acc.1;have lt:=e.gL.1;refine eT.qC (R.row.q9 f) i rfl (zA oL) rfl rfl (oD (oG [] W) λr6 w2 _ _ o=>o.z' 0 rfl λw3 o _=>?_);have f3:=f.trans o.fr;refine qW (decide (30<l[i].1.length\/30<l[i].2.1.length)) w3 (λM J=>oB o 0 rfl ss[i].1 rfl (eF (λO=>?_) λO=>oB o 0 rfl ss[i].2.1 rfl ?_)) (eF (λh=>k1 w3 f3) λh=>?_);rw[yA (.inl (by have:=zC O;omega))] at J;exact J;have O:=zB O;rw[show decide _=decide ((ss[i].2.1.len:Int)>30) by rw[LM];constructor<;>intro h<;>omega] at J;exact J;have h:=zB h;rw[gJ _ oL];refine hX _ _ ⟨i+1,rfl,E,f3,λy I=>?_⟩ oL;rw[yG E] at I;rcases zD.1 I with I|I;exact V y I;rw[zE.1 I];omega;have E:i=l.length:=(by have:=zB G;omega);subst E;rw[xY] at V;exact k2 oL V W f
def K8{m:Nat}{K:Sl×Int×Int->WP}(h:SB w Y sb F c b)(R:ws F w x y)(ok:rg y)(P:qi q A T m b)(hm:m<=17)(hA:∀a∈y.1,fP a∈A)(hT:∀t∈y.2.1,gb t∈T)(hc:7300<=3*c)(I:∀F' w' s' B,SB w' Y sb F' c (qU b y).1->lL F w F' w'->eZ lG 2 w' s' (qU b y).2.1 B->(∀z∈B,w.z<=z/\z∉F')->K (s',(qU b y).2.2,0) w'): cW 17 [dM sb,LI nG x] dG w K:=by
 refine qkm ?_;have ac:=R.acc.1;have ad:=R.gL.1;have E:=P.last;have ag:=P.cost;have aq:=ok.later;have ah:=R.later;have ar:=ok.acc;have au:=ok.gL;have d:=jR.call h;refine oD d.own λr1 w1 _ _ o=>?_;have d:=(d.J0 o).q9 (Fr.refl [] w1).drew;clear o;refine Mi d.own 0 x.2.2 (qtW d.sB (λn hn=>?_) λw2 f2=>?_);unfold gH at E;rw[hn] at E;exact⟨E.1,by have:=E.2;simp only[xT] at this;omega⟩;have d:=d.q9 f2;have e1:wrap .u64 (wrap .u64 (b.last.getD 0+1)+wrap .u64 x.2.2)=gH b+1+y.2.2:=by have:b.last.getD 0=gH b:=rfl;rw[this,ah,qV y.2.2 ⟨oL,oL⟩,qV (gH b+1) ⟨oL,oL⟩,qV _ ⟨oL,oL⟩]
 rw[e1];have ed:qU b y=if y.1≠[] then ((mr b (gH b+1+y.2.2) y.1).1,(mr b (gH b+1+y.2.2) y.1).2,0) else if y.2.1≠[] then ((runT b (gH b+1+y.2.2) y.2.1).1,(runT b (gH b+1+y.2.2) y.2.1).2,0) else ((nJ b (gH b+1+y.2.2)).1,[],(nJ b (gH b+1+y.2.2)).2):=rfl
 rw[ed] at I;have hR:=P.rn (first:=gH b+1+y.2.2) oL;refine gY (d.own.cell 0) (Mi d.own 0 x.1 (eF (λO=>?_) λO=>?_));have U:y.1≠[]:=λe=>by have:=zC O;rw[e] at ac;simp at ac;omega
 rw[iP U] at I;refine Mi d.own 0 x.1 (qwv d.sB ((d.ju R.acc).j6 λz G=>.inl (zI _ G)) ok.m7 hR hA oL oL oL oL λF' w' s' B h' st hb nb=>?_);have J:=d.jw h' st;exact I F' w' s' B J.out (J.sub (nil_sublist _)).sG hb λz G=>⟨zL d.fr.size (nb z G).1,(nb z G).2⟩;have aj:y.1=[]:=length_eq_zero_iff.1 (by have:=zB O;omega);rw[iN λh=>h aj] at I;refine Mi d.own 0 x.2.1 (eF (λV=>?_) λV=>?_);have U:y.2.1≠[]:=λe=>by have:=zC V;rw[e] at ad;simp at ad;omega
 rw[iP U] at I;refine Mi d.own 0 x.2.1 (KP d.sB ((d.ju R.gL).j6 λz G=>.inl (zI _ G)) ok.qD hR hT oL oL oL oL λF' w' s' B h' st hb nb=>?_);have J:=d.jw h' st;exact I F' w' s' B J.out (J.sub (nil_sublist _)).sG hb λz G=>⟨zL d.fr.size (nb z G).1,(nb z G).2⟩;have ak:y.2.1=[]:=length_eq_zero_iff.1 (by have:=zB V;omega);rw[iN λh=>h ak] at I;have ay:=Bk.mQ (b:=b);have az:=Bk.AH (b:=b);obtain⟨g1,g2,g3⟩:=P.lg.uA (c:=c) (z:=gH b+1+y.2.2) (H5 (J0:=gH b+1+y.2.2) (most:=16)) oL ⟨oL,oL⟩;have an:=Bk.mQ (b:=lO b (lp b.due (gH b+1+y.2.2) 16) (gH b+1+y.2.2));have:=g3.cost;refine qy3 d.sB oL oL P.lg.due oL g1 oL λF' w' h' st=>?_;have J:=d.jw h' st;exact I F' w' dN [] J.out (J.sub (nil_sublist _)).sG (.nil _ _ _) λ_ g=>nomatch g
def qCr:(2500-2)-gM (2500-2)=2477:=by kernel_rfl
def qxD(Y:Mk)(I:∀b∈Y,b<w.z)(hY:HG∉Y)(hv:Hv w)(R:BS w s ss l)(O:∀x∈l,rg x)(hn:l.length<=15)(kk:∀sb F q w',w.z<=sb->jR [] [] w w' Y [] sb F 2477 (qY q l)->K (pW sb,true) w'): cW 11 [s.v] dK w K:=by refine qgi ?_;have U:=R.row.1;have af:=R.len;refine qsm Y I hY hv oO oO λsb pb dbk FD F D w1 V hM hg hd f1 n1=>x_ ?_;rw[qCr] at V;have d:=jR.start (Y:=Y) (oG [] w) V oO oO hg hd f1 n1;generalize ((2500,1).1,(2500,1).2,pb,D,oe (ng 2500))=q at d;refine lD (λx W=>∃(i:Nat) (F':Mk),x=(i:Int)/\i<=l.length/\jR [] [] w W Y [] sb F' 2477 (qY q (l.take i))) (λx _=>l.length-x.toNat) ⟨0,_,rfl,yX _,d⟩ ?_;rintro x W ⟨i,F',rfl,hi,d⟩ X hX;have P:=Kg (q:=q) O hn i hi;refine eF (λG=>?_) λG=>?_;have E:i<l.length:=(by have:=zC G;omega);have J:l[i]∈l:=zW E;refine eT.qC ((d.ju R.row).j6 (S':=[]) λ_ h=>nomatch h) i rfl (zA oL) rfl rfl (oD d.own λr8 w2 _ _ o=>o.z' 0 rfl λw3 o _=>?_);have d:=d.J0 o;clear o;refine oE d.own 0 rfl ss[i] rfl (K8 d.sB (d.JN (R.JG i oL E)) (O _ J) P oL (λa ha=>yK.2 ⟨_,J,zY ha⟩) (λt ht=>yK.2 ⟨_,J,zY ht⟩) oO λF2 w4 s4 B4 h4 st _ _=>?_);have d:=(d.jw h4 st).sub (nil_sublist _);refine x_ ?_;rw[gJ _ oL];exact hX _ _ ⟨i+1,F2,rfl,E,by rw[qqa E];exact d⟩ oL;have E:i=l.length:=(by have:=zB G;omega);subst E;rw[xY] at d;exact kk sb F' q W (n1 sb LQ) d
def qzb(E:Hv w)(R:BS w s ss l)(G:∀x∈l,rg x)(I:l.length<=15)(J:∀sb F q w',jR [] [] w w' [] [] sb F 2477 (qY q l)->K (pW sb,true) w'): cW 11 [s.v] dK w K:=
 qxD [] (λ_ h=>nomatch h) (λh=>nomatch h) E R G I λsb F q w' _=>J sb F q w'
def IA{K:Bool->WP}(hv:Hv w)(kk:∀w',Fr [] w w'->K true w'):cW 10 [] dk w K:=by
 refine qhp<|qsm [] (λ_ h=>nomatch h) (λh=>nomatch h) hv oO oO λsb pb dbk FD F D w1 hS hM hg hd f1 n1=>x_ ?_;have d:=jR.start (oG [] w) hS oO oO hg hd f1 n1;generalize ((60,1).1,(60,1).2,pb,D,oe _)=q at d;generalize FD++F=F1 at d;refine oD d.own λr3 w2 _ _ o=>oD o λr5 w3 _ _ o=>o.st' 1 rfl #[.w 0,.w 1] rfl rfl (zO rfl) λw4 o _=>o.st' 0 rfl #[.w 0,.w 2] rfl rfl (zO rfl) λw5 o _=>Mj o 1 (0,1) (Mj o 1 (0,1) (Mj o 0 (0,2) (oD o λaH w6 _ _ o=>o.st' 0 rfl (HL.mk eu wT).toArray (gS rfl) rfl (zM _) λw7 o _=>?_)));refine Mj o 2 (0,1) (Mj o 1 (0,2) (oD o λac w8 _ _ o=>?_));have d:=d.J0 o;have U1:lH 1:=⟨oO,oO⟩;have U2:lH 2:=⟨oO,oO⟩;have P0:qi q [(0,1),(0,2)] [(0,1)] 0 (BA q):=⟨lh.nil,⟨Int.le_refl _,Int.le_refl _⟩,zM _,rfl,λ_ h=>(nomatch h),λ_ h=>(nomatch h)⟩;have I:∀a∈[xa 1,xa 2],dV eH a:=λa J=>by rcases zG.1 J with e|J;rw[e];exact qwN U1;rw[zE.1 J];exact qwN U2
 have V:∀a∈[xa 1,xa 2],fP a∈[((0:Int),(1:Int)),(0,2)]:=λa J=>by rcases zG.1 J with e|J;rw[e];simp[fP,xa];rw[zE.1 J];simp[fP,xa]
 have E:∀t∈[wT],dV eu t:=λt ht=>by rw[zE.1 ht];exact qDI
 have O:∀t∈[wT],gb t∈[((0:Int),(1:Int))]:=λt ht=>by rw[zE.1 ht];simp[gb,wT]
 obtain⟨x1,x2,x3⟩:=qFO;obtain⟨y1,y2,y3⟩:=qFP;obtain⟨z1,z2,z3⟩:=qFQ;have c0:(BA q).cost=0:=rfl;have P1:qi q [(0,1),(0,2)] [(0,1)] 1 (C4 q):=P0.mr (λh=>nomatch h) oO I V ⟨show (0:Int)+1<=1 from by decide,show (1:Int)<=0+65536 from by decide⟩ oO;have P2:qi q [(0,1),(0,2)] [(0,1)] 2 (DQ q):=P1.runT (λh=>nomatch h) oO E O ⟨by rw[x2];decide,by rw[x2];decide⟩ oO;have G:eT _ 15 F1 w8 ⟨pW ac,2,2⟩ [xa 1,xa 2]:=eZ.ju HT (eZ.fresh HT (d.own.at (i:=0) rfl) rfl (zM _) (zM _) rfl) λx U hm=>d.sB.yf x (by rw[zE.1 U];simp) hm;refine qwv d.sB G I (P0.rn (show (0:Int)+1<=1 from by decide)) V oO oO oO (by rw[c0];decide) λF2 w9 s9 B9 h9 af b9 _=>?_;have d:=d.jw h9 af;have l9:s9.len=0:=(by have:=b9.len;rw[x1] at this;exact this);refine Mj d.own 1 wT (oD d.own λag wa _ _ o=>?_);have d:=d.J0 o;have G:eT _ 16 F2 wa ⟨pW ag,1,1⟩ [wT]:=eZ.ju GI (eZ.fresh GI (d.own.at (i:=0) rfl) rfl (zM _) (zM _) rfl) λx U hm=>d.sB.yf x (by rw[zE.1 U];simp) hm;have d:jR [] [] w wa [] _ sb F2 57 (C4 q):=d;refine KP d.sB G E (P1.rn (by rw[x2];decide)) O oO oO oO (by rw[x3];decide) λF3 wb ah B3 h3 ai b3 n3=>?_;have d:=d.jw h3 ai;have lb:ah.len=0:=(by have:=b3.len;rw[y1] at this;exact this);refine Mj d.own 2 wT (oD d.own λaj wc _ _ o=>?_);have d:=d.J0 o;have G:eT _ 16 F3 wc ⟨pW aj,1,1⟩ [wT]:=eZ.ju GI (eZ.fresh GI (d.own.at (i:=0) rfl) rfl (zM _) (zM _) rfl) λx U hm=>d.sB.yf x (by rw[zE.1 U];simp) hm;have d:jR [] [] w wc [] _ sb F3 57 (DQ q):=d;refine KP d.sB G E (P2.rn (by rw[y2];decide)) O oO oO oO (by rw[y3];decide) λF4 we s4 B4 h4 ak b4 n4=>?_;have d:=d.jw h4 ak;have d:jR [] [] w we [] _ sb F4 57 (Ix q):=d;rw[z1] at b4;have le:=b4.len;refine Mj d.own 5 (0,1) (Cu d.sB ⟨mv,pH U1⟩ λwf ff=>?_);have d:=d.q9 ff;have b4:=b4.q9 ff;generalize U:(dZ _ _).getD iV=x at z3;refine oD d.own λa5 wg _ fg o=>o.z' 0 rfl λwh o fh=>?_;have al:=(fg).j8 fh λy hy=>.inr (by rw[zE.1 hy];rename_i e _;exact Nat.le_of_eq e.symm);have d:=d.J0 o;refine y_ (y_ (y_ (LJ (by rw[l9];rfl) (LJ (by rw[lb];rfl) (LJ (by rw[le];rfl) ?_)))));have R4:eT lG 2 [] wh s4 [(0,16)]:=(b4.q9 al).ju DV λ_ _ h=>nomatch h;refine IV R4 0 rfl rfl λrb ro cs T fr an ao=>iH an 16 ?_ (y_ (oE d.own 0 rfl (eQ x).1 rfl (vg (b:=(0,5)) ?_)))
 have:=Ma (·[1]?) ao;rw[xB,iP oO,xA] at this;rw[<- Array.getElem?_toList];exact this;rw[z3];refine y_ (qtW d.sB (λn hn=>?_) λwi fi=>?_);rw[z2] at hn;cases hn;exact⟨oO,oO⟩;exact kk wi (d.fr.trans fi)
def qzD(x:HL eH):∀u∈HL.mk eH x,u.oneCell'=true:=all_eq_true.1 rfl
def qEO:∃i,prog.info? A7=some i/\i.zero=some (LI eH iV)/\i.size=15/\i.bytes=104:=yy oM
abbrev I0:Mf:=28
def qr2(x:e9):∀u∈gx x,u.oneCell'=true:=all_eq_true.1 rfl
def qzZ:∃i,prog.info? nf=some i/\i.zero=some (.agg cq)/\i.size=2/\i.bytes=16:=yy oM
abbrev Dz:Mf:=59
variable {K:Sl->WP}
def qE8{l:List e9}{x:e9}(h:eZ gx 2 w s l B)(V:l.length<=1000000)(J:∀I B' w',eZ gx 2 w' I (l++[x]) B'->Fr B w w'->(∀b∈B',b∈B\/w.z<=b)->K I w'): Pt.new (.cells #[.w x.1,.w x.2] nf) w λr w1=>Pt.run di ((Builtin.append_ #[Dz,Dz] Dz #[s.v,.slice (pW r) 1 1]).run prog w1) K:=by obtain⟨j,O,U,E,G⟩:=qzZ;exact eZ.push (e:=nf) (x:=x) h uV (qr2 x) oM O U E rfl rfl (by rw[G];omega) oL J
def qFs{s2:Sl}{l l2:List e9}(h:eZ gx 2 w s l B)(O:eT gx 2 [] w s2 l2)(hl:l.length+l2.length<=1000000)(U:∀E B' w',eZ gx 2 w' E (l++l2) B'->Fr B w w'->(∀b∈B',b∈B\/w.z<=b)->K E w'): Pt.run di ((Builtin.append_ #[Dz,Dz] Dz #[s.v,s2.v]).run prog w) K:=by obtain⟨j,V,hz,G,I⟩:=qzZ;have J:=O.1;exact eZ.j2 h uV (e:=nf) oM V hz G rfl (yd (e':=nf) O uV qr2 oM) J (by rw[I,J];omega) (by rw[J];omega) λE B' w' g1 g2 g3 _=>U E B' w' g1 g2 g3
def qE5{l:List (HL eH)}{x:HL eH}(h:eZ (HL.mk eH) 15 w s l B)(V:l.length<=1000000)(J:∀I B' w',eZ (HL.mk eH) 15 w' I (l++[x]) B'->Fr B w w'->(∀b∈B',b∈B\/w.z<=b)->K I w'): Pt.new (.cells (HL.mk eH x).toArray A7) w λr w1=>Pt.run di ((Builtin.append_ #[I0,I0] I0 #[s.v,.slice (pW r) 1 1]).run prog w1) K:=by obtain⟨j,O,U,E,G⟩:=qEO;exact eZ.push (e:=A7) (x:=x) h HT (qzD x) oM O U E rfl rfl (by rw[G];omega) oL J
def quV{α:Type}{enc:α->List Me}{l:List α}(o:dY S w0 w L)(h:eZ enc k w s l B)(n:∀x∈B,w0.z<=x/\x∉fU L):∃LB,fU LB=B/\uB enc k s l LB/\dY S w0 w (LB++L):=by obtain⟨LB,rfl,G,I,J⟩:=Gj h;refine⟨LB,rfl,J,λp E=>(zD.1 E).elim (G p) (o.iX p),?_,o.fr,λp E=>(zD.1 E).elim (λg=>.inr (n _ (zY g)).1) (o.own p)⟩;rw[xL,yM];exact⟨I,o.nodup,λa O b h e=>(n a O).2 (by rw[e];exact h)⟩
def sF (b:Bk) (t:HL eu):List e9:=[fI ((eM b (gb t)).getD nE).1,fJ ((eM b (gb t)).getD nE).1]
def qsM{l:List (HL eu)}:(l.flatMap (sF b)).length=2*l.length:=by
 induction l with|nil=>rfl|cons x r ih=>rw[yH,zF,ih,yI];show 2+_=_;omega
def qzP{α β:Type}{g:α->List β}{l:List α}(hi:i<l.length):(l.take (i+1)).flatMap g=(l.take i).flatMap g++g l[i]:=by rw[yG hi,yQ];simp
variable {K:Bool->WP}
def qAq{T:Mf}(I:w.heap[r]?=some (LH nG x T))(R:ws [] w x y)(k1:∀w',Fr [] w w'->K true w')(k2:(y.1.length<=30/\y.2.1.length<=30)->∀w',Fr [] w w'->K false w'): cW 9 [.slice (pW r) 1 1] dk w K:=by have E:eT (HL.mk nG) 3 [] w ⟨pW r,1,1⟩ [x]:=eZ.ju (λ_=>rfl:∀x:HL nG,(HL.mk nG x).length=3) (eZ.fresh (λ_=>rfl:∀x:HL nG,(HL.mk nG x).length=3) I rfl (zM _) (zM _) rfl) λ_ _ h=>nomatch h;refine qtQ (s:=⟨pW r,1,1⟩) (ss:=[x]) (l:=[y]) ⟨E,rfl,λi G J=>?_⟩ k1 λ_ h=>k2 (h y LQ);have:i=0:=(by simp at G;exact G);subst this;exact R
set_option maxHeartbeats 600000 in
set_option maxRecDepth 4000 in
def qqI(hv:Hv w)(R:BS w s ss l)(aw:∀x∈l,oj x)(Rx:ws [] w x y)(fy:oj y)(kk:∀w',Fr [] w w'->K true w'): cW 6 [s.v,LI nG x] dk w K:=by
 refine qej ?_;have ax:=Rx.acc.1;have aG:=Rx.gL.1;have a2:=yk;refine oD (oG [] w) λr1 w1 _ f1 o=>?_;have q1:w1.heap[r1]?=some (LH nG x AY):=o.at (i:=0) rfl;clear o;refine jd (λv W=>Fr [] w1 W/\(v=false->l.length<=15/\(∀z∈l,z.1.length<=30/\z.2.1.length<=30)/\(y.1.length<=30/\y.2.1.length<=30)/\(y.1≠[]\/y.2.1≠[]))) ?_ ?_;refine qtQ (R.q9 f1) (λw2 f2=>y_ ⟨f2,λh=>nomatch h⟩) λak al w2 f2=>x_ ?_;have q2:w2.heap[r1]?=some (LH nG x AY):=(by rw[f2.block _ (gg q1) λg=>nomatch g];exact q1);refine zo q2 x rfl (oD (oG [] w2) λr7 w3 _ f3 o=>qAq (o.at (i:=0) rfl) (Rx.q9 ((f1.trans f2).trans f3)) (λw4 f4=>y_ ⟨(f2.trans f3).trans f4,λh=>nomatch h⟩) λad w4 f4=>x_ ?_);have q4:w4.heap[r1]?=some (LH nG x AY):=(by rw[(f3.trans f4).block _ (gg q2) λg=>nomatch g];exact q2);refine iH q4 x.1 rfl (iH q4 x.2.1 rfl ⟨(f2.trans f3).trans f4,λh=>⟨ak,al,ad,?_⟩⟩);rw[gJ _ oL] at h;have h:=zR.1 h;by_cases e:y.1=[];refine .inr λe2=>h ?_;rw[ax,aG,e,e2];rfl;exact .inl e;rintro v W ⟨fW,az⟩;have fw:Fr [] w W:=f1.trans fW;cases v with
 | true=>exact y_ (IA (hv.q9 fw) λw2 f2=>kk w2 (fw.trans f2))
 | false=>
  obtain⟨ak,al,ad,a4⟩:=az rfl;have ok:∀x∈l,rg x:=λx hx=>⟨(al x hx).1,(al x hx).2,(aw x hx).m7,(aw x hx).qD,(aw x hx).later⟩;have af:rg y:=⟨ad.1,ad.2,fy.m7,fy.qD,fy.later⟩;have q2:W.heap[r1]?=some (LH nG x AY):=(by rw[fW.block _ (gg q1) λg=>nomatch g];exact q1);refine x_ (qzb (hv.q9 fw) (R.q9 fw) ok ak λsb F q w2 d=>x_ ?_);have P:=Kg (q:=q) ok ak l.length (zM _);rw[xY] at P;generalize qY q l=b at P d;have P:=P.more (A':=Cw l++y.1.map fP) (T':=BZ l++y.2.1.map gb) (λj h=>zH _ h) λj h=>zH _ h;have an:∀a∈y.1,fP a∈Cw l++y.1.map fP:=λa h=>zI _ (zY h);have ao:∀t∈y.2.1,gb t∈BZ l++y.2.1.map gb:=λt h=>zI _ (zY h);have RW:=Rx.q9 fw;refine zo (d.jT q2 (λg=>nomatch g) λg=>nomatch g) x rfl (K8 d.sB (d.JN RW) af P oL an ao oO λF1 w3 s1 B1 h1 aI J _=>x_ ?_);have d:=d.jw h1 aI;have P1:=P.step af oL an ao;have a6:=qvH P af oL a4;have bV:=J.len;clear J h1 aI;refine eF (λhc=>IA ((hv.q9 fw).q9 d.fr) λw4 f4=>kk w4 ((fw.trans d.fr).trans f4)) λhc=>?_;have aJ:(qU b y).2.1=[]:=length_eq_zero_iff.1 (by have:(s1.len:Int)=0:=(oS hc);omega);obtain⟨p1,p2,p3,p4⟩:=a6 aJ;generalize bW:(qU b y).1=J at d P1 p1 p2 p3 p4;dsimp only;refine qo8 d.sB λw4 f4=>?_;have d:=d.q9 f4;refine oD d.own λap w5 _ _ o=>o.z' 0 rfl λw6 o _=>?_;have d:=d.J0 o;clear o;have q6:w6.heap[r1]?=some (LH nG x AY):=d.jT q2 (λg=>nomatch g) λg=>nomatch g;have R6:=RW.q9 d.fr;refine iH q6 x.1 rfl<|lD (λz Z=>∃(i:Nat) (B:Mk),z.2=(i:Int)/\i<=y.1.length/\eZ gx 2 Z z.1 ((y.1.take i).map fP) B/\Fr [] w6 Z/\∀u∈B,w6.z<=u) (λz _=>y.1.length-z.2.toNat) ⟨0,[],rfl,yX _,.nil _ _ _,.refl _ _,λ_ h=>nomatch h⟩ ?_;rintro⟨sA,z⟩ Z ⟨i,B,hz,hi,hb,U,nB⟩ X hX;dsimp only at hz hb⊢;subst hz;refine eF (λI=>?_) λI=>?_;have E:i<y.1.length:=(by have:=zC I;omega);refine eT.qC (y:=y.1[i]) (R6.acc.q9 U) i rfl (zA E) rfl rfl (oD (oG [] Z) λbX w7 _ _ p=>p.z' 0 rfl λw8 p _=>Mj p 0 (fP y.1[i]) (qE8 (x:=fP y.1[i]) (hb.q9 p.fr) (by rw[zK,yL];omega) λs' B' w' b' f' n'=>?_));rw[gJ _ oL];exact hX _ _ ⟨i+1,B',rfl,E,by rw[xN E];exact b',(U.trans p.fr).j8 f' λu hu=>.inr (nB u hu),λu hu=>(n' u hu).elim (nB u) λg=>zL (U.trans p.fr).size g⟩ oP;have E:i=y.1.length:=(by have:=zB I;omega);subst E;rw[xY] at hb;clear hX X;have qZ:Z.heap[r1]?=some (LH nG x AY):=(by rw[U.block _ (gg q6) λg=>nomatch g];exact q6);refine iH qZ x.2.1 rfl<|lD (λz Z=>∃(i:Nat) (B:Mk),z.2=(i:Int)/\i<=y.2.1.length/\eZ gx 2 Z z.1 (y.1.map fP++(y.2.1.take i).flatMap (sF J)) B/\Fr [] w6 Z/\∀u∈B,w6.z<=u) (λz _=>y.2.1.length-z.2.toNat) ⟨0,B,rfl,yX _,by rw[take_zero,flatMap_nil,xG];exact hb,U,nB⟩ ?_;clear hb U nB qZ Z;rintro⟨sA,z⟩ Z ⟨i,B,hz,hi,hb,U,nB⟩ X hX;dsimp only at hz hb⊢;subst hz;refine eF (λI=>?_) λI=>?_;have E:i<y.2.1.length:=(by have:=zC I;omega);have ft:=fy.qD _ (zW E);refine eT.qC (y:=y.2.1[i]) (R6.gL.q9 U) i rfl (zA E) rfl rfl (oD (oG [] Z) λbY w7 _ _ p=>p.z' 0 rfl λw8 p _=>Mj p 0 (gb y.2.1[i]) ?_);refine Dj (d.sB.q9 (U.trans p.fr)) ⟨ft.1,ft.2.1⟩ λw9 f9=>?_;have p:=p.q9 f9;have ek:(eM J ((gb y.2.1[i]).1,(gb y.2.1[i]).2)).getD nE=(eM J (gb y.2.1[i])).getD nE:=rfl;have es:sF J y.2.1[i]=[fI ((eM J (gb y.2.1[i])).getD nE).1,fJ ((eM J (gb y.2.1[i])).getD nE).1]:=rfl;rw[ek];generalize (eM J (gb y.2.1[i])).getD nE=k at es;refine oK p a2 λb0 wa _ p=>nc (sE k) (p.st' 0 rfl (mV k).toArray (gS rfl) rfl (zM _) λwb p _=>?_);simp only[Addr.j1];refine Mj p 0 (fI k.1) (Mj p 0 (fJ k.1) (oD p λaO wc _ _ p=>?_));have r2:eT gx 2 [] wc ⟨pW aO,2,2⟩ [fI k.1,fJ k.1]:=eZ.ju uV (eZ.fresh uV (p.at (i:=0) rfl) rfl (zM _) (zM _) rfl) λ_ _ h=>nomatch h;have ba:(y.1.map fP++(y.2.1.take i).flatMap (sF J)).length + [fI k.1,fJ k.1].length<=1000000:=(by rw[zF,zK,qsM,yL];show _+2<=_;omega);refine qFs (s2:=⟨pW aO,2,2⟩) (l2:=[fI k.1,fJ k.1]) (hb.q9 p.fr) r2 ba λs' B' w' b' f' n'=>?_;rw[gJ _ oL];exact hX _ _ ⟨i+1,B',rfl,E,by rw[qzP E,es,<- zV];exact b',(U.trans p.fr).j8 f' λu hu=>.inr (nB u hu),λu hu=>(n' u hu).elim (nB u) λg=>zL (U.trans p.fr).size g⟩ oP;have E:i=y.2.1.length:=(by have:=zB I;omega);subst E;rw[xY] at hb;clear hX X;have bc:(y.1.map fP++y.2.1.flatMap (sF J)).length<=100:=(by rw[zF,zK,qsM];omega);have aA:∀i∈y.1.map fP++y.2.1.flatMap (sF J),lU i:=λi hi=>by
   rcases zD.1 hi with h|h;obtain⟨a,ha,rfl⟩:=mem_map.1 h;exact⟨(fy.m7 a ha).1,(fy.m7 a ha).2.1⟩;obtain⟨t,ht,h⟩:=yK.1 h;have fk:dV eu ((eM J (gb t)).getD nE).1:=by
    cases he:eM J (gb t) with|none=>exact qun|some k=>exact (P1.lg.qD (Gq he).1).1
   rcases zG.1 h with e|h;rw[e];exact⟨fk.2.2.1,fk.2.2.2.1⟩;rw[zE.1 h];exact⟨fk.2.2.2.2.1,fk.2.2.2.2.2.1⟩
  generalize y.1.map fP++y.2.1.flatMap (sF J)=G at hb bc aA;have bE:=hb.len;have bd:eT gx 2 [] Z sA G:=hb.ju uV λ_ _ h=>nomatch h;have lB:=hb.lt;refine lD (λz V=>∃(i:Nat) (C:Mk),z.2=(i:Int)/\i<=G.length/\eZ (HL.mk eH) 15 V z.1 ((G.take i).map λj=>(dZ J j).getD iV) C/\Fr [] Z V/\∀u∈C,Z.z<=u) (λz _=>G.length-z.2.toNat) ⟨0,[],rfl,yX _,.nil _ _ _,.refl _ _,λ_ h=>nomatch h⟩ ?_;rintro⟨sB,z⟩ V ⟨i,C,hz,hi,ag,fV,nC⟩ X hX;dsimp only at hz ag⊢;subst hz;refine eF (λI=>?_) λI=>?_;have E:i<G.length:=(by have:=zC I;omega);refine eT.qC (y:=G[i]) (bd.q9 fV) i rfl (zA E) rfl rfl (oD (oG [] V) λb7 w7 _ _ p=>p.z' 0 rfl λw8 p _=>oE p 0 rfl G[i] rfl ?_);refine Cu (d.sB.q9 ((U.trans fV).trans p.fr)) (aA _ (zW E)) λw9 f9=>?_;have p:=p.q9 f9;have em:(dZ J (G[i].1,G[i].2)).getD iV=(dZ J G[i]).getD iV:=rfl;rw[em];have et:=xN (g:=λj=>(dZ J j).getD iV) E;generalize (dZ J G[i]).getD iV=a at et;refine oD p λb8 wa _ _ p=>p.z' 0 rfl λwb p _=>Mj p 0 a (qE5 (x:=a) (ag.q9 p.fr) (by rw[zK,yL];omega) λs' B' w' b' f' n'=>?_);rw[gJ _ oL];exact hX _ _ ⟨i+1,B',rfl,E,by rw[et];exact b',(fV.trans p.fr).j8 f' λu hu=>.inr (nC u hu),λu hu=>(n' u hu).elim (nC u) λg=>zL (fV.trans p.fr).size g⟩ oP;have E:i=G.length:=(by have:=zB I;omega);subst E;rw[xY] at ag;clear hX X;have zZ:=U.size;have bg:=gg (d.own.at (i:=0) rfl);dsimp only at bg;obtain⟨LA,eA,bA,oA⟩:=quV (d.own.q9 (U.trans fV)) (hb.q9 fV) λu hu=>⟨nB u hu,λhm=>by have:=nB u hu;rw[zE.1 hm] at this;dsimp only at this;omega⟩;obtain⟨LC,eC,bC,oC⟩:=quV oA ag λu hu=>⟨zL zZ (nC u hu),λhm=>by
   have g:=nC u hu;obtain⟨p,hp,rfl⟩:=mem_map.1 hm;rcases zD.1 hp with h|h;have:p.1∈B:=by rw[<- eA];exact zY h
   have:=lB _ this;omega;have h:p=(ap,_):=zE.1 h;rw[h] at g;dsimp only at g;omega⟩
  have d:=d.J0 oC;clear oA oC hb ag nB nC U fV q6;have q7:V.heap[r1]?=some (LH nG x AY):=d.jT q2 (λg=>nomatch g) λg=>nomatch g;refine zo q7 x rfl (K8 d.sB (d.JN RW) af P1 oL an ao oO λF2 w8 s2 B2 h2 aR b2 n2=>?_);have d:=d.jw h2 aR;clear h2 aR q7;have P2:=P1.step af oL an ao;generalize cf:qU J y=O at d b2 p1 p2 p3 p4 P2;have bj:=b2.len;have q8:w8.heap[r1]?=some (LH nG x AY):=d.jT q2 (λg=>nomatch g) λg=>nomatch g;refine iH q8 x.1 rfl (qW ((O.2.1.length:Nat):Int) w8 (λM hM=>eF (λh=>iH q8 x.2.1 rfl ?_) λh=>?_) ?_);have h:=yP.1 h;rw[p3,iP (length_eq_zero_iff.1 oL)] at hM;rw[aG];exact hM;have h:=zR.1 h;rw[p3,iN λe=>h (by rw[ax,e];rfl)] at hM;rw[ax];exact hM;have aC:∀ {W:Md},W.heap=w8.heap->W.heap[ap]?=some (LH c8 (rF J) 57):=λe=>by rw[e];exact d.own.iX (ap,_) (zI _ (zI _ LQ))
  refine jd (λv Z=>v=false/\Fr [] w8 Z) (x_ (LK (by rw[bj,beq_self_eq_true];rfl) ?_)) ?_;have g:=(Fr.refl [] w8).drew;refine zo (w:=w8.drew) (aC rfl) (rF J) rfl (qo8 (d.sB.q9 g) λw9 f9=>?_);have m9:w9.heap[ap]?=some (LH c8 (rF J) 57):=(by rw[f9.block _ (gg (aC (W:=w8.drew) rfl)) λg=>nomatch g];exact aC rfl);rw[p2];exact gY (Aj m9 (HL.mk c8 (rF J)) 0 0 rfl) (qE1 (t:=57) 3 oO oM oM ⟨rfl,g.trans f9⟩);rintro v Z ⟨rfl,U⟩;refine x_ ?_;have d:=d.q9 U;have bk:eT lG 2 [] Z s2 O.2.1:=(b2.q9 U).ju DV λ_ _ h=>nomatch h;have bl:eT gx 2 [] Z sA G:=(bA.ve d.own λp hp=>zI _ (zH _ hp)).ju uV λ_ _ h=>nomatch h;have bm:eT (HL.mk eH) 15 [] Z sB (G.map λj=>(dZ J j).getD iV):=(bC.ve d.own λp hp=>zH _ hp).ju HT λ_ _ h=>nomatch h;dsimp only;refine lD (λz V=>∃i:Nat,z=(i:Int)/\i<=O.2.1.length/\Fr [] Z V) (λz _=>O.2.1.length-z.toNat) ⟨0,rfl,yX _,.refl _ _⟩ ?_;rintro z V ⟨i,rfl,hi,fV⟩ X hX;have bL:O.2.1.length<=30:=(by rw[p3];split<;>omega);refine eF (λI=>?_) λI=>?_;have E:i<O.2.1.length:=(by have:=zC I;omega);obtain⟨g1,g2⟩:=p4 i _ (zA E);refine eT.qC (y:=O.2.1[i]) (bk.q9 fV) i rfl (zA E) rfl rfl (oD (oG [] V) λbO w9 _ _ p=>p.z' 0 rfl λwa p _=>?_);generalize O.2.1[i]=rr at p g1 g2;refine qW false wa (λM hM=>Mi p 0 rr.1 ?_) (x_ ?_);rw[g1,gJ _ oL,beq_self_eq_true];refine x_ (Mi p 0 rr.2 (eF (λh=>Mi p 0 rr.2 ?_) λh=>hM));have:rr.2=1:=g2.resolve_left (oS h);rw[this];exact hM;rw[gJ _ oL];exact hX _ _ ⟨i+1,rfl,E,fV.trans p.fr⟩ oL;have E:i=O.2.1.length:=(by have:=zB I;omega);subst E;clear hX X;refine lD (λz V=>∃i:Nat,z=(i:Int)/\i<=G.length/\Fr [] Z V) (λz _=>G.length-z.toNat) ⟨0,rfl,yX _,fV⟩ ?_;clear fV V;rintro z V ⟨i,rfl,hi,fV⟩ X hX;refine eF (λI=>?_) λI=>?_;have E:i<G.length:=(by have:=zC I;omega);refine eT.qC (y:=G[i]) (bl.q9 fV) i rfl (zA E) rfl rfl (oD (oG [] V) λbP w9 _ _ p=>p.z' 0 rfl λwa p _=>oE p 0 rfl G[i] rfl ?_);refine Cu (d.sB.q9 (fV.trans p.fr)) (aA _ (zW E)) λwb fb=>?_;have p:=p.q9 fb;have em:(dZ O.1 (G[i].1,G[i].2)).getD iV=(dZ J G[i]).getD iV:=(by rw[p1]);rw[em];have eb:(G.map λj=>(dZ J j).getD iV)[i]?=some ((dZ J G[i]).getD iV):=(by rw[zQ,zA E];rfl);generalize (dZ J G[i]).getD iV=a at eb;refine oD p λbR wc _ _ p=>p.z' 0 rfl λwd p _=>?_;have p:=p.drew;refine Mj p 0 a (eT.qC (y:=a) (bm.q9 (fV.trans p.fr)) i rfl eb rfl rfl (qE1 (t:=A7) 4 oO oM oM (x_ ?_)));rw[gJ _ oL];exact hX _ _ ⟨i+1,rfl,E,fV.trans p.fr⟩ oL;have f8:=(fw.trans d.fr).trans fV;exact IA (hv.q9 f8) λw4 f4=>kk w4 (f8.trans f4)
section
open Go Go.ChangeShapes Go.WideShapes Go.ChangeAt Go.RowKit Go.Pt
def qFL:sh prog 52 0=some 28:=by kernel_rfl
def qFM:sh prog 52 1=some 50:=by kernel_rfl
section
variable {H:Type} {enc:Mf×Me->H} {W:Md} {base:Nat} {spare:Nat->Bool} {held:Bool}
def qt1{x:HL nG}(I:IntKind.u16.has x.2.2)(G:∀(i:Nat) v,(HL.mk nG x)[i]?=some v->∃u n y,sh prog 52 i=some u/\DataW.trod enc prog W base spare held n u [v]=some y):∃z:rB,ws [] W x z/\oj z:=by obtain⟨u0,n0,y0,h,J⟩:=G 0 x.1.v rfl;obtain rfl:=yO (qFL.symm.trans h);obtain⟨u1,n1,y1,E,O⟩:=G 1 x.2.1.v rfl;obtain rfl:=yO (qFM.symm.trans E);obtain⟨la,U,e1⟩:=IH (P:=prog) (t:=28) (e:=38) (s:=x.1) (k:=15) (encB:=HL.mk eH) oM oM oO (qrZ 4 oM) J;obtain⟨lt,V,e2⟩:=IH (P:=prog) (t:=50) (e:=43) (s:=x.2.1) (k:=16) (encB:=HL.mk eu) oM oM oO (qrZ 4 oM) O;exact⟨(la,lt,x.2.2),⟨U,V,rfl⟩,e1,e2,yb I⟩
def qB8:∀n E y,DataW.trod enc prog W base spare held n 52 E=some y->∃x:HL nG,E=HL.mk nG x/\∃z:rB,ws [] W x z/\oj z:=λn E y h=>by obtain⟨x,e,G,I⟩:=qr0 (cs:=nG) oM n _ y h;exact⟨x,e,qt1 G.2.2 I⟩
def qEI{n:Nat}{x:HL nG}{y:DataW H×List MemPlace}(G:dV nG x)(h:DataW.trod enc prog W base spare held n 52 (HL.mk nG x)=some y):∃z:rB,ws [] W x z/\oj z:=by obtain⟨x',e,_,E⟩:=qr0 (cs:=nG) oM n _ y h;rw[<- e] at E;exact qt1 G.2.2 E
def qu0{S:Prop}:∀ {ss:List (HL nG)},(∀x∈ss,∃z:rB,ws [] W x z/\oj z)->∃l:List rB,ss.length=l.length/\(∀i (G:i<ss.length) (I:i<l.length),ws [] W ss[i] l[i])/\∀z∈l,oj z
 | [],_=>⟨[],rfl,λi h=>absurd h (xX i),λ_ h=>nomatch h⟩
 | x::ss,h=>by
  obtain⟨z,G,I⟩:=h x LQ;obtain⟨l,J,O,U⟩:=qu0 (S:=S) (ss:=ss) λy E=>h y (zN _ E);refine⟨z::l,by rw[yI,yI,J],λi k1 k2=>?_,λy E=>(zG.1 E).elim (λe=>by rw[e];exact I) (U y)⟩;cases i with|zero=>exact G|succ i=>exact O i _ _
def qDz{n:Nat}{s:Sl}{y:DataW H×List MemPlace}(h:DataW.trod enc prog W base spare held n 22 [s.v]=some y):∃ss l,BS W s ss l/\∀x∈l,oj x:=by obtain⟨ss,g,e⟩:=IH (P:=prog) (t:=22) (e:=52) (s:=s) (k:=3) (encB:=HL.mk nG) oM oM oO qB8 h;obtain⟨l,E,G,I⟩:=qu0 (S:=True) e;exact⟨ss,l,⟨g,E,G⟩,I⟩
end
end
end Go.Proofs.YtcnddmfogfebiaaGreatDoor
