/- Conditions: those that stand in each line. -/
import Derived.Test.YtpcmehldpoljfaaGreatDoorCSRR4
import Derived.Test.YtpcmehldpoljfaaGreatDoorCSRR1
import Derived.Test.YtpcmehldpoljfaaGreatDoorCSRR3
set_option linter.unusedVariables false
set_option linter.unusedSimpArgs false
set_option linter.defProp false
namespace Go.Proofs.YtpcmehldpoljfaaGreatDoor
open Go.Proofs.Tryz (prog)
section
open Go Go.Pt List
open Go.IntKind (wrap)
attribute [local irreducible] ld dX jg oe jF fP st new idx jG jR fM jY jz mM iH nn call eJ inv run fG js join loop held ext kz eC nK nE nQ IntKind.wrap
variable {B:IS} {K:Sl->WP} {cs:Array IL} {i:Nat} {ii:Int} {l:List Key} {s:Sl} {w:IK}
def HC{α:Type}{p:α->Bool}:∀ {l:List α} {r:Nat},r<=l.length->(∀(i:Nat) a,i<r->l[i]?=some a->p a=true)->(∀a,l[r]?=some a->p a=false)->(l.takeWhile p).length=r
 | [],r,h,_,_=>by simp at h;simp[h]
 | x::l,0,h,_,u=>by
  have:=u x rfl;rw[takeWhile_cons,this];rfl
 | x::l,r+1,h,G,u=>by
  have I:=G 0 x (Nat.succ_pos r) rfl;have:=HC (p:=p) (l:=l) (r:=r) (oP h) (λi a J E=>G (i+1) a oJ (oP E)) (λa E=>u a (oP E));rw[takeWhile_cons,I];simp[this]
def qzA{k:Key}{r:Nat}(E:r<=l.length)(G:∀(i:Nat) a,i<r->l[i]?=some a->mr a k)(I:∀a,l[r]?=some a->fT k a):eP l k=r:=
 HC E (λi a J u=>zZ (G i a J u)) λa u=>zU λh=>h (I a u)
def qw4{k:Key}{r:Nat}(u:r<=l.length)(E:∀(i:Nat) a,i<r->l[i]?=some a->fT a k)(G:∀a,l[r]?=some a->mr k a):ed l k=r:=
 HC u (λi a I h=>zZ (E i a I h)) λa h=>zU (G a h)
def E3(h:fY l){j:Nat}{a b:Key}(u:i<j)(E:l[i]?=some a)(G:l[j]?=some b):fT a b:=by obtain⟨I,rfl⟩:=zP.1 E;obtain⟨J,rfl⟩:=zP.1 G;exact pairwise_iff_getElem.1 h i j I J u
abbrev kQ:=IU
def fg (x:kQ):Array IL:=#[.bool x.1,x.2.1.v,x.2.2.1.v,x.2.2.2.v]
def fS:kQ:=(false,dT,dT,dT)
def NB (n:dY):Prop:=(∀a∈n.J8,eX a)/\(∀a∈n.Q2,eX a)/\∀x∈n.Q1,ia x
def eT (S:IS) (w:IK) (x:kQ) (n:dY):Prop:=
 x.1=n.Q6/\NB n/\(∃pk,jK S w x.2.1 pk/\gH pk=n.J8)/\(∃pv,jK S w x.2.2.1 pv/\gH pv=n.Q2)/\eI iZ 1 S w x.2.2.2 n.Q1
def ju (Z:IS) (w:IK) (s:Sl) (l:List Key) (B:IS):Prop:=∃pk:qh,fj gO 1 w s (iY pk) B/\gH pk=l/\∀p∈pk,eN Z w p.1 p.2
def fE (Z:IS) (w:IK) (x:kQ) (n:dY) (B:IS):Prop:=
 x.1=n.Q6/\NB n/\∃Bk h u,B=Bk++(h++u)/\B.Nodup/\ju Z w x.2.1 n.J8 Bk/\ju Z w x.2.2.1 n.Q2 h/\fj iZ 1 w x.2.2.2 n.Q1 u
def ju.nil(Z:IS)(w:IK):ju Z w dT [] []:=⟨[],.nil _ _ _,rfl,λp h=>nomatch h⟩
def fE.zero(Z:IS)(w:IK):fE Z w fS iV []:=⟨rfl,⟨λ_ h=>(nomatch h),λ_ h=>(nomatch h),λ_ h=>(nomatch h)⟩,[],[],[],rfl,nodup_nil,.nil _ _,.nil _ _,.nil _ _ _⟩
section
variable {Z Z' S:IS} {w w':IK} {s:Sl} {l:List Key} {B:IS} {x:kQ} {n:dY}
def ju.lt(h:ju Z w s l B):∀b∈B,b<w.heap.size:=by obtain⟨pk,u,rfl,_⟩:=h;exact u.lt
def ju.j1(h:ju Z w s l B)(f:Fr S w w')(u:∀b∈B,b∉S)(E:∀b∈S,b∈Z\/w.heap.size<=b)(G:∀b∈Z',b∈Z\/w.heap.size<=b):ju Z' w' s l B:=by obtain⟨pk,I,J,R⟩:=h;exact⟨pk,I.j1 f u,J,λp U=>(R p U).j1 (f.mono λi V hl=>(E i V).elim id λh=>absurd hl oJ) G⟩
def ju.q8(h:ju Z w s l B)(f:Fr [] w w'):ju Z w' s l B:=h.j1 f (λ_ _ h=>nomatch h) (λ_ h=>nomatch h) λ_ h=>.inl h
def fE.lt(h:fE Z w x n B):∀b∈B,b<w.heap.size:=by obtain⟨_,_,Bk,J,R,rfl,_,E,G,I⟩:=h;intro b u;rcases zD.1 u with u|u;exact E.lt b u;rcases zD.1 u with u|u;exact G.lt b u;exact I.lt b u
def fE.j1(h:fE Z w x n B)(f:Fr S w w')(E:∀b∈B,b∉S)(G:∀b∈S,b∈Z\/w.heap.size<=b)(I:∀b∈Z',b∈Z\/w.heap.size<=b):fE Z' w' x n B:=by obtain⟨J,u,Bk,R,U,rfl,V,h1,h2,h3⟩:=h;exact⟨J,u,Bk,R,U,rfl,V,h1.j1 f (λb u=>E b (by simp[u])) G I,h2.j1 f (λb u=>E b (by simp[u])) G I,h3.j1 f λb u=>E b (by simp[u])⟩
def fE.q8(h:fE Z w x n B)(f:Fr [] w w'):fE Z w' x n B:=h.j1 f (λ_ _ h=>nomatch h) (λ_ h=>nomatch h) λ_ h=>.inl h
def fE.j8(h:fE Z w x n B)(u:∀b∈Z',b∈Z\/w.heap.size<=b):fE Z' w x n B:=h.j1 (.refl [] _) (λ_ _ h=>nomatch h) (λ_ h=>nomatch h) u
def ju.rd(h:ju Z w s l B)(u:∀b∈B,b∉S)(E:∀b∈S,b∈Z\/w.heap.size<=b):∃pk,jK S w s pk/\gH pk=l:=by obtain⟨pk,G,I,J⟩:=h;exact⟨pk,⟨G.jQ wX u,λp R=>(J p R).j1 (.refl _ _) E⟩,I⟩
def fE.rd(h:fE Z w x n B)(E:∀b∈B,b∉S)(G:∀b∈S,b∈Z\/w.heap.size<=b):eT S w x n:=by obtain⟨I,u,Bk,V,Bi,rfl,hn,J,R,U⟩:=h;exact⟨I,u,J.rd (λb u=>E b (by simp[u])) G,R.rd (λb u=>E b (by simp[u])) G,U.jQ (λ_=>rfl) λb u=>E b (by simp[u])⟩
def eT.j1{S':IS}(h:eT S w x n)(f:Fr S w w')(u:∀b∈S',b∈S\/w.heap.size<=b):eT S' w' x n:=by obtain⟨E,G,⟨pk,I,J⟩,⟨pv,R,U⟩,V⟩:=h;exact⟨E,G,⟨pk,I.j1 f u,J⟩,⟨pv,R.j1 f u,U⟩,V.j1 f u⟩
def eT.q8(h:eT S w x n)(f:Fr [] w w'):eT S w' x n:=h.j1 (f.mono λb u=>nomatch u) λb u=>.inl u
def eT.j8{S':IS}(h:eT S w x n)(u:∀b∈S',b∈S\/w.heap.size<=b):eT S' w x n:=h.j1 (.refl _ _) u
end
def qkF:∀ {l:List Key},(∀(i:Nat) a b,l[i]?=some a->l[i+1]?=some b->fT a b)->fY l
 | [],_=>.nil
 | [x],_=>pairwise_singleton _ _
 | x::y::r,h=>by have ih:fY (y::r):=qkF λi a b u G=>h (i+1) a b (oP u) (oP G);have E:fT x y:=h 0 x y rfl rfl;refine yJ.2 ⟨λa u=>?_,ih⟩;rcases zG.1 u with rfl|u;exact E;exact qc E (xm ih a u)
def Du{α:Type}{l:List α}{x y:α}(h:y∈fX l i x):y=x\/y∈l:=by unfold fX at h;simp only[zD,zE] at h;rcases h with (h|h)|h;exact .inr (yV h);exact .inl h;exact .inr (yU h)
def Fi{k v:Nat}:∀(c:Nat) {b:IT},eX b->(∀a∈(jn k v c b).1,eX a)/\∀a∈(jn k v c b).2,eX a
 | 0,_,_=>⟨λ_ h=>(nomatch h),λ_ h=>(nomatch h)⟩
 | c+1,b,h=>by have ih:=Fi (k:=k) (v:=v) c (b:=b.drop (k+v)) (h.drop _);refine⟨λa u=>?_,λa u=>?_⟩;rcases zG.1 u with rfl|u;exact h.take _;exact ih.1 a u;rcases zG.1 u with rfl|u;exact (h.drop _).take _;exact ih.2 a u
def qpV{k:Nat}:∀(c:Nat) {b:IT},eX b->∀a∈lC k c b,eX a
 | 0,_,_=>λ_ h=>(nomatch h)
 | c+1,b,h=>λa u=>by rcases zG.1 u with rfl|u;exact h.take _;exact qpV c (h.drop _) a u
def Dv:∃i,prog.info? 101=some i/\i.zero=some (.slice none 0 0)/\i.size=1/\i.bytes=24:=tB oK
abbrev gy (s:Sl):IL:=s.v
abbrev nX (n:Int):IL:=.u n
def CT{α:Type}(e:α->IL)(l:List α)(i:Nat)(x:α):(l.take i++[x]++l.drop i).map e=(l.map e).take i++[e x]++(l.map e).drop i:=by rw[xO,xO,xQ,xR];rfl
def qtM{α:Type}(e:α->IL)(l:List α)(i:Nat):(l.take i++l.drop (i+1)).map e=(l.map e).take i++(l.map e).drop (i+1):=by rw[xO,xQ,xR]
def Aq{a:Addr}{len cap:Nat}{hi:Int}{u:Nat}{K:Sl->Prop}(n:Nat)(E:hi=n)(h:n<=cap)(k:K ⟨some a,n,cap⟩):fM ⟨some a,len,cap⟩ none (some hi) none u K:=by subst E;refine wW ⟨oJ,by dsimp only;omega⟩ ?_;rw[zJ];exact k
def th{b len cap:Nat}{lo:Int}{K:Sl->Prop}(n:Nat)(h:lo=n)(E:n<=len)(u:len<=cap)(G:n<cap)(k:K ⟨some (dk b n),len-n,cap-n⟩):fM ⟨pW b,len,cap⟩ (some lo) none none 1 K:=by subst h;refine DY oJ oJ u oJ ?_;rw[zJ,xU,xT];exact k
def qxq{lo hi mx:Int}{u:Nat}{K:Sl->Prop}(h:0<=lo/\lo<=hi/\hi<=mx/\mx<=s.cap)(k:∀E,K E):fM s (some lo) (some hi) (some mx) u K:=by unfold fM;exact⟨by simpa using h,k _⟩
def AF{α:Type}{e:α->IL}{b:Nat}{T:IM}{G:I1}{l:List α}(I:w.heap[b]?=some (.cells cs T G))(J:cs.toList.take l.length=l.map e)(i:Nat):∀(j:Nat) u,((l.map e).drop i)[j]?=some u->w.cell? (Addr.add (dk b i) j)=some u:=λj u E=>by rw[Addr.j3,jC I];rw[xA] at E;have h:=(zP.1 E).1;rw[zK] at h;rw[<- J,xB,iP h] at E;simpa using E
def ql1{α:Type}{e:α->IL}{l:List α}(h:cs.toList.take l.length=l.map e)(hi:i<=l.length):cs.toList.take i=(l.map e).take i:=by rw[<- h,take_take,xS hi]
def CZ{α:Type}{enc:α->List IL}{e:α->IL}(u:∀x,enc x=[e x]){l:List α}(h:cs.toList.take l.length=l.flatMap enc):cs.toList.take l.length=l.map e:=by rw[h,A6 u]
def qur{l:List Sl}{x:Sl}{vb:Nat}{T':IM}(h:fj gO 1 w s l B)(hi:i<=l.length)(he:ii=i)(hl:l.length<=100000)(hv:w.heap[vb]?=some (.c #[gy x] T'))(al:vb∉B)(kk:∀s' B' w',fj gO 1 w' s' (fX l i x) B'->Fr B w w'->(∀b∈B',b∈B\/w.heap.size<=b)->K s' w'): cW 165 [s.v,.i ii,.slice (pW vb) 1 1] dl w K:=by
 obtain⟨aH,ac,hz,am,an⟩:=Dv;refine qlA (s:=s) (i:=ii) (v:=⟨pW vb,1,1⟩) ?_;subst he;have ao:=h.len;have ad:∀w',Fr B w w'->∀(j:Nat) u,([gy x]:List IL)[j]?=some u->w'.cell? (Addr.add (dk vb) j)=some u:=λw' f j u hj=>by rw[Addr.j3,jC (by rw[f.block vb (eO hv) al];exact hv),xT];simpa using hj
 refine eI.part (S:=[]) (fj.jQ (enc:=gO) (k:=1) (λ_=>rfl) h λ_ _ h=>nomatch h) (lo:=some (i:Int)) (hi:=none) i l.length rfl (by rw[xX,ao]) hi (zM _) λs1 _ _ _=>Io rfl ?_;apply eB<;>intro hc;have R:i=l.length:=(by have:=yP.1 hc;omega);have ap:Src prog 1 171 (.slice (pW vb) 1 1) 1 ([x].flatMap gO) w:=.ofSlice w (e':=101) oK _ 1 1 _ rfl (ad w (.refl _ _)) (λu hu=>by rw[yH,flatMap_nil,xI] at hu;rw[zE.1 hu];rfl);refine fj.j4 (ys:=[x]) (e:=101) h (λ_=>rfl) oK ac hz am rfl ap rfl (by rw[an];omega) oJ λs' B' w' b' f' n' _=>kk s' B' w' ?_ f' n';have e:fX l i x=l++[x]:=(by unfold fX;rw[R,vA,drop_length,xI]);rw[e];exact b';have R:i<l.length:=by
  have:=(zR.1 hc)
  omega
 have aI:l≠[]:=λe=>by rw[e] at R;exact absurd R (xZ _)
 obtain⟨b,cs,T,rfl,ha,hb,hn,aq,ar,aJ⟩:=h.ptr aI;have hM:=CZ (e:=gy) (λ_=>rfl) aJ;obtain⟨sa,sn,sc⟩:=s;dsimp only at ha hn aq ar;subst ha hn;have aK:vb≠b:=(oP al);have G:(l.map gy).length=l.length:=zK ..;have au:∀v∈(l.map gy).drop i,Value.oneCell' v=true:=λv J=>by obtain⟨y,_,rfl⟩:=mem_map.1 (yU J);rfl
 have U:((l.map gy).drop i).length=l.length-i:=(by rw[yB,G]);have V:wrap .i64 ((l.length:Int)+1)=((l.length+1:Nat):Int):=(by rw[gG _ oJ];rfl);have av:wrap .i64 ((i:Int)+1)=((i+1:Nat):Int):=(by rw[gG _ oJ];rfl);have aL:wrap .i64 (((l.length+1:Nat):Int)-(i:Int))=((l.length+1-i:Nat):Int):=(by rw[gG _ oJ];omega);apply cD<;>intro hc;have hg:sc<l.length+1:=by
  have:=hc;dsimp only at this;rw[show (((1:Nat):Int))=1 from rfl,V] at this;omega
 refine Aq i rfl oJ ?_;dsimp only;rw[show (((1:Nat):Int))=1 from rfl,V,aL,av];have aw:i+(l.length+1-i)=l.length+1:=oJ;refine GT (e:=101) (i:=aH) (kn:=.i64) (olds:=(l.map gy).take i) oK oK ac hz am rfl (by rw[yL,G];omega) (λh=>nomatch h) (λa ha j u hj=>?_) oJ oJ (by rw[aw,an];omega) oJ λb2 aN c w2 e2 ag f2 aa aO aP=>?_;cases ha;have ax:=AF hb hM 0 j u;rw[xG] at ax;rw[xB] at hj;split at hj;exact ax hj;cases hj;rw[aw] at aa⊢;have ay:=eO hb;have a0:Fr [b2] w w2:=f2.mono λ_ h _=>nomatch h;refine th i rfl oJ aa oJ<|wO (vs:=[gy x]) (src:=⟨pW vb,1,1⟩) ag (el:=101) oK oK ?_ (λ_=>⟨_,rfl,ad w2 (f2.mono λ_ h _=>nomatch h)⟩) (λv J=>by rw[zE.1 J];rfl) oO λw3 ah f3=>?_;show 1=min 1 (l.length+1-i);omega;refine th (i+1) rfl oJ aa oJ<|th i rfl oJ oJ oJ ?_;have aQ:w3.heap[b]?=some (.c cs T):=by rw[f3.block b (yC ay f2.size) oO,f2.block b ay λh=>nomatch h];exact hb
 refine wO (w:=w3.drew) (vs:=(l.map gy).drop i) (src:=⟨some (dk b i),l.length-i,sc-i⟩) ah (el:=101) oK oK ?_ (λ_=>⟨_,rfl,AF (w:=w3.drew) aQ hM i⟩) au (by rw[nT,U];omega) λw4 aR f4=>?_;rw[U];show l.length-i=min (l.length-i) (l.length+1-(i+1));omega;have I:=qwG (cs:=aN) (M:=l.map gy) (i:=i) (v:=gy x) (by rw[G];omega) (by rw[G];omega) aP;have E:(fX l i x).length=l.length+1:=(by unfold fX;simp;omega);refine kk _ [b2] w4 (fj.one (e:=gy) (λ_=>rfl) aR E.symm aa (by rw[nT,nT];exact aO) ?_) ?_ λb' ai=>?_;rw[E];rw[G] at I;rw[I];exact (CT gy l i x).symm;refine Fr.J0 (S:=[b]) (T:=[b2]) (f2.mono λ_ h _=>nomatch h) (f3.drew.trans f4) λi hi=>.inr ?_;rw[zE.1 hi,e2];exact zM _;rw[zE.1 ai,e2];exact .inr (zM _);have hg:l.length+1<=sc:=by
  have:=hc;dsimp only at this;rw[show (((1:Nat):Int))=1 from rfl,V] at this;omega
 dsimp only;rw[show (((1:Nat):Int))=1 from rfl,V,av];refine Aq (l.length+1) rfl hg<|th (i+1) rfl oJ hg oJ<|Ew (e:=Extern.SlicesOverlaps.overlaps #[171,171] #[4]) Tryz.func196 oK oK oK oK false w (qnZ oK ac hv hb aK oJ)<|Im rfl<|th (i+1) rfl oJ hg oJ<|th i rfl oJ hg oJ<|wO (w:=w.drew) (vs:=(l.map gy).drop i) (src:=⟨some (dk b i),l.length+1-i,sc-i⟩) hb (el:=101) oK oK ?_ (λ_=>⟨_,rfl,AF (w:=w.drew) hb hM i⟩) au (by rw[U];omega) λw2 ag f2=>?_;rw[U];show l.length-i=min (l.length+1-i) (l.length+1-(i+1));omega;refine th i rfl oJ hg oJ<|wO (vs:=[gy x]) (src:=⟨pW vb,1,1⟩) ag (el:=101) oK oK ?_ (λ_=>⟨_,rfl,ad w2 ((Fr.refl [b] w).drew.trans f2)⟩) (λv J=>by rw[zE.1 J];rfl) (by rw[nT];simp;omega) λw3 ah f3=>?_;show 1=min 1 (l.length+1-i);omega;have I:=qwI (cs:=cs) (M:=l.map gy) (i:=i) (v:=gy x) (by rw[G];omega) (by rw[G];omega) (ql1 hM oJ);have E:(fX l i x).length=l.length+1:=(by unfold fX;simp;omega);refine kk _ [b] w3 (fj.one (e:=gy) (λ_=>rfl) ah E.symm hg (by rw[nT,nT];exact ar) ?_) (((Fr.refl [b] w).drew.trans f2).trans f3) λb' ai=>.inl ai;rw[E];rw[G] at I;rw[I];exact (CT gy l i x).symm
def qun{l:List Sl}{jj:Int}(h:fj gO 1 w s l B)(hi:i<l.length)(he:ii=i)(hj:jj=((i+1:Nat):Int))(hl:l.length<=100000)(kk:∀s' w',fj gO 1 w' s' (iu l i) B->Fr B w w'->K s' w'): cW 168 [s.v,.i ii,.i jj] dl w K:=by
 obtain⟨ax,ad,hz,ae,ay⟩:=Dv;refine qly ?_;subst he hj;have af:l≠[]:=λe=>by rw[e] at hi;exact absurd hi (xZ _)
 obtain⟨b,cs,T,rfl,ha,hb,hn,V,I,ag⟩:=h.ptr af;have hM:=CZ (e:=gy) (λ_=>rfl) ag;obtain⟨sa,sn,sc⟩:=s;dsimp only at ha hn V I;subst ha hn;have E:(l.map gy).length=l.length:=zK ..;have aB:∀v∈(l.map gy).drop (i+1),Value.oneCell' v=true:=λv ah=>by obtain⟨y,_,rfl⟩:=mem_map.1 (yU ah);rfl
 have aC:((l.map gy).drop (i+1)).length=l.length-(i+1):=(by rw[yB,E]);refine qxq oN λ_=>Io (zR.2 oJ)<|Aq i rfl oJ ?_;have ai:∀U,U.heap[b]?=some (.c (en cs i ((l.map gy).drop (i+1))) T)->Fr [b] w U->fM ⟨pW b,l.length-1,sc⟩ (some (((l.length-1:Nat)):Int)) (some ((l.length:Nat):Int)) none 1 λ(J:Sl)=>
  run [] ((Builtin.clear_ #[171] 0 (#[Value.slice J.a J.len J.cap])).run prog U)<|
  λ(aD:PUnit) (aj:IK)=>
  K ⟨pW b,l.length-1,sc⟩ aj:=λU R f5=>by
  refine Dq oJ oJ oJ oJ ?_;rw[zJ,zJ,xU,xT];have h1:l.length-(l.length-1)=1:=oJ;rw[h1];dsimp only;refine qtJ (e:=101) (z:=(Value.slice none 0 0)) R oK oK rfl rfl oJ (by rw[nT];omega) λw6 al f6=>?_;have G:=qwl (cs:=cs) (M:=l.map gy) (i:=i) (z:=(Value.slice none 0 0)) (by rw[E];omega) (by rw[E];exact hM);have aa:(iu l i).length=l.length-1:=(by unfold iu;simp;omega);refine kk _ w6 (fj.one (e:=gy) (λ_=>rfl) al aa.symm oJ (by rw[nT,nT];exact I) ?_) (f5.trans f6);rw[aa];rw[E] at G;rw[show List.replicate 1 ((Value.slice none 0 0))=[(Value.slice none 0 0)] from rfl,G];exact (qtM gy l i).symm
 refine eI.part (S:=[]) (fj.jQ (enc:=gO) (k:=1) (λ_=>rfl) h λ_ _ h=>nomatch h) (lo:=some ((i+1:Nat):Int)) (hi:=none) (i+1) l.length rfl rfl oJ (zM _) λs3 ab h3 aI=>?_;have ac:Src prog 1 171 s3.v s3.len ((l.map gy).drop (i+1)) w.drew:=by
  have:=uU (P:=prog) (tx:=171) (e':=101) (h3.same (ol.refl w).drew) (λ_=>rfl) (λx u hu=>by rw[zE.1 hu];rfl) oK;rw[A6 (enc:=gO) (e:=gy) λ_=>rfl,vA,xR] at this;exact this
 dsimp only;refine qtD (w:=w.drew) (e:=101) hb oK ad ae ac (by rw[ab];omega) I λU R f5=>?_;have e:i+s3.len=l.length-1:=(by rw[ab];omega);rw[e];exact ai U R ((Fr.refl [b] w).drew.trans f5)
def qus{l:IT}{x:Int}{vb:Nat}{T':IM}(h:fj iZ 1 w s l B)(hi:i<=l.length)(he:ii=i)(hl:l.length<=100000)(hv:w.heap[vb]?=some (.c #[nX x] T'))(al:vb∉B)(kk:∀s' B' w',fj iZ 1 w' s' (fX l i x) B'->Fr B w w'->(∀b∈B',b∈B\/w.heap.size<=b)->K s' w'): cW 167 [s.v,.i ii,.slice (pW vb) 1 1] dl w K:=by
 obtain⟨aH,ac,hz,am,an⟩:=wV;refine qlB (s:=s) (i:=ii) (v:=⟨pW vb,1,1⟩) ?_;subst he;have ao:=h.len;have ad:∀w',Fr B w w'->∀(j:Nat) u,([nX x]:List IL)[j]?=some u->w'.cell? (Addr.add (dk vb) j)=some u:=λw' f j u hj=>by rw[Addr.j3,jC (by rw[f.block vb (eO hv) al];exact hv),xT];simpa using hj
 refine eI.part (S:=[]) (fj.jQ (enc:=iZ) (k:=1) (λ_=>rfl) h λ_ _ h=>nomatch h) (lo:=some (i:Int)) (hi:=none) i l.length rfl (by rw[xX,ao]) hi (zM _) λs1 _ _ _=>Io rfl ?_;apply eB<;>intro hc;have R:i=l.length:=(by have:=yP.1 hc;omega);have ap:Src prog 1 172 (.slice (pW vb) 1 1) 1 ([x].flatMap iZ) w:=.ofSlice w (e':=63) oK _ 1 1 _ rfl (ad w (.refl _ _)) (λu hu=>by rw[yH,flatMap_nil,xI] at hu;rw[zE.1 hu];rfl);refine fj.j4 (ys:=[x]) (e:=63) h (λ_=>rfl) oK ac hz am rfl ap rfl (by rw[an];omega) oJ λs' B' w' b' f' n' _=>kk s' B' w' ?_ f' n';have e:fX l i x=l++[x]:=(by unfold fX;rw[R,vA,drop_length,xI]);rw[e];exact b';have R:i<l.length:=by
  have:=(zR.1 hc)
  omega
 have aI:l≠[]:=λe=>by rw[e] at R;exact absurd R (xZ _)
 obtain⟨b,cs,T,rfl,ha,hb,hn,aq,ar,aJ⟩:=h.ptr aI;have hM:=CZ (e:=nX) (λ_=>rfl) aJ;obtain⟨sa,sn,sc⟩:=s;dsimp only at ha hn aq ar;subst ha hn;have aK:vb≠b:=(oP al);have G:(l.map nX).length=l.length:=zK ..;have au:∀v∈(l.map nX).drop i,Value.oneCell' v=true:=λv J=>by obtain⟨y,_,rfl⟩:=mem_map.1 (yU J);rfl
 have U:((l.map nX).drop i).length=l.length-i:=(by rw[yB,G]);have V:wrap .i64 ((l.length:Int)+1)=((l.length+1:Nat):Int):=(by rw[gG _ oJ];rfl);have av:wrap .i64 ((i:Int)+1)=((i+1:Nat):Int):=(by rw[gG _ oJ];rfl);have aL:wrap .i64 (((l.length+1:Nat):Int)-(i:Int))=((l.length+1-i:Nat):Int):=(by rw[gG _ oJ];omega);apply cD<;>intro hc;have hg:sc<l.length+1:=by
  have:=hc;dsimp only at this;rw[show (((1:Nat):Int))=1 from rfl,V] at this;omega
 refine Aq i rfl oJ ?_;dsimp only;rw[show (((1:Nat):Int))=1 from rfl,V,aL,av];have aw:i+(l.length+1-i)=l.length+1:=oJ;refine GT (e:=63) (i:=aH) (kn:=.i64) (olds:=(l.map nX).take i) oK oK ac hz am rfl (by rw[yL,G];omega) (λh=>nomatch h) (λa ha j u hj=>?_) oJ oJ (by rw[aw,an];omega) oJ λb2 aN c w2 e2 ag f2 aa aO aP=>?_;cases ha;have ax:=AF hb hM 0 j u;rw[xG] at ax;rw[xB] at hj;split at hj;exact ax hj;cases hj;rw[aw] at aa⊢;have ay:=eO hb;have a0:Fr [b2] w w2:=f2.mono λ_ h _=>nomatch h;refine th i rfl oJ aa oJ<|wO (vs:=[nX x]) (src:=⟨pW vb,1,1⟩) ag (el:=63) oK oK ?_ (λ_=>⟨_,rfl,ad w2 (f2.mono λ_ h _=>nomatch h)⟩) (λv J=>by rw[zE.1 J];rfl) oO λw3 ah f3=>?_;show 1=min 1 (l.length+1-i);omega;refine th (i+1) rfl oJ aa oJ<|th i rfl oJ oJ oJ ?_;have aQ:w3.heap[b]?=some (.c cs T):=by rw[f3.block b (yC ay f2.size) oO,f2.block b ay λh=>nomatch h];exact hb
 refine wO (w:=w3.drew) (vs:=(l.map nX).drop i) (src:=⟨some (dk b i),l.length-i,sc-i⟩) ah (el:=63) oK oK ?_ (λ_=>⟨_,rfl,AF (w:=w3.drew) aQ hM i⟩) au (by rw[nT,U];omega) λw4 aR f4=>?_;rw[U];show l.length-i=min (l.length-i) (l.length+1-(i+1));omega;have I:=qwG (cs:=aN) (M:=l.map nX) (i:=i) (v:=nX x) (by rw[G];omega) (by rw[G];omega) aP;have E:(fX l i x).length=l.length+1:=(by unfold fX;simp;omega);refine kk _ [b2] w4 (fj.one (e:=nX) (λ_=>rfl) aR E.symm aa (by rw[nT,nT];exact aO) ?_) ?_ λb' ai=>?_;rw[E];rw[G] at I;rw[I];exact (CT nX l i x).symm;refine Fr.J0 (S:=[b]) (T:=[b2]) (f2.mono λ_ h _=>nomatch h) (f3.drew.trans f4) λi hi=>.inr ?_;rw[zE.1 hi,e2];exact zM _;rw[zE.1 ai,e2];exact .inr (zM _);have hg:l.length+1<=sc:=by
  have:=hc;dsimp only at this;rw[show (((1:Nat):Int))=1 from rfl,V] at this;omega
 dsimp only;rw[show (((1:Nat):Int))=1 from rfl,V,av];refine Aq (l.length+1) rfl hg<|th (i+1) rfl oJ hg oJ<|Ew (e:=Extern.SlicesOverlaps.overlaps #[172,172] #[4]) Tryz.func200 oK oK oK oK false w (qnZ oK ac hv hb aK oJ)<|Im rfl<|th (i+1) rfl oJ hg oJ<|th i rfl oJ hg oJ<|wO (w:=w.drew) (vs:=(l.map nX).drop i) (src:=⟨some (dk b i),l.length+1-i,sc-i⟩) hb (el:=63) oK oK ?_ (λ_=>⟨_,rfl,AF (w:=w.drew) hb hM i⟩) au (by rw[U];omega) λw2 ag f2=>?_;rw[U];show l.length-i=min (l.length+1-i) (l.length+1-(i+1));omega;refine th i rfl oJ hg oJ<|wO (vs:=[nX x]) (src:=⟨pW vb,1,1⟩) ag (el:=63) oK oK ?_ (λ_=>⟨_,rfl,ad w2 ((Fr.refl [b] w).drew.trans f2)⟩) (λv J=>by rw[zE.1 J];rfl) (by rw[nT];simp;omega) λw3 ah f3=>?_;show 1=min 1 (l.length+1-i);omega;have I:=qwI (cs:=cs) (M:=l.map nX) (i:=i) (v:=nX x) (by rw[G];omega) (by rw[G];omega) (ql1 hM oJ);have E:(fX l i x).length=l.length+1:=(by unfold fX;simp;omega);refine kk _ [b] w3 (fj.one (e:=nX) (λ_=>rfl) ah E.symm hg (by rw[nT,nT];exact ar) ?_) (((Fr.refl [b] w).drew.trans f2).trans f3) λb' ai=>.inl ai;rw[E];rw[G] at I;rw[I];exact (CT nX l i x).symm
def qup{l:IT}{jj:Int}(h:fj iZ 1 w s l B)(hi:i<l.length)(he:ii=i)(hj:jj=((i+1:Nat):Int))(hl:l.length<=100000)(kk:∀s' w',fj iZ 1 w' s' (iu l i) B->Fr B w w'->K s' w'): cW 239 [s.v,.i ii,.i jj] dl w K:=by
 obtain⟨ax,ad,hz,ae,ay⟩:=wV;refine qlz ?_;subst he hj;have af:l≠[]:=λe=>by rw[e] at hi;exact absurd hi (xZ _)
 obtain⟨b,cs,T,rfl,ha,hb,hn,V,I,ag⟩:=h.ptr af;have hM:=CZ (e:=nX) (λ_=>rfl) ag;obtain⟨sa,sn,sc⟩:=s;dsimp only at ha hn V I;subst ha hn;have E:(l.map nX).length=l.length:=zK ..;have aB:∀v∈(l.map nX).drop (i+1),Value.oneCell' v=true:=λv ah=>by obtain⟨y,_,rfl⟩:=mem_map.1 (yU ah);rfl
 have aC:((l.map nX).drop (i+1)).length=l.length-(i+1):=(by rw[yB,E]);refine qxq oN λ_=>Io (zR.2 oJ)<|Aq i rfl oJ ?_;have ai:∀U,U.heap[b]?=some (.c (en cs i ((l.map nX).drop (i+1))) T)->Fr [b] w U->fM ⟨pW b,l.length-1,sc⟩ (some (((l.length-1:Nat)):Int)) (some ((l.length:Nat):Int)) none 1 λ(J:Sl)=>
  run [] ((Builtin.clear_ #[172] 0 (#[Value.slice J.a J.len J.cap])).run prog U)<|
  λ(aD:PUnit) (aj:IK)=>
  K ⟨pW b,l.length-1,sc⟩ aj:=λU R f5=>by
  refine Dq oJ oJ oJ oJ ?_;rw[zJ,zJ,xU,xT];have h1:l.length-(l.length-1)=1:=oJ;rw[h1];dsimp only;refine qtJ (e:=63) (z:=(Value.int .u32 0)) R oK oK rfl rfl oJ (by rw[nT];omega) λw6 al f6=>?_;have G:=qwl (cs:=cs) (M:=l.map nX) (i:=i) (z:=(Value.int .u32 0)) (by rw[E];omega) (by rw[E];exact hM);have aa:(iu l i).length=l.length-1:=(by unfold iu;simp;omega);refine kk _ w6 (fj.one (e:=nX) (λ_=>rfl) al aa.symm oJ (by rw[nT,nT];exact I) ?_) (f5.trans f6);rw[aa];rw[E] at G;rw[show List.replicate 1 ((Value.int .u32 0))=[(Value.int .u32 0)] from rfl,G];exact (qtM nX l i).symm
 refine eI.part (S:=[]) (fj.jQ (enc:=iZ) (k:=1) (λ_=>rfl) h λ_ _ h=>nomatch h) (lo:=some ((i+1:Nat):Int)) (hi:=none) (i+1) l.length rfl rfl oJ (zM _) λs3 ab h3 aI=>?_;have ac:Src prog 1 172 s3.v s3.len ((l.map nX).drop (i+1)) w.drew:=by
  have:=uU (P:=prog) (tx:=172) (e':=63) (h3.same (ol.refl w).drew) (λ_=>rfl) (λx u hu=>by rw[zE.1 hu];rfl) oK;rw[A6 (enc:=iZ) (e:=nX) λ_=>rfl,vA,xR] at this;exact this
 dsimp only;refine qtD (w:=w.drew) (e:=63) hb oK ad ae ac (by rw[ab];omega) I λU R f5=>?_;have e:i+s3.len=l.length-1:=(by rw[ab];omega);rw[e];exact ai U R ((Fr.refl [b] w).drew.trans f5)
end
section
open Go Go.Pt List
open Go.IntKind (wrap)
open Classical
attribute [local irreducible] ld dX jg oe jF fP st new idx jG jR fM jY jz mM iH nn call eJ inv run fG js join loop held ext kz eC nK nE nQ IntKind.wrap
variable {B S:IS} {K:Sl->WP} {L:IW} {T:IM} {b l:IT} {e:I8} {k v:Nat} {kind:Int} {n:dY} {ps:qh} {s:Sl} {w w0:IK} {x:kQ}
def qtT{i j:Nat}(h:i+j<=10000000):wrap .i64 (Int.fdiv (wrap .u64 (wrap .i64 ((i:Int)+(j:Int)))) (2^1))=(((i+j) / 2:Nat):Int):=by have e1:wrap .i64 ((i:Int)+(j:Int))=(i:Int)+(j:Int):=gG _ oJ;have u:wrap .u64 ((i:Int)+(j:Int))=(i:Int)+(j:Int):=IntWalk.u64_in _ oJ;rw[e1,u,Int.fdiv_eq_ediv_of_nonneg _ oM];have e:((i:Int)+(j:Int)) / 2^1=(((i+j) / 2:Nat):Int):=oJ;rw[e,gG _ oJ]
def qv7{n:Nat}{v:IL}{p:Nat->Bool}{K:Int->WP}(G:n<=1000000)(hf:∀w1 (i:Nat) (K':Bool->WP),Fr [] w w1->i<n->(∀w2,Fr [] w w2->K' (p i) w2)->eJ prog v [.i i] dp w1 K')(u:∀i j,i<=j->j<n->p i=true->p j=true)(hk:∀(r:Nat) w',r<=n->(∀i,i<r->p i=false)->(∀i,r<=i->i<n->p i=true)->Fr [] w w'->K r w'): cW 123 [.i n,v] dm w K:=by
 refine qpa<|jv (λs w'=>∃i j:Nat,s=((i:Int),(j:Int))/\i<=j/\j<=n/\(∀a,a<i->p a=false)/\(∀a,j<=a->a<n->p a=true)/\Fr [] w w') (λs _=>(s.2-s.1).toNat) ⟨0,n,rfl,oJ,oJ,λ_ h=>absurd h (xZ _),λa I J=>oJ,.refl _ _⟩ ?_;rintro s w1 ⟨i,j,rfl,ah,R,I,J,hs⟩ X hX;dsimp only;apply cD<;>intro U;have ai:i<j:=oJ;rw[qtT oJ];refine hf w1 ((i+j) / 2) _ hs oJ λw2 E=>?_;cases hp:p ((i+j) / 2);refine Im rfl ?_;have e:wrap .i64 ((((i+j) / 2:Nat):Int)+1)=(((i+j) / 2+1:Nat):Int):=(by rw[gG _ oJ];rfl);rw[e];refine hX _ _ ⟨(i+j) / 2+1,j,rfl,oJ,R,λa V=>?_,J,E⟩ oN;cases aa:p a;rfl
 have:=u a ((i+j) / 2) oJ oJ aa;rw[hp] at this;exact this.symm;exact Io rfl<|hX _ _ ⟨i,(i+j) / 2,rfl,oJ,oJ,I,λa V G=>u _ a V G hp,E⟩ oN;have aj:¬i<j:=oJ;exact hk i w1 oJ I (λa V G=>J a oJ G) hs
def qy3{n:Nat}{v:IL}{c:Nat->Int}{K:I6->WP}(U:n<=1000000)(hf:∀w1 (i:Nat) (K':Int->WP),Fr [] w w1->i<n->(∀w2,Fr [] w w2->K' (c i) w2)->eJ prog v [.i i] dm w1 K')(u:∀i j,i<=j->j<n->c j>0->c i>0)(hk:∀(r:Nat) w',r<=n->(∀i,i<r->c i>0)->(∀i,r<=i->i<n->¬c i>0)->Fr [] w w'->K (r,decide (r<n/\c r=0)) w'): cW 125 [.i n,v] dz w K:=by
 refine qsA<|jv (λs w'=>∃i j:Nat,s=((i:Int),(j:Int))/\i<=j/\j<=n/\(∀a,a<i->c a>0)/\(∀a,j<=a->a<n->¬c a>0)/\Fr [] w w') (λs _=>(s.2-s.1).toNat) ⟨0,n,rfl,oJ,oJ,λ_ h=>absurd h (xZ _),λa V h2=>oJ,.refl _ _⟩ ?_;rintro s w1 ⟨i,j,rfl,aj,ab,V,h2,hs⟩ X hX;dsimp only;apply cD<;>intro I;have ak:i<j:=oJ;rw[qtT oJ];refine hf w1 ((i+j) / 2) _ hs oJ λw2 E=>?_;apply eB<;>intro J;have J:=zC J;have e:wrap .i64 ((((i+j) / 2:Nat):Int)+1)=(((i+j) / 2+1:Nat):Int):=(by rw[gG _ oJ];rfl);rw[e];exact hX _ _ ⟨(i+j) / 2+1,j,rfl,oJ,ab,λa ha=>u a _ oJ oJ J,h2,E⟩ oN;have J:=zB J;exact hX _ _ ⟨i,(i+j) / 2,rfl,oJ,oJ,V,λa ha U ae=>J (u _ a ha U ae),E⟩ oN;have al:¬i<j:=oJ;have R:=λw'=>hk i w' oJ V λa ha U=>h2 a oJ U;apply cD<;>intro I;have G:i<n:=oJ;refine hf w1 i _ hs G λw2 E=>?_;have e:(c i==0)=decide (i<n/\c i=0):=by rw[It,yP,yN];exact⟨λh=>⟨G,h⟩,λh=>h.2⟩
 rw[e];exact R w2 E;have G:¬i<n:=by omega
 have:=R w1 hs;rw[zU λh=>G h.1] at this;exact this
section
variable {S S':IS} {w:IK} {x:kQ} {n:dY} {ks:Sl} {key:Key}
def C7{K:I6->WP}(hx:eT S w x n)(hk:eN S' w ks key)(hB:eX key)(hr:fY n.J8)(hl:n.J8.length<=1000000)(kk:∀w',Fr [] w w'->K (ed n.J8 key,decide (n.J8[ed n.J8 key]?=some key)) w'): cW 92 [.agg (fg x),ks.v] dz w K:=by
 obtain⟨h0,ac,⟨pk,J,G⟩,_⟩:=hx;refine qqF<|oB (oE [] w) λr1 w1 e1 f1 h=>oB h λr3 w2 e2 f2 h=>IQ h 1 rfl x.2.1 ?_;have U:x.2.1.len=pk.length:=J.len;have ap:n.J8.length=pk.length:=(by rw[<- G,zK]);have u:∀(i:Nat) (E:i<pk.length),n.J8[i]?=some pk[i].2:=λi E=>by rw[<- G,zQ,zA E];rfl
 rw[U];refine qy3 (c:=λi=>cmpL key (n.J8.getD i [])) oJ (λw3 i K' f3 E ad=>?_) (λi j ar hj hc=>?_) λr w' av ae af f'=>?_;refine tT (lb:=[dS r3,dS r1]) rfl oK ?_;have R:=h.q8 f3;refine qmO ?_;have R:=R.drew;refine IQ R 0 rfl ks<|IQ R 1 rfl x.2.1<|jK.get (J.q8 R.fr) i rfl E<|Cw (hk.q8 R.fr) ((J.q8 R.fr).2 pk[i] (zW E)) hB (ac.1 _ (yF (u i E))) ?_;have e:n.J8.getD i []=pk[i].2:=by rw[yR,u i E];rfl
 have:=ad w3.drew f3.drew;rw[e] at this;exact this;by_cases hij':i=j;rw[hij'];exact hc;have E:=u i oJ;have V:=u j hj;rw[yR,V,xW] at hc;rw[yR,E,xW];have h1:fT pk[j].2 key:=(by unfold fT;rw[ug];omega);have h2:=qc (E3 hr oJ E V) h1;unfold fT at h2;rw[ug] at h2;omega;have hp:ed n.J8 key=r:=qw4 oJ (λi a E ha=>by
  have:=ae i E;rw[yR,ha,xW,ug] at this;show cmpL a key<0;omega) λa ha=>by
  have az:=(zP.1 ha).1;have:=af r (zM _) oJ;rw[yR,ha,xW,ug] at this;show ¬cmpL a key<0;omega
 have I:=kk w' (h.fr.trans f');rw[hp] at I;have e:decide (n.J8[r]?=some key)=decide (r<pk.length/\cmpL key (n.J8.getD r [])=0):=by refine decide_eq_decide.2 ⟨λh=>?_,λh=>?_⟩;refine⟨by have:=(zP.1 h).1;omega,?_⟩;rw[yR,h,xW,FR];have h2:=h.2;rw[yR,u r h.1,xW] at h2;exact (u r h.1).trans (IH some (DL h2).symm)
 rw[e] at I;exact I
def CQ{K:Int->WP}(hx:eT S w x n)(hk:eN S' w ks key)(hB:eX key)(hr:fY n.J8)(hl:n.J8.length<=1000000)(kk:∀w',Fr [] w w'->K (eP n.J8 key) w'): cW 91 [.agg (fg x),ks.v] dm w K:=by
 obtain⟨h0,ac,⟨pk,J,E⟩,_⟩:=hx;refine qti<|oB (oE [] w) λr1 w1 e1 f1 h=>oB h λr3 w2 e2 f2 h=>IQ h 1 rfl x.2.1 ?_;have U:x.2.1.len=pk.length:=J.len;have ap:n.J8.length=pk.length:=(by rw[<- E,zK]);have G:∀(i:Nat) (u:i<pk.length),n.J8[i]?=some pk[i].2:=λi u=>by rw[<- E,zQ,zA u];rfl
 rw[U];refine qv7 (p:=λi=>decide (cmpL key (n.J8.getD i [])<0)) oJ (λw3 i K' f3 u ad=>?_) (λi j ar hj V=>?_) λr w' av ae af f'=>?_;refine tT (lb:=[dS r3,dS r1]) rfl oK ?_;have R:=h.q8 f3;refine qoU ?_;have R:=R.drew;refine IQ R 0 rfl ks<|IQ R 1 rfl x.2.1<|jK.get (J.q8 R.fr) i rfl u<|Cw (hk.q8 R.fr) ((J.q8 R.fr).2 pk[i] (zW u)) hB (ac.1 _ (yF (G i u))) ?_;have e:n.J8.getD i []=pk[i].2:=(by rw[yR,G i u];rfl);have e2:decide (cmpL key (n.J8.getD i [])<0)=decide (cmpL key pk[i].2<0):=decide_eq_decide.2 (by rw[e]);rw[<- e2];exact ad w3.drew f3.drew;by_cases hij':i=j;rw[<- hij'];exact V;have u:=G i oJ;have aa:=G j hj;have V:=zC V;rw[yR,u,xW] at V;refine zZ ?_;rw[yR,aa,xW];exact qc V (E3 hr oJ u aa);have hp:eP n.J8 key=r:=qzA oJ (λi a u ha=>by
  have:=zB (ae i u);rw[yR,ha,xW] at this;exact this) λa ha=>by
  have ay:=(zP.1 ha).1;have:=zC (af r (zM _) oJ);rw[yR,ha,xW] at this;exact this
 have I:=kk w' (h.fr.trans f');rw[hp] at I;exact I
end
section
def DM{p:Prop}{i:Decidable p}(h:p):true=decide p:=by simp[h]
def sA{i:Nat}(h:i<=100000000):wrap .i64 ((i:Int)+1)=((i+1:Nat):Int):=by rw[gG _ oJ];rfl
section
variable {S:IS} {w:IK} {s:Sl}
def qqZ{v:IL}{p:Key->Bool}{K:Bool->WP}(V:jK S w s ps)(hl:ps.length<=1000000)(hf:∀w1 (x:Sl×Key) (K':Bool->WP),Fr [] w w1->x∈ps->(∀w2,Fr [] w w2->K' (p x.2) w2)->eJ prog v [x.1.v] dp w1 K')(kk:∀w',Fr [] w w'->K ((gH ps).any p) w'): cW 233 [s.v,v] dp w K:=by
 refine qgp<|qi5 ?_;have ac:=V.len;refine jv (λi w'=>∃n:Nat,i=(n:Int)/\n<=ps.length/\((gH ps).take n).any p=false/\Fr [] w w') (λi _=>((ps.length:Int)-i).toNat) ⟨0,rfl,yX _,rfl,.refl _ _⟩ ?_;rintro _ w1 ⟨n,rfl,hn,E,u⟩ X hX;apply cD<;>intro J;have h:n<ps.length:=oJ;refine jK.get (V.q8 u) n rfl h<|hf w1 ps[n] _ u (zW h) λw2 G=>?_;have I:(gH ps)[n]?=some ps[n].2:=(by rw[zQ,zA h];rfl);apply eB<;>intro R;have:(gH ps).any p=true:=any_eq_true.2 ⟨ps[n].2,yF I,R⟩;show K (decide (((n:Nat):Int)>=0)) w2;rw[zZ (show ((n:Nat):Int)>=0 by omega)];rw[<- this];exact kk w2 G;rw[sA oJ];refine hX _ _ ⟨n+1,rfl,h,?_,G⟩ oJ;rw[take_add_one,I,any_append,E];simpa using R;have U:n=ps.length:=oJ;show K (decide ((-1:Int)>=0)) w1;rw[zU (show ¬(-1:Int)>=0 by decide)];have:(gH ps).any p=false:=by rw[<- E,U,zS (by rw[zK];exact zM _)]
 rw[<- this];exact kk w1 u
def qq0{v:IL}{p:Int->Bool}{K:Bool->WP}(hs:Rd S w s l)(hl:l.length<=1000000)(hf:∀w1 (x:Int) (K':Bool->WP),Fr [] w w1->x∈l->(∀w2,Fr [] w w2->K' (p x) w2)->eJ prog v [.u x] dp w1 K')(kk:∀w',Fr [] w w'->K (l.any p) w'): cW 193 [s.v,v] dp w K:=by
 refine qgq<|qi6 ?_;have ad:=hs.1;refine jv (λi w'=>∃n:Nat,i=(n:Int)/\n<=l.length/\(l.take n).any p=false/\Fr [] w w') (λi _=>((l.length:Int)-i).toNat) ⟨0,rfl,yX _,rfl,.refl _ _⟩ ?_;rintro _ w1 ⟨n,rfl,hn,I,h⟩ X hX;apply cD<;>intro R;have E:n<l.length:=oJ;have G:l[n]?=some l[n]:=zA E;refine eI.get (hs.q8 h) n rfl G (y:=l[n]) rfl<|hf w1 l[n] _ h (zW E) λw2 J=>?_;apply eB<;>intro U;have:l.any p=true:=any_eq_true.2 ⟨l[n],yF G,U⟩;show K (decide (((n:Nat):Int)>=0)) w2;rw[zZ (show ((n:Nat):Int)>=0 by omega)];rw[<- this];exact kk w2 J;rw[sA oJ];refine hX _ _ ⟨n+1,rfl,E,?_,J⟩ oJ;rw[take_add_one,G,any_append,I];simpa using U;have V:n=l.length:=oJ;show K (decide ((-1:Int)>=0)) w1;rw[zU (show ¬(-1:Int)>=0 by decide)];have:l.any p=false:=by rw[<- I,V,zS (zM _)]
 rw[<- this];exact kk w1 h
def qr4{m:Nat}{K:Bool->WP}(U:jK S w s ps)(V:ps.length<=1000000)(kk:∀w',Fr [] w w'->K (decide (∀a∈gH ps,a.length=m)) w'): cW 191 [s.v,.i m] dp w K:=by
 refine qr9<|oB (oE [] w) λr1 w1 e1 J h=>?_;have u:=U.q8 J;refine qqZ (p:=λa=>decide (a.length≠m)) u V (λw2 x K' R hx E=>?_) λw' f'=>?_;refine tT (lb:=[dS r1]) rfl oK<|qnV<|IQ (h.q8 R) 0 rfl (m:Int) ?_;have G:=(u.2 x hx).1;have e:(!((x.1.len:Int)==(m:Int)))=decide (x.2.length≠m):=by rw[G,It];simp;omega
 rw[e];exact E w2 R;have e:(!((gH ps).any λa=>decide (a.length≠m)))=decide (∀a∈gH ps,a.length=m):=by
  rw[It,yN,zT,any_eq_false];constructor;intro h a I;have:=h a I;simpa using this;intro h a I;simp[h a I]
 rw[e];exact kk w' (J.trans f')
def qwZ{K:Bool->WP}(hs:jK S w s ps)(hB:∀a∈gH ps,eX a)(hl:ps.length<=1000000)(kk:∀w',Fr [] w w'->K (decide (fY (gH ps))) w'): cW 192 [s.v] dp w K:=by
 refine qqJ ?_;have af:=hs.len;have E:∀(i:Nat) (hi:i<ps.length),(gH ps)[i]?=some ps[i].2:=λi hi=>by rw[zQ,zA hi];rfl
 refine jv (λi w'=>∃n:Nat,i=(n:Int)/\1<=n/\(∀(j:Nat) a b,j+1<n->(gH ps)[j]?=some a->(gH ps)[j+1]?=some b->fT a b)/\Fr [] w w') (λi _=>((ps.length:Int)-i).toNat) ⟨1,rfl,zM _,λj a b h=>oJ,.refl _ _⟩ ?_;rintro _ w1 ⟨n,rfl,hn,R,G⟩ X hX;apply cD<;>intro hc;have I:n<ps.length:=oJ;have e1:wrap .i64 ((n:Int)-1)=((n-1:Nat):Int):=(by rw[gG _ oJ];omega);have J:=hs.q8 G.drew;rw[e1];refine jK.get J (n-1) rfl oJ<|jK.get J n rfl I<|Cw (J.2 ps[n-1] (zW _)) (J.2 ps[n] (zW _)) (hB _ (yF (E (n-1) oJ))) (hB _ (yF (E n I))) ?_;apply eB<;>intro U;have U:=zC U;have:¬fY (gH ps):=λhr=>by
  have:=E3 hr (show n-1<n by omega) (E (n-1) oJ) (E n I);unfold fT at this;omega
 have u:=kk _ G.drew;rw[zU this] at u;exact u;have U:=zB U;rw[sA oJ];refine hX _ _ ⟨n+1,rfl,oJ,λj a b hj ha V=>?_,G.drew⟩ oJ;by_cases hjn:j+1<n;exact R j a b hjn ha V;obtain rfl:n=j+1:=by omega
 rw[E j oJ] at ha;rw[E (j+1) I] at V;cases ha;cases V;show cmpL _ _<0;simp only[Nat.add_sub_cancel] at U;omega;have aj:¬n<ps.length:=oJ;have:fY (gH ps):=qkF λj a b ha V=>R j a b (by
  have:=(zP.1 V).1;rw[zK] at this;omega) ha V
 have u:=kk w1 G;rw[zZ this] at u;exact u
def qx1:ud (k:Int) (v:Int)=(((eE k v).1:Int),((eE k v).2:Int)):=by unfold ud eE;by_cases h:k<1\/k>24\/v>108;rw[iP h,iP];rfl;rw[iN h,iN];rfl
def ET{w:IK}{K:IV->WP}(h:∀w',Fr [] w w'->K (((eE k v).1:Int),((eE k v).2:Int)) w'):cW 122 [.i k,.i v] dr w K:=
 qyZ λw' u=>by rw[qx1];exact h w' (.of_same u)
def qrb{K:Bool->WP}(hx:eT S w x n)(h1:n.J8.length<=1000000)(h2:n.Q2.length<=1000000)(h3:n.Q1.length<=1000000)(kk:∀w',Fr [] w w'->K (decide (fW n k v)) w'): cW 160 [.agg (fg x),.i k,.i v] dp w K:=by
 obtain⟨h0,al,⟨pk,ad,u⟩,⟨pv,af,U⟩,ab⟩:=hx;refine qqG<|oB (oE [] w) λr1 w1 e1 f1 h=>ET λw2 f2=>?_;have h:=h.q8 f2;have l1:pk.length=n.J8.length:=(by rw[<- u,zK]);have l2:pv.length=n.Q2.length:=(by rw[<- U,zK]);have n1:x.2.1.len=n.J8.length:=(by rw[ad.len,l1]);have n2:x.2.2.1.len=n.Q2.length:=(by rw[af.len,l2]);have n3:x.2.2.2.len=n.Q1.length:=ab.1;refine iC (λb w'=>b=decide (¬((∀a∈n.J8,a.length=k)/\(∀a∈n.Q2,a.length=v)/\fY n.J8))/\ef [] w w' [(r1,.cells (fg x) 174)]) ?_ ?_;refine IQ h 0 rfl x.2.1<|qr4 (m:=k) (ad.q8 h.fr) oJ λw3 f3=>?_;have h:=h.q8 f3;rw[u];refine eB (λG=>⟨?_,h⟩) λG=>?_;have:¬ ∀a∈n.J8,a.length=k:=zB (oP G);exact DM λJ=>this J.1;have q1:∀a∈n.J8,a.length=k:=zC (oP G);refine IQ h 0 rfl x.2.2.1<|qr4 (m:=v) (af.q8 h.fr) oJ λw4 f4=>?_;have h:=h.q8 f4;rw[U];refine eB (λG=>⟨?_,h⟩) λG=>?_;have:¬ ∀a∈n.Q2,a.length=v:=zB (oP G);exact DM λJ=>this J.2.1;have q2:∀a∈n.Q2,a.length=v:=zC (oP G);refine IQ h 0 rfl x.2.1<|qwZ (ad.q8 h.fr) (by rw[u];exact al.1) oJ λw5 f5=>?_;have h:=h.q8 f5;rw[u];refine⟨?_,h⟩;rw[It,zT,IE,yN];exact⟨λJ g=>J g.2.2,λJ g=>J ⟨q1,q2,g⟩⟩;rintro b w3 ⟨rfl,h⟩;have no:∀ {w'},¬fW n k v->Fr [] w w'->K false w':=λhn f=>by
  have:=kk _ f;rw[zU hn] at this;exact this
 refine eB (λG=>no (λE=>zC G ⟨E.1,E.2.1,E.2.2.1⟩) h.fr) λG=>?_;have hq:=Classical.not_not.1 (zB G);have rest:fW n k v↔(if n.Q6 then n.Q1=[]/\1<=n.J8.length/\n.J8.length<=(eE k v).1/\n.Q2.length=n.J8.length
   else (∀x∈n.Q1,2<=x)/\n.Q2=[]/\2<=n.Q1.length/\n.Q1.length<=(eE k v).2/\n.J8.length+1=n.Q1.length):=⟨λE=>E.2.2.2,λJ=>⟨hq.1,hq.2.1,hq.2.2,J⟩⟩
 refine IQ h 0 rfl x.1 ?_;apply eB<;>intro G;rw[h0] at G;rw[iP G] at rest;have ae:∀ {Q:Sl->Prop},Q x.2.1->ld .slice (dk r1 1) w3 Q:=λq=>IQ h 0 rfl x.2.1 q;refine IQ h 0 rfl x.2.2.2<|eB (λR=>?_) λR=>no (λE=>?_) h.fr;refine ae (eB (λV=>?_) λV=>no (λE=>?_) h.fr);refine ae (eB (λI=>?_) λI=>no (λE=>?_) h.fr);refine IQ h 0 rfl x.2.2.1 (ae ?_);have R:=yP.1 R;have V:=zC V;have I:=zC I;have e:((x.2.2.1.len:Int)==(x.2.1.len:Int))=decide (fW n k v):=by rw[It,yP,yN,rest];dsimp only at I;constructor;intro J;exact⟨Iy oJ,oJ,oJ,oJ⟩;intro J;omega
 rw[e];exact kk w3 h.fr;have:=(rest.1 E).2.2.1;have I:=zB I;dsimp only at I;omega;have:=(rest.1 E).2.1;have V:=zB V;omega;have:=(rest.1 E).1;have R:=zR.1 R;rw[this] at n3;exact R (by rw[n3];rfl);rw[h0] at G;rw[iN (by rw[G];decide)] at rest;have aa:∀ {w'} {Q:Sl->Prop},ef [] w w' [(r1,.cells (fg x) 174)]->Q x.2.2.2->ld .slice (dk r1 3) w' Q:=λh q=>IQ h 0 rfl x.2.2.2 q;refine aa h<|qq0 (p:=λy=>decide (y<2)) (ab.q8 h.fr) h3 (λw4 y K' f4 hy ap=>?_) λw4 f4=>?_;exact tT (lb:=[]) rfl oK<|qmP<|ap w4 f4;have h:=h.q8 f4;refine eB (λc0=>no (λE=>?_) h.fr) λc0=>?_;obtain⟨y,hy,ar⟩:=any_eq_true.1 c0
 have:=(rest.1 E).1 y hy;have:=zC ar;omega;have ah:∀y∈n.Q1,2<=y:=λy hy=>by
  have:=any_eq_false.1 c0 y hy;simp at this;exact this
 refine IQ h 0 rfl x.2.2.1<|eB (λR=>?_) λR=>no (λE=>?_) h.fr;refine aa h (eB (λV=>?_) λV=>no (λE=>?_) h.fr);refine aa h (eB (λI=>?_) λI=>no (λE=>?_) h.fr);refine IQ h 0 rfl x.2.1 (aa h ?_);have R:=yP.1 R;have V:=zC V;have I:=zC I;dsimp only at I;have ew:wrap .i64 ((x.2.2.2.len:Int)-1)=(x.2.2.2.len:Int)-1:=gG _ oJ;have e:((x.2.1.len:Int)==wrap .i64 ((x.2.2.2.len:Int)-1))=decide (fW n k v):=by rw[ew,It,yP,yN,rest];constructor;intro J;exact⟨ah,Iy oJ,oJ,oJ,oJ⟩;intro J;omega
 rw[e];exact kk _ h.fr;have:=(rest.1 E).2.2.2.1;have I:=zB I;dsimp only at I;omega;have:=(rest.1 E).2.2.1;have V:=zB V;omega;have:=(rest.1 E).2.1;have R:=zR.1 R;rw[this] at n2;exact R (by rw[n2];rfl)
end
end
section
def AI{src:Sl}{ys:IT}(h:gb w s l B)(R:eN S w src ys)(hl:l.length+ys.length<=1000000)(U:∀G B' w',gb w' G (l++ys) B'->Fr B w w'->(∀b∈B',b∈B\/w.heap.size<=b)->K G w'): Pt.run dl ((Builtin.append_ #[101,101] 101 #[s.v,src.v]).run prog w) K:=by obtain⟨i,V,hz,I,J⟩:=wQ;have E:=R.1;exact fj.j4 (e:=5) h lY oK V hz I rfl (uU (e':=5) R lY (λx u hu=>by rw[zE.1 hu];rfl) oK) E (by rw[J];omega) oJ λG B' w' b' f' n' _=>U G B' w' b' f' n'
def qAf(n:Int):be n 2=[wrap .u8 (Int.fdiv n (2^8)),wrap .u8 n]:=by show [gS n 1,gS n 0]=_;unfold gS;rw[show (min (8*1) 32:Nat)=8 from rfl,show (min (8*0) 32:Nat)=0 from rfl,Int.pow_zero,Int.fdiv_one]
def qA4(n:Int):be n 4=[wrap .u8 (Int.fdiv n (2^24)),wrap .u8 (Int.fdiv n (2^16)),wrap .u8 (Int.fdiv n (2^8)),wrap .u8 n]:=by show [gS n 3,gS n 2,gS n 1,gS n 0]=_;unfold gS;rw[show (min (8*3) 32:Nat)=24 from rfl,show (min (8*2) 32:Nat)=16 from rfl,show (min (8*1) 32:Nat)=8 from rfl,show (min (8*0) 32:Nat)=0 from rfl,Int.pow_zero,Int.fdiv_one]
def jK.get'(h:jK S w s ps)(n:Nat){i:Int}{K:Addr->Sl->Prop}(hi:i=n)(R:n<ps.length)(U:∀a,w.cell? a=some (.slice ps[n].1.a ps[n].1.len ps[n].1.cap)->(∀w',jK S w' s ps->w'.cell? a=some (.slice ps[n].1.a ps[n].1.len ps[n].1.cap))->K a ps[n].1):idx s i 1 λa=>ld .slice a w λx=>K a x:=by
 subst hi;have I:(iY ps)[n]?=some ps[n].1:=(by rw[zQ,zA R];rfl);obtain⟨hl,b,o,J,_,cs,T,fr,hb,hc⟩:=h.1.at n I;refine qM J ⟨oJ,oJ⟩ ?_;rw[zJ];have key:∀w',jK S w' s ps->w'.cell? ⟨b,o+n*1,none⟩=some (.slice ps[n].1.a ps[n].1.len ps[n].1.cap):=λw' V=>by
  obtain⟨_,b',o',u,_,aa,T',ab,E,G⟩:=V.1.at n I;rw[J] at u;cases u;rw[jC E]
  have:=IH (·[0]?) G;simpa[gO] using this
 exact oX ps[n].1 (key w h) (U _ (key w h) key)
def HO{b n:Nat}(u:w.heap[b]?=some (.c (l.map (Value.int .u8)).toArray T))(h:n=l.length):gb w ⟨pW b,n,n⟩ l [b]:=
 fj.one (e:=Value.int .u8) (λ_=>rfl) u h (zM _) (by simp[h]) (by rw[<- zK (f:=Value.int .u8),vA])
def qzI{b:Nat}{n:Int}(u:w.heap[b]?=some (.c #[.b (wrap .u8 (Int.fdiv n (2^24))),.b (wrap .u8 (Int.fdiv n (2^16))),.b (wrap .u8 (Int.fdiv n (2^8))),.b (wrap .u8 n)] T)):eN [] w ⟨pW b,4,4⟩ (be n 4):=by rw[qA4];exact fj.jQ lY (HO (n:=4) u rfl) λ_ _ h=>nomatch h
section
variable {S:IS} {w:IK} {s:Sl}
def qy5{n:Nat}(hn:n<=1000000)(V:∀u B w',gb w' u [] B->Fr [] w w'->(∀b∈B,w.heap.size<=b)->K u w'): cW 121 [.slice none 0 0,.i n] dl w K:=by obtain⟨G,hi,hz,I,J⟩:=wQ;refine qo9 (s:=dT) (n:=n) ?_;have e0:wrap .i64 (((0:Nat):Int)-((0:Nat):Int))=0:=gG _ oM;have e1:wrap .i64 ((n:Int)-0)=(n:Int):=(by rw[gG _ oJ];omega);refine iC (λ_ w'=>w=w') (Io (zU oJ) rfl) ?_;rintro _ _ rfl;refine iC (λu w'=>∃B,gb w' u [] B/\Fr [] w w'/\∀b∈B,w.heap.size<=b) ?_ λu w' ⟨B,b1,f1,n1⟩=>V u B w' b1 f1 n1;dsimp only;rw[e0,e1];refine eB (λU=>?_) λU=>⟨[],.nil _ _ _,.refl _ _,λ_ h=>nomatch h⟩;have E:0<n:=(by have:=zC U;omega);refine wW ⟨oJ,by dsimp only;omega⟩ ?_;rw[zJ];dsimp only;refine GT (e:=5) (i:=G) (kn:=.i64) (olds:=[]) oK oK hi hz I rfl rfl (λ_=>rfl) (λa ha=>nomatch ha) E oJ (by rw[J];omega) oJ λb cs c w2 e2 hb f2 h1 h2 h3=>wW ⟨oJ,by dsimp only;omega⟩ ?_;rw[zJ];exact⟨[b],fj.fresh (cap:=c) lY hb rfl (yX _) oJ rfl,f2,λb' R=>by rw[zE.1 R,e2];exact zM _⟩
def qkd{i:Nat}(hi:i<ps.length):((gH ps).take (i+1)).flatten=((gH ps).take i).flatten++ps[i].2:=by rw[take_add_one,zQ,zA hi,flatten_append];simp
def Fz(i:Nat):((gH ps).take i).flatten.length<=(gH ps).flatten.length:=by have:(gH ps).flatten=((gH ps).take i).flatten++((gH ps).drop i).flatten:=(by rw[<- flatten_append,xF]);rw[this,zF];omega
def qpl(U:jK S w s ps)(hl:ps.length<=1000000)(ht:(gH ps).flatten.length<=1000000)(kk:∀s' B w',gb w' s' (gH ps).flatten B->Fr [] w w'->(∀b∈B,w.heap.size<=b)->K s' w'): cW 88 [s.v] dl w K:=by
 refine qm3 ?_;have ah:=U.len;refine jv (λt w'=>∃i:Nat,t=((((gH ps).take i).flatten.length:Int),(i:Int))/\i<=ps.length/\w'=w) (λt _=>((ps.length:Int)-t.2).toNat) ⟨0,rfl,yX _,rfl⟩ ?_;rintro t w' ⟨i,rfl,hi,rfl⟩ X hX;dsimp only;apply cD<;>intro G;have u:i<ps.length:=oJ;have I:=Fz (ps:=ps) (i+1);have E:=qkd u;have ad:=(U.2 ps[i] (zW u)).1;have e:wrap .i64 ((((gH ps).take i).flatten.length:Int)+(ps[i].1.len:Int))=(((gH ps).take (i+1)).flatten.length:Int):=by rw[E,zF] at I⊢;rw[gG _ oJ,ad];rfl
 refine iC (λx w2=>x=(((gH ps).take (i+1)).flatten.length:Int)/\w2=w') ?_ ?_;refine jK.get U i rfl u ?_;rw[e];exact Io (zU oJ) ⟨rfl,rfl⟩;rintro x w2 ⟨rfl,rfl⟩;rw[sA oJ];exact hX _ _ ⟨i+1,rfl,u,rfl⟩ oN;have J:i=ps.length:=oJ;refine qy5 (zL (Fz (ps:=ps) i) ht) λs1 B1 w1 b1 f1 n1=>jv (λt w2=>∃(j:Nat) (V:Sl) (B2:IS),t=(V,(j:Int))/\j<=ps.length/\gb w2 V ((gH ps).take j).flatten B2/\Fr [] w' w2/\∀b∈B2,w'.heap.size<=b) (λt _=>((ps.length:Int)-t.2).toNat) ⟨0,s1,B1,rfl,yX _,b1,f1,n1⟩ ?_;rintro t w2 ⟨j,V,B2,rfl,hj,b2,f2,n2⟩ X hX;dsimp only;apply cD<;>intro G;have u:j<ps.length:=oJ;have I:=Fz (ps:=ps) (j+1);have E:=qkd u;have R:=U.q8 f2;refine jK.get R j rfl u<|AI b2 (R.2 ps[j] (zW u)) (by rw[E,zF] at I;omega) λs3 B3 w3 b3 f3 n3=>?_;rw[sA oJ];refine hX _ _ ⟨j+1,s3,B3,rfl,u,by rw[E];exact b3,f2.J0 f3 λi hi=>.inr (n2 i hi),λb hb=>?_⟩ oN;rcases n3 b hb with h|h;exact n2 b h;exact zL f2.size h;have J:j=ps.length:=oJ;rw[J,zS (by rw[zK];exact zM _)] at b2;exact kk V B2 w2 b2 f2 n2
def qxS{K:I4->WP}(hx:eT S w x n)(h1:n.J8.length<=1000000)(h2:n.Q2.length<=1000000)(h3:n.Q1.length<=1000000)(kk:∀s w',(∀G:IS,(∀b∈G,b<w.heap.size)->eN G w' s (fi n k v).2.1)->Fr [] w w'->K ((fi n k v).1,s,(fi n k v).2.2) w'): cW 162 [.agg (fg x),.i k,.i v] dt w K:=by
 have aZ:=hx;obtain⟨h0,bi,⟨pk,ar,I⟩,⟨pv,au,ab⟩,ao⟩:=hx;refine qqH<|oB (oE [] w) λU w1 e1 f1 h=>IR h 0 rfl x<|qrb (x:=x) (aZ.q8 f1) h1 h2 h3 λw2 f2=>?_;have h:=h.q8 f2;apply eB<;>intro E;have hn:¬fW n k v:=zB (oP E)
 have:=kk dT w2 (λG _=>by unfold fi;rw[iN hn];exact .nil _ _ _ _) h.fr;unfold fi at this;rw[iN hn] at this;exact this;have hR:fW n k v:=zC (oP E);have hW:fi n k v=(i9 n,gJ n,0):=(by unfold fi;rw[iP hR]);rw[hW] at kk;have aH:=(C3 hR).2;have l1:pk.length=n.J8.length:=(by rw[<- I,zK]);have l2:pv.length=n.Q2.length:=(by rw[<- ab,zK]);have n1:x.2.1.len=n.J8.length:=(by rw[ar.len,l1]);have n3:x.2.2.2.len=n.Q1.length:=ao.1;have aI:∀ {s' B w'},gb w' s' (gJ n) B->(∀b∈B,w.heap.size<=b)->Fr [] w w'->K (i9 n,s',0) w':=λb hB f=>kk _ _ (λG hG=>b.jQ lY λc E hm=>by have:=hB c E;have:=hG c hm;omega) f;refine IQ h 0 rfl x.1 ?_;apply eB<;>intro E;rw[h0] at E;have u:gJ n=be n.J8.length 2++(n.J8.zip n.Q2).flatMap (λx=>x.1++x.2):=(by unfold gJ;rw[iP E];rfl);have R:i9 n=3:=(by unfold i9;rw[iP E]);have aJ:=hR.2.2.2;rw[iP E] at aJ;have aK:(n.J8.zip n.Q2).length=n.J8.length:=(by rw[length_zip,aJ.2.2.2,Nat.min_self]);refine IQ h 0 rfl x.2.1<|IQ h 0 rfl x.2.1<|oB h λr9 w3 e3 f3 h=>IQ h 1 rfl x.2.1 ?_;have h9:=h.at (i:=0) rfl;have aw:=h.sub (L':=[(U,.cells (fg x) 174)]) (IC _ _);have ax:U≠r9:=λe=>by have:=h.nodup;simp[e] at this
 have ac:w.heap.size<=r9:=(h.own (r9,_) (Is ..)).elim (λh=>nomatch h) id;refine jv (λt w'=>∃(i:Nat) (s2:Sl) (B2:IS),t=(s2,(i:Int))/\i<=n.J8.length/\gb w' s2 (be n.J8.length 2++((n.J8.zip n.Q2).take i).flatMap λx=>x.1++x.2) B2/\ef [] w w' [(U,.cells (fg x) 174)]/\U∉B2/\∀b∈B2,w.heap.size<=b) (λt _=>((n.J8.length:Int)-t.2).toNat)
  ⟨0,_,[r9],rfl,yX _,?_,aw,by simpa using ax,λb hb=>by rw[zE.1 hb];exact ac⟩ ?_
 rw[qAf,take_zero,flatMap_nil,xI];refine HO (T:=5) ?_ rfl;rw[n1] at h9;exact h9;rintro t w4 ⟨i,s2,B2,rfl,hi,b2,ho,af,J⟩ X hX;dsimp only;apply eB<;>intro E;have al:i<n.J8.length:=(by have:=zC E;omega);have bx:i<n.Q2.length:=oJ;have aM:=ar.q8 ho.fr;refine jK.get aM i rfl oJ ?_;have ag:=ho.drew;refine IQ ag 0 rfl x.2.2.1 ?_;have a2:=au.q8 ag.fr;have ah:i<pv.length:=oJ;have ap:i<pk.length:=oJ;refine jK.get' a2 i rfl ah λa ha hh=>?_;have am:n.J8[i]?=some pk[i].2:=(by rw[<- I,zQ,zA ap];rfl);have a3:n.Q2[i]?=some pv[i].2:=(by rw[<- ab,zQ,zA ah];rfl);have hz:(n.J8.zip n.Q2)[i]?=some (pk[i].2,pv[i].2):=List.getElem?_zip_eq_some.2 ⟨am,a3⟩;have V:((n.J8.zip n.Q2).take (i+1)).flatMap (λx=>x.1++x.2)=((n.J8.zip n.Q2).take i).flatMap (λx=>x.1++x.2)++(pk[i].2++pv[i].2):=by rw[take_add_one,hz,yQ];simp
 have an:(be n.J8.length 2++((n.J8.zip n.Q2).take (i+1)).flatMap λx=>x.1++x.2).length<=500:=(by refine zL ?_ aH;rw[u,zF,zF];have e:(n.J8.zip n.Q2).flatMap (λx=>x.1++x.2)=((n.J8.zip n.Q2).take (i+1)).flatMap (λx=>x.1++x.2)++((n.J8.zip n.Q2).drop (i+1)).flatMap (λx=>x.1++x.2):=(by rw[<- yQ,xF]);rw[e,zF];omega);rw[V,zF,zF,zF] at an;have bB:=ho.drew;refine AI (w:=w4.drew) (b2.q8 (Fr.refl [] w4).drew) ((aM.2 pk[i] (zW ap)).q8 (Fr.refl [] w4).drew) (by rw[zF];omega) λs3 B3 w5 b3 f5 n5=>?_;have aa:=ag.j1 f5 (λi hi=>.inr (J i hi)) (λp hp=>by rw[zE.1 hp];exact af);have aO:∀b∈B3,w.heap.size<=b:=λb hb=>by rcases n5 b hb with h|h;exact J b h;exact zL ag.fr.size h
 refine kV (hh w5 (au.q8 aa.fr)) (aa.cell 0) ?_;have aP:U∉B3:=λhm=>by
  rcases n5 U hm with h|h;exact af h;have:=eO (ag.at (i:=0) rfl);dsimp only at this;omega
 refine AI b3 ((au.q8 aa.fr).2 pv[i] (zW ah)) (by rw[zF,zF];omega) λs6 B6 w6 b6 f6 n6=>?_;have aC:=aa.j1 f6 (λi hi=>.inr (aO i hi)) (λp hp=>by rw[zE.1 hp];exact aP);rw[sA oJ];refine hX _ _ ⟨i+1,s6,B6,rfl,al,by rw[V,<- zV,<- zV];exact b6,aC,λhm=>?_,λb hb=>?_⟩ oN;rcases n6 U hm with h|h;exact aP h;have:=eO (aa.at (i:=0) rfl);dsimp only at this;omega;rcases n6 b hb with h|h;exact aO b h;exact zL aa.fr.size h;have aD:i=n.J8.length:=(by have:=zB E;omega);rw[aD,<- aK,vA,aK,<- u] at b2;have:=aI b2 J ho.fr;rw[R] at this;exact this;rw[h0] at E;have aR:¬n.Q6=true:=(by rw[E];decide);have u:gJ n=be n.Q1.length 2++n.Q1.flatMap (λx=>be x 4)++n.J8.flatten:=(by unfold gJ;rw[iN aR]);have R:i9 n=4:=(by unfold i9;rw[iN aR]);refine IQ h 0 rfl x.2.2.2<|IQ h 0 rfl x.2.2.2<|oB h λr9 w3 e3 f3 h=>IQ h 1 rfl x.2.2.2 ?_;have h9:=h.at (i:=0) rfl;have aw:=h.sub (L':=[(U,.cells (fg x) 174)]) (IC _ _);have ax:U≠r9:=λe=>by have:=h.nodup;simp[e] at this
 have ac:w.heap.size<=r9:=(h.own (r9,_) (Is ..)).elim (λh=>nomatch h) id;have a5:(be n.Q1.length 2++n.Q1.flatMap λx=>be x 4).length+n.J8.flatten.length<=500:=(by rw[<- zF,<- u];exact aH);refine jv (λt w'=>∃(i:Nat) (s2:Sl) (B2:IS),t=(s2,(i:Int))/\i<=n.Q1.length/\gb w' s2 (be n.Q1.length 2++(n.Q1.take i).flatMap λx=>be x 4) B2/\ef [] w w' [(U,.cells (fg x) 174)]/\U∉B2/\∀b∈B2,w.heap.size<=b) (λt _=>((n.Q1.length:Int)-t.2).toNat)
  ⟨0,_,[r9],rfl,yX _,?_,aw,by simpa using ax,λb hb=>by rw[zE.1 hb];exact ac⟩ ?_
 rw[qAf,take_zero,flatMap_nil,xI];refine HO (T:=5) ?_ rfl;rw[n3] at h9;exact h9;rintro t w4 ⟨i,s2,B2,rfl,hi,b2,ho,af,J⟩ X hX;dsimp only;apply cD<;>intro E;have al:i<n.Q1.length:=oJ;have am:n.Q1[i]?=some n.Q1[i]:=zA al;refine eI.get (ao.q8 ho.fr) i rfl am (y:=n.Q1[i]) rfl<|oB ho λr6 w5 e5 f5 h5=>?_;have a6:=h5.at (i:=0) rfl;have V:(n.Q1.take (i+1)).flatMap (λx=>be x 4)=(n.Q1.take i).flatMap (λx=>be x 4)++be n.Q1[i] 4:=by rw[take_add_one,am,yQ];simp
 have an:(be n.Q1.length 2++(n.Q1.take (i+1)).flatMap λx=>be x 4).length<=500:=(by have e:n.Q1.flatMap (λx=>be x 4)=(n.Q1.take (i+1)).flatMap (λx=>be x 4)++(n.Q1.drop (i+1)).flatMap (λx=>be x 4):=(by rw[<- yQ,xF]);rw[e,zF,zF] at a5;rw[zF];omega);rw[V,zF,zF] at an;have aq:eN [] w5 ⟨pW r6,4,4⟩ (be n.Q1[i] 4):=qzI (T:=5) a6;have aE:=kR n.Q1[i] 4;generalize be n.Q1[i] 4=aT at V an aq aE;refine AI (src:=⟨pW r6,4,4⟩) (ys:=aT) (b2.q8 f5) aq (by rw[zF];omega) λs6 B6 w6 b6 f6 n6=>?_;have aF:=h5.sub (L':=[(U,.cells (fg x) 174)]) (IC _ _);have aC:=aF.j1 f6 (λi hi=>.inr (J i hi)) (λp hp=>by rw[zE.1 hp];exact af);rw[sA oJ];refine hX _ _ ⟨i+1,s6,B6,rfl,al,by rw[V,<- zV];exact b6,aC,λhm=>?_,λb hb=>?_⟩ oN;rcases n6 U hm with h|h;exact af h;have:=eO (aF.at (i:=0) rfl);dsimp only at this;omega;rcases n6 b hb with h|h;exact J b h;exact zL aF.fr.size h;have aD:i=n.Q1.length:=oJ;rw[aD,vA] at b2;refine IQ ho 0 rfl x.2.1<|qpl (ar.q8 ho.fr) oJ (by rw[I];omega) λs5 B5 w5 b5 f5 n5=>?_;rw[I] at b5;refine AI (b2.q8 f5) (b5.jQ lY (S:=[]) λ_ _ h=>nomatch h) oJ λs6 B6 w6 b6 f6 n6=>?_;rw[<- u] at b6
 have:=aI b6 (λb hb=>by rcases n6 b hb with h|h;exact J b h;exact zL (zL ho.fr.size f5.size) h) ((ho.fr.trans f5).J0 f6 λi hi=>.inr (J i hi));rw[R] at this;exact this
end
end
abbrev ND:IM:=174
def Ez{k v:Nat}:∀(c:Nat) (b:IT),(jn k v c b).1.length=c/\(jn k v c b).2.length=c
 | 0,_=>⟨rfl,rfl⟩
 | c+1,b=>by
  have:=Ez (k:=k) (v:=v) c (b.drop (k+v));exact⟨by rw[jn,yI,this.1],by rw[jn,yI,this.2]⟩
def qnM{k v:Nat}:∀(c:Nat) (b:IT),jn k v (c+1) b=((jn k v c b).1++[(b.drop (c*(k+v))).take k],(jn k v c b).2++[((b.drop (c*(k+v))).drop k).take v])
 | 0,b=>by simp[jn]
 | c+1,b=>by have ih:=qnM (k:=k) (v:=v) c (b.drop (k+v));have e:(k+v)+c*(k+v)=(c+1)*(k+v):=(by rw[xV];omega);rw[jn,ih];simp only[xE,e];rfl
def qnL:∀(c:Nat) (b:IT),cL (c+1) b=cL c b++[iI ((b.drop (c*4)).take 4)]
 | 0,b=>by simp[cL]
 | c+1,b=>by have ih:=qnL c (b.drop 4);have e:4+c*4=(c+1)*4:=oJ;rw[cL,ih,xE,e];rfl
def qnJ{k:Nat}:∀(c:Nat) (b:IT),lC k (c+1) b=lC k c b++[(b.drop (c*k)).take k]
 | 0,b=>by simp[lC]
 | c+1,b=>by have ih:=qnJ (k:=k) c (b.drop k);have e:k+c*k=(c+1)*k:=(by rw[xV];omega);rw[lC,ih,xE,e];rfl
def Fx:∀(c:Nat) (b:IT),(cL c b).length=c
 | 0,_=>rfl
 | c+1,b=>by rw[cL,yI,Fx c]
def Gc{k:Nat}:∀(c:Nat) (b:IT),(lC k c b).length=c
 | 0,_=>rfl
 | c+1,b=>by rw[lC,yI,Gc c]
def qs{x:Sl}{l:List Sl}{vb:Nat}{T':IM}(h:fj gO 1 w s l B)(hl:l.length<=100000)(V:w.heap[vb]?=some (.c #[gy x] T'))(kk:∀E B' w',fj gO 1 w' E (l++[x]) B'->Fr B w w'->(∀b∈B',b∈B\/w.heap.size<=b)->K E w'): Pt.run dl ((Builtin.append_ #[171,171] 171 #[s.v,.slice (pW vb) 1 1]).run prog w) K:=by obtain⟨ab,G,hz,I,J⟩:=Dv;refine fj.j4 (ys:=[x]) (e:=101) h wX oK G hz I rfl (.ofSlice w (e':=101) oK _ 1 1 _ rfl (λj u R=>?_) λu U=>?_) rfl (by rw[J];omega) oJ λE B' w' b' f' n' _=>kk E B' w' b' f' n';rw[Addr.j3,jC V,xT];rw[yH,flatMap_nil,xI] at R;simpa[gO] using R;rw[yH,flatMap_nil,xI] at U;rw[zE.1 U];rfl
def qtE{x:Int}{vb:Nat}{T':IM}(h:fj iZ 1 w s l B)(hl:l.length<=100000)(V:w.heap[vb]?=some (.c #[.u x] T'))(kk:∀E B' w',fj iZ 1 w' E (l++[x]) B'->Fr B w w'->(∀b∈B',b∈B\/w.heap.size<=b)->K E w'): Pt.run dl ((Builtin.append_ #[172,172] 172 #[s.v,.slice (pW vb) 1 1]).run prog w) K:=by obtain⟨ab,G,hz,I,J⟩:=wV;refine fj.j4 (ys:=[x]) (e:=63) h rM oK G hz I rfl (.ofSlice w (e':=63) oK _ 1 1 _ rfl (λj u R=>?_) λu U=>?_) rfl (by rw[J];omega) oJ λE B' w' b' f' n' _=>kk E B' w' b' f' n';rw[Addr.j3,jC V,xT];rw[yH,flatMap_nil,xI] at R;simpa[iZ] using R;rw[yH,flatMap_nil,xI] at U;rw[zE.1 U];rfl
abbrev sQ (h:Nat):IL:=.func (.func 232) #[] #[dS h]
def qsF{u i m:Nat}(h:ef [] w0 w L)(hi:L[i]?=some (u,.c #[gy s] T))(G:eN [] w0 s b)(E:m<=b.length)(hl:b.length<=1000000)(kk:∀R B' U w',ef [] w0 w' (L.set i (u,.c #[gy U] T))->gb w' R (b.take m) B'->(∀c∈B',w.heap.size<=c)->eN [] w0 U (b.drop m)->Fr [u] w w'->K R w'): eJ prog (sQ u) [.i m] dl w K:=by
 refine tT (lb:=[dS u]) rfl oK<|qmQ<|oA h i hi s rfl<|eI.part (S:=[]) G (lo:=none) (hi:=some (m:Int)) 0 m rfl rfl (yX _) E λs1 _ V _=>?_;rw[xG] at V;refine Aa (V.q8 h.fr) (by rw[yL];omega) λs2 B2 w2 b2 f2 n2 _ _=>?_;have h2:=h.q8 f2;refine oA h2 i hi s rfl<|eI.part (S:=[]) G (lo:=some (m:Int)) (hi:=none) m b.length rfl (by rw[xX,G.1]) E (zM _) λs3 _ h3 _=>?_;rw[vA] at h3;have I:=eO (h.at hi);refine oG h2 i hi #[gy s3] rfl rfl (zM _) λw3 J f3=>kk s2 B2 s3 w3 J (b2.j1 f3 λc hc E=>?_) n2 h3 ((f2.mono λ_ h _=>nomatch h).trans f3)
 have:=n2 c hc;rw[zE.1 E] at this;dsimp only at I;omega
def vN (x:kQ) (o:Nat):Sl:=if o=1 then x.2.1 else x.2.2.1
def ze (x:kQ) (o:Nat) (s:Sl):kQ:=if o=1 then (x.1,s,x.2.2) else (x.1,x.2.1,s,x.2.2.2)
def HJ{o:Nat}(h:o=1\/o=2):(fg x)[o]?=some (gy (vN x o)):=by rcases h with rfl|rfl<;>rfl
def qzL{o:Nat}(h:o=1\/o=2):en (fg x) o [gy s]=fg (ze x o s):=by rcases h with rfl|rfl<;>rfl
def Hw{I J m o:Nat}{s':Sl}{l:List Sl}{Bk:IS}{K:WP}(ho:o=1\/o=2)(h:ef [] w0 w ((I,.c (fg x) ND)::(J,.c #[gy s'] T)::L))(hr:eN [] w0 s' b)(E:m<=b.length)(aJ:b.length<=1000000)(af:fj gO 1 w (vN x o) l Bk)(ac:∀c∈Bk,w0.heap.size<=c/\c∉I::J::L.map (·.1))(hl:l.length<=100000)(kk:∀sn sN U Bk' w',ef [] w0 w' ((I,.c (fg (ze x o U)) ND)::(J,.c #[gy sN] T)::L)->eN [] w0 sN (b.drop m)->fj gO 1 w' U (l++[sn]) Bk'-> (∀c∈Bk',c∈Bk\/w.heap.size<=c)->(∀c∈Bk',c∉I::J::L.map (·.1))->Fr (I::J::Bk) w w'->(∀G:IS,(∀c∈G,c<w.heap.size\/c∈Bk')->eN G w' sn (b.take m))->K w'): (ld Cell.slice (dk I o) w.drew<|λ(u:Sl)=> eJ prog (sQ J) ([Value.int IntKind.i64 m]) (dl) w.drew<|λ(V:Sl) (ag:IK)=> held [λ(av:Go.World)=>World.cell? av (dk I o)=some (Value.slice u.a u.len u.cap)] ag<| new (.cells #[Value.slice V.a V.len V.cap] 101) ag<|λ(aw:Nat) (ah:IK)=> held [λ(ax:Go.World)=>World.cell? ax (dk I o)=some (Value.slice u.a u.len u.cap)] ah<| run dl ((Builtin.append_ (#[171,171]) 171 (#[Value.slice u.a u.len u.cap,Value.slice (pW aw) 1 1])).run prog ah)<|λ(aa:Sl) (ay:IK)=> st (dk I o) ([Value.slice aa.a aa.len aa.cap]) ay K):=by
 have hd:=h.drew;refine oA hd 0 rfl (vN x o) (HJ ho)<|qsF hd (i:=1) rfl hr E aJ λaK aL sN ak ad aM aN hN al=>?_;have ad:ef [] w0 ak ((I,.c (fg x) ND)::(J,.c #[gy sN] T)::L):=ad;refine iS (ad.cell 0 rfl (HJ ho))<|oB ad λa0 a1 a2 am an=>iS (an.cell 1 rfl (HJ ho)) ?_;have ao:fj gO 1 w.drew (vN x o) l Bk:=af;have az:=ao.j1 al λc R E=>(ac c R).2 (by rw[zE.1 E];simp);have aA:=az.q8 am;refine qs aA hl (an.at (i:=0) rfl) λU Bk' a3 aO ap aB=>?_;have aC:=an.sub (L':=(I,.c (fg x) ND)::(J,.c #[gy sN] T)::L) (IC _ _);have a4:w.heap.size<=ak.heap.size:=al.size;have a5:=am.size;have a6:=ap.size;have ab:∀c∈I::J::L.map (·.1),c<w.heap.size:=λc R=>by obtain⟨p,hp,rfl⟩:=mem_map.1 (show c∈((I,Obj.cells (fg x) ND (0,0))::(J,.c #[gy s'] T)::L).map (·.1) from R);exact eO (h.eY p hp)
 have aq:∀p∈((I,Obj.cells (fg x) ND (0,0))::(J,.c #[gy sN] T)::L),p.1∉Bk:=λp hp E=>(ac p.1 E).2 (zY (f:=(·.1)) hp);have aQ:=aC.j1 ap (λi hi=>.inr (ac i hi).1) aq;have ai:∀c∈Bk',c∈Bk\/w.heap.size<=c:=λc R=>(aB c R).elim .inl λh=>.inr oJ;have aD:∀c∈Bk',c∉I::J::L.map (·.1):=λc R E=>by
  rcases ai c R with h|h;exact (ac c h).2 E;have:=ab c E;omega
 refine oG aQ 0 rfl (fg (ze x o U)) (qzL ho) rfl (by rcases ho with rfl|rfl<;>exact zO rfl) λar aR aE=>?_;have h5:∀c∈Bk',c∉[I]:=λc R E=>aD c R (by rw[zE.1 E];simp);have aF:Fr (I::J::Bk) ak ar:=((am.mono λ_ h _=>nomatch h).trans (ap.mono λi hi _=>by simp[hi])).trans (aE.mono λi hi _=>by simp[zE.1 hi]);have aT:Fr (I::J::Bk) w ar:=((Fr.refl _ w).drew.trans (al.mono λi hi _=>by simp[zE.1 hi])).trans aF;refine kk aK sN U Bk' ar aR hN (aO.j1 aE h5) ai aD aT λG hG=>?_;have aG:∀c∈aL,c∉I::J::Bk++G.filter λc=>decide (c<w.heap.size):=λc R E=>by
  have h1:w.heap.size<=c:=aN c R;rcases zD.1 E with E|E;rcases zG.1 E with rfl|E;have:=ab c oL;omega;rcases zG.1 E with rfl|E;have:=ab c oL;omega;have:=af.lt c E;omega;have:=(mem_filter.1 E).2;simp at this;omega
 refine (aM.jQ lY aG).j1 (aF.mono λi hi _=>zH _ hi) λc R=>?_;rcases hG c R with h1|h1;exact .inl (zI _ (mem_filter.2 ⟨R,by simpa using h1⟩));rcases aB c h1 with h2|h2;exact .inl (zH _ (by simp[h2]));exact .inr oJ
section
def DH{L':IW}(h:ef S w0 w L)(p:L.Perm L'):ef S w0 w L':=⟨λx u=>h.eY x (p.mem_iff.2 u),(p.map _).nodup_iff.1 h.nodup,h.fr,λx u=>h.own x (p.mem_iff.2 u)⟩
def A3{α:Type}{enc:α->List IL}{l:List α}(h:fj enc k w s l B):B.Nodup:=by rcases h with ⟨_,_,rfl⟩|⟨b,_,_,_,rfl,_⟩<;>simp
def uL (w:IK) (ps:qh) (T:IS):Prop:=∀p∈ps,eN T w p.1 p.2
def uL.j1{w w':IK}{ps:qh}{T T' S:IS}(h:uL w ps T)(f:Fr S w w')(u:∀b∈S,b∈T)(E:∀b∈T',b∈T\/w.heap.size<=b):uL w' ps T':=λp G=>(h p G).j1 (f.mono λi I _=>u i I) E
def uL.snoc{T:IS}{a:Key}(h:uL w ps T)(g:eN T w s a):uL w (ps++[(s,a)]) T:=λp u=>by rcases zD.1 u with u|u;exact h p u;rw[zE.1 u];exact g
def qua{G:IS}{pk pv:qh}{Bk h u T:IS}(h0:x.1=n.Q6)(hN:NB n)(U:fj gO 1 w x.2.1 (iY pk) Bk)(e1:gH pk=n.J8)(V:fj gO 1 w x.2.2.1 (iY pv) h)(e2:gH pv=n.Q2)(h3:fj iZ 1 w x.2.2.2 n.Q1 u)(d1:∀c∈Bk,c∉h/\c∉u)(d2:∀c∈h,c∉u)(g1:uL w pk T)(g2:uL w pv T)(hT:∀c∈G++(Bk++(h++u)),c∈T):fE (G++(Bk++(h++u))) w x n (Bk++(h++u)):=by refine⟨h0,hN,Bk,h,u,rfl,?_,⟨pk,U,e1,λp J=>(g1 p J).j8 λc R=>.inl (hT c R)⟩,⟨pv,V,e2,λp J=>(g2 p J).j8 λc R=>.inl (hT c R)⟩,h3⟩;refine yM.2 ⟨A3 U,yM.2 ⟨A3 V,A3 h3,λa I b E e=>d2 a I (e▸E)⟩,λa I b E e=>?_⟩;rcases zD.1 E with E|E;exact (d1 a I).1 (e▸E);exact (d1 a I).2 (e▸E)
section
variable {w:IK} {s:Sl} {b:IT}
def qzD{count:Nat}{K:kQ×Bool->WP}(hb:eN [] w s b)(hB:eX b)(hl:b.length<=1000)(hc:count<=100000)(hk:1<=k/\k<=1000)(hv:v<=1000)(kk:∀x B n w',(b.length=count*(k+v)->n=⟨true,(jn k v count b).1,(jn k v count b).2,[]⟩)->fE (List.range w.heap.size++B) w' x n B->Fr [] w w'->(∀c∈B,w.heap.size<=c)->K (x,decide (b.length=count*(k+v))) w'): cW 158 [s.v,.i count,.i k,.i v] [.agg eG,.one .bool] w K:=by
 refine qr8<|oB (oE [] w) λE w1 e1 f1 h=>?_;have a5:count*(k+v)<=100000*2000:=Nat.mul_le_mul hc oJ;have ew:wrap .i64 ((count:Int)*wrap .i64 ((k:Int)+(v:Int)))=((count*(k+v):Nat):Int):=by have e1:wrap .i64 ((k:Int)+(v:Int))=((k+v:Nat):Int):=(by rw[gG _ oJ];rfl);rw[e1,<- Int.natCast_mul,gG _ oJ]
 rw[ew];have ar:=hb.1;apply eB<;>intro ae;have au:b.length≠count*(k+v):=λe=>by rw[ar,e] at ae;simp at ae
 refine oD h 0 rfl (fg fS) λw2 h f2=>IR h 0 rfl fS ?_;have:=kk fS [] iV w2 (λe=>absurd e au) (.zero _ _) h.fr (λ_ h=>nomatch h);rw[zU au] at this;exact this;have aM:b.length=count*(k+v):=by
  have:((s.len:Int)==((count*(k+v):Nat):Int))=true:=by simpa using ae
  have:=yP.1 this;omega
 have ba:count<=1000:=(by have:count*1<=count*(k+v):=Nat.mul_le_mul_left _ oJ;omega);refine oB h λG w2 e2 f2 h=>oD h 0 rfl (fg (true,dT,dT,dT)) λw3 h f3=>qjn<|oB h λI w4 e4 f4 h=>?_;have h:=DH h (List.Perm.swap _ _ _);have bb:=h.nodup;have bc:=λp hp=>(h.own p hp).elim (λh=>(nomatch h:False).elim) (id:w.heap.size<=p.1->_);refine jv (λi w'=>∃(c:Nat) (sk sv sn:Sl) (pk pv:qh) (Bk J:IS),i=(c:Int)/\c<=count/\ef [] w w' [(G,.c (fg (true,sk,sv,dT)) ND),(I,.c #[gy sn] 101),(E,.c (fg fS) ND)]/\
   eN [] w sn (b.drop (c*(k+v)))/\fj gO 1 w' sk (iY pk) Bk/\gH pk=(jn k v c b).1/\fj gO 1 w' sv (iY pv) J/\gH pv=(jn k v c b).2/\(∀c∈Bk,w.heap.size<=c/\c∉[G,I,E])/\(∀c∈J,w.heap.size<=c/\c∉[G,I,E])/\(∀c∈Bk,c∉J)/\
   uL w' pk (List.range w.heap.size++G::I::E::(Bk++J))/\uL w' pv (List.range w.heap.size++G::I::E::(Bk++J))) (λi _=>((count:Int)-i).toNat)
  ⟨0,dT,dT,s,[],[],[],[],rfl,yX _,h,by rw[Nat.zero_mul,xG];exact hb,.nil _ _ _,rfl,.nil _ _ _,rfl,λ_ h=>(nomatch h),λ_ h=>(nomatch h),λ_ h=>(nomatch h),λ_ h=>(nomatch h),λ_ h=>(nomatch h)⟩ ?_
 rintro _ w' ⟨c,sk,sv,sn,pk,pv,Bk,J,rfl,bf,h,aN,av,ek,af,ev,nk,nv,al,gk,gv⟩ X hX;have lk:pk.length=c:=(by rw[<- zK (f:=(·.2)),show pk.map (·.2)=gH pk from rfl,ek,(Ez c b).1]);have lv:pv.length=c:=(by rw[<- zK (f:=(·.2)),show pv.map (·.2)=gH pv from rfl,ev,(Ez c b).2]);have U:∀z∈[G,I,E],z<w'.heap.size:=λz u=>by simp only[zG,xY,or_false] at u;rcases u with rfl|rfl|rfl;exact eO (h.at (i:=0) rfl);exact eO (h.at (i:=1) rfl);exact eO (h.at (i:=2) rfl)
 apply cD<;>intro am;have aw:c<count:=oJ;have an:(c+1)*(k+v)<=count*(k+v):=IB _ aw;rw[xV,Nat.one_mul] at an;have bh:(b.drop (c*(k+v))).length=b.length-c*(k+v):=yB;refine Hw (o:=1) (m:=k) (.inl rfl) h aN oJ oJ (x:=(true,sk,sv,dT)) av (λz u=>nk z u) oO λaa sN ab Bk' w5 h5 aQ b5 n5 m5 f5 g5=>?_;have h5:ef [] w w5 [(G,.c (fg (true,ab,sv,dT)) ND),(I,.c #[gy sN] 101),(E,.c (fg fS) ND)]:=h5;have ax:=af.j1 f5 λz u R=>by simp only[zG] at R;rcases R with rfl|rfl|R;exact (nv _ u).2 oL;exact (nv _ u).2 oL;exact al z R u
 have ay:∀z∈List.range w.heap.size++G::I::E::(Bk'++J),z∈List.range w.heap.size++G::I::E::(Bk++J)\/w'.heap.size<=z:=λz u=>by simp only[zD,zG] at u⊢;rcases u with u|rfl|rfl|rfl|u|u;exact .inl (.inl u);simp;simp;simp;rcases n5 z u with h|h;simp[h];exact .inr h;simp[u]
 have az:∀z∈G::I::Bk,z∈List.range w.heap.size++G::I::E::(Bk++J):=λz u=>by simp only[zD,zG] at u⊢;rcases u with rfl|rfl|u<;>simp[*]
 have aU:=(gk.j1 f5 az ay).snoc (s:=aa) (a:=(b.drop (c*(k+v))).take k) (g5 _ λz u=>by
  simp only[zD,zG,mem_range] at u;have:=h.fr.size;rcases u with u|rfl|rfl|rfl|u|u;exact .inl oJ;exact .inl (U _ oL);exact .inl (U _ oL);exact .inl (U _ oL);exact .inr u;exact .inl (af.lt z u))
 have aV:=gv.j1 f5 az ay;have ao:∀z∈Bk',w.heap.size<=z/\z∉[G,I,E]:=λz u=>⟨by rcases n5 z u with V|V;exact (nk z V).1;exact zL h.fr.size V,m5 z u⟩;have ak:∀z∈Bk',z∉J:=λz u R=>by
  rcases n5 z u with V|V;exact al z V R;have:=af.lt z R;omega
 have aW:fj gO 1 w5 ab (iY (pk++[(aa,(b.drop (c*(k+v))).take k)])) Bk':=(by rw[show iY (pk++[(aa,(b.drop (c*(k+v))).take k)])=iY pk++[aa] by simp];exact b5);refine Hw (o:=2) (m:=v) (.inr rfl) h5 aQ (by rw[yB];omega) (by rw[yB];omega) (x:=(true,ab,sv,dT)) ax (λz u=>nv z u) oO λah aA aB aC w6 h6 aD b6 n6 m6 f6 g6=>?_;have h6:ef [] w w6 [(G,.c (fg (true,ab,aB,dT)) ND),(I,.c #[gy aA] 101),(E,.c (fg fS) ND)]:=h6;have ac:∀z∈[G,I,E],z<w5.heap.size:=λz u=>yC (U z u) f5.size;have aE:=aW.j1 f6 λz u R=>by simp only[zG] at R;rcases R with rfl|rfl|R;exact (ao _ u).2 oL;exact (ao _ u).2 oL;exact ak z u R
 have aF:∀z∈List.range w.heap.size++G::I::E::(Bk'++aC),z∈List.range w.heap.size++G::I::E::(Bk'++J)\/w5.heap.size<=z:=λz u=>by simp only[zD,zG] at u⊢;rcases u with u|rfl|rfl|rfl|u|u;exact .inl (.inl u);simp;simp;simp;simp[u];rcases n6 z u with h|h;simp[h];exact .inr h
 have aG:∀z∈G::I::J,z∈List.range w.heap.size++G::I::E::(Bk'++J):=λz u=>by simp only[zD,zG] at u⊢;rcases u with rfl|rfl|u<;>simp[*]
 have a0:=(aV.j1 f6 aG aF).snoc (s:=ah) (a:=((b.drop (c*(k+v))).drop k).take v) (g6 _ λz u=>by
  simp only[zD,zG,mem_range] at u;have:=h5.fr.size;rcases u with u|rfl|rfl|rfl|u|u;exact .inl oJ;exact .inl (ac _ oL);exact .inl (ac _ oL);exact .inl (ac _ oL);exact .inl (b5.lt z u);exact .inr u)
 have a1:=aU.j1 f6 aG aF;rw[sA oJ];have aH:=qnM (k:=k) (v:=v) c b;refine hX _ _ ⟨c+1,ab,aB,aA,pk++[(aa,(b.drop (c*(k+v))).take k)],pv++[(ah,((b.drop (c*(k+v))).drop k).take v)],Bk',aC,rfl,aw,h6,?_,aE,?_,?_,?_,ao,λz u=>⟨?_,m6 z u⟩,λz u R=>?_,a1,a0⟩ oJ;rw[xE,xE] at aD;have e:c*(k+v)+(k+v)=(c+1)*(k+v):=(by rw[xV];omega);rw[<- e];exact aD;rw[aH];simp[ek];rw[show iY (pv++[(ah,((b.drop (c*(k+v))).drop k).take v)])=iY pv++[ah] by simp];exact b6;rw[aH];simp[ev];rcases n6 z u with V|V;exact (nv z V).1;exact zL h5.fr.size V;rcases n6 z R with V|V;exact ak z u V;have:=b5.lt z u;omega;have a2:c=count:=oJ;subst a2;refine IR h 0 rfl (true,sk,sv,dT)<|oD h 2 rfl (fg (true,sk,sv,dT)) λw5 h5 f5=>IR h5 2 rfl (true,sk,sv,dT) ?_;have aI:∀ {B:IS},(∀z∈B,w.heap.size<=z/\z∉[G,I,E])->∀z∈B,z∉[E]:=λhB z u R=>(hB z u).2 (by rw[zE.1 R];simp);have aJ:∀z∈[E],z∈List.range w.heap.size++G::I::E::(Bk++J):=λz u=>by rw[zE.1 u];simp
 have:=kk (true,sk,sv,dT) (Bk++(J++[])) ⟨true,(jn k v c b).1,(jn k v c b).2,[]⟩ w5 (λ_=>rfl)
  (qua (T:=List.range w.heap.size++G::I::E::(Bk++J)) rfl ⟨(Fi c hB).1,(Fi c hB).2,λ_ h=>(nomatch h)⟩ (av.j1 f5 (aI nk)) ek (af.j1 f5 (aI nv)) ev (.nil _ _ _) (λz u=>⟨al z u,λh=>nomatch h⟩) (λ_ _ h=>nomatch h)
   (gk.j1 f5 aJ λz u=>.inl u) (gv.j1 f5 aJ λz u=>.inl u) λz u=>by simp only[xI,zD,zG] at u⊢;rcases u with u|u|u<;>simp[*]) h5.fr (λz u=>by
   rw[xI] at u;rcases zD.1 u with u|u;exact (nk z u).1;exact (nv z u).1)
 rw[zZ aM] at this;exact this
end
end
section
def qs4(u:eX l)(G:4<=l.length):fL (l.take 4)=iI (l.take 4):=by
 match l,G with
 | a::b::c::d::r,_=>
  have I:=u a oL;have J:=u b oL;have R:=u c oL;have U:=u d oL;show fL [a,b,c,d]=iI [a,b,c,d];show pC a b c d=_;rw[qrL I J R U,Dj (λv E=>u v (by simp at E⊢;rcases E with h|h|h|h<;>simp[h])) (zM _)];show _=(((0*256+a)*256+b)*256+c)*256+d;omega
def qyc(l:IT):ia (iI l):=by
 unfold iI;have:∀(l:IT) (r:Int),ia r->ia (l.foldl (λr x=>bits .or .u32 (wrap .u32 (r*2^8)) (wrap .u32 x)) r):=by
  intro l;induction l with
  | nil=>intro r h;exact h
  | cons x l ih=>intro r h;exact ih _ (Dt _ _ _)
 exact this l 0 ⟨oM,oM⟩
def qpX:∀(c:Nat) (b:IT),∀x∈cL c b,ia x
 | 0,_,_,h=>nomatch h
 | c+1,b,x,h=>by rcases zG.1 h with rfl|h;exact qyc _;exact qpX c _ x h
def qzT{J R:Nat}{s':Sl}{Bi:IS}{K:WP}(h:ef [] w0 w ((J,.c (fg x) ND)::(R,.c #[gy s'] T)::L))(hr:eN [] w0 s' b)(hB:eX b)(hm:4<=b.length)(aD:b.length<=1000000)(ak:fj iZ 1 w x.2.2.2 l Bi)(ad:∀c∈Bi,w0.heap.size<=c/\c∉J::R::L.map (·.1))(hl:l.length<=100000)(kk:∀sN U V w',ef [] w0 w' ((J,.c (fg (x.1,x.2.1,x.2.2.1,U)) ND)::(R,.c #[gy sN] T)::L)->eN [] w0 sN (b.drop 4)->fj iZ 1 w' U (l++[iI (b.take 4)]) V-> (∀c∈V,w0.heap.size<=c/\c∉J::R::L.map (·.1))->K w'): (eJ prog (sQ R) ([Value.int IntKind.i64 4]) (dl) w<|λ(G:Sl) (u:IK)=> ld Cell.slice (dk J 3) u.drew<|λ(E:Sl)=> idx G 0 1<|λ(al:Addr)=> ld (Cell.int IntKind.u8) al u.drew<|λ(am:Int)=> idx G 1 1<|λ(an:Addr)=> ld (Cell.int IntKind.u8) an u.drew<|λ(ao:Int)=> idx G 2 1<|λ(ap:Addr)=> ld (Cell.int IntKind.u8) ap u.drew<|λ(aq:Int)=> idx G 3 1<|λ(ar:Addr)=> ld (Cell.int IntKind.u8) ar u.drew<|λ(au:Int)=> new (.cells #[Value.int IntKind.u32 (bits .or .u32 (bits .or .u32 (bits .or .u32 (wrap IntKind.u32 (wrap IntKind.u32 am*2^24)) (wrap IntKind.u32 (wrap IntKind.u32 ao*2^16))) (wrap IntKind.u32 (wrap IntKind.u32 aq*2^8))) (wrap IntKind.u32 au))] 63) u.drew<|λ(av:Nat) (ag:IK)=> held [λ(aw:Go.World)=>World.cell? aw (dk J 3)=some (Value.slice E.a E.len E.cap)] ag<| run dl ((Builtin.append_ (#[172,172]) 172 (#[Value.slice E.a E.len E.cap,Value.slice (pW av) 1 1])).run prog ag)<|λ(aa:Sl) (ax:IK)=> st (dk J 3) ([Value.slice aa.a aa.len aa.cap]) ax K):=by
 refine qsF (m:=4) h (i:=1) rfl hr hm aD λaE a0 sN ae aF aG a1 hN aH=>?_;have hd:ef [] w0 ae.drew ((J,.c (fg x) ND)::(R,.c #[gy sN] T)::L):=oF aF;refine IQ hd 0 rfl x.2.2.2 ?_;have I:eN [] ae.drew aE (b.take 4):=(aG.jQ lY (S:=[]) λ_ _ h=>nomatch h).q8 (Fr.refl [] ae).drew;have h4:4<=(b.take 4).length:=(by rw[yL];omega);refine eN.at I 0 rfl (getD_some oJ)<|eN.at I 1 rfl (getD_some oJ)<|eN.at I 2 rfl (getD_some oJ)<|eN.at I 3 rfl (getD_some oJ) ?_;have e4:=qs4 hB hm;unfold fL pC at e4;rw[e4];refine oB hd λa3 aI a4 aJ ah=>iS (ah.cell 1) ?_;have ay:=ak.j1 aH λc hc hm=>(ad c hc).2 (by rw[zE.1 hm];simp);have az:=(ay.q8 (Fr.refl [] ae).drew).q8 aJ;refine qtE az hl (ah.at (i:=0) rfl) λU V a5 aK aL aM=>?_;have ab:=ah.sub (L':=(J,.c (fg x) ND)::(R,.c #[gy sN] T)::L) (IC _ _);have aj:∀p∈((J,Obj.cells (fg x) ND (0,0))::(R,.c #[gy sN] T)::L),p.1∉Bi:=λp hp hm=>(ad p.1 hm).2 (zY (f:=(·.1)) hp);have aO:=ab.j1 aL (λi hi=>.inr (ad i hi).1) aj;have aA:∀c∈J::R::L.map (·.1),c<aI.heap.size:=λc hc=>by obtain⟨p,hp,rfl⟩:=mem_map.1 (show c∈((J,Obj.cells (fg x) ND (0,0))::(R,.c #[gy sN] T)::L).map (·.1) from hc);exact eO (ab.eY p hp)
 have aB:∀c∈V,w0.heap.size<=c/\c∉J::R::L.map (·.1):=λc hc=>by rcases aM c hc with h|h;exact ad c h;exact⟨zL ab.fr.size h,λhm=>by have:=aA c hm;omega⟩
 exact oD aO 0 rfl (fg (x.1,x.2.1,x.2.2.1,U)) λaP aQ aR=>kk sN U V aP aQ hN (aK.j1 aR λc hc hm=>(aB c hc).2 (by rw[zE.1 hm];simp)) aB
section
variable {w:IK} {s:Sl} {b:IT}
def qwE{count:Nat}{K:kQ×Bool->WP}(hb:eN [] w s b)(hB:eX b)(hl:b.length<=1000)(hc:count<=100000)(hk:1<=k/\k<=1000)(kk:∀x B n w',(1<=count/\b.length=count*4+(count-1)*k->n=⟨false,lC k (count-1) (b.drop (count*4)),[],cL count b⟩)->fE (List.range w.heap.size++B) w' x n B->Fr [] w w'->(∀c∈B,w.heap.size<=c)->K (x,decide (1<=count/\b.length=count*4+(count-1)*k)) w'): cW 159 [s.v,.i count,.i k] [.agg eG,.one .bool] w K:=by
 refine qqI<|oB (oE [] w) λE w1 e1 f1 h=>?_;have ap:=hb.1;have aq:(count-1)*k<=100000*1000:=Nat.mul_le_mul oJ hk.2;refine iC (λd w'=>d = !decide (1<=count/\b.length=count*4+(count-1)*k)/\w'=w1) ?_ ?_;apply eB<;>intro h1;have h1:=zC h1;refine⟨?_,rfl⟩;rw[zU λh=>oJ];rfl;have h1:=zB h1;refine⟨?_,rfl⟩;have ea:wrap .i64 ((count:Int)-1)=((count-1:Nat):Int):=(by rw[gG _ oJ];omega);have ew:wrap .i64 (wrap .i64 ((count:Int)*4)+wrap .i64 (wrap .i64 ((count:Int)-1)*(k:Int)))=((count*4+(count-1)*k:Nat):Int):=by have e4:wrap .i64 ((count:Int)*4)=((count*4:Nat):Int):=(by rw[gG _ oJ];rfl);have e5:wrap .i64 (((count-1:Nat):Int)*(k:Int))=(((count-1)*k:Nat):Int):=(by rw[<- Int.natCast_mul,gG _ oJ]);rw[ea,e4,e5];generalize (count-1)*k=z at aq;rw[gG _ oJ];rfl
 rw[ew,ap];congr 1;rw[It,yP,yN];generalize (count-1)*k=z;omega;rintro d a1 ⟨rfl,rfl⟩;apply eB<;>intro V;have au:¬(1<=count/\b.length=count*4+(count-1)*k):=(by rw[zT] at V;exact zB V);refine oD h 0 rfl (fg fS) λw2 h f2=>IR h 0 rfl fS ?_;have:=kk fS [] iV w2 (λe=>absurd e au) (.zero _ _) h.fr (λ_ h=>nomatch h);rw[zU au] at this;exact this;have aH:1<=count/\b.length=count*4+(count-1)*k:=(by rw[yE] at V;exact zC V);refine oB h λI w2 e2 f2 h=>qjn<|oB h λJ w4 e4 f4 h=>?_;have h:=DH h (List.Perm.swap _ _ _);refine jv (λi w'=>∃(c:Nat) (U sn:Sl) (R:IS),i=(c:Int)/\c<=count/\ef [] w w' [(I,.c (fg (false,dT,dT,U)) ND),(J,.c #[gy sn] 101),(E,.c (fg fS) ND)]/\
   eN [] w sn (b.drop (c*4))/\fj iZ 1 w' U (cL c b) R/\(∀c∈R,w.heap.size<=c/\c∉[I,J,E])) (λi _=>((count:Int)-i).toNat)
  ⟨0,dT,s,[],rfl,yX _,h,by rw[Nat.zero_mul,xG];exact hb,.nil _ _ _,λ_ h=>(nomatch h)⟩ ?_
 rintro _ w' ⟨c,U,sn,R,rfl,a3,h,av,G,ni⟩ X hX;apply cD<;>intro ah;have ac:c<count:=oJ;have aJ:(b.drop (c*4)).length=b.length-c*4:=yB;refine qzT h av (hB.drop _) oJ oJ (x:=(false,dT,dT,U)) G ni (by rw[Fx];omega) λsN aK aL w5 h5 aa b5 n5=>?_;rw[sA oJ];refine hX _ _ ⟨c+1,aK,sN,aL,rfl,ac,h5,?_,by rw[qnL];exact b5,n5⟩ oJ;rw[xE] at aa;have e:c*4+4=(c+1)*4:=oJ;rw[<- e];exact aa;have ai:c=count:=oJ;subst ai;have aW:∀z∈R,w.heap.size<=z:=λz u=>(ni z u).1;refine jv (λi w2=>∃(d:Nat) (sk sn:Sl) (pk:qh) (Bk:IS),i=(d:Int)/\d<=c-1/\ef [] w w2 [(I,.c (fg (false,sk,dT,U)) ND),(J,.c #[gy sn] 101),(E,.c (fg fS) ND)]/\
   eN [] w sn ((b.drop (c*4)).drop (d*k))/\fj iZ 1 w2 U (cL c b) R/\fj gO 1 w2 sk (iY pk) Bk/\gH pk=lC k d (b.drop (c*4))/\(∀c∈Bk,w.heap.size<=c/\c∉[I,J,E])/\(∀c∈Bk,c∉R)/\
   uL w2 pk (List.range w.heap.size++I::J::E::(Bk++R))) (λi _=>(((c-1:Nat):Int)-i).toNat)
  ⟨0,dT,sn,[],[],rfl,yX _,h,by rw[Nat.zero_mul,xG];exact av,G,.nil _ _ _,rfl,λ_ h=>(nomatch h),λ_ h=>(nomatch h),λ_ h=>(nomatch h)⟩ ?_
 rintro _ w2 ⟨d,sk,a4,pk,Bk,rfl,a5,h,ax,G,ay,ek,nk,aj,gk⟩ X hX;have lk:pk.length=d:=(by rw[<- zK (f:=(·.2)),show pk.map (·.2)=gH pk from rfl,ek,Gc]);have ea:wrap .i64 ((c:Int)-1)=((c-1:Nat):Int):=(by rw[gG _ oJ];omega);have ab:∀z∈[I,J,E],z<w2.heap.size:=λz u=>by simp only[zG,xY,or_false] at u;rcases u with rfl|rfl|rfl;exact eO (h.at (i:=0) rfl);exact eO (h.at (i:=1) rfl);exact eO (h.at (i:=2) rfl)
 rw[ea];apply cD<;>intro ak;have ac:d<c-1:=oJ;have al:(d+1)*k<=(c-1)*k:=IB _ ac;rw[xV,Nat.one_mul] at al;have aJ:((b.drop (c*4)).drop (d*k)).length=b.length-c*4-d*k:=(by rw[yB,yB]);refine Hw (o:=1) (m:=k) (.inl rfl) h ax oJ oJ (x:=(false,sk,dT,U)) ay nk oO λad sN az Bk' w5 h5 aa b5 n5 m5 f5 g5=>?_;have h5:ef [] w w5 [(I,.c (fg (false,az,dT,U)) ND),(J,.c #[gy sN] 101),(E,.c (fg fS) ND)]:=h5;have aA:=G.j1 f5 λz u hm=>by simp only[zG] at hm;rcases hm with rfl|rfl|hm;exact (ni _ u).2 oL;exact (ni _ u).2 oL;exact aj z hm u
 have aO:∀z∈List.range w.heap.size++I::J::E::(Bk'++R),z∈List.range w.heap.size++I::J::E::(Bk++R)\/w2.heap.size<=z:=λz u=>by simp only[zD,zG] at u⊢;rcases u with u|rfl|rfl|rfl|u|u;exact .inl (.inl u);simp;simp;simp;rcases n5 z u with h|h;simp[h];exact .inr h;simp[u]
 have aP:∀z∈I::J::Bk,z∈List.range w.heap.size++I::J::E::(Bk++R):=λz u=>by simp only[zD,zG] at u⊢;rcases u with rfl|rfl|u<;>simp[*]
 have aQ:=(gk.j1 f5 aP aO).snoc (s:=ad) (a:=((b.drop (c*4)).drop (d*k)).take k) (g5 _ λz u=>by
  simp only[zD,zG,mem_range] at u;have:=h.fr.size;rcases u with u|rfl|rfl|rfl|u|u;exact .inl oJ;exact .inl (ab _ oL);exact .inl (ab _ oL);exact .inl (ab _ oL);exact .inr u;exact .inl (G.lt z u))
 rw[sA oJ];refine hX _ _ ⟨d+1,az,sN,pk++[(ad,((b.drop (c*4)).drop (d*k)).take k)],Bk',rfl,ac,h5,?_,aA,?_,?_,λz u=>⟨?_,m5 z u⟩,λz u hm=>?_,aQ⟩ oJ;rw[xE] at aa;have e:d*k+k=(d+1)*k:=(by rw[xV];omega);rw[<- e];exact aa;rw[show iY (pk++[(ad,((b.drop (c*4)).drop (d*k)).take k)])=iY pk++[ad] by simp];exact b5;rw[qnJ];simp[ek];rcases n5 z u with h'|h';exact (nk z h').1;exact zL h.fr.size h';rcases n5 z u with h'|h';exact aj z h' hm;have:=G.lt z hm;omega;have ai:d=c-1:=oJ;subst ai;refine IR h 0 rfl (false,sk,dT,U)<|oD h 2 rfl (fg (false,sk,dT,U)) λw5 h5 f5=>IR h5 2 rfl (false,sk,dT,U) ?_;have aB:∀ {B:IS},(∀z∈B,w.heap.size<=z/\z∉[I,J,E])->∀z∈B,z∉[E]:=λhB z u hm=>(hB z u).2 (by rw[zE.1 hm];simp);have aR:∀z∈[E],z∈List.range w.heap.size++I::J::E::(Bk++R):=λz u=>by rw[zE.1 u];simp
 have:=kk (false,sk,dT,U) (Bk++([]++R)) ⟨false,lC k (c-1) (b.drop (c*4)),[],cL c b⟩ w5 (λ_=>rfl)
  (qua (pv:=[]) (T:=List.range w.heap.size++I::J::E::(Bk++R)) rfl ⟨qpV _ (hB.drop _),λ_ h=>(nomatch h),qpX _ _⟩ (ay.j1 f5 (aB nk)) ek (.nil _ _ _) rfl (G.j1 f5 (aB ni)) (λz u=>⟨λh=>(nomatch h),aj z u⟩) (λ_ h=>nomatch h)
   (gk.j1 f5 aR λz u=>.inl u) (λ_ h=>nomatch h) λz u=>by simp only[xJ,zD,zG] at u⊢;rcases u with u|u|u<;>simp[*]) h5.fr (λz u=>by
   rw[xJ] at u;rcases zD.1 u with u|u;exact (nk z u).1;exact (ni z u).1)
 rw[zZ aH] at this;exact this
end
end
section
def qsZ(h:eX b)(G:2<=b.length):bits .or .i64 (wrap .i64 (wrap .i64 (b.getD 0 0)*2^8)) (wrap .i64 (b.getD 1 0))=(fV b:Int)/\fV b<=65535:=by have u:0<=b.getD 0 0/\b.getD 0 0<256:=h _ (yF (getD_some (l:=b) (n:=0) oJ));have E:0<=b.getD 1 0/\b.getD 1 0<256:=h _ (yF (getD_some (l:=b) (n:=1) oJ));unfold fV;generalize b.getD 0 0=x at u⊢;generalize b.getD 1 0=y at E⊢;rw[gG x oJ,gG y oJ,gG (x*2^8) oJ,qsb 8 oJ oJ oJ oJ oJ];omega
def qnh(h:(eE k v).1≠0):1<=k/\k<=24/\v<=108:=by unfold eE at h;split at h;exact absurd rfl h;omega
def qyD(h:(eE k v).1=0\/b.length<2\/b.length>500):i3 kind b k v=(iV,2):=by unfold i3;rw[iP h]
def qxe(h:¬((eE k v).1=0\/b.length<2\/b.length>500)):i3 3 b k v=if (b.drop 2).length=fV b*(k+v)/\fW (np k v b) k v then (np k v b,0) else (iV,2):=by unfold i3;rw[iN h];by_cases h2:(b.drop 2).length=fV b*(k+v)/\fW (np k v b) k v;rw[iP ⟨rfl,h2⟩,iP h2];rw[iN λh=>h2 h.2,iN h2,iN λh=>absurd h.1 oM]
def qvy(h:¬((eE k v).1=0\/b.length<2\/b.length>500)):i3 4 b k v=if (1<=fV b/\(b.drop 2).length=fV b*4+(fV b-1)*k)/\fW (lH k b) k v then (lH k b,0) else (iV,2):=by unfold i3;rw[iN h,iN λh=>absurd h.1 oM];by_cases h2:(1<=fV b/\(b.drop 2).length=fV b*4+(fV b-1)*k)/\fW (lH k b) k v;rw[iP ⟨rfl,h2.1.1,h2.1.2,h2.2⟩,iP h2];rw[iN λh=>h2 ⟨⟨h.2.1,h.2.2.1⟩,h.2.2.2⟩,iN h2]
def qxd(u:kind≠3)(E:kind≠4):i3 kind b k v=(iV,2):=by unfold i3;split;rfl;rw[iN λh=>u h.1,iN λh=>E h.1]
section
variable {w:IK} {s:Sl} {b:IT}
def GC{K:kQ×Int->WP}(hb:eN [] w s b)(hB:eX b)(kk:∀x B w',fE (List.range w.heap.size++B) w' x (i3 kind b k v).1 B->Fr [] w w'->(∀c∈B,w.heap.size<=c)->K (x,(i3 kind b k v).2) w'): cW 118 [.b kind,s.v,.i k,.i v] [.agg eG,.one .i] w K:=by
 refine qr6 ?_;have ai:=hb.1;refine oB (oE [] w) λr1 w1 e1 f1 h=>ET λw4 f4=>?_;have h:=h.q8 f4;refine iC (λd w'=>d=decide ((eE k v).1=0\/b.length<2\/b.length>500)/\w'=w4) ?_ ?_;dsimp only;refine eB (λE=>⟨?_,rfl⟩) λE=>eB (λc2=>⟨?_,rfl⟩) λc2=>⟨?_,rfl⟩;have E:=yP.1 E;exact DM (.inl oJ);have c2:=zC c2;exact DM (.inr (.inl oJ));have E:=zR.1 E;have c2:=zB c2;rw[It,yN,yN];constructor;intro h;exact .inr (.inr oJ);rintro (h|h|h);omega;omega;omega;rintro d aK ⟨rfl,rfl⟩;have ax:∀ {w'},i3 kind b k v=(iV,2)->ef [] w w' [(r1,.c (fg fS) ND)]->
   st (dk r1) ([Value.bool false,Value.slice none 0 0,Value.slice none 0 0,Value.slice none 0 0]) w' λay=>dX (eG) (dk r1) ay λaL=>K ((aL,2)) ay:=λhe h=>by
  refine oD h 0 rfl (fg fS) λw2 h f2=>IR h 0 rfl fS ?_;have:=kk fS [] w2 (by rw[he];exact .zero _ _) h.fr (λ_ h=>nomatch h);rw[he] at this;exact this
 refine eB (λu=>ax (qyD (zC u)) h) λu=>?_;have ab:=zB u;have az:(eE k v).1≠0:=λe=>ab (.inl e);have h2:2<=b.length/\b.length<=500:=by refine⟨?_,?_⟩;exact Nat.not_lt.1 λe=>ab (.inr (.inl e));exact Nat.not_lt.1 λe=>ab (.inr (.inr e))
 obtain⟨a0,a1,a2⟩:=qnh az;obtain⟨aA,a3⟩:=qsZ hB h2.1;have aB:=(hb.q8 h.fr).q8 (Fr.refl [] aK).drew;refine eN.at aB 0 rfl (getD_some oJ)<|eN.at aB 1 rfl (getD_some oJ) ?_;rw[aA];have h:=h.drew;refine oB h λag ak a4 a5 h=>?_;have al:=eO (h.at (i:=0) rfl);have aC:=eO (h.at (i:=1) rfl);dsimp only at al aC;have aj:=hb.q8 h.fr;have aD:=h.fr.size;refine iC (λU w'=>∃x B n,ef [] w w' [(ag,.c (fg x) ND),(r1,.c (fg fS) ND)]/\fE (List.range ak.heap.size++B) w' x n B/\(∀c∈B,ak.heap.size<=c)/\
   U=decide ((kind=3/\(b.drop 2).length=fV b*(k+v))\/(kind=4/\1<=fV b/\(b.drop 2).length=fV b*4+(fV b-1)*k))/\
   (U=true->n=if kind=3 then np k v b else lH k b)) ?_ ?_
 refine eB (λc3=>?_) λc3=>eB (λc4=>?_) λc4=>?_;have c3:=yP.1 c3;refine eI.part (S:=[]) aj (lo:=some 2) (hi:=none) 2 b.length rfl (by rw[xX,ai]) h2.1 (zM _) λaN _ J _=>?_;rw[vA] at J;refine qzD J (hB.drop 2) (by rw[yB];omega) oJ oJ oJ λx B n aO hn hN ao R=>?_;have ap:=h.q8 ao;refine oD ap 0 rfl (fg x) λaP aq ar=>?_;have ac:∀c∈B,c∉[ag]:=λc u hm=>by have:=R c u;rw[zE.1 hm] at this;omega
 refine⟨x,B,n,aq,hN.j1 ar ac (λc u=>.inl (by rw[zE.1 u];simp[al])) λc u=>.inl u,R,?_,λG=>?_⟩;rw[It,yN,yN];constructor;intro V;exact .inl ⟨c3,V⟩;rintro (V|V);exact V.2;have:=V.1;omega;rw[iP c3];exact hn (zC G);have c3:=zR.1 c3;have c4:=yP.1 c4;refine eI.part (S:=[]) aj (lo:=some 2) (hi:=none) 2 b.length rfl (by rw[xX,ai]) h2.1 (zM _) λaN _ J _=>?_;rw[vA] at J;refine qwE J (hB.drop 2) (by rw[yB];omega) oJ oJ λx B n aO hn hN ao R=>?_;have ap:=h.q8 ao;refine oD ap 0 rfl (fg x) λaP aq ar=>?_;have ac:∀c∈B,c∉[ag]:=λc u hm=>by have:=R c u;rw[zE.1 hm] at this;omega
 refine⟨x,B,n,aq,hN.j1 ar ac (λc u=>.inl (by rw[zE.1 u];simp[al])) λc u=>.inl u,R,?_,λG=>?_⟩;rw[It,yN,yN];constructor;intro V;exact .inr ⟨c4,V⟩;rintro (V|V);exact absurd V.1 c3;exact V.2;rw[iN c3];exact hn (zC G);have c3:=zR.1 c3;have c4:=zR.1 c4;refine⟨fS,[],iV,h,.zero _ _,λ_ h=>(nomatch h),?_,λG=>nomatch G⟩;rw[zU];rintro (V|V);exact c3 V.1;exact c4 V.1;rintro U aQ ⟨x,B,n,h,hN,R,ad,hn⟩;have aF:U=true->n.J8.length<=1000000/\n.Q2.length<=1000000/\n.Q1.length<=1000000:=λG=>by
  rw[hn G];split;have:=Ez (k:=k) (v:=v) (fV b) (b.drop 2);unfold np;dsimp only;rw[this.1,this.2];simp;omega;unfold lH;dsimp only;rw[Gc,Fx];simp;omega
 refine iC (λd w'=>d = !(U&&decide (fW n k v))/\ef [] w w' [(ag,.c (fg x) ND),(r1,.c (fg fS) ND)]/\fE (List.range ak.heap.size++B) w' x n B) ?_ ?_;apply eB<;>intro E;have E:U=false:=(oP E);exact⟨by rw[E];rfl,h,hN⟩;have E:U=true:=(oP E);obtain⟨q1,q2,q3⟩:=aF E;refine IR h 0 rfl x ?_;have aR:eT [] aQ x n:=hN.rd (λ_ _ h=>(nomatch h)) λ_ h=>nomatch h;exact qrb (x:=x) aR q1 q2 q3 λa9 aG=>⟨by rw[E,Bool.true_and],h.q8 aG,hN.q8 aG⟩;rintro d a' ⟨rfl,h,hN⟩;have I:i3 kind b k v=if (U&&decide (fW n k v))=true then (n,0) else (iV,2):=by
  by_cases k3:kind=3;subst k3;rw[qxe ab];have e:U=decide ((b.drop 2).length=fV b*(k+v)):=(by rw[ad];exact decide_eq_decide.2 ⟨λh=>h.elim (·.2) λh=>absurd h.1 oM,λh=>.inl ⟨rfl,h⟩⟩);by_cases G:U=true;have ae:=hn G;rw[iP rfl] at ae;rw[ae,G,Bool.true_and];have hl:(b.drop 2).length=fV b*(k+v):=zC (e▸G);by_cases hr:fW (np k v b) k v;rw[iP ⟨hl,hr⟩,iP (zZ hr)];rw[iN λh=>hr h.2,iN (by rw[zU hr];decide)];have af:U=false:=(oP G);rw[af,Bool.false_and,iN (show ¬(false=true) by decide)];have hl:¬(b.drop 2).length=fV b*(k+v):=zB (e▸af);rw[iN λh=>hl h.1];by_cases k4:kind=4;subst k4;rw[qvy ab];have e:U=decide (1<=fV b/\(b.drop 2).length=fV b*4+(fV b-1)*k):=(by rw[ad];exact decide_eq_decide.2 ⟨λh=>h.elim (λh=>absurd h.1 oM) (·.2),λh=>.inr ⟨rfl,h⟩⟩);by_cases G:U=true;have ae:=hn G;rw[iN k3] at ae;rw[ae,G,Bool.true_and];have hl:=zC (e▸G);by_cases hr:fW (lH k b) k v;rw[iP ⟨hl,hr⟩,iP (zZ hr)];rw[iN λh=>hr h.2,iN (by rw[zU hr];decide)];have af:U=false:=(oP G);rw[af,Bool.false_and,iN (show ¬(false=true) by decide)];have hl:=zB (e▸af);rw[iN λh=>hl h.1];rw[qxd k3 k4];have G:U=false:=by rw[ad,zU];rintro (h|h);exact k3 h.1;exact k4 h.1
  rw[G,Bool.false_and,iN (show ¬(false=true) by decide)]
 have aT:∀c∈B,c∉[r1]:=λc u hm=>by have:=R c u;rw[zE.1 hm] at this;omega
 apply eB<;>intro E;refine ax ?_ (h.sub (IC _ _));rw[I,iN (by rw[zT] at E;rw[E];decide)];rw[yE] at E;refine IR h 0 rfl x<|oD h 1 rfl (fg x) λaU aH aV=>IR aH 1 rfl x ?_;rw[iP E] at I
 have:=kk x B aU (by rw[I];exact (hN.j1 aV aT (λc u=>.inl (by rw[zE.1 u];simp[aC])) λc u=>.inl u).j8 λc u=>.inl (by rcases zD.1 u with u|u;exact zH _ (mem_range.2 (yC (mem_range.1 u) aD));exact zI _ u)) aH.fr (λc u=>zL aD (R c u));rw[I] at this;exact this
end
end
section
def qBe{M:eH}(u:M.y7)(x:Int):x∈M.all↔x∈M.x5\/x∈M.J9\/x∈M.Q7:=by rw[u.mem x];simp only[eH.all,zD];constructor;rintro (h|h|h|h);exact .inl (.inl h);exact .inr (.inl h);exact .inr (.inr h);exact .inl (.inr h);rintro ((h|h)|h|h);exact .inl h;exact .inr (.inr (.inr h));exact .inr (.inl h);exact .inr (.inr (.inl h))
def GB{M:eH}{cC x5:IT}(u:jV M=some (cC,x5))(x:Int):x∈cC\/x∈x5↔x∈M.Q3\/x∈M.J9\/x∈M.Q7:=by
 obtain⟨k,G,E,rfl,rfl⟩:=Ec u;rw[xf];have e:x∈M.Q3↔x∈M.Q3.take k\/x∈M.Q3.drop k:=by
  conv=>lhs;rw[<- xF k M.Q3]
  exact zD
 simp only[zD,e];constructor;rintro (h|(h|h)|h);exact .inl (.inl h);exact .inr (.inl h);exact .inr (.inr h);exact .inl (.inr h);rintro ((h|h)|h|h);exact .inl h;exact .inr (.inr h);exact .inr (.inl (.inl h));exact .inr (.inl (.inr h))
section
variable {D D':dV} {M:eH} {cC x5:IT} {t:Int} {ov:Bool}
def qs8(h:M.Wf)(E:∀e∈M.Q0,view D' e.1=eU e.1 e.2.1 e.2.2)(u:e∈M.Q0):fx e.1 (view D' e.1)=(e.2.1,e.2.2,0):=by have G:=h.J8 e.1 (zY u);have I:=h.n4;rw[E e u];exact Hq ⟨oJ,oJ⟩ (h.body e u).2.1
def qql{x:Int}(E:M.Q5=false)(G:D.down=false)(u:2<=x/\x<D.size)(I:M.J1.2.getD 0 0=D.size)(h:x∉M.all):dU D M x=fx x (view D x):=by have J:look x M.Q0=none:=ve.2 λR=>h (zI _ (zI _ (zI _ R)));have U:gI M x=true:=xj.2 ⟨⟨u.1,by rw[I];exact u.2⟩,h⟩;have V:=Dy G (n:=x) ⟨oJ,u.2⟩;unfold dU;rw[iN (by rw[E];decide),J];dsimp only;rw[iN (by rw[U];decide),V,iN oL]
def qvx(h:M.Q5=false)(u:M.Wf)(E:e∈M.Q0):dU D M e.1=(e.2.1,e.2.2,0):=by obtain⟨i,G⟩:=D6 u.cN E;unfold dU;rw[iN (by rw[h];decide),G]
end
end
end
section
open Go Go.Pt List
open Go.IntKind (wrap)
open Classical
attribute [local irreducible] ld dX jg oe jF fP st new idx jG jR fM jY jz mM iH nn call eJ inv run fG js join loop held ext kz eC nK nE nQ IntKind.wrap
end
section
open Go Go.Pt List
open Go.IntKind (wrap)
variable {db:Option Addr} {w:IK}
def wL{cl:List Cell}{b off:Nat}{cs:Array IL}{T:IM}{h:I1}{K:HL cl->Prop}(u:w.heap[b]?=some (.cells cs T h))(x:HL cl)(E:(cs.toList.drop off).take cl.length=HL.mk cl x)(k:K x):Pt.dX cl (dk b off) w K:=
 ⟨x,vI u _ off 0 (by rw[HL.j5];exact E),k⟩
attribute [local irreducible] ld dX jg oe jF fP st new idx jG jR fM jY jz mM iH nn call eJ inv run fG js join loop held ext kz eC nK nE nQ IntKind.wrap
def oY.uI{w':IK}{X:IS}{pb:Nat}{M:eH}{fb defb mb:Nat}{sl sn:Sl}{F1 F2:IS}{E:List (Int×lG)}{Q4:IT}(h:oY w X pb db M fb defb mb sl sn F1 F2 E)(G:Q4.length=24)(I:w'.heap[pb]?=some (.c (gi db M.J1 sl sn M.x8 M.Q5 fb defb mb Q4) sS))(f:Fr [pb] w w'):oY w' X pb db { M with Q4:=Q4 } fb defb mb sl sn F1 F2 E where
 cell:=I
 Q3:=h.Q3.j1 f λb u=>by simpa using (h.sep.2.1 b u).1
 J9:=h.J9.j1 f λb u=>by simpa using (h.sep.2.2 b u).1
 map:=h.map.j1 f (by simpa using λe=>h.sep.1 e.symm)
 Q0:=h.Q0
 rows:=h.rows.j1 (f.mono λi J _=>by rw[zE.1 J];simp) λb u=>.inl u
 pE:=λb u=>yC (h.pE b u) f.size
 m7:=h.m7
 sep:=h.sep
 x4:=h.x4
 x9:=G
def qvp{J1:oV}{sl sn:Sl}{x8:Int}{Q5:Bool}{fb defb mb:Nat}{Q4:IT}(J:J1.2.length=27)(V:Q4.length=24){t:Nat}(ht:t<8){h E G:Int}: en (gi db J1 sl sn x8 Q5 fb defb mb Q4) (36+3*t) [.u h,.u E,.u G]=gi db J1 sl sn x8 Q5 fb defb mb (Q4.take (3*t)++[h,E,G]++Q4.drop (3*t+3)):=by
 have I:Q4=Q4.take (3*t)++(Q4.drop (3*t)).take 3++Q4.drop (3*t+3):=by rw[zV,<- xE,xF,xF]
 have:=t5 (A:=(.pointer db::fv J1.1 J1.2)++nR sl sn x8 Q5 fb defb mb++(Q4.take (3*t)).map (Value.int .u32)) (X:=((Q4.drop (3*t)).take 3).map (Value.int .u32)) (Y:=[.u h,.u E,.u G]) (Z:=(Q4.drop (3*t+3)).map (Value.int .u32)) (by rw[zK,yL,yB];show min 3 _=3;omega);have R:((.pointer db::fv J1.1 J1.2)++nR sl sn x8 Q5 fb defb mb++(Q4.take (3*t)).map (Value.int .u32)).length=36+3*t:=(by rw[zF,zF,tl J,zK,yL];show 29+7+_=_;omega);rw[R] at this;unfold gi;have U:Q4.map (Value.int .u32)=(Q4.take (3*t)).map (Value.int .u32)++((Q4.drop (3*t)).take 3).map (Value.int .u32)++(Q4.drop (3*t+3)).map (Value.int .u32):=(by rw[<- xO,<- xO,<- I]);rw[U];simp only[xO,xP,map_nil];simp only[zV] at this⊢;exact this
section
variable {w:IK} {X:IS} {pb:Nat} {db:Option Addr} {F:IS} {M:eH}
def qsS{t G I J:Int}{K:Int->WP}(h:eW w X pb db F M)(hk:∀w',eW w' X pb db F (fy M t G I J).2->Fr F w w'->K (fy M t G I J).1 w'): cW 131 [dS pb,.i t,.agg #[.u G,.u I,.u J]] dm w K:=by
 have h0:=h;obtain⟨fb,defb,mb,sl,sn,F1,F2,fs,rfl,U⟩:=h;refine qhq ?_;have R:∀ {e:Int} {w':IK},fy M t G I J=(e,M)->Fr [] w w'->K e w':=by
  intro e w' he hf;have:=hk w' (by rw[he];exact h0.q8 hf) (hf.mono λb V=>by cases V);rw[he] at this;exact this
 refine oB (oE [] w) λr w1 e1 f1 ho=>?_;have aa:=U.q8 f1;refine fO (iv aa.cell M.Q5 (Aw U.x4) ?_);refine eB (λE=>R (by rw[fy,iP E]) f1) λE=>?_;have ab:¬M.Q5=true:=(by rw[E];decide);refine iC (λb w'=>b=decide (t<0\/t>7)/\w'=w1) ?_ ?_;refine eB (λE=>⟨by rw[zZ (Or.inl (zC E))],rfl⟩) (λE=>?_);have:=zB E;refine⟨decide_eq_decide.2 ⟨λh=>.inr oJ,λh=>oJ⟩,rfl⟩;rintro b w2 ⟨rfl,rfl⟩;refine eB (λE=>R (by rw[fy,iN ab,iP (zC E)]) f1) λE=>?_;have hr:=zB E;obtain⟨n,rfl⟩:∃n:Nat,t=n:=⟨t.toNat,oJ⟩;have af:n<8:=oJ;have ac:fy M n G I J=(0,{ M with Q4:=M.Q4.take (3*n)++[G,I,J]++M.Q4.drop (3*n+3) }):=(by rw[fy,iN ab,iN hr,zJ]);have ag:=ho.drew;have ad:=aa.q8 (Fr.refl [] w2).drew;refine IR ag 0 rfl (G,I,J)<|fO<|qu oJ ?_;simp only[Addr.j3,zJ];refine qH ad.cell (gi db M.J1 sl sn M.x8 M.Q5 fb defb mb (M.Q4.take (3*n)++[G,I,J]++M.Q4.drop (3*n+3))) (by show en _ (0+33+3+n*3) _=_;rw[show 0+33+3+n*3=36+3*n by omega];exact qvp U.x4 U.x9 af) rfl (by rw[quc U.x4,U.x9];exact zL (show 0+33+3+n*3+3<=60 by omega) (zM 60)) λw3 ah f3=>?_;have hl:(M.Q4.take (3*n)++[G,I,J]++M.Q4.drop (3*n+3)).length=24:=by
  have:=U.x9;simp only[zF,yL,yB,yI,xL];omega
 have:=hk w3 (by rw[ac];exact⟨fb,defb,mb,sl,sn,F1,F2,fs,rfl,ad.uI hl ah f3⟩) ((f1.drew.mono λb V=>nomatch V).trans (f3.mono λb V _=>by rw[zE.1 V];simp));rw[ac] at this;exact this
def eF (M:eH) (t:Int):I3:=if t<0\/t>7 then (0,0,0) else (M.Q4.getD (3*t.toNat) 0,M.Q4.getD (3*t.toNat+1) 0,M.Q4.getD (3*t.toNat+2) 0)
def qxL{t:Int}{K:I3->WP}(h:eW w X pb db F M)(V:∀w',Fr [] w w'->K (eF M t) w'): cW 46 [dS pb,.i t] [.agg [.u,.u,.u]] w K:=by
 obtain⟨fb,defb,mb,sl,sn,F1,F2,fs,rfl,J⟩:=h;refine qjG<|oB (oE [] w) λr w1 e1 f1 ho=>?_;have R:=J.q8 f1;refine iC (λb w'=>b=decide (t<0\/t>7)/\w'=w1) ?_ ?_;refine eB (λG=>⟨by rw[zZ (Or.inl (zC G))],rfl⟩) (λG=>?_)
 have:=zB G;refine⟨decide_eq_decide.2 ⟨λh=>.inr oJ,λh=>oJ⟩,rfl⟩;rintro b w2 ⟨rfl,rfl⟩;apply cD<;>intro G;refine oD ho 0 rfl #[.u 0,.u 0,.u 0] λU E f3=>IR E 0 rfl (0,0,0) ?_;have:=V U E.fr;rw[eF,iP (G)] at this;exact this;have hr:=G;obtain⟨n,rfl⟩:∃n:Nat,t=n:=⟨t.toNat,oJ⟩;have ae:n<8:=oJ;have af:=J.x9;refine fO<|qu oJ ?_;simp only[Addr.j3,zJ];have e3:((M.Q4.map (Value.int .u32)).drop (3*n)).take 3=[.u (M.Q4.getD (3*n) 0),.u (M.Q4.getD (3*n+1) 0),.u (M.Q4.getD (3*n+2) 0)]:=by rw[zX (by rw[zK];omega),zX (by rw[zK];omega),zX (by rw[zK];omega)];simp only[take_succ_cons,take_zero,getElem_map];rw[getElem_eq_getD 0,getElem_eq_getD 0,getElem_eq_getD 0]
 refine wL R.cell (M.Q4.getD (3*n) 0,M.Q4.getD (3*n+1) 0,M.Q4.getD (3*n+2) 0) ?_ ?_;have hd:=DO (db:=db) (J1:=M.J1) (sl:=sl) (sn:=sn) (x8:=M.x8) (Q5:=M.Q5) (fb:=fb) (defb:=defb) (mb:=mb) (Q4:=M.Q4) J.x4 J.x9;have I:(gi db M.J1 sl sn M.x8 M.Q5 fb defb mb M.Q4).toList.drop 36=M.Q4.map (Value.int .u32):=by
  rw[<- hd,zS];have:=quc (db:=db) (J1:=M.J1) (sl:=sl) (sn:=sn) (x8:=M.x8) (Q5:=M.Q5) (fb:=fb) (defb:=defb) (mb:=mb) (Q4:=M.Q4) J.x4;rw[yB,IJ];omega
 rw[show 0+33+3+n*3=36+3*n by omega,<- xE,I];exact e3;refine oD ho 0 rfl #[.u (M.Q4.getD (3*n) 0),.u (M.Q4.getD (3*n+1) 0),.u (M.Q4.getD (3*n+2) 0)] λU E f3=>IR E 0 rfl (M.Q4.getD (3*n) 0,M.Q4.getD (3*n+1) 0,M.Q4.getD (3*n+2) 0) ?_;have:=V U E.fr;rw[eF,iN hr,zJ] at this;exact this
end
def qvY{dbk pb:Nat}{X FD F:IS}{D:dV}{M:eH}{k:Nat}{n:Int}{K:I4->WP}(ad:fl w dbk FD D)(aa:mn D k)(ab:eW w X pb (qb dbk M) F M)(hv:Hv w)(hn:ia n)(hl:M.Q7.length<=1000000)(hb:∀e∈M.Q0,e.2.2.length<=100000)(hk:∀s w',(∀G:IS,(∀b∈G,b<w.heap.size)->eN G w' s (dU D M n).2.1)->Fr [] w w'->K ((dU D M n).1,s,(dU D M n).2.2) w'): cW 117 [dS pb,.u n] dt w K:=by
 have ae:=ab;obtain⟨fb,defb,mb,sl,sn,F1,F2,fs,rfl,hx⟩:=ab;refine qjE ?_;have af:∀ {a:Int} {e:Int} {w':IK},dU D M n=(a,[],e)->Fr [] w w'->K (a,dT,e) w':=λhe f=>by
  have:=hk dT _ (λG hG=>by rw[he];exact .nil _ _ _ _) f;rw[he] at this;exact this
 refine fO (iv hx.cell M.Q5 (Aw hx.x4) ?_);refine eB (λJ=>af (by rw[dU,iP J]) (.refl _ _)) λJ=>?_;have R:¬M.Q5=true:=(by rw[J];decide);have aq:qb dbk M=pW dbk:=iN R;refine fO ?_;simp only[Addr.j3];refine iv hx.cell (some mb) (tN hx.x4) ?_;have h:look n M.Q0=(look n fs).map λq=>(q.1,q.2.1,q.2.2.2):=(by rw[hx.Q0];exact wI (λe:lG=>(e.1,e.2.2)) n fs);refine Dh hx.map.at (λq hq=>?_) λhq=>?_;rw[hq] at h;have h:look n M.Q0=some (q.1,q.2.1,q.2.2.2):=h;refine oB (oE [] w) λr w1 e1 f1 ho=>oD ho 0 rfl #[.b q.2.1,q.2.2.1.v] λw2 V f2=>?_;have U:=V.drew;refine Im rfl<|IQ U 0 rfl q.2.1<|IQ U 0 rfl q.2.2.1 ?_;have au:=(tX hq).2;have av:=hx.rows.cM _ au;have ai:=(tX h).2;refine Aa (av.q8 U.fr) (zL (hb _ ai) oM) λs2 B2 w3 b2 f3 n2 _ _=>?_;have aj:=U.q8 f3;refine iS (aj.cell 0) ?_;have E:dU D M n=(q.2.1,q.2.2.2,0):=by rw[dU,iN R,h]
 have:=hk s2 w3 (λG hG=>by rw[E];exact fj.jQ lY b2 λb hb hm=>by have:=n2 b hb;have:=hG b hm;have:=U.fr.size;omega) aj.fr;rw[E] at this;exact this;rw[hq] at h;have h:look n M.Q0=none:=h;refine oB (oE [] w) λr w1 e1 f1 ho=>oD ho 0 rfl #[.b 0,.slice none 0 0] λw2 V f2=>Io rfl<|qq8 (ae.q8 V.fr) hl λw3 f3=>?_;have I:=V.fr.trans f3;have ak:=hx.q8 I;apply eB<;>intro J;have hu:gI M n=false:=(oP J);exact af (by rw[dU,iN R,h];exact iP hu) I;have hu:¬gI M n=false:=(oP J);rw[aq] at ak;refine fO (iv ak.cell (pW dbk) Eh ?_);rw[gG n (by have:=hn.1;have:=hn.2;omega)];refine Eg (ad.q8 I) aa.ok λs5 B5 w5 b5 f5 n5=>?_;apply eB<;>intro J;have he:(eS D n).2≠0:=(oP J);exact af (by rw[dU,iN R,h];exact (iN hu).trans (iP he)) (I.trans f5);have he:¬(eS D n).2≠0:=(oP J);have ay:=wC aa.ok n;refine HI (b5.jQ lY (S:=[]) oL) (hv.q8 (I.trans f5)) ay.1 oJ λs6 B6 w6 b6 f6 n6=>?_;have E:dU D M n=fx n (eS D n).1:=by rw[dU,iN R,h];exact (iN hu).trans (iN he)
 have:=hk s6 w6 (λG hG=>by rw[E];exact fj.jQ lY b6 λb hb hm=>by have:=n6 b hb;have:=hG b hm;have:=(I.trans f5).size;omega) ((I.trans f5).trans f6);rw[E] at this;exact this
end
section
open Go Go.Pt List
open Go.IntKind (wrap)
def mn.new{n:Nat}(h:n<=4096):mn (nP n) 0:=⟨qzM h,by simp[nP],by simp[nP]⟩
def sE (n:Nat):IT:=(fQ n).take (eZ (fQ n).length)
def om (n:Nat):IT:=(fQ n).drop (eZ (fQ n).length)
def kO (n:Nat):eH:=iR (k7 n) (sE n) (om n) 1 false (om n)
def qzJ{n:Nat}(h:8<=n)(u:n<=4096):(kO n).Wf:=by have e:(k7 n).2.getD 0 0=n:=(by show wrap .u32 (n:Int)=_;exact pA _ oJ);exact FH (by rw[e];exact qnx) (by rw[e];omega) (GE h u).u32
structure Made (D:dV) (n:Nat):Prop where
 quiet:fk D
 size:D.size=n
 Q9:D.Q9=[]
 opens:pT D (k7 n) (sE n) (om n)
 fmt:ma (nP n)=(D,0)
 zero:view D 0=zs 512
end
section
open Go Go.Pt List
open Go.IntKind (wrap)
open Classical
variable {P:IT} {t:Int}
def k9 (t:Int) (s:IV×eH) (u h:Int):Int×eH:=if s.1.2≠0 then (s.1.2,s.2) else fy s.2 t s.1.1 u h
noncomputable def sX (k v:Nat) (t:Int) (r:I3) (x:(Grown×Int)×eH):Int×eH:=
 if x.1.2≠0 then (x.1.2,x.2)
 else if x.1.1.x6≠0 then k9 t (ee k v x.2 0 ⟨false,[x.1.1.key],[],[x.1.1.x7,x.1.1.x6]⟩) (if x.1.1.Q0 then wrap .u32 (r.2.1+1) else r.2.1) (wrap .u32 (r.2.2+1))
 else fy x.2 t x.1.1.x7 (if x.1.1.Q0 then wrap .u32 (r.2.1+1) else r.2.1) r.2.2
noncomputable def jZ (D:dV) (k v:Nat) (t:Int) (key val:Key) (f:Nat) (M:eH):Int×eH:=
 if (eF M t).1=0 then k9 t (ee k v M 0 (eM [(key,val)])) 1 1 else sX k v t (eF M t) (iD D k v key val f M (eF M t).1)
noncomputable def mS (k v:Nat) (t:Int) (r:I3) (x:(dY×Int)×eH):Int×eH:=
 if x.1.2≠0 then (x.1.2,x.2)
 else if x.1.1.Q6=true/\x.1.1.J8.length=0 then (if (fK x.2 r.1).1≠0 then ((fK x.2 r.1).1,(fK x.2 r.1).2) else fy (fK x.2 r.1).2 t 0 0 0)
 else if x.1.1.Q6=false/\x.1.1.Q1.length=1 then (if (fK x.2 r.1).1≠0 then ((fK x.2 r.1).1,(fK x.2 r.1).2) else fy (fK x.2 r.1).2 t (x.1.1.Q1.getD 0 0) (wrap .u32 (r.2.1-1)) (wrap .u32 (r.2.2-1)))
 else k9 t (ee k v x.2 r.1 x.1.1) (wrap .u32 (r.2.1-1)) r.2.2
noncomputable def lu (D:dV) (k v:Nat) (t:Int) (key:Key) (f:Nat) (M:eH):Int×eH:=mS k v t (eF M t) (iJ D k v key f M (eF M t).1)
def gq (D:dV) (M:eH) (k v:Nat) (t:Int) (L:gr) (P:IT):Prop:=
 (eF M t=(0,0,0)/\L=[]/\P=[])\/∃h n p,p≠0/\eF M t=(p,(L.length:Int),((h+1:Nat):Int))/\Has D M k v h ⟨p,n,L,P⟩
structure oh (D:dV) (M M':eH) (t:Int) (P P':IT):Prop where
 step:Step D M { M' with Q4:=M.Q4 } P P'
 wf:M'.Wf
 len:M'.Q4.length=24
 others:∀ t':Int,t'≠t->eF M' t'=eF M t'
section
variable {D:dV} {M M':eH} {k v:Nat}
def qyG{a b c:Int}(V:0<=t/\t<8)(I:M.Q5=false)(hr:M.Q4.length=24):∃R,fy M t a b c=(0,{ M with Q4:=R })/\R.length=24/\eF { M with Q4:=R } t=(a,b,c)/\(∀E:Int,E≠t->eF { M with Q4:=R } E=eF M E)/\∀x∈R,x∈M.Q4\/x=a\/x=b\/x=c:=by
 obtain⟨n,rfl⟩:∃n:Nat,t=n:=⟨t.toNat,oJ⟩;have hn:n<8:=oJ;have e:fy M n a b c=(0,{ M with Q4:=M.Q4.take (3*n)++[a,b,c]++M.Q4.drop (3*n+3) }):=by rw[fy,iN (by rw[I];decide),iN,zJ]
 have J:(M.Q4.take (3*n)).length=3*n:=(by rw[yL];omega);have h:∀i,(M.Q4.take (3*n)++[a,b,c]++M.Q4.drop (3*n+3)).getD i 0=if i=3*n then a else if i=3*n+1 then b else if i=3*n+2 then c else M.Q4.getD i 0:=λi=>by rw[zV,yR];by_cases h1:i<3*n;rw[yZ oJ,xB,iP h1,iN,iN,iN,yR];rw[yY oJ,J];by_cases h2:i=3*n;rw[iP h2,h2,Nat.sub_self];rfl;rw[iN h2];by_cases h3:i=3*n+1;rw[iP h3,h3,show 3*n+1-3*n=1 by omega];rfl;rw[iN h3];by_cases h4:i=3*n+2;rw[iP h4,h4,show 3*n+2-3*n=2 by omega];rfl;rw[iN h4,yY oO,xA,yR];congr 2;simp;omega
 refine⟨_,e,?_,?_,λE G=>?_,λx u=>?_⟩;simp only[zF,yL,yB,yI,xL];omega;rw[eF,iN,zJ];dsimp only;rw[h,h,h,iP rfl,iN,iP rfl,iN,iN,iP rfl];unfold eF;by_cases hr':E<0\/E>7;rw[iP hr',iP hr'];rw[iN hr',iN hr'];dsimp only;have U:E.toNat≠n:=λe=>G oJ;rw[h,h,h,iN,iN,iN,iN,iN,iN,iN,iN,iN];rcases zD.1 u with u|u;rcases zD.1 u with u|u;exact .inl (yV u);simp only[zG,xY,or_false] at u;exact .inr u;exact .inl (yU u)
def qsL{R:IT}(h:M.Wf)(u:∀x∈R,ia x):({ M with Q4:=R }:eH).Wf:=⟨h.n4,h.u32,u,h.cZ,h.x5,h.dG,h.rC,h.nodup,h.range,h.body⟩
def Has.Q4{h:Nat}{s:iK}{R:IT}(u:Has D M k v h s):Has D { M with Q4:=R } k v h s:=u.j1 λx _=>rfl
def Step.J7{P':IT}{a b c:Int}(G:0<=t/\t<8)(I:M.Q4.length=24)(h:Step D M M' P P')(J:ia a)(U:ia b)(V:ia c): ∃R,fy M' t a b c=(0,{ M' with Q4:=R })/\oh D M { M' with Q4:=R } t P P'/\eF { M' with Q4:=R } t=(a,b,c):=by obtain⟨R,e,hl,h1,h2,h3⟩:=qyG (a:=a) (b:=b) (c:=c) G h.Q5 (by rw[h.Q4];exact I);refine⟨R,e,⟨?_,qsL h.wf λx hx=>?_,hl,λt' E=>?_⟩,h1⟩;have e':({ M' with Q4:=M.Q4 }:eH)=M':=(by rw[<- h.Q4]);show Step D M { M' with Q4:=M.Q4 } P P';rw[e'];exact h;rcases h3 x hx with u|u|u|u;exact h.wf.Q4 x u;rw[u];exact J;rw[u];exact U;rw[u];exact V;rw[h2 t' E];unfold eF;rw[h.Q4]
def Has.counts:∀ {h:Nat} {s:iK},Has D M k v h s->h+1<=s.y9.length/\s.cC.length+1<=2*s.y9.length
 | 0,s,E=>by have J:=length_pos_iff.2 E.ne;rw[E.1];simp;omega
 | h+1,s,⟨G,h0,J,R,U,V,h5,h6,h7⟩=>by
  have h8:=V.right.y6.1;rw[R,U];have key:∀l:List ij,(∀e∈l,Has D M k v h e.2)->l.length*(h+1)<=(l.flatMap (·.2.y9)).length/\(l.flatMap (·.2.cC)).length+l.length<=2*(l.flatMap (·.2.y9)).length:=by
   intro l;induction l with
   | nil=>intro _;exact⟨oL,oL⟩
   | cons a l ih=>
    intro I;have i:=ih λe u=>I e (zN _ u);have j:=(I a oL).counts;rw[yH,yH,zF,zF,yI,xV];omega
  have:=key G λe u=>(h7 e u).1;have h9:2*(h+1)<=G.length*(h+1):=IB _ h8;rw[yI];omega
def qwJ(hc:iE k v){key val:Key}{L:gr}(ht:0<=t/\t<8)(hk:key.length=k/\eX key)(hv:val.length=v/\eX val)(hT:gq D M k v t L P)(hW:M.Wf)(ho:M.Q5=false)(hr:M.Q4.length=24)(hn:P.Nodup)(hL:L.length<=1000000)(hf:2*(eF M t).2.2.toNat+1<=M.Q3.length): ∃M' P',jZ D k v t key val (eF M t).2.2.toNat M=(0,M')/\gq D M' k v t (gf key val L) P'/\oh D M M' t P P'/\M.Q3.length<=M'.Q3.length+(2*(eF M t).2.2.toNat+1):=by
 have a1:=Cu (k:=k) (v:=v);rcases hT with ⟨e0,rfl,rfl⟩|⟨h,n,p,aM,er,hs⟩;unfold jZ;rw[e0,iP rfl];have aN:mI k v [(key,val)]:=λx hx=>by rw[zE.1 hx];exact⟨hk.1,hv.1,hk.2,hv.2⟩
 have hN:=Bc (k:=k) (v:=v) aN (pairwise_singleton _ _) oL (by have:=hc.Q6;simp;omega);obtain⟨q,M1,e1,st,ah,hl,ai⟩:=Fq (D:=D) hW ho hN (λe=>by rw[e] at hf;simp at hf);have hu:=st.has q oL;have hq:=uO st.wf hu;obtain⟨R,e2,rs,E⟩:=st.J7 (a:=q) (b:=1) (c:=1) ht hr ⟨oJ,hq.2⟩ ⟨oM,oM⟩ ⟨oM,oM⟩;refine⟨{ M1 with Q4:=R },[q],?_,.inr ⟨0,1,q,ai,E,?_⟩,rs,by show M.Q3.length<=M1.Q3.length+_;omega⟩;unfold k9;rw[e1];dsimp only;rw[iN λh=>h rfl,e2];have:=BY hN ah;exact this.Q4;rw[er] at hf;have aq:(((h+1:Nat):Int)).toNat=h+1:=zJ _;dsimp only at hf;rw[aq] at hf;have ar:=hs.counts;dsimp only at ar;obtain⟨g,M1,eg,ok⟩:=qui hc hk hv h M ⟨p,n,L,P⟩ hs hW ho hn (by
  have h9:=hs.load;obtain⟨N,R,_,hN,_⟩:=h9;show n<=1000;cases h with
  | zero=>have:=hN.2.2.2.2.2;dsimp only at this;omega
  | succ h=>obtain⟨_,_,_,_,_,_,_,_,h8,_⟩:=hN;dsimp only at h8;omega) oJ
 have au:=ok.Q3;have G:=ok.Q0;dsimp only at eg G;have u:((gf key val L).length:Int)=if g.Q0 then wrap .u32 ((L.length:Int)+1) else (L.length:Int):=by rw[G];by_cases hm:key∈eh L;rw[zU λh=>h hm,iN oM,EB hs.sort hm];rw[zZ hm,iP rfl,C4 hm,pA _ oJ];omega
 have av:ia (if g.Q0 then wrap .u32 ((L.length:Int)+1) else (L.length:Int)):=by
  rw[<- u];have h1:(gf key val L).length<=L.length+1:=by by_cases hm:key∈eh L;rw[EB (show fD L from hs.sort) hm];omega;rw[C4 hm];exact zM _
  exact⟨oJ,oJ⟩
 unfold jZ;rw[er,iN (show ¬p=0 from aM)];dsimp only;rw[aq,eg];unfold sX;dsimp only;rw[iN λh=>h rfl];rcases ok.DA with ⟨ak,n',P',hH,st,_⟩|⟨ak,n1,L1,J,n2,U,I,ab,ac,aw,aT,aU,ax,ay,aV,aW,st⟩;rw[iN λh=>h ak];have hu:=hH.J6 st.Q5 g.x7 hH.mem;have hq:=uO st.wf hu;obtain⟨R,e2,rs,E⟩:=st.J7 (a:=g.x7) (b:=if g.Q0 then wrap .u32 ((L.length:Int)+1) else (L.length:Int)) (c:=((h+1:Nat):Int)) ht hr ⟨oJ,hq.2⟩ av ⟨oJ,oJ⟩;rw[<- u] at E e2;refine⟨{ M1 with Q4:=R },P',?_,.inr ⟨h,n',g.x7,oJ,E,hH.Q4⟩,rs,by show M.Q3.length<=M1.Q3.length+_;omega⟩;rw[<- u];exact e2;rw[iP ak];have a7:=uO st.wf (ab.J6 st.Q5 g.x7 ab.mem);have a8:=uO st.wf (ac.J6 st.Q5 g.x6 ac.mem);have az:L1≠[]:=ab.ne;have aA:U≠[]:=ac.ne;have ag:gg [([],(⟨g.x7,n1,L1,J⟩:iK)),(g.key,⟨g.x6,n2,U,I⟩)]:=
  (gg.yw (A:=[]) (B:=[]) (lo:=[]) (s:=⟨0,0,L1++U,[]⟩) (s1:=⟨g.x7,n1,L1,J⟩) (s2:=⟨g.x6,n2,U,I⟩) (m:=g.key) (HP λx _=>BD _) rfl aT aU az aA)
 have hp:∀e∈[([],(⟨g.x7,n1,L1,J⟩:iK)),(g.key,⟨g.x6,n2,U,I⟩)],Has D M1 k v h e.2/\minOf k v h<=e.2.size:=λe V=>by simp only[zG,xY,or_false] at V;rcases V with rfl|rfl;exact⟨ab,aV⟩;exact⟨ac,aW⟩
 have aX:gR k [([],(⟨g.x7,n1,L1,J⟩:iK)),(g.key,⟨g.x6,n2,U,I⟩)]:=λe V=>by rw[zE.1 (show e∈[(g.key,(⟨g.x6,n2,U,I⟩:iK))] from V)];exact⟨ax,ay⟩
 have hN:=Ae st.wf st.Q5 aX ag oL (by have:=hc.inner;simp;omega) λe V=>(hp e V).1;obtain⟨q,M2,e1,ad,ah,a9,ai⟩:=Fq (D:=D) st.wf st.Q5 hN (λe=>by rw[e] at au;simp at au;omega);have aC:∀e∈[([],(⟨g.x7,n1,L1,J⟩:iK)),(g.key,⟨g.x6,n2,U,I⟩)],Has D M2 k v h e.2/\minOf k v h<=e.2.size:=λe V=>
  ⟨(hp e V).1.j1 λx hx=>(ad.rest x ((hp e V).1.J6 st.Q5 x hx) oL).1,(hp e V).2⟩
 have hI:=Al (h:=h) rfl hN ah ag aC;have aD:Step D M1 M2 (J++I) (q::(J++I)):=by
  have:=ad.beside (Z:=J++I) st.has (oP st.nodup);exact this.perm oL perm_append_comm
 have aE:=st.trans aD;have hq:=uO ad.wf (ad.has q oL);obtain⟨R,e2,rs,E⟩:=aE.J7 (a:=q) (b:=if g.Q0 then wrap .u32 ((L.length:Int)+1) else (L.length:Int)) (c:=((h+1+1:Nat):Int)) ht hr ⟨oJ,hq.2⟩ av ⟨oJ,oJ⟩;have e3:ee k v M1 0 ⟨false,[g.key],[],[g.x7,g.x6]⟩=((q,0),M2):=e1;have aY:wrap .u32 ((((h+1:Nat):Int))+1)=((h+1+1:Nat):Int):=(by rw[pA _ oJ];omega);rw[<- u] at E e2;refine⟨{ M2 with Q4:=R },q::(J++I),?_,.inr ⟨h+1,2,q,ai,E,?_⟩,rs,by show M.Q3.length<=M2.Q3.length+_;omega⟩;unfold k9;rw[e3,aY,<- u];dsimp only;rw[iN λh=>h rfl,e2];have h9:=hI.Q4 (R:=R);have e5:[([],(⟨g.x7,n1,L1,J⟩:iK)),(g.key,⟨g.x6,n2,U,I⟩)].flatMap (·.2.y9)=gf key val L:=(by rw[<- aw];simp);have e6:[([],(⟨g.x7,n1,L1,J⟩:iK)),(g.key,⟨g.x6,n2,U,I⟩)].flatMap (·.2.cC)=J++I:=oL;rw[e5,e6] at h9;exact h9
def qxg(hc:iE k v){key:Key}{L:gr}(ht:0<=t/\t<8)(hT:gq D M k v t L P)(J:key∈eh L)(hW:M.Wf)(ho:M.Q5=false)(hr:M.Q4.length=24)(hn:P.Nodup)(hL:L.length<=1000000)(hf:2*(eF M t).2.2.toNat+1<=M.Q3.length): ∃M' P',lu D k v t key (eF M t).2.2.toNat M=(0,M')/\gq D M' k v t (gL key L) P'/\oh D M M' t P P'/\M.Q3.length<=M'.Q3.length+(2*(eF M t).2.2.toNat+1):=by
 rcases hT with ⟨e0,rfl,rfl⟩|⟨h,n,p,a2,er,hs⟩;cases J;rw[er] at hf;have ar:(((h+1:Nat):Int)).toNat=h+1:=zJ _;dsimp only at hf;rw[ar] at hf;have au:=hs.counts;dsimp only at au;obtain⟨N,m,M1,R,R',ec,hP,hN,st,aI,a3⟩:=Fy hc h M ⟨p,n,L,P⟩ hs hW ho hn J oJ;dsimp only at ec hP;subst hP;have I:=hs.sort;dsimp only at I;have aW:(gL key L).length+1=L.length:=by
  have hm:=(zq I).2 J;have hi:ed (eh L) key<L.length:=by
   have:=(zP.1 hm).1;simpa using this
  rw[qnp I J,zF,yL,yB];omega
 have aJ:wrap .u32 ((L.length:Int)-1)=((gL key L).length:Int):=(by rw[pA _ oJ];omega);have ak:ia ((gL key L).length:Int):=⟨oJ,oJ⟩;have al:eA M p:=hs.J6 ho p oL;have av:p∉R:=(nodup_cons.1 hn).1;have U:=(st.rest p al av).2.1;have V:=(st.rest p al av).2.2;have am:Step D M M1 (p::R) (p::R'):=st.beside (Z:=[p]) (λx hx=>by rw[zE.1 hx];exact al) (oP hn);unfold lu;rw[er];dsimp only;rw[ar,ec];unfold mS;dsimp only;rw[iN λh=>h rfl,aJ];have ah:∀ {a b c:Int},ia a->ia b->ia c->∃u RR,fK M1 p=(0,u)/\fy u t a b c=(0,{ u with Q4:=RR })/\oh D M { u with Q4:=RR } t (p::R) R'/\eF { u with Q4:=RR } t=(a,b,c)/\M1.Q3.length<=u.Q3.length/\∀x∈R',dU D u x=dU D M1 x:=λha hb aK=>by
  obtain⟨u,e2,E,ab⟩:=qpF (D:=D) st.wf st.Q5 U;have h9:=E.beside (Z:=R') (λx hx=>st.has x hx) (by
   have:=am.nodup;exact (Iq p R').nodup_iff.2 this)
  rw[xI] at h9;have h8:=(am.perm (.refl _) (Iq p R').symm).trans h9;obtain⟨RR,e3,rs,G⟩:=h8.J7 (t:=t) ht hr ha hb aK;exact⟨u,RR,e2,e3,rs,G,ab,λx hx=>(E.rest x (st.has x hx) λhm=>V (by rw[<- zE.1 hm];exact hx)).1⟩
 cases h with
 | zero=>
  have an:=hN;have aL:R=[]:=(vD (show p::R=[p] from hs.1)).2;subst aL;obtain⟨rfl,hm,rfl,a7,aM,aw⟩:=hN;dsimp only at hm;have ac:(eM (gL key L)).J8.length=(gL key L).length:=zK _;by_cases hz:(gL key L).length=0;rw[iP ⟨rfl,by rw[ac];exact hz⟩];have ax:gL key L=[]:=Iy hz;obtain⟨u,RR,e2,e3,rs,G,ab,_⟩:=ah (a:=0) (b:=0) (c:=0) ⟨oM,oM⟩ ⟨oM,oM⟩ ⟨oM,oM⟩;rw[e2];dsimp only;rw[iN λh=>h rfl,e3];exact⟨_,[],rfl,.inl ⟨G,ax,rfl⟩,rs,by show M.Q3.length<=u.Q3.length+_;omega⟩;rw[iN (λh=>hz (by rw[<- ac];exact h.2)),iN λh=>nomatch h.1];obtain⟨q,u,e2,E,H2,ab⟩:=an.store st.wf st.Q5 (show 1<=m by omega) U V oJ;have ao:Step D M u [p] [q]:=am.trans E;have hq:=uO E.wf (E.has q oL);obtain⟨RR,e3,rs,G⟩:=ao.J7 (a:=q) (b:=((gL key L).length:Int)) (c:=((0+1:Nat):Int)) ht hr ⟨oJ,hq.2⟩ ak ⟨oM,oM⟩;refine⟨{ u with Q4:=RR },[q],?_,.inr ⟨0,m,q,oJ,G,H2.Q4⟩,rs,by show M.Q3.length<=u.Q3.length+_;omega⟩;unfold k9;rw[e2];dsimp only;rw[iN λh=>h rfl,e3]
 | succ h=>
  have an:=hN;obtain⟨es,hh,rfl,hm,aO,rfl,hk,aM,aw,hp⟩:=hN;have ac:(dZ es).Q1.length=es.length:=(by show (es.map _).length=_;rw[zK]);have aY:2<=n:=by
   obtain⟨a9,_,g1,_,_,g4,_⟩:=hs;have:=g4.right.y6;dsimp only at g1;omega
  dsimp only at aI;rw[iN λh=>nomatch h.1];by_cases h1:es.length=1;rw[iP ⟨rfl,by rw[ac];exact h1⟩];obtain⟨e,rfl⟩:∃e,es=[e]:=by
   match es,h1 with
   | [e],_=>exact⟨e,rfl⟩
  have az:(dZ [e]).Q1.getD 0 0=e.2.x7:=rfl;rw[az];have he:=(hp e oL).1;have hq:=uO st.wf (he.J6 st.Q5 e.2.x7 he.mem);have aQ:wrap .u32 ((((h+1+1:Nat):Int))-1)=((h+1:Nat):Int):=(by rw[pA _ oJ];omega);rw[aQ];obtain⟨u,RR,e2,e3,rs,G,ab,aR⟩:=ah (a:=e.2.x7) (b:=((gL key L).length:Int)) (c:=((h+1:Nat):Int)) ⟨oJ,hq.2⟩ ak ⟨oJ,oJ⟩;rw[e2];dsimp only;rw[iN λh=>h rfl,e3];have aA:gL key L=e.2.y9:=(by rw[aO];simp);have aB:[e].flatMap (·.2.cC)=e.2.cC:=oL;refine⟨_,_,rfl,.inr ⟨h,e.2.size,e.2.x7,oJ,G,?_⟩,rs,by show M.Q3.length<=u.Q3.length+_;omega⟩;rw[aA,aB];exact (he.j1 λx hx=>aR x (by rw[aB];exact hx)).Q4;rw[iN λh=>h1 (by rw[<- ac];exact h.2)];have h2:2<=m:=oJ;obtain⟨q,u,e2,E,H2,ab⟩:=an.store st.wf st.Q5 (show 2<=m from h2) U V oJ;have ao:Step D M u (p::R) ([q]++es.flatMap (·.2.cC)):=Step.kid (Q:=[q]) (hs.J6 ho) hn st E;have hq:=uO E.wf (E.has q oL);obtain⟨RR,e3,rs,G⟩:=ao.J7 (a:=q) (b:=((gL key L).length:Int)) (c:=((h+1+1:Nat):Int)) ht hr ⟨oJ,hq.2⟩ ak ⟨oJ,oJ⟩;refine⟨{ u with Q4:=RR },[q]++es.flatMap (·.2.cC),?_,.inr ⟨h+1,m,q,oJ,G,H2.Q4⟩,rs,by show M.Q3.length<=u.Q3.length+_;omega⟩;unfold k9;rw[e2];dsimp only;rw[iN λh=>h rfl,e3]
end
section
def qor{D:dV}{M:eH}{k v:Nat}{L:gr}(E:gq D M k v t L P):(eF M t).2.2.toNat<=L.length/\P.length<=2*L.length/\(eF M t).2.1=L.length/\0<=(eF M t).2.2:=by
 rcases E with ⟨u,rfl,rfl⟩|⟨h,n,p,I,u,G⟩;rw[u];exact⟨zM _,zM _,rfl,Int.le_refl _⟩;have:=G.counts;dsimp only at this;rw[u];dsimp only;rw[zJ];omega
def gq.sort{D:dV}{M:eH}{k v:Nat}{t:Int}{L:gr}{P:IT}(E:gq D M k v t L P):fD L/\mI k v L:=by rcases E with ⟨_,rfl,_⟩|⟨h,n,p,I,J,u⟩;exact⟨.nil,λx G=>nomatch G⟩;exact⟨u.sort,u.xa⟩
def qz2(h:Be t):∃k v:Nat,si t=((k:Int),(v:Int))/\iE k v/\1<=k/\k<=24/\1<=v/\v<=108:=by obtain⟨u,E⟩:=h;have:t=0\/t=1\/t=2\/t=3\/t=4\/t=5\/t=6\/t=7:=oJ;rcases this with rfl|rfl|rfl|rfl|rfl|rfl|rfl|rfl;exact⟨16,88,rfl,⟨oM,oM⟩,oM,oM,oM,oM⟩;exact⟨16,108,rfl,⟨oM,oM⟩,oM,oM,oM,oM⟩;exact⟨16,1,rfl,⟨oM,oM⟩,oM,oM,oM,oM⟩;exact⟨16,16,rfl,⟨oM,oM⟩,oM,oM,oM,oM⟩;exact⟨24,16,rfl,⟨oM,oM⟩,oM,oM,oM,oM⟩;exact⟨24,16,rfl,⟨oM,oM⟩,oM,oM,oM,oM⟩;exact⟨24,65,rfl,⟨oM,oM⟩,oM,oM,oM,oM⟩;exact⟨1,8,rfl,⟨oM,oM⟩,oM,oM,oM,oM⟩
structure zy (D:dV) (M:eH) (k v c:Nat) (t:Int) (L:gr) (P:IT):Prop where
 J4:gq D M k v t L P
 wf:M.Wf
 Q5:M.Q5=false
 len:M.Q4.length=24
 nodup:P.Nodup
 x5:M.y7
 many:M.x5.length=c
 use:∀ x,eA M x->x∈P
section
variable {D:dV} {M M':eH} {k v c:Nat} {t:Int} {L L':gr} {P P':IT}
end
def qqt{D:dV}{n k v:Nat}(ht:0<=t/\t<8)(h8:8<=n)(h4:n<=4096)(U:(kO n).Wf):zy D (kO n) k v ((n-2)-eZ (n-2)) t [] []:=by
 have J:(kO n).Q4=zs 24:=rfl;have u:(zs 24).length=24:=(by simp[zs]);have G:∀i,(zs 24).getD i 0=0:=λi=>by rw[yR];unfold zs;rw[List.getElem?_replicate];split<;>rfl
 refine⟨.inl ⟨?_,rfl,rfl⟩,U,rfl,by rw[J];exact u,.nil,qlI _ _ _ _ _,?_,λx E=>?_⟩;unfold eF;split;rfl;rw[J,G,G,G];show (om n).length=_;unfold om;rw[yB,Ab];rcases E with E|E;cases E;obtain⟨V,R,h3,I,h5,_⟩:=sP.1 E;have e:(kO n).J1.2.getD 0 0=n:=(by show wrap .u32 (n:Int)=_;exact pA _ oJ);rw[e] at R;have h:=Ai.2 ⟨V,R⟩;rw[<- xF (eZ (fQ n).length) (fQ n)] at h;rcases zD.1 h with h|h;exact absurd h h3;exact absurd h I
end
section
section
variable {D:dV} {M M':eH} {k v c:Nat} {t:Int} {L L':gr} {P P':IT}
def Has.rR(R:4<=(eE k v).1):∀ {h:Nat} {s:iK},Has D M k v h s->minOf k v h<=s.size->s.cC.length+1<=s.y9.length
 | 0,s,G,I=>by have J:(eE k v).1 / 2<=s.size:=I;rw[G.2.1] at J;rw[G.1,xN];omega
 | h+1,s,⟨U,h0,J,V,h3,u,h5,h6,h7⟩,I=>by
  have h8:=u.right.y6.1;rw[V,h3];have key:∀l:List ij,(∀e∈l,Has D M k v h e.2/\minOf k v h<=e.2.size)->(l.flatMap (·.2.cC)).length+l.length<=(l.flatMap (·.2.y9)).length:=by
   intro l;induction l with
   | nil=>intro _;simp
   | cons a l ih=>
    intro E;have i:=ih λe he=>E e (zN _ he);have j:=Has.rR R (E a oL).1 (E a oL).2;rw[yH,yH,zF,zF,yI];omega
  have:=key U h7;rw[yI];omega
def Has.dE(I:4<=(eE k v).1){h:Nat}{s:iK}(u:Has D M k v h s):s.cC.length<=s.y9.length:=by
 cases h with
 | zero=>
  have:=length_pos_iff.2 u.ne;rw[u.1,xN];omega
 | succ h=>
  obtain⟨J,h0,h1,R,U,E,h5,h6,V⟩:=u;have h8:=E.right.y6.1;rw[R,U];have key:∀l:List ij,(∀e∈l,Has D M k v h e.2/\minOf k v h<=e.2.size)->(l.flatMap (·.2.cC)).length+l.length<=(l.flatMap (·.2.y9)).length:=by
   intro l;induction l with
   | nil=>intro _;simp
   | cons a l ih=>
    intro G;have i:=ih λe he=>G e (zN _ he);have j:=Has.rR I (G a oL).1 (G a oL).2;rw[yH,yH,zF,zF,yI];omega
  have:=key J V;rw[yI];omega
def gq.dE(u:4<=(eE k v).1)(E:gq D M k v t L P):P.length<=L.length:=by rcases E with ⟨G,rfl,rfl⟩|⟨h,n,p,J,G,I⟩;exact zM _;exact I.dE u
end
end
section
section
variable {D D':dV} {M M':eH} {k v:Nat} {t:Int} {L:gr} {P:IT}
def Has.cT:∀ {h:Nat} {s:iK},Has D M k v h s->(∀x∈s.cC,dU D' M' x=dU D M x)->Has D' M' k v h s
 | 0,s,⟨E,I,u,J⟩,G=>⟨E,I,u,by rw[G s.x7 (by rw[E];simp)];exact J⟩
 | h+1,s,⟨V,h0,E,I,u,J,h5,h6,U⟩,G=>⟨V,h0,E,I,u,J,by rw[G s.x7 (by rw[u];simp)];exact h5,h6,λe R=>⟨(U e R).1.cT λx hx=>G x (by rw[u];exact zN _ (yK.2 ⟨e,R,hx⟩)),(U e R).2⟩⟩
structure Calm (D:dV) (M:eH) (b q:Nat):Prop where
 quiet:fk D
 Q9:D.Q9=[]
 size:D.size=b
 blocks:M.J1.2.getD 0 0=b
 b8:8<=b
 wf:M.Wf
 x5:M.y7
 Q5:M.Q5=false
 len:M.Q4.length=24
 seq:0<=M.J1.1/\M.J1.1<=q
 x8:0<=M.x8/\M.x8<=q
structure Kept (D:dV) (M:eH) (D':dV) (M':eH):Prop where
 Q4:M'.Q4=M.Q4
 use:∀ x,eA M' x↔eA M x
 read:∀ x,eA M x->dU D' M' x=dU D M x
def gq.kept(h:gq D M k v t L P)(G:M.Q5=false)(u:Kept D M D' M'):gq D' M' k v t L P:=by have e:eF M' t=eF M t:=(by unfold eF;rw[u.Q4]);rcases h with ⟨I,J,R⟩|⟨h,n,p,U,V,E⟩;exact .inl ⟨e.trans I,J,R⟩;exact .inr ⟨h,n,p,U,e.trans V,E.cT λx hx=>u.read x (E.J6 G x hx)⟩
def Calm.count{b q:Nat}(h:Calm D M b q)(G:∀x,eA M x->x∈P):b-2<=M.Q3.length+(M.J9.length+M.Q7.length)+P.length:=by
 have:(fQ b).length<=(M.Q3++(M.J9++(M.Q7++P))).length:=by refine List.Nodup.length_le_of_subset (xk (De b)) λx E=>?_;have E:=Ai.1 E;by_cases hm:x∈M.all;simp only[eH.all,zD] at hm⊢;rcases hm with u|u|u|u;exact .inl u;exact .inr (.inl u);exact .inr (.inr (.inl u));exact .inr (.inr (.inr (G x (.inl u))));simp only[zD];exact .inr (.inr (.inr (G x (.inr (xj.2 ⟨by rw[h.blocks];exact E,hm⟩)))))
 rw[Ab,zF,zF,zF] at this;omega
def qnP{a b:Nat}(h:a<=b):eZ a<=eZ b:=by unfold eZ;split;exact yX _;rw[iN];have:(a-1) / 124<=(b-1) / 124:=Nat.div_le_div_right oJ;omega
def qrr{b q:Nat}(h:Calm D M b q)(hq:q<=1000000)(hu:∀x,eA M x->x∈P)(hf:eZ b<=M.Q3.length): ∃D' M',gX D M=((D',M'),0)/\Calm D' M' b (q+1)/\Kept D M D' M'/\(M'=M\/b-2<=M'.x5.length+P.length+eZ b):=by
 have ab:M.Q3.length+(M.J9++M.Q7).length<=b:=by
  have:(M.Q3++(M.J9++M.Q7)).length<=(fQ b).length:=by
   refine List.Nodup.length_le_of_subset ?_ λx hx=>?_;have hn:=h.wf.nodup;refine hn.sublist ((List.Sublist.refl _).append ?_);rw[<- zV];exact sublist_append_left _ _;have:=h.wf.range x (by simp only[zD] at hx⊢;rcases hx with J|J|J;exact .inl J;exact .inr (.inl J);exact .inr (.inr (.inl J)));rw[h.blocks] at this;exact Ai.2 this
  rw[Ab,zF] at this;omega
 have hk:=qnP ab;have aj:=h.count hu;unfold gX;rw[iN (by rw[h.Q5];decide)];split;exact⟨D,M,rfl,⟨h.quiet,h.Q9,h.size,h.blocks,h.b8,h.wf,h.x5,h.Q5,h.len,by have:=h.seq;omega,by have:=h.x8;omega⟩,⟨rfl,λ_=>.rfl,λ_ _=>rfl⟩,.inl rfl⟩;cases I:jV M with
 | none=>
  unfold jV at I;rw[iN] at I;cases I
 | some y=>
  obtain⟨cC,x5⟩:=y;dsimp only;have ac:=h.seq;have aa:=qyr (cC:=cC) (x5:=x5) h.wf I h.len ⟨ac.1,oJ⟩;have V:M.J1.2.getD 0 0=D.size:=(by rw[h.blocks,h.size]);have R:=h.quiet.vj h.wf V (by have:=h.size;have:=h.b8;omega) I aa.1;rw[iN (by rw[R.1];simp)];have hv:=qs7 (qtG h.Q9) h.quiet.down h.wf I aa.1 R.1;have ae:=R.2.1;have hz:=R.2.2;clear R;generalize (ib D M.Q0 cC x5 (gp M cC x5)).1=D' at hv ae hz⊢;have E:∀x,x∈(iR (gp M cC x5) cC x5 (M.x8+1) false x5).all↔x∈M.Q3\/x∈M.J9\/x∈M.Q7:=λx=>by rw[<- GB I x];show x∈x5++([]++(cC++[]))↔_;simp only[xJ,xI,zD];exact Or.comm
  have af:∀x,gI (iR (gp M cC x5) cC x5 (M.x8+1) false x5) x=true↔eA M x:=λx=>by
   rw[xj,E];show (2<=x/\x<M.J1.2.getD 0 0)/\_↔_;unfold eA;rw[xj];constructor;rintro⟨J,h2⟩;by_cases hm:x∈M.Q0.map (·.1);exact .inl hm;refine .inr ⟨J,λu=>?_⟩;simp only[eH.all,zD] at u;rcases u with u|u|u|u;exact h2 (.inl u);exact h2 (.inr (.inl u));exact h2 (.inr (.inr u));exact hm u;rintro (J|⟨J,h2⟩);refine⟨h.wf.J8 x J,λu=>?_⟩;have:=qn6 h.wf I x J;rcases (GB I x).2 u with h3|h3;exact this.1 h3;exact this.2 h3;refine⟨J,λu=>h2 ?_⟩;simp only[eH.all,zD];rcases u with u|u|u;exact .inl u;exact .inr (.inl u);exact .inr (.inr (.inl u))
  refine⟨D',iR (gp M cC x5) cC x5 (M.x8+1) false x5,rfl,⟨ae,hv.Q9,hz.trans h.size,h.blocks,h.b8,qud h.wf I rfl (FY h.wf I),qlI _ _ _ _ _,rfl,h.len,?_,?_⟩,⟨rfl,λx=>?_,λx hx=>?_⟩,.inr ?_⟩;show 0<=(gp M cC x5).1/\(gp M cC x5).1<=_;rw[aa.2];omega;show 0<=M.x8+1/\M.x8+1<=_;have:=h.x8;omega;rw[<- af x];exact⟨λh=>h.resolve_left (by simp[iR]),.inr⟩;have ah:=(af x).2 hx;have am:=(xj.1 ah).1;have U:=(xj.1 ah).2;have G:2<=x/\x<M.J1.2.getD 0 0:=am;rw[V] at G;rw[qql rfl hv.down ⟨G.1,by rw[hz];exact G.2⟩ (by rw[hz];exact V) U];by_cases hm:x∈M.Q0.map (·.1);obtain⟨e,he,rfl⟩:=mem_map.1 hm;rw[qvx h.Q5 h.wf he,qs8 h.wf hv.Q0 he];have an:x∉cC:=λao=>U ((E x).2 ((GB I x).1 (.inl ao)));rw[hv.rest x oJ hm an oJ,qql h.Q5 h.quiet.down G V λu=>?_];simp only[eH.all,zD] at u;rcases u with u|u|u|u;exact U ((E x).2 (.inl u));exact U ((E x).2 (.inr (.inl u)));exact U ((E x).2 (.inr (.inr u)));exact hm u;show b-2<=x5.length+P.length+eZ b;obtain⟨k,au,av,_,e⟩:=Ec I;have aw:x5.length=(M.J9.length+M.Q7.length)+(M.Q3.length-k):=by rw[e,(EJ (yM.1 (h.wf.qx k)).2.1).length_eq,zF,zF,yB]
  omega
end
end
end
section
open Go Go.Pt List
open Go.IntKind (wrap)
attribute [local irreducible] ld dX jg oe jF fP st new idx jG jR fM jY jz mM iH nn call eJ inv run fG js join loop held ext kz eC nK nE nQ IntKind.wrap
variable {F':IS} {K:Int->WP} {body:IT}
structure TW (dbk pb:Nat) (FD:IS) (D:dV) (j:Nat) (w:IK) (Y F:IS) (M:eH):Prop where
 dB:fl w dbk FD D
 lim:mn D j
 z9:eW w (FD++HG::Y) pb (qb dbk M) F M
 hv:Hv w
 wf:M.Wf
 sep:∀ b∈Y,b∉FD/\b≠HG
abbrev Zo (FD Y F:IS):IS:=(FD++HG::Y)++F
section
variable {dbk pb j:Nat} {FD Y Y' F:IS} {D:dV} {w w':IK} {M:eH}
def TW.q8(h:TW dbk pb FD D j w Y F M)(f:Fr [] w w'):TW dbk pb FD D j w' Y F M:=⟨h.dB.q8 f,h.lim,h.z9.q8 f,h.hv.q8 f,h.wf,h.sep⟩
def TW.qZ(h:TW dbk pb FD D j w Y F M):∀b∈Y,b<w.heap.size:=λb u=>h.z9.pE b (by simp[u])
def TW.vV(h:TW dbk pb FD D j w Y F M):∀b∈Zo FD Y F,b<w.heap.size:=λb u=>(zD.1 u).elim (h.z9.pE b) (h.z9.lt b)
def TW.yf(h:TW dbk pb FD D j w Y F M):∀b∈Y,b∉F:=λb u=>h.z9.sep b (by simp[u])
def TW.dA(h:TW dbk pb FD D j w Y F M)(f:Fr Y w w')(R:∀b∈Y',b<w'.heap.size)(I:∀b∈Y',b∈Y\/w.heap.size<=b):TW dbk pb FD D j w' Y' F M where
 dB:=h.dB.j1 f λb u G=>(h.sep b G).1 u
 lim:=h.lim
 z9:=h.z9.pS (f.mono λb u _=>by simp[u]) (λb u=>by
  rcases zD.1 u with u|u;exact yC (h.dB.lt b u) f.size;rcases zG.1 u with rfl|u;exact yC h.hv.lt f.size;exact R b u) λb u=>by
  rcases zD.1 u with u|u;exact .inl (zH _ u);rcases zG.1 u with rfl|u;exact .inl oL;rcases I b u with E|E;exact .inl (by simp[E]);exact .inr E
 hv:=h.hv.j1 f λG=>(h.sep _ G).2 rfl
 wf:=h.wf
 sep:=λb u=>by rcases I b u with E|E;exact h.sep b E;exact⟨λJ=>by have:=h.dB.lt b J;omega,λJ=>by have:=h.hv.lt;omega⟩
def TW.y8(h:TW dbk pb FD D j w Y F M)(E:∀b∈Y',b∈Y):TW dbk pb FD D j w Y' F M:=h.dA (.refl _ _) (λb u=>h.qZ b (E b u)) λb u=>.inl (E b u)
def TW.yo{B:IS}{w0:IK}(h:TW dbk pb FD D j w0 Y F M)(f:Fr Y w0 w)(E:∀b∈B,w0.heap.size<=b/\b<w.heap.size):TW dbk pb FD D j w (B++Y) F M:=
 h.dA f (λb u=>(zD.1 u).elim (λu=>(E b u).2) λu=>yC (h.qZ b u) f.size) λb u=>(zD.1 u).elim (λu=>.inr (E b u).1) .inl
def qwU(M:eH)(kd:Int)(b:IT):(gF M kd b).2.Q5=M.Q5:=by unfold gF;split;rfl;split;rfl;split<;>rfl
def qyz(M:eH)(n kd:Int)(b:IT):(jJ M n kd b).2.Q5=M.Q5:=by unfold jJ;split;rfl;split;rfl;split<;>rfl
def qwm(M:eH)(n:Int):(fK M n).2.Q5=M.Q5:=by unfold fK;split;rfl;split;rfl;split<;>rfl
def qxj(M:eH)(t a b c:Int):(fy M t a b c).2.Q5=M.Q5:=by unfold fy;split;rfl;split<;>rfl
def qwj{M M':eH}(h:M'.Q5=M.Q5):qb dbk M'=qb dbk M:=by unfold qb;rw[h]
def TW.next{M':eH}(h:TW dbk pb FD D j w Y F M)(u:M'.Q5=M.Q5)(E:M'.Wf)(G:eW w' (FD++HG::Y) pb (qb dbk M) F' M')(f:Fr F w w'):TW dbk pb FD D j w' Y F' M' where
 dB:=h.dB.j1 f λb I=>h.z9.sep b (zH _ I)
 lim:=h.lim
 z9:=by rw[qwj u];exact G
 hv:=h.hv.j1 f (h.z9.sep HG oL)
 wf:=E
 sep:=h.sep
def TW.make{kind:Int}{s:Sl}{K:IV->WP}(h:TW dbk pb FD D j w Y F M)(E:eN (Zo FD Y F) w s body)(G:body.length<=100000)(I:0<=kind/\kind<256)(J:eX body)(R:∀F' w',TW dbk pb FD D j w' Y F' (gF M kind body).2->Fr F w w'->(∀b∈F',b∈F\/w.heap.size<=b)->K (gF M kind body).1 w'): cW 164 [dS pb,.b kind,s.v] dx w K:=
 qxI h.z9 E G (by have:=h.wf.all;omega) λF' w' U f V=>R F' w' (h.next (qwU M kind body) (qt7 h.wf I J).1 U f) f V
def TW.put{n kind:Int}{s:Sl}(h:TW dbk pb FD D j w Y F M)(E:eN (Zo FD Y F) w s body)(G:body.length<=100000)(I:0<=kind/\kind<256)(J:eX body)(R:∀w',TW dbk pb FD D j w' Y F (jJ M n kind body).2->Fr F w w'->K (jJ M n kind body).1 w'): cW 163 [dS pb,.u n,.b kind,s.v] dm w K:=
 qy9 h.z9 E G λw' U f=>R w' (h.next (qyz M n kind body) (qxa h.wf I J).1 U f) f
def TW.drop{n:Int}(h:TW dbk pb FD D j w Y F M)(E:∀F' w',TW dbk pb FD D j w' Y F' (fK M n).2->Fr F w w'->(∀b∈F',b∈F\/w.heap.size<=b)->K (fK M n).1 w'): cW 137 [dS pb,.u n] dm w K:=
 qxG h.z9 (by have:=h.wf.all;omega) (by have:=h.wf.all;omega) (by have:=h.wf.all;omega) λF' w' G f I=>E F' w' (h.next (qwm M n) (qtO h.wf) G f) f I
def TW.read{n:Int}{K:I4->WP}(h:TW dbk pb FD D j w Y F M)(E:ia n)(I:∀s w',(∀G:IS,(∀b∈G,b<w.heap.size)->eN G w' s (dU D M n).2.1)->Fr [] w w'->K ((dU D M n).1,s,(dU D M n).2.2) w'): cW 117 [dS pb,.u n] dt w K:=
 qvY h.dB h.lim h.z9 h.hv E (by have:=h.wf.all;omega) (λe J=>zL (h.wf.body e J).2.1 oM) I
def TW.J7{t:Int}{K:I3->WP}(h:TW dbk pb FD D j w Y F M)(E:∀w',Fr [] w w'->K (eF M t) w'): cW 46 [dS pb,.i t] [.agg [.u,.u,.u]] w K:=qxL h.z9 E
def qvK{t a b c:Int}(u:M.Wf)(E:ia a)(G:ia b)(I:ia c):(fy M t a b c).2.Wf:=by unfold fy;split;exact u;split;exact u;refine qsL u λx h=>?_;simp only[zD,zG,xY,or_false] at h;rcases h with (h|rfl|rfl|rfl)|h;exact u.Q4 x (yV h);exact E;exact G;exact I;exact u.Q4 x (yU h)
def TW.qV{t a b c:Int}(h:TW dbk pb FD D j w Y F M)(E:ia a)(G:ia b)(I:ia c)(J:∀w',TW dbk pb FD D j w' Y F (fy M t a b c).2->Fr F w w'->K (fy M t a b c).1 w'): cW 131 [dS pb,.i t,.agg #[.u a,.u b,.u c]] dm w K:=
 qsS h.z9 λw' R f=>J w' (h.next (qxj M t a b c) (qvK h.wf E G I) R f) f
def TW.room(h:TW dbk pb FD D j w Y F M)(u:K M.Q3.length w):cW 129 [dS pb] dm w K:=qxK h.z9 u
def TW.vQ(h:∀b∈F',b∈F\/w.heap.size<=b):∀b∈Zo FD Y F',b∈Zo FD Y F\/w.heap.size<=b:=A4 h
def CW(h:M.Wf)(t:Int):ia (eF M t).1/\ia (eF M t).2.1/\ia (eF M t).2.2:=by
 have key:∀n,ia (M.Q4.getD n 0):=λn=>by
  rw[yR];cases e:M.Q4[n]? with
  | none=>exact⟨oM,oM⟩
  | some x=>exact h.Q4 x (yF e)
 unfold eF;split;exact⟨⟨oM,oM⟩,⟨oM,oM⟩,⟨oM,oM⟩⟩;exact⟨key _,key _,key _⟩
end
end
section
open Go Go.Pt List
open Go.IntKind (wrap)
open Classical
attribute [local irreducible] ld dX jg oe jF fP st new idx jG jR fM jY jz mM iH nn call eJ inv run fG js join loop held ext kz eC nK nE nQ IntKind.wrap
variable {K:Sl->WP} {S T Z:IS} {b:IT} {hi p:Int} {i k v:Nat} {l:Key} {n:dY} {ps:qh} {s src:Sl} {w:IK} {x:kQ}
abbrev Gs:=IX
def kb (k v pb:Nat) (t:Int):Gs:=((k:Int),(v:Int),((eE k v).1:Int),((eE k v).2:Int),pW pb,t)
def oj (x:Gs):Array IL:=#[.i x.1,.i x.2.1,.i x.2.2.1,.i x.2.2.2.1,.pointer x.2.2.2.2.1,.i x.2.2.2.2.2]
abbrev WK:IM:=195
def CC (k v:Nat):I9:=((k:Int),(v:Int),((eE k v).1:Int),((eE k v).2:Int))
def GD (k v:Nat):Array IL:=#[.i k,.i v,.i (eE k v).1,.i (eE k v).2]
section
variable {S:IS} {w:IK} {x:kQ} {n:dY} {k v:Nat}
structure po (x:kQ) (n:dY):Prop where
 Q6:x.1=n.Q6
 J8:x.2.1.len=n.J8.length
 Q2:x.2.2.1.len=n.Q2.length
 Q1:x.2.2.2.len=n.Q1.length
def eT.lens(h:eT S w x n):po x n:=by obtain⟨u,_,⟨pk,E,G⟩,⟨pv,I,J⟩,R⟩:=h;exact⟨u,by rw[E.len,<- G,zK],by rw[I.len,<- J,zK],R.1⟩
def Fm{K:IV->WP}(h:po x n)(E:∀w',Fr [] w w'->K (((fq n k v).1:Int),((fq n k v).2:Int)) w'): cW 198 [.agg (GD k v),.agg (fg x)] dr w K:=by refine qkU<|oB (oE [] w) λJ w1 e1 R I=>oB I λU w2 V f2 I=>IQ I 0 rfl x.1 ?_;unfold fq at E;have u:=I.drew;apply eB<;>intro G;rw[h.Q6] at G;rw[iP G] at E;refine IQ u 0 rfl x.2.1<|IQ u 1 rfl ((eE k v).1:Int) ?_;rw[h.J8];exact E _ u.fr;rw[h.Q6] at G;rw[iN (by rw[G];decide)] at E;refine IQ u 0 rfl x.2.2.2<|IQ u 1 rfl ((eE k v).2:Int) ?_;rw[h.Q1];exact E _ u.fr
def qpM{n:dY}:wrap .i64 (Int.tdiv ((fq n k v).2:Int) 2)=(((fq n k v).2 / 2:Nat):Int):=by have h:=Cu (k:=k) (v:=v);have u:(fq n k v).2<=498:=(by unfold fq;split<;>omega);rw[IA oJ,gG _ oJ];rfl
def qAw{K:Bool->WP}(h:po x n)(E:∀w',Fr [] w w'->K (decide (pH n k v)) w'): cW 169 [.agg (GD k v),.agg (fg x)] dp w K:=by refine qlD<|oB (oE [] w) λJ w1 e1 R u=>oB u λU w2 V f2 u=>IR u 1 rfl (CC k v)<|IR u 0 rfl x<|Fm (k:=k) (v:=v) h λG I=>?_;dsimp only;rw[qpM];have e:decide (((fq n k v).1:Int)<(((fq n k v).2 / 2:Nat):Int))=decide (pH n k v):=decide_eq_decide.2 (by unfold pH;omega);rw[e];exact E G (u.fr.trans I)
def qyK{K:Bool->WP}(h:po x n)(E:∀w',Fr [] w w'->K (decide (jq n k v)) w'): cW 202 [.agg (GD k v),.agg (fg x)] dp w K:=by refine qjM<|oB (oE [] w) λJ w1 e1 R u=>oB u λU w2 V f2 u=>IR u 1 rfl (CC k v)<|IR u 0 rfl x<|Fm (k:=k) (v:=v) h λG I=>?_;dsimp only;rw[qpM];have e:decide (((fq n k v).1:Int)>(((fq n k v).2 / 2:Nat):Int))=decide (jq n k v):=decide_eq_decide.2 (by unfold jq;omega);rw[e];exact E G (u.fr.trans I)
end
def C0{t:Int}{ks:Sl}{pb:Nat}{K:Gs×Int->WP}(I:si t=((k:Int),(v:Int)))(J:k=0->∀x w',Fr [] w w'->K (x,4) w')(R:k≠0->ks.len≠k->∀x w',Fr [] w w'->K (x,1) w')(U:k≠0->ks.len=k->∀w',Fr [] w w'->K (kb k v pb t,0) w'): cW 89 [dS pb,.i t,ks.v] [.agg i7,.one .i] w K:=by
 refine qqR<|oB (oE [] w) λV w1 e1 f1 h=>qrd ?_;rw[I];apply eB<;>intro E;have E:((k:Nat):Int)=0:=yP.1 E;exact oD h 0 rfl (oj (0,0,0,0,none,0)) λw2 h G=>IR h 0 rfl (0,0,0,0,none,0)<|J oJ _ _ h.fr;have E:¬((k:Nat):Int)=0:=zR.1 E;apply eB<;>intro u;have u:¬((ks.len:Int)=(k:Int)):=zR.1 (oP u);exact oD h 0 rfl (oj (0,0,0,0,none,0)) λw2 h G=>IR h 0 rfl (0,0,0,0,none,0)<|R oJ oJ _ _ h.fr;have u:(ks.len:Int)=(k:Int):=by rw[yE] at u;exact yP.1 u
 refine ET λw2 G=>?_;have h:=h.q8 G;exact oD h 0 rfl (oj (kb k v pb t)) λw3 h f3=>IR h 0 rfl (kb k v pb t)<|U oJ oJ _ h.fr
section
variable {dbk pb j:Nat} {FD Y F:IS} {D:dV} {w:IK} {M:eH} {k v:Nat} {t:Int}
def Cf{K:kQ×Int->WP}(h:TW dbk pb FD D j w Y F M)(hp:ia p)(U:∀x B w',TW dbk pb FD D j w' (B++Y) F M->fE (Zo FD (B++Y) F) w' x (dW D M k v p).1 B->Fr [] w w'->(∀c∈B,w.heap.size<=c)->K (x,(dW D M k v p).2) w'): cW 90 [.agg (oj (kb k v pb t)),.u p] [.agg eG,.one .i] w K:=by
 refine qlG<|oB (oE [] w) λr1 w1 e1 f1 G=>oB G λr3 w2 e2 f2 G=>IQ G 1 rfl (pW pb) ?_;have h2:=h.q8 G.fr;refine TW.read h2 hp λs w7 hs f7=>?_;have G:=G.q8 f7;have af:=hs [] λ_ h=>nomatch h;have hB:eX (dU D M p).2.1:=qhY h.lim.ok (λe he=>(h.wf.body e he).2.2) p;unfold dW at U;apply eB<;>intro E;have ah:(dU D M p).2.2≠0:=λe=>by dsimp only at E;rw[e] at E;exact absurd E oM
 rw[iP ah] at U;exact oD G 0 rfl (fg fS) λw8 G f8=>IR G 0 rfl fS<|U fS [] w8 (h.q8 G.fr) (.zero _ _) G.fr λ_ h=>nomatch h;have he:¬(dU D M p).2.2≠0:=λe=>by dsimp only at E;rw[yE,yP] at E;exact e E
 rw[iN he] at U;refine IQ G 1 rfl (k:Int)<|IQ G 1 rfl (v:Int)<|GC (k:=k) (v:=v) af hB λx B au hN ai R=>?_;have V:=G.q8 ai;have aa:=eO (G.at (i:=0) rfl);dsimp only at aa;have hr:∀c∈B,c∉[r3]:=λc E hm=>by have:=R c E;rw[zE.1 hm] at this;omega
 refine oD V 0 rfl (fg x) λab I aj=>IR I 0 rfl x ?_;have J:=hN.j1 aj hr (λc E=>.inl (by rw[zE.1 E];simp[aa])) λc E=>.inl E;have ay:=h.q8 I.fr;have ac:=G.fr.size;have ad:TW dbk pb FD D j ab (B++Y) F M:=h.yo (I.fr.mono λ_ h=>nomatch h) λb hb=>⟨zL ac (R b hb),J.lt b hb⟩;refine U x B ab ad (J.j8 λc E=>.inl ?_) I.fr λc E=>zL ac (R c E);have zl:=h.vV;rcases zD.1 E with E|E;rcases zD.1 E with E|E;have:=zl c (by simp[E]);simp;omega;rcases zG.1 E with E|E;have:=zl c (by simp[E]);simp;omega;rcases zD.1 E with E|E;simp[E];have:=zl c (by simp[E]);simp;omega;have:=zl c (by simp[E]);simp;omega
def qvt{kd:Int}{n:Int}(h:(jJ M n kd b).1=10):(jJ M n kd b).2=M:=by unfold jJ at h⊢;split;rfl;rename_i u;rw[iN u] at h;split;rfl;rename_i q E;rw[E] at h;dsimp only at h;split;rfl;rename_i G;rw[iN G] at h;cases h
def vS{K:IV->WP}(h:TW dbk pb FD D j w Y F M)(hx:eT (Zo FD Y F) w x n)(h1:n.J8.length<=1000000)(h2:n.Q2.length<=1000000)(h3:n.Q1.length<=1000000)(kk:∀F' w',TW dbk pb FD D j w' Y F' (ee k v M p n).2->Fr F w w'->(∀b∈F',b∈F\/w.heap.size<=b)->K (ee k v M p n).1 w'): cW 130 [.agg (oj (kb k v pb t)),.u p,.agg (fg x)] dx w K:=by
 refine qkW<|oB (oE [] w) λr1 w1 e1 f1 J=>oB J λr3 w2 e2 f2 J=>IR J 0 rfl x<|IQ J 1 rfl (k:Int)<|IQ J 1 rfl (v:Int)<|qxS (x:=x) (k:=k) (v:=v) (hx.q8 J.fr) h1 h2 h3 λs w9 hs f9=>?_;have J:=J.q8 f9;have h9:=h.q8 J.fr;have aq:eX (fi n k v).2.1:=by unfold fi;split;exact qps hx.2.1.1 hx.2.1.2.1;exact λ_ h=>nomatch h
 have ar:0<=(fi n k v).1/\(fi n k v).1<256:=(by unfold fi i9;split;dsimp only;split<;>exact⟨oM,oM⟩;exact⟨oM,oM⟩);have au:(fi n k v).2.1.length<=100000:=(by unfold fi;split;rename_i hr;have:=(C3 hr).2;dsimp only;omega;exact yX _);unfold ee at kk;apply eB<;>intro E;have aF:(fi n k v).2.2≠0:=λe=>by dsimp only at E;rw[e] at E;exact absurd E oM
 rw[iP aF] at kk;exact kk F w9 h9 (J.fr.mono λ_ h=>nomatch h) λb V=>.inl V;have he:¬(fi n k v).2.2≠0:=λe=>by dsimp only at E;rw[yE,yP] at E;exact e E
 rw[iN he] at kk;have aG:=eO (J.at (i:=1) rfl);dsimp only at aG;have af:=h.vV;have ah:r1∉F:=λhm=>by have:=af r1 (by simp[hm]);omega
 have av:w.heap.size<=r1:=oJ;have aQ:=J.fr.size;have aj:∀G:IS,(∀b∈G,b<w.heap.size)->eN G w9 s (fi n k v).2.1:=λG hG=>hs G λb V=>yC (hG b V) (zL f1.size f2.size);have ak:ef F w w9 [(r1,.c (oj (kb k v pb t)) WK)]:=⟨λq hq=>by rw[zE.1 hq];exact J.at (i:=1) rfl,oL,J.fr.mono (λ_ h=>nomatch h),λq hq=>by rw[zE.1 hq];exact .inr av⟩;generalize a4:(fi n k v).1=kd at *;generalize a5:(fi n k v).2.1=R at *;refine iC (λ_ w'=>(p=0\/(jJ M p kd R).1=10)/\TW dbk pb FD D j w' Y F M/\ef F w w' [(r1,.c (oj (kb k v pb t)) WK)]/\eN (Zo FD Y F) w' s R) ?_ ?_;apply eB<;>intro hp;have hp:p≠0:=by rw[zT] at hp;exact zR.1 hp
 refine IQ ak 0 rfl (pW pb)<|TW.put h9 (aj _ af) au ar aq λaH am aw=>?_;have ai:=ak.j1 aw (λi hi=>.inl hi) (λq hq=>by rw[zE.1 hq];exact ah);apply eB<;>intro I;have I:(jJ M p kd R).1≠10:=by rw[zT] at I;exact zR.1 I
 rw[iP ⟨hp,I⟩] at kk;exact kk F aH am ai.fr λb V=>.inl V;have I:(jJ M p kd R).1=10:=by rw[yE] at I;exact yP.1 I
 rw[qvt I] at am;exact⟨.inr I,am,ai,(aj _ af).j1 (aw.mono λb V _=>by simp[V]) λb V=>.inl V⟩;have hp:p=0:=by rw[yE] at hp;exact yP.1 hp
 exact⟨.inl hp,h9,ak,aj _ af⟩;rintro _ a6 ⟨hp,aJ,ad,ax⟩;rw[iN λhh=>hp.elim hh.1 hh.2] at kk;refine IQ ad 0 rfl (pW pb)<|TW.make aJ ax au ar aq λF' aK ay aL aM=>?_;have U:=ad.j1 aL (λi hi=>.inl hi) (λq hq=>by rw[zE.1 hq];exact ah);have an:=ad.fr.size;have ae:∀b∈F',b∈F\/w.heap.size<=b:=λb V=>(aM b V).imp id λh=>zL an h;refine iC (λe w'=>∃F2,e=(if (gF M kd R).1.2=0/\p≠0 then (fK (gF M kd R).2 p).1 else (gF M kd R).1.2)/\TW dbk pb FD D j w' Y F2 (if (gF M kd R).1.2=0/\p≠0 then (fK (gF M kd R).2 p).2 else (gF M kd R).2)/\Fr F w w'/\∀b∈F2,b∈F\/w.heap.size<=b) ?_ ?_;refine iC (λd w'=>d=decide ((gF M kd R).1.2=0/\p≠0)/\w'=aK) ?_ ?_;refine eB (λE=>⟨?_,rfl⟩) λE=>⟨?_,rfl⟩;have E:(gF M kd R).1.2=0:=yP.1 E;rw[It,yN,zT,zR];exact⟨λh=>⟨E,h⟩,λh=>h.2⟩;have E:¬(gF M kd R).1.2=0:=zR.1 E;rw[zU λh=>E h.1];rintro d a7 ⟨rfl,rfl⟩;apply eB<;>intro E;have E:=zC E;rw[iP E,iP E];refine IQ U 0 rfl (pW pb)<|TW.drop ay λF2 a8 aN aO aP=>?_;have ao:=U.fr.size;refine⟨F2,rfl,aN,U.fr.J0 aO ae,λb V=>?_⟩;rcases aP b V with h|h;exact ae b h;exact .inr (zL ao h);have E:=zB E;rw[iN E,iN E];exact⟨F',rfl,ay,U.fr,ae⟩;rintro e az ⟨F2,rfl,ag,aA,aB⟩;by_cases E:(gF M kd R).1.2=0/\p≠0;rw[iP E] at kk ag⊢;exact kk F2 az ag aA aB;rw[iN E] at kk ag⊢;exact kk F2 az ag aA aB
end
section
section
variable {S:IS} {w:IK} {s:Sl} {ps:qh}
def jK.rF(h:jK S w s ps)(b:Nat){K:Sl->Prop}(E:hi=b)(I:b<=ps.length)(J:∀u,jK S w u (ps.take b)->K u):fM s none (some hi) (some hi) 1 K:=
 eI.uA h.1 b E (by rw[zK];exact I) λu G=>J u ⟨by rw[<- xQ] at G;exact G,λp R=>h.2 p (yV R)⟩
def jK.from(h:jK S w s ps){lo:Int}(a:Nat){K:Sl->Prop}(E:lo=a)(I:a<=ps.length)(J:∀u,jK S w u (ps.drop a)->K u):fM s (some lo) none none 1 K:=
 eI.part h.1 a ps.length E (by rw[xX,h.len]) I (by rw[zK];exact zM _) λu _ G _=>J u ⟨by have e:(iY ps).take ps.length=iY ps:=zS (by rw[zK];exact zM _);rw[e,<- xR] at G;exact G,λp R=>h.2 p (yU R)⟩
def jK.upto(h:jK S w s ps)(b:Nat){K:Sl->Prop}(E:hi=b)(I:b<=ps.length)(J:∀u,jK S w u (ps.take b)->K u):fM s none (some hi) none 1 K:=
 eI.part h.1 0 b rfl E (yX _) (by rw[zK];exact I) λu _ G _=>J u ⟨by rw[xG,<- xQ] at G;exact G,λp R=>h.2 p (yV R)⟩
def Af(ps:qh)(b:Nat):gH (ps.take b)=(gH ps).take b:=xQ
def yd(ps:qh)(b:Nat):gH (ps.drop b)=(gH ps).drop b:=xR
def yc{ps:qh}(hi:i<ps.length):(gH ps).getD i []=ps[i].2:=by rw[yR,zQ,zA hi];rfl
def eI.wN{α:Type}{enc:α->List IL}{l:List α}(h:eI enc 1 S w s l){lo:Int}(a:Nat){K:Sl->Prop}(E:lo=a)(I:a<=l.length)(J:∀u,eI enc 1 S w u (l.drop a)->K u):fM s (some lo) none none 1 K:=
 eI.part h a l.length E (by rw[xX,h.1]) I (zM _) λu _ G _=>J u (by rw[vA] at G;exact G)
def eI.BP{α:Type}{enc:α->List IL}{l:List α}(h:eI enc 1 S w s l)(b:Nat){K:Sl->Prop}(E:hi=b)(I:b<=l.length)(J:∀u,eI enc 1 S w u (l.take b)->K u):fM s none (some hi) none 1 K:=
 eI.part h 0 b rfl E (yX _) I λu _ G _=>J u (by rw[xG] at G;exact G)
end
section
variable {S:IS} {w:IK} {x:kQ} {n:dY} {k v:Nat}
def pB (n:dY) (mid:Nat):Prop:=if n.Q6 then mid<n.J8.length/\mid<=n.Q2.length else 1<=mid/\mid<=n.J8.length/\mid<=n.Q1.length
def qwA{mid:Nat}{K:kQ×kQ×Sl->WP}(hx:eT S w x n)(hm:pB n mid)(hl:mid<=1000000)(kk:∀xl xr ks w',eT S w' xl (eK n mid).1->eT S w' xr (eK n mid).2.1->eN S w' ks (eK n mid).2.2->Fr [] w w'->K (xl,xr,ks) w'): cW 199 [.agg (fg x),.i mid] [.agg eG,.agg eG,.one .slice] w K:=by
 have aI:=hx;obtain⟨h0,E,⟨pk,G,u⟩,⟨pv,ad,I⟩,U⟩:=hx;have l1:pk.length=n.J8.length:=(by rw[<- u,zK]);have l2:pv.length=n.Q2.length:=(by rw[<- I,zK]);refine qpi ?_;have h:=oE [] w;refine oB h λr1 w2 _ f h=>oB h λr3 w4 _ f h=>oB h λr5 w6 _ f h=>?_;have h:=oF h;refine⟨?a,?b⟩;case' a=>
  refine IR h 2 rfl x<|IR h 2 rfl x<|oB h λr9 ay _ f h=>kV (h.cells 3) (h.cells 3)<|oB h λaz aA _ f h=>kV (h.cells 4) (h.cells 4)<|oD h 1 rfl (fg x) λaB h f=>iS (h.cells 4)<|oD h 0 rfl (fg x) λaC h f=>?_
 case' b=>
  refine IR h 2 rfl x<|IR h 2 rfl x<|oB h λaz ay _ f h=>kV (h.cells 3) (h.cells 3)<|oB h λr9 aA _ f h=>kV (h.cells 4) (h.cells 4)<|oD h 0 rfl (fg x) λaB h f=>iS (h.cells 4)<|oD h 1 rfl (fg x) λaC h f=>?_;have h:=DH h (List.Perm.swap _ _ _)
 all_goals
  refine IQ h 4 rfl x.1 ?_;apply eB<;>intro hc;rw[h0] at hc;unfold pB at hm;rw[iP hc] at hm;have hH:eK n mid=({ n with J8:=n.J8.take mid,Q2:=n.Q2.take mid },{ n with J8:=n.J8.drop mid,Q2:=n.Q2.drop mid },n.J8.getD mid []):=(by unfold eK;rw[iP hc]);rw[hH] at kk;have h:=oF h;refine IQ h 4 rfl x.2.1<|jK.rF G mid rfl oJ λV ak=>IQ h 4 rfl x.2.2.1<|jK.rF ad mid rfl oJ λae al=>oD h 1 rfl (fg (x.1,V,x.2.2.1,x.2.2.2)) λaK h f=>iS (h.cell 4)<|oD h 1 rfl (fg (x.1,V,ae,x.2.2.2)) λaL h f=>?_;have h:=oF h;refine IQ h 4 rfl x.2.1<|jK.from G mid rfl oJ λaa am=>IQ h 4 rfl x.2.2.1<|jK.from ad mid rfl oJ λaf an=>oD h 0 rfl (fg (x.1,aa,x.2.2.1,x.2.2.2)) λaM h f=>iS (h.cell 4)<|oD h 0 rfl (fg (x.1,aa,af,x.2.2.2)) λaN h f=>?_;have h:=oF h;refine IR h 1 rfl (x.1,V,ae,x.2.2.2)<|IR h 0 rfl (x.1,aa,af,x.2.2.2)<|IQ h 4 rfl x.2.1 ?_;have J:mid<pk.length:=oJ;refine jK.get' (G.q8 h.fr) mid rfl J λaO R hh=>oD h 3 rfl (fg (x.1,V,ae,x.2.2.2)) λaP h f=>nj (hh _ (G.q8 h.fr)) (h.cell 4) (h.cells 0)<|oD h 2 rfl (fg (x.1,aa,af,x.2.2.2)) λaE h f=>kV (hh _ (G.q8 h.fr)) (h.cell 4)<|IR h 3 rfl (x.1,V,ae,x.2.2.2)<|IR h 2 rfl (x.1,aa,af,x.2.2.2)<|kk _ _ _ aE ⟨h0,⟨λa R=>E.1 a (yV R),λa R=>E.2.1 a (yV R),E.2.2⟩,⟨pk.take mid,ak.q8 h.fr,by rw[Af,u]⟩,⟨pv.take mid,al.q8 h.fr,by rw[Af,I]⟩,U.q8 h.fr⟩
   ⟨h0,⟨λa R=>E.1 a (yU R),λa R=>E.2.1 a (yU R),E.2.2⟩,⟨pk.drop mid,am.q8 h.fr,by rw[yd,u]⟩,⟨pv.drop mid,an.q8 h.fr,by rw[yd,I]⟩,U.q8 h.fr⟩ ?_ h.fr
  rw[<- u,yc J];exact (G.2 _ (zW J)).q8 h.fr;rw[h0] at hc;have ap:¬n.Q6=true:=(by rw[hc];decide);unfold pB at hm;rw[iN ap] at hm;have hH:eK n mid=({ n with Q1:=n.Q1.take mid,J8:=n.J8.take (mid-1) },{ n with Q1:=n.Q1.drop mid,J8:=n.J8.drop mid },n.J8.getD (mid-1) []):=(by unfold eK;rw[iN ap]);rw[hH] at kk;have em:wrap .i64 ((mid:Int)-1)=((mid-1:Nat):Int):=(by rw[gG _ oJ];omega);have h:=oF h;refine IQ h 4 rfl x.2.2.2<|eI.uA U mid rfl oJ λab aq=>IQ h 4 rfl x.2.1<|jK.rF G (mid-1) em oJ λag ar=>oD h 1 rfl (fg (x.1,x.2.1,x.2.2.1,ab)) λaQ h f=>iS (h.cell 4)<|oD h 1 rfl (fg (x.1,ag,x.2.2.1,ab)) λaR h f=>?_;have h:=oF h;refine IQ h 4 rfl x.2.2.2<|eI.wN U mid rfl oJ λac au=>IQ h 4 rfl x.2.1<|jK.from G mid rfl oJ λah av=>oD h 0 rfl (fg (x.1,x.2.1,x.2.2.1,ac)) λaT h f=>iS (h.cell 4)<|oD h 0 rfl (fg (x.1,ah,x.2.2.1,ac)) λaU h f=>?_;have h:=oF h;refine IR h 1 rfl (x.1,ag,x.2.2.1,ab)<|IR h 0 rfl (x.1,ah,x.2.2.1,ac)<|IQ h 4 rfl x.2.1 ?_;have J:mid-1<pk.length:=oJ;refine jK.get' (G.q8 h.fr) (mid-1) em J λaV R hh=>oD h 3 rfl (fg (x.1,ag,x.2.2.1,ab)) λaW h f=>nj (hh _ (G.q8 h.fr)) (h.cell 4) (h.cells 0)<|oD h 2 rfl (fg (x.1,ah,x.2.2.1,ac)) λaF h f=>kV (hh _ (G.q8 h.fr)) (h.cell 4)<|IR h 3 rfl (x.1,ag,x.2.2.1,ab)<|IR h 2 rfl (x.1,ah,x.2.2.1,ac)<|kk _ _ _ aF ⟨h0,⟨λa R=>E.1 a (yV R),E.2.1,λa R=>E.2.2 a (yV R)⟩,⟨pk.take (mid-1),ar.q8 h.fr,by rw[Af,u]⟩,⟨pv,ad.q8 h.fr,I⟩,aq.q8 h.fr⟩
   ⟨h0,⟨λa R=>E.1 a (yU R),E.2.1,λa R=>E.2.2 a (yU R)⟩,⟨pk.drop mid,av.q8 h.fr,by rw[yd,u]⟩,⟨pv,ad.q8 h.fr,I⟩,au.q8 h.fr⟩ ?_ h.fr
  rw[<- u,yc J];exact (G.2 _ (zW J)).q8 h.fr
end
end
section
structure Sg (S0:IS) (w0 wa:IK) (F T:IS):Prop where
 qK:Fr S0 w0 wa
 new:∀ b∈F,b∈S0\/w0.heap.size<=b
 own:∀ b∈T,b∈S0\/w0.heap.size<=b
abbrev fH (L:IW):IS:=L.map (·.1)
section
variable {dbk pb j:Nat} {FD S0 Y Y0 F0 F F' T:IS} {D:dV} {w0 wa w w':IK} {M M':eH} {L:IW}
def Sg.start(F:IS)(w:IK):Sg F w w F []:=⟨.refl _ _,λb u=>.inl u,λ_ h=>nomatch h⟩
def Sg.fr(g:Sg S0 w0 wa F T)(h:ef T wa w L):Fr S0 w0 w:=g.qK.J0 h.fr g.own
def Sg.fH(g:Sg S0 w0 wa F T)(h:ef T wa w L):∀b∈fH L,b∈S0\/w0.heap.size<=b:=λb E=>by obtain⟨q,G,rfl⟩:=mem_map.1 E;rcases h.own q G with u|u;exact g.own _ u;exact .inr (zL g.qK.size u)
def ya(h:ef T wa w L):∀b∈fH L,b<w.heap.size:=λb u=>by obtain⟨q,E,rfl⟩:=mem_map.1 u;exact eO (h.eY q E)
def TW.J2(E:TW dbk pb FD D j wa (T++Y) F M)(h:ef T wa w L):TW dbk pb FD D j w (fH L++Y) F M:=
 E.dA (h.fr.mono λb u _=>by simp[u]) (λb u=>(zD.1 u).elim (ya h b) λu=>yC (E.qZ b (by simp[u])) h.fr.size) λb u=>(zD.1 u).elim (λu=>by obtain⟨q,G,rfl⟩:=mem_map.1 u;exact (h.own q G).imp (λh=>zH _ h) id) λu=>.inl (zI _ u)
def TW.cS(u:TW dbk pb FD D j wa Y F M)(h:ef [] wa w L):TW dbk pb FD D j w (fH L++Y) F M:=TW.J2 (T:=[]) u h
def ry(h:ef T wa w L)(f:Fr S w w')(E:∀b∈fH L,b∉S):ef (fH L) w' w' L:=
 ⟨λq u=>by rw[f.block q.1 (eO (h.eY q u)) (E _ (zY u))];exact h.eY q u,h.nodup,.refl _ _,λq u=>.inl (zY u)⟩
def TW.own(u:TW dbk pb FD D j w (fH L++Y) F M)(h:ef T wa w L)(f:Fr F w w'):ef (fH L) w' w' L:=ry h f λb E=>u.yf b (by simp[E])
def Sg.next(g:Sg S0 w0 wa F T)(h:ef T wa w L)(f:Fr F w w')(n:∀b∈F',b∈F\/w.heap.size<=b):Sg S0 w0 w' F' (Go.Proofs.YtpcmehldpoljfaaGreatDoor.fH L):=
 ⟨(g.fr h).J0 f g.new,λb u=>(n b u).elim (g.new b) λE=>.inr (zL (g.fr h).size E),g.fH h⟩
def Sg.cR(g:Sg S0 w0 wa F T)(h:ef T wa w L)(f:Fr [] w w'):Sg S0 w0 w' F (Go.Proofs.YtpcmehldpoljfaaGreatDoor.fH L):=
 ⟨(g.fr h).J0 f λ_ h=>(nomatch h),g.new,g.fH h⟩
def Em(h:ef T wa w L):∀b∈Zo FD (Go.Proofs.YtpcmehldpoljfaaGreatDoor.fH L++Y) F,b∈Zo FD (T++Y) F\/wa.heap.size<=b:=λb u=>by rcases zD.1 u with u|u;rcases zD.1 u with u|u;exact .inl (by simp[u]);rcases zG.1 u with u|u;exact .inl (by simp[u]);rcases zD.1 u with u|u;obtain⟨q,E,rfl⟩:=mem_map.1 u;exact (h.own q E).imp (λh=>by simp[h]) id;exact .inl (by simp[u]);exact .inl (by simp[u])
def Ah:∀b∈Zo FD Y F,b∈Zo FD (S++Y) F:=λb h=>by simp only[Zo,zD,zG] at h⊢;rcases h with (h|h|h)|h<;>simp[h]
def vY{b:Nat}(h:b∈F):b∈Zo FD Y F:=zI _ h
def eT.J2(u:eT (Zo FD (T++Y) F) wa x n)(h:ef T wa w L):eT (Zo FD (fH L++Y) F) w x n:=u.j1 (h.fr.mono λb E _=>by simp[E]) (Em h)
def eT.cS(u:eT (Zo FD Y F) wa x n)(h:ef [] wa w L):eT (Zo FD (fH L++Y) F) w x n:=eT.J2 (T:=[]) u h
def eT.next(h:eT (Zo FD Y F) w x n)(f:Fr F w w')(u:∀b∈F',b∈F\/w.heap.size<=b):eT (Zo FD Y F') w' x n:=h.j1 (f.mono λb E _=>vY E) (TW.vQ u)
def qB(u:eN (Zo FD (T++Y) F) wa s l)(h:ef T wa w L):eN (Zo FD (fH L++Y) F) w s l:=u.j1 (h.fr.mono λb E _=>by simp[E]) (Em h)
def uT(u:eN (Zo FD Y F) wa s l)(h:ef [] wa w L):eN (Zo FD (fH L++Y) F) w s l:=qB (T:=[]) u h
def qso(h:eN (Zo FD Y F) w s l)(f:Fr F w w')(u:∀b∈F',b∈F\/w.heap.size<=b):eN (Zo FD Y F') w' s l:=h.j1 (f.mono λb E _=>vY E) (TW.vQ u)
def EP(h:eN (Zo FD (S++Y) F) w s l):eN (Zo FD Y F) w s l:=h.j1 (.refl _ _) λb u=>.inl (Ah b u)
def TW.j9(h:TW dbk pb FD D j w (T++Y) F M):TW dbk pb FD D j w Y F M:=h.y8 λb u=>zI _ u
abbrev DF:=I2
def tQ (g:Grown) (ks:Sl):DF:=(g.x7,g.Q0,ks,g.x6)
abbrev GR:IM:=252
def qv (x:DF):Array IL:=#[.u x.1,.bool x.2.1,x.2.2.1.v,.u x.2.2.2]
def uW:ia 0:=⟨oM,oM⟩
def qr1{k:Int}(h:M.Wf):ia (gF M k b).1.1:=by
 unfold gF;split;exact uW;split;exact uW;split;exact uW;rename_i n r u;have:=h.range n (by rw[u];simp);have:=h.n4;exact⟨by dsimp only;omega,by dsimp only;omega⟩
def vO(h:M.Wf)(u:ia p):ia (ee k v M p n).1.1:=by unfold ee;split;exact uW;split;exact u;split;exact qr1 h;exact qr1 h
structure HN (g:Grown):Prop where
 x7:ia g.x7
 x6:ia g.x6
 key:eX g.key
def eX.nil:eX []:=λ_ h=>nomatch h
def Hm:HN px:=⟨⟨oM,oM⟩,⟨oM,oM⟩,.nil⟩
def tO{l:List Key}(h:∀a∈l,eX a)(i:Nat):eX (l.getD i []):=by
 rw[yR];cases e:l[i]? with
 | none=>exact .nil
 | some a=>exact h a (yF e)
def qqv{t:Int}{Q0:Bool}{K:DF×Int->WP}(hT:TW dbk pb FD D j w0 Y F M)(hx:eT (Zo FD Y F) w0 x n)(h1:n.J8.length<=100000)(h2:n.Q2.length<=100000)(h3:n.Q1.length<=100000)(hm:(fq n k v).1>(fq n k v).2->pB n ((fq n k v).1 / 2))(hp:ia p)(kk:∀ks F' w',HN (gC k v M p n Q0).1.1->TW dbk pb FD D j w' Y F' (gC k v M p n Q0).2->eN (Zo FD Y F') w' ks (gC k v M p n Q0).1.1.key->Fr F w0 w'->(∀b∈F',b∈F\/w0.heap.size<=b)->K (tQ (gC k v M p n Q0).1.1 ks,(gC k v M p n Q0).1.2) w'): cW 166 [.agg (oj (kb k v pb t)),.u p,.agg (fg x),.bool Q0] [.agg qG,.one .i] w0 K:=by
 refine qkV ?_;have h:=oE [] w0;have g:=Sg.start F w0;have hl:=hx.lens;have aH:(fq n k v).1<=100000:=(by unfold fq;split<;>assumption);refine oB h λr1 w2 _ f h=>oB h λr3 w4 _ f h=>oB h λr5 w6 _ f h=>oB h λr7 w8 _ f h=>oD h 0 rfl (qv (0,Q0,dT,0)) λw9 h f=>IR h 3 rfl (CC k v)<|IR h 2 rfl x<|Fm (k:=k) (v:=v) hl λaM ao=>?_;have h:=h.q8 ao;refine iC (λ_ w'=>∃(x':kQ) (n':dY) (ks:Sl) (key:Key) (o:Int) (F' T:IS) (wa:IK) (M':eH),Sg F w0 wa F' T/\TW dbk pb FD D j wa (T++Y) F' M'/\ef T wa w' [(r7,.c (qv (0,Q0,ks,o)) GR),(r5,.c (qv (0,false,dT,0)) GR),(r3,.c (fg x') ND),(r1,.c (oj (kb k v pb t)) WK)]/\
   eT (Zo FD (T++Y) F') wa x' n'/\eN (Zo FD (T++Y) F') wa ks key/\n'.J8.length<=100000/\n'.Q2.length<=100000/\n'.Q1.length<=100000/\ia o/\eX key/\gC k v M p n Q0=((⟨(ee k v M' p n').1.1,Q0,key,o⟩,(ee k v M' p n').1.2),(ee k v M' p n').2)) ?_ ?_
 apply eB<;>intro J;have J:(fq n k v).1>(fq n k v).2:=(by have:=zC J;dsimp only at this;omega);have ai:=hm J;have U:wrap .i64 (Int.tdiv ((fq n k v).1:Int) 2)=(((fq n k v).1 / 2:Nat):Int):=(by rw[IA oJ,gG _ oJ];rfl);generalize aj:(fq n k v).1 / 2=E at ai U;refine IR h 2 rfl x ?_;dsimp only;rw[U];have G:=hT.cS h;refine qwA (hx.cS h) ai oJ λxl xr ks aN ap aq ab ac=>?_;have V:=G.q8 ac;have g:=g.cR h ac;have h:=ry h ac λ_ _ h=>nomatch h;refine oB h λaO aP _ f h=>oB h λaQ aR _ f h=>oD h 1 rfl (fg xl) λaT h f=>oD h 0 rfl (fg xr) λaU h f=>IR h 5 rfl (kb k v pb t)<|IR h 0 rfl xr ?_;have hH:(eK n E).1.J8.length<=100000/\(eK n E).1.Q2.length<=100000/\(eK n E).1.Q1.length<=100000/\(eK n E).2.1.J8.length<=100000/\(eK n E).2.1.Q2.length<=100000/\(eK n E).2.1.Q1.length<=100000:=by unfold eK;split<;>simp only[yL,yB]<;>omega
 refine vS (V.J2 h) (aq.J2 h) oJ oJ oJ λF1 av aa R ad=>?_;have ae:=(ap.J2 h).next R ad;have af:=qso (qB ab h) R ad;have g:=g.next h R ad;have h:=(V.J2 h).own h R;apply eB<;>intro I;have aw:(ee k v M 0 (eK n E).2.1).1.2≠0:=by rw[zT] at I;exact zR.1 I
 have e:gC k v M p n Q0=((px,(ee k v M 0 (eK n E).2.1).1.2),(ee k v M 0 (eK n E).2.1).2):=(by unfold gC;rw[iP J,aj,iP aw]);rw[e] at kk;exact oD h 3 rfl (qv (0,false,dT,0)) λax h f=>IR h 3 rfl (0,false,dT,0)<|kk dT F1 ax Hm (aa.J2 h).j9 (.nil _ _ _ _) (g.fr h) g.new;have he:¬(ee k v M 0 (eK n E).2.1).1.2≠0:=λe=>by rw[yE,yP] at I;exact e I
 refine IR h 1 rfl xl<|oD h 4 rfl (fg xl) λaW h f=>oG h 2 rfl (qv (0,Q0,dT,(ee k v M 0 (eK n E).2.1).1.1)) rfl rfl (zO rfl) λaX h f=>oG h 2 rfl (qv (0,Q0,ks,(ee k v M 0 (eK n E).2.1).1.1)) rfl rfl (zO rfl) λaY h f=>⟨xl,(eK n E).1,ks,(eK n E).2.2,_,F1,_,av,_,g,aa,h.sub (.cons _ (.cons _ (.refl _))),ae,af,hH.1,hH.2.1,hH.2.2.1,vO hT.wf ⟨oM,oM⟩,?_,?_⟩;unfold eK;split;exact tO hx.2.1.1 _;exact tO hx.2.1.1 _;unfold gC;rw[iP J,aj,iN he];have J:¬(fq n k v).1>(fq n k v).2:=(by have:=zB J;dsimp only at this;omega);refine⟨x,n,dT,[],0,F,[],w0,M,g,hT,h,hx,.nil _ _ _ _,h1,h2,h3,⟨oM,oM⟩,.nil,?_⟩;unfold gC;rw[iN J];rintro aZ a0 ⟨x',n',ks,key,o,F1,T,wa,M',g,G,h,ay,az,l1,l2,l3,uo,bk,e⟩;rw[e] at kk;refine IR h 3 rfl (kb k v pb t)<|IR h 2 rfl x'<|vS (G.J2 h) (ay.J2 h) oJ oJ oJ λF2 a3 ak ag al=>?_;have ab:=qso (qB az h) ag al;have g:=g.next h ag al
 have h:=(G.J2 h).own h ag;exact oD h 0 rfl (qv ((ee k v M' p n').1.1,Q0,ks,o)) λa4 h f=>IR h 0 rfl ((ee k v M' p n').1.1,Q0,ks,o)<|oD h 1 rfl (qv ((ee k v M' p n').1.1,Q0,ks,o)) λaA h f=>IR h 1 rfl ((ee k v M' p n').1.1,Q0,ks,o)<|kk ks F2 aA ⟨vO G.wf hp,uo,bk⟩ (ak.J2 h).j9 (EP (qB ab h)) (g.fr h) g.new
end
end
section
section
variable {Z:IS} {w w':IK} {s:Sl} {l:List Key} {B:IS}
def qpP{α β:Type}(f:α->β)(l:List α)(i:Nat)(x:α):(fX l i x).map f=fX (l.map f) i (f x):=by unfold fX;rw[xO,xO,xQ,xR];rfl
def qpC{α β:Type}(f:α->β)(l:List α)(i:Nat):(iu l i).map f=iu (l.map f) i:=by unfold iu;rw[xO,xQ,xR]
def DC{α:Type}{l:List α}{y:α}(h:y∈iu l i):y∈l:=by unfold iu at h;exact (zD.1 h).elim yV yU
abbrev mZ (Z:IS) (w:IK) (Z':IS):Prop:=∀b∈Z',b∈Z\/w.heap.size<=b
def Cd{pk pk':qh}{Z':IS}{G:Sl}{B':IS}{l':List Key}(I:∀p∈pk,eN Z w p.1 p.2)(u:fj gO 1 w' G (iY pk') B')(e:gH pk'=l')(f:Fr B w w')(E:∀b∈B,b∈Z)(J:mZ Z w Z')(R:∀p∈pk',p∈pk\/eN Z w p.1 p.2):ju Z' w' G l' B':=
 ⟨pk',u,e,λp h=>((R p h).elim (I p) id).j1 (f.mono λb u _=>E b u) J⟩
def ju.ins{ii:Int}{ks:Sl}{key:Key}{vb:Nat}{T':IM}(h:ju Z w s l B)(E:∀b∈B,b∈Z)(hi:i<=l.length)(R:ii=i)(J:l.length<=100000)(U:w.heap[vb]?=some (.c #[gy ks] T'))(G:vb∉B)(V:eN Z w ks key)(kk:∀u B' w',(∀Z',mZ Z w Z'->ju Z' w' u (fX l i key) B')->Fr B w w'->(∀b∈B',b∈B\/w.heap.size<=b)->K u w'): cW 165 [s.v,.i ii,.slice (pW vb) 1 1] dl w K:=by obtain⟨pk,hb,rfl,I⟩:=h;rw[zK] at hi J;refine qur hb (by rw[zK];exact hi) R (by rw[zK];exact J) U G λu B' w' b' f n=>kk u B' w' (λZ' hZ=>Cd (pk':=fX pk i (ks,key)) I (by rw[show iY (fX pk i (ks,key))=fX (iY pk) i ks from qpP _ _ _ _];exact b') (qpP _ _ _ _) f E hZ λp I=>?_) f n;rcases Du I with rfl|h;exact .inr V;exact .inl h
def ju.del{ii jj:Int}(h:ju Z w s l B)(E:∀b∈B,b∈Z)(hi:i<l.length)(J:ii=i)(R:jj=((i+1:Nat):Int))(I:l.length<=100000)(U:∀u w',(∀Z',mZ Z w Z'->ju Z' w' u (iu l i) B)->Fr B w w'->K u w'): cW 168 [s.v,.i ii,.i jj] dl w K:=by obtain⟨pk,V,rfl,G⟩:=h;rw[zK] at hi I;exact qun V (by rw[zK];exact hi) J R (by rw[zK];exact I) λu w' b' f=>U u w' (λZ' hZ=>Cd (pk':=iu pk i) G (by rw[show iY (iu pk i)=iu (iY pk) i from qpC _ _ _];exact b') (qpC _ _ _) f E hZ λp G=>.inl (DC G)) f
def ju.set{i:Nat}{ii:Int}{ks:Sl}{key:Key}{K:WP}(h:ju Z w s l B)(u:∀b∈B,b∈Z)(hi:i<l.length)(I:ii=i)(J:eN Z w ks key)(R:∀w',(∀Z',mZ Z w Z'->ju Z' w' s (l.set i key) B)->Fr B w w'->K w'):idx s ii 1 λa=>st a [ks.v] w K:=by obtain⟨pk,G,rfl,E⟩:=h;rw[zK] at hi;refine fj.wt G I (by rw[zK];exact hi) λb U=>?_;subst U;refine fj.Cj (e:=gy) (x:=ks) (λ_=>rfl) G (by rw[zK];exact hi) rfl rfl λw' b' f=>R w' (λZ' V=>Cd (pk':=pk.set i (ks,key)) E (by rw[show iY (pk.set i (ks,key))=(iY pk).set i ks from map_set];exact b') (map_set) f u V λp E=>?_) f;rcases mem_or_eq_of_mem_set E with h|rfl;exact .inl h;exact .inr J
def ju.CI{ks:Sl}{key:Key}{vb:Nat}{T':IM}(h:ju Z w s l B)(E:∀b∈B,b∈Z)(I:l.length<=100000)(J:w.heap[vb]?=some (.c #[gy ks] T'))(R:eN Z w ks key)(U:∀u B' w',(∀Z',mZ Z w Z'->ju Z' w' u (l++[key]) B')->Fr B w w'->(∀b∈B',b∈B\/w.heap.size<=b)->K u w'): Pt.run dl ((Builtin.append_ #[171,171] 171 #[s.v,.slice (pW vb) 1 1]).run prog w) K:=by obtain⟨pk,V,rfl,G⟩:=h;rw[zK] at I;refine qs V (by rw[zK];exact I) J λu B' w' b' f n=>U u B' w' (λZ' hZ=>Cd (pk':=pk++[(ks,key)]) G (by rw[show iY (pk++[(ks,key)])=iY pk++[ks] by simp];exact b') oL f E hZ λp G=>?_) f n;rcases zD.1 G with h|h;exact .inl h;rw[zE.1 h];exact .inr R
def ju.uM(h:ju Z w s l B)(G:∀b∈B,b∈Z)(hl:l.length+ps.length<=100000)(u:eI gO 1 S w src (iY ps))(I:∀p∈ps,eN Z w p.1 p.2)(kk:∀E B' w',(∀Z',mZ Z w Z'->ju Z' w' E (l++gH ps) B')->Fr B w w'->(∀b∈B',b∈B\/w.heap.size<=b)->K E w'): Pt.run dl ((Builtin.append_ #[171,171] 171 #[s.v,src.v]).run prog w) K:=by obtain⟨pk,hb,rfl,J⟩:=h;rw[zK] at hl;obtain⟨ad,R,hz,U,V⟩:=Dv;refine fj.j4 (ys:=iY ps) (e:=101) hb wX oK R hz U rfl (uU (e':=101) u wX qwr oK) u.1 (by rw[V,zK,u.1,zK];omega) (by rw[zK,u.1,zK];omega) λE B' w' b' f n _=>kk E B' w' (λZ' hZ=>Cd (pk':=pk++ps) J (by rw[show iY (pk++ps)=iY pk++iY ps by simp];exact b') oL f G hZ λp J=>?_) f n;rcases zD.1 J with h|h;exact .inl h;exact .inr (I p h)
def qzg{l ys:IT}(h:fj iZ 1 w s l B)(hl:l.length+ys.length<=100000)(E:eI iZ 1 S w src ys)(U:∀G B' w',fj iZ 1 w' G (l++ys) B'->Fr B w w'->(∀b∈B',b∈B\/w.heap.size<=b)->K G w'): Pt.run dl ((Builtin.append_ #[172,172] 172 #[s.v,src.v]).run prog w) K:=by obtain⟨V,I,hz,J,R⟩:=wV;exact fj.j4 (ys:=ys) (e:=63) h rM oK I hz J rfl (uU (e':=63) E rM (λx u hu=>by rw[zE.1 hu];rfl) oK) E.1 (by rw[R,E.1];omega) (by rw[E.1];omega) λG B' w' b' f n _=>U G B' w' b' f n
def qBc{l:IT}{ii x:Int}{K:WP}(h:fj iZ 1 w s l B)(hi:i<l.length)(E:ii=i)(G:∀w',fj iZ 1 w' s (l.set i x) B->Fr B w w'->K w'):idx s ii 1 λa=>st a [.u x] w K:=by refine fj.wt h E hi λb I=>?_;subst I;exact fj.Cj (e:=nX) (x:=x) (λ_=>rfl) h hi rfl rfl G
end
section
variable {Z:IS} {w:IK} {x:kQ} {n:dY} {B:IS}
def fE.sd(h:fE Z w x n B):∃Bk,ju Z w x.2.1 n.J8 Bk/\(∀b∈Bk,b∈B)/\∀I G Bk' w',Fr Bk w w'->(∀b∈Bk,b∈Z)->(∀b∈Bk',b∈Bk\/w.heap.size<=b)->(∀a∈G,eX a)-> ∃B',(∀b∈B',b∈B\/w.heap.size<=b)/\∀Z',mZ Z w Z'->ju Z' w' I G Bk'->fE Z' w' (x.1,I,x.2.2) { n with J8:=G } B':=by
 obtain⟨h0,J,Bk,Bv,Bi,rfl,R,hk,hv,hi⟩:=h;obtain⟨n1,n2,U⟩:=yM.1 R;refine⟨Bk,hk,λb u=>by simp[u],λI G Bk' w' f hz nk hl=>⟨Bk'++(Bv++Bi),λb u=>?_,λZ' hZ E=>⟨h0,⟨hl,J.2⟩,Bk',Bv,Bi,rfl,?_,E,hv.j1 f (λb u V=>U b V b (by simp[u]) rfl) (λb u=>.inl (hz b u)) hZ,hi.j1 f λb u V=>U b V b (by simp[u]) rfl⟩⟩⟩;rcases zD.1 u with u|u;exact (nk b u).imp (λh=>by simp[h]) id;exact .inl (zI _ u);have aa:Bk'.Nodup:=(by obtain⟨_,u,_⟩:=E;exact A3 u);refine yM.2 ⟨aa,n2,λa ha b u e=>?_⟩;subst e;rcases nk a ha with h1|h1;exact U a h1 a u rfl;rcases zD.1 u with u|u;have:=hv.lt a u;omega;have:=hi.lt a u;omega
def fE.rN(h:fE Z w x n B):∃G,ju Z w x.2.2.1 n.Q2 G/\(∀b∈G,b∈B)/\∀s' V E w',Fr G w w'->(∀b∈G,b∈Z)->(∀b∈E,b∈G\/w.heap.size<=b)->(∀a∈V,eX a)-> ∃B',(∀b∈B',b∈B\/w.heap.size<=b)/\∀Z',mZ Z w Z'->ju Z' w' s' V E->fE Z' w' (x.1,x.2.1,s',x.2.2.2) { n with Q2:=V } B':=by
 obtain⟨h0,I,Bk,G,Bi,rfl,ab,hk,hv,hi⟩:=h;obtain⟨n1,n2,n3⟩:=yM.1 ab;obtain⟨m1,m2,m3⟩:=yM.1 n2;refine⟨G,hv,λb u=>by simp[u],λs' V E w' f hz nv hl=>⟨Bk++(E++Bi),λb u=>?_,λZ' hZ J=>⟨h0,⟨I.1,hl,I.2.2⟩,Bk,E,Bi,rfl,?_,hk.j1 f (λb u hm=>n3 b u b (by simp[hm]) rfl) (λb u=>.inl (hz b u)) hZ,J,hi.j1 f λb u hm=>m3 b hm b u rfl⟩⟩⟩;simp only[zD] at u⊢;rcases u with u|u|u;exact .inl (.inl u);exact (nv b u).imp (λh=>.inr (.inl h)) id;exact .inl (.inr (.inr u));have af:E.Nodup:=(by obtain⟨_,u,_⟩:=J;exact A3 u);refine yM.2 ⟨n1,yM.2 ⟨af,m2,λa R b u e=>?_⟩,λa R b u e=>?_⟩;subst e;rcases nv a R with U|U;exact m3 a U a u rfl;have:=hi.lt a u;omega;subst e;rcases zD.1 u with u|u;rcases nv a u with U|U;exact n3 a R a (by simp[U]) rfl;have:=hk.lt a R;omega;exact n3 a R a (by simp[u]) rfl
def fE.rO(h:fE Z w x n B):∃G,fj iZ 1 w x.2.2.2 n.Q1 G/\(∀b∈G,b∈B)/\∀s' V E w',Fr G w w'->(∀b∈G,b∈Z)->(∀b∈E,b∈G\/w.heap.size<=b)->(∀a∈V,ia a)-> ∃B',(∀b∈B',b∈B\/w.heap.size<=b)/\∀Z',mZ Z w Z'->fj iZ 1 w' s' V E->fE Z' w' (x.1,x.2.1,x.2.2.1,s') { n with Q1:=V } B':=by
 obtain⟨h0,J,Bk,Bv,G,rfl,ab,hk,hv,hi⟩:=h;obtain⟨n1,n2,n3⟩:=yM.1 ab;obtain⟨m1,m2,m3⟩:=yM.1 n2;refine⟨G,hi,λb u=>by simp[u],λs' V E w' f hz ni hl=>⟨Bk++(Bv++E),λb u=>?_,λZ' hZ R=>⟨h0,⟨J.1,J.2.1,hl⟩,Bk,Bv,E,rfl,?_,hk.j1 f (λb u hm=>n3 b u b (by simp[hm]) rfl) (λb u=>.inl (hz b u)) hZ,hv.j1 f (λb u hm=>m3 b u b hm rfl) (λb u=>.inl (hz b u)) hZ,R⟩⟩⟩;simp only[zD] at u⊢;rcases u with u|u|u;exact .inl (.inl u);exact .inl (.inr (.inl u));exact (ni b u).imp (λh=>.inr (.inr h)) id;refine yM.2 ⟨n1,yM.2 ⟨m1,A3 R,λa I b u e=>?_⟩,λa I b u e=>?_⟩;subst e;rcases ni a u with U|U;exact m3 a I a U rfl;have:=hv.lt a I;omega;subst e;rcases zD.1 u with u|u;exact n3 a I a (by simp[u]) rfl;rcases ni a u with U|U;exact n3 a I a (by simp[U]) rfl;have:=hk.lt a I;omega
end
structure Ed (dbk pb:Nat) (FD:IS) (D:dV) (j:Nat) (S0 N0:IS) (w0 wa:IK) (T Y F:IS) (M:eH) (x:kQ) (n:dY) (B:IS):Prop where
 sg:Sg S0 w0 wa F T
 tw:TW dbk pb FD D j wa (T++(B++Y)) F M
 node:fE (Zo FD (T++(B++Y)) F) wa x n B
 sep:∀ b∈T,b∉B
 cU:∀ b∈B,b∈N0\/w0.heap.size<=b
 dF:∀ b∈N0,b∈S0
 cY:∀ b∈B,b∉Y
section
variable {dbk pb j:Nat} {FD S0 N0 Y F F' T B B':IS} {D:dV} {w0 wa w w':IK} {M M':eH} {L:IW} {x x':kQ} {n n':dY}
def Ed.J2(e:Ed dbk pb FD D j S0 N0 w0 wa T Y F M x n B)(h:ef T wa w L):Ed dbk pb FD D j S0 N0 w0 w (fH L) Y F M x n B where
 sg:=⟨e.sg.fr h,e.sg.new,e.sg.fH h⟩
 tw:=e.tw.J2 h
 node:=e.node.j1 h.fr (λb u E=>e.sep b E u) (λb u=>.inl (by simp[u])) (Em h)
 sep:=λb u E=>by
  obtain⟨q,I,rfl⟩:=mem_map.1 u;rcases h.own q I with G|G;exact e.sep _ G E;have:=e.node.lt _ E;omega
 cU:=e.cU
 dF:=e.dF
 cY:=e.cY
def Ed.rd(e:Ed dbk pb FD D j S0 N0 w0 wa T Y F M x n B):∀b∈B,b∈Zo FD (T++(B++Y)) F:=λb h=>by simp[h]
def Ed.nS{Bk:IS}(e:Ed dbk pb FD D j S0 N0 w0 w (fH L) Y F M x n B)(h:ef T wa w L)(I:∀b∈Bk,b∈B)(f:Fr Bk w w')(R:fE (Zo FD (fH L++(B'++Y)) F) w' x' n' B')(G:∀b∈B',b∈B\/w.heap.size<=b):Ed dbk pb FD D j S0 N0 w0 w' (fH L) Y F M x' n' B'/\ef (fH L) w' w' L:=by
 refine⟨⟨⟨e.sg.qK.J0 f λb u=>(e.cU b (I b u)).imp (e.dF b) id,e.sg.new,e.sg.own⟩,e.tw.dA (f.mono λb u _=>by simp[I b u]) (λb u=>?_) λb u=>?_,R,λb u J=>?_,λb u=>(G b u).elim (e.cU b) λE=>.inr (zL e.sg.qK.size E),e.dF,λb u U=>?_⟩,ry h f λb u J=>e.sep b u (I b J)⟩;rcases zD.1 u with u|u;exact yC (e.tw.qZ b (by simp[u])) f.size;rcases zD.1 u with u|u;exact R.lt b u;exact yC (e.tw.qZ b (by simp[u])) f.size;rcases zD.1 u with u|u;exact .inl (by simp[u]);rcases zD.1 u with u|u;exact (G b u).imp (λh=>by simp[h]) id;exact .inl (by simp[u]);rcases G b J with E|E;exact e.sep b u E;have:=e.tw.qZ b (by simp[u]);omega;rcases G b u with E|E;exact e.cY b E U;have:=e.tw.qZ b (by simp[U]);omega
def Ed.fP(e:Ed dbk pb FD D j S0 N0 w0 w T Y F M x n B)(E:∀b∈B',b∈B\/w.heap.size<=b):mZ (Zo FD (T++(B++Y)) F) w (Zo FD (T++(B'++Y)) F):=λb u=>by simp only[Zo,zD,zG] at u⊢;rcases u with (u|u|u|u|u)|u;simp[u];simp[u];simp[u];exact (E b u).imp (λh=>by simp[h]) id;simp[u];simp[u]
def Ed.next(e:Ed dbk pb FD D j S0 N0 w0 w (fH L) Y F M x n B)(h:ef T wa w L)(G:TW dbk pb FD D j w' (fH L++(B++Y)) F' M')(f:Fr F w w')(E:∀b∈F',b∈F\/w.heap.size<=b):Ed dbk pb FD D j S0 N0 w0 w' (fH L) Y F' M' x n B/\ef (fH L) w' w' L:=by have I:∀b∈fH L,b∉F:=λb u=>e.tw.yf b (by simp[u]);refine⟨⟨⟨e.sg.qK.J0 f e.sg.new,λb u=>(E b u).elim (e.sg.new b) λJ=>.inr (zL e.sg.qK.size J),e.sg.own⟩,G,e.node.j1 f (λb u=>e.tw.yf b (by simp[u])) (λb u=>.inl (vY u)) (TW.vQ E),e.sep,e.cU,e.dF,e.cY⟩,ry h f I⟩
def Ed.cR(e:Ed dbk pb FD D j S0 N0 w0 w (fH L) Y F M x n B)(h:ef T wa w L)(f:Fr [] w w'):Ed dbk pb FD D j S0 N0 w0 w' (fH L) Y F M x n B/\ef (fH L) w' w' L:=
 e.next h (e.tw.q8 f) (f.mono λ_ h=>nomatch h) λb u=>.inl u
def Ed.cO(e:Ed dbk pb FD D j S0 N0 w0 w T Y F M x n B):eT (Zo FD (T++Y) F) w x n:=
 e.node.rd (λb h u=>by
  simp only[Zo,zD,zG] at u;have E:=e.tw.sep b (by simp[h]);rcases u with (u|u|u|u)|u;exact E.1 u;exact E.2 u;exact e.sep b u h;exact e.cY b h u;exact e.tw.yf b (by simp[h]) u) λb h=>.inl (by
  simp only[Zo,zD,zG] at h⊢;rcases h with (h|h|h|h)|h<;>simp[h])
def Ed.rA(e:Ed dbk pb FD D j S0 N0 w0 w T Y F M x n B):TW dbk pb FD D j w (T++Y) F M:=e.tw.y8 λb u=>(zD.1 u).elim (λh=>by simp[h]) λh=>by simp[h]
end
end
section
section
variable {dbk pb j:Nat} {FD S0 N0 Y F F' F0 T T1 B B' Bk Bk':IS} {D:dV} {w0 wa w w':IK} {M M':eH} {L:IW} {x x':kQ} {n n':dY} {i q:Nat} {ii jj:Int} {ks:Sl} {key:Key} {vb:Nat} {T':IM}
structure nd (FD Y F B B':IS) (T:IS) (w w':IK):Prop where
 dH:∀ s l,eN (Zo FD (T++(B++Y)) F) w s l->eN (Zo FD (T++(B'++Y)) F) w' s l
 node:∀ x n,eT (Zo FD (T++(B++Y)) F) w x n->eT (Zo FD (T++(B'++Y)) F) w' x n
def Ed.kH(e:Ed dbk pb FD D j S0 N0 w0 w T Y F M x n B)(E:∀b∈Bk,b∈B)(f:Fr Bk w w')(G:∀b∈B',b∈B\/w.heap.size<=b):nd FD Y F B B' T w w':=⟨λs l h=>h.j1 (f.mono λb u _=>by simp[E b u]) (e.fP G),λx n h=>h.j1 (f.mono λb u _=>by simp[E b u]) (e.fP G)⟩
def Ed.dH(e:Ed dbk pb FD D j F0 N0 w0 w T Y F M x n B)(E:eN (Zo FD Y F0) w0 s l):eN (Zo FD (T++(B++Y)) F) w s l:=
 E.j1 (e.sg.qK.mono λb u _=>vY u) λb u=>by rcases zD.1 u with u|u;rcases zD.1 u with u|u;exact .inl (by simp[u]);rcases zG.1 u with u|u;exact .inl (by simp[u]);rcases zD.1 u with u|u;exact (e.sg.own b u).imp (λh=>vY h) id;rcases zD.1 u with u|u;exact (e.cU b u).imp (λh=>vY (e.dF b h)) id;exact .inl (by simp[u]);exact (e.sg.new b u).imp (λh=>vY h) id
def Ed.sub(e:Ed dbk pb FD D j S0 N0 w0 w T Y F M x n B)(E:∀b∈T1,b∈T):Ed dbk pb FD D j S0 N0 w0 w T1 Y F M x n B where
 sg:=⟨e.sg.qK,e.sg.new,λb u=>e.sg.own b (E b u)⟩
 tw:=e.tw.y8 λb u=>(zD.1 u).elim (λh=>zH _ (E b h)) λh=>zI _ h
 node:=e.node.j8 λb u=>.inl (by simp only[Zo,zD,zG] at u⊢;rcases u with (u|u|u|u)|u;simp[u];simp[u];simp[E b u];simp[u];simp[u])
 sep:=λb u=>e.sep b (E b u)
 cU:=e.cU
 dF:=e.dF
 cY:=e.cY
def E7{L:IW}{q vb:Nat}{o:Obj}(h:L[q]?=some (vb,o)):vb∈fH L:=mem_map.2 ⟨_,yF h,rfl⟩
def Ed.dC(e:Ed dbk pb FD D j S0 N0 w0 w (fH L) Y F M x n B)(h:ef T wa w L)(hi:i<=n.J8.length)(U:ii=i)(V:n.J8.length<=100000)(q:Nat)(R:L[q]?=some (vb,.c #[gy ks] T'))(hk:eN (Zo FD (fH L++(B++Y)) F) w ks key)(hB:eX key)(kk:∀E B' w',Ed dbk pb FD D j S0 N0 w0 w' (fH L) Y F M (x.1,E,x.2.2) { n with J8:=fX n.J8 i key } B'->ef (fH L) w' w' L->nd FD Y F B B' (fH L) w w'->K E w'): cW 165 [x.2.1.v,.i ii,.slice (pW vb) 1 1] dl w K:=by obtain⟨Bk,G,u,J⟩:=e.node.sd;refine G.ins (λb G=>e.rd b (u b G)) hi U V (h.at R) (λhm=>e.sep vb (E7 R) (u vb hm)) hk λE Bk' w' hz f nk=>?_;obtain⟨B',I,hN⟩:=J E _ Bk' w' f (λb G=>e.rd b (u b G)) nk λa ha=>(Du ha).elim (λh=>by rw[h];exact hB) (e.node.2.1.1 a);obtain⟨e',h'⟩:=e.nS h u f (hN _ (e.fP I) (hz _ (e.fP I))) I;exact kk E B' w' e' h' (e.kH u f I)
def Ed.tC(e:Ed dbk pb FD D j S0 N0 w0 w (fH L) Y F M x n B)(h:ef T wa w L)(hi:i<=n.Q2.length)(U:ii=i)(V:n.Q2.length<=100000)(q:Nat)(R:L[q]?=some (vb,.c #[gy ks] T'))(hk:eN (Zo FD (fH L++(B++Y)) F) w ks key)(hB:eX key)(kk:∀E B' w',Ed dbk pb FD D j S0 N0 w0 w' (fH L) Y F M (x.1,x.2.1,E,x.2.2.2) { n with Q2:=fX n.Q2 i key } B'->ef (fH L) w' w' L->nd FD Y F B B' (fH L) w w'->K E w'): cW 165 [x.2.2.1.v,.i ii,.slice (pW vb) 1 1] dl w K:=by obtain⟨Bk,G,u,J⟩:=e.node.rN;refine G.ins (λb G=>e.rd b (u b G)) hi U V (h.at R) (λhm=>e.sep vb (E7 R) (u vb hm)) hk λE Bk' w' hz f nk=>?_;obtain⟨B',I,hN⟩:=J E _ Bk' w' f (λb G=>e.rd b (u b G)) nk λa ha=>(Du ha).elim (λh=>by rw[h];exact hB) (e.node.2.1.2.1 a);obtain⟨e',h'⟩:=e.nS h u f (hN _ (e.fP I) (hz _ (e.fP I))) I;exact kk E B' w' e' h' (e.kH u f I)
def Ed.tz{I:Int}(e:Ed dbk pb FD D j S0 N0 w0 w (fH L) Y F M x n B)(h:ef T wa w L)(hi:i<=n.Q1.length)(he:ii=i)(hl:n.Q1.length<=100000)(q:Nat)(V:L[q]?=some (vb,.c #[.u I] T'))(hB:ia I)(kk:∀G B' w',Ed dbk pb FD D j S0 N0 w0 w' (fH L) Y F M (x.1,x.2.1,x.2.2.1,G) { n with Q1:=fX n.Q1 i I } B'->ef (fH L) w' w' L->nd FD Y F B B' (fH L) w w'->K G w'): cW 167 [x.2.2.2.v,.i ii,.slice (pW vb) 1 1] dl w K:=by obtain⟨Bk,J,E,R⟩:=e.node.rO;refine qus J hi he hl (h.at V) (λhm=>e.sep vb (E7 V) (E vb hm)) λG Bk' w' hz f nk=>?_;obtain⟨B',U,hN⟩:=R G _ Bk' w' f (λb J=>e.rd b (E b J)) nk λa ha=>(Du ha).elim (λh=>by rw[h];exact hB) (e.node.2.1.2.2 a);obtain⟨e',h'⟩:=e.nS h E f (hN _ (e.fP U) hz) U;exact kk G B' w' e' h' (e.kH E f U)
def Ed.BQ(e:Ed dbk pb FD D j S0 N0 w0 w (fH L) Y F M x n B)(h:ef T wa w L)(hi:i<n.J8.length)(R:ii=i)(U:jj=((i+1:Nat):Int))(V:n.J8.length<=100000)(kk:∀G B' w',Ed dbk pb FD D j S0 N0 w0 w' (fH L) Y F M (x.1,G,x.2.2) { n with J8:=iu n.J8 i } B'->ef (fH L) w' w' L->nd FD Y F B B' (fH L) w w'->K G w'): cW 168 [x.2.1.v,.i ii,.i jj] dl w K:=by obtain⟨Bk,E,u,J⟩:=e.node.sd;refine E.del (λb E=>e.rd b (u b E)) hi R U V λG w' hz f=>?_;obtain⟨B',I,hN⟩:=J G _ Bk w' f (λb E=>e.rd b (u b E)) (λb E=>.inl E) λa ha=>e.node.2.1.1 a (DC ha);obtain⟨e',h'⟩:=e.nS h u f (hN _ (e.fP I) (hz _ (e.fP I))) I;exact kk G B' w' e' h' (e.kH u f I)
def Ed.E4(e:Ed dbk pb FD D j S0 N0 w0 w (fH L) Y F M x n B)(h:ef T wa w L)(hi:i<n.Q2.length)(R:ii=i)(U:jj=((i+1:Nat):Int))(V:n.Q2.length<=100000)(kk:∀G B' w',Ed dbk pb FD D j S0 N0 w0 w' (fH L) Y F M (x.1,x.2.1,G,x.2.2.2) { n with Q2:=iu n.Q2 i } B'->ef (fH L) w' w' L->nd FD Y F B B' (fH L) w w'->K G w'): cW 168 [x.2.2.1.v,.i ii,.i jj] dl w K:=by obtain⟨Bk,E,u,J⟩:=e.node.rN;refine E.del (λb E=>e.rd b (u b E)) hi R U V λG w' hz f=>?_;obtain⟨B',I,hN⟩:=J G _ Bk w' f (λb E=>e.rd b (u b E)) (λb E=>.inl E) λa ha=>e.node.2.1.2.1 a (DC ha);obtain⟨e',h'⟩:=e.nS h u f (hN _ (e.fP I) (hz _ (e.fP I))) I;exact kk G B' w' e' h' (e.kH u f I)
def Ed.Hz(e:Ed dbk pb FD D j S0 N0 w0 w (fH L) Y F M x n B)(h:ef T wa w L)(hi:i<n.Q1.length)(R:ii=i)(U:jj=((i+1:Nat):Int))(V:n.Q1.length<=100000)(kk:∀E B' w',Ed dbk pb FD D j S0 N0 w0 w' (fH L) Y F M (x.1,x.2.1,x.2.2.1,E) { n with Q1:=iu n.Q1 i } B'->ef (fH L) w' w' L->nd FD Y F B B' (fH L) w w'->K E w'): cW 239 [x.2.2.2.v,.i ii,.i jj] dl w K:=by obtain⟨Bk,G,u,I⟩:=e.node.rO;refine qup G hi R U V λE w' hz f=>?_;obtain⟨B',J,hN⟩:=I E _ Bk w' f (λb G=>e.rd b (u b G)) (λb G=>.inl G) λa ha=>e.node.2.1.2.2 a (DC ha);obtain⟨e',h'⟩:=e.nS h u f (hN _ (e.fP J) hz) J;exact kk E B' w' e' h' (e.kH u f J)
def Ed.Bh{K:WP}(e:Ed dbk pb FD D j S0 N0 w0 w (fH L) Y F M x n B)(h:ef T wa w L)(hi:i<n.J8.length)(J:ii=i)(R:eN (Zo FD (fH L++(B++Y)) F) w ks key)(U:eX key)(V:∀B' w',Ed dbk pb FD D j S0 N0 w0 w' (fH L) Y F M (x.1,x.2.1,x.2.2) { n with J8:=n.J8.set i key } B'->ef (fH L) w' w' L->nd FD Y F B B' (fH L) w w'->K w'): idx x.2.1 ii 1 λa=>st a [ks.v] w K:=by
 obtain⟨Bk,E,u,I⟩:=e.node.sd;refine E.set (λb E=>e.rd b (u b E)) hi J R λw' hz f=>?_;obtain⟨B',G,hN⟩:=I x.2.1 _ Bk w' f (λb E=>e.rd b (u b E)) (λb E=>.inl E) λa ha=>(mem_or_eq_of_mem_set ha).elim (e.node.2.1.1 a) λh=>by rw[h];exact U
 obtain⟨e',h'⟩:=e.nS h u f (hN _ (e.fP G) (hz _ (e.fP G))) G;exact V B' w' e' h' (e.kH u f G)
def Ed.F9{K:WP}(e:Ed dbk pb FD D j S0 N0 w0 w (fH L) Y F M x n B)(h:ef T wa w L)(hi:i<n.Q2.length)(J:ii=i)(R:eN (Zo FD (fH L++(B++Y)) F) w ks key)(U:eX key)(V:∀B' w',Ed dbk pb FD D j S0 N0 w0 w' (fH L) Y F M (x.1,x.2.1,x.2.2.1,x.2.2.2) { n with Q2:=n.Q2.set i key } B'->ef (fH L) w' w' L->nd FD Y F B B' (fH L) w w'->K w'): idx x.2.2.1 ii 1 λa=>st a [ks.v] w K:=by
 obtain⟨Bk,E,u,I⟩:=e.node.rN;refine E.set (λb E=>e.rd b (u b E)) hi J R λw' hz f=>?_;obtain⟨B',G,hN⟩:=I x.2.2.1 _ Bk w' f (λb E=>e.rd b (u b E)) (λb E=>.inl E) λa ha=>(mem_or_eq_of_mem_set ha).elim (e.node.2.1.2.1 a) λh=>by rw[h];exact U
 obtain⟨e',h'⟩:=e.nS h u f (hN _ (e.fP G) (hz _ (e.fP G))) G;exact V B' w' e' h' (e.kH u f G)
def Ed.uH{I:Int}{K:WP}(e:Ed dbk pb FD D j S0 N0 w0 w (fH L) Y F M x n B)(h:ef T wa w L)(hi:i<n.Q1.length)(U:ii=i)(V:ia I)(kk:∀B' w',Ed dbk pb FD D j S0 N0 w0 w' (fH L) Y F M (x.1,x.2.1,x.2.2.1,x.2.2.2) { n with Q1:=n.Q1.set i I } B'->ef (fH L) w' w' L->nd FD Y F B B' (fH L) w w'->K w'): idx x.2.2.2 ii 1 λa=>st a [.u I] w K:=by
 obtain⟨Bk,G,E,J⟩:=e.node.rO;refine qBc G hi U λw' hz f=>?_;obtain⟨B',R,hN⟩:=J x.2.2.2 _ Bk w' f (λb G=>e.rd b (E b G)) (λb G=>.inl G) λa ha=>(mem_or_eq_of_mem_set ha).elim (e.node.2.1.2.2 a) λh=>by rw[h];exact V
 obtain⟨e',h'⟩:=e.nS h E f (hN _ (e.fP R) hz) R;exact kk B' w' e' h' (e.kH E f R)
def Ed.qs(e:Ed dbk pb FD D j S0 N0 w0 w (fH L) Y F M x n B)(h:ef T wa w L)(R:n.J8.length<=100000)(q:Nat)(U:L[q]?=some (vb,.c #[gy ks] T'))(V:eN (Zo FD (fH L++(B++Y)) F) w ks key)(hB:eX key)(kk:∀E B' w',Ed dbk pb FD D j S0 N0 w0 w' (fH L) Y F M (x.1,E,x.2.2) { n with J8:=n.J8++[key] } B'->ef (fH L) w' w' L->nd FD Y F B B' (fH L) w w'->K E w'): Pt.run dl ((Builtin.append_ #[171,171] 171 #[x.2.1.v,.slice (pW vb) 1 1]).run prog w) K:=by
 obtain⟨Bk,G,u,J⟩:=e.node.sd;refine G.CI (λb G=>e.rd b (u b G)) R (h.at U) V λE Bk' w' hz f nk=>?_;obtain⟨B',I,hN⟩:=J E _ Bk' w' f (λb G=>e.rd b (u b G)) nk λa ha=>(zD.1 ha).elim (e.node.2.1.1 a) λh=>by rw[zE.1 h];exact hB
 obtain⟨e',h'⟩:=e.nS h u f (hN _ (e.fP I) (hz _ (e.fP I))) I;exact kk E B' w' e' h' (e.kH u f I)
def Ed.yg(e:Ed dbk pb FD D j S0 N0 w0 w (fH L) Y F M x n B)(h:ef T wa w L)(R:n.Q2.length<=100000)(q:Nat)(U:L[q]?=some (vb,.c #[gy ks] T'))(V:eN (Zo FD (fH L++(B++Y)) F) w ks key)(hB:eX key)(kk:∀E B' w',Ed dbk pb FD D j S0 N0 w0 w' (fH L) Y F M (x.1,x.2.1,E,x.2.2.2) { n with Q2:=n.Q2++[key] } B'->ef (fH L) w' w' L->nd FD Y F B B' (fH L) w w'->K E w'): Pt.run dl ((Builtin.append_ #[171,171] 171 #[x.2.2.1.v,.slice (pW vb) 1 1]).run prog w) K:=by
 obtain⟨Bk,G,u,J⟩:=e.node.rN;refine G.CI (λb G=>e.rd b (u b G)) R (h.at U) V λE Bk' w' hz f nk=>?_;obtain⟨B',I,hN⟩:=J E _ Bk' w' f (λb G=>e.rd b (u b G)) nk λa ha=>(zD.1 ha).elim (e.node.2.1.2.1 a) λh=>by rw[zE.1 h];exact hB
 obtain⟨e',h'⟩:=e.nS h u f (hN _ (e.fP I) (hz _ (e.fP I))) I;exact kk E B' w' e' h' (e.kH u f I)
def Ed.xh{I:Int}(e:Ed dbk pb FD D j S0 N0 w0 w (fH L) Y F M x n B)(h:ef T wa w L)(V:n.Q1.length<=100000)(q:Nat)(hv:L[q]?=some (vb,.c #[.u I] T'))(hB:ia I)(kk:∀G B' w',Ed dbk pb FD D j S0 N0 w0 w' (fH L) Y F M (x.1,x.2.1,x.2.2.1,G) { n with Q1:=n.Q1++[I] } B'->ef (fH L) w' w' L->nd FD Y F B B' (fH L) w w'->K G w'): Pt.run dl ((Builtin.append_ #[172,172] 172 #[x.2.2.2.v,.slice (pW vb) 1 1]).run prog w) K:=by
 obtain⟨Bk,J,E,R⟩:=e.node.rO;refine qtE J V (h.at hv) λG Bk' w' hz f nk=>?_;obtain⟨B',U,hN⟩:=R G _ Bk' w' f (λb J=>e.rd b (E b J)) nk λa ha=>(zD.1 ha).elim (e.node.2.1.2.2 a) λh=>by rw[zE.1 h];exact hB
 obtain⟨e',h'⟩:=e.nS h E f (hN _ (e.fP U) hz) U;exact kk G B' w' e' h' (e.kH E f U)
def Ed.wn(e:Ed dbk pb FD D j S0 N0 w0 w (fH L) Y F M x n B)(h:ef T wa w L)(U:n.J8.length+ps.length<=100000)(V:eI gO 1 S w src (iY ps))(J:∀p∈ps,eN (Zo FD (fH L++(B++Y)) F) w p.1 p.2)(hB:∀a∈gH ps,eX a)(kk:∀E B' w',Ed dbk pb FD D j S0 N0 w0 w' (fH L) Y F M (x.1,E,x.2.2) { n with J8:=n.J8++gH ps } B'->ef (fH L) w' w' L->nd FD Y F B B' (fH L) w w'->K E w'): Pt.run dl ((Builtin.append_ #[171,171] 171 #[x.2.1.v,src.v]).run prog w) K:=by obtain⟨Bk,G,u,R⟩:=e.node.sd;refine G.uM (λb G=>e.rd b (u b G)) U V J λE Bk' w' hz f nk=>?_;obtain⟨B',I,hN⟩:=R E _ Bk' w' f (λb G=>e.rd b (u b G)) nk λa ha=>(zD.1 ha).elim (e.node.2.1.1 a) (hB a);obtain⟨e',h'⟩:=e.nS h u f (hN _ (e.fP I) (hz _ (e.fP I))) I;exact kk E B' w' e' h' (e.kH u f I)
def Ed.vL(e:Ed dbk pb FD D j S0 N0 w0 w (fH L) Y F M x n B)(h:ef T wa w L)(U:n.Q2.length+ps.length<=100000)(V:eI gO 1 S w src (iY ps))(J:∀p∈ps,eN (Zo FD (fH L++(B++Y)) F) w p.1 p.2)(hB:∀a∈gH ps,eX a)(kk:∀E B' w',Ed dbk pb FD D j S0 N0 w0 w' (fH L) Y F M (x.1,x.2.1,E,x.2.2.2) { n with Q2:=n.Q2++gH ps } B'->ef (fH L) w' w' L->nd FD Y F B B' (fH L) w w'->K E w'): Pt.run dl ((Builtin.append_ #[171,171] 171 #[x.2.2.1.v,src.v]).run prog w) K:=by obtain⟨Bk,G,u,R⟩:=e.node.rN;refine G.uM (λb G=>e.rd b (u b G)) U V J λE Bk' w' hz f nk=>?_;obtain⟨B',I,hN⟩:=R E _ Bk' w' f (λb G=>e.rd b (u b G)) nk λa ha=>(zD.1 ha).elim (e.node.2.1.2.1 a) (hB a);obtain⟨e',h'⟩:=e.nS h u f (hN _ (e.fP I) (hz _ (e.fP I))) I;exact kk E B' w' e' h' (e.kH u f I)
def Ed.vT{ys:IT}(e:Ed dbk pb FD D j S0 N0 w0 w (fH L) Y F M x n B)(h:ef T wa w L)(R:n.Q1.length+ys.length<=100000)(U:eI iZ 1 S w src ys)(V:∀y∈ys,ia y)(kk:∀E B' w',Ed dbk pb FD D j S0 N0 w0 w' (fH L) Y F M (x.1,x.2.1,x.2.2.1,E) { n with Q1:=n.Q1++ys } B'->ef (fH L) w' w' L->nd FD Y F B B' (fH L) w w'->K E w'): Pt.run dl ((Builtin.append_ #[172,172] 172 #[x.2.2.2.v,src.v]).run prog w) K:=by obtain⟨Bk,G,u,I⟩:=e.node.rO;refine qzg G R U λE Bk' w' hz f nk=>?_;obtain⟨B',J,hN⟩:=I E _ Bk' w' f (λb G=>e.rd b (u b G)) nk λa ha=>(zD.1 ha).elim (e.node.2.1.2.2 a) (V a);obtain⟨e',h'⟩:=e.nS h u f (hN _ (e.fP J) hz) J;exact kk E B' w' e' h' (e.kH u f J)
end
end
section
def CG{D:dV}{M:eH}(h:dW D M k v p=(n,0)):fW n k v:=by
 unfold dW at h;split at h;rename_i u;exact absurd (IH (·.2) h) u;have:=qsp (kind:=(dU D M p).1) (b:=(dU D M p).2.1) (k:=k) (v:=v) (by rw[h]);rw[h] at this;exact this
def vR(h:fW n k v):n.J8.length<=498/\n.Q2.length<=498/\n.Q1.length<=498/\(n.Q6=true->n.Q2.length=n.J8.length/\n.J8.length<=(eE k v).1)/\(n.Q6=false->n.J8.length+1=n.Q1.length/\n.Q1.length<=(eE k v).2/\2<=n.Q1.length):=by
 have U:=Cu (k:=k) (v:=v);obtain⟨_,_,_,u⟩:=h;cases J:n.Q6 with
 | true=>
  rw[J,iP rfl] at u;obtain⟨E,R,G,I⟩:=u;rw[E];exact⟨oJ,oJ,oL,λ_=>⟨I,G⟩,λh=>nomatch h⟩
 | false=>
  rw[J,iN oM] at u;obtain⟨_,E,R,G,I⟩:=u;rw[E];exact⟨oJ,oL,oJ,λh=>(nomatch h),λ_=>⟨I,G,R⟩⟩
section
variable {D:dV} {M M1:eH} {k v f:Nat} {key val:Key} {p e0 e1:Int} {n:dY} {g:Grown}
def qyx(h:dW D M k v p=(n,e0))(u:e0≠0):iD D k v key val (f+1) M p=((px,e0),M):=by unfold iD;rw[h,iP u]
def qyy(h:dW D M k v p=(n,0))(u:n.Q6=true)(E:n.J8[ed n.J8 key]?=some key):iD D k v key val (f+1) M p=gC k v M p { n with Q2:=n.Q2.set (ed n.J8 key) val } false:=by unfold iD;rw[h,iN λh=>h rfl,iP u,iP E]
def qw6(h:dW D M k v p=(n,0))(u:n.Q6=true)(E:¬n.J8[ed n.J8 key]?=some key):iD D k v key val (f+1) M p=gC k v M p { n with J8:=fX n.J8 (ed n.J8 key) key,Q2:=fX n.Q2 (ed n.J8 key) val } true:=by unfold iD;rw[h,iN λh=>h rfl,iP u,iN E]
def qqi(h:dW D M k v p=(n,0))(u:¬n.Q6=true)(E:iD D k v key val f M (n.Q1.getD (eP n.J8 key) 0)=((g,e1),M1))(G:e1≠0):iD D k v key val (f+1) M p=((px,e1),M1):=by unfold iD;rw[h,iN λh=>h rfl,iN u];dsimp only;rw[E,iP G]
def qw7(h:dW D M k v p=(n,0))(u:¬n.Q6=true)(E:iD D k v key val f M (n.Q1.getD (eP n.J8 key) 0)=((g,0),M1))(G:g.x7=n.Q1.getD (eP n.J8 key) 0/\g.x6=0):iD D k v key val (f+1) M p=((⟨p,g.Q0,[],0⟩,0),M1):=by unfold iD;rw[h,iN λh=>h rfl,iN u];dsimp only;rw[E,iN λh=>h rfl,iP G]
def qzX(h:dW D M k v p=(n,0))(u:¬n.Q6=true)(E:iD D k v key val f M (n.Q1.getD (eP n.J8 key) 0)=((g,0),M1))(G:¬(g.x7=n.Q1.getD (eP n.J8 key) 0/\g.x6=0)):iD D k v key val (f+1) M p=gC k v M1 p (gT n (eP n.J8 key) g) g.Q0:=by unfold iD;rw[h,iN λh=>h rfl,iN u];dsimp only;rw[E,iN λh=>h rfl,iN G]
end
def qyo(u:n.Q6=true)(E:n.Q2.length=n.J8.length):(fq n k v).1>(fq n k v).2->pB n ((fq n k v).1 / 2):=λh=>by unfold pB;have e:(fq n k v).1=n.J8.length:=(by unfold fq;rw[iP u]);rw[iP u,E];rw[e] at h⊢;omega
def qwX(u:¬n.Q6=true)(E:n.J8.length+1=n.Q1.length)(G:2<=n.Q1.length):(fq n k v).1>(fq n k v).2->pB n ((fq n k v).1 / 2):=λh=>by unfold pB;have e:(fq n k v).1=n.Q1.length:=(by unfold fq;rw[iN u]);rw[iN u];rw[e] at h⊢;omega
def BB{α:Type}{l:List α}{x:α}(h:i<=l.length):(fX l i x).length=l.length+1:=by unfold fX;simp;omega
def eI.dD{l:IT}{i:Int}{K:Addr->Int->Prop}(h:eI iZ 1 S w s l)(n:Nat)(hi:i=n)(U:n<l.length)(V:∀a,(∀S' w',eI iZ 1 S' w' s l->w'.cell? a=some (.u l[n]))->K a l[n]):idx s i 1 λa=>ld .u a w λy=>K a y:=by
 subst hi;have J:l[n]?=some l[n]:=zA U;obtain⟨hl,b,o,R,_,cs,T,fr,hb,hc⟩:=h.at n J;refine qM R ⟨oJ,oJ⟩ ?_;rw[zJ];have key:∀S' w',eI iZ 1 S' w' s l->w'.cell? ⟨b,o+n*1,none⟩=some (.u l[n]):=λS' w' h'=>by
  obtain⟨_,b',o',E,_,ab,T',ac,G,I⟩:=h'.at n J;rw[R] at E;cases E;rw[jC G]
  have:=IH (·[0]?) I;simpa[iZ] using this
 exact oX l[n] (key S w h) (V _ key)
section
variable {dbk pb j:Nat} {FD S0 N0 Y F F' F0 T B:IS} {D:dV} {w0 wa w w':IK} {M M':eH} {L:IW} {x:kQ} {n:dY} {k v:Nat} {t:Int}
def Ed.load{w7:IK}(E:∀b∈N0,b∈S0)(g:Sg S0 w0 wa F T)(h:ef T wa w L)(I:TW dbk pb FD D j w7 (B++(fH L++Y)) F M)(J:fE (Zo FD (B++(fH L++Y)) F) w7 x n B)(f:Fr [] w w7)(G:∀c∈B,w.heap.size<=c)(R:∀b∈Y,b<w.heap.size): Ed dbk pb FD D j S0 N0 w0 w7 (fH L) Y F M x n B/\ef (fH L) w7 w7 L:=by
 refine⟨⟨g.cR h f,I.y8 λb u=>?_,J.j8 λb u=>.inl ?_,λb u U=>?_,λb u=>.inr (zL (g.fr h).size (G b u)),E,λb u V=>?_⟩,ry h f λ_ _ h=>nomatch h⟩;simp only[zD] at u⊢;rcases u with u|u|u<;>simp[u];simp only[Zo,zD,zG] at u⊢;rcases u with (u|u|u|u|u)|u<;>simp[u];have:=ya h b u;have:=G b U;omega;have:=R b V;have:=G b u;omega
def Ed.cL(e:Ed dbk pb FD D j S0 N0 w0 w T Y F M x n B):eI iZ 1 (Zo FD (T++Y) F) w x.2.2.2 n.Q1:=e.cO.2.2.2.2
def Ed.fr(e:Ed dbk pb FD D j S0 N0 w0 w T Y F M x n B):Fr S0 w0 w:=e.sg.qK
def mp{L':IW}(h:ef T wa w L)(u:L'.Sublist L):ef (fH L') w w L':=(h.sub u).lX
def Hd{ks vs:Sl}{key val:Key}(ag:eX key)(aj:eX val):∀(f:Nat) {Y F:IS} {w0:IK} {M:eH} {p:Int} {K:DF×Int->WP} (hT:TW dbk pb FD D j w0 Y F M) (hp:ia p) (hk:eN (Zo FD Y F) w0 ks key) (hv:eN (Zo FD Y F) w0 vs val) (an:(iD D k v key val f M p).1.2≠-1) (kk:∀gs F' w',HN (iD D k v key val f M p).1.1->TW dbk pb FD D j w' Y F' (iD D k v key val f M p).2->eN (Zo FD Y F') w' gs (iD D k v key val f M p).1.1.key->Fr F w0 w'->(∀b∈F',b∈F\/w0.heap.size<=b)->K (tQ (iD D k v key val f M p).1.1 gs,(iD D k v key val f M p).1.2) w'), cW 132 [.agg (oj (kb k v pb t)),.u p,ks.v,vs.v] [.agg qG,.one .i] w0 K
 | 0,_,_,_,_,_,_,_,_,_,_,an,_=>absurd rfl an
 | f+1,Y,F,w0,M,p,K,hT,hp,hk,hv,an,kk=>by
  refine qm6 ?_;unfold Dd EX Eu;have h:=oE [] w0;have g:=Sg.start F w0;refine oB h λr1 w2 _ _ h=>oB h λr3 w4 _ _ h=>IR h 1 rfl (kb k v pb t) ?_;rcases U:dW D M k v p with ⟨n,e0⟩;refine Cf (k:=k) (v:=v) (hT.cS h) hp λx B w7 bh aM f7 bi=>?_;rw[U] at aM⊢;dsimp only at aM;obtain⟨e,h⟩:=Ed.load (N0:=[]) (λ_ h=>nomatch h) g h bh aM f7 bi λb hb=>yC (hT.qZ b hb) h.fr.size;refine oB h λr8 w9 _ _ h=>oD h 0 rfl (fg x) λbU h _=>eB (λhc=>?_) λhc=>?_;have aX:e0≠0:=by rw[zT] at hc;exact zR.1 hc
  rw[qyx U aX] at kk;exact oD h 1 rfl (qv (0,false,dT,0)) λbj h _=>IR h 1 rfl (0,false,dT,0)<|kk dT F bj Hm (e.J2 h).rA.j9 (.nil _ _ _ _) (e.J2 h).fr (e.J2 h).sg.new;have bk:e0=0:=by rw[yE] at hc;exact yP.1 hc
  subst bk;have hr:=CG U;obtain⟨l1,l2,l3,l4,l5⟩:=vR hr;have e:=e.J2 h;have h:=mp h (.refl _);have aY:x.1=n.Q6:=e.node.1;refine IQ h 0 rfl x.1<|eB (λhc=>?_) λhc=>?_;rw[aY] at hc;obtain⟨l6,l7⟩:=l4 hc;refine IR h 0 rfl x<|C7 e.cO (e.dH hk) ag hr.2.2.1 oJ λbY bn=>?_;obtain⟨e,h⟩:=e.cR h bn;have ap:=FL n.J8 key;refine iC (λ_ w'=>∃x' n' B',ef [r8,r3,r1] w' w' [(r8,.c (fg x') ND),(r3,.c (qv (0,false,dT,0)) GR),(r1,.c (oj (kb k v pb t)) WK)]/\Ed dbk pb FD D j F [] w0 w' [r8,r3,r1] Y F M x' n' B'/\
   iD D k v key val (f+1) M p=gC k v M p n' (!decide (n.J8[ed n.J8 key]?=some key))/\n'.Q6=true/\n'.Q2.length=n'.J8.length/\n'.J8.length<=1000/\n'.Q1.length<=1000) ?_ ?_
  refine eB (λV=>?_) λV=>?_;have aO:=zC V;have bZ:=(zP.1 aO).1;refine IQ h 0 rfl x.2.2.1<|e.F9 h (i:=ed n.J8 key) oJ rfl (e.dH hv) aj λB' b0 e h _=>⟨x,_,B',h,e,?_,hc,by dsimp only;rw[xH];exact l6,by dsimp only;omega,by dsimp only;omega⟩;rw[qyy U hc aO,zZ aO];rfl;have aD:=zB V;have J:iD D k v key val (f+1) M p=gC k v M p { n with J8:=fX n.J8 (ed n.J8 key) key,Q2:=fX n.Q2 (ed n.J8 key) val } (!decide (n.J8[ed n.J8 key]?=some key)):=by rw[qw6 U hc aD,zU aD];rfl
  have aq:(fX n.Q2 (ed n.J8 key) val).length=(fX n.J8 (ed n.J8 key) key).length:=(by rw[BB oJ,BB ap,l6]);have ar:(fX n.J8 (ed n.J8 key) key).length<=1000:=(by rw[BB ap];omega);refine⟨?_,?_,?_⟩;have h:=oF h;refine IQ h 0 rfl x.2.1<|IQ h 0 rfl x.2.2.1<|oB h λb1 b2 _ _ h=>kV (h.cell 1) (h.cell 1) ?_;have e:=e.J2 h;refine e.dC h (i:=ed n.J8 key) ap rfl oJ 0 rfl (e.dH hk) ag λac B1 aZ e h _=>iS (h.cell 1)<|oB h λb3 b4 _ _ h=>kV (h.cell 2) (h.cell 2) ?_;have e:=e.J2 h;exact e.tC h (i:=ed n.J8 key) oN rfl oN 0 rfl (e.dH hv) aj λau B2 a0 e h _=>oD h 2 rfl (fg (x.1,ac,x.2.2.1,x.2.2.2)) λa1 h _=>oD h 2 rfl (fg (x.1,ac,au,x.2.2.2)) λa2 h _=>⟨_,_,B2,mp h (.cons _ (.cons _ (.refl _))),(e.J2 h).sub oL,J,hc,aq,ar,by dsimp only;omega⟩;have h:=oF h;refine IQ h 0 rfl x.2.1<|IQ h 0 rfl x.2.2.1<|oB h λb5 b6 _ _ h=>kV (h.cell 1) (h.cell 1)<|oB h λb7 b8 _ _ h=>kV (h.cell 2) (h.cell 2) ?_;have e:=e.J2 h;exact e.dC h (i:=ed n.J8 key) ap rfl oJ 1 rfl (e.dH hk) ag λac B1 aZ e h _=>iS (h.cell 2)<|e.tC h (i:=ed n.J8 key) oN rfl oN 0 rfl (e.dH hv) aj λau B2 a0 e h _=>oD h 2 rfl (fg (x.1,ac,x.2.2.1,x.2.2.2)) λa1 h _=>oD h 2 rfl (fg (x.1,ac,au,x.2.2.2)) λa2 h _=>⟨_,_,B2,mp h (.cons _ (.cons _ (.refl _))),(e.J2 h).sub oL,J,hc,aq,ar,by dsimp only;omega⟩;have h:=oF h;refine IQ h 0 rfl x.2.1<|IQ h 0 rfl x.2.2.1<|oB h λb9 ca _ _ h=>kV (h.cell 1) (h.cell 1)<|oB h λcc cd _ _ h=>kV (h.cell 2) (h.cell 2) ?_;have e:=e.J2 h;exact e.dC h (i:=ed n.J8 key) ap rfl oJ 0 rfl (e.dH hk) ag λac B1 aZ e h _=>iS (h.cell 2)<|e.tC h (i:=ed n.J8 key) oN rfl oN 1 rfl (e.dH hv) aj λau B2 a0 e h _=>oD h 2 rfl (fg (x.1,ac,x.2.2.1,x.2.2.2)) λa1 h _=>oD h 2 rfl (fg (x.1,ac,au,x.2.2.2)) λa2 h _=>⟨_,_,B2,mp h (.cons _ (.cons _ (.refl _))),(e.J2 h).sub oL,J,hc,aq,ar,by dsimp only;omega⟩;rintro _ ce ⟨x',n',B',h,e,J,m0,m1,m2,m3⟩;rw[J] at kk;refine IR h 2 rfl (kb k v pb t)<|IR h 0 rfl x'<|qqv (Y:=[r8,r3,r1]++Y) e.rA e.cO oJ oJ oJ (qyo m0 m1) hp λgs F' ch hG a3 E a4 bo=>?_;have g:=e.sg.next h a4 bo
  have h:=ry h a4 λb hb=>e.rA.yf b (by simp at hb⊢;rcases hb with h|h|h<;>simp[h]);exact oG h 1 rfl (qv (tQ (gC k v M p n' (!decide (n.J8[ed n.J8 key]?=some key))).1.1 gs)) rfl rfl (zO rfl) λbp h _=>oC h 1 rfl (tQ (gC k v M p n' (!decide (n.J8[ed n.J8 key]?=some key))).1.1 gs) rfl<|kk gs F' bp hG (a3.J2 h).j9 (EP (qB E h)) (g.fr h) g.new
  ·rw[aY] at hc;have ak:¬n.Q6=true:=(by rw[hc];decide);obtain⟨l6,l7,l8⟩:=l5 hc;refine IR h 0 rfl x<|CQ e.cO (e.dH hk) ag hr.2.2.1 oJ λci bq=>?_;obtain⟨e,h⟩:=e.cR h bq;have av:=AL n.J8 key;generalize ay:eP n.J8 key=c at av⊢;have al:c<n.Q1.length:=oJ;have aP:n.Q1.getD c 0=n.Q1[c]:=(by rw[yR,zA al];rfl);have hu:ia n.Q1[c]:=e.node.2.1.2.2 _ (zW al);rcases aw:iD D k v key val f M n.Q1[c] with ⟨⟨G,e1⟩,M1⟩;have ad:iD D k v key val f M (n.Q1.getD (eP n.J8 key) 0)=((G,e1),M1):=(by rw[ay,aP];exact aw);have aF:e1≠-1:=λh1=>by rw[h1] at ad;rw[qqi U ak ad oM] at an;exact an rfl
   refine⟨?a,?b⟩;case' a=>
    have h:=oF h;have e:=e.J2 h;refine IR h 2 rfl (kb k v pb t)<|IQ h 0 rfl x.2.2.2<|eI.dD e.cL c rfl al λbt hh=>Hd ag aj f e.tw hu (e.dH hk) (e.dH hv) (by rw[aw];exact aF) λgs F1 bu hG ae E aQ aR=>?_;rw[aw] at hG ae E⊢;obtain⟨e,h⟩:=e.next h ae aQ aR
    refine oB h λax bv _ _ h=>nj (hh _ _ (e.J2 h).cL) (h.cell 1) (h.cells 3)<|oD h 0 rfl (qv (tQ G gs)) λa6 h _=>?_;have E:=qB E h;have e:=e.J2 h;have h:=mp h (.refl _)
   case' b=>
    have h:=oF h;have e:=e.J2 h;have h:=mp h (.refl _);refine IR h 2 rfl (kb k v pb t)<|IQ h 0 rfl x.2.2.2<|eI.dD e.cL c rfl al λbt hh=>oB h λax bv _ _ h=>?_;have e:=e.J2 h;refine nj (hh _ _ e.cL) (h.cell 1) (h.cells 3)<|Hd ag aj f e.tw hu (e.dH hk) (e.dH hv) (by rw[aw];exact aF) λgs F1 bu hG ae E aQ aR=>?_;rw[aw] at hG ae E⊢;obtain⟨e,h⟩:=e.next h ae aQ aR
    refine oD h 0 rfl (qv (tQ G gs)) λa6 h _=>?_;have E:=qB E h;have e:=e.J2 h;have h:=mp h (.refl _)
   all_goals
    refine eB (λV=>?_) λV=>?_;have a7:e1≠0:=by rw[zT] at V;exact zR.1 V
    rw[qqi U ak ad a7] at kk;exact oD h 2 rfl (qv (0,false,dT,0)) λbx h _=>IR h 2 rfl (0,false,dT,0)<|kk dT F1 bx Hm (e.J2 h).rA.j9 (.nil _ _ _ _) (e.J2 h).fr (e.J2 h).sg.new;have bz:e1=0:=by rw[yE] at V;exact yP.1 V
    subst bz;refine iC (λb w'=>b=decide (G.x7=n.Q1[c]/\G.x6=0)/\w'=a6.drew) ?_ ?_;have h:=oF h;refine IQ h 0 rfl G.x7<|IQ h 1 rfl x.2.2.2<|eI.get (e.J2 h).cL c rfl (zA al) (y:=n.Q1[c]) rfl<|eB (λI=>?_) λI=>?_;have I:G.x7=n.Q1[c]:=yP.1 I;refine IQ h 0 rfl G.x6 ⟨?_,rfl⟩;rw[It,yP,yN];exact⟨λh=>⟨I,h⟩,λh=>h.2⟩;have I:G.x7≠n.Q1[c]:=zR.1 I;exact⟨(zU λh=>I h.1).symm,rfl⟩;rintro bC bD ⟨rfl,rfl⟩;have h:=oF h;have E:=qB E h;have e:=e.J2 h;have h:=mp h (.refl _);refine eB (λI=>?_) λI=>?_;have I:=zC I;rw[<- aP,<- ay] at I;rw[qw7 U ak ad I] at kk;exact IQ h 0 rfl G.Q0<|oD h 2 rfl (qv (p,G.Q0,dT,0)) λa8 h _=>IR h 2 rfl (p,G.Q0,dT,0)<|kk dT F1 a8 ⟨hp,uW,.nil⟩ (e.J2 h).rA.j9 (.nil _ _ _ _) (e.J2 h).fr (e.J2 h).sg.new;have I:=zB I;rw[<- aP,<- ay] at I;have J:=qzX U ak ad I;rw[ay] at J;rw[J] at kk;refine IQ h 1 rfl x.2.2.2<|IQ h 0 rfl G.x7<|e.uH h (i:=c) al rfl hG.x7 λB1 bE e h kp=>?_;have E:=kp.dH _ _ E;refine iC (λ_ w'=>∃x' B',ef [ax,r8,r3,r1] w' w' [(ax,.c (qv (tQ G gs)) GR),(r8,.c (fg x') ND),(r3,.c (qv (0,false,dT,0)) GR),(r1,.c (oj (kb k v pb t)) WK)]/\Ed dbk pb FD D j F [] w0 w' [ax,r8,r3,r1] Y F1 M1 x' (gT n c G) B'/\
     ¬(gT n c G).Q6=true/\(gT n c G).J8.length+1=(gT n c G).Q1.length/\2<=(gT n c G).Q1.length/\(gT n c G).Q1.length<=1000/\(gT n c G).Q2.length<=1000) ?_ ?_
    refine IQ h 0 rfl G.x6<|eB (λaa=>?_) λaa=>?_;have aa:G.x6≠0:=by rw[zT] at aa;exact zR.1 aa
    have eg:gT n c G={ n with Q1:=fX (n.Q1.set c G.x7) (c+1) G.x6,J8:=fX n.J8 c G.key }:=(by unfold gT;rw[iP aa]);have ai:¬(gT n c G).Q6=true/\(gT n c G).J8.length+1=(gT n c G).Q1.length/\2<=(gT n c G).Q1.length/\(gT n c G).Q1.length<=1000/\(gT n c G).Q2.length<=1000:=(by rw[eg];dsimp only;rw[BB av,BB (l:=n.Q1.set c G.x7) (by rw[xH];omega),xH];exact⟨ak,oJ,oJ,oJ,oJ⟩);rw[eg] at ai⊢;have ew:wrap .i64 ((c:Int)+1)=((c+1:Nat):Int):=sA oJ;rw[ew];refine⟨?_,?_,?_⟩;have h:=oF h;refine IQ h 1 rfl x.2.2.2<|IQ h 0 rfl G.x6<|IQ h 1 rfl x.2.1<|IQ h 0 rfl gs<|oB h λbF bG _ _ h=>nj (h.cell 1) (h.cell 2) (h.cell 2) ?_;have E:=qB E h;have e:=e.J2 h;refine e.tz h (i:=c+1) (by dsimp only;rw[xH];omega) rfl (by dsimp only;rw[xH];omega) 0 rfl hG.x6 λR B2 aG e h kp=>?_;have E:=kp.dH _ _ E;refine kV (h.cell 1) (h.cell 2)<|oB h λbH bI _ _ h=>nj (h.cell 3) (h.cell 2) (h.cell 3) ?_;have E:=qB E h;have e:=e.J2 h;exact e.dC h (i:=c) av rfl oN 0 rfl E hG.key λaf B3 aH e h _=>oD h 3 rfl (fg (x.1,x.2.1,x.2.2.1,R)) λaI h _=>oD h 3 rfl (fg (x.1,af,x.2.2.1,R)) λaJ h _=>⟨_,B3,mp h (.cons _ (.cons _ (.refl _))),(e.J2 h).sub oL,ai⟩;have h:=oF h;refine IQ h 1 rfl x.2.2.2<|IQ h 0 rfl G.x6<|IQ h 1 rfl x.2.1<|IQ h 0 rfl gs<|oB h λbJ bK _ _ h=>nj (h.cell 1) (h.cell 2) (h.cell 2)<|oB h λbL bM _ _ h=>nj (h.cell 3) (h.cell 2) (h.cell 3) ?_;have E:=qB E h;have e:=e.J2 h;refine e.tz h (i:=c+1) (by dsimp only;rw[xH];omega) rfl (by dsimp only;rw[xH];omega) 1 rfl hG.x6 λR B2 aG e h kp=>?_;have E:=kp.dH _ _ E;exact kV (h.cell 2) (h.cell 3)<|e.dC h (i:=c) av rfl oN 0 rfl E hG.key λaf B3 aH e h _=>oD h 3 rfl (fg (x.1,x.2.1,x.2.2.1,R)) λaI h _=>oD h 3 rfl (fg (x.1,af,x.2.2.1,R)) λaJ h _=>⟨_,B3,mp h (.cons _ (.cons _ (.refl _))),(e.J2 h).sub oL,ai⟩;have h:=oF h;refine IQ h 1 rfl x.2.2.2<|IQ h 0 rfl G.x6<|IQ h 1 rfl x.2.1<|IQ h 0 rfl gs<|oB h λbN bO _ _ h=>nj (h.cell 2) (h.cell 1) (h.cell 2)<|oB h λbP bQ _ _ h=>nj (h.cell 2) (h.cell 3) (h.cell 3) ?_;have E:=qB E h;have e:=e.J2 h;refine e.tz h (i:=c+1) (by dsimp only;rw[xH];omega) rfl (by dsimp only;rw[xH];omega) 0 rfl hG.x6 λR B2 aG e h kp=>?_;have E:=kp.dH _ _ E;exact kV (h.cell 2) (h.cell 3)<|e.dC h (i:=c) av rfl oN 1 rfl E hG.key λaf B3 aH e h _=>oD h 3 rfl (fg (x.1,x.2.1,x.2.2.1,R)) λaI h _=>oD h 3 rfl (fg (x.1,af,x.2.2.1,R)) λaJ h _=>⟨_,B3,mp h (.cons _ (.cons _ (.refl _))),(e.J2 h).sub oL,ai⟩;have aa:¬G.x6≠0:=(by rw[yE] at aa;exact λhh=>hh (yP.1 aa));have eg:gT n c G={ n with Q1:=n.Q1.set c G.x7 }:=(by unfold gT;rw[iN aa]);rw[eg];exact⟨x,B1,h,e,ak,by dsimp only;rw[xH];omega,by dsimp only;rw[xH];omega,by dsimp only;rw[xH];omega,by dsimp only;omega⟩;rintro _ bR ⟨x',B',h,e,q1,q2,q3,q4,q5⟩;refine IR h 3 rfl (kb k v pb t)<|IR h 1 rfl x'<|IQ h 0 rfl G.Q0<|qqv (Y:=[ax,r8,r3,r1]++Y) e.rA e.cO oJ oJ oJ (qwX q1 q2 q3) hp λaU F2 bS bA aV a' aK ba=>?_;have g:=e.sg.next h aK ba
    have h:=ry h aK λb hb=>e.rA.yf b (by simp at hb⊢;rcases hb with h|h|h|h<;>simp[h]);exact oG h 2 rfl (qv (tQ (gC k v M1 p (gT n c G) G.Q0).1.1 aU)) rfl rfl (zO rfl) λbb h _=>oC h 2 rfl (tQ (gC k v M1 p (gT n c G) G.Q0).1.1 aU) rfl<|kk aU F2 bb bA (aV.J2 h).j9 (EP (qB a' h)) (g.fr h) g.new
end
end
section
def rx{H u E G:WP}{K:Prop}(h:H w)(I:u w)(J:E w)(R:G w)(k:K):held [H,u,E,G] w K:=by unfold held;exact⟨⟨h,I,J,R⟩,k⟩
structure qz (S0 Z:IS) (w:IK) (x:kQ) (n:dY) (pk pv:qh):Prop where
 lens:po x n
 nb:NB n
 J8:gH pk=n.J8
 Q2:gH pv=n.Q2
 rk:eI gO 1 S0 w x.2.1 (iY pk)
 rv:eI gO 1 S0 w x.2.2.1 (iY pv)
 ri:eI iZ 1 S0 w x.2.2.2 n.Q1
 ek:∀ p∈pk,eN Z w p.1 p.2
 ev:∀ p∈pv,eN Z w p.1 p.2
section
variable {S S0 S0' Z Z' B:IS} {w w':IK} {x:kQ} {n:dY} {pk pv:qh}
def fE.BV(h:fE Z w x n B)(E:∀b∈B,b∉S0):∃pk pv,qz S0 Z w x n pk pv:=by have I:eT [] w x n:=h.rd (λ_ _ h=>(nomatch h)) λ_ h=>nomatch h;have J:=I.lens;obtain⟨h0,G,Bk,Bv,Bi,rfl,R,⟨pk,U,V,k3⟩,⟨pv,v1,v2,v3⟩,hi⟩:=h;exact⟨pk,pv,J,G,V,v2,U.jQ wX λb u=>E b (by simp[u]),v1.jQ wX λb u=>E b (by simp[u]),hi.jQ rM λb u=>E b (by simp[u]),k3,v3⟩
def qz.j1(h:qz S0 Z w x n pk pv)(f:Fr S w w')(I:∀b∈S,b∈S0)(G:∀b∈S,b∈Z)(E:mZ S0 w S0')(R:mZ Z w Z'):qz S0' Z' w' x n pk pv where
 lens:=h.lens
 nb:=h.nb
 J8:=h.J8
 Q2:=h.Q2
 rk:=h.rk.j1 (f.mono λb u _=>I b u) E
 rv:=h.rv.j1 (f.mono λb u _=>I b u) E
 ri:=h.ri.j1 (f.mono λb u _=>I b u) E
 ek:=λp J=>(h.ek p J).j1 (f.mono λb u _=>G b u) R
 ev:=λp J=>(h.ev p J).j1 (f.mono λb u _=>G b u) R
def qz.t8(h:qz S0 Z w x n pk pv):pk.length=n.J8.length:=by rw[<- h.J8,zK]
def qz.yh(h:qz S0 Z w x n pk pv):pv.length=n.Q2.length:=by rw[<- h.Q2,zK]
def qz.rdK(h:qz S0 Z w x n pk pv)(u:∀b∈S0,b∈Z):jK S0 w x.2.1 pk:=⟨h.rk,λp E=>(h.ek p E).j1 (.refl _ _) λb G=>.inl (u b G)⟩
def qz.rdV(h:qz S0 Z w x n pk pv)(u:∀b∈S0,b∈Z):jK S0 w x.2.2.1 pv:=⟨h.rv,λp E=>(h.ev p E).j1 (.refl _ _) λb G=>.inl (u b G)⟩
def eI.cV{i:Int}{K:Addr->Sl->Prop}(h:eI gO 1 S w s (iY ps))(n:Nat)(hi:i=n)(R:n<ps.length)(U:∀a,(∀S' w',eI gO 1 S' w' s (iY ps)->w'.cell? a=some (.slice ps[n].1.a ps[n].1.len ps[n].1.cap))->K a ps[n].1):idx s i 1 λa=>ld .slice a w λy=>K a y:=by
 subst hi;have I:(iY ps)[n]?=some ps[n].1:=(by rw[zQ,zA R];rfl);obtain⟨hl,b,o,J,_,cs,T,fr,hb,hc⟩:=h.at n I;refine qM J ⟨oJ,oJ⟩ ?_;rw[zJ];have key:∀S' w',eI gO 1 S' w' s (iY ps)->w'.cell? ⟨b,o+n*1,none⟩=some (.slice ps[n].1.a ps[n].1.len ps[n].1.cap):=λS' w' V=>by
  obtain⟨_,b',o',u,_,aa,T',ab,E,G⟩:=V.at n I;rw[J] at u;cases u;rw[jC E]
  have:=IH (·[0]?) G;simpa[gO] using this
 exact oX ps[n].1 (key S w h) (U _ key)
def qz.nG(h:qz S0 Z w x n pk pv)(hi:i<pk.length):n.J8.getD i []=pk[i].2:=by rw[<- h.J8,yc hi]
def qz.sZ(h:qz S0 Z w x n pk pv)(hi:i<pv.length):n.Q2.getD i []=pv[i].2:=by rw[<- h.Q2,yc hi]
def uV{n:dY}(hi:i<n.Q1.length):n.Q1.getD i 0=n.Q1[i]:=by rw[yR,zA hi];rfl
end
structure ic (n:dY):Prop where
 Q6:n.Q6=true->n.Q2.length=n.J8.length
 inner:n.Q6=false->n.Q1.length=n.J8.length+1
 J8:n.J8.length<=2000
 Q2:n.Q2.length<=2000
 Q1:n.Q1.length<=2000
section
variable {dbk pb j:Nat} {FD Y F Bl Br:IS} {D:dV} {w0:IK} {M:eH} {xl xr:kQ} {nl nr:dY} {ks:Sl} {key:Key}
def zoT{b:Nat}(h:b∈T):b∈Zo FD (T++Y) F:=by simp[h]
def CJ:∀b∈Zo FD Y F,b∈Zo FD (T++(Bl++Y)) F:=λb h=>by simp only[Zo,zD,zG] at h⊢;rcases h with (h|h|h)|h<;>simp[h]
def A8{α:Type}(l:List α)(x:α):fX l 0 x=x::l:=by unfold fX;simp
def qyd{K:kQ×kQ×Sl->WP}(hT:TW dbk pb FD D j w0 (Br++(Bl++Y)) F M)(hl:fE (Zo FD (Br++(Bl++Y)) F) w0 xl nl Bl)(hr:fE (Zo FD (Br++(Bl++Y)) F) w0 xr nr Br)(d1:∀b∈Br,b∉Bl)(d2:∀b∈Br,b∉Y)(d3:∀b∈Bl,b∉Y)(hk:eN (Zo FD (Br++(Bl++Y)) F) w0 ks key)(ax:eX key)(bf:nl.Q6=nr.Q6)(h1:1<=nl.J8.length)(sl:ic nl)(sr:ic nr)(kk:∀yl yr aD w',TW dbk pb FD D j w' Y F M->eT (Zo FD Y F) w' yl (jr nl nr key).1->eT (Zo FD Y F) w' yr (jr nl nr key).2.1->eN (Zo FD Y F) w' aD (jr nl nr key).2.2->Fr (Br++F) w0 w'->K (yl,yr,aD) w'): cW 204 [.agg (fg xl),.agg (fg xr),ks.v] [.agg eG,.agg eG,.one .slice] w0 K:=by
 refine qsI ?_;unfold DJ DV;obtain⟨pk,pv,o⟩:=hl.BV (S0:=Br++Zo FD Y F) λb u hm=>by rcases zD.1 hm with hm|hm;exact d1 b hm u;have h0:=hT.sep b (by simp[u]);simp only[Zo,zD,zG] at hm;rcases hm with (hm|hm|hm)|hm;exact h0.1 hm;exact h0.2 hm;exact d3 b u hm;exact hT.yf b (by simp[u]) hm
 have e0:Ed dbk pb FD D j (Br++F) Br w0 w0 [] (Bl++Y) F M xr nr Br:=⟨⟨.refl _ _,λb u=>.inl (by simp[u]),λ_ h=>nomatch h⟩,hT,hr,λ_ h=>(nomatch h),λb u=>.inl u,λb u=>by simp[u],λb u hm=>(zD.1 hm).elim (d1 b u) (d2 b u)⟩;have ae:∀b∈Br++Zo FD Y F,b∈Zo FD (Br++(Bl++Y)) F:=λb u=>by simp only[Zo,zD,zG] at u⊢;rcases u with u|(u|u|u)|u<;>simp[u]
 have af:∀b∈Br++F,b∈Br++Zo FD Y F:=λb u=>by simp only[Zo,zD,zG] at u⊢;rcases u with u|u<;>simp[u]
 have nZ:∀ {w' T x' n' B'},Ed dbk pb FD D j (Br++F) Br w0 w' T (Bl++Y) F M x' n' B'->mZ (Zo FD (Br++(Bl++Y)) F) w0 (Zo FD (T++(B'++(Bl++Y))) F):=λe b u=>by simp only[Zo,zD,zG] at u;rcases u with (u|u|u|u|u|u)|u;exact .inl (by simp[u]);exact .inl (by simp[u]);exact (e.sg.own b u).imp (λh=>ae b (af b h)) id;exact (e.cU b u).imp (λh=>ae b (af b (e.dF b h))) id;exact .inl (by simp[u]);exact .inl (by simp[u]);exact .inl (by simp[u])
 have U:∀ {w' T x' n' B'},Ed dbk pb FD D j (Br++F) Br w0 w' T (Bl++Y) F M x' n' B'->qz (Br++Zo FD Y F) (Zo FD (T++(B'++(Bl++Y))) F) w' xl nl pk pv:=λe=>o.j1 e.fr af (λb u=>ae b (af b u)) (λb u=>.inl u) (nZ e);have aE:=o.rdK ae;have aF:=o.rdV ae;have ag:∀ {w' T x' n' B'},Ed dbk pb FD D j (Br++F) Br w0 w' T (Bl++Y) F M x' n' B'->Fr (Br++Zo FD Y F) w0 w':=λe=>e.fr.mono λb u _=>af b u;have ah:∀b∈Zo FD Y F,b∈Br++Zo FD Y F\/w0.heap.size<=b:=λb u=>.inl (zI _ u);have V:=o.lens;have kl:=o.t8;have vl:=o.yh;have sk:=sl.J8;have bg:=sr.J8;have bh:=sr.Q2;have bi:=sr.Q1;have aP:wrap .i64 ((xl.2.1.len:Int)-1)=((nl.J8.length-1:Nat):Int):=(by rw[V.J8,gG _ oJ];omega);have h:=oE [] w0;refine oB h λr1 w2 _ _ h=>oB h λr3 w4 _ _ h=>oB h λr5 w6 _ _ h=>oB h λr7 w8 _ _ h=>IQ h 3 rfl xl.2.1<|IQ h 3 rfl xl.1 ?_;rw[aP];apply eB<;>intro hc
 ·rw[V.Q6] at hc;have bj:=sl.Q6 hc;have hG:jr nl nr key=({ nl with J8:=nl.J8.take (nl.J8.length-1),Q2:=nl.Q2.take (nl.J8.length-1) },{ nr with J8:=nl.J8.getD (nl.J8.length-1) []::nr.J8,Q2:=nl.Q2.getD (nl.J8.length-1) []::nr.Q2 },nl.J8.getD (nl.J8.length-1) []):=(by unfold jr;rw[iP hc]);have hi:nl.J8.length-1<pk.length:=oJ;have aa:nl.J8.length-1<pv.length:=oJ;rw[hG,o.nG hi,o.sZ aa] at kk;have ad:eX pk[nl.J8.length-1].2:=(by rw[<- o.nG hi];exact tO o.nb.1 _);have az:eX pv[nl.J8.length-1].2:=(by rw[<- o.sZ aa];exact tO o.nb.2.1 _);refine⟨?a1,?a2,?a3⟩;case' a1=>
   have h:=oF h;refine IQ h 2 rfl xr.2.1<|IQ h 3 rfl xl.2.1<|eI.cV ((o.rk).q8 h.fr) (nl.J8.length-1) rfl hi λaj I=>IQ h 2 rfl xr.2.2.1<|IQ h 3 rfl xl.2.2.1<|eI.cV ((o.rv).q8 h.fr) (nl.J8.length-1) rfl aa λaG ab=>oB h λak al _ _ h=>?_;have e:=e0.J2 h;refine rx (ab _ _ (U e).rv) (h.cell 4) (h.cell 3) (h.cell 3)<|e.dC h (i:=0) (yX _) rfl oJ 0 rfl ((U e).ek _ (zW hi)) ad λE B1 am e h _=>nj (ab _ _ (U e).rv) (h.cell 4) (h.cell 3)<|oB h λan ao _ _ h=>?_;have e:=e.J2 h;refine rx (h.cell 4) (I _ _ (U e).rk) (h.cell 5) (h.cell 4)<|e.tC h (i:=0) (yX _) rfl oN 0 rfl ((U e).ev _ (zW aa)) az λG B2 ap e h _=>?_
  case' a2=>
   have h:=oF h;refine IQ h 2 rfl xr.2.1<|IQ h 3 rfl xl.2.1<|eI.cV ((o.rk).q8 h.fr) (nl.J8.length-1) rfl hi λaj I=>IQ h 2 rfl xr.2.2.1<|IQ h 3 rfl xl.2.2.1<|eI.cV ((o.rv).q8 h.fr) (nl.J8.length-1) rfl aa λaG ab=>oB h λak al _ _ h=>rx (ab _ _ (U (e0.J2 h)).rv) (h.cell 4) (h.cell 3) (h.cell 3)<|oB h λan ao _ _ h=>?_;have e:=e0.J2 h;refine rx (h.cell 4) (I _ _ (U e).rk) (h.cell 5) (h.cell 4)<|e.dC h (i:=0) (yX _) rfl oJ 1 rfl ((U e).ek _ (zW hi)) ad λE B1 am e h _=>nj (ab _ _ (U e).rv) (h.cell 5) (h.cell 4)<|e.tC h (i:=0) (yX _) rfl oN 0 rfl ((U e).ev _ (zW aa)) az λG B2 ap e h _=>?_
  case' a3=>
   have h:=oF h;refine IQ h 2 rfl xr.2.1<|IQ h 3 rfl xl.2.1<|eI.cV ((o.rk).q8 h.fr) (nl.J8.length-1) rfl hi λaj I=>IQ h 2 rfl xr.2.2.1<|IQ h 3 rfl xl.2.2.1<|eI.cV ((o.rv).q8 h.fr) (nl.J8.length-1) rfl aa λaG ab=>oB h λak al _ _ h=>rx (h.cell 3) (I _ _ (U (e0.J2 h)).rk) (h.cell 4) (h.cell 3)<|oB h λan ao _ _ h=>?_;have e:=e0.J2 h;refine rx (ab _ _ (U e).rv) (h.cell 5) (h.cell 4) (h.cell 4)<|e.dC h (i:=0) (yX _) rfl oJ 0 rfl ((U e).ek _ (zW hi)) ad λE B1 am e h _=>nj (ab _ _ (U e).rv) (h.cell 5) (h.cell 4)<|e.tC h (i:=0) (yX _) rfl oN 1 rfl ((U e).ev _ (zW aa)) az λG B2 ap e h _=>?_
  all_goals
   refine oD h 4 rfl (fg (xr.1,E,xr.2.2.1,xr.2.2.2)) λaR h _=>oD h 4 rfl (fg (xr.1,E,G,xr.2.2.2)) λaT h _=>?_;have h:=oF h;refine IQ h 5 rfl xl.2.1<|jK.upto aE (nl.J8.length-1) rfl oJ λJ aq=>IQ h 5 rfl xl.2.2.1<|jK.upto aF (nl.J8.length-1) rfl oJ λR ar=>oD h 5 rfl (fg (xl.1,J,xl.2.2.1,xl.2.2.2)) λaU h _=>oD h 5 rfl (fg (xl.1,J,R,xl.2.2.2)) λaV h _=>?_;have h:=oF h;refine IR h 5 rfl (xl.1,J,R,xl.2.2.2)<|IR h 4 rfl (xr.1,E,G,xr.2.2.2)<|IQ h 4 rfl E ?_;have e:=e.J2 h;have h:=mp h (.refl _);obtain⟨q0,qN,⟨qk,av,aJ⟩,q4,q5⟩:=e.cO;have aA:0<qk.length:=by
    have:=IH List.length aJ;dsimp only at this;rw[A8,zK,yI] at this;omega
   have aW:qk[0].2=pk[nl.J8.length-1].2:=(by rw[<- yc aA,aJ];dsimp only;rw[A8];rfl);refine eI.cV av.1 0 rfl aA λbk aK=>oD h 3 rfl (fg (xl.1,J,R,xl.2.2.2)) λaX h _=>nj (aK [] _ (av.1.j1 (h.fr.mono λb u _=>zoT u) λ_ h=>nomatch h)) (h.cell 4) (h.cells 4)<|oD h 2 rfl (fg (xr.1,E,G,xr.2.2.2)) λaB h _=>kV (aK [] _ (av.1.j1 (h.fr.mono λb u _=>zoT u) λ_ h=>nomatch h)) (h.cell 4)<|IR h 3 rfl (xl.1,J,R,xl.2.2.2)<|IR h 2 rfl (xr.1,E,G,xr.2.2.2) ?_;have aw:=qB (av.2 _ (zW aA)) h;rw[aW] at aw;have e:=e.J2 h;have hR:=e.cO.j8 (S':=Zo FD Y F) λb u=>.inl (CJ b u);rw[A8,A8] at hR;exact kk (xl.1,J,R,xl.2.2.2) (xr.1,E,G,xr.2.2.2) _ aB (e.rA.y8 λb u=>by simp[u]) ⟨V.Q6,⟨λa ha=>o.nb.1 a (yV ha),λa ha=>o.nb.2.1 a (yV ha),o.nb.2.2⟩,⟨_,aq.j1 (ag e) ah,by rw[Af,o.J8]⟩,⟨_,ar.j1 (ag e) ah,by rw[Af,o.Q2]⟩,o.ri.j1 (ag e) ah⟩
    hR (aw.j1 (.refl _ _) λb u=>.inl (CJ b u)) e.fr
 ·rw[V.Q6] at hc;have aY:¬nl.Q6=true:=(by rw[hc];decide);have il:=sl.inner hc;have hG:jr nl nr key=({ nl with J8:=nl.J8.take (nl.J8.length-1),Q1:=nl.Q1.take (nl.J8.length-1+1) },{ nr with J8:=key::nr.J8,Q1:=nl.Q1.getD (nl.J8.length-1+1) 0::nr.Q1 },nl.J8.getD (nl.J8.length-1) []):=(by unfold jr;rw[iN aY]);have hi:nl.J8.length-1<pk.length:=oJ;have au:nl.J8.length-1+1<nl.Q1.length:=oJ;rw[hG,o.nG hi,uV au] at kk;have ad:ia nl.Q1[nl.J8.length-1+1]:=o.nb.2.2 _ (zW au);have aZ:wrap .i64 (((nl.J8.length-1:Nat):Int)+1)=((nl.J8.length-1+1:Nat):Int):=sA oJ;rw[aZ];have kw:∀ {w' T x' n' B'},Ed dbk pb FD D j (Br++F) Br w0 w' T (Bl++Y) F M x' n' B'->eN (Zo FD (T++(B'++(Bl++Y))) F) w' ks key:=λe=>hk.j1 (e.fr.mono λb u _=>ae b (af b u)) (nZ e);refine IQ h 3 rfl xl.2.1<|eI.cV ((o.rk).q8 h.fr) (nl.J8.length-1) rfl hi λa' ba=>⟨?b1,?b2,?b3⟩;case' b1=>
   have h:=oF h;refine IQ h 2 rfl xr.2.1<|IQ h 2 rfl xr.2.2.2<|IQ h 3 rfl xl.2.2.2<|eI.dD ((o.ri).q8 h.fr) (nl.J8.length-1+1) rfl au λaj I=>oB h λak al _ _ h=>?_;have e:=e0.J2 h;refine rx (I _ _ (U e).ri) (h.cell 4) (h.cell 3) (h.cell 3)<|e.dC h (i:=0) (yX _) rfl oJ 0 rfl (kw e) ax λE B1 am e h _=>nj (I _ _ (U e).ri) (h.cell 4) (h.cell 3)<|oB h λan ao _ _ h=>?_;have e:=e.J2 h;refine kV (h.cell 4) (h.cell 4)<|e.tz h (i:=0) (yX _) rfl oN 0 rfl ad λG B2 ap e h _=>?_
  case' b2=>
   have h:=oF h;refine IQ h 2 rfl xr.2.1<|IQ h 2 rfl xr.2.2.2<|IQ h 3 rfl xl.2.2.2<|eI.dD ((o.ri).q8 h.fr) (nl.J8.length-1+1) rfl au λaj I=>oB h λak al _ _ h=>rx (I _ _ (U (e0.J2 h)).ri) (h.cell 4) (h.cell 3) (h.cell 3)<|oB h λan ao _ _ h=>?_;have e:=e0.J2 h;refine kV (h.cell 4) (h.cell 4)<|e.dC h (i:=0) (yX _) rfl oJ 1 rfl (kw e) ax λE B1 am e h _=>nj (I _ _ (U e).ri) (h.cell 5) (h.cell 4)<|e.tz h (i:=0) (yX _) rfl oN 0 rfl ad λG B2 ap e h _=>?_
  case' b3=>
   have h:=oF h;refine IQ h 2 rfl xr.2.1<|IQ h 2 rfl xr.2.2.2<|IQ h 3 rfl xl.2.2.2<|eI.dD ((o.ri).q8 h.fr) (nl.J8.length-1+1) rfl au λaj I=>oB h λak al _ _ h=>kV (h.cell 3) (h.cell 3)<|oB h λan ao _ _ h=>?_;have e:=e0.J2 h;refine rx (I _ _ (U e).ri) (h.cell 5) (h.cell 4) (h.cell 4)<|e.dC h (i:=0) (yX _) rfl oJ 0 rfl (kw e) ax λE B1 am e h _=>nj (I _ _ (U e).ri) (h.cell 5) (h.cell 4)<|e.tz h (i:=0) (yX _) rfl oN 1 rfl ad λG B2 ap e h _=>?_
  all_goals
   refine oD h 4 rfl (fg (xr.1,E,xr.2.2.1,xr.2.2.2)) λaR h _=>oD h 4 rfl (fg (xr.1,E,xr.2.2.1,G)) λaT h _=>?_;have h:=oF h;refine IQ h 5 rfl xl.2.1<|jK.upto aE (nl.J8.length-1) rfl oJ λJ aq=>IQ h 5 rfl xl.2.2.2<|eI.BP o.ri (nl.J8.length-1+1) rfl oJ λR ar=>oD h 5 rfl (fg (xl.1,J,xl.2.2.1,xl.2.2.2)) λaU h _=>oD h 5 rfl (fg (xl.1,J,xl.2.2.1,R)) λaV h _=>?_;have h:=oF h;refine IR h 5 rfl (xl.1,J,xl.2.2.1,R)<|IR h 4 rfl (xr.1,E,xr.2.2.1,G)<|oD h 3 rfl (fg (xl.1,J,xl.2.2.1,R)) λaX h _=>iS (h.cells 4)<|oD h 2 rfl (fg (xr.1,E,xr.2.2.1,G)) λaB h _=>IR h 3 rfl (xl.1,J,xl.2.2.1,R)<|IR h 2 rfl (xr.1,E,xr.2.2.1,G) ?_;have e:=e.J2 h;have hR:=e.cO.j8 (S':=Zo FD Y F) λb u=>.inl (CJ b u);rw[A8,A8] at hR;exact kk (xl.1,J,xl.2.2.1,R) (xr.1,E,xr.2.2.1,G) _ aB (e.rA.y8 λb u=>by simp[u]) ⟨V.Q6,⟨λa ha=>o.nb.1 a (yV ha),o.nb.2.1,λa ha=>o.nb.2.2 a (yV ha)⟩,⟨_,aq.j1 (ag e) ah,by rw[Af,o.J8]⟩,⟨_,aF.j1 (ag e) ah,o.Q2⟩,ar.j1 (ag e) ah⟩
    hR (((U e).ek _ (zW hi)).j1 (.refl _ _) λb u=>.inl (by simp only[Zo,zD,zG] at u⊢;rcases u with (u|u|u)|u<;>simp[u])) e.fr
end
end
section
section
variable {dbk pb j:Nat} {FD Y F Bl Br:IS} {D:dV} {w0:IK} {M:eH} {xl xr:kQ} {nl nr:dY} {ks:Sl} {key:Key}
def qyM{K:kQ×kQ×Sl->WP}(hT:TW dbk pb FD D j w0 (Bl++(Br++Y)) F M)(hl:fE (Zo FD (Bl++(Br++Y)) F) w0 xl nl Bl)(hr:fE (Zo FD (Bl++(Br++Y)) F) w0 xr nr Br)(d1:∀b∈Bl,b∉Br)(d2:∀b∈Bl,b∉Y)(d3:∀b∈Br,b∉Y)(hk:eN (Zo FD (Bl++(Br++Y)) F) w0 ks key)(av:eX key)(aB:nl.Q6=nr.Q6)(h1:1<=nr.J8.length)(h2:nr.Q6=true->2<=nr.J8.length)(sl:ic nl)(sr:ic nr)(kk:∀yl yr aC w',TW dbk pb FD D j w' Y F M->eT (Zo FD Y F) w' yl (takeN nl nr key).1->eT (Zo FD Y F) w' yr (takeN nl nr key).2.1->eN (Zo FD Y F) w' aC (takeN nl nr key).2.2->Fr (Bl++F) w0 w'->K (yl,yr,aC) w'): cW 205 [.agg (fg xl),.agg (fg xr),ks.v] [.agg eG,.agg eG,.one .slice] w0 K:=by
 refine qsJ ?_;unfold Ds Df;obtain⟨pk,pv,o⟩:=hr.BV (S0:=Bl++Zo FD Y F) λb u hm=>by rcases zD.1 hm with hm|hm;exact d1 b hm u;have h0:=hT.sep b (by simp[u]);simp only[Zo,zD,zG] at hm;rcases hm with (hm|hm|hm)|hm;exact h0.1 hm;exact h0.2 hm;exact d3 b u hm;exact hT.yf b (by simp[u]) hm
 have e0:Ed dbk pb FD D j (Bl++F) Bl w0 w0 [] (Br++Y) F M xl nl Bl:=⟨⟨.refl _ _,λb u=>.inl (by simp[u]),λ_ h=>nomatch h⟩,hT,hl,λ_ h=>(nomatch h),λb u=>.inl u,λb u=>by simp[u],λb u hm=>(zD.1 hm).elim (d1 b u) (d2 b u)⟩;have af:∀b∈Bl++Zo FD Y F,b∈Zo FD (Bl++(Br++Y)) F:=λb u=>by simp only[Zo,zD,zG] at u⊢;rcases u with u|(u|u|u)|u<;>simp[u]
 have ag:∀b∈Bl++F,b∈Bl++Zo FD Y F:=λb u=>by simp only[Zo,zD,zG] at u⊢;rcases u with u|u<;>simp[u]
 have nZ:∀ {w' T x' n' B'},Ed dbk pb FD D j (Bl++F) Bl w0 w' T (Br++Y) F M x' n' B'->mZ (Zo FD (Bl++(Br++Y)) F) w0 (Zo FD (T++(B'++(Br++Y))) F):=λe b u=>by simp only[Zo,zD,zG] at u;rcases u with (u|u|u|u|u|u)|u;exact .inl (by simp[u]);exact .inl (by simp[u]);exact (e.sg.own b u).imp (λh=>af b (ag b h)) id;exact (e.cU b u).imp (λh=>af b (ag b (e.dF b h))) id;exact .inl (by simp[u]);exact .inl (by simp[u]);exact .inl (by simp[u])
 have R:∀ {w' T x' n' B'},Ed dbk pb FD D j (Bl++F) Bl w0 w' T (Br++Y) F M x' n' B'->qz (Bl++Zo FD Y F) (Zo FD (T++(B'++(Br++Y))) F) w' xr nr pk pv:=λe=>o.j1 e.fr ag (λb u=>af b (ag b u)) (λb u=>.inl u) (nZ e);have aD:=o.rdK af;have aE:=o.rdV af;have V:∀ {w' T x' n' B'},Ed dbk pb FD D j (Bl++F) Bl w0 w' T (Br++Y) F M x' n' B'->Fr (Bl++Zo FD Y F) w0 w':=λe=>e.fr.mono λb u _=>ag b u;have ah:∀b∈Zo FD Y F,b∈Bl++Zo FD Y F\/w0.heap.size<=b:=λb u=>.inl (zI _ u);have ao:=o.lens;have kl:=o.t8;have vl:=o.yh;have sk:=sr.J8;have bk:=sl.J8;have bl:=sl.Q2;have bm:=sl.Q1;have h:=oE [] w0;refine oB h λr1 w2 _ _ h=>oB h λr3 w4 _ _ h=>oB h λr5 w6 _ _ h=>oB h λr7 w8 _ _ h=>IQ h 3 rfl xl.1 ?_;apply eB<;>intro hc
 ·rw[hl.1] at hc;have aF:nr.Q6=true:=(by rw[<- aB];exact hc);have h2:=h2 aF;have bn:=sr.Q6 aF;have hG:takeN nl nr key=({ nl with J8:=nl.J8++[nr.J8.getD 0 []],Q2:=nl.Q2++[nr.Q2.getD 0 []] },{ nr with J8:=nr.J8.drop 1,Q2:=nr.Q2.drop 1 },(nr.J8.drop 1).getD 0 []):=(by unfold takeN;rw[iP hc]);have hi:0<pk.length:=oJ;have aa:0<pv.length:=oJ;have ax:0<(pk.drop 1).length:=(by rw[yB];omega);have aZ:(nr.J8.drop 1).getD 0 []=(pk.drop 1)[0].2:=(by rw[<- o.J8,<- yd,yc ax]);rw[hG,o.nG hi,o.sZ aa,aZ] at kk;have ae:eX pk[0].2:=(by rw[<- o.nG hi];exact tO o.nb.1 _);have ay:eX pv[0].2:=(by rw[<- o.sZ aa];exact tO o.nb.2.1 _);refine⟨?a1,?a2,?a3⟩;case' a1=>
   have h:=oF h;refine IQ h 3 rfl xl.2.1<|IQ h 2 rfl xr.2.1<|eI.cV ((o.rk).q8 h.fr) 0 rfl hi λaG aj=>IQ h 3 rfl xl.2.2.1<|IQ h 2 rfl xr.2.2.1<|eI.cV ((o.rv).q8 h.fr) 0 rfl aa λaH ab=>oB h λaI aJ _ _ h=>?_;have e:=e0.J2 h;refine rx (ab _ _ (R e).rv) (h.cell 3) (h.cell 4) (h.cell 4)<|e.qs h oJ 0 rfl ((R e).ek _ (zW hi)) ae λE B1 aL e h _=>nj (ab _ _ (R e).rv) (h.cell 3) (h.cell 4)<|oB h λaM aN _ _ h=>?_;have e:=e.J2 h;refine rx (h.cell 5) (aj _ _ (R e).rk) (h.cell 4) (h.cell 5)<|e.yg h oN 0 rfl ((R e).ev _ (zW aa)) ay λG B2 aP e h _=>?_
  case' a2=>
   have h:=oF h;refine IQ h 3 rfl xl.2.1<|IQ h 2 rfl xr.2.1<|eI.cV ((o.rk).q8 h.fr) 0 rfl hi λaG aj=>IQ h 3 rfl xl.2.2.1<|IQ h 2 rfl xr.2.2.1<|eI.cV ((o.rv).q8 h.fr) 0 rfl aa λaH ab=>oB h λaI aJ _ _ h=>rx (ab _ _ (R (e0.J2 h)).rv) (h.cell 3) (h.cell 4) (h.cell 4)<|oB h λaM aN _ _ h=>?_;have e:=e0.J2 h;refine rx (h.cell 5) (aj _ _ (R e).rk) (h.cell 4) (h.cell 5)<|e.qs h oJ 1 rfl ((R e).ek _ (zW hi)) ae λE B1 aL e h _=>nj (ab _ _ (R e).rv) (h.cell 4) (h.cell 5)<|e.yg h oN 0 rfl ((R e).ev _ (zW aa)) ay λG B2 aP e h _=>?_
  case' a3=>
   have h:=oF h;refine IQ h 3 rfl xl.2.1<|IQ h 2 rfl xr.2.1<|eI.cV ((o.rk).q8 h.fr) 0 rfl hi λaG aj=>IQ h 3 rfl xl.2.2.1<|IQ h 2 rfl xr.2.2.1<|eI.cV ((o.rv).q8 h.fr) 0 rfl aa λaH ab=>oB h λaI aJ _ _ h=>rx (h.cell 4) (aj _ _ (R (e0.J2 h)).rk) (h.cell 3) (h.cell 4)<|oB h λaM aN _ _ h=>?_;have e:=e0.J2 h;refine rx (ab _ _ (R e).rv) (h.cell 4) (h.cell 5) (h.cell 5)<|e.qs h oJ 0 rfl ((R e).ek _ (zW hi)) ae λE B1 aL e h _=>nj (ab _ _ (R e).rv) (h.cell 4) (h.cell 5)<|e.yg h oN 1 rfl ((R e).ev _ (zW aa)) ay λG B2 aP e h _=>?_
  all_goals
   refine oD h 5 rfl (fg (xl.1,E,xl.2.2.1,xl.2.2.2)) λan h _=>oD h 5 rfl (fg (xl.1,E,G,xl.2.2.2)) λa0 h _=>?_;have h:=oF h;refine IQ h 4 rfl xr.2.1<|jK.from aD 1 rfl oJ λI U=>IQ h 4 rfl xr.2.2.1<|jK.from aE 1 rfl oJ λJ ak=>oD h 4 rfl (fg (xr.1,I,xr.2.2.1,xr.2.2.2)) λa4 h _=>oD h 4 rfl (fg (xr.1,I,J,xr.2.2.2)) λa5 h _=>?_;have h:=oF h;refine IR h 5 rfl (xl.1,E,G,xl.2.2.2)<|IR h 4 rfl (xr.1,I,J,xr.2.2.2)<|IQ h 4 rfl I<|eI.cV (U.j1 (V (e.J2 h)) λb u=>.inl u).1 0 rfl ax λbo aQ=>oD h 3 rfl (fg (xl.1,E,G,xl.2.2.2)) λa6 h _=>nj (aQ _ _ (U.j1 (V (e.J2 h)) λb u=>.inl u).1) (h.cell 4) (h.cells 4)<|oD h 2 rfl (fg (xr.1,I,J,xr.2.2.2)) λaz h _=>kV (aQ _ _ (U.j1 (V (e.J2 h)) λb u=>.inl u).1) (h.cell 4)<|IR h 3 rfl (xl.1,E,G,xl.2.2.2)<|IR h 2 rfl (xr.1,I,J,xr.2.2.2) ?_;have e:=e.J2 h;have hR:=e.cO.j8 (S':=Zo FD Y F) λb u=>.inl (CJ b u);have al:=U.j1 (V e) ah;exact kk (xl.1,E,G,xl.2.2.2) (xr.1,I,J,xr.2.2.2) _ az (e.rA.y8 λb u=>by simp[u]) hR ⟨ao.Q6,⟨λa ha=>o.nb.1 a (yU ha),λa ha=>o.nb.2.1 a (yU ha),o.nb.2.2⟩,⟨_,al,by rw[yd,o.J8]⟩,⟨_,ak.j1 (V e) ah,by rw[yd,o.Q2]⟩,o.ri.j1 (V e) ah⟩
    (al.2 _ (zW ax)) e.fr
 ·rw[hl.1] at hc;have a8:¬nl.Q6=true:=(by rw[hc];decide);have il:=sr.inner (by rw[<- aB];exact hc);have hG:takeN nl nr key=({ nl with J8:=nl.J8++[key],Q1:=nl.Q1++[nr.Q1.getD 0 0] },{ nr with J8:=nr.J8.drop 1,Q1:=nr.Q1.drop 1 },nr.J8.getD 0 []):=(by unfold takeN;rw[iN a8]);have hi:0<pk.length:=oJ;have am:0<nr.Q1.length:=oJ;rw[hG,o.nG hi,uV am] at kk;have ae:ia nr.Q1[0]:=o.nb.2.2 _ (zW am);have kw:∀ {w' T x' n' B'},Ed dbk pb FD D j (Bl++F) Bl w0 w' T (Br++Y) F M x' n' B'->eN (Zo FD (T++(B'++(Br++Y))) F) w' ks key:=λe=>hk.j1 (e.fr.mono λb u _=>af b (ag b u)) (nZ e);refine IQ h 2 rfl xr.2.1<|eI.cV ((o.rk).q8 h.fr) 0 rfl hi λbg bh=>⟨?b1,?b2,?b3⟩;case' b1=>
   have h:=oF h;refine IQ h 3 rfl xl.2.1<|IQ h 3 rfl xl.2.2.2<|IQ h 2 rfl xr.2.2.2<|eI.dD ((o.ri).q8 h.fr) 0 rfl am λaR ac=>oB h λap aq _ _ h=>?_;have e:=e0.J2 h;refine rx (ac _ _ (R e).ri) (h.cell 3) (h.cell 4) (h.cell 4)<|e.qs h oJ 0 rfl (kw e) av λE B1 aT e h _=>nj (ac _ _ (R e).ri) (h.cell 3) (h.cell 4)<|oB h λar au _ _ h=>?_;have e:=e.J2 h;refine kV (h.cell 5) (h.cell 5)<|e.xh h oN 0 rfl ae λG B2 an e h _=>?_
  case' b2=>
   have h:=oF h;refine IQ h 3 rfl xl.2.1<|IQ h 3 rfl xl.2.2.2<|IQ h 2 rfl xr.2.2.2<|eI.dD ((o.ri).q8 h.fr) 0 rfl am λaR ac=>oB h λap aq _ _ h=>rx (ac _ _ (R (e0.J2 h)).ri) (h.cell 3) (h.cell 4) (h.cell 4)<|oB h λar au _ _ h=>?_;have e:=e0.J2 h;refine kV (h.cell 5) (h.cell 5)<|e.qs h oJ 1 rfl (kw e) av λE B1 aT e h _=>nj (ac _ _ (R e).ri) (h.cell 4) (h.cell 5)<|e.xh h oN 0 rfl ae λG B2 an e h _=>?_
  case' b3=>
   have h:=oF h;refine IQ h 3 rfl xl.2.1<|IQ h 3 rfl xl.2.2.2<|IQ h 2 rfl xr.2.2.2<|eI.dD ((o.ri).q8 h.fr) 0 rfl am λaR ac=>oB h λap aq _ _ h=>kV (h.cell 4) (h.cell 4)<|oB h λar au _ _ h=>?_;have e:=e0.J2 h;refine rx (ac _ _ (R e).ri) (h.cell 4) (h.cell 5) (h.cell 5)<|e.qs h oJ 0 rfl (kw e) av λE B1 aT e h _=>nj (ac _ _ (R e).ri) (h.cell 4) (h.cell 5)<|e.xh h oN 1 rfl ae λG B2 an e h _=>?_
  all_goals
   refine oD h 5 rfl (fg (xl.1,E,xl.2.2.1,xl.2.2.2)) λan h _=>oD h 5 rfl (fg (xl.1,E,xl.2.2.1,G)) λa0 h _=>?_;have h:=oF h;refine IQ h 4 rfl xr.2.1<|jK.from aD 1 rfl oJ λI U=>IQ h 4 rfl xr.2.2.2<|eI.wN o.ri 1 rfl oJ λJ ak=>oD h 4 rfl (fg (xr.1,I,xr.2.2.1,xr.2.2.2)) λa4 h _=>oD h 4 rfl (fg (xr.1,I,xr.2.2.1,J)) λa5 h _=>?_;have h:=oF h;refine IR h 5 rfl (xl.1,E,xl.2.2.1,G)<|IR h 4 rfl (xr.1,I,xr.2.2.1,J)<|oD h 3 rfl (fg (xl.1,E,xl.2.2.1,G)) λa6 h _=>iS (h.cells 4)<|oD h 2 rfl (fg (xr.1,I,xr.2.2.1,J)) λaz h _=>IR h 3 rfl (xl.1,E,xl.2.2.1,G)<|IR h 2 rfl (xr.1,I,xr.2.2.1,J) ?_;have e:=e.J2 h;have hR:=e.cO.j8 (S':=Zo FD Y F) λb u=>.inl (CJ b u);exact kk (xl.1,E,xl.2.2.1,G) (xr.1,I,xr.2.2.1,J) _ az (e.rA.y8 λb u=>by simp[u]) hR ⟨ao.Q6,⟨λa ha=>o.nb.1 a (yU ha),o.nb.2.1,λa ha=>o.nb.2.2 a (yU ha)⟩,⟨_,U.j1 (V e) ah,by rw[yd,o.J8]⟩,⟨_,aE.j1 (V e) ah,o.Q2⟩,ak.j1 (V e) ah⟩
    (((R e).ek _ (zW hi)).j1 (.refl _ _) λb u=>.inl (by simp only[Zo,zD,zG] at u⊢;rcases u with (u|u|u)|u<;>simp[u])) e.fr
end
end
section
section
variable {dbk pb j:Nat} {FD S S0 S1 N0 Y Y1 F F' T B Bl Br Bn:IS} {D:dV} {w0 wa w w':IK} {M M':eH} {L:IW} {x xl xr:kQ} {n nl nr:dY} {k v:Nat} {t:Int}
def qz1(g:Sg S0 w0 wa F T)(u:∀b∈S0,b∈S1):Sg S1 w0 wa F T:=⟨g.qK.mono λb h _=>u b h,λb h=>(g.new b h).imp (u b) id,λb h=>(g.own b h).imp (u b) id⟩
structure oS (FD F:IS) (w:IK) (T R:IS) (x:kQ) (n:dY) (B:IS):Prop where
 node:fE (Zo FD (T++R) F) w x n B
 sep:∀ b∈T,b∉B
def oS.J2{R:IS}(o:oS FD F wa T R x n B)(h:ef T wa w L):oS FD F w (fH L) R x n B:=
 ⟨o.node.j1 h.fr (λb u E=>o.sep b E u) (λb u=>.inl (by simp[u])) (Em h),λb u E=>by
  obtain⟨q,I,rfl⟩:=mem_map.1 u;rcases h.own q I with G|G;exact o.sep _ G E;have:=o.node.lt _ E;omega⟩
def Ed.base(e:Ed dbk pb FD D j S0 N0 w0 w T Y F M x n B)(E:∀b∈S0,b∈Z)(G:∀b∈FD,b∈Z)(I:HG∈Z)(J:∀b∈Y,b∈Z):mZ Z w0 (Zo FD (T++(B++Y)) F):=λb u=>by simp only[Zo,zD,zG] at u;rcases u with (u|u|u|u|u)|u;exact .inl (G b u);rw[u];exact .inl I;exact (e.sg.own b u).imp (E b) id;exact (e.cU b u).imp (λh=>E b (e.dF b h)) id;exact .inl (J b u);exact (e.sg.new b u).imp (E b) id
def Ed.x6(e:Ed dbk pb FD D j S0 N0 w0 w T Y F M x n B)(hn:fE Z w0 xl nl Bn)(hd:∀b∈Bn,b∉S0)(hS:∀b∈S0,b∈Z)(I:∀b∈FD,b∈Z)(J:HG∈Z)(hY:∀b∈Y,b∈Z)(E:∀b∈Bn++Y1,b∈Y)(R:∀b∈Bn,b∉Y1)(U:∀b∈Bn,b<w0.heap.size): Ed dbk pb FD D j (Bn++S0) Bn w0 w T Y1 F M xl nl Bn:=by
 have hz:=e.base hS I J hY;have G:∀b∈Zo FD (T++(Bn++Y1)) F,b∈Zo FD (T++(B++Y)) F:=λb u=>by simp only[Zo,zD,zG] at u⊢;have V:=λh=>E b h;simp only[zD] at V;rcases u with (u|u|u|u|u)|u;simp[u];simp[u];simp[u];simp[V (.inl u)];simp[V (.inr u)];simp[u]
 refine⟨qz1 e.sg λb u=>zI _ u,e.tw.y8 λb u=>?_,hn.j1 e.fr hd (λb u=>.inl (hS b u)) λb u=>hz b (G b u),λb u hm=>?_,λb u=>.inl u,λb u=>zH _ u,R⟩;rcases zD.1 u with u|u;simp[u];exact zI _ (zI _ (E b u));rcases e.sg.own b u with h1|h1;exact hd b hm h1;have:=U b hm;omega
def qAT:∀b∈Bn++(Br++Y),b∈Zo FD (Bl++(Bn++(Br++Y))) F:=λb u=>by simp only[Zo,zD,zG] at u⊢;rcases u with h|h|h<;>simp[h]
def qAt:∀b∈Bn++Y,b∈Bn++(Br++Y):=λb u=>by simp only[zD] at u⊢;rcases u with h|h<;>simp[h]
def qAu:∀b∈Zo FD (T++(Bn++Y)) F,b∈Zo FD (T++(Bn++(Br++Y))) F:=λb u=>by simp only[Zo,zD,zG] at u⊢;rcases u with (h|h|h|h|h)|h<;>simp[h]
def qyk{K:kQ×Int->WP}(hT:TW dbk pb FD D j w0 (Bl++(Bn++(Br++Y))) F M)(hl:fE (Zo FD (Bl++(Bn++(Br++Y))) F) w0 xl nl Bl)(hn:fE (Zo FD (Bl++(Bn++(Br++Y))) F) w0 x n Bn)(hr:fE (Zo FD (Bl++(Bn++(Br++Y))) F) w0 xr nr Br)(d1:∀b∈Bl,b∉Bn)(d2:∀b∈Bl,b∉Br)(d3:∀b∈Bl,b∉Y)(d4:∀b∈Bn,b∉Br)(d5:∀b∈Bn,b∉Y)(sl:ic nl)(sr:ic nr)(sn:ic n)(hi:i<n.J8.length)(aB:n.Q6=false)(U:∀yn B' F' w',TW dbk pb FD D j w' (B'++Y) F' (mi k v M n i nl nr).2->fE (Zo FD (B'++Y) F') w' yn (mi k v M n i nl nr).1.1 B'->Fr (Bn++(Bl++F)) w0 w'->(∀b∈B',b∈Bn\/w0.heap.size<=b)->(∀b∈F',b∈Bn++(Bl++F)\/w0.heap.size<=b)->K (yn,(mi k v M n i nl nr).1.2) w'): cW 203 [.agg (oj (kb k v pb t)),.agg (fg x),.i i,.agg (fg xl),.agg (fg xr)] [.agg eG,.one .i] w0 K:=by
 refine qlF ?_;have e0:Ed dbk pb FD D j (Bl++F) Bl w0 w0 [] (Bn++(Br++Y)) F M xl nl Bl:=⟨⟨.refl _ _,λb u=>.inl (by simp[u]),λ_ h=>nomatch h⟩,hT,hl,λ_ h=>(nomatch h),λb u=>.inl u,λb u=>by simp[u],λb u I=>by simp only[zD] at I;rcases I with I|I|I;exact d1 b u I;exact d2 b u I;exact d3 b u I⟩;have hF:∀ {Bx:IS},(∀b∈Bx,b∈Bn\/b∈Br)->(∀b∈Bx,b∉Bl)->∀b∈Bx,b∉Bl++F:=λh1 h2 b u I=>(zD.1 I).elim (h2 b u) λI=>hT.yf b (by rcases h1 b u with h|h<;>simp[h]) I;have dn:=hF (Bx:=Bn) (λb u=>.inl u) λb u I=>d1 b I u;obtain⟨nk,nv,on⟩:=hn.BV (S0:=Bl++F) dn;obtain⟨rk,rv,G⟩:=hr.BV (S0:=Bl++F) (hF (λb u=>.inr u) λb u I=>d2 b I u);have ad:∀b∈Bl++F,b∈Zo FD (Bl++(Bn++(Br++Y))) F:=λb u=>by rcases zD.1 u with u|u<;>simp[u]
 have nZ:∀ {w' T x' n' B'},Ed dbk pb FD D j (Bl++F) Bl w0 w' T (Bn++(Br++Y)) F M x' n' B'->mZ (Zo FD (Bl++(Bn++(Br++Y))) F) w0 (Zo FD (T++(B'++(Bn++(Br++Y)))) F):=λe=>e.base ad (λb u=>by simp[u]) oL λb u=>by simp only[Zo,zD,zG] at u⊢;rcases u with h|h|h<;>simp[h]
 have nw:∀ {w' T x' n' B'},Ed dbk pb FD D j (Bl++F) Bl w0 w' T (Bn++(Br++Y)) F M x' n' B'->qz (Bl++F) (Zo FD (T++(B'++(Bn++(Br++Y)))) F) w' x n nk nv:=λe=>on.j1 e.fr (λb u=>u) ad (λb u=>.inl u) (nZ e);have aa:∀ {w' T x' n' B'},Ed dbk pb FD D j (Bl++F) Bl w0 w' T (Bn++(Br++Y)) F M x' n' B'->qz (Bl++F) (Zo FD (T++(B'++(Bn++(Br++Y)))) F) w' xr nr rk rv:=λe=>G.j1 e.fr (λb u=>u) ad (λb u=>.inl u) (nZ e);have ae:i<nk.length:=(by rw[on.t8];exact hi);have a5:=sn.inner aB;have af:i<n.Q1.length:=oJ;have ah:i+1<n.Q1.length:=oJ;have z1:=sl.J8;have z2:=sl.Q2;have z3:=sl.Q1;have z4:=sr.J8;have z5:=sr.Q2;have z6:=sr.Q1;have z7:=sn.J8;have z8:=sn.Q1;have a6:=G.t8;have a7:=G.yh;have h:=oE [] w0;refine oB h λr1 w2 _ _ h=>oB h λr3 w4 _ _ h=>oB h λr5 w6 _ _ h=>oB h λr7 w8 _ _ h=>oB h λr9 a8 _ _ h=>iC (λ_ w'=>∃J B',ef [r9,r7,r5,r3,r1] w' w' [(r9,.c (fg fS) ND),(r7,.c (fg xr) ND),(r5,.c (fg (xl.1,J,xl.2.2)) ND),(r3,.c (fg x) ND),(r1,.c (oj (kb k v pb t)) WK)]/\
  Ed dbk pb FD D j (Bl++F) Bl w0 w' [r9,r7,r5,r3,r1] (Bn++(Br++Y)) F M (xl.1,J,xl.2.2) { nl with J8:=if nl.Q6 then nl.J8 else nl.J8++[n.J8.getD i []] } B') ?_ ?_
 refine IQ h 2 rfl xl.1 ?_;apply eB<;>intro E;have E:nl.Q6=false:=(by rw[hl.1,zT] at E;exact E);rw[iN (show ¬nl.Q6=true by rw[E];decide),on.nG ae];have h:=oF h;refine IQ h 2 rfl xl.2.1<|IQ h 3 rfl x.2.1<|eI.get (on.rk.q8 h.fr) i rfl (x:=nk[i].1) (by rw[zQ,zA ae];rfl) (y:=nk[i].1) rfl<|oB h λa9 a' _ _ h=>iS (h.cell 3) ?_;have e:=e0.J2 h;exact e.qs h oJ 0 rfl ((nw e).ek _ (zW ae)) (by rw[<- on.nG ae];exact tO on.nb.1 _) λJ B1 ba e h _=>oD h 3 rfl (fg (xl.1,J,xl.2.2)) λbb h _=>⟨J,B1,mp h (.cons _ (.refl _)),(e.J2 h).sub oL⟩;have E:nl.Q6=true:=(by rw[hl.1,yE] at E;exact E);rw[iP E];exact⟨xl.2.1,Bl,mp h (.refl _),e0.J2 h⟩;rintro _ bc ⟨J,B1,h,e⟩;have e:=e.J2 h;have h:=mp h (.refl _);refine IQ h 2 rfl J<|IQ h 1 rfl xr.2.1 ?_;have aU:(if nl.Q6 then nl.J8 else nl.J8++[n.J8.getD i []]).length<=2001:=by split;omega;rw[zF,xN];omega
 refine e.wn h oN (aa e).rk (aa e).ek (by rw[G.J8];exact G.nb.1) λab B2 bf e h _=>?_;rw[G.J8] at e;refine oD h 2 rfl (fg (xl.1,ab,xl.2.2.1,xl.2.2.2)) λbg h _=>IQ h 2 rfl xl.2.2.1<|IQ h 1 rfl xr.2.2.1 ?_;have e:=e.J2 h;refine e.vL h oN (aa e).rv (aa e).ev (by rw[G.Q2];exact G.nb.2.1) λag B3 bh e h _=>?_;rw[G.Q2] at e;refine oD h 2 rfl (fg (xl.1,ab,ag,xl.2.2.2)) λbi h _=>IQ h 2 rfl xl.2.2.2<|IQ h 1 rfl xr.2.2.2 ?_;have e:=e.J2 h;refine e.vT h oN (aa e).ri G.nb.2.2 λai B4 bj e h _=>oD h 2 rfl (fg (xl.1,ab,ag,ai)) λbk h _=>?_;have h:=oF h;have e:=e.J2 h;have h:=mp h (.refl _);refine IR h 4 rfl (kb k v pb t)<|IQ h 3 rfl x.2.2.2<|eI.get (nw e).ri i rfl (x:=n.Q1[i]) (zA af) (y:=n.Q1[i]) rfl<|IR h 2 rfl (xl.1,ab,ag,ai) ?_;have hJ:({ Q6:=nl.Q6,J8:=(if nl.Q6 then nl.J8 else nl.J8++[n.J8.getD i []])++nr.J8,Q2:=nl.Q2++nr.Q2,Q1:=nl.Q1++nr.Q1 }:dY)=li nl nr (n.J8.getD i []):=rfl;have aD:n.Q1.getD i 0=n.Q1[i]:=uV af;have ap:n.Q1.getD (i+1) 0=n.Q1[i+1]:=uV ah;unfold mi at U;rw[aD,ap,<- hJ] at U;have aE:=e.cO.j8 λb u=>.inl (qAu b u);have e:=e.x6 hn dn ad (λb u=>by simp[u]) oL qAT (Y1:=Y) qAt d5 hn.lt;refine vS e.tw aE (by dsimp only;rw[zF];omega) (by dsimp only;rw[zF];omega) (by dsimp only;rw[zF];omega) λF1 bn aq aF aG=>?_;obtain⟨e,h⟩:=e.next h aq aF aG;generalize aH:ee k v M n.Q1[i] { Q6:=nl.Q6,J8:=(if nl.Q6 then nl.J8 else nl.J8++[n.J8.getD i []])++nr.J8,Q2:=nl.Q2++nr.Q2,Q1:=nl.Q1++nr.Q1 }=st at U e⊢;have hu:ia st.1.1:=(by rw[<- aH];exact vO hT.wf (hn.2.1.2.2 _ (zW af)));obtain⟨⟨bo,R⟩,M1⟩:=st;dsimp only at U e hu⊢;refine iC (λer w'=>∃F2,er=(if R=0 then (fK M1 n.Q1[i+1]).1 else R)/\ef [r9,r7,r5,r3,r1] w' w' [(r9,.c (fg fS) ND),(r7,.c (fg xr) ND),(r5,.c (fg (xl.1,ab,ag,ai)) ND),(r3,.c (fg x) ND),(r1,.c (oj (kb k v pb t)) WK)]/\
  Ed dbk pb FD D j (Bn++(Bl++F)) Bn w0 w' [r9,r7,r5,r3,r1] Y F2 (if R=0 then (fK M1 n.Q1[i+1]).2 else M1) x n Bn) ?_ ?_
 apply eB<;>intro E;have E:R=0:=yP.1 E;rw[iP E,iP E];have h:=oF h;refine IQ h 4 rfl (pW pb)<|IQ h 3 rfl x.2.2.2 ?_;have e:=e.J2 h;have ew:wrap .i64 ((i:Int)+1)=((i+1:Nat):Int):=sA oJ;refine eI.get e.cL (i+1) ew (x:=n.Q1[i+1]) (zA ah) (y:=n.Q1[i+1]) rfl<|TW.drop e.tw λF2 bp ar aI aJ=>?_;obtain⟨e,h⟩:=e.next h ar aI aJ
 exact⟨F2,rfl,h,e⟩;have E:¬R=0:=zR.1 E;rw[iN E,iN E];exact⟨F1,rfl,h,e⟩;rintro er bq ⟨F2,rfl,h,e⟩;have e:=e.J2 h;have h:=mp h (.refl _);have aK:∀ {A B:(dY×Int)×eH},(if R≠0 then A else B)=if R=0 then B else A:=by intro A B;by_cases h:R=0;rw[iN λh'=>h' h,iP h];rw[iP h,iN h]
 rw[aK] at U;apply eB<;>intro E;have E:(if R=0 then (fK M1 n.Q1[i+1]).1 else R)≠0:=by rw[zT] at E;exact zR.1 E
 refine oD h 0 rfl (fg fS) λau h _=>IR h 0 rfl fS ?_;have e:=e.J2 h;by_cases h0:R=0;rw[iP h0] at U E e⊢;rw[iP E] at U;exact U fS [] F2 au e.rA.j9 (.zero _ _) e.fr (λ_ h=>(nomatch h)) e.sg.new;rw[iN h0] at U E e⊢;exact U fS [] F2 au e.rA.j9 (.zero _ _) e.fr (λ_ h=>(nomatch h)) e.sg.new;have E:(if R=0 then (fK M1 n.Q1[i+1]).1 else R)=0:=by rw[yE] at E;exact yP.1 E
 by_cases h0:R=0;rw[iP h0] at U E e;rw[iN λh=>h E] at U;refine IQ h 3 rfl x.2.2.2<|e.uH h (i:=i) af rfl hu λB1 bu e h _=>?_;have h:=oF h;refine IQ h 3 rfl x.2.2.2<|IQ h 3 rfl x.2.1 ?_;have e:=e.J2 h;have ew:wrap .i64 ((i:Int)+1)=((i+1:Nat):Int):=sA oJ;have aL:wrap .i64 ((i:Int)+2)=((i+1+1:Nat):Int):=(by rw[gG _ oJ];omega);refine e.Hz h (i:=i+1) (by dsimp only;rw[xH];omega) ew aL (by dsimp only;rw[xH];omega) λV B2 bv e h _=>iS (h.cell 3)<|e.BQ h (i:=i) hi rfl ew oN λac B3 bx e h _=>oD h 3 rfl (fg (x.1,x.2.1,x.2.2.1,V)) λbz h _=>oD h 3 rfl (fg (x.1,ac,x.2.2.1,V)) λbA h _=>IR h 3 rfl (x.1,ac,x.2.2.1,V)<|oD h 0 rfl (fg (x.1,ac,x.2.2.1,V)) λaM h _=>IR h 0 rfl (x.1,ac,x.2.2.1,V) ?_;have e:=e.J2 h;refine U (x.1,ac,x.2.2.1,V) B3 F2 aM e.tw.j9 (e.node.j8 λb u=>.inl (by simp only[Zo,zD,zG] at u⊢;rcases u with (u|u|u|u)|u<;>simp[u])) e.fr e.cU e.sg.new;rw[iN h0] at E;exact absurd E h0
end
end
end
end Go.Proofs.YtpcmehldpoljfaaGreatDoor
