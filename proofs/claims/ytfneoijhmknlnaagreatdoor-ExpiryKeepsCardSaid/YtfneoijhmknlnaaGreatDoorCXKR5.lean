/- Conditions: those that stand in each line. -/
import Derived.Test.YtfneoijhmknlnaaGreatDoorCXKR4
import Derived.Test.YtfneoijhmknlnaaGreatDoorCXKR1
import Derived.Test.YtfneoijhmknlnaaGreatDoorCXKR3
set_option linter.unusedVariables false
set_option linter.unusedSimpArgs false
set_option linter.defProp false
namespace Go.Proofs.YtfneoijhmknlnaaGreatDoor
open Go.Proofs.Tryz (prog)
section
open Go Go.Pt List
open Go.IntKind (wrap)
attribute [local irreducible] ld dT iF pC kc fv st new idx kN kG fZ kJ jX nt ib nn call eF inv run fK i3 join loop held ext kC fl oW pD pG IntKind.wrap
variable {B:Kr} {K:Sl->WP} {cs:Array Kk} {i:Nat} {ii:Int} {l:List Key} {s:Sl} {w:Kj}
def Iu{α:Type}{p:α->Bool}:∀ {l:List α} {r:Nat},r<=l.length->(∀(i:Nat) a,i<r->l[i]?=some a->p a=true)->(∀a,l[r]?=some a->p a=false)->(l.takeWhile p).length=r
 | [],r,h,_,_=>by simp at h;simp[h]
 | x::l,0,h,_,u=>by
  have:=u x rfl;rw[takeWhile_cons,this];rfl
 | x::l,r+1,h,E,u=>by
  have G:=E 0 x (Nat.succ_pos r) rfl;have:=Iu (p:=p) (l:=l) (r:=r) (oQ h) (λi a I C=>E (i+1) a oK (oQ C)) (λa C=>u a (oQ C));rw[takeWhile_cons,G];simp[this]
def qAW{k:Key}{r:Nat}(C:r<=l.length)(E:∀(i:Nat) a,i<r->l[i]?=some a->nj a k)(G:∀a,l[r]?=some a->gq k a):eT l k=r:=
 Iu C (λi a I u=>yA (E i a I u)) λa u=>zU λh=>h (G a u)
def qx7{k:Key}{r:Nat}(u:r<=l.length)(C:∀(i:Nat) a,i<r->l[i]?=some a->gq a k)(E:∀a,l[r]?=some a->nj k a):dY l k=r:=
 Iu u (λi a G h=>yA (C i a G h)) λa h=>zU (E a h)
def Ib(h:gz l){j:Nat}{a b:Key}(u:i<j)(C:l[i]?=some a)(E:l[j]?=some b):gq a b:=by obtain⟨G,rfl⟩:=zP.1 C;obtain⟨I,rfl⟩:=zP.1 E;exact pairwise_iff_getElem.1 h i j G I u
abbrev lJ:=Ku
def fE (x:lJ):Array Kk:=#[.bool x.1,x.2.1.v,x.2.2.1.v,x.2.2.2.v]
def gp:lJ:=(false,dR,dR,dR)
def NB (n:dW):Prop:=(∀a∈n.J5,ft a)/\(∀a∈n.J9,ft a)/\∀x∈n.J8,iX x
def eY (S:Kr) (w:Kj) (x:lJ) (n:dW):Prop:=
 x.1=n.Q3/\NB n/\(∃pk,kD S w x.2.1 pk/\ik pk=n.J5)/\(∃pv,kD S w x.2.2.1 pv/\ik pv=n.J9)/\eE jC 1 S w x.2.2.2 n.J8
def jW (Z:Kr) (w:Kj) (s:Sl) (l:List Key) (B:Kr):Prop:=∃pk:rP,fB iv 1 w s (jt pk) B/\ik pk=l/\∀p∈pk,eK Z w p.1 p.2
def fU (Z:Kr) (w:Kj) (x:lJ) (n:dW) (B:Kr):Prop:=
 x.1=n.Q3/\NB n/\∃Bk h u,B=Bk++(h++u)/\B.Nodup/\jW Z w x.2.1 n.J5 Bk/\jW Z w x.2.2.1 n.J9 h/\fB jC 1 w x.2.2.2 n.J8 u
def jW.nil(Z:Kr)(w:Kj):jW Z w dR [] []:=⟨[],.nil _ _ _,rfl,λp h=>nomatch h⟩
def fU.zero(Z:Kr)(w:Kj):fU Z w gp jr []:=⟨rfl,⟨λ_ h=>(nomatch h),λ_ h=>(nomatch h),λ_ h=>(nomatch h)⟩,[],[],[],rfl,nodup_nil,.nil _ _,.nil _ _,.nil _ _ _⟩
section
variable {Z Z' S:Kr} {w w':Kj} {s:Sl} {l:List Key} {B:Kr} {x:lJ} {n:dW}
def jW.lt(h:jW Z w s l B):∀b∈B,b<w.heap.size:=by obtain⟨pk,u,rfl,_⟩:=h;exact u.lt
def jW.j0(h:jW Z w s l B)(f:Fr S w w')(u:∀b∈B,b∉S)(C:∀b∈S,b∈Z\/w.heap.size<=b)(E:∀b∈Z',b∈Z\/w.heap.size<=b):jW Z' w' s l B:=by obtain⟨pk,G,I,J⟩:=h;exact⟨pk,G.j0 f u,I,λp O=>(J p O).j0 (f.mono λi Q R=>(C i Q).elim id λh=>absurd R oK) E⟩
def jW.q8(h:jW Z w s l B)(f:Fr [] w w'):jW Z w' s l B:=h.j0 f (λ_ _ h=>nomatch h) (λ_ h=>nomatch h) λ_ h=>.inl h
def fU.lt(h:fU Z w x n B):∀b∈B,b<w.heap.size:=by obtain⟨_,_,Bk,I,J,rfl,_,C,E,G⟩:=h;intro b u;rcases zD.1 u with u|u;exact C.lt b u;rcases zD.1 u with u|u;exact E.lt b u;exact G.lt b u
def fU.j0(h:fU Z w x n B)(f:Fr S w w')(C:∀b∈B,b∉S)(E:∀b∈S,b∈Z\/w.heap.size<=b)(G:∀b∈Z',b∈Z\/w.heap.size<=b):fU Z' w' x n B:=by obtain⟨I,u,Bk,J,O,rfl,Q,R,U,V⟩:=h;exact⟨I,u,Bk,J,O,rfl,Q,R.j0 f (λb u=>C b (by simp[u])) E G,U.j0 f (λb u=>C b (by simp[u])) E G,V.j0 f λb u=>C b (by simp[u])⟩
def fU.q8(h:fU Z w x n B)(f:Fr [] w w'):fU Z w' x n B:=h.j0 f (λ_ _ h=>nomatch h) (λ_ h=>nomatch h) λ_ h=>.inl h
def fU.j6(h:fU Z w x n B)(u:∀b∈Z',b∈Z\/w.heap.size<=b):fU Z' w x n B:=h.j0 (.refl [] _) (λ_ _ h=>nomatch h) (λ_ h=>nomatch h) u
def jW.rd(h:jW Z w s l B)(u:∀b∈B,b∉S)(C:∀b∈S,b∈Z\/w.heap.size<=b):∃pk,kD S w s pk/\ik pk=l:=by obtain⟨pk,E,G,I⟩:=h;exact⟨pk,⟨E.kZ zq u,λp J=>(I p J).j0 (.refl _ _) C⟩,G⟩
def fU.rd(h:fU Z w x n B)(C:∀b∈B,b∉S)(E:∀b∈S,b∈Z\/w.heap.size<=b):eY S w x n:=by obtain⟨G,u,Bk,Q,R,rfl,U,I,J,O⟩:=h;exact⟨G,u,I.rd (λb u=>C b (by simp[u])) E,J.rd (λb u=>C b (by simp[u])) E,O.kZ (λ_=>rfl) λb u=>C b (by simp[u])⟩
def eY.j0{S':Kr}(h:eY S w x n)(f:Fr S w w')(u:∀b∈S',b∈S\/w.heap.size<=b):eY S' w' x n:=by obtain⟨C,E,⟨pk,G,I⟩,⟨pv,J,O⟩,Q⟩:=h;exact⟨C,E,⟨pk,G.j0 f u,I⟩,⟨pv,J.j0 f u,O⟩,Q.j0 f u⟩
def eY.q8(h:eY S w x n)(f:Fr [] w w'):eY S w' x n:=h.j0 (f.mono λb u=>nomatch u) λb u=>.inl u
def eY.j6{S':Kr}(h:eY S w x n)(u:∀b∈S',b∈S\/w.heap.size<=b):eY S' w x n:=h.j0 (.refl _ _) u
end
def qlx:∀ {l:List Key},(∀(i:Nat) a b,l[i]?=some a->l[i+1]?=some b->gq a b)->gz l
 | [],_=>.nil
 | [x],_=>pairwise_singleton _ _
 | x::y::r,h=>by have ih:gz (y::r):=qlx λi a b u E=>h (i+1) a b (oQ u) (oQ E);have C:gq x y:=h 0 x y rfl rfl;refine yK.2 ⟨λa u=>?_,ih⟩;rcases zG.1 u with rfl|u;exact C;exact rL C (AD ih a u)
def FR{α:Type}{l:List α}{x y:α}(h:y∈gy l i x):y=x\/y∈l:=by unfold gy at h;simp only[zD,zE] at h;rcases h with (h|h)|h;exact .inr (yW h);exact .inl h;exact .inr (yV h)
def HC{k v:Nat}:∀(c:Nat) {b:Kt},ft b->(∀a∈(jN k v c b).1,ft a)/\∀a∈(jN k v c b).2,ft a
 | 0,_,_=>⟨λ_ h=>(nomatch h),λ_ h=>(nomatch h)⟩
 | c+1,b,h=>by have ih:=HC (k:=k) (v:=v) c (b:=b.drop (k+v)) (h.drop _);refine⟨λa u=>?_,λa u=>?_⟩;rcases zG.1 u with rfl|u;exact h.take _;exact ih.1 a u;rcases zG.1 u with rfl|u;exact (h.drop _).take _;exact ih.2 a u
def qqT{k:Nat}:∀(c:Nat) {b:Kt},ft b->∀a∈mt k c b,ft a
 | 0,_,_=>λ_ h=>(nomatch h)
 | c+1,b,h=>λa u=>by rcases zG.1 u with rfl|u;exact h.take _;exact qqT c (h.drop _) a u
def Ft:∃i,prog.info? 96=some i/\i.zero=some (.slice none 0 0)/\i.size=1/\i.bytes=24:=uH oL
abbrev gU (s:Sl):Kk:=s.v
abbrev pI (n:Int):Kk:=.u n
def E7{α:Type}(e:α->Kk)(l:List α)(i:Nat)(x:α):(l.take i++[x]++l.drop i).map e=(l.map e).take i++[e x]++(l.map e).drop i:=by rw[xP,xP,xR,xS];rfl
def quR{α:Type}(e:α->Kk)(l:List α)(i:Nat):(l.take i++l.drop (i+1)).map e=(l.map e).take i++(l.map e).drop (i+1):=by rw[xP,xR,xS]
def Ce{a:Addr}{len cap:Nat}{hi:Int}{u:Nat}{K:Sl->Prop}(n:Nat)(C:hi=n)(h:n<=cap)(k:K ⟨some a,n,cap⟩):fZ ⟨some a,len,cap⟩ none (some hi) none u K:=by subst C;refine Ar ⟨oK,by dsimp only;omega⟩ ?_;rw[zJ];exact k
def uP{b len cap:Nat}{lo:Int}{K:Sl->Prop}(n:Nat)(h:lo=n)(C:n<=len)(u:len<=cap)(E:n<cap)(k:K ⟨some (dm b n),len-n,cap-n⟩):fZ ⟨pW b,len,cap⟩ (some lo) none none 1 K:=by subst h;refine Gk oK oK u oK ?_;rw[zJ,xV,xU];exact k
def qyy{lo hi mx:Int}{u:Nat}{K:Sl->Prop}(h:0<=lo/\lo<=hi/\hi<=mx/\mx<=s.cap)(k:∀C,K C):fZ s (some lo) (some hi) (some mx) u K:=by unfold fZ;exact⟨by simpa using h,k _⟩
def Cu{α:Type}{e:α->Kk}{b:Nat}{T:Kl}{E:KG}{l:List α}(G:w.heap[b]?=some (.cells cs T E))(I:cs.toList.take l.length=l.map e)(i:Nat):∀(j:Nat) u,((l.map e).drop i)[j]?=some u->w.cell? (Addr.add (dm b i) j)=some u:=λj u C=>by rw[Addr.j1,kA G];rw[xB] at C;have h:=(zP.1 C).1;rw[zK] at h;rw[<- I,xC,iP h] at C;simpa using C
def qm7{α:Type}{e:α->Kk}{l:List α}(h:cs.toList.take l.length=l.map e)(hi:i<=l.length):cs.toList.take i=(l.map e).take i:=by rw[<- h,take_take,xT hi]
def Gj{α:Type}{enc:α->List Kk}{e:α->Kk}(u:∀x,enc x=[e x]){l:List α}(h:cs.toList.take l.length=l.flatMap enc):cs.toList.take l.length=l.map e:=by rw[h,CP u]
def qvv{l:List Sl}{x:Sl}{vb:Nat}{T':Kl}(h:fB iv 1 w s l B)(hi:i<=l.length)(he:ii=i)(hl:l.length<=100000)(hv:w.heap[vb]?=some (.c #[gU x] T'))(ai:vb∉B)(kk:∀s' B' w',fB iv 1 w' s' (gy l i x) B'->Fr B w w'->(∀b∈B',b∈B\/w.heap.size<=b)->K s' w'): cW 187 [s.v,.i ii,.slice (pW vb) 1 1] dp w K:=by
 obtain⟨aE,V,hz,aj,ak⟩:=Ft;refine qmG (s:=s) (i:=ii) (v:=⟨pW vb,1,1⟩) ?_;subst he;have al:=h.len;have aa:∀w',Fr B w w'->∀(j:Nat) u,([gU x]:List Kk)[j]?=some u->w'.cell? (Addr.add (dm vb) j)=some u:=λw' f j u hj=>by rw[Addr.j1,kA (by rw[f.block vb (fq hv) ai];exact hv),xU];simpa using hj
 refine eE.part (S:=[]) (fB.kZ (enc:=iv) (k:=1) (λ_=>rfl) h λ_ _ h=>nomatch h) (lo:=some (i:Int)) (hi:=none) i l.length rfl (by rw[xY,al]) hi (zM _) λs1 _ _ _=>JK rfl ?_;apply eV<;>intro hc;have J:i=l.length:=(by have:=yQ.1 hc;omega);have am:Src prog 1 173 (.slice (pW vb) 1 1) 1 ([x].flatMap iv) w:=.ofSlice w (e':=96) oL _ 1 1 _ rfl (aa w (.refl _ _)) (λu hu=>by rw[yI,flatMap_nil,xJ] at hu;rw[zE.1 hu];rfl);refine fB.j2 (ys:=[x]) (e:=96) h (λ_=>rfl) oL V hz aj rfl am rfl (by rw[ak];omega) oK λs' B' w' b' f' n' _=>kk s' B' w' ?_ f' n';have e:gy l i x=l++[x]:=(by unfold gy;rw[J,vB,drop_length,xJ]);rw[e];exact b';have J:i<l.length:=by
  have:=(zR.1 hc)
  omega
 have aF:l≠[]:=λe=>by rw[e] at J;exact absurd J (vA _)
 obtain⟨b,cs,T,rfl,ha,hb,hn,an,ao,aG⟩:=h.ptr aF;have hM:=Gj (e:=gU) (λ_=>rfl) aG;obtain⟨sa,sn,sc⟩:=s;dsimp only at ha hn an ao;subst ha hn;have aH:vb≠b:=(oQ ai);have E:(l.map gU).length=l.length:=zK ..;have ap:∀v∈(l.map gU).drop i,Value.oneCell' v=true:=λv I=>by obtain⟨y,_,rfl⟩:=mem_map.1 (yV I);rfl
 have O:((l.map gU).drop i).length=l.length-i:=(by rw[yC,E]);have Q:wrap .i64 ((l.length:Int)+1)=((l.length+1:Nat):Int):=(by rw[gu _ oK];rfl);have aq:wrap .i64 ((i:Int)+1)=((i+1:Nat):Int):=(by rw[gu _ oK];rfl);have aI:wrap .i64 (((l.length+1:Nat):Int)-(i:Int))=((l.length+1-i:Nat):Int):=(by rw[gu _ oK];omega);apply cD<;>intro hc;have hg:sc<l.length+1:=by
  have:=hc;dsimp only at this;rw[show (((1:Nat):Int))=1 from rfl,Q] at this;omega
 refine Ce i rfl oK ?_;dsimp only;rw[show (((1:Nat):Int))=1 from rfl,Q,aI,aq];have ar:i+(l.length+1-i)=l.length+1:=oK;refine Hm (e:=96) (i:=aE) (kn:=.i64) (olds:=(l.map gU).take i) oL oL V hz aj rfl (by rw[yM,E];omega) (λh=>nomatch h) (λa ha j u hj=>?_) oK oK (by rw[ar,ak];omega) oK λb2 aK c w2 e2 ad U R aL aM=>?_;cases ha;have au:=Cu hb hM 0 j u;rw[xH] at au;rw[xC] at hj;split at hj;exact au hj;cases hj;rw[ar] at R⊢;have av:=fq hb;have aX:Fr [b2] w w2:=U.mono λ_ h _=>nomatch h;refine uP i rfl oK R oK<|Ah (vs:=[gU x]) (src:=⟨pW vb,1,1⟩) ad (el:=96) oL oL ?_ (λ_=>⟨_,rfl,aa w2 (U.mono λ_ h _=>nomatch h)⟩) (λv I=>by rw[zE.1 I];rfl) oP λw3 ae f3=>?_;show 1=min 1 (l.length+1-i);omega;refine uP (i+1) rfl oK R oK<|uP i rfl oK oK oK ?_;have aN:w3.heap[b]?=some (.c cs T):=by rw[f3.block b (yE av U.size) oP,U.block b av λh=>nomatch h];exact hb
 refine Ah (w:=w3.drew) (vs:=(l.map gU).drop i) (src:=⟨some (dm b i),l.length-i,sc-i⟩) ae (el:=96) oL oL ?_ (λ_=>⟨_,rfl,Cu (w:=w3.drew) aN hM i⟩) ap (by rw[pB,O];omega) λw4 aO f4=>?_;rw[O];show l.length-i=min (l.length-i) (l.length+1-(i+1));omega;have G:=qxL (cs:=aK) (M:=l.map gU) (i:=i) (v:=gU x) (by rw[E];omega) (by rw[E];omega) aM;have C:(gy l i x).length=l.length+1:=(by unfold gy;simp;omega);refine kk _ [b2] w4 (fB.one (e:=gU) (λ_=>rfl) aO C.symm R (by rw[pB,pB];exact aL) ?_) ?_ λb' af=>?_;rw[C];rw[E] at G;rw[G];exact (E7 gU l i x).symm;refine Fr.j8 (S:=[b]) (T:=[b2]) (U.mono λ_ h _=>nomatch h) (f3.drew.trans f4) λi hi=>.inr ?_;rw[zE.1 hi,e2];exact zM _;rw[zE.1 af,e2];exact .inr (zM _);have hg:l.length+1<=sc:=by
  have:=hc;dsimp only at this;rw[show (((1:Nat):Int))=1 from rfl,Q] at this;omega
 dsimp only;rw[show (((1:Nat):Int))=1 from rfl,Q,aq];refine Ce (l.length+1) rfl hg<|uP (i+1) rfl oK hg oK<|DL (e:=Extern.SlicesOverlaps.overlaps #[173,173] #[4]) Tryz.func216 oL oL oL oL false w (qo2 oL V hv hb aH oK)<|JJ rfl<|uP (i+1) rfl oK hg oK<|uP i rfl oK hg oK<|Ah (w:=w.drew) (vs:=(l.map gU).drop i) (src:=⟨some (dm b i),l.length+1-i,sc-i⟩) hb (el:=96) oL oL ?_ (λ_=>⟨_,rfl,Cu (w:=w.drew) hb hM i⟩) ap (by rw[O];omega) λw2 ad U=>?_;rw[O];show l.length-i=min (l.length+1-i) (l.length+1-(i+1));omega;refine uP i rfl oK hg oK<|Ah (vs:=[gU x]) (src:=⟨pW vb,1,1⟩) ad (el:=96) oL oL ?_ (λ_=>⟨_,rfl,aa w2 ((Fr.refl [b] w).drew.trans U)⟩) (λv I=>by rw[zE.1 I];rfl) (by rw[pB];simp;omega) λw3 ae f3=>?_;show 1=min 1 (l.length+1-i);omega;have G:=qxN (cs:=cs) (M:=l.map gU) (i:=i) (v:=gU x) (by rw[E];omega) (by rw[E];omega) (qm7 hM oK);have C:(gy l i x).length=l.length+1:=(by unfold gy;simp;omega);refine kk _ [b] w3 (fB.one (e:=gU) (λ_=>rfl) ae C.symm hg (by rw[pB,pB];exact ao) ?_) (((Fr.refl [b] w).drew.trans U).trans f3) λb' af=>.inl af;rw[C];rw[E] at G;rw[G];exact (E7 gU l i x).symm
def qvs{l:List Sl}{jj:Int}(h:fB iv 1 w s l B)(hi:i<l.length)(he:ii=i)(hj:jj=((i+1:Nat):Int))(hl:l.length<=100000)(kk:∀s' w',fB iv 1 w' s' (iV l i) B->Fr B w w'->K s' w'): cW 222 [s.v,.i ii,.i jj] dp w K:=by
 obtain⟨au,aa,hz,ab,av⟩:=Ft;refine qmE ?_;subst he hj;have ac:l≠[]:=λe=>by rw[e] at hi;exact absurd hi (vA _)
 obtain⟨b,cs,T,rfl,ha,hb,hn,Q,G,ad⟩:=h.ptr ac;have hM:=Gj (e:=gU) (λ_=>rfl) ad;obtain⟨sa,sn,sc⟩:=s;dsimp only at ha hn Q G;subst ha hn;have C:(l.map gU).length=l.length:=zK ..;have ay:∀v∈(l.map gU).drop (i+1),Value.oneCell' v=true:=λv ae=>by obtain⟨y,_,rfl⟩:=mem_map.1 (yV ae);rfl
 have az:((l.map gU).drop (i+1)).length=l.length-(i+1):=(by rw[yC,C]);refine qyy oO λ_=>JK (zR.2 oK)<|Ce i rfl oK ?_;have af:∀O,O.heap[b]?=some (.c (ef cs i ((l.map gU).drop (i+1))) T)->Fr [b] w O->fZ ⟨pW b,l.length-1,sc⟩ (some (((l.length-1:Nat)):Int)) (some ((l.length:Nat):Int)) none 1 λ(I:Sl)=>
  run [] ((Builtin.clear_ #[173] 0 (#[Value.slice I.a I.len I.cap])).run prog O)<|
  λ(aA:PUnit) (ag:Kj)=>
  K ⟨pW b,l.length-1,sc⟩ ag:=λO J f5=>by
  refine Gl oK oK oK oK ?_;rw[zJ,zJ,xV,xU];have h1:l.length-(l.length-1)=1:=oK;rw[h1];dsimp only;refine quO (e:=96) (z:=(Value.slice none 0 0)) J oL oL rfl rfl oK (by rw[pB];omega) λw6 ai f6=>?_;have E:=qxp (cs:=cs) (M:=l.map gU) (i:=i) (z:=(Value.slice none 0 0)) (by rw[C];omega) (by rw[C];exact hM);have R:(iV l i).length=l.length-1:=(by unfold iV;simp;omega);refine kk _ w6 (fB.one (e:=gU) (λ_=>rfl) ai R.symm oK (by rw[pB,pB];exact G) ?_) (f5.trans f6);rw[R];rw[C] at E;rw[show List.replicate 1 ((Value.slice none 0 0))=[(Value.slice none 0 0)] from rfl,E];exact (quR gU l i).symm
 refine eE.part (S:=[]) (fB.kZ (enc:=iv) (k:=1) (λ_=>rfl) h λ_ _ h=>nomatch h) (lo:=some ((i+1:Nat):Int)) (hi:=none) (i+1) l.length rfl rfl oK (zM _) λs3 U h3 aF=>?_;have V:Src prog 1 173 s3.v s3.len ((l.map gU).drop (i+1)) w.drew:=by
  have:=wn (P:=prog) (tx:=173) (e':=96) (h3.same (rJ.refl w).drew) (λ_=>rfl) (λx u hu=>by rw[zE.1 hu];rfl) oL;rw[CP (enc:=iv) (e:=gU) λ_=>rfl,vB,xS] at this;exact this
 dsimp only;refine quJ (w:=w.drew) (e:=96) hb oL aa ab V (by rw[U];omega) G λO J f5=>?_;have e:i+s3.len=l.length-1:=(by rw[U];omega);rw[e];exact af O J ((Fr.refl [b] w).drew.trans f5)
def qvw{l:Kt}{x:Int}{vb:Nat}{T':Kl}(h:fB jC 1 w s l B)(hi:i<=l.length)(he:ii=i)(hl:l.length<=100000)(hv:w.heap[vb]?=some (.c #[pI x] T'))(ai:vb∉B)(kk:∀s' B' w',fB jC 1 w' s' (gy l i x) B'->Fr B w w'->(∀b∈B',b∈B\/w.heap.size<=b)->K s' w'): cW 189 [s.v,.i ii,.slice (pW vb) 1 1] dp w K:=by
 obtain⟨aE,V,hz,aj,ak⟩:=A8;refine qmH (s:=s) (i:=ii) (v:=⟨pW vb,1,1⟩) ?_;subst he;have al:=h.len;have aa:∀w',Fr B w w'->∀(j:Nat) u,([pI x]:List Kk)[j]?=some u->w'.cell? (Addr.add (dm vb) j)=some u:=λw' f j u hj=>by rw[Addr.j1,kA (by rw[f.block vb (fq hv) ai];exact hv),xU];simpa using hj
 refine eE.part (S:=[]) (fB.kZ (enc:=jC) (k:=1) (λ_=>rfl) h λ_ _ h=>nomatch h) (lo:=some (i:Int)) (hi:=none) i l.length rfl (by rw[xY,al]) hi (zM _) λs1 _ _ _=>JK rfl ?_;apply eV<;>intro hc;have J:i=l.length:=(by have:=yQ.1 hc;omega);have am:Src prog 1 174 (.slice (pW vb) 1 1) 1 ([x].flatMap jC) w:=.ofSlice w (e':=44) oL _ 1 1 _ rfl (aa w (.refl _ _)) (λu hu=>by rw[yI,flatMap_nil,xJ] at hu;rw[zE.1 hu];rfl);refine fB.j2 (ys:=[x]) (e:=44) h (λ_=>rfl) oL V hz aj rfl am rfl (by rw[ak];omega) oK λs' B' w' b' f' n' _=>kk s' B' w' ?_ f' n';have e:gy l i x=l++[x]:=(by unfold gy;rw[J,vB,drop_length,xJ]);rw[e];exact b';have J:i<l.length:=by
  have:=(zR.1 hc)
  omega
 have aF:l≠[]:=λe=>by rw[e] at J;exact absurd J (vA _)
 obtain⟨b,cs,T,rfl,ha,hb,hn,an,ao,aG⟩:=h.ptr aF;have hM:=Gj (e:=pI) (λ_=>rfl) aG;obtain⟨sa,sn,sc⟩:=s;dsimp only at ha hn an ao;subst ha hn;have aH:vb≠b:=(oQ ai);have E:(l.map pI).length=l.length:=zK ..;have ap:∀v∈(l.map pI).drop i,Value.oneCell' v=true:=λv I=>by obtain⟨y,_,rfl⟩:=mem_map.1 (yV I);rfl
 have O:((l.map pI).drop i).length=l.length-i:=(by rw[yC,E]);have Q:wrap .i64 ((l.length:Int)+1)=((l.length+1:Nat):Int):=(by rw[gu _ oK];rfl);have aq:wrap .i64 ((i:Int)+1)=((i+1:Nat):Int):=(by rw[gu _ oK];rfl);have aI:wrap .i64 (((l.length+1:Nat):Int)-(i:Int))=((l.length+1-i:Nat):Int):=(by rw[gu _ oK];omega);apply cD<;>intro hc;have hg:sc<l.length+1:=by
  have:=hc;dsimp only at this;rw[show (((1:Nat):Int))=1 from rfl,Q] at this;omega
 refine Ce i rfl oK ?_;dsimp only;rw[show (((1:Nat):Int))=1 from rfl,Q,aI,aq];have ar:i+(l.length+1-i)=l.length+1:=oK;refine Hm (e:=44) (i:=aE) (kn:=.i64) (olds:=(l.map pI).take i) oL oL V hz aj rfl (by rw[yM,E];omega) (λh=>nomatch h) (λa ha j u hj=>?_) oK oK (by rw[ar,ak];omega) oK λb2 aK c w2 e2 ad U R aL aM=>?_;cases ha;have au:=Cu hb hM 0 j u;rw[xH] at au;rw[xC] at hj;split at hj;exact au hj;cases hj;rw[ar] at R⊢;have av:=fq hb;have aX:Fr [b2] w w2:=U.mono λ_ h _=>nomatch h;refine uP i rfl oK R oK<|Ah (vs:=[pI x]) (src:=⟨pW vb,1,1⟩) ad (el:=44) oL oL ?_ (λ_=>⟨_,rfl,aa w2 (U.mono λ_ h _=>nomatch h)⟩) (λv I=>by rw[zE.1 I];rfl) oP λw3 ae f3=>?_;show 1=min 1 (l.length+1-i);omega;refine uP (i+1) rfl oK R oK<|uP i rfl oK oK oK ?_;have aN:w3.heap[b]?=some (.c cs T):=by rw[f3.block b (yE av U.size) oP,U.block b av λh=>nomatch h];exact hb
 refine Ah (w:=w3.drew) (vs:=(l.map pI).drop i) (src:=⟨some (dm b i),l.length-i,sc-i⟩) ae (el:=44) oL oL ?_ (λ_=>⟨_,rfl,Cu (w:=w3.drew) aN hM i⟩) ap (by rw[pB,O];omega) λw4 aO f4=>?_;rw[O];show l.length-i=min (l.length-i) (l.length+1-(i+1));omega;have G:=qxL (cs:=aK) (M:=l.map pI) (i:=i) (v:=pI x) (by rw[E];omega) (by rw[E];omega) aM;have C:(gy l i x).length=l.length+1:=(by unfold gy;simp;omega);refine kk _ [b2] w4 (fB.one (e:=pI) (λ_=>rfl) aO C.symm R (by rw[pB,pB];exact aL) ?_) ?_ λb' af=>?_;rw[C];rw[E] at G;rw[G];exact (E7 pI l i x).symm;refine Fr.j8 (S:=[b]) (T:=[b2]) (U.mono λ_ h _=>nomatch h) (f3.drew.trans f4) λi hi=>.inr ?_;rw[zE.1 hi,e2];exact zM _;rw[zE.1 af,e2];exact .inr (zM _);have hg:l.length+1<=sc:=by
  have:=hc;dsimp only at this;rw[show (((1:Nat):Int))=1 from rfl,Q] at this;omega
 dsimp only;rw[show (((1:Nat):Int))=1 from rfl,Q,aq];refine Ce (l.length+1) rfl hg<|uP (i+1) rfl oK hg oK<|DL (e:=Extern.SlicesOverlaps.overlaps #[174,174] #[4]) Tryz.func220 oL oL oL oL false w (qo2 oL V hv hb aH oK)<|JJ rfl<|uP (i+1) rfl oK hg oK<|uP i rfl oK hg oK<|Ah (w:=w.drew) (vs:=(l.map pI).drop i) (src:=⟨some (dm b i),l.length+1-i,sc-i⟩) hb (el:=44) oL oL ?_ (λ_=>⟨_,rfl,Cu (w:=w.drew) hb hM i⟩) ap (by rw[O];omega) λw2 ad U=>?_;rw[O];show l.length-i=min (l.length+1-i) (l.length+1-(i+1));omega;refine uP i rfl oK hg oK<|Ah (vs:=[pI x]) (src:=⟨pW vb,1,1⟩) ad (el:=44) oL oL ?_ (λ_=>⟨_,rfl,aa w2 ((Fr.refl [b] w).drew.trans U)⟩) (λv I=>by rw[zE.1 I];rfl) (by rw[pB];simp;omega) λw3 ae f3=>?_;show 1=min 1 (l.length+1-i);omega;have G:=qxN (cs:=cs) (M:=l.map pI) (i:=i) (v:=pI x) (by rw[E];omega) (by rw[E];omega) (qm7 hM oK);have C:(gy l i x).length=l.length+1:=(by unfold gy;simp;omega);refine kk _ [b] w3 (fB.one (e:=pI) (λ_=>rfl) ae C.symm hg (by rw[pB,pB];exact ao) ?_) (((Fr.refl [b] w).drew.trans U).trans f3) λb' af=>.inl af;rw[C];rw[E] at G;rw[G];exact (E7 pI l i x).symm
def qvt{l:Kt}{jj:Int}(h:fB jC 1 w s l B)(hi:i<l.length)(he:ii=i)(hj:jj=((i+1:Nat):Int))(hl:l.length<=100000)(kk:∀s' w',fB jC 1 w' s' (iV l i) B->Fr B w w'->K s' w'): cW 257 [s.v,.i ii,.i jj] dp w K:=by
 obtain⟨au,aa,hz,ab,av⟩:=A8;refine qmF ?_;subst he hj;have ac:l≠[]:=λe=>by rw[e] at hi;exact absurd hi (vA _)
 obtain⟨b,cs,T,rfl,ha,hb,hn,Q,G,ad⟩:=h.ptr ac;have hM:=Gj (e:=pI) (λ_=>rfl) ad;obtain⟨sa,sn,sc⟩:=s;dsimp only at ha hn Q G;subst ha hn;have C:(l.map pI).length=l.length:=zK ..;have ay:∀v∈(l.map pI).drop (i+1),Value.oneCell' v=true:=λv ae=>by obtain⟨y,_,rfl⟩:=mem_map.1 (yV ae);rfl
 have az:((l.map pI).drop (i+1)).length=l.length-(i+1):=(by rw[yC,C]);refine qyy oO λ_=>JK (zR.2 oK)<|Ce i rfl oK ?_;have af:∀O,O.heap[b]?=some (.c (ef cs i ((l.map pI).drop (i+1))) T)->Fr [b] w O->fZ ⟨pW b,l.length-1,sc⟩ (some (((l.length-1:Nat)):Int)) (some ((l.length:Nat):Int)) none 1 λ(I:Sl)=>
  run [] ((Builtin.clear_ #[174] 0 (#[Value.slice I.a I.len I.cap])).run prog O)<|
  λ(aA:PUnit) (ag:Kj)=>
  K ⟨pW b,l.length-1,sc⟩ ag:=λO J f5=>by
  refine Gl oK oK oK oK ?_;rw[zJ,zJ,xV,xU];have h1:l.length-(l.length-1)=1:=oK;rw[h1];dsimp only;refine quO (e:=44) (z:=(Value.int .u32 0)) J oL oL rfl rfl oK (by rw[pB];omega) λw6 ai f6=>?_;have E:=qxp (cs:=cs) (M:=l.map pI) (i:=i) (z:=(Value.int .u32 0)) (by rw[C];omega) (by rw[C];exact hM);have R:(iV l i).length=l.length-1:=(by unfold iV;simp;omega);refine kk _ w6 (fB.one (e:=pI) (λ_=>rfl) ai R.symm oK (by rw[pB,pB];exact G) ?_) (f5.trans f6);rw[R];rw[C] at E;rw[show List.replicate 1 ((Value.int .u32 0))=[(Value.int .u32 0)] from rfl,E];exact (quR pI l i).symm
 refine eE.part (S:=[]) (fB.kZ (enc:=jC) (k:=1) (λ_=>rfl) h λ_ _ h=>nomatch h) (lo:=some ((i+1:Nat):Int)) (hi:=none) (i+1) l.length rfl rfl oK (zM _) λs3 U h3 aF=>?_;have V:Src prog 1 174 s3.v s3.len ((l.map pI).drop (i+1)) w.drew:=by
  have:=wn (P:=prog) (tx:=174) (e':=44) (h3.same (rJ.refl w).drew) (λ_=>rfl) (λx u hu=>by rw[zE.1 hu];rfl) oL;rw[CP (enc:=jC) (e:=pI) λ_=>rfl,vB,xS] at this;exact this
 dsimp only;refine quJ (w:=w.drew) (e:=44) hb oL aa ab V (by rw[U];omega) G λO J f5=>?_;have e:i+s3.len=l.length-1:=(by rw[U];omega);rw[e];exact af O J ((Fr.refl [b] w).drew.trans f5)
end
section
open Go Go.Pt List
open Go.IntKind (wrap)
open Classical
attribute [local irreducible] ld dT iF pC kc fv st new idx kN kG fZ kJ jX nt ib nn call eF inv run fK i3 join loop held ext kC fl oW pD pG IntKind.wrap
variable {B S:Kr} {K:Sl->WP} {L:Kz} {T:Kl} {b l:Kt} {k v:Nat} {kind:Int} {n:dW} {ps:rP} {s:Sl} {w w0:Kj} {x:lJ}
def quY{i j:Nat}(h:i+j<=10000000):wrap .i64 (Int.fdiv (wrap .u64 (wrap .i64 ((i:Int)+(j:Int)))) (2^1))=(((i+j) / 2:Nat):Int):=by have e1:wrap .i64 ((i:Int)+(j:Int))=(i:Int)+(j:Int):=gu _ oK;have u:wrap .u64 ((i:Int)+(j:Int))=(i:Int)+(j:Int):=IntWalk.u64_in _ oK;rw[e1,u,Int.fdiv_eq_ediv_of_nonneg _ oN];have e:((i:Int)+(j:Int)) / 2^1=(((i+j) / 2:Nat):Int):=oK;rw[e,gu _ oK]
def qxa{n:Nat}{v:Kk}{p:Nat->Bool}{K:Int->WP}(E:n<=1000000)(hf:∀w1 (i:Nat) (U:Bool->WP),Fr [] w w1->i<n->(∀w2,Fr [] w w2->U (p i) w2)->eF prog v [.i i] dr w1 U)(u:∀i j,i<=j->j<n->p i=true->p j=true)(hk:∀(r:Nat) w',r<=n->(∀i,i<r->p i=false)->(∀i,r<=i->i<n->p i=true)->Fr [] w w'->K r w'): cW 129 [.i n,v] dq w K:=by
 refine qqf<|kx (λs w'=>∃i j:Nat,s=((i:Int),(j:Int))/\i<=j/\j<=n/\(∀a,a<i->p a=false)/\(∀a,j<=a->a<n->p a=true)/\Fr [] w w') (λs _=>(s.2-s.1).toNat) ⟨0,n,rfl,oK,oK,λ_ h=>absurd h (vA _),λa G I=>oK,.refl _ _⟩ ?_;rintro s w1 ⟨i,j,rfl,ae,J,G,I,V⟩ X hX;dsimp only;apply cD<;>intro O;have af:i<j:=oK;rw[quY oK];refine hf w1 ((i+j) / 2) _ V oK λw2 C=>?_;cases hp:p ((i+j) / 2);refine JJ rfl ?_;have e:wrap .i64 ((((i+j) / 2:Nat):Int)+1)=(((i+j) / 2+1:Nat):Int):=(by rw[gu _ oK];rfl);rw[e];refine hX _ _ ⟨(i+j) / 2+1,j,rfl,oK,J,λa Q=>?_,I,C⟩ oO;cases R:p a;rfl
 have:=u a ((i+j) / 2) oK oK R;rw[hp] at this;exact this.symm;exact JK rfl<|hX _ _ ⟨i,(i+j) / 2,rfl,oK,oK,G,λa Q E=>u _ a Q E hp,C⟩ oO;have ag:¬i<j:=oK;exact hk i w1 oK G (λa Q E=>I a oK E) V
def qAk{n:Nat}{v:Kk}{c:Nat->Int}{K:KK->WP}(O:n<=1000000)(hf:∀w1 (i:Nat) (K':Int->WP),Fr [] w w1->i<n->(∀w2,Fr [] w w2->K' (c i) w2)->eF prog v [.i i] dq w1 K')(u:∀i j,i<=j->j<n->c j>0->c i>0)(hk:∀(r:Nat) w',r<=n->(∀i,i<r->c i>0)->(∀i,r<=i->i<n->¬c i>0)->Fr [] w w'->K (r,decide (r<n/\c r=0)) w'): cW 132 [.i n,v] dG w K:=by
 refine qtx<|kx (λs w'=>∃i j:Nat,s=((i:Int),(j:Int))/\i<=j/\j<=n/\(∀a,a<i->c a>0)/\(∀a,j<=a->a<n->¬c a>0)/\Fr [] w w') (λs _=>(s.2-s.1).toNat) ⟨0,n,rfl,oK,oK,λ_ h=>absurd h (vA _),λa Q R=>oK,.refl _ _⟩ ?_;rintro s w1 ⟨i,j,rfl,ag,U,Q,R,V⟩ X hX;dsimp only;apply cD<;>intro G;have ah:i<j:=oK;rw[quY oK];refine hf w1 ((i+j) / 2) _ V oK λw2 C=>?_;apply eV<;>intro I;have I:=zC I;have e:wrap .i64 ((((i+j) / 2:Nat):Int)+1)=(((i+j) / 2+1:Nat):Int):=(by rw[gu _ oK];rfl);rw[e];exact hX _ _ ⟨(i+j) / 2+1,j,rfl,oK,U,λa ha=>u a _ oK oK I,R,C⟩ oO;have I:=zB I;exact hX _ _ ⟨i,(i+j) / 2,rfl,oK,oK,Q,λa ha O ab=>I (u _ a ha O ab),C⟩ oO;have ai:¬i<j:=oK;have J:=λw'=>hk i w' oK Q λa ha O=>R a oK O;apply cD<;>intro G;have E:i<n:=oK;refine hf w1 i _ V E λw2 C=>?_;have e:(c i==0)=decide (i<n/\c i=0):=by rw[JQ,yQ,yO];exact⟨λh=>⟨E,h⟩,λh=>h.2⟩
 rw[e];exact J w2 C;have E:¬i<n:=by omega
 have:=J w1 V;rw[zU λh=>E h.1] at this;exact this
section
variable {S S':Kr} {w:Kj} {x:lJ} {n:dW} {ks:Sl} {key:Key}
def Fe{K:KK->WP}(hx:eY S w x n)(hk:eK S' w ks key)(hB:ft key)(hr:gz n.J5)(hl:n.J5.length<=1000000)(kk:∀w',Fr [] w w'->K (dY n.J5 key,decide (n.J5[dY n.J5 key]?=some key)) w'): cW 88 [.agg (fE x),ks.v] dG w K:=by
 obtain⟨h0,V,⟨pk,I,E⟩,_⟩:=hx;refine qrJ<|oB (oF [] w) λr1 w1 e1 f1 h=>oB h λr3 w2 e2 f2 h=>Ko h 1 rfl x.2.1 ?_;have O:x.2.1.len=pk.length:=I.len;have ak:n.J5.length=pk.length:=(by rw[<- E,zK]);have u:∀(i:Nat) (C:i<pk.length),n.J5[i]?=some pk[i].2:=λi C=>by rw[<- E,zQ,zA C];rfl
 rw[O];refine qAk (c:=λi=>cmpL key (n.J5.getD i [])) oK (λw3 i K' f3 C aa=>?_) (λi j am hj hc=>?_) λr w' ao ab ac f'=>?_;refine rR (lb:=[dQ r3,dQ r1]) rfl oL ?_;have J:=h.q8 f3;refine qnV ?_;have J:=J.drew;refine Ko J 0 rfl ks<|Ko J 1 rfl x.2.1<|kD.get (I.q8 J.fr) i rfl C<|C5 (hk.q8 J.fr) ((I.q8 J.fr).2 pk[i] (zX C)) hB (V.1 _ (yG (u i C))) ?_;have e:n.J5.getD i []=pk[i].2:=by rw[yS,u i C];rfl
 have:=aa w3.drew f3.drew;rw[e] at this;exact this;by_cases hij':i=j;rw[hij'];exact hc;have C:=u i oK;have Q:=u j hj;rw[yS,Q,xX] at hc;rw[yS,C,xX];have h1:gq pk[j].2 key:=(by unfold gq;rw[vU];omega);have R:=rL (Ib hr oK C Q) h1;unfold gq at R;rw[vU] at R;omega;have hp:dY n.J5 key=r:=qx7 oK (λi a C U=>by
  have:=ab i C;rw[yS,U,xX,vU] at this;show cmpL a key<0;omega) λa U=>by
  have au:=(zP.1 U).1;have:=ac r (zM _) oK;rw[yS,U,xX,vU] at this;show ¬cmpL a key<0;omega
 have G:=kk w' (h.fr.trans f');rw[hp] at G;have e:decide (n.J5[r]?=some key)=decide (r<pk.length/\cmpL key (n.J5.getD r [])=0):=by refine decide_eq_decide.2 ⟨λh=>?_,λh=>?_⟩;refine⟨by have:=(zP.1 h).1;omega,?_⟩;rw[yS,h,xX,IJ];have R:=h.2;rw[yS,u r h.1,xX] at R;exact (u r h.1).trans (Kg some (FC R).symm)
 rw[e] at G;exact G
def Du{K:Int->WP}(hx:eY S w x n)(hk:eK S' w ks key)(hB:ft key)(hr:gz n.J5)(hl:n.J5.length<=1000000)(kk:∀w',Fr [] w w'->K (eT n.J5 key) w'): cW 87 [.agg (fE x),ks.v] dq w K:=by
 obtain⟨h0,V,⟨pk,I,C⟩,_⟩:=hx;refine qud<|oB (oF [] w) λr1 w1 e1 f1 h=>oB h λr3 w2 e2 f2 h=>Ko h 1 rfl x.2.1 ?_;have O:x.2.1.len=pk.length:=I.len;have ak:n.J5.length=pk.length:=(by rw[<- C,zK]);have E:∀(i:Nat) (u:i<pk.length),n.J5[i]?=some pk[i].2:=λi u=>by rw[<- C,zQ,zA u];rfl
 rw[O];refine qxa (p:=λi=>decide (cmpL key (n.J5.getD i [])<0)) oK (λw3 i K' f3 u aa=>?_) (λi j am hj Q=>?_) λr w' ao ab ac f'=>?_;refine rR (lb:=[dQ r3,dQ r1]) rfl oL ?_;have J:=h.q8 f3;refine qp0 ?_;have J:=J.drew;refine Ko J 0 rfl ks<|Ko J 1 rfl x.2.1<|kD.get (I.q8 J.fr) i rfl u<|C5 (hk.q8 J.fr) ((I.q8 J.fr).2 pk[i] (zX u)) hB (V.1 _ (yG (E i u))) ?_;have e:n.J5.getD i []=pk[i].2:=(by rw[yS,E i u];rfl);have e2:decide (cmpL key (n.J5.getD i [])<0)=decide (cmpL key pk[i].2<0):=decide_eq_decide.2 (by rw[e]);rw[<- e2];exact aa w3.drew f3.drew;by_cases hij':i=j;rw[<- hij'];exact Q;have u:=E i oK;have R:=E j hj;have Q:=zC Q;rw[yS,u,xX] at Q;refine yA ?_;rw[yS,R,xX];exact rL Q (Ib hr oK u R);have hp:eT n.J5 key=r:=qAW oK (λi a u U=>by
  have:=zB (ab i u);rw[yS,U,xX] at this;exact this) λa U=>by
  have ar:=(zP.1 U).1;have:=zC (ac r (zM _) oK);rw[yS,U,xX] at this;exact this
 have G:=kk w' (h.fr.trans f');rw[hp] at G;exact G
end
section
def Gx{p:Prop}{i:Decidable p}(h:p):true=decide p:=by simp[h]
def ud{i:Nat}(h:i<=100000000):wrap .i64 ((i:Int)+1)=((i+1:Nat):Int):=by rw[gu _ oK];rfl
section
variable {S:Kr} {w:Kj} {s:Sl}
def qr3{v:Kk}{p:Key->Bool}{K:Bool->WP}(Q:kD S w s ps)(hl:ps.length<=1000000)(hf:∀w1 (x:Sl×Key) (R:Bool->WP),Fr [] w w1->x∈ps->(∀w2,Fr [] w w2->R (p x.2) w2)->eF prog v [x.1.v] dr w1 R)(U:∀w',Fr [] w w'->K ((ik ps).any p) w'): cW 232 [s.v,v] dr w K:=by
 refine qgU<|qjU ?_;have V:=Q.len;refine kx (λi w'=>∃n:Nat,i=(n:Int)/\n<=ps.length/\((ik ps).take n).any p=false/\Fr [] w w') (λi _=>((ps.length:Int)-i).toNat) ⟨0,rfl,yY _,rfl,.refl _ _⟩ ?_;rintro _ w1 ⟨n,rfl,hn,C,u⟩ X hX;apply cD<;>intro I;have h:n<ps.length:=oK;refine kD.get (Q.q8 u) n rfl h<|hf w1 ps[n] _ u (zX h) λw2 E=>?_;have G:(ik ps)[n]?=some ps[n].2:=(by rw[zQ,zA h];rfl);apply eV<;>intro J;have:(ik ps).any p=true:=any_eq_true.2 ⟨ps[n].2,yG G,J⟩;show K (decide (((n:Nat):Int)>=0)) w2;rw[yA (show ((n:Nat):Int)>=0 by omega)];rw[<- this];exact U w2 E;rw[ud oK];refine hX _ _ ⟨n+1,rfl,h,?_,E⟩ oK;rw[take_add_one,G,any_append,C];simpa using J;have O:n=ps.length:=oK;show K (decide ((-1:Int)>=0)) w1;rw[zU (show ¬(-1:Int)>=0 by decide)];have:(ik ps).any p=false:=by rw[<- C,O,zS (by rw[zK];exact zM _)]
 rw[<- this];exact U w1 u
def qr4{v:Kk}{p:Int->Bool}{K:Bool->WP}(R:Rd S w s l)(hl:l.length<=1000000)(hf:∀w1 (x:Int) (U:Bool->WP),Fr [] w w1->x∈l->(∀w2,Fr [] w w2->U (p x) w2)->eF prog v [.u x] dr w1 U)(V:∀w',Fr [] w w'->K (l.any p) w'): cW 202 [s.v,v] dr w K:=by
 refine qgV<|qjV ?_;have aa:=R.1;refine kx (λi w'=>∃n:Nat,i=(n:Int)/\n<=l.length/\(l.take n).any p=false/\Fr [] w w') (λi _=>((l.length:Int)-i).toNat) ⟨0,rfl,yY _,rfl,.refl _ _⟩ ?_;rintro _ w1 ⟨n,rfl,hn,G,h⟩ X hX;apply cD<;>intro J;have C:n<l.length:=oK;have E:l[n]?=some l[n]:=zA C;refine eE.get (R.q8 h) n rfl E (y:=l[n]) rfl<|hf w1 l[n] _ h (zX C) λw2 I=>?_;apply eV<;>intro O;have:l.any p=true:=any_eq_true.2 ⟨l[n],yG E,O⟩;show K (decide (((n:Nat):Int)>=0)) w2;rw[yA (show ((n:Nat):Int)>=0 by omega)];rw[<- this];exact V w2 I;rw[ud oK];refine hX _ _ ⟨n+1,rfl,C,?_,I⟩ oK;rw[take_add_one,E,any_append,G];simpa using O;have Q:n=l.length:=oK;show K (decide ((-1:Int)>=0)) w1;rw[zU (show ¬(-1:Int)>=0 by decide)];have:l.any p=false:=by rw[<- G,Q,zS (zM _)]
 rw[<- this];exact V w1 h
def qsZ{m:Nat}{K:Bool->WP}(O:kD S w s ps)(Q:ps.length<=1000000)(R:∀w',Fr [] w w'->K (decide (∀a∈ik ps,a.length=m)) w'): cW 200 [s.v,.i m] dr w K:=by
 refine qs4<|oB (oF [] w) λr1 w1 e1 I h=>?_;have u:=O.q8 I;refine qr3 (p:=λa=>decide (a.length≠m)) u Q (λw2 x K' J U C=>?_) λw' V=>?_;refine rR (lb:=[dQ r1]) rfl oL<|qoZ<|Ko (h.q8 J) 0 rfl (m:Int) ?_;have E:=(u.2 x U).1;have e:(!((x.1.len:Int)==(m:Int)))=decide (x.2.length≠m):=by rw[E,JQ];simp;omega
 rw[e];exact C w2 J;have e:(!((ik ps).any λa=>decide (a.length≠m)))=decide (∀a∈ik ps,a.length=m):=by
  rw[JQ,yO,zT,any_eq_false];constructor;intro h a G;have:=h a G;simpa using this;intro h a G;simp[h a G]
 rw[e];exact R w' (I.trans V)
def qx3{K:Bool->WP}(V:kD S w s ps)(hB:∀a∈ik ps,ft a)(hl:ps.length<=1000000)(kk:∀w',Fr [] w w'->K (decide (gz (ik ps))) w'): cW 201 [s.v] dr w K:=by
 refine qrN ?_;have ac:=V.len;have C:∀(i:Nat) (hi:i<ps.length),(ik ps)[i]?=some ps[i].2:=λi hi=>by rw[zQ,zA hi];rfl
 refine kx (λi w'=>∃n:Nat,i=(n:Int)/\1<=n/\(∀(j:Nat) a b,j+1<n->(ik ps)[j]?=some a->(ik ps)[j+1]?=some b->gq a b)/\Fr [] w w') (λi _=>((ps.length:Int)-i).toNat) ⟨1,rfl,zM _,λj a b h=>oK,.refl _ _⟩ ?_;rintro _ w1 ⟨n,rfl,hn,J,E⟩ X hX;apply cD<;>intro U;have G:n<ps.length:=oK;have e1:wrap .i64 ((n:Int)-1)=((n-1:Nat):Int):=(by rw[gu _ oK];omega);have I:=V.q8 E.drew;rw[e1];refine kD.get I (n-1) rfl oK<|kD.get I n rfl G<|C5 (I.2 ps[n-1] (zX _)) (I.2 ps[n] (zX _)) (hB _ (yG (C (n-1) oK))) (hB _ (yG (C n G))) ?_;apply eV<;>intro O;have O:=zC O;have:¬gz (ik ps):=λhr=>by
  have:=Ib hr (show n-1<n by omega) (C (n-1) oK) (C n G);unfold gq at this;omega
 have u:=kk _ E.drew;rw[zU this] at u;exact u;have O:=zB O;rw[ud oK];refine hX _ _ ⟨n+1,rfl,oK,λj a b hj R Q=>?_,E.drew⟩ oK;by_cases hjn:j+1<n;exact J j a b hjn R Q;obtain rfl:n=j+1:=by omega
 rw[C j oK] at R;rw[C (j+1) G] at Q;cases R;cases Q;show cmpL _ _<0;simp only[Nat.add_sub_cancel] at O;omega;have ag:¬n<ps.length:=oK;have:gz (ik ps):=qlx λj a b R Q=>J j a b (by
  have:=(zP.1 Q).1;rw[zK] at this;omega) R Q
 have u:=kk w1 E;rw[yA this] at u;exact u
def qzc:vN (k:Int) (v:Int)=(((eG k v).1:Int),((eG k v).2:Int)):=by unfold vN eG;by_cases h:k<1\/k>24\/v>108;rw[iP h,iP];rfl;rw[iN h,iN];rfl
def Ia{w:Kj}{K:Kx->WP}(h:∀w',Fr [] w w'->K (((eG k v).1:Int),((eG k v).2:Int)) w'):cW 126 [.i k,.i v] dA w K:=
 qAg λw' u=>by rw[qzc];exact h w' (.of_same u)
def qsd{K:Bool->WP}(hx:eY S w x n)(h1:n.J5.length<=1000000)(h2:n.J9.length<=1000000)(h3:n.J8.length<=1000000)(kk:∀w',Fr [] w w'->K (decide (gx n k v)) w'): cW 171 [.agg (fE x),.i k,.i v] dr w K:=by
 obtain⟨h0,aj,⟨pk,ac,C⟩,⟨pv,ae,R⟩,aa⟩:=hx;refine qrK<|oB (oF [] w) λr1 w1 e1 f1 h=>Ia λw2 f2=>?_;have h:=h.q8 f2;have l1:pk.length=n.J5.length:=(by rw[<- C,zK]);have l2:pv.length=n.J9.length:=(by rw[<- R,zK]);have n1:x.2.1.len=n.J5.length:=(by rw[ac.len,l1]);have n2:x.2.2.1.len=n.J9.length:=(by rw[ae.len,l2]);have n3:x.2.2.2.len=n.J8.length:=aa.1;refine je (λb w'=>b=decide (¬((∀a∈n.J5,a.length=k)/\(∀a∈n.J9,a.length=v)/\gz n.J5))/\ed [] w w' [(r1,.cells (fE x) 176)]) ?_ ?_;refine Ko h 0 rfl x.2.1<|qsZ (m:=k) (ac.q8 h.fr) oK λw3 f3=>?_;have h:=h.q8 f3;rw[C];refine eV (λG=>⟨?_,h⟩) λG=>?_;have:¬ ∀a∈n.J5,a.length=k:=zB (oQ G);exact Gx λJ=>this J.1;have q1:∀a∈n.J5,a.length=k:=zC (oQ G);refine Ko h 0 rfl x.2.2.1<|qsZ (m:=v) (ae.q8 h.fr) oK λw4 f4=>?_;have h:=h.q8 f4;rw[R];refine eV (λG=>⟨?_,h⟩) λG=>?_;have:¬ ∀a∈n.J9,a.length=v:=zB (oQ G);exact Gx λJ=>this J.2.1;have q2:∀a∈n.J9,a.length=v:=zC (oQ G);refine Ko h 0 rfl x.2.1<|qx3 (ac.q8 h.fr) (by rw[C];exact aj.1) oK λw5 f5=>?_;have h:=h.q8 f5;rw[C];refine⟨?_,h⟩;rw[JQ,zT,Kc,yO];exact⟨λJ g=>J g.2.2,λJ g=>J ⟨q1,q2,g⟩⟩;rintro b w3 ⟨rfl,h⟩;have no:∀ {w'},¬gx n k v->Fr [] w w'->K false w':=λhn f=>by
  have:=kk _ f;rw[zU hn] at this;exact this
 refine eV (λG=>no (λE=>zC G ⟨E.1,E.2.1,E.2.2.1⟩) h.fr) λG=>?_;have hq:=Classical.not_not.1 (zB G);have u:gx n k v↔(if n.Q3 then n.J8=[]/\1<=n.J5.length/\n.J5.length<=(eG k v).1/\n.J9.length=n.J5.length
   else (∀x∈n.J8,2<=x)/\n.J9=[]/\2<=n.J8.length/\n.J8.length<=(eG k v).2/\n.J5.length+1=n.J8.length):=⟨λE=>E.2.2.2,λJ=>⟨hq.1,hq.2.1,hq.2.2,J⟩⟩
 refine Ko h 0 rfl x.1 ?_;apply eV<;>intro G;rw[h0] at G;rw[iP G] at u;have ad:∀ {Q:Sl->Prop},Q x.2.1->ld .slice (dm r1 1) w3 Q:=λq=>Ko h 0 rfl x.2.1 q;refine Ko h 0 rfl x.2.2.2<|eV (λO=>?_) λO=>no (λE=>?_) h.fr;refine ad (eV (λU=>?_) λU=>no (λE=>?_) h.fr);refine ad (eV (λI=>?_) λI=>no (λE=>?_) h.fr);refine Ko h 0 rfl x.2.2.1 (ad ?_);have O:=yQ.1 O;have U:=zC U;have I:=zC I;have e:((x.2.2.1.len:Int)==(x.2.1.len:Int))=decide (gx n k v):=by rw[JQ,yQ,yO,u];dsimp only at I;constructor;intro J;exact⟨JV oK,oK,oK,oK⟩;intro J;omega
 rw[e];exact kk w3 h.fr;have:=(u.1 E).2.2.1;have I:=zB I;dsimp only at I;omega;have:=(u.1 E).2.1;have U:=zB U;omega;have:=(u.1 E).1;have O:=zR.1 O;rw[this] at n3;exact O (by rw[n3];rfl);rw[h0] at G;rw[iN (by rw[G];decide)] at u;have V:∀ {w'} {Q:Sl->Prop},ed [] w w' [(r1,.cells (fE x) 176)]->Q x.2.2.2->ld .slice (dm r1 3) w' Q:=λh q=>Ko h 0 rfl x.2.2.2 q;refine V h<|qr4 (p:=λy=>decide (y<2)) (aa.q8 h.fr) h3 (λw4 y K' f4 hy an=>?_) λw4 f4=>?_;exact rR (lb:=[]) rfl oL<|qnW<|an w4 f4;have h:=h.q8 f4;refine eV (λc0=>no (λE=>?_) h.fr) λc0=>?_;obtain⟨y,hy,ap⟩:=any_eq_true.1 c0
 have:=(u.1 E).1 y hy;have:=zC ap;omega;have ag:∀y∈n.J8,2<=y:=λy hy=>by
  have:=any_eq_false.1 c0 y hy;simp at this;exact this
 refine Ko h 0 rfl x.2.2.1<|eV (λO=>?_) λO=>no (λE=>?_) h.fr;refine V h (eV (λU=>?_) λU=>no (λE=>?_) h.fr);refine V h (eV (λI=>?_) λI=>no (λE=>?_) h.fr);refine Ko h 0 rfl x.2.1 (V h ?_);have O:=yQ.1 O;have U:=zC U;have I:=zC I;dsimp only at I;have ew:wrap .i64 ((x.2.2.2.len:Int)-1)=(x.2.2.2.len:Int)-1:=gu _ oK;have e:((x.2.1.len:Int)==wrap .i64 ((x.2.2.2.len:Int)-1))=decide (gx n k v):=by rw[ew,JQ,yQ,yO,u];constructor;intro J;exact⟨ag,JV oK,oK,oK,oK⟩;intro J;omega
 rw[e];exact kk _ h.fr;have:=(u.1 E).2.2.2.1;have I:=zB I;dsimp only at I;omega;have:=(u.1 E).2.2.1;have U:=zB U;omega;have:=(u.1 E).2.1;have O:=zR.1 O;rw[this] at n2;exact O (by rw[n2];rfl)
end
end
section
def Co{src:Sl}{ys:Kt}(h:gA w s l B)(J:eK S w src ys)(hl:l.length+ys.length<=1000000)(O:∀E B' w',gA w' E (l++ys) B'->Fr B w w'->(∀b∈B',b∈B\/w.heap.size<=b)->K E w'): Pt.run dp ((Builtin.append_ #[96,96] 96 #[s.v,src.v]).run prog w) K:=by obtain⟨i,Q,R,G,I⟩:=Ap;have C:=J.1;exact fB.j2 (e:=5) h mW oL Q R G rfl (wn (e':=5) J mW (λx u U=>by rw[zE.1 U];rfl) oL) C (by rw[I];omega) oK λE B' w' b' V n' _=>O E B' w' b' V n'
def qBt(n:Int):be n 2=[wrap .u8 (Int.fdiv n (2^8)),wrap .u8 n]:=by show [iA n 1,iA n 0]=_;unfold iA;rw[show (min (8*1) 32:Nat)=8 from rfl,show (min (8*0) 32:Nat)=0 from rfl,Int.pow_zero,Int.fdiv_one]
def qCp(n:Int):be n 4=[wrap .u8 (Int.fdiv n (2^24)),wrap .u8 (Int.fdiv n (2^16)),wrap .u8 (Int.fdiv n (2^8)),wrap .u8 n]:=by show [iA n 3,iA n 2,iA n 1,iA n 0]=_;unfold iA;rw[show (min (8*3) 32:Nat)=24 from rfl,show (min (8*2) 32:Nat)=16 from rfl,show (min (8*1) 32:Nat)=8 from rfl,show (min (8*0) 32:Nat)=0 from rfl,Int.pow_zero,Int.fdiv_one]
def kD.get'(h:kD S w s ps)(n:Nat){i:Int}{K:Addr->Sl->Prop}(hi:i=n)(J:n<ps.length)(O:∀a,w.cell? a=some (.slice ps[n].1.a ps[n].1.len ps[n].1.cap)->(∀w',kD S w' s ps->w'.cell? a=some (.slice ps[n].1.a ps[n].1.len ps[n].1.cap))->K a ps[n].1):idx s i 1 λa=>ld .slice a w λx=>K a x:=by
 subst hi;have G:(jt ps)[n]?=some ps[n].1:=(by rw[zQ,zA J];rfl);obtain⟨V,b,o,I,_,cs,T,fr,hb,hc⟩:=h.1.at n G;refine sJ I ⟨oK,oK⟩ ?_;rw[zJ];have key:∀w',kD S w' s ps->w'.cell? ⟨b,o+n*1,none⟩=some (.slice ps[n].1.a ps[n].1.len ps[n].1.cap):=λw' Q=>by
  obtain⟨_,b',o',u,_,R,T',U,C,E⟩:=Q.1.at n G;rw[I] at u;cases u;rw[kA C]
  have:=Kg (·[0]?) E;simpa[iv] using this
 exact qm ps[n].1 (key w h) (O _ (key w h) key)
def HZ{b n:Nat}(u:w.heap[b]?=some (.c (l.map (Value.int .u8)).toArray T))(h:n=l.length):gA w ⟨pW b,n,n⟩ l [b]:=
 fB.one (e:=Value.int .u8) (λ_=>rfl) u h (zM _) (by simp[h]) (by rw[<- zK (f:=Value.int .u8),vB])
def qA4{b:Nat}{n:Int}(u:w.heap[b]?=some (.c #[.b (wrap .u8 (Int.fdiv n (2^24))),.b (wrap .u8 (Int.fdiv n (2^16))),.b (wrap .u8 (Int.fdiv n (2^8))),.b (wrap .u8 n)] T)):eK [] w ⟨pW b,4,4⟩ (be n 4):=by rw[qCp];exact fB.kZ mW (HZ (n:=4) u rfl) λ_ _ h=>nomatch h
section
variable {S:Kr} {w:Kj} {s:Sl}
def qAl{n:Nat}(hn:n<=1000000)(Q:∀u B w',gA w' u [] B->Fr [] w w'->(∀b∈B,w.heap.size<=b)->K u w'): cW 114 [.slice none 0 0,.i n] dp w K:=by obtain⟨E,R,U,G,I⟩:=Ap;refine qqe (s:=dR) (n:=n) ?_;have e0:wrap .i64 (((0:Nat):Int)-((0:Nat):Int))=0:=gu _ oN;have e1:wrap .i64 ((n:Int)-0)=(n:Int):=(by rw[gu _ oK];omega);refine je (λ_ w'=>w=w') (JK (zU oK) rfl) ?_;rintro _ _ rfl;refine je (λu w'=>∃B,gA w' u [] B/\Fr [] w w'/\∀b∈B,w.heap.size<=b) ?_ λu w' ⟨B,V,f1,n1⟩=>Q u B w' V f1 n1;dsimp only;rw[e0,e1];refine eV (λO=>?_) λO=>⟨[],.nil _ _ _,.refl _ _,λ_ h=>nomatch h⟩;have C:0<n:=(by have:=zC O;omega);refine Ar ⟨oK,by dsimp only;omega⟩ ?_;rw[zJ];dsimp only;refine Hm (e:=5) (i:=E) (kn:=.i64) (olds:=[]) oL oL R U G rfl rfl (λ_=>rfl) (λa ha=>nomatch ha) C oK (by rw[I];omega) oK λb cs c w2 e2 hb f2 h1 h2 h3=>Ar ⟨oK,by dsimp only;omega⟩ ?_;rw[zJ];exact⟨[b],fB.fresh (cap:=c) mW hb rfl (yY _) oK rfl,f2,λb' J=>by rw[zE.1 J,e2];exact zM _⟩
def qk4{i:Nat}(hi:i<ps.length):((ik ps).take (i+1)).flatten=((ik ps).take i).flatten++ps[i].2:=by rw[take_add_one,zQ,zA hi,flatten_append];simp
def HK(i:Nat):((ik ps).take i).flatten.length<=(ik ps).flatten.length:=by have:(ik ps).flatten=((ik ps).take i).flatten++((ik ps).drop i).flatten:=(by rw[<- flatten_append,xG]);rw[this,zF];omega
def qqp(O:kD S w s ps)(hl:ps.length<=1000000)(ht:(ik ps).flatten.length<=1000000)(kk:∀s' B w',gA w' s' (ik ps).flatten B->Fr [] w w'->(∀b∈B,w.heap.size<=b)->K s' w'): cW 77 [s.v] dp w K:=by
 refine qn9 ?_;have ae:=O.len;refine kx (λt w'=>∃i:Nat,t=((((ik ps).take i).flatten.length:Int),(i:Int))/\i<=ps.length/\w'=w) (λt _=>((ps.length:Int)-t.2).toNat) ⟨0,rfl,yY _,rfl⟩ ?_;rintro t w' ⟨i,rfl,hi,rfl⟩ X V;dsimp only;apply cD<;>intro E;have u:i<ps.length:=oK;have G:=HK (ps:=ps) (i+1);have C:=qk4 u;have aa:=(O.2 ps[i] (zX u)).1;have e:wrap .i64 ((((ik ps).take i).flatten.length:Int)+(ps[i].1.len:Int))=(((ik ps).take (i+1)).flatten.length:Int):=by rw[C,zF] at G⊢;rw[gu _ oK,aa];rfl
 refine je (λx w2=>x=(((ik ps).take (i+1)).flatten.length:Int)/\w2=w') ?_ ?_;refine kD.get O i rfl u ?_;rw[e];exact JK (zU oK) ⟨rfl,rfl⟩;rintro x w2 ⟨rfl,rfl⟩;rw[ud oK];exact V _ _ ⟨i+1,rfl,u,rfl⟩ oO;have I:i=ps.length:=oK;refine qAl (zL (HK (ps:=ps) i) ht) λs1 B1 w1 b1 f1 n1=>kx (λt w2=>∃(j:Nat) (Q:Sl) (R:Kr),t=(Q,(j:Int))/\j<=ps.length/\gA w2 Q ((ik ps).take j).flatten R/\Fr [] w' w2/\∀b∈R,w'.heap.size<=b) (λt _=>((ps.length:Int)-t.2).toNat) ⟨0,s1,B1,rfl,yY _,b1,f1,n1⟩ ?_;rintro t w2 ⟨j,Q,R,rfl,hj,b2,U,n2⟩ X V;dsimp only;apply cD<;>intro E;have u:j<ps.length:=oK;have G:=HK (ps:=ps) (j+1);have C:=qk4 u;have J:=O.q8 U;refine kD.get J j rfl u<|Co b2 (J.2 ps[j] (zX u)) (by rw[C,zF] at G;omega) λs3 B3 w3 b3 f3 n3=>?_;rw[ud oK];refine V _ _ ⟨j+1,s3,B3,rfl,u,by rw[C];exact b3,U.j8 f3 λi hi=>.inr (n2 i hi),λb hb=>?_⟩ oO;rcases n3 b hb with h|h;exact n2 b h;exact zL U.size h;have I:j=ps.length:=oK;rw[I,zS (by rw[zK];exact zM _)] at b2;exact kk Q R w2 b2 U n2
def qy0{K:KI->WP}(hx:eY S w x n)(h1:n.J5.length<=1000000)(h2:n.J9.length<=1000000)(h3:n.J8.length<=1000000)(kk:∀s w',(∀G:Kr,(∀b∈G,b<w.heap.size)->eK G w' s (fH n k v).2.1)->Fr [] w w'->K ((fH n k v).1,s,(fH n k v).2.2) w'): cW 183 [.agg (fE x),.i k,.i v] dw w K:=by
 have aU:=hx;obtain⟨h0,bc,⟨pk,am,E⟩,⟨pv,an,R⟩,aj⟩:=hx;refine qrL<|oB (oF [] w) λr1 w1 e1 f1 h=>Kq h 0 rfl x<|qsd (x:=x) (aU.q8 f1) h1 h2 h3 λw2 f2=>?_;have h:=h.q8 f2;apply eV<;>intro C;have hn:¬gx n k v:=zB (oQ C)
 have:=kk dR w2 (λG _=>by unfold fH;rw[iN hn];exact .nil _ _ _ _) h.fr;unfold fH at this;rw[iN hn] at this;exact this;have hR:gx n k v:=zC (oQ C);have hW:fH n k v=(jI n,io n,0):=(by unfold fH;rw[iP hR]);rw[hW] at kk;have aC:=(EA hR).2;have l1:pk.length=n.J5.length:=(by rw[<- E,zK]);have l2:pv.length=n.J9.length:=(by rw[<- R,zK]);have n1:x.2.1.len=n.J5.length:=(by rw[am.len,l1]);have n3:x.2.2.2.len=n.J8.length:=aj.1;have aD:∀ {s' B w'},gA w' s' (io n) B->(∀b∈B,w.heap.size<=b)->Fr [] w w'->K (jI n,s',0) w':=λb hB f=>kk _ _ (λG hG=>b.kZ mW λc C hm=>by have:=hB c C;have:=hG c hm;omega) f;refine Ko h 0 rfl x.1 ?_;apply eV<;>intro C;rw[h0] at C;have u:io n=be n.J5.length 2++(n.J5.zip n.J9).flatMap (λx=>x.1++x.2):=(by unfold io;rw[iP C];rfl);have J:jI n=3:=(by unfold jI;rw[iP C]);have aE:=hR.2.2.2;rw[iP C] at aE;have aF:(n.J5.zip n.J9).length=n.J5.length:=(by rw[length_zip,aE.2.2.2,Nat.min_self]);refine Ko h 0 rfl x.2.1<|Ko h 0 rfl x.2.1<|oB h λr9 w3 e3 f3 h=>Ko h 1 rfl x.2.1 ?_;have h9:=h.at (i:=0) rfl;have ap:=h.sub (L':=[(r1,.cells (fE x) 176)]) (Ka _ _);have aq:r1≠r9:=λe=>by have:=h.nodup;simp[e] at this
 have U:w.heap.size<=r9:=(h.own (r9,_) (JP ..)).elim (λh=>nomatch h) id;refine kx (λt w'=>∃(i:Nat) (s2:Sl) (B2:Kr),t=(s2,(i:Int))/\i<=n.J5.length/\gA w' s2 (be n.J5.length 2++((n.J5.zip n.J9).take i).flatMap λx=>x.1++x.2) B2/\ed [] w w' [(r1,.cells (fE x) 176)]/\r1∉B2/\∀b∈B2,w.heap.size<=b) (λt _=>((n.J5.length:Int)-t.2).toNat)
  ⟨0,_,[r9],rfl,yY _,?_,ap,by simpa using aq,λb V=>by rw[zE.1 V];exact U⟩ ?_
 rw[qBt,take_zero,flatMap_nil,xJ];refine HZ (T:=5) ?_ rfl;rw[n1] at h9;exact h9;rintro t w4 ⟨i,s2,B2,rfl,hi,b2,ho,ab,I⟩ X hX;dsimp only;apply eV<;>intro C;have ag:i<n.J5.length:=(by have:=zC C;omega);have bp:i<n.J9.length:=oK;have aH:=am.q8 ho.fr;refine kD.get aH i rfl oK ?_;have ac:=ho.drew;refine Ko ac 0 rfl x.2.2.1 ?_;have aX:=an.q8 ac.fr;have ad:i<pv.length:=oK;have ak:i<pk.length:=oK;refine kD.get' aX i rfl ad λa ha hh=>?_;have ah:n.J5[i]?=some pk[i].2:=(by rw[<- E,zQ,zA ak];rfl);have aY:n.J9[i]?=some pv[i].2:=(by rw[<- R,zQ,zA ad];rfl);have hz:(n.J5.zip n.J9)[i]?=some (pk[i].2,pv[i].2):=List.getElem?_zip_eq_some.2 ⟨ah,aY⟩;have O:((n.J5.zip n.J9).take (i+1)).flatMap (λx=>x.1++x.2)=((n.J5.zip n.J9).take i).flatMap (λx=>x.1++x.2)++(pk[i].2++pv[i].2):=by rw[take_add_one,hz,yR];simp
 have ai:(be n.J5.length 2++((n.J5.zip n.J9).take (i+1)).flatMap λx=>x.1++x.2).length<=500:=(by refine zL ?_ aC;rw[u,zF,zF];have e:(n.J5.zip n.J9).flatMap (λx=>x.1++x.2)=((n.J5.zip n.J9).take (i+1)).flatMap (λx=>x.1++x.2)++((n.J5.zip n.J9).drop (i+1)).flatMap (λx=>x.1++x.2):=(by rw[<- yR,xG]);rw[e,zF];omega);rw[O,zF,zF,zF] at ai;have bu:=ho.drew;refine Co (w:=w4.drew) (b2.q8 (Fr.refl [] w4).drew) ((aH.2 pk[i] (zX ak)).q8 (Fr.refl [] w4).drew) (by rw[zF];omega) λs3 B3 w5 b3 f5 n5=>?_;have Q:=ac.j0 f5 (λi hi=>.inr (I i hi)) (λp hp=>by rw[zE.1 hp];exact ab);have aJ:∀b∈B3,w.heap.size<=b:=λb V=>by rcases n5 b V with h|h;exact I b h;exact zL ac.fr.size h
 refine kH (hh w5 (an.q8 Q.fr)) (Q.cell 0) ?_;have aK:r1∉B3:=λhm=>by
  rcases n5 r1 hm with h|h;exact ab h;have:=fq (ac.at (i:=0) rfl);dsimp only at this;omega
 refine Co b3 ((an.q8 Q.fr).2 pv[i] (zX ad)) (by rw[zF,zF];omega) λs6 B6 w6 b6 f6 n6=>?_;have ax:=Q.j0 f6 (λi hi=>.inr (aJ i hi)) (λp hp=>by rw[zE.1 hp];exact aK);rw[ud oK];refine hX _ _ ⟨i+1,s6,B6,rfl,ag,by rw[O,<- zV,<- zV];exact b6,ax,λhm=>?_,λb V=>?_⟩ oO;rcases n6 r1 hm with h|h;exact aK h;have:=fq (Q.at (i:=0) rfl);dsimp only at this;omega;rcases n6 b V with h|h;exact aJ b h;exact zL Q.fr.size h;have ay:i=n.J5.length:=(by have:=zB C;omega);rw[ay,<- aF,vB,aF,<- u] at b2;have:=aD b2 I ho.fr;rw[J] at this;exact this;rw[h0] at C;have aM:¬n.Q3=true:=(by rw[C];decide);have u:io n=be n.J8.length 2++n.J8.flatMap (λx=>be x 4)++n.J5.flatten:=(by unfold io;rw[iN aM]);have J:jI n=4:=(by unfold jI;rw[iN aM]);refine Ko h 0 rfl x.2.2.2<|Ko h 0 rfl x.2.2.2<|oB h λr9 w3 e3 f3 h=>Ko h 1 rfl x.2.2.2 ?_;have h9:=h.at (i:=0) rfl;have ap:=h.sub (L':=[(r1,.cells (fE x) 176)]) (Ka _ _);have aq:r1≠r9:=λe=>by have:=h.nodup;simp[e] at this
 have U:w.heap.size<=r9:=(h.own (r9,_) (JP ..)).elim (λh=>nomatch h) id;have a0:(be n.J8.length 2++n.J8.flatMap λx=>be x 4).length+n.J5.flatten.length<=500:=(by rw[<- zF,<- u];exact aC);refine kx (λt w'=>∃(i:Nat) (s2:Sl) (B2:Kr),t=(s2,(i:Int))/\i<=n.J8.length/\gA w' s2 (be n.J8.length 2++(n.J8.take i).flatMap λx=>be x 4) B2/\ed [] w w' [(r1,.cells (fE x) 176)]/\r1∉B2/\∀b∈B2,w.heap.size<=b) (λt _=>((n.J8.length:Int)-t.2).toNat)
  ⟨0,_,[r9],rfl,yY _,?_,ap,by simpa using aq,λb V=>by rw[zE.1 V];exact U⟩ ?_
 rw[qBt,take_zero,flatMap_nil,xJ];refine HZ (T:=5) ?_ rfl;rw[n3] at h9;exact h9;rintro t w4 ⟨i,s2,B2,rfl,hi,b2,ho,ab,I⟩ X hX;dsimp only;apply cD<;>intro C;have ag:i<n.J8.length:=oK;have ah:n.J8[i]?=some n.J8[i]:=zA ag;refine eE.get (aj.q8 ho.fr) i rfl ah (y:=n.J8[i]) rfl<|oB ho λr6 w5 e5 f5 h5=>?_;have a1:=h5.at (i:=0) rfl;have O:(n.J8.take (i+1)).flatMap (λx=>be x 4)=(n.J8.take i).flatMap (λx=>be x 4)++be n.J8[i] 4:=by rw[take_add_one,ah,yR];simp
 have ai:(be n.J8.length 2++(n.J8.take (i+1)).flatMap λx=>be x 4).length<=500:=(by have e:n.J8.flatMap (λx=>be x 4)=(n.J8.take (i+1)).flatMap (λx=>be x 4)++(n.J8.drop (i+1)).flatMap (λx=>be x 4):=(by rw[<- yR,xG]);rw[e,zF,zF] at a0;rw[zF];omega);rw[O,zF,zF] at ai;have al:eK [] w5 ⟨pW r6,4,4⟩ (be n.J8[i] 4):=qA4 (T:=5) a1;have az:=lM n.J8[i] 4;generalize be n.J8[i] 4=aN at O ai al az;refine Co (src:=⟨pW r6,4,4⟩) (ys:=aN) (b2.q8 f5) al (by rw[zF];omega) λs6 B6 w6 b6 f6 n6=>?_;have aA:=h5.sub (L':=[(r1,.cells (fE x) 176)]) (Ka _ _);have ax:=aA.j0 f6 (λi hi=>.inr (I i hi)) (λp hp=>by rw[zE.1 hp];exact ab);rw[ud oK];refine hX _ _ ⟨i+1,s6,B6,rfl,ag,by rw[O,<- zV];exact b6,ax,λhm=>?_,λb V=>?_⟩ oO;rcases n6 r1 hm with h|h;exact ab h;have:=fq (aA.at (i:=0) rfl);dsimp only at this;omega;rcases n6 b V with h|h;exact I b h;exact zL aA.fr.size h;have ay:i=n.J8.length:=oK;rw[ay,vB] at b2;refine Ko ho 0 rfl x.2.1<|qqp (am.q8 ho.fr) oK (by rw[E];omega) λs5 B5 w5 b5 f5 n5=>?_;rw[E] at b5;refine Co (b2.q8 f5) (b5.kZ mW (S:=[]) λ_ _ h=>nomatch h) oK λs6 B6 w6 b6 f6 n6=>?_;rw[<- u] at b6
 have:=aD b6 (λb V=>by rcases n6 b V with h|h;exact I b h;exact zL (zL ho.fr.size f5.size) h) ((ho.fr.trans f5).j8 f6 λi hi=>.inr (I i hi));rw[J] at this;exact this
end
end
abbrev ND:Kl:=176
def E4{k v:Nat}:∀(c:Nat) (b:Kt),(jN k v c b).1.length=c/\(jN k v c b).2.length=c
 | 0,_=>⟨rfl,rfl⟩
 | c+1,b=>by
  have:=E4 (k:=k) (v:=v) c (b.drop (k+v));exact⟨by rw[jN,yJ,this.1],by rw[jN,yJ,this.2]⟩
def qoR{k v:Nat}:∀(c:Nat) (b:Kt),jN k v (c+1) b=((jN k v c b).1++[(b.drop (c*(k+v))).take k],(jN k v c b).2++[((b.drop (c*(k+v))).drop k).take v])
 | 0,b=>by simp[jN]
 | c+1,b=>by have ih:=qoR (k:=k) (v:=v) c (b.drop (k+v));have e:(k+v)+c*(k+v)=(c+1)*(k+v):=(by rw[xW];omega);rw[jN,ih];simp only[xF,e];rfl
def qoQ:∀(c:Nat) (b:Kt),y8 (c+1) b=y8 c b++[i4 ((b.drop (c*4)).take 4)]
 | 0,b=>by simp[y8]
 | c+1,b=>by have ih:=qoQ c (b.drop 4);have e:4+c*4=(c+1)*4:=oK;rw[y8,ih,xF,e];rfl
def qoO{k:Nat}:∀(c:Nat) (b:Kt),mt k (c+1) b=mt k c b++[(b.drop (c*k)).take k]
 | 0,b=>by simp[mt]
 | c+1,b=>by have ih:=qoO (k:=k) c (b.drop k);have e:k+c*k=(c+1)*k:=(by rw[xW];omega);rw[mt,ih,xF,e];rfl
def Ih:∀(c:Nat) (b:Kt),(y8 c b).length=c
 | 0,_=>rfl
 | c+1,b=>by rw[y8,yJ,Ih c]
def Ht{k:Nat}:∀(c:Nat) (b:Kt),(mt k c b).length=c
 | 0,_=>rfl
 | c+1,b=>by rw[mt,yJ,Ht c]
def rV{x:Sl}{l:List Sl}{vb:Nat}{T':Kl}(h:fB iv 1 w s l B)(hl:l.length<=100000)(Q:w.heap[vb]?=some (.c #[gU x] T'))(R:∀C B' w',fB iv 1 w' C (l++[x]) B'->Fr B w w'->(∀b∈B',b∈B\/w.heap.size<=b)->K C w'): Pt.run dp ((Builtin.append_ #[173,173] 173 #[s.v,.slice (pW vb) 1 1]).run prog w) K:=by obtain⟨U,E,V,G,I⟩:=Ft;refine fB.j2 (ys:=[x]) (e:=96) h zq oL E V G rfl (.ofSlice w (e':=96) oL _ 1 1 _ rfl (λj u J=>?_) λu O=>?_) rfl (by rw[I];omega) oK λC B' w' b' f' n' _=>R C B' w' b' f' n';rw[Addr.j1,kA Q,xU];rw[yI,flatMap_nil,xJ] at J;simpa[iv] using J;rw[yI,flatMap_nil,xJ] at O;rw[zE.1 O];rfl
def quK{x:Int}{vb:Nat}{T':Kl}(h:fB jC 1 w s l B)(hl:l.length<=100000)(Q:w.heap[vb]?=some (.c #[.u x] T'))(R:∀C B' w',fB jC 1 w' C (l++[x]) B'->Fr B w w'->(∀b∈B',b∈B\/w.heap.size<=b)->K C w'): Pt.run dp ((Builtin.append_ #[174,174] 174 #[s.v,.slice (pW vb) 1 1]).run prog w) K:=by obtain⟨U,E,V,G,I⟩:=A8;refine fB.j2 (ys:=[x]) (e:=44) h uY oL E V G rfl (.ofSlice w (e':=44) oL _ 1 1 _ rfl (λj u J=>?_) λu O=>?_) rfl (by rw[I];omega) oK λC B' w' b' f' n' _=>R C B' w' b' f' n';rw[Addr.j1,kA Q,xU];rw[yI,flatMap_nil,xJ] at J;simpa[jC] using J;rw[yI,flatMap_nil,xJ] at O;rw[zE.1 O];rfl
abbrev uv (h:Nat):Kk:=.func (.func 231) #[] #[dQ h]
def qtE{u i m:Nat}(h:ed [] w0 w L)(hi:L[i]?=some (u,.c #[gU s] T))(E:eK [] w0 s b)(C:m<=b.length)(hl:b.length<=1000000)(kk:∀J B' O w',ed [] w0 w' (L.set i (u,.c #[gU O] T))->gA w' J (b.take m) B'->(∀c∈B',w.heap.size<=c)->eK [] w0 O (b.drop m)->Fr [u] w w'->K J w'): eF prog (uv u) [.i m] dp w K:=by
 refine rR (lb:=[dQ u]) rfl oL<|qnX<|oA h i hi s rfl<|eE.part (S:=[]) E (lo:=none) (hi:=some (m:Int)) 0 m rfl rfl (yY _) C λs1 _ Q _=>?_;rw[xH] at Q;refine CK (Q.q8 h.fr) (by rw[yM];omega) λs2 B2 w2 b2 R U _ _=>?_;have V:=h.q8 R;refine oA V i hi s rfl<|eE.part (S:=[]) E (lo:=some (m:Int)) (hi:=none) m b.length rfl (by rw[xY,E.1]) C (zM _) λs3 _ h3 _=>?_;rw[vB] at h3;have G:=fq (h.at hi);refine oH V i hi #[gU s3] rfl rfl (zM _) λw3 I f3=>kk s2 B2 s3 w3 I (b2.j0 f3 λc hc C=>?_) U h3 ((R.mono λ_ h _=>nomatch h).trans f3)
 have:=U c hc;rw[zE.1 C] at this;dsimp only at G;omega
def xn (x:lJ) (o:Nat):Sl:=if o=1 then x.2.1 else x.2.2.1
def Be (x:lJ) (o:Nat) (s:Sl):lJ:=if o=1 then (x.1,s,x.2.2) else (x.1,x.2.1,s,x.2.2.2)
def Hj{o:Nat}(h:o=1\/o=2):(fE x)[o]?=some (gU (xn x o)):=by rcases h with rfl|rfl<;>rfl
def qA7{o:Nat}(h:o=1\/o=2):ef (fE x) o [gU s]=fE (Be x o s):=by rcases h with rfl|rfl<;>rfl
def IB{E I m o:Nat}{s':Sl}{l:List Sl}{Bk:Kr}{K:WP}(ho:o=1\/o=2)(h:ed [] w0 w ((E,.c (fE x) ND)::(I,.c #[gU s'] T)::L))(hr:eK [] w0 s' b)(C:m<=b.length)(aG:b.length<=1000000)(ac:fB iv 1 w (xn x o) l Bk)(V:∀c∈Bk,w0.heap.size<=c/\c∉E::I::L.map (·.1))(hl:l.length<=100000)(kk:∀sn sN O Bk' w',ed [] w0 w' ((E,.c (fE (Be x o O)) ND)::(I,.c #[gU sN] T)::L)->eK [] w0 sN (b.drop m)->fB iv 1 w' O (l++[sn]) Bk'-> (∀c∈Bk',c∈Bk\/w.heap.size<=c)->(∀c∈Bk',c∉E::I::L.map (·.1))->Fr (E::I::Bk) w w'->(∀G:Kr,(∀c∈G,c<w.heap.size\/c∈Bk')->eK G w' sn (b.take m))->K w'): (ld Cell.slice (dm E o) w.drew<|λ(u:Sl)=> eF prog (uv I) ([Value.int IntKind.i64 m]) (dp) w.drew<|λ(Q:Sl) (ad:Kj)=> held [λ(aq:Go.World)=>World.cell? aq (dm E o)=some (Value.slice u.a u.len u.cap)] ad<| new (.cells #[Value.slice Q.a Q.len Q.cap] 96) ad<|λ(ar:Nat) (ae:Kj)=> held [λ(au:Go.World)=>World.cell? au (dm E o)=some (Value.slice u.a u.len u.cap)] ae<| run dp ((Builtin.append_ (#[173,173]) 173 (#[Value.slice u.a u.len u.cap,Value.slice (pW ar) 1 1])).run prog ae)<|λ(R:Sl) (av:Kj)=> st (dm E o) ([Value.slice R.a R.len R.cap]) av K):=by
 have hd:=h.drew;refine oA hd 0 rfl (xn x o) (Hj ho)<|qtE hd (i:=1) rfl hr C aG λaH aI sN ah aa aJ aK hN ai=>?_;have aa:ed [] w0 ah ((E,.c (fE x) ND)::(I,.c #[gU sN] T)::L):=aa;refine ja (aa.cell 0 rfl (Hj ho))<|oB aa λaX aY aZ aj ak=>ja (ak.cell 1 rfl (Hj ho)) ?_;have al:fB iv 1 w.drew (xn x o) l Bk:=ac;have aw:=al.j0 ai λc J C=>(V c J).2 (by rw[zE.1 C];simp);have ax:=aw.q8 aj;refine rV ax hl (ak.at (i:=0) rfl) λO Bk' a0 aL am ay=>?_;have az:=ak.sub (L':=(E,.c (fE x) ND)::(I,.c #[gU sN] T)::L) (Ka _ _);have a1:w.heap.size<=ah.heap.size:=ai.size;have a2:=aj.size;have a3:=am.size;have U:∀c∈E::I::L.map (·.1),c<w.heap.size:=λc J=>by obtain⟨p,hp,rfl⟩:=mem_map.1 (show c∈((E,Obj.cells (fE x) ND (0,0))::(I,.c #[gU s'] T)::L).map (·.1) from J);exact fq (h.jz p hp)
 have an:∀p∈((E,Obj.cells (fE x) ND (0,0))::(I,.c #[gU sN] T)::L),p.1∉Bk:=λp hp C=>(V p.1 C).2 (zZ (f:=(·.1)) hp);have aN:=az.j0 am (λi hi=>.inr (V i hi).1) an;have af:∀c∈Bk',c∈Bk\/w.heap.size<=c:=λc J=>(ay c J).elim .inl λh=>.inr oK;have aA:∀c∈Bk',c∉E::I::L.map (·.1):=λc J C=>by
  rcases af c J with h|h;exact (V c h).2 C;have:=U c C;omega
 refine oH aN 0 rfl (fE (Be x o O)) (qA7 ho) rfl (by rcases ho with rfl|rfl<;>exact zO rfl) λao aO aB=>?_;have h5:∀c∈Bk',c∉[E]:=λc J C=>aA c J (by rw[zE.1 C];simp);have aC:Fr (E::I::Bk) ah ao:=((aj.mono λ_ h _=>nomatch h).trans (am.mono λi hi _=>by simp[hi])).trans (aB.mono λi hi _=>by simp[zE.1 hi]);have aP:Fr (E::I::Bk) w ao:=((Fr.refl _ w).drew.trans (ai.mono λi hi _=>by simp[zE.1 hi])).trans aC;refine kk aH sN O Bk' ao aO hN (aL.j0 aB h5) af aA aP λG hG=>?_;have aD:∀c∈aI,c∉E::I::Bk++G.filter λc=>decide (c<w.heap.size):=λc J C=>by
  have h1:w.heap.size<=c:=aK c J;rcases zD.1 C with C|C;rcases zG.1 C with rfl|C;have:=U c oM;omega;rcases zG.1 C with rfl|C;have:=U c oM;omega;have:=ac.lt c C;omega;have:=(mem_filter.1 C).2;simp at this;omega
 refine (aJ.kZ mW aD).j0 (aC.mono λi hi _=>zH _ hi) λc J=>?_;rcases hG c J with h1|h1;exact .inl (zI _ (mem_filter.2 ⟨J,by simpa using h1⟩));rcases ay c h1 with h2|h2;exact .inl (zH _ (by simp[h2]));exact .inr oK
section
def Fw{L':Kz}(h:ed S w0 w L)(p:L.Perm L'):ed S w0 w L':=⟨λx u=>h.jz x (p.mem_iff.2 u),(p.map _).nodup_iff.1 h.nodup,h.fr,λx u=>h.own x (p.mem_iff.2 u)⟩
def CC{α:Type}{enc:α->List Kk}{l:List α}(h:fB enc k w s l B):B.Nodup:=by rcases h with ⟨_,_,rfl⟩|⟨b,_,_,_,rfl,_⟩<;>simp
def wE (w:Kj) (ps:rP) (T:Kr):Prop:=∀p∈ps,eK T w p.1 p.2
def wE.j0{w w':Kj}{ps:rP}{T T' S:Kr}(h:wE w ps T)(f:Fr S w w')(u:∀b∈S,b∈T)(C:∀b∈T',b∈T\/w.heap.size<=b):wE w' ps T':=λp E=>(h p E).j0 (f.mono λi G _=>u i G) C
def wE.snoc{T:Kr}{a:Key}(h:wE w ps T)(g:eK T w s a):wE w (ps++[(s,a)]) T:=λp u=>by rcases zD.1 u with u|u;exact h p u;rw[zE.1 u];exact g
def qve{G:Kr}{pk pv:rP}{Bk h u T:Kr}(h0:x.1=n.Q3)(hN:NB n)(O:fB iv 1 w x.2.1 (jt pk) Bk)(e1:ik pk=n.J5)(Q:fB iv 1 w x.2.2.1 (jt pv) h)(e2:ik pv=n.J9)(R:fB jC 1 w x.2.2.2 n.J8 u)(U:∀c∈Bk,c∉h/\c∉u)(d2:∀c∈h,c∉u)(g1:wE w pk T)(g2:wE w pv T)(V:∀c∈G++(Bk++(h++u)),c∈T):fU (G++(Bk++(h++u))) w x n (Bk++(h++u)):=by refine⟨h0,hN,Bk,h,u,rfl,?_,⟨pk,O,e1,λp I=>(g1 p I).j6 λc J=>.inl (V c J)⟩,⟨pv,Q,e2,λp I=>(g2 p I).j6 λc J=>.inl (V c J)⟩,R⟩;refine yN.2 ⟨CC O,yN.2 ⟨CC Q,CC R,λa E b C e=>d2 a E (e▸C)⟩,λa E b C e=>?_⟩;rcases zD.1 C with C|C;exact (U a E).1 (e▸C);exact (U a E).2 (e▸C)
section
variable {w:Kj} {s:Sl} {b:Kt}
def qAZ{count:Nat}{K:lJ×Bool->WP}(hb:eK [] w s b)(hB:ft b)(hl:b.length<=1000)(hc:count<=100000)(hk:1<=k/\k<=1000)(hv:v<=1000)(kk:∀x B n w',(b.length=count*(k+v)->n=⟨true,(jN k v count b).1,(jN k v count b).2,[]⟩)->fU (List.range w.heap.size++B) w' x n B->Fr [] w w'->(∀c∈B,w.heap.size<=c)->K (x,decide (b.length=count*(k+v))) w'): cW 169 [s.v,.i count,.i k,.i v] [.agg eJ,.one .bool] w K:=by
 refine qs3<|oB (oF [] w) λr1 w1 e1 f1 h=>?_;have a1:count*(k+v)<=100000*2000:=Nat.mul_le_mul hc oK;have ew:wrap .i64 ((count:Int)*wrap .i64 ((k:Int)+(v:Int)))=((count*(k+v):Nat):Int):=by have e1:wrap .i64 ((k:Int)+(v:Int))=((k+v:Nat):Int):=(by rw[gu _ oK];rfl);rw[e1,<- Int.natCast_mul,gu _ oK]
 rw[ew];have an:=hb.1;apply eV<;>intro aa;have ao:b.length≠count*(k+v):=λe=>by rw[an,e] at aa;simp at aa
 refine oE h 0 rfl (fE gp) λw2 h f2=>Kq h 0 rfl gp ?_;have:=kk gp [] jr w2 (λe=>absurd e ao) (.zero _ _) h.fr (λ_ h=>nomatch h);rw[zU ao] at this;exact this;have aI:b.length=count*(k+v):=by
  have:((s.len:Int)==((count*(k+v):Nat):Int))=true:=by simpa using aa
  have:=yQ.1 this;omega
 have a7:count<=1000:=(by have:count*1<=count*(k+v):=Nat.mul_le_mul_left _ oK;omega);refine oB h λC w2 e2 f2 h=>oE h 0 rfl (fE (true,dR,dR,dR)) λw3 h f3=>qka<|oB h λE w4 e4 f4 h=>?_;have h:=Fw h (List.Perm.swap _ _ _);have a8:=h.nodup;have a9:=λp hp=>(h.own p hp).elim (λh=>(nomatch h:False).elim) (id:w.heap.size<=p.1->_);refine kx (λi w'=>∃(c:Nat) (sk V sn:Sl) (pk pv:rP) (Bk G:Kr),i=(c:Int)/\c<=count/\ed [] w w' [(C,.c (fE (true,sk,V,dR)) ND),(E,.c #[gU sn] 96),(r1,.c (fE gp) ND)]/\
   eK [] w sn (b.drop (c*(k+v)))/\fB iv 1 w' sk (jt pk) Bk/\ik pk=(jN k v c b).1/\fB iv 1 w' V (jt pv) G/\ik pv=(jN k v c b).2/\(∀c∈Bk,w.heap.size<=c/\c∉[C,E,r1])/\(∀c∈G,w.heap.size<=c/\c∉[C,E,r1])/\(∀c∈Bk,c∉G)/\
   wE w' pk (List.range w.heap.size++C::E::r1::(Bk++G))/\wE w' pv (List.range w.heap.size++C::E::r1::(Bk++G))) (λi _=>((count:Int)-i).toNat)
  ⟨0,dR,dR,s,[],[],[],[],rfl,yY _,h,by rw[Nat.zero_mul,xH];exact hb,.nil _ _ _,rfl,.nil _ _ _,rfl,λ_ h=>(nomatch h),λ_ h=>(nomatch h),λ_ h=>(nomatch h),λ_ h=>(nomatch h),λ_ h=>(nomatch h)⟩ ?_
 rintro _ w' ⟨c,sk,V,sn,pk,pv,Bk,G,rfl,ba,h,aJ,ap,ek,ab,ev,nk,nv,ah,gk,gv⟩ X hX;have lk:pk.length=c:=(by rw[<- zK (f:=(·.2)),show pk.map (·.2)=ik pk from rfl,ek,(E4 c b).1]);have lv:pv.length=c:=(by rw[<- zK (f:=(·.2)),show pv.map (·.2)=ik pv from rfl,ev,(E4 c b).2]);have J:∀z∈[C,E,r1],z<w'.heap.size:=λz u=>by simp only[zG,xZ,or_false] at u;rcases u with rfl|rfl|rfl;exact fq (h.at (i:=0) rfl);exact fq (h.at (i:=1) rfl);exact fq (h.at (i:=2) rfl)
 apply cD<;>intro ai;have aq:c<count:=oK;have aj:(c+1)*(k+v)<=count*(k+v):=JZ _ aq;rw[xW,Nat.one_mul] at aj;have bc:(b.drop (c*(k+v))).length=b.length-c*(k+v):=yC;refine IB (o:=1) (m:=k) (.inl rfl) h aJ oK oK (x:=(true,sk,V,dR)) ap (λz u=>nk z u) oP λQ sN R Bk' w5 h5 aM b5 n5 m5 f5 g5=>?_;have h5:ed [] w w5 [(C,.c (fE (true,R,V,dR)) ND),(E,.c #[gU sN] 96),(r1,.c (fE gp) ND)]:=h5;have ar:=ab.j0 f5 λz u I=>by simp only[zG] at I;rcases I with rfl|rfl|I;exact (nv _ u).2 oM;exact (nv _ u).2 oM;exact ah z I u
 have au:∀z∈List.range w.heap.size++C::E::r1::(Bk'++G),z∈List.range w.heap.size++C::E::r1::(Bk++G)\/w'.heap.size<=z:=λz u=>by simp only[zD,zG] at u⊢;rcases u with u|rfl|rfl|rfl|u|u;exact .inl (.inl u);simp;simp;simp;rcases n5 z u with h|h;simp[h];exact .inr h;simp[u]
 have av:∀z∈C::E::Bk,z∈List.range w.heap.size++C::E::r1::(Bk++G):=λz u=>by simp only[zD,zG] at u⊢;rcases u with rfl|rfl|u<;>simp[*]
 have aP:=(gk.j0 f5 av au).snoc (s:=Q) (a:=(b.drop (c*(k+v))).take k) (g5 _ λz u=>by
  simp only[zD,zG,mem_range] at u;have:=h.fr.size;rcases u with u|rfl|rfl|rfl|u|u;exact .inl oK;exact .inl (J _ oM);exact .inl (J _ oM);exact .inl (J _ oM);exact .inr u;exact .inl (ab.lt z u))
 have aQ:=gv.j0 f5 av au;have ak:∀z∈Bk',w.heap.size<=z/\z∉[C,E,r1]:=λz u=>⟨by rcases n5 z u with O|O;exact (nk z O).1;exact zL h.fr.size O,m5 z u⟩;have ag:∀z∈Bk',z∉G:=λz u I=>by
  rcases n5 z u with O|O;exact ah z O I;have:=ab.lt z I;omega
 have aR:fB iv 1 w5 R (jt (pk++[(Q,(b.drop (c*(k+v))).take k)])) Bk':=(by rw[show jt (pk++[(Q,(b.drop (c*(k+v))).take k)])=jt pk++[Q] by simp];exact b5);refine IB (o:=2) (m:=v) (.inr rfl) h5 aM (by rw[yC];omega) (by rw[yC];omega) (x:=(true,R,V,dR)) ar (λz u=>nv z u) oP λad aw ax ay w6 h6 az b6 n6 m6 f6 g6=>?_;have h6:ed [] w w6 [(C,.c (fE (true,R,ax,dR)) ND),(E,.c #[gU aw] 96),(r1,.c (fE gp) ND)]:=h6;have U:∀z∈[C,E,r1],z<w5.heap.size:=λz u=>yE (J z u) f5.size;have aA:=aR.j0 f6 λz u I=>by simp only[zG] at I;rcases I with rfl|rfl|I;exact (ak _ u).2 oM;exact (ak _ u).2 oM;exact ag z u I
 have aB:∀z∈List.range w.heap.size++C::E::r1::(Bk'++ay),z∈List.range w.heap.size++C::E::r1::(Bk'++G)\/w5.heap.size<=z:=λz u=>by simp only[zD,zG] at u⊢;rcases u with u|rfl|rfl|rfl|u|u;exact .inl (.inl u);simp;simp;simp;simp[u];rcases n6 z u with h|h;simp[h];exact .inr h
 have aC:∀z∈C::E::G,z∈List.range w.heap.size++C::E::r1::(Bk'++G):=λz u=>by simp only[zD,zG] at u⊢;rcases u with rfl|rfl|u<;>simp[*]
 have aW:=(aQ.j0 f6 aC aB).snoc (s:=ad) (a:=((b.drop (c*(k+v))).drop k).take v) (g6 _ λz u=>by
  simp only[zD,zG,mem_range] at u;have:=h5.fr.size;rcases u with u|rfl|rfl|rfl|u|u;exact .inl oK;exact .inl (U _ oM);exact .inl (U _ oM);exact .inl (U _ oM);exact .inl (b5.lt z u);exact .inr u)
 have aX:=aP.j0 f6 aC aB;rw[ud oK];have aD:=qoR (k:=k) (v:=v) c b;refine hX _ _ ⟨c+1,R,ax,aw,pk++[(Q,(b.drop (c*(k+v))).take k)],pv++[(ad,((b.drop (c*(k+v))).drop k).take v)],Bk',ay,rfl,aq,h6,?_,aA,?_,?_,?_,ak,λz u=>⟨?_,m6 z u⟩,λz u I=>?_,aX,aW⟩ oK;rw[xF,xF] at az;have e:c*(k+v)+(k+v)=(c+1)*(k+v):=(by rw[xW];omega);rw[<- e];exact az;rw[aD];simp[ek];rw[show jt (pv++[(ad,((b.drop (c*(k+v))).drop k).take v)])=jt pv++[ad] by simp];exact b6;rw[aD];simp[ev];rcases n6 z u with O|O;exact (nv z O).1;exact zL h5.fr.size O;rcases n6 z I with O|O;exact ag z u O;have:=b5.lt z u;omega;have aY:c=count:=oK;subst aY;refine Kq h 0 rfl (true,sk,V,dR)<|oE h 2 rfl (fE (true,sk,V,dR)) λw5 h5 f5=>Kq h5 2 rfl (true,sk,V,dR) ?_;have aE:∀ {B:Kr},(∀z∈B,w.heap.size<=z/\z∉[C,E,r1])->∀z∈B,z∉[r1]:=λhB z u I=>(hB z u).2 (by rw[zE.1 I];simp);have aF:∀z∈[r1],z∈List.range w.heap.size++C::E::r1::(Bk++G):=λz u=>by rw[zE.1 u];simp
 have:=kk (true,sk,V,dR) (Bk++(G++[])) ⟨true,(jN k v c b).1,(jN k v c b).2,[]⟩ w5 (λ_=>rfl)
  (qve (T:=List.range w.heap.size++C::E::r1::(Bk++G)) rfl ⟨(HC c hB).1,(HC c hB).2,λ_ h=>(nomatch h)⟩ (ap.j0 f5 (aE nk)) ek (ab.j0 f5 (aE nv)) ev (.nil _ _ _) (λz u=>⟨ah z u,λh=>nomatch h⟩) (λ_ _ h=>nomatch h)
   (gk.j0 f5 aF λz u=>.inl u) (gv.j0 f5 aF λz u=>.inl u) λz u=>by simp only[xJ,zD,zG] at u⊢;rcases u with u|u|u<;>simp[*]) h5.fr (λz u=>by
   rw[xJ] at u;rcases zD.1 u with u|u;exact (nk z u).1;exact (nv z u).1)
 rw[yA aI] at this;exact this
end
end
section
def qt0(u:ft l)(E:4<=l.length):gb (l.take 4)=i4 (l.take 4):=by
 match l,E with
 | a::b::c::d::r,_=>
  have G:=u a oM;have I:=u b oM;have J:=u c oM;have O:=u d oM;show gb [a,b,c,d]=i4 [a,b,c,d];show qL a b c d=_;rw[qsH G I J O,EL (λv C=>u v (by simp at C⊢;rcases C with h|h|h|h<;>simp[h])) (zM _)];show _=(((0*256+a)*256+b)*256+c)*256+d;omega
def qzp(l:Kt):iX (i4 l):=by
 unfold i4;have:∀(l:Kt) (r:Int),iX r->iX (l.foldl (λr x=>bits .or .u32 (wrap .u32 (r*2^8)) (wrap .u32 x)) r):=by
  intro l;induction l with
  | nil=>intro r h;exact h
  | cons x l ih=>intro r h;exact ih _ (Ff _ _ _)
 exact this l 0 ⟨oN,oN⟩
def qqV:∀(c:Nat) (b:Kt),∀x∈y8 c b,iX x
 | 0,_,_,h=>nomatch h
 | c+1,b,x,h=>by rcases zG.1 h with rfl|h;exact qzp _;exact qqV c _ x h
def qBb{I J:Nat}{s':Sl}{Bi:Kr}{K:WP}(h:ed [] w0 w ((I,.c (fE x) ND)::(J,.c #[gU s'] T)::L))(hr:eK [] w0 s' b)(hB:ft b)(V:4<=b.length)(aA:b.length<=1000000)(ah:fB jC 1 w x.2.2.2 l Bi)(aa:∀c∈Bi,w0.heap.size<=c/\c∉I::J::L.map (·.1))(hl:l.length<=100000)(kk:∀sN O Q w',ed [] w0 w' ((I,.c (fE (x.1,x.2.1,x.2.2.1,O)) ND)::(J,.c #[gU sN] T)::L)->eK [] w0 sN (b.drop 4)->fB jC 1 w' O (l++[i4 (b.take 4)]) Q-> (∀c∈Q,w0.heap.size<=c/\c∉I::J::L.map (·.1))->K w'): (eF prog (uv J) ([Value.int IntKind.i64 4]) (dp) w<|λ(E:Sl) (u:Kj)=> ld Cell.slice (dm I 3) u.drew<|λ(C:Sl)=> idx E 0 1<|λ(ai:Addr)=> ld (Cell.int IntKind.u8) ai u.drew<|λ(aj:Int)=> idx E 1 1<|λ(ak:Addr)=> ld (Cell.int IntKind.u8) ak u.drew<|λ(al:Int)=> idx E 2 1<|λ(am:Addr)=> ld (Cell.int IntKind.u8) am u.drew<|λ(an:Int)=> idx E 3 1<|λ(ao:Addr)=> ld (Cell.int IntKind.u8) ao u.drew<|λ(ap:Int)=> new (.cells #[Value.int IntKind.u32 (bits .or .u32 (bits .or .u32 (bits .or .u32 (wrap IntKind.u32 (wrap IntKind.u32 aj*2^24)) (wrap IntKind.u32 (wrap IntKind.u32 al*2^16))) (wrap IntKind.u32 (wrap IntKind.u32 an*2^8))) (wrap IntKind.u32 ap))] 44) u.drew<|λ(aq:Nat) (ad:Kj)=> held [λ(ar:Go.World)=>World.cell? ar (dm I 3)=some (Value.slice C.a C.len C.cap)] ad<| run dp ((Builtin.append_ (#[174,174]) 174 (#[Value.slice C.a C.len C.cap,Value.slice (pW aq) 1 1])).run prog ad)<|λ(R:Sl) (au:Kj)=> st (dm I 3) ([Value.slice R.a R.len R.cap]) au K):=by
 refine qtE (m:=4) h (i:=1) rfl hr V aA λaB aX sN ab aC aD aY hN aE=>?_;have hd:ed [] w0 ab.drew ((I,.c (fE x) ND)::(J,.c #[gU sN] T)::L):=oG aC;refine Ko hd 0 rfl x.2.2.2 ?_;have G:eK [] ab.drew aB (b.take 4):=(aD.kZ mW (S:=[]) λ_ _ h=>nomatch h).q8 (Fr.refl [] ab).drew;have h4:4<=(b.take 4).length:=(by rw[yM];omega);refine eK.at G 0 rfl (getD_some oK)<|eK.at G 1 rfl (getD_some oK)<|eK.at G 2 rfl (getD_some oK)<|eK.at G 3 rfl (getD_some oK) ?_;have e4:=qt0 hB V;unfold gb qL at e4;rw[e4];refine oB hd λa0 aF a1 aG ae=>ja (ae.cell 1) ?_;have av:=ah.j0 aE λc hc V=>(aa c hc).2 (by rw[zE.1 V];simp);have aw:=(av.q8 (Fr.refl [] ab).drew).q8 aG;refine quK aw hl (ae.at (i:=0) rfl) λO Q a2 aH aI aJ=>?_;have U:=ae.sub (L':=(I,.c (fE x) ND)::(J,.c #[gU sN] T)::L) (Ka _ _);have ag:∀p∈((I,Obj.cells (fE x) ND (0,0))::(J,.c #[gU sN] T)::L),p.1∉Bi:=λp hp V=>(aa p.1 V).2 (zZ (f:=(·.1)) hp);have aL:=U.j0 aI (λi hi=>.inr (aa i hi).1) ag;have ax:∀c∈I::J::L.map (·.1),c<aF.heap.size:=λc hc=>by obtain⟨p,hp,rfl⟩:=mem_map.1 (show c∈((I,Obj.cells (fE x) ND (0,0))::(J,.c #[gU sN] T)::L).map (·.1) from hc);exact fq (U.jz p hp)
 have ay:∀c∈Q,w0.heap.size<=c/\c∉I::J::L.map (·.1):=λc hc=>by rcases aJ c hc with h|h;exact aa c h;exact⟨zL U.fr.size h,λV=>by have:=ax c V;omega⟩
 exact oE aL 0 rfl (fE (x.1,x.2.1,x.2.2.1,O)) λaM aN aO=>kk sN O Q aM aN hN (aH.j0 aO λc hc V=>(ay c hc).2 (by rw[zE.1 V];simp)) ay
section
variable {w:Kj} {s:Sl} {b:Kt}
def qxI{count:Nat}{K:lJ×Bool->WP}(hb:eK [] w s b)(hB:ft b)(hl:b.length<=1000)(hc:count<=100000)(hk:1<=k/\k<=1000)(kk:∀x B n w',(1<=count/\b.length=count*4+(count-1)*k->n=⟨false,mt k (count-1) (b.drop (count*4)),[],y8 count b⟩)->fU (List.range w.heap.size++B) w' x n B->Fr [] w w'->(∀c∈B,w.heap.size<=c)->K (x,decide (1<=count/\b.length=count*4+(count-1)*k)) w'): cW 170 [s.v,.i count,.i k] [.agg eJ,.one .bool] w K:=by
 refine qrM<|oB (oF [] w) λr1 w1 e1 f1 h=>?_;have al:=hb.1;have am:(count-1)*k<=100000*1000:=Nat.mul_le_mul oK hk.2;refine je (λd w'=>d = !decide (1<=count/\b.length=count*4+(count-1)*k)/\w'=w1) ?_ ?_;apply eV<;>intro h1;have h1:=zC h1;refine⟨?_,rfl⟩;rw[zU λh=>oK];rfl;have h1:=zB h1;refine⟨?_,rfl⟩;have ea:wrap .i64 ((count:Int)-1)=((count-1:Nat):Int):=(by rw[gu _ oK];omega);have ew:wrap .i64 (wrap .i64 ((count:Int)*4)+wrap .i64 (wrap .i64 ((count:Int)-1)*(k:Int)))=((count*4+(count-1)*k:Nat):Int):=by have e4:wrap .i64 ((count:Int)*4)=((count*4:Nat):Int):=(by rw[gu _ oK];rfl);have e5:wrap .i64 (((count-1:Nat):Int)*(k:Int))=(((count-1)*k:Nat):Int):=(by rw[<- Int.natCast_mul,gu _ oK]);rw[ea,e4,e5];generalize (count-1)*k=z at am;rw[gu _ oK];rfl
 rw[ew,al];congr 1;rw[JQ,yQ,yO];generalize (count-1)*k=z;omega;rintro d aX ⟨rfl,rfl⟩;apply eV<;>intro O;have ao:¬(1<=count/\b.length=count*4+(count-1)*k):=(by rw[zT] at O;exact zB O);refine oE h 0 rfl (fE gp) λw2 h f2=>Kq h 0 rfl gp ?_;have:=kk gp [] jr w2 (λe=>absurd e ao) (.zero _ _) h.fr (λ_ h=>nomatch h);rw[zU ao] at this;exact this;have aD:1<=count/\b.length=count*4+(count-1)*k:=(by rw[yF] at O;exact zC O);refine oB h λE w2 e2 f2 h=>qka<|oB h λG w4 e4 f4 h=>?_;have h:=Fw h (List.Perm.swap _ _ _);refine kx (λi w'=>∃(c:Nat) (J sn:Sl) (I:Kr),i=(c:Int)/\c<=count/\ed [] w w' [(E,.c (fE (false,dR,dR,J)) ND),(G,.c #[gU sn] 96),(r1,.c (fE gp) ND)]/\
   eK [] w sn (b.drop (c*4))/\fB jC 1 w' J (y8 c b) I/\(∀c∈I,w.heap.size<=c/\c∉[E,G,r1])) (λi _=>((count:Int)-i).toNat)
  ⟨0,dR,s,[],rfl,yY _,h,by rw[Nat.zero_mul,xH];exact hb,.nil _ _ _,λ_ h=>(nomatch h)⟩ ?_
 rintro _ w' ⟨c,J,sn,I,rfl,aZ,h,ap,C,ni⟩ X hX;apply cD<;>intro ad;have U:c<count:=oK;have aF:(b.drop (c*4)).length=b.length-c*4:=yC;refine qBb h ap (hB.drop _) oK oK (x:=(false,dR,dR,J)) C ni (by rw[Ih];omega) λsN aG aH w5 h5 Q b5 n5=>?_;rw[ud oK];refine hX _ _ ⟨c+1,aG,sN,aH,rfl,U,h5,?_,by rw[qoQ];exact b5,n5⟩ oK;rw[xF] at Q;have e:c*4+4=(c+1)*4:=oK;rw[<- e];exact Q;have ae:c=count:=oK;subst ae;have aR:∀z∈I,w.heap.size<=z:=λz u=>(ni z u).1;refine kx (λi w2=>∃(d:Nat) (sk sn:Sl) (pk:rP) (Bk:Kr),i=(d:Int)/\d<=c-1/\ed [] w w2 [(E,.c (fE (false,sk,dR,J)) ND),(G,.c #[gU sn] 96),(r1,.c (fE gp) ND)]/\
   eK [] w sn ((b.drop (c*4)).drop (d*k))/\fB jC 1 w2 J (y8 c b) I/\fB iv 1 w2 sk (jt pk) Bk/\ik pk=mt k d (b.drop (c*4))/\(∀c∈Bk,w.heap.size<=c/\c∉[E,G,r1])/\(∀c∈Bk,c∉I)/\
   wE w2 pk (List.range w.heap.size++E::G::r1::(Bk++I))) (λi _=>(((c-1:Nat):Int)-i).toNat)
  ⟨0,dR,sn,[],[],rfl,yY _,h,by rw[Nat.zero_mul,xH];exact ap,C,.nil _ _ _,rfl,λ_ h=>(nomatch h),λ_ h=>(nomatch h),λ_ h=>(nomatch h)⟩ ?_
 rintro _ w2 ⟨d,sk,a0,pk,Bk,rfl,a1,h,ar,C,au,ek,nk,af,gk⟩ X hX;have lk:pk.length=d:=(by rw[<- zK (f:=(·.2)),show pk.map (·.2)=ik pk from rfl,ek,Ht]);have ea:wrap .i64 ((c:Int)-1)=((c-1:Nat):Int):=(by rw[gu _ oK];omega);have R:∀z∈[E,G,r1],z<w2.heap.size:=λz u=>by simp only[zG,xZ,or_false] at u;rcases u with rfl|rfl|rfl;exact fq (h.at (i:=0) rfl);exact fq (h.at (i:=1) rfl);exact fq (h.at (i:=2) rfl)
 rw[ea];apply cD<;>intro ag;have U:d<c-1:=oK;have ah:(d+1)*k<=(c-1)*k:=JZ _ U;rw[xW,Nat.one_mul] at ah;have aF:((b.drop (c*4)).drop (d*k)).length=b.length-c*4-d*k:=(by rw[yC,yC]);refine IB (o:=1) (m:=k) (.inl rfl) h ar oK oK (x:=(false,sk,dR,J)) au nk oP λV sN av Bk' w5 h5 Q b5 n5 m5 f5 g5=>?_;have h5:ed [] w w5 [(E,.c (fE (false,av,dR,J)) ND),(G,.c #[gU sN] 96),(r1,.c (fE gp) ND)]:=h5;have aw:=C.j0 f5 λz u hm=>by simp only[zG] at hm;rcases hm with rfl|rfl|hm;exact (ni _ u).2 oM;exact (ni _ u).2 oM;exact af z hm u
 have aK:∀z∈List.range w.heap.size++E::G::r1::(Bk'++I),z∈List.range w.heap.size++E::G::r1::(Bk++I)\/w2.heap.size<=z:=λz u=>by simp only[zD,zG] at u⊢;rcases u with u|rfl|rfl|rfl|u|u;exact .inl (.inl u);simp;simp;simp;rcases n5 z u with h|h;simp[h];exact .inr h;simp[u]
 have aL:∀z∈E::G::Bk,z∈List.range w.heap.size++E::G::r1::(Bk++I):=λz u=>by simp only[zD,zG] at u⊢;rcases u with rfl|rfl|u<;>simp[*]
 have aM:=(gk.j0 f5 aL aK).snoc (s:=V) (a:=((b.drop (c*4)).drop (d*k)).take k) (g5 _ λz u=>by
  simp only[zD,zG,mem_range] at u;have:=h.fr.size;rcases u with u|rfl|rfl|rfl|u|u;exact .inl oK;exact .inl (R _ oM);exact .inl (R _ oM);exact .inl (R _ oM);exact .inr u;exact .inl (C.lt z u))
 rw[ud oK];refine hX _ _ ⟨d+1,av,sN,pk++[(V,((b.drop (c*4)).drop (d*k)).take k)],Bk',rfl,U,h5,?_,aw,?_,?_,λz u=>⟨?_,m5 z u⟩,λz u hm=>?_,aM⟩ oK;rw[xF] at Q;have e:d*k+k=(d+1)*k:=(by rw[xW];omega);rw[<- e];exact Q;rw[show jt (pk++[(V,((b.drop (c*4)).drop (d*k)).take k)])=jt pk++[V] by simp];exact b5;rw[qoO];simp[ek];rcases n5 z u with h'|h';exact (nk z h').1;exact zL h.fr.size h';rcases n5 z u with h'|h';exact af z h' hm;have:=C.lt z hm;omega;have ae:d=c-1:=oK;subst ae;refine Kq h 0 rfl (false,sk,dR,J)<|oE h 2 rfl (fE (false,sk,dR,J)) λw5 h5 f5=>Kq h5 2 rfl (false,sk,dR,J) ?_;have ax:∀ {B:Kr},(∀z∈B,w.heap.size<=z/\z∉[E,G,r1])->∀z∈B,z∉[r1]:=λhB z u hm=>(hB z u).2 (by rw[zE.1 hm];simp);have aN:∀z∈[r1],z∈List.range w.heap.size++E::G::r1::(Bk++I):=λz u=>by rw[zE.1 u];simp
 have:=kk (false,sk,dR,J) (Bk++([]++I)) ⟨false,mt k (c-1) (b.drop (c*4)),[],y8 c b⟩ w5 (λ_=>rfl)
  (qve (pv:=[]) (T:=List.range w.heap.size++E::G::r1::(Bk++I)) rfl ⟨qqT _ (hB.drop _),λ_ h=>(nomatch h),qqV _ _⟩ (au.j0 f5 (ax nk)) ek (.nil _ _ _) rfl (C.j0 f5 (ax ni)) (λz u=>⟨λh=>(nomatch h),af z u⟩) (λ_ h=>nomatch h)
   (gk.j0 f5 aN λz u=>.inl u) (λ_ h=>nomatch h) λz u=>by simp only[xK,zD,zG] at u⊢;rcases u with u|u|u<;>simp[*]) h5.fr (λz u=>by
   rw[xK] at u;rcases zD.1 u with u|u;exact (nk z u).1;exact (ni z u).1)
 rw[yA aD] at this;exact this
end
end
section
def qtW(h:ft b)(E:2<=b.length):bits .or .i64 (wrap .i64 (wrap .i64 (b.getD 0 0)*2^8)) (wrap .i64 (b.getD 1 0))=(gw b:Int)/\gw b<=65535:=by have u:0<=b.getD 0 0/\b.getD 0 0<256:=h _ (yG (getD_some (l:=b) (n:=0) oK));have C:0<=b.getD 1 0/\b.getD 1 0<256:=h _ (yG (getD_some (l:=b) (n:=1) oK));unfold gw;generalize b.getD 0 0=x at u⊢;generalize b.getD 1 0=y at C⊢;rw[gu x oK,gu y oK,gu (x*2^8) oK,qs7 8 oK oK oK oK oK];omega
def qoq(h:(eG k v).1≠0):1<=k/\k<=24/\v<=108:=by unfold eG at h;split at h;exact absurd rfl h;omega
def qzR(h:(eG k v).1=0\/b.length<2\/b.length>500):jw kind b k v=(jr,2):=by unfold jw;rw[iP h]
def qyl(h:¬((eG k v).1=0\/b.length<2\/b.length>500)):jw 3 b k v=if (b.drop 2).length=gw b*(k+v)/\gx (oV k v b) k v then (oV k v b,0) else (jr,2):=by unfold jw;rw[iN h];by_cases h2:(b.drop 2).length=gw b*(k+v)/\gx (oV k v b) k v;rw[iP ⟨rfl,h2⟩,iP h2];rw[iN λh=>h2 h.2,iN h2,iN λh=>absurd h.1 oN]
def qwA(h:¬((eG k v).1=0\/b.length<2\/b.length>500)):jw 4 b k v=if (1<=gw b/\(b.drop 2).length=gw b*4+(gw b-1)*k)/\gx (mB k b) k v then (mB k b,0) else (jr,2):=by unfold jw;rw[iN h,iN λh=>absurd h.1 oN];by_cases h2:(1<=gw b/\(b.drop 2).length=gw b*4+(gw b-1)*k)/\gx (mB k b) k v;rw[iP ⟨rfl,h2.1.1,h2.1.2,h2.2⟩,iP h2];rw[iN λh=>h2 ⟨⟨h.2.1,h.2.2.1⟩,h.2.2.2⟩,iN h2]
def qyk(u:kind≠3)(C:kind≠4):jw kind b k v=(jr,2):=by unfold jw;split;rfl;rw[iN λh=>u h.1,iN λh=>C h.1]
section
variable {w:Kj} {s:Sl} {b:Kt}
def I7{K:lJ×Int->WP}(hb:eK [] w s b)(hB:ft b)(kk:∀x B w',fU (List.range w.heap.size++B) w' x (jw kind b k v).1 B->Fr [] w w'->(∀c∈B,w.heap.size<=c)->K (x,(jw kind b k v).2) w'): cW 128 [.b kind,s.v,.i k,.i v] [.agg eJ,.one .i] w K:=by
 refine qs1 ?_;have af:=hb.1;refine oB (oF [] w) λr1 w1 e1 f1 h=>Ia λw4 f4=>?_;have h:=h.q8 f4;refine je (λd w'=>d=decide ((eG k v).1=0\/b.length<2\/b.length>500)/\w'=w4) ?_ ?_;dsimp only;refine eV (λC=>⟨?_,rfl⟩) λC=>eV (λc2=>⟨?_,rfl⟩) λc2=>⟨?_,rfl⟩;have C:=yQ.1 C;exact Gx (.inl oK);have c2:=zC c2;exact Gx (.inr (.inl oK));have C:=zR.1 C;have c2:=zB c2;rw[JQ,yO,yO];constructor;intro h;exact .inr (.inr oK);rintro (h|h|h);omega;omega;omega;rintro d aG ⟨rfl,rfl⟩;have ar:∀ {w'},jw kind b k v=(jr,2)->ed [] w w' [(r1,.c (fE gp) ND)]->
   st (dm r1) ([Value.bool false,Value.slice none 0 0,Value.slice none 0 0,Value.slice none 0 0]) w' λau=>dT (eJ) (dm r1) au λaH=>K ((aH,2)) au:=λhe h=>by
  refine oE h 0 rfl (fE gp) λw2 h f2=>Kq h 0 rfl gp ?_;have:=kk gp [] w2 (by rw[he];exact .zero _ _) h.fr (λ_ h=>nomatch h);rw[he] at this;exact this
 refine eV (λu=>ar (qzR (zC u)) h) λu=>?_;have U:=zB u;have av:(eG k v).1≠0:=λe=>U (.inl e);have h2:2<=b.length/\b.length<=500:=by refine⟨?_,?_⟩;exact Nat.not_lt.1 λe=>U (.inr (.inl e));exact Nat.not_lt.1 λe=>U (.inr (.inr e))
 obtain⟨aW,aX,aY⟩:=qoq av;obtain⟨aw,aZ⟩:=qtW hB h2.1;have ax:=(hb.q8 h.fr).q8 (Fr.refl [] aG).drew;refine eK.at ax 0 rfl (getD_some oK)<|eK.at ax 1 rfl (getD_some oK) ?_;rw[aw];have h:=h.drew;refine oB h λad ah a0 a1 h=>?_;have ai:=fq (h.at (i:=0) rfl);have ay:=fq (h.at (i:=1) rfl);dsimp only at ai ay;have ag:=hb.q8 h.fr;have az:=h.fr.size;refine je (λO w'=>∃x B n,ed [] w w' [(ad,.c (fE x) ND),(r1,.c (fE gp) ND)]/\fU (List.range ah.heap.size++B) w' x n B/\(∀c∈B,ah.heap.size<=c)/\
   O=decide ((kind=3/\(b.drop 2).length=gw b*(k+v))\/(kind=4/\1<=gw b/\(b.drop 2).length=gw b*4+(gw b-1)*k))/\
   (O=true->n=if kind=3 then oV k v b else mB k b)) ?_ ?_
 refine eV (λR=>?_) λR=>eV (λc4=>?_) λc4=>?_;have R:=yQ.1 R;refine eE.part (S:=[]) ag (lo:=some 2) (hi:=none) 2 b.length rfl (by rw[xY,af]) h2.1 (zM _) λaJ _ I _=>?_;rw[vB] at I;refine qAZ I (hB.drop 2) (by rw[yC];omega) oK oK oK λx B n aK hn hN al J=>?_;have am:=h.q8 al;refine oE am 0 rfl (fE x) λaL an ao=>?_;have V:∀c∈B,c∉[ad]:=λc u hm=>by have:=J c u;rw[zE.1 hm] at this;omega
 refine⟨x,B,n,an,hN.j0 ao V (λc u=>.inl (by rw[zE.1 u];simp[ai])) λc u=>.inl u,J,?_,λE=>?_⟩;rw[JQ,yO,yO];constructor;intro Q;exact .inl ⟨R,Q⟩;rintro (Q|Q);exact Q.2;have:=Q.1;omega;rw[iP R];exact hn (zC E);have R:=zR.1 R;have c4:=yQ.1 c4;refine eE.part (S:=[]) ag (lo:=some 2) (hi:=none) 2 b.length rfl (by rw[xY,af]) h2.1 (zM _) λaJ _ I _=>?_;rw[vB] at I;refine qxI I (hB.drop 2) (by rw[yC];omega) oK oK λx B n aK hn hN al J=>?_;have am:=h.q8 al;refine oE am 0 rfl (fE x) λaL an ao=>?_;have V:∀c∈B,c∉[ad]:=λc u hm=>by have:=J c u;rw[zE.1 hm] at this;omega
 refine⟨x,B,n,an,hN.j0 ao V (λc u=>.inl (by rw[zE.1 u];simp[ai])) λc u=>.inl u,J,?_,λE=>?_⟩;rw[JQ,yO,yO];constructor;intro Q;exact .inr ⟨c4,Q⟩;rintro (Q|Q);exact absurd Q.1 R;exact Q.2;rw[iN R];exact hn (zC E);have R:=zR.1 R;have c4:=zR.1 c4;refine⟨gp,[],jr,h,.zero _ _,λ_ h=>(nomatch h),?_,λE=>nomatch E⟩;rw[zU];rintro (Q|Q);exact R Q.1;exact c4 Q.1;rintro O aM ⟨x,B,n,h,hN,J,aa,hn⟩;have aB:O=true->n.J5.length<=1000000/\n.J9.length<=1000000/\n.J8.length<=1000000:=λE=>by
  rw[hn E];split;have:=E4 (k:=k) (v:=v) (gw b) (b.drop 2);unfold oV;dsimp only;rw[this.1,this.2];simp;omega;unfold mB;dsimp only;rw[Ht,Ih];simp;omega
 refine je (λd w'=>d = !(O&&decide (gx n k v))/\ed [] w w' [(ad,.c (fE x) ND),(r1,.c (fE gp) ND)]/\fU (List.range ah.heap.size++B) w' x n B) ?_ ?_;apply eV<;>intro C;have C:O=false:=(oQ C);exact⟨by rw[C];rfl,h,hN⟩;have C:O=true:=(oQ C);obtain⟨q1,q2,q3⟩:=aB C;refine Kq h 0 rfl x ?_;have aN:eY [] aM x n:=hN.rd (λ_ _ h=>(nomatch h)) λ_ h=>nomatch h;exact qsd (x:=x) aN q1 q2 q3 λa5 aC=>⟨by rw[C,Bool.true_and],h.q8 aC,hN.q8 aC⟩;rintro d a6 ⟨rfl,h,hN⟩;have G:jw kind b k v=if (O&&decide (gx n k v))=true then (n,0) else (jr,2):=by
  by_cases k3:kind=3;subst k3;rw[qyl U];have e:O=decide ((b.drop 2).length=gw b*(k+v)):=(by rw[aa];exact decide_eq_decide.2 ⟨λh=>h.elim (·.2) λh=>absurd h.1 oN,λh=>.inl ⟨rfl,h⟩⟩);by_cases E:O=true;have ab:=hn E;rw[iP rfl] at ab;rw[ab,E,Bool.true_and];have hl:(b.drop 2).length=gw b*(k+v):=zC (e▸E);by_cases hr:gx (oV k v b) k v;rw[iP ⟨hl,hr⟩,iP (yA hr)];rw[iN λh=>hr h.2,iN (by rw[zU hr];decide)];have ac:O=false:=(oQ E);rw[ac,Bool.false_and,iN (show ¬(false=true) by decide)];have hl:¬(b.drop 2).length=gw b*(k+v):=zB (e▸ac);rw[iN λh=>hl h.1];by_cases k4:kind=4;subst k4;rw[qwA U];have e:O=decide (1<=gw b/\(b.drop 2).length=gw b*4+(gw b-1)*k):=(by rw[aa];exact decide_eq_decide.2 ⟨λh=>h.elim (λh=>absurd h.1 oN) (·.2),λh=>.inr ⟨rfl,h⟩⟩);by_cases E:O=true;have ab:=hn E;rw[iN k3] at ab;rw[ab,E,Bool.true_and];have hl:=zC (e▸E);by_cases hr:gx (mB k b) k v;rw[iP ⟨hl,hr⟩,iP (yA hr)];rw[iN λh=>hr h.2,iN (by rw[zU hr];decide)];have ac:O=false:=(oQ E);rw[ac,Bool.false_and,iN (show ¬(false=true) by decide)];have hl:=zB (e▸ac);rw[iN λh=>hl h.1];rw[qyk k3 k4];have E:O=false:=by rw[aa,zU];rintro (h|h);exact k3 h.1;exact k4 h.1
  rw[E,Bool.false_and,iN (show ¬(false=true) by decide)]
 have aO:∀c∈B,c∉[r1]:=λc u hm=>by have:=J c u;rw[zE.1 hm] at this;omega
 apply eV<;>intro C;refine ar ?_ (h.sub (Ka _ _));rw[G,iN (by rw[zT] at C;rw[C];decide)];rw[yF] at C;refine Kq h 0 rfl x<|oE h 1 rfl (fE x) λaP aD aQ=>Kq aD 1 rfl x ?_;rw[iP C] at G
 have:=kk x B aP (by rw[G];exact (hN.j0 aQ aO (λc u=>.inl (by rw[zE.1 u];simp[ay])) λc u=>.inl u).j6 λc u=>.inl (by rcases zD.1 u with u|u;exact zH _ (mem_range.2 (yE (mem_range.1 u) az));exact zI _ u)) aD.fr (λc u=>zL az (J c u));rw[G] at this;exact this
end
end
section
section
variable {D D':dV} {M:eZ} {y6 Q8:Kt} {t:Int} {ov:Bool}
end
end
end
section
open Go Go.Pt List
open Go.IntKind (wrap)
open Classical
attribute [local irreducible] ld dT iF pC kc fv st new idx kN kG fZ kJ jX nt ib nn call eF inv run fK i3 join loop held ext kC fl oW pD pG IntKind.wrap
end
section
open Go Go.Pt List
open Go.IntKind (wrap)
variable {db:Option Addr} {w:Kj}
def vr{cl:List Cell}{b off:Nat}{cs:Array Kk}{T:Kl}{h:KG}{K:HL cl->Prop}(u:w.heap[b]?=some (.cells cs T h))(x:HL cl)(C:(cs.toList.drop off).take cl.length=HL.mk cl x)(k:K x):Pt.dT cl (dm b off) w K:=
 ⟨x,vw u _ off 0 (by rw[HL.j3];exact C),k⟩
attribute [local irreducible] ld dT iF pC kc fv st new idx kN kG fZ kJ jX nt ib nn call eF inv run fK i3 join loop held ext kC fl oW pD pG IntKind.wrap
def qo.wy{w':Kj}{X:Kr}{pb:Nat}{M:eZ}{fb defb mb:Nat}{sl sn:Sl}{F1 F2:Kr}{C:List (Int×mH)}{Q1:Kt}(h:qo w X pb db M fb defb mb sl sn F1 F2 C)(E:Q1.length=24)(G:w'.heap[pb]?=some (.c (gR db M.j9 sl sn M.x5 M.Q2 fb defb mb Q1) uQ))(f:Fr [pb] w w'):qo w' X pb db { M with Q1:=Q1 } fb defb mb sl sn F1 F2 C where
 cell:=G
 Q0:=h.Q0.j0 f λb u=>by simpa using (h.sep.2.1 b u).1
 J6:=h.J6.j0 f λb u=>by simpa using (h.sep.2.2 b u).1
 map:=h.map.j0 f (by simpa using λe=>h.sep.1 e.symm)
 J7:=h.J7
 rows:=h.rows.j0 (f.mono λi I _=>by rw[zE.1 I];simp) λb u=>.inl u
 sh:=λb u=>yE (h.sh b u) f.size
 pr:=h.pr
 sep:=h.sep
 Q7:=h.Q7
 x6:=E
def qwu{j9:qZ}{sl sn:Sl}{x5:Int}{Q2:Bool}{fb defb mb:Nat}{Q1:Kt}(G:j9.2.length=27)(O:Q1.length=24){t:Nat}(Q:t<8){h r1 C:Int}: ef (gR db j9 sl sn x5 Q2 fb defb mb Q1) (36+3*t) [.u h,.u r1,.u C]=gR db j9 sl sn x5 Q2 fb defb mb (Q1.take (3*t)++[h,r1,C]++Q1.drop (3*t+3)):=by
 have E:Q1=Q1.take (3*t)++(Q1.drop (3*t)).take 3++Q1.drop (3*t+3):=by rw[zV,<- xF,xG,xG]
 have:=vh (A:=(.pointer db::gh j9.1 j9.2)++pz sl sn x5 Q2 fb defb mb++(Q1.take (3*t)).map (Value.int .u32)) (X:=((Q1.drop (3*t)).take 3).map (Value.int .u32)) (Y:=[.u h,.u r1,.u C]) (Z:=(Q1.drop (3*t+3)).map (Value.int .u32)) (by rw[zK,yM,yC];show min 3 _=3;omega);have I:((.pointer db::gh j9.1 j9.2)++pz sl sn x5 Q2 fb defb mb++(Q1.take (3*t)).map (Value.int .u32)).length=36+3*t:=(by rw[zF,zF,uO G,zK,yM];show 29+7+_=_;omega);rw[I] at this;unfold gR;have J:Q1.map (Value.int .u32)=(Q1.take (3*t)).map (Value.int .u32)++((Q1.drop (3*t)).take 3).map (Value.int .u32)++(Q1.drop (3*t+3)).map (Value.int .u32):=(by rw[<- xP,<- xP,<- E]);rw[J];simp only[xP,xQ,map_nil];simp only[zV] at this⊢;exact this
section
variable {w:Kj} {X:Kr} {pb:Nat} {db:Option Addr} {F:Kr} {M:eZ}
def qtR{t E r1 G:Int}{K:Int->WP}(h:gd w X pb db F M)(hk:∀w',gd w' X pb db F (fO M t E r1 G).2->Fr F w w'->K (fO M t E r1 G).1 w'): cW 155 [dQ pb,.i t,.agg #[.u E,.u r1,.u G]] dq w K:=by
 have h0:=h;obtain⟨fb,defb,mb,sl,sn,F1,F2,fs,rfl,J⟩:=h;refine qh1 ?_;have I:∀ {e:Int} {w':Kj},fO M t E r1 G=(e,M)->Fr [] w w'->K e w':=by
  intro e w' he hf;have:=hk w' (by rw[he];exact h0.q8 hf) (hf.mono λb O=>by cases O);rw[he] at this;exact this
 refine oB (oF [] w) λr w1 e1 f1 ho=>?_;have Q:=J.q8 f1;refine gX (jG Q.cell M.Q2 (DG J.Q7) ?_);refine eV (λC=>I (by rw[fO,iP C]) f1) λC=>?_;have R:¬M.Q2=true:=(by rw[C];decide);refine je (λb w'=>b=decide (t<0\/t>7)/\w'=w1) ?_ ?_;refine eV (λC=>⟨by rw[yA (Or.inl (zC C))],rfl⟩) (λC=>?_);have:=zB C;refine⟨decide_eq_decide.2 ⟨λh=>.inr oK,λh=>oK⟩,rfl⟩;rintro b w2 ⟨rfl,rfl⟩;refine eV (λC=>I (by rw[fO,iN R,iP (zC C)]) f1) λC=>?_;have hr:=zB C;obtain⟨n,rfl⟩:∃n:Nat,t=n:=⟨t.toNat,oK⟩;have ab:n<8:=oK;have U:fO M n E r1 G=(0,{ M with Q1:=M.Q1.take (3*n)++[E,r1,G]++M.Q1.drop (3*n+3) }):=(by rw[fO,iN R,iN hr,zJ]);have ac:=ho.drew;have V:=Q.q8 (Fr.refl [] w2).drew;refine Kq ac 0 rfl (E,r1,G)<|gX<|mE oK ?_;simp only[Addr.j1,zJ];refine tU V.cell (gR db M.j9 sl sn M.x5 M.Q2 fb defb mb (M.Q1.take (3*n)++[E,r1,G]++M.Q1.drop (3*n+3))) (by show ef _ (0+33+3+n*3) _=_;rw[show 0+33+3+n*3=36+3*n by omega];exact qwu J.Q7 J.x6 ab) rfl (by rw[qvi J.Q7,J.x6];exact zL (show 0+33+3+n*3+3<=60 by omega) (zM 60)) λw3 ad f3=>?_;have hl:(M.Q1.take (3*n)++[E,r1,G]++M.Q1.drop (3*n+3)).length=24:=by
  have:=J.x6;simp only[zF,yM,yC,yJ,xM];omega
 have:=hk w3 (by rw[U];exact⟨fb,defb,mb,sl,sn,F1,F2,fs,rfl,V.wy hl ad f3⟩) ((f1.drew.mono λb O=>nomatch O).trans (f3.mono λb O _=>by rw[zE.1 O];simp));rw[U] at this;exact this
def eU (M:eZ) (t:Int):KH:=if t<0\/t>7 then (0,0,0) else (M.Q1.getD (3*t.toNat) 0,M.Q1.getD (3*t.toNat+1) 0,M.Q1.getD (3*t.toNat+2) 0)
def qyS{t:Int}{K:KH->WP}(h:gd w X pb db F M)(Q:∀w',Fr [] w w'->K (eU M t) w'): cW 85 [dQ pb,.i t] [.agg [.u,.u,.u]] w K:=by
 obtain⟨fb,defb,mb,sl,sn,F1,F2,fs,rfl,I⟩:=h;refine qkv<|oB (oF [] w) λr w1 e1 U R=>?_;have J:=I.q8 U;refine je (λb w'=>b=decide (t<0\/t>7)/\w'=w1) ?_ ?_;refine eV (λE=>⟨by rw[yA (Or.inl (zC E))],rfl⟩) (λE=>?_)
 have:=zB E;refine⟨decide_eq_decide.2 ⟨λh=>.inr oK,λh=>oK⟩,rfl⟩;rintro b w2 ⟨rfl,rfl⟩;apply cD<;>intro E;refine oE R 0 rfl #[.u 0,.u 0,.u 0] λO C V=>Kq C 0 rfl (0,0,0) ?_;have:=Q O C.fr;rw[eU,iP (E)] at this;exact this;have hr:=E;obtain⟨n,rfl⟩:∃n:Nat,t=n:=⟨t.toNat,oK⟩;have ab:n<8:=oK;have ac:=I.x6;refine gX<|mE oK ?_;simp only[Addr.j1,zJ];have e3:((M.Q1.map (Value.int .u32)).drop (3*n)).take 3=[.u (M.Q1.getD (3*n) 0),.u (M.Q1.getD (3*n+1) 0),.u (M.Q1.getD (3*n+2) 0)]:=by rw[zY (by rw[zK];omega),zY (by rw[zK];omega),zY (by rw[zK];omega)];simp only[take_succ_cons,take_zero,getElem_map];rw[getElem_eq_getD 0,getElem_eq_getD 0,getElem_eq_getD 0]
 refine vr J.cell (M.Q1.getD (3*n) 0,M.Q1.getD (3*n+1) 0,M.Q1.getD (3*n+2) 0) ?_ ?_;have hd:=qzJ (db:=db) (j9:=M.j9) (sl:=sl) (sn:=sn) (x5:=M.x5) (Q2:=M.Q2) (fb:=fb) (defb:=defb) (mb:=mb) (Q1:=M.Q1) I.Q7 I.x6;have G:(gR db M.j9 sl sn M.x5 M.Q2 fb defb mb M.Q1).toList.drop 36=M.Q1.map (Value.int .u32):=by
  rw[<- hd,zS];have:=qvi (db:=db) (j9:=M.j9) (sl:=sl) (sn:=sn) (x5:=M.x5) (Q2:=M.Q2) (fb:=fb) (defb:=defb) (mb:=mb) (Q1:=M.Q1) I.Q7;rw[yC,Ki];omega
 rw[show 0+33+3+n*3=36+3*n by omega,<- xF,G];exact e3;refine oE R 0 rfl #[.u (M.Q1.getD (3*n) 0),.u (M.Q1.getD (3*n+1) 0),.u (M.Q1.getD (3*n+2) 0)] λO C V=>Kq C 0 rfl (M.Q1.getD (3*n) 0,M.Q1.getD (3*n+1) 0,M.Q1.getD (3*n+2) 0) ?_;have:=Q O C.fr;rw[eU,iN hr,zJ] at this;exact this
end
def qw1{dbk pb:Nat}{X FD F:Kr}{D:dV}{M:eZ}{k:Nat}{n:Int}{K:KI->WP}(aa:fN w dbk FD D)(R:nM D k)(U:gd w X pb (tW dbk M) F M)(hv:Hv w)(hn:iX n)(hl:M.Q4.length<=1000000)(hb:∀e∈M.J7,e.2.2.length<=100000)(hk:∀s w',(∀G:Kr,(∀b∈G,b<w.heap.size)->eK G w' s (dS D M n).2.1)->Fr [] w w'->K ((dS D M n).1,s,(dS D M n).2.2) w'): cW 127 [dQ pb,.u n] dw w K:=by
 have ab:=U;obtain⟨fb,defb,mb,sl,sn,F1,F2,fs,rfl,V⟩:=U;refine qkt ?_;have ac:∀ {a:Int} {e:Int} {w':Kj},dS D M n=(a,[],e)->Fr [] w w'->K (a,dR,e) w':=λhe f=>by
  have:=hk dR _ (λG hG=>by rw[he];exact .nil _ _ _ _) f;rw[he] at this;exact this
 refine gX (jG V.cell M.Q2 (DG V.Q7) ?_);refine eV (λI=>ac (by rw[dS,iP I]) (.refl _ _)) λI=>?_;have J:¬M.Q2=true:=(by rw[I];decide);have an:tW dbk M=pW dbk:=iN J;refine gX ?_;simp only[Addr.j1];refine jG V.cell (some mb) (xi V.Q7) ?_;have h:look n M.J7=(look n fs).map λq=>(q.1,q.2.1,q.2.2.2):=(by rw[V.J7];exact A7 (λe:mH=>(e.1,e.2.2)) n fs);refine ET V.map.at (λq hq=>?_) λhq=>?_;rw[hq] at h;have h:look n M.J7=some (q.1,q.2.1,q.2.2.2):=h;refine oB (oF [] w) λr w1 e1 f1 ho=>oE ho 0 rfl #[.b q.2.1,q.2.2.1.v] λw2 Q f2=>?_;have O:=Q.drew;refine JJ rfl<|Ko O 0 rfl q.2.1<|Ko O 0 rfl q.2.2.1 ?_;have ap:=(vK hq).2;have aq:=V.rows.y9 _ ap;have af:=(vK h).2;refine CK (aq.q8 O.fr) (zL (hb _ af) oN) λs2 B2 w3 b2 f3 n2 _ _=>?_;have ag:=O.q8 f3;refine ja (ag.cell 0) ?_;have C:dS D M n=(q.2.1,q.2.2.2,0):=by rw[dS,iN J,h]
 have:=hk s2 w3 (λG hG=>by rw[C];exact fB.kZ mW b2 λb hb hm=>by have:=n2 b hb;have:=hG b hm;have:=O.fr.size;omega) ag.fr;rw[C] at this;exact this;rw[hq] at h;have h:look n M.J7=none:=h;refine oB (oF [] w) λr w1 e1 f1 ho=>oE ho 0 rfl #[.b 0,.slice none 0 0] λw2 Q f2=>JK rfl<|qr9 (ab.q8 Q.fr) hl λw3 f3=>?_;have E:=Q.fr.trans f3;have ah:=V.q8 E;apply eV<;>intro I;have hu:iy M n=false:=(oQ I);exact ac (by rw[dS,iN J,h];exact iP hu) E;have hu:¬iy M n=false:=(oQ I);rw[an] at ah;refine gX (jG ah.cell (pW dbk) qCy ?_);rw[gu n (by have:=hn.1;have:=hn.2;omega)];refine FW (aa.q8 E) R.ok λs5 B5 w5 b5 f5 n5=>?_;apply eV<;>intro I;have he:(eW D n).2≠0:=(oQ I);exact ac (by rw[dS,iN J,h];exact (iN hu).trans (iP he)) (E.trans f5);have he:¬(eW D n).2≠0:=(oQ I);have av:=zp R.ok n;refine I8 (b5.kZ mW (S:=[]) oM) (hv.q8 (E.trans f5)) av.1 oK λs6 B6 w6 b6 f6 n6=>?_;have C:dS D M n=fP n (eW D n).1:=by rw[dS,iN J,h];exact (iN hu).trans (iN he)
 have:=hk s6 w6 (λG hG=>by rw[C];exact fB.kZ mW b6 λb hb hm=>by have:=n6 b hb;have:=hG b hm;have:=(E.trans f5).size;omega) ((E.trans f5).trans f6);rw[C] at this;exact this
end
section
open Go Go.Pt List
open Go.IntKind (wrap)
def nM.new{n:Nat}(h:n<=4096):nM (py n) 0:=⟨qA8 h,by simp[py],by simp[py]⟩
def vj (n:Nat):Kt:=(gr n).take (gV (gr n).length)
def pQ (n:Nat):Kt:=(gr n).drop (gV (gr n).length)
def oU (n:Nat):eZ:=lE (lU n) (vj n) (pQ n) 1 false (pQ n)
def qA5{n:Nat}(h:8<=n)(u:n<=4096):(oU n).Wf:=by have e:(lU n).2.getD 0 0=n:=(by show wrap .u32 (n:Int)=_;exact nR _ oK);exact qy7 (by rw[e];exact qoD) (by rw[e];omega) (Jg h u).u32
structure Made (D:dV) (n:Nat):Prop where
 quiet:fL D
 size:D.size=n
 Q6:D.Q6=[]
 opens:rA D (lU n) (vj n) (pQ n)
 fmt:mU (py n)=(D,0)
 zero:view D 0=zs 512
end
section
open Go Go.Pt List
open Go.IntKind (wrap)
open Classical
variable {P:Kt} {t:Int}
def lV (t:Int) (s:Kx×eZ) (u h:Int):Int×eZ:=if s.1.2≠0 then (s.1.2,s.2) else fO s.2 t s.1.1 u h
noncomputable def uB (k v:Nat) (t:Int) (r:KH) (x:(Grown×Int)×eZ):Int×eZ:=
 if x.1.2≠0 then (x.1.2,x.2)
 else if x.1.1.Q9≠0 then lV t (ee k v x.2 0 ⟨false,[x.1.1.key],[],[x.1.1.x4,x.1.1.Q9]⟩) (if x.1.1.J7 then wrap .u32 (r.2.1+1) else r.2.1) (wrap .u32 (r.2.2+1))
 else fO x.2 t x.1.1.x4 (if x.1.1.J7 then wrap .u32 (r.2.1+1) else r.2.1) r.2.2
noncomputable def kW (D:dV) (k v:Nat) (t:Int) (key val:Key) (f:Nat) (M:eZ):Int×eZ:=
 if (eU M t).1=0 then lV t (ee k v M 0 (eP [(key,val)])) 1 1 else uB k v t (eU M t) (jb D k v key val f M (eU M t).1)
noncomputable def om (k v:Nat) (t:Int) (r:KH) (x:(dW×Int)×eZ):Int×eZ:=
 if x.1.2≠0 then (x.1.2,x.2)
 else if x.1.1.Q3=true/\x.1.1.J5.length=0 then (if (fX x.2 r.1).1≠0 then ((fX x.2 r.1).1,(fX x.2 r.1).2) else fO (fX x.2 r.1).2 t 0 0 0)
 else if x.1.1.Q3=false/\x.1.1.J8.length=1 then (if (fX x.2 r.1).1≠0 then ((fX x.2 r.1).1,(fX x.2 r.1).2) else fO (fX x.2 r.1).2 t (x.1.1.J8.getD 0 0) (wrap .u32 (r.2.1-1)) (wrap .u32 (r.2.2-1)))
 else lV t (ee k v x.2 r.1 x.1.1) (wrap .u32 (r.2.1-1)) r.2.2
noncomputable def mo (D:dV) (k v:Nat) (t:Int) (key:Key) (f:Nat) (M:eZ):Int×eZ:=om k v t (eU M t) (jf D k v key f M (eU M t).1)
def ig (D:dV) (M:eZ) (k v:Nat) (t:Int) (L:gJ) (P:Kt):Prop:=
 (eU M t=(0,0,0)/\L=[]/\P=[])\/∃h n p,p≠0/\eU M t=(p,(L.length:Int),((h+1:Nat):Int))/\Has D M k v h ⟨p,n,L,P⟩
structure sD (D:dV) (M M':eZ) (t:Int) (P P':Kt):Prop where
 step:Step D M { M' with Q1:=M.Q1 } P P'
 wf:M'.Wf
 len:M'.Q1.length=24
 others:∀ t':Int,t'≠t->eU M' t'=eU M t'
section
variable {D:dV} {M M':eZ} {k v:Nat}
def qzT{a b c:Int}(O:0<=t/\t<8)(G:M.Q2=false)(Q:M.Q1.length=24):∃R,fO M t a b c=(0,{ M with Q1:=R })/\R.length=24/\eU { M with Q1:=R } t=(a,b,c)/\(∀C:Int,C≠t->eU { M with Q1:=R } C=eU M C)/\∀x∈R,x∈M.Q1\/x=a\/x=b\/x=c:=by
 obtain⟨n,rfl⟩:∃n:Nat,t=n:=⟨t.toNat,oK⟩;have U:n<8:=oK;have e:fO M n a b c=(0,{ M with Q1:=M.Q1.take (3*n)++[a,b,c]++M.Q1.drop (3*n+3) }):=by rw[fO,iN (by rw[G];decide),iN,zJ]
 have I:(M.Q1.take (3*n)).length=3*n:=(by rw[yM];omega);have h:∀i,(M.Q1.take (3*n)++[a,b,c]++M.Q1.drop (3*n+3)).getD i 0=if i=3*n then a else if i=3*n+1 then b else if i=3*n+2 then c else M.Q1.getD i 0:=λi=>by rw[zV,yS];by_cases h1:i<3*n;rw[xA oK,xC,iP h1,iN,iN,iN,yS];rw[yZ oK,I];by_cases h2:i=3*n;rw[iP h2,h2,Nat.sub_self];rfl;rw[iN h2];by_cases h3:i=3*n+1;rw[iP h3,h3,show 3*n+1-3*n=1 by omega];rfl;rw[iN h3];by_cases h4:i=3*n+2;rw[iP h4,h4,show 3*n+2-3*n=2 by omega];rfl;rw[iN h4,yZ oP,xB,yS];congr 2;simp;omega
 refine⟨_,e,?_,?_,λC E=>?_,λx u=>?_⟩;simp only[zF,yM,yC,yJ,xM];omega;rw[eU,iN,zJ];dsimp only;rw[h,h,h,iP rfl,iN,iP rfl,iN,iN,iP rfl];unfold eU;by_cases hr':C<0\/C>7;rw[iP hr',iP hr'];rw[iN hr',iN hr'];dsimp only;have J:C.toNat≠n:=λe=>E oK;rw[h,h,h,iN,iN,iN,iN,iN,iN,iN,iN,iN];rcases zD.1 u with u|u;rcases zD.1 u with u|u;exact .inl (yW u);simp only[zG,xZ,or_false] at u;exact .inr u;exact .inl (yV u)
def qtL{R:Kt}(h:M.Wf)(u:∀x∈R,iX x):({ M with Q1:=R }:eZ).Wf:=⟨h.n4,h.u32,u,h.cN,h.Q8,h.cU,h.tF,h.nodup,h.range,h.body⟩
def Has.Q1{h:Nat}{s:jg}{R:Kt}(u:Has D M k v h s):Has D { M with Q1:=R } k v h s:=u.j0 λx _=>rfl
def Step.J4{P':Kt}{a b c:Int}(E:0<=t/\t<8)(G:M.Q1.length=24)(h:Step D M M' P P')(I:iX a)(J:iX b)(O:iX c): ∃R,fO M' t a b c=(0,{ M' with Q1:=R })/\sD D M { M' with Q1:=R } t P P'/\eU { M' with Q1:=R } t=(a,b,c):=by obtain⟨R,e,Q,U,V,h3⟩:=qzT (a:=a) (b:=b) (c:=c) E h.Q2 (by rw[h.Q1];exact G);refine⟨R,e,⟨?_,qtL h.wf λx hx=>?_,Q,λt' C=>?_⟩,U⟩;have e':({ M' with Q1:=M.Q1 }:eZ)=M':=(by rw[<- h.Q1]);show Step D M { M' with Q1:=M.Q1 } P P';rw[e'];exact h;rcases h3 x hx with u|u|u|u;exact h.wf.Q1 x u;rw[u];exact I;rw[u];exact J;rw[u];exact O;rw[V t' C];unfold eU;rw[h.Q1]
def Has.counts:∀ {h:Nat} {s:jg},Has D M k v h s->h+1<=s.y5.length/\s.y6.length+1<=2*s.y5.length
 | 0,s,C=>by have I:=length_pos_iff.2 C.ne;rw[C.1];simp;omega
 | h+1,s,⟨E,V,I,J,O,Q,h5,h6,R⟩=>by
  have U:=Q.right.x8.1;rw[J,O];have key:∀l:List iM,(∀e∈l,Has D M k v h e.2)->l.length*(h+1)<=(l.flatMap (·.2.y5)).length/\(l.flatMap (·.2.y6)).length+l.length<=2*(l.flatMap (·.2.y5)).length:=by
   intro l;induction l with
   | nil=>intro _;exact⟨oM,oM⟩
   | cons a l ih=>
    intro G;have i:=ih λe u=>G e (zN _ u);have j:=(G a oM).counts;rw[yI,yI,zF,zF,yJ,xW];omega
  have:=key E λe u=>(R e u).1;have h9:2*(h+1)<=E.length*(h+1):=JZ _ U;rw[yJ];omega
def qxO(hc:jc k v){key val:Key}{L:gJ}(ht:0<=t/\t<8)(hk:key.length=k/\ft key)(hv:val.length=v/\ft val)(hT:ig D M k v t L P)(hW:M.Wf)(ho:M.Q2=false)(hr:M.Q1.length=24)(hn:P.Nodup)(hL:L.length<=1000000)(hf:2*(eU M t).2.2.toNat+1<=M.Q0.length): ∃M' P',kW D k v t key val (eU M t).2.2.toNat M=(0,M')/\ig D M' k v t (gI key val L) P'/\sD D M M' t P P'/\M.Q0.length<=M'.Q0.length+(2*(eU M t).2.2.toNat+1):=by
 have aY:=D3 (k:=k) (v:=v);rcases hT with ⟨e0,rfl,rfl⟩|⟨h,n,p,aJ,er,hs⟩;unfold kW;rw[e0,iP rfl];have aK:nX k v [(key,val)]:=λx hx=>by rw[zE.1 hx];exact⟨hk.1,hv.1,hk.2,hv.2⟩
 have hN:=CV (k:=k) (v:=v) aK (pairwise_singleton _ _) oM (by have:=hc.Q3;simp;omega);obtain⟨q,M1,e1,st,ae,hl,af⟩:=Hu (D:=D) hW ho hN (λe=>by rw[e] at hf;simp at hf);have hu:=st.has q oM;have hq:=wN st.wf hu;obtain⟨R,e2,rs,C⟩:=st.J4 (a:=q) (b:=1) (c:=1) ht hr ⟨oK,hq.2⟩ ⟨oN,oN⟩ ⟨oN,oN⟩;refine⟨{ M1 with Q1:=R },[q],?_,.inr ⟨0,1,q,af,C,?_⟩,rs,by show M.Q0.length<=M1.Q0.length+_;omega⟩;unfold lV;rw[e1];dsimp only;rw[iN λh=>h rfl,e2];have:=C0 hN ae;exact this.Q1;rw[er] at hf;have an:(((h+1:Nat):Int)).toNat=h+1:=zJ _;dsimp only at hf;rw[an] at hf;have ao:=hs.counts;dsimp only at ao;obtain⟨g,M1,eg,ok⟩:=qvn hc hk hv h M ⟨p,n,L,P⟩ hs hW ho hn (by
  have h9:=hs.load;obtain⟨N,R,_,hN,_⟩:=h9;show n<=1000;cases h with
  | zero=>have:=hN.2.2.2.2.2;dsimp only at this;omega
  | succ h=>obtain⟨_,_,_,_,_,_,_,_,h8,_⟩:=hN;dsimp only at h8;omega) oK
 have ap:=ok.Q0;have E:=ok.J7;dsimp only at eg E;have u:((gI key val L).length:Int)=if g.J7 then wrap .u32 ((L.length:Int)+1) else (L.length:Int):=by rw[E];by_cases hm:key∈eh L;rw[zU λh=>h hm,iN oN,E3 hs.sort hm];rw[yA hm,iP rfl,EM hm,nR _ oK];omega
 have aq:iX (if g.J7 then wrap .u32 ((L.length:Int)+1) else (L.length:Int)):=by
  rw[<- u];have h1:(gI key val L).length<=L.length+1:=by by_cases hm:key∈eh L;rw[E3 (show fT L from hs.sort) hm];omega;rw[EM hm];exact zM _
  exact⟨oK,oK⟩
 unfold kW;rw[er,iN (show ¬p=0 from aJ)];dsimp only;rw[an,eg];unfold uB;dsimp only;rw[iN λh=>h rfl];rcases ok.Fi with ⟨ah,n',P',hH,st,_⟩|⟨ah,n1,Q,I,n2,J,G,U,V,ar,aP,aQ,au,av,aR,aT,st⟩;rw[iN λh=>h ah];have hu:=hH.J3 st.Q2 g.x4 hH.mem;have hq:=wN st.wf hu;obtain⟨R,e2,rs,C⟩:=st.J4 (a:=g.x4) (b:=if g.J7 then wrap .u32 ((L.length:Int)+1) else (L.length:Int)) (c:=((h+1:Nat):Int)) ht hr ⟨oK,hq.2⟩ aq ⟨oK,oK⟩;rw[<- u] at C e2;refine⟨{ M1 with Q1:=R },P',?_,.inr ⟨h,n',g.x4,oK,C,hH.Q1⟩,rs,by show M.Q0.length<=M1.Q0.length+_;omega⟩;rw[<- u];exact e2;rw[iP ah];have a4:=wN st.wf (U.J3 st.Q2 g.x4 U.mem);have a5:=wN st.wf (V.J3 st.Q2 g.Q9 V.mem);have aw:Q≠[]:=U.ne;have ax:J≠[]:=V.ne;have ad:gF [([],(⟨g.x4,n1,Q,I⟩:jg)),(g.key,⟨g.Q9,n2,J,G⟩)]:=
  (gF.A9 (A:=[]) (B:=[]) (lo:=[]) (s:=⟨0,0,Q++J,[]⟩) (s1:=⟨g.x4,n1,Q,I⟩) (s2:=⟨g.Q9,n2,J,G⟩) (m:=g.key) (Ha λx _=>Eb _) rfl aP aQ aw ax)
 have hp:∀e∈[([],(⟨g.x4,n1,Q,I⟩:jg)),(g.key,⟨g.Q9,n2,J,G⟩)],Has D M1 k v h e.2/\minOf k v h<=e.2.size:=λe O=>by simp only[zG,xZ,or_false] at O;rcases O with rfl|rfl;exact⟨U,aR⟩;exact⟨V,aT⟩
 have aU:iz k [([],(⟨g.x4,n1,Q,I⟩:jg)),(g.key,⟨g.Q9,n2,J,G⟩)]:=λe O=>by rw[zE.1 (show e∈[(g.key,(⟨g.Q9,n2,J,G⟩:jg))] from O)];exact⟨au,av⟩
 have hN:=Cw st.wf st.Q2 aU ad oM (by have:=hc.inner;simp;omega) λe O=>(hp e O).1;obtain⟨q,M2,e1,aa,ae,a6,af⟩:=Hu (D:=D) st.wf st.Q2 hN (λe=>by rw[e] at ap;simp at ap;omega);have az:∀e∈[([],(⟨g.x4,n1,Q,I⟩:jg)),(g.key,⟨g.Q9,n2,J,G⟩)],Has D M2 k v h e.2/\minOf k v h<=e.2.size:=λe O=>
  ⟨(hp e O).1.j0 λx hx=>(aa.rest x ((hp e O).1.J3 st.Q2 x hx) oM).1,(hp e O).2⟩
 have hI:=BT (h:=h) rfl hN ae ad az;have aA:Step D M1 M2 (I++G) (q::(I++G)):=by
  have:=aa.beside (Z:=I++G) st.has (oQ st.nodup);exact this.perm oM perm_append_comm
 have aB:=st.trans aA;have hq:=wN aa.wf (aa.has q oM);obtain⟨R,e2,rs,C⟩:=aB.J4 (a:=q) (b:=if g.J7 then wrap .u32 ((L.length:Int)+1) else (L.length:Int)) (c:=((h+1+1:Nat):Int)) ht hr ⟨oK,hq.2⟩ aq ⟨oK,oK⟩;have e3:ee k v M1 0 ⟨false,[g.key],[],[g.x4,g.Q9]⟩=((q,0),M2):=e1;have aV:wrap .u32 ((((h+1:Nat):Int))+1)=((h+1+1:Nat):Int):=(by rw[nR _ oK];omega);rw[<- u] at C e2;refine⟨{ M2 with Q1:=R },q::(I++G),?_,.inr ⟨h+1,2,q,af,C,?_⟩,rs,by show M.Q0.length<=M2.Q0.length+_;omega⟩;unfold lV;rw[e3,aV,<- u];dsimp only;rw[iN λh=>h rfl,e2];have h9:=hI.Q1 (R:=R);have e5:[([],(⟨g.x4,n1,Q,I⟩:jg)),(g.key,⟨g.Q9,n2,J,G⟩)].flatMap (·.2.y5)=gI key val L:=(by rw[<- ar];simp);have e6:[([],(⟨g.x4,n1,Q,I⟩:jg)),(g.key,⟨g.Q9,n2,J,G⟩)].flatMap (·.2.y6)=I++G:=oM;rw[e5,e6] at h9;exact h9
def qyn(hc:jc k v){key:Key}{L:gJ}(ht:0<=t/\t<8)(hT:ig D M k v t L P)(I:key∈eh L)(hW:M.Wf)(ho:M.Q2=false)(hr:M.Q1.length=24)(hn:P.Nodup)(hL:L.length<=1000000)(hf:2*(eU M t).2.2.toNat+1<=M.Q0.length): ∃M' P',mo D k v t key (eU M t).2.2.toNat M=(0,M')/\ig D M' k v t (ir key L) P'/\sD D M M' t P P'/\M.Q0.length<=M'.Q0.length+(2*(eU M t).2.2.toNat+1):=by
 rcases hT with ⟨e0,rfl,rfl⟩|⟨h,n,p,a0,er,hs⟩;cases I;rw[er] at hf;have ap:(((h+1:Nat):Int)).toNat=h+1:=zJ _;dsimp only at hf;rw[ap] at hf;have aq:=hs.counts;dsimp only at aq;obtain⟨N,m,M1,R,R',ec,hP,hN,st,aG,a1⟩:=I5 hc h M ⟨p,n,L,P⟩ hs hW ho hn I oK;dsimp only at ec hP;subst hP;have G:=hs.sort;dsimp only at G;have aU:(ir key L).length+1=L.length:=by
  have hm:=(AJ G).2 I;have hi:dY (eh L) key<L.length:=by
   have:=(zP.1 hm).1;simpa using this
  rw[qow G I,zF,yM,yC];omega
 have aH:wrap .u32 ((L.length:Int)-1)=((ir key L).length:Int):=(by rw[nR _ oK];omega);have ai:iX ((ir key L).length:Int):=⟨oK,oK⟩;have aj:eH M p:=hs.J3 ho p oM;have ar:p∉R:=(nodup_cons.1 hn).1;have J:=(st.rest p aj ar).2.1;have O:=(st.rest p aj ar).2.2;have ak:Step D M M1 (p::R) (p::R'):=st.beside (Z:=[p]) (λx hx=>by rw[zE.1 hx];exact aj) (oQ hn);unfold mo;rw[er];dsimp only;rw[ap,ec];unfold om;dsimp only;rw[iN λh=>h rfl,aH];have af:∀ {a b c:Int},iX a->iX b->iX c->∃u U,fX M1 p=(0,u)/\fO u t a b c=(0,{ u with Q1:=U })/\sD D M { u with Q1:=U } t (p::R) R'/\eU { u with Q1:=U } t=(a,b,c)/\M1.Q0.length<=u.Q0.length/\∀x∈R',dS D u x=dS D M1 x:=λha hb aI=>by
  obtain⟨u,e2,C,V⟩:=qqE (D:=D) st.wf st.Q2 J;have h9:=C.beside (Z:=R') (λx hx=>st.has x hx) (by
   have:=ak.nodup;exact (JM p R').nodup_iff.2 this)
  rw[xJ] at h9;have h8:=(ak.perm (.refl _) (JM p R').symm).trans h9;obtain⟨U,e3,rs,E⟩:=h8.J4 (t:=t) ht hr ha hb aI;exact⟨u,U,e2,e3,rs,E,V,λx hx=>(C.rest x (st.has x hx) λhm=>O (by rw[<- zE.1 hm];exact hx)).1⟩
 cases h with
 | zero=>
  have al:=hN;have aJ:R=[]:=(vE (show p::R=[p] from hs.1)).2;subst aJ;obtain⟨rfl,hm,rfl,a5,aK,au⟩:=hN;dsimp only at hm;have aa:(eP (ir key L)).J5.length=(ir key L).length:=zK _;by_cases hz:(ir key L).length=0;rw[iP ⟨rfl,by rw[aa];exact hz⟩];have av:ir key L=[]:=JV hz;obtain⟨u,U,e2,e3,rs,E,V,_⟩:=af (a:=0) (b:=0) (c:=0) ⟨oN,oN⟩ ⟨oN,oN⟩ ⟨oN,oN⟩;rw[e2];dsimp only;rw[iN λh=>h rfl,e3];exact⟨_,[],rfl,.inl ⟨E,av,rfl⟩,rs,by show M.Q0.length<=u.Q0.length+_;omega⟩;rw[iN (λh=>hz (by rw[<- aa];exact h.2)),iN λh=>nomatch h.1];obtain⟨q,u,e2,C,H2,V⟩:=al.store st.wf st.Q2 (show 1<=m by omega) J O oK;have am:Step D M u [p] [q]:=ak.trans C;have hq:=wN C.wf (C.has q oM);obtain⟨U,e3,rs,E⟩:=am.J4 (a:=q) (b:=((ir key L).length:Int)) (c:=((0+1:Nat):Int)) ht hr ⟨oK,hq.2⟩ ai ⟨oN,oN⟩;refine⟨{ u with Q1:=U },[q],?_,.inr ⟨0,m,q,oK,E,H2.Q1⟩,rs,by show M.Q0.length<=u.Q0.length+_;omega⟩;unfold lV;rw[e2];dsimp only;rw[iN λh=>h rfl,e3]
 | succ h=>
  have al:=hN;obtain⟨es,hh,rfl,hm,aM,rfl,hk,aK,au,hp⟩:=hN;have aa:(dX es).J8.length=es.length:=(by show (es.map _).length=_;rw[zK]);have aW:2<=n:=by
   obtain⟨a7,_,g1,_,_,g4,_⟩:=hs;have:=g4.right.x8;dsimp only at g1;omega
  dsimp only at aG;rw[iN λh=>nomatch h.1];by_cases h1:es.length=1;rw[iP ⟨rfl,by rw[aa];exact h1⟩];obtain⟨e,rfl⟩:∃e,es=[e]:=by
   match es,h1 with
   | [e],_=>exact⟨e,rfl⟩
  have ax:(dX [e]).J8.getD 0 0=e.2.x4:=rfl;rw[ax];have he:=(hp e oM).1;have hq:=wN st.wf (he.J3 st.Q2 e.2.x4 he.mem);have aO:wrap .u32 ((((h+1+1:Nat):Int))-1)=((h+1:Nat):Int):=(by rw[nR _ oK];omega);rw[aO];obtain⟨u,U,e2,e3,rs,E,V,aP⟩:=af (a:=e.2.x4) (b:=((ir key L).length:Int)) (c:=((h+1:Nat):Int)) ⟨oK,hq.2⟩ ai ⟨oK,oK⟩;rw[e2];dsimp only;rw[iN λh=>h rfl,e3];have ay:ir key L=e.2.y5:=(by rw[aM];simp);have az:[e].flatMap (·.2.y6)=e.2.y6:=oM;refine⟨_,_,rfl,.inr ⟨h,e.2.size,e.2.x4,oK,E,?_⟩,rs,by show M.Q0.length<=u.Q0.length+_;omega⟩;rw[ay,az];exact (he.j0 λx hx=>aP x (by rw[az];exact hx)).Q1;rw[iN λh=>h1 (by rw[<- aa];exact h.2)];have h2:2<=m:=oK;obtain⟨q,u,e2,C,H2,V⟩:=al.store st.wf st.Q2 (show 2<=m from h2) J O oK;have am:Step D M u (p::R) ([q]++es.flatMap (·.2.y6)):=Step.kid (Q:=[q]) (hs.J3 ho) hn st C;have hq:=wN C.wf (C.has q oM);obtain⟨U,e3,rs,E⟩:=am.J4 (a:=q) (b:=((ir key L).length:Int)) (c:=((h+1+1:Nat):Int)) ht hr ⟨oK,hq.2⟩ ai ⟨oK,oK⟩;refine⟨{ u with Q1:=U },[q]++es.flatMap (·.2.y6),?_,.inr ⟨h+1,m,q,oK,E,H2.Q1⟩,rs,by show M.Q0.length<=u.Q0.length+_;omega⟩;unfold lV;rw[e2];dsimp only;rw[iN λh=>h rfl,e3]
end
section
def qhK{D:dV}{M:eZ}{k v:Nat}{L:gJ}(C:ig D M k v t L P):(eU M t).2.2.toNat<=L.length/\P.length<=2*L.length/\(eU M t).2.1=L.length/\0<=(eU M t).2.2:=by
 rcases C with ⟨u,rfl,rfl⟩|⟨h,n,p,G,u,E⟩;rw[u];exact⟨zM _,zM _,rfl,Int.le_refl _⟩;have:=E.counts;dsimp only at this;rw[u];dsimp only;rw[zJ];omega
def ig.sort{D:dV}{M:eZ}{k v:Nat}{t:Int}{L:gJ}{P:Kt}(C:ig D M k v t L P):fT L/\nX k v L:=by rcases C with ⟨_,rfl,_⟩|⟨h,n,p,G,I,u⟩;exact⟨.nil,λx E=>nomatch E⟩;exact⟨u.sort,u.As⟩
def qBj(h:C7 t):∃k v:Nat,uL t=((k:Int),(v:Int))/\jc k v/\1<=k/\k<=24/\1<=v/\v<=108:=by obtain⟨u,C⟩:=h;have:t=0\/t=1\/t=2\/t=3\/t=4\/t=5\/t=6\/t=7:=oK;rcases this with rfl|rfl|rfl|rfl|rfl|rfl|rfl|rfl;exact⟨16,88,rfl,⟨oN,oN⟩,oN,oN,oN,oN⟩;exact⟨16,108,rfl,⟨oN,oN⟩,oN,oN,oN,oN⟩;exact⟨16,1,rfl,⟨oN,oN⟩,oN,oN,oN,oN⟩;exact⟨16,16,rfl,⟨oN,oN⟩,oN,oN,oN,oN⟩;exact⟨24,16,rfl,⟨oN,oN⟩,oN,oN,oN,oN⟩;exact⟨24,16,rfl,⟨oN,oN⟩,oN,oN,oN,oN⟩;exact⟨24,65,rfl,⟨oN,oN⟩,oN,oN,oN,oN⟩;exact⟨1,8,rfl,⟨oN,oN⟩,oN,oN,oN,oN⟩
structure BD (D:dV) (M:eZ) (k v c:Nat) (t:Int) (L:gJ) (P:Kt):Prop where
 J1:ig D M k v t L P
 wf:M.Wf
 Q2:M.Q2=false
 len:M.Q1.length=24
 nodup:P.Nodup
 Q8:M.x9
 many:M.Q8.length=c
 use:∀ x,eH M x->x∈P
section
variable {D:dV} {M M':eZ} {k v c:Nat} {t:Int} {L L':gJ} {P P':Kt}
end
def qyz{D:dV}{n k v:Nat}(U:0<=t/\t<8)(V:8<=n)(h4:n<=4096)(O:(oU n).Wf):BD D (oU n) k v ((n-2)-gV (n-2)) t [] []:=by
 have I:(oU n).Q1=zs 24:=rfl;have u:(zs 24).length=24:=(by simp[zs]);have E:∀i,(zs 24).getD i 0=0:=λi=>by rw[yS];unfold zs;rw[List.getElem?_replicate];split<;>rfl
 refine⟨.inl ⟨?_,rfl,rfl⟩,O,rfl,by rw[I];exact u,.nil,qtS _ _ _ _ _,?_,λx C=>?_⟩;unfold eU;split;rfl;rw[I,E,E,E];show (pQ n).length=_;unfold pQ;rw[yC,EF];rcases C with C|C;cases C;obtain⟨Q,J,R,G,h5,_⟩:=ur.1 C;have e:(oU n).j9.2.getD 0 0=n:=(by show wrap .u32 (n:Int)=_;exact nR _ oK);rw[e] at J;have h:=Gm.2 ⟨Q,J⟩;rw[<- xG (gV (gr n).length) (gr n)] at h;rcases zD.1 h with h|h;exact absurd h R;exact absurd h G
end
section
section
variable {D:dV} {M M':eZ} {k v c:Nat} {t:Int} {L L':gJ} {P P':Kt}
def Has.tV(J:4<=(eG k v).1):∀ {h:Nat} {s:jg},Has D M k v h s->minOf k v h<=s.size->s.y6.length+1<=s.y5.length
 | 0,s,E,G=>by have I:(eG k v).1 / 2<=s.size:=G;rw[E.2.1] at I;rw[E.1,xO];omega
 | h+1,s,⟨O,h0,I,Q,R,u,h5,h6,U⟩,G=>by
  have h8:=u.right.x8.1;rw[Q,R];have key:∀l:List iM,(∀e∈l,Has D M k v h e.2/\minOf k v h<=e.2.size)->(l.flatMap (·.2.y6)).length+l.length<=(l.flatMap (·.2.y5)).length:=by
   intro l;induction l with
   | nil=>intro _;simp
   | cons a l ih=>
    intro C;have i:=ih λe V=>C e (zN _ V);have j:=Has.tV J (C a oM).1 (C a oM).2;rw[yI,yI,zF,zF,yJ];omega
  have:=key O U;rw[yJ];omega
def Has.cS(G:4<=(eG k v).1){h:Nat}{s:jg}(u:Has D M k v h s):s.y6.length<=s.y5.length:=by
 cases h with
 | zero=>
  have:=length_pos_iff.2 u.ne;rw[u.1,xO];omega
 | succ h=>
  obtain⟨I,U,V,J,O,C,h5,h6,Q⟩:=u;have h8:=C.right.x8.1;rw[J,O];have key:∀l:List iM,(∀e∈l,Has D M k v h e.2/\minOf k v h<=e.2.size)->(l.flatMap (·.2.y6)).length+l.length<=(l.flatMap (·.2.y5)).length:=by
   intro l;induction l with
   | nil=>intro _;simp
   | cons a l ih=>
    intro E;have i:=ih λe R=>E e (zN _ R);have j:=Has.tV G (E a oM).1 (E a oM).2;rw[yI,yI,zF,zF,yJ];omega
  have:=key I Q;rw[yJ];omega
def ig.cS(u:4<=(eG k v).1)(C:ig D M k v t L P):P.length<=L.length:=by rcases C with ⟨E,rfl,rfl⟩|⟨h,n,p,I,E,G⟩;exact zM _;exact G.cS u
end
end
section
section
variable {D D':dV} {M M':eZ} {k v:Nat} {t:Int} {L:gJ} {P:Kt}
def Has.cI:∀ {h:Nat} {s:jg},Has D M k v h s->(∀x∈s.y6,dS D' M' x=dS D M x)->Has D' M' k v h s
 | 0,s,⟨C,G,u,I⟩,E=>⟨C,G,u,by rw[E s.x4 (by rw[C];simp)];exact I⟩
 | h+1,s,⟨Q,R,C,G,u,I,U,V,O⟩,E=>⟨Q,R,C,G,u,I,by rw[E s.x4 (by rw[u];simp)];exact U,V,λe J=>⟨(O e J).1.cI λx hx=>E x (by rw[u];exact zN _ (yL.2 ⟨e,J,hx⟩)),(O e J).2⟩⟩
structure Calm (D:dV) (M:eZ) (b q:Nat):Prop where
 quiet:fL D
 Q6:D.Q6=[]
 size:D.size=b
 blocks:M.j9.2.getD 0 0=b
 b8:8<=b
 wf:M.Wf
 Q8:M.x9
 Q2:M.Q2=false
 len:M.Q1.length=24
 seq:0<=M.j9.1/\M.j9.1<=q
 x5:0<=M.x5/\M.x5<=q
structure Kept (D:dV) (M:eZ) (D':dV) (M':eZ):Prop where
 Q1:M'.Q1=M.Q1
 use:∀ x,eH M' x↔eH M x
 read:∀ x,eH M x->dS D' M' x=dS D M x
end
end
end
section
open Go Go.Pt List
open Go.IntKind (wrap)
attribute [local irreducible] ld dT iF pC kc fv st new idx kN kG fZ kJ jX nt ib nn call eF inv run fK i3 join loop held ext kC fl oW pD pG IntKind.wrap
variable {F':Kr} {K:Int->WP} {body:Kt}
structure TW (dbk pb:Nat) (FD:Kr) (D:dV) (j:Nat) (w:Kj) (Y F:Kr) (M:eZ):Prop where
 cP:fN w dbk FD D
 lim:nM D j
 x7:gd w (FD++HG::Y) pb (tW dbk M) F M
 hv:Hv w
 wf:M.Wf
 sep:∀ b∈Y,b∉FD/\b≠HG
abbrev Zo (FD Y F:Kr):Kr:=(FD++HG::Y)++F
section
variable {dbk pb j:Nat} {FD Y Y' F:Kr} {D:dV} {w w':Kj} {M:eZ}
def TW.q8(h:TW dbk pb FD D j w Y F M)(f:Fr [] w w'):TW dbk pb FD D j w' Y F M:=⟨h.cP.q8 f,h.lim,h.x7.q8 f,h.hv.q8 f,h.wf,h.sep⟩
def TW.tA(h:TW dbk pb FD D j w Y F M):∀b∈Y,b<w.heap.size:=λb u=>h.x7.sh b (by simp[u])
def TW.Aj(h:TW dbk pb FD D j w Y F M):∀b∈Zo FD Y F,b<w.heap.size:=λb u=>(zD.1 u).elim (h.x7.sh b) (h.x7.lt b)
def TW.yf(h:TW dbk pb FD D j w Y F M):∀b∈Y,b∉F:=λb u=>h.x7.sep b (by simp[u])
def TW.cO(h:TW dbk pb FD D j w Y F M)(f:Fr Y w w')(J:∀b∈Y',b<w'.heap.size)(G:∀b∈Y',b∈Y\/w.heap.size<=b):TW dbk pb FD D j w' Y' F M where
 cP:=h.cP.j0 f λb u E=>(h.sep b E).1 u
 lim:=h.lim
 x7:=h.x7.AT (f.mono λb u _=>by simp[u]) (λb u=>by
  rcases zD.1 u with u|u;exact yE (h.cP.lt b u) f.size;rcases zG.1 u with rfl|u;exact yE h.hv.lt f.size;exact J b u) λb u=>by
  rcases zD.1 u with u|u;exact .inl (zH _ u);rcases zG.1 u with rfl|u;exact .inl oM;rcases G b u with C|C;exact .inl (by simp[C]);exact .inr C
 hv:=h.hv.j0 f λE=>(h.sep _ E).2 rfl
 wf:=h.wf
 sep:=λb u=>by rcases G b u with C|C;exact h.sep b C;exact⟨λI=>by have:=h.cP.lt b I;omega,λI=>by have:=h.hv.lt;omega⟩
def TW.y0(h:TW dbk pb FD D j w Y F M)(C:∀b∈Y',b∈Y):TW dbk pb FD D j w Y' F M:=h.cO (.refl _ _) (λb u=>h.tA b (C b u)) λb u=>.inl (C b u)
def TW.A5{B:Kr}{w0:Kj}(h:TW dbk pb FD D j w0 Y F M)(f:Fr Y w0 w)(C:∀b∈B,w0.heap.size<=b/\b<w.heap.size):TW dbk pb FD D j w (B++Y) F M:=
 h.cO f (λb u=>(zD.1 u).elim (λu=>(C b u).2) λu=>yE (h.tA b u) f.size) λb u=>(zD.1 u).elim (λu=>.inr (C b u).1) .inl
def qxY(M:eZ)(kd:Int)(b:Kt):(ic M kd b).2.Q2=M.Q2:=by unfold ic;split;rfl;split;rfl;split<;>rfl
def qzN(M:eZ)(n kd:Int)(b:Kt):(kz M n kd b).2.Q2=M.Q2:=by unfold kz;split;rfl;split;rfl;split<;>rfl
def qxq(M:eZ)(n:Int):(fX M n).2.Q2=M.Q2:=by unfold fX;split;rfl;split;rfl;split<;>rfl
def qyq(M:eZ)(t a b c:Int):(fO M t a b c).2.Q2=M.Q2:=by unfold fO;split;rfl;split<;>rfl
def qxm{M M':eZ}(h:M'.Q2=M.Q2):tW dbk M'=tW dbk M:=by unfold tW;rw[h]
def TW.next{M':eZ}(h:TW dbk pb FD D j w Y F M)(u:M'.Q2=M.Q2)(C:M'.Wf)(E:gd w' (FD++HG::Y) pb (tW dbk M) F' M')(f:Fr F w w'):TW dbk pb FD D j w' Y F' M' where
 cP:=h.cP.j0 f λb G=>h.x7.sep b (zH _ G)
 lim:=h.lim
 x7:=by rw[qxm u];exact E
 hv:=h.hv.j0 f (h.x7.sep HG oM)
 wf:=C
 sep:=h.sep
def TW.make{kind:Int}{s:Sl}{K:Kx->WP}(h:TW dbk pb FD D j w Y F M)(C:eK (Zo FD Y F) w s body)(E:body.length<=100000)(G:0<=kind/\kind<256)(I:ft body)(J:∀F' w',TW dbk pb FD D j w' Y F' (ic M kind body).2->Fr F w w'->(∀b∈F',b∈F\/w.heap.size<=b)->K (ic M kind body).1 w'): cW 185 [dQ pb,.b kind,s.v] dB w K:=
 qyQ h.x7 C E (by have:=h.wf.all;omega) λF' w' O f Q=>J F' w' (h.next (qxY M kind body) (qvc h.wf G I).1 O f) f Q
def TW.put{n kind:Int}{s:Sl}(h:TW dbk pb FD D j w Y F M)(C:eK (Zo FD Y F) w s body)(E:body.length<=100000)(G:0<=kind/\kind<256)(I:ft body)(J:∀w',TW dbk pb FD D j w' Y F (kz M n kind body).2->Fr F w w'->K (kz M n kind body).1 w'): cW 184 [dQ pb,.u n,.b kind,s.v] dq w K:=
 qAo h.x7 C E λw' O f=>J w' (h.next (qzN M n kind body) (qyd h.wf G I).1 O f) f
def TW.drop{n:Int}(h:TW dbk pb FD D j w Y F M)(C:∀F' w',TW dbk pb FD D j w' Y F' (fX M n).2->Fr F w w'->(∀b∈F',b∈F\/w.heap.size<=b)->K (fX M n).1 w'): cW 186 [dQ pb,.u n] dq w K:=
 qyO h.x7 (by have:=h.wf.all;omega) (by have:=h.wf.all;omega) (by have:=h.wf.all;omega) λF' w' E f G=>C F' w' (h.next (qxq M n) (quT h.wf) E f) f G
def TW.read{n:Int}{K:KI->WP}(h:TW dbk pb FD D j w Y F M)(C:iX n)(E:∀s w',(∀G:Kr,(∀b∈G,b<w.heap.size)->eK G w' s (dS D M n).2.1)->Fr [] w w'->K ((dS D M n).1,s,(dS D M n).2.2) w'): cW 127 [dQ pb,.u n] dw w K:=
 qw1 h.cP h.lim h.x7 h.hv C (by have:=h.wf.all;omega) (λe I=>zL (h.wf.body e I).2.1 oN) E
def TW.J4{t:Int}{K:KH->WP}(h:TW dbk pb FD D j w Y F M)(C:∀w',Fr [] w w'->K (eU M t) w'): cW 85 [dQ pb,.i t] [.agg [.u,.u,.u]] w K:=qyS h.x7 C
def qwK{t a b c:Int}(u:M.Wf)(C:iX a)(E:iX b)(G:iX c):(fO M t a b c).2.Wf:=by unfold fO;split;exact u;split;exact u;refine qtL u λx h=>?_;simp only[zD,zG,xZ,or_false] at h;rcases h with (h|rfl|rfl|rfl)|h;exact u.Q1 x (yW h);exact C;exact E;exact G;exact u.Q1 x (yV h)
def TW.tg{t a b c:Int}(h:TW dbk pb FD D j w Y F M)(C:iX a)(E:iX b)(G:iX c)(I:∀w',TW dbk pb FD D j w' Y F (fO M t a b c).2->Fr F w w'->K (fO M t a b c).1 w'): cW 155 [dQ pb,.i t,.agg #[.u a,.u b,.u c]] dq w K:=
 qtR h.x7 λw' J f=>I w' (h.next (qyq M t a b c) (qwK h.wf C E G) J f) f
def TW.room(h:TW dbk pb FD D j w Y F M)(u:K M.Q0.length w):cW 151 [dQ pb] dq w K:=qyR h.x7 u
def TW.xu(h:∀b∈F',b∈F\/w.heap.size<=b):∀b∈Zo FD Y F',b∈Zo FD Y F\/w.heap.size<=b:=CI h
def Gn(h:M.Wf)(t:Int):iX (eU M t).1/\iX (eU M t).2.1/\iX (eU M t).2.2:=by
 have key:∀n,iX (M.Q1.getD n 0):=λn=>by
  rw[yS];cases e:M.Q1[n]? with
  | none=>exact⟨oN,oN⟩
  | some x=>exact h.Q1 x (yG e)
 unfold eU;split;exact⟨⟨oN,oN⟩,⟨oN,oN⟩,⟨oN,oN⟩⟩;exact⟨key _,key _,key _⟩
end
end
section
open Go Go.Pt List
open Go.IntKind (wrap)
open Classical
attribute [local irreducible] ld dT iF pC kc fv st new idx kN kG fZ kJ jX nt ib nn call eF inv run fK i3 join loop held ext kC fl oW pD pG IntKind.wrap
variable {K:Sl->WP} {S T Z:Kr} {b:Kt} {hi p:Int} {i k v:Nat} {l:Key} {n:dW} {ps:rP} {s src:Sl} {w:Kj} {x:lJ}
abbrev Ic:=KA
def lf (k v pb:Nat) (t:Int):Ic:=((k:Int),(v:Int),((eG k v).1:Int),((eG k v).2:Int),pW pb,t)
def qc (x:Ic):Array Kk:=#[.i x.1,.i x.2.1,.i x.2.2.1,.i x.2.2.2.1,.pointer x.2.2.2.2.1,.i x.2.2.2.2.2]
abbrev WK:Kl:=167
def Ef (k v:Nat):KJ:=((k:Int),(v:Int),((eG k v).1:Int),((eG k v).2:Int))
def Ik (k v:Nat):Array Kk:=#[.i k,.i v,.i (eG k v).1,.i (eG k v).2]
section
variable {S:Kr} {w:Kj} {x:lJ} {n:dW} {k v:Nat}
structure qC (x:lJ) (n:dW):Prop where
 Q3:x.1=n.Q3
 J5:x.2.1.len=n.J5.length
 J9:x.2.2.1.len=n.J9.length
 J8:x.2.2.2.len=n.J8.length
def eY.lens(h:eY S w x n):qC x n:=by obtain⟨u,_,⟨pk,C,E⟩,⟨pv,G,I⟩,J⟩:=h;exact⟨u,by rw[C.len,<- E,zK],by rw[G.len,<- I,zK],J.1⟩
def G8{K:Kx->WP}(h:qC x n)(C:∀w',Fr [] w w'->K (((fJ n k v).1:Int),((fJ n k v).2:Int)) w'): cW 218 [.agg (Ik k v),.agg (fE x)] dA w K:=by refine qlP<|oB (oF [] w) λr1 w1 e1 I G=>oB G λr3 w2 J O G=>Ko G 0 rfl x.1 ?_;unfold fJ at C;have u:=G.drew;apply eV<;>intro E;rw[h.Q3] at E;rw[iP E] at C;refine Ko u 0 rfl x.2.1<|Ko u 1 rfl ((eG k v).1:Int) ?_;rw[h.J5];exact C _ u.fr;rw[h.Q3] at E;rw[iN (by rw[E];decide)] at C;refine Ko u 0 rfl x.2.2.2<|Ko u 1 rfl ((eG k v).2:Int) ?_;rw[h.J8];exact C _ u.fr
def qqM{n:dW}:wrap .i64 (Int.tdiv ((fJ n k v).2:Int) 2)=(((fJ n k v).2 / 2:Nat):Int):=by have h:=D3 (k:=k) (v:=v);have u:(fJ n k v).2<=498:=(by unfold fJ;split<;>omega);rw[JX oK,gu _ oK];rfl
def qBN{K:Bool->WP}(h:qC x n)(C:∀w',Fr [] w w'->K (decide (qR n k v)) w'): cW 223 [.agg (Ik k v),.agg (fE x)] dr w K:=by refine qmJ<|oB (oF [] w) λr1 w1 e1 I u=>oB u λr3 w2 J O u=>Kq u 1 rfl (Ef k v)<|Kq u 0 rfl x<|G8 (k:=k) (v:=v) h λE G=>?_;dsimp only;rw[qqM];have e:decide (((fJ n k v).1:Int)<(((fJ n k v).2 / 2:Nat):Int))=decide (qR n k v):=decide_eq_decide.2 (by unfold qR;omega);rw[e];exact C E (u.fr.trans G)
def qzY{K:Bool->WP}(h:qC x n)(C:∀w',Fr [] w w'->K (decide (jQ n k v)) w'): cW 242 [.agg (Ik k v),.agg (fE x)] dr w K:=by refine qkz<|oB (oF [] w) λr1 w1 e1 I u=>oB u λr3 w2 J O u=>Kq u 1 rfl (Ef k v)<|Kq u 0 rfl x<|G8 (k:=k) (v:=v) h λE G=>?_;dsimp only;rw[qqM];have e:decide (((fJ n k v).1:Int)>(((fJ n k v).2 / 2:Nat):Int))=decide (jQ n k v):=decide_eq_decide.2 (by unfold jQ;omega);rw[e];exact C E (u.fr.trans G)
end
def GL{t:Int}{ks:Sl}{pb:Nat}{K:Ic×Int->WP}(G:uL t=((k:Int),(v:Int)))(I:k=0->∀x w',Fr [] w w'->K (x,4) w')(J:k≠0->ks.len≠k->∀x w',Fr [] w w'->K (x,1) w')(O:k≠0->ks.len=k->∀w',Fr [] w w'->K (lf k v pb t,0) w'): cW 84 [dQ pb,.i t,ks.v] [.agg jF,.one .i] w K:=by
 refine qrV<|oB (oF [] w) λr1 w1 e1 Q h=>qsf ?_;rw[G];apply eV<;>intro C;have C:((k:Nat):Int)=0:=yQ.1 C;exact oE h 0 rfl (qc (0,0,0,0,none,0)) λw2 h E=>Kq h 0 rfl (0,0,0,0,none,0)<|I oK _ _ h.fr;have C:¬((k:Nat):Int)=0:=zR.1 C;apply eV<;>intro u;have u:¬((ks.len:Int)=(k:Int)):=zR.1 (oQ u);exact oE h 0 rfl (qc (0,0,0,0,none,0)) λw2 h E=>Kq h 0 rfl (0,0,0,0,none,0)<|J oK oK _ _ h.fr;have u:(ks.len:Int)=(k:Int):=by rw[yF] at u;exact yQ.1 u
 refine Ia λw2 E=>?_;have h:=h.q8 E;exact oE h 0 rfl (qc (lf k v pb t)) λR h U=>Kq h 0 rfl (lf k v pb t)<|O oK oK _ h.fr
section
variable {dbk pb j:Nat} {FD Y F:Kr} {D:dV} {w:Kj} {M:eZ} {k v:Nat} {t:Int}
def DI{K:lJ×Int->WP}(h:TW dbk pb FD D j w Y F M)(hp:iX p)(O:∀x B w',TW dbk pb FD D j w' (B++Y) F M->fU (Zo FD (B++Y) F) w' x (dU D M k v p).1 B->Fr [] w w'->(∀c∈B,w.heap.size<=c)->K (x,(dU D M k v p).2) w'): cW 86 [.agg (qc (lf k v pb t)),.u p] [.agg eJ,.one .i] w K:=by
 refine qmM<|oB (oF [] w) λr1 w1 e1 f1 E=>oB E λr3 w2 e2 f2 E=>Ko E 1 rfl (pW pb) ?_;have h2:=h.q8 E.fr;refine TW.read h2 hp λs w7 hs f7=>?_;have E:=E.q8 f7;have ac:=hs [] λ_ h=>nomatch h;have hB:ft (dS D M p).2.1:=qiA h.lim.ok (λe he=>(h.wf.body e he).2.2) p;unfold dU at O;apply eV<;>intro C;have ae:(dS D M p).2.2≠0:=λe=>by dsimp only at C;rw[e] at C;exact absurd C oN
 rw[iP ae] at O;exact oE E 0 rfl (fE gp) λw8 E f8=>Kq E 0 rfl gp<|O gp [] w8 (h.q8 E.fr) (.zero _ _) E.fr λ_ h=>nomatch h;have he:¬(dS D M p).2.2≠0:=λe=>by dsimp only at C;rw[yF,yQ] at C;exact e C
 rw[iN he] at O;refine Ko E 1 rfl (k:Int)<|Ko E 1 rfl (v:Int)<|I7 (k:=k) (v:=v) ac hB λx B ao hN af J=>?_;have Q:=E.q8 af;have R:=fq (E.at (i:=0) rfl);dsimp only at R;have hr:∀c∈B,c∉[r3]:=λc C hm=>by have:=J c C;rw[zE.1 hm] at this;omega
 refine oE Q 0 rfl (fE x) λU G ag=>Kq G 0 rfl x ?_;have I:=hN.j0 ag hr (λc C=>.inl (by rw[zE.1 C];simp[R])) λc C=>.inl C;have au:=h.q8 G.fr;have V:=E.fr.size;have aa:TW dbk pb FD D j U (B++Y) F M:=h.A5 (G.fr.mono λ_ h=>nomatch h) λb hb=>⟨zL V (J b hb),I.lt b hb⟩;refine O x B U aa (I.j6 λc C=>.inl ?_) G.fr λc C=>zL V (J c C);have zl:=h.Aj;rcases zD.1 C with C|C;rcases zD.1 C with C|C;have:=zl c (by simp[C]);simp;omega;rcases zG.1 C with C|C;have:=zl c (by simp[C]);simp;omega;rcases zD.1 C with C|C;simp[C];have:=zl c (by simp[C]);simp;omega;have:=zl c (by simp[C]);simp;omega
def qwx{kd:Int}{n:Int}(h:(kz M n kd b).1=10):(kz M n kd b).2=M:=by unfold kz at h⊢;split;rfl;rename_i u;rw[iN u] at h;split;rfl;rename_i q C;rw[C] at h;dsimp only at h;split;rfl;rename_i E;rw[iN E] at h;cases h
def yj{K:Kx->WP}(h:TW dbk pb FD D j w Y F M)(hx:eY (Zo FD Y F) w x n)(h1:n.J5.length<=1000000)(h2:n.J9.length<=1000000)(h3:n.J8.length<=1000000)(U:∀F' w',TW dbk pb FD D j w' Y F' (ee k v M p n).2->Fr F w w'->(∀b∈F',b∈F\/w.heap.size<=b)->K (ee k v M p n).1 w'): cW 154 [.agg (qc (lf k v pb t)),.u p,.agg (fE x)] dB w K:=by
 refine qlR<|oB (oF [] w) λr1 w1 e1 f1 I=>oB I λr3 w2 e2 f2 I=>Kq I 0 rfl x<|Ko I 1 rfl (k:Int)<|Ko I 1 rfl (v:Int)<|qy0 (x:=x) (k:=k) (v:=v) (hx.q8 I.fr) h1 h2 h3 λs w9 hs f9=>?_;have I:=I.q8 f9;have h9:=h.q8 I.fr;have am:ft (fH n k v).2.1:=by unfold fH;split;exact qqv hx.2.1.1 hx.2.1.2.1;exact λ_ h=>nomatch h
 have an:0<=(fH n k v).1/\(fH n k v).1<256:=(by unfold fH jI;split;dsimp only;split<;>exact⟨oN,oN⟩;exact⟨oN,oN⟩);have ao:(fH n k v).2.1.length<=100000:=(by unfold fH;split;rename_i hr;have:=(EA hr).2;dsimp only;omega;exact yY _);unfold ee at U;apply eV<;>intro C;have aB:(fH n k v).2.2≠0:=λe=>by dsimp only at C;rw[e] at C;exact absurd C oN
 rw[iP aB] at U;exact U F w9 h9 (I.fr.mono λ_ h=>nomatch h) λb Q=>.inl Q;have he:¬(fH n k v).2.2≠0:=λe=>by dsimp only at C;rw[yF,yQ] at C;exact e C
 rw[iN he] at U;have aC:=fq (I.at (i:=1) rfl);dsimp only at aC;have ac:=h.Aj;have ae:r1∉F:=λhm=>by have:=ac r1 (by simp[hm]);omega
 have ap:w.heap.size<=r1:=oK;have aM:=I.fr.size;have ag:∀G:Kr,(∀b∈G,b<w.heap.size)->eK G w9 s (fH n k v).2.1:=λG hG=>hs G λb Q=>yE (hG b Q) (zL f1.size f2.size);have ah:ed F w w9 [(r1,.c (qc (lf k v pb t)) WK)]:=⟨λq hq=>by rw[zE.1 hq];exact I.at (i:=1) rfl,oM,I.fr.mono (λ_ h=>nomatch h),λq hq=>by rw[zE.1 hq];exact .inr ap⟩;generalize a0:(fH n k v).1=R at *;generalize a1:(fH n k v).2.1=J at *;refine je (λ_ w'=>(p=0\/(kz M p R J).1=10)/\TW dbk pb FD D j w' Y F M/\ed F w w' [(r1,.c (qc (lf k v pb t)) WK)]/\eK (Zo FD Y F) w' s J) ?_ ?_;apply eV<;>intro V;have V:p≠0:=by rw[zT] at V;exact zR.1 V
 refine Ko ah 0 rfl (pW pb)<|TW.put h9 (ag _ ac) ao an am λaD aj aq=>?_;have af:=ah.j0 aq (λi hi=>.inl hi) (λq hq=>by rw[zE.1 hq];exact ae);apply eV<;>intro E;have E:(kz M p R J).1≠10:=by rw[zT] at E;exact zR.1 E
 rw[iP ⟨V,E⟩] at U;exact U F aD aj af.fr λb Q=>.inl Q;have E:(kz M p R J).1=10:=by rw[yF] at E;exact yQ.1 E
 rw[qwx E] at aj;exact⟨.inr E,aj,af,(ag _ ac).j0 (aq.mono λb Q _=>by simp[Q]) λb Q=>.inl Q⟩;have V:p=0:=by rw[yF] at V;exact yQ.1 V
 exact⟨.inl V,h9,ah,ag _ ac⟩;rintro _ a2 ⟨V,aF,aa,ar⟩;rw[iN λhh=>V.elim hh.1 hh.2] at U;refine Ko aa 0 rfl (pW pb)<|TW.make aF ar ao an am λF' aG au aH aI=>?_;have O:=aa.j0 aH (λi hi=>.inl hi) (λq hq=>by rw[zE.1 hq];exact ae);have ak:=aa.fr.size;have ab:∀b∈F',b∈F\/w.heap.size<=b:=λb Q=>(aI b Q).imp id λh=>zL ak h;refine je (λe w'=>∃F2,e=(if (ic M R J).1.2=0/\p≠0 then (fX (ic M R J).2 p).1 else (ic M R J).1.2)/\TW dbk pb FD D j w' Y F2 (if (ic M R J).1.2=0/\p≠0 then (fX (ic M R J).2 p).2 else (ic M R J).2)/\Fr F w w'/\∀b∈F2,b∈F\/w.heap.size<=b) ?_ ?_;refine je (λd w'=>d=decide ((ic M R J).1.2=0/\p≠0)/\w'=aG) ?_ ?_;refine eV (λC=>⟨?_,rfl⟩) λC=>⟨?_,rfl⟩;have C:(ic M R J).1.2=0:=yQ.1 C;rw[JQ,yO,zT,zR];exact⟨λh=>⟨C,h⟩,λh=>h.2⟩;have C:¬(ic M R J).1.2=0:=zR.1 C;rw[zU λh=>C h.1];rintro d a3 ⟨rfl,rfl⟩;apply eV<;>intro C;have C:=zC C;rw[iP C,iP C];refine Ko O 0 rfl (pW pb)<|TW.drop au λF2 a4 aJ aK aL=>?_;have al:=O.fr.size;refine⟨F2,rfl,aJ,O.fr.j8 aK ab,λb Q=>?_⟩;rcases aL b Q with h|h;exact ab b h;exact .inr (zL al h);have C:=zB C;rw[iN C,iN C];exact⟨F',rfl,au,O.fr,ab⟩;rintro e av ⟨F2,rfl,ad,aw,ax⟩;by_cases C:(ic M R J).1.2=0/\p≠0;rw[iP C] at U ad⊢;exact U F2 av ad aw ax;rw[iN C] at U ad⊢;exact U F2 av ad aw ax
end
section
section
variable {S:Kr} {w:Kj} {s:Sl} {ps:rP}
def kD.tI(h:kD S w s ps)(b:Nat){K:Sl->Prop}(C:hi=b)(G:b<=ps.length)(I:∀u,kD S w u (ps.take b)->K u):fZ s none (some hi) (some hi) 1 K:=
 eE.Aq h.1 b C (by rw[zK];exact G) λu E=>I u ⟨by rw[<- xR] at E;exact E,λp J=>h.2 p (yW J)⟩
def kD.from(h:kD S w s ps){lo:Int}(a:Nat){K:Sl->Prop}(C:lo=a)(G:a<=ps.length)(I:∀u,kD S w u (ps.drop a)->K u):fZ s (some lo) none none 1 K:=
 eE.part h.1 a ps.length C (by rw[xY,h.len]) G (by rw[zK];exact zM _) λu _ E _=>I u ⟨by have e:(jt ps).take ps.length=jt ps:=zS (by rw[zK];exact zM _);rw[e,<- xS] at E;exact E,λp J=>h.2 p (yV J)⟩
def kD.upto(h:kD S w s ps)(b:Nat){K:Sl->Prop}(C:hi=b)(G:b<=ps.length)(I:∀u,kD S w u (ps.take b)->K u):fZ s none (some hi) none 1 K:=
 eE.part h.1 0 b rfl C (yY _) (by rw[zK];exact G) λu _ E _=>I u ⟨by rw[xH,<- xR] at E;exact E,λp J=>h.2 p (yW J)⟩
def B0(ps:rP)(b:Nat):ik (ps.take b)=(ik ps).take b:=xR
def AX(ps:rP)(b:Nat):ik (ps.drop b)=(ik ps).drop b:=xS
def A2{ps:rP}(hi:i<ps.length):(ik ps).getD i []=ps[i].2:=by rw[yS,zQ,zA hi];rfl
def eE.Ad{α:Type}{enc:α->List Kk}{l:List α}(h:eE enc 1 S w s l){lo:Int}(a:Nat){K:Sl->Prop}(C:lo=a)(G:a<=l.length)(I:∀u,eE enc 1 S w u (l.drop a)->K u):fZ s (some lo) none none 1 K:=
 eE.part h a l.length C (by rw[xY,h.1]) G (zM _) λu _ E _=>I u (by rw[vB] at E;exact E)
def eE.Dw{α:Type}{enc:α->List Kk}{l:List α}(h:eE enc 1 S w s l)(b:Nat){K:Sl->Prop}(C:hi=b)(G:b<=l.length)(I:∀u,eE enc 1 S w u (l.take b)->K u):fZ s none (some hi) none 1 K:=
 eE.part h 0 b rfl C (yY _) G λu _ E _=>I u (by rw[xH] at E;exact E)
end
section
variable {S:Kr} {w:Kj} {x:lJ} {n:dW} {k v:Nat}
def qK (n:dW) (mid:Nat):Prop:=if n.Q3 then mid<n.J5.length/\mid<=n.J9.length else 1<=mid/\mid<=n.J5.length/\mid<=n.J8.length
def qxD{mid:Nat}{K:lJ×lJ×Sl->WP}(hx:eY S w x n)(hm:qK n mid)(hl:mid<=1000000)(kk:∀xl xr ks w',eY S w' xl (eO n mid).1->eY S w' xr (eO n mid).2.1->eK S w' ks (eO n mid).2.2->Fr [] w w'->K (xl,xr,ks) w'): cW 219 [.agg (fE x),.i mid] [.agg eJ,.agg eJ,.one .slice] w K:=by
 have aF:=hx;obtain⟨h0,C,⟨pk,E,u⟩,⟨pv,aa,G⟩,O⟩:=hx;have l1:pk.length=n.J5.length:=(by rw[<- u,zK]);have l2:pv.length=n.J9.length:=(by rw[<- G,zK]);refine qqn ?_;have h:=oF [] w;refine oB h λr1 w2 _ f h=>oB h λr3 w4 _ f h=>oB h λr5 w6 _ f h=>?_;have h:=oG h;refine⟨?a,?b⟩;case' a=>
  refine Kq h 2 rfl x<|Kq h 2 rfl x<|oB h λr9 av _ f h=>kH (h.cells 3) (h.cells 3)<|oB h λaw ax _ f h=>kH (h.cells 4) (h.cells 4)<|oE h 1 rfl (fE x) λay h f=>ja (h.cells 4)<|oE h 0 rfl (fE x) λaz h f=>?_
 case' b=>
  refine Kq h 2 rfl x<|Kq h 2 rfl x<|oB h λaw av _ f h=>kH (h.cells 3) (h.cells 3)<|oB h λr9 ax _ f h=>kH (h.cells 4) (h.cells 4)<|oE h 0 rfl (fE x) λay h f=>ja (h.cells 4)<|oE h 1 rfl (fE x) λaz h f=>?_;have h:=Fw h (List.Perm.swap _ _ _)
 all_goals
  refine Ko h 4 rfl x.1 ?_;apply eV<;>intro hc;rw[h0] at hc;unfold qK at hm;rw[iP hc] at hm;have hH:eO n mid=({ n with J5:=n.J5.take mid,J9:=n.J9.take mid },{ n with J5:=n.J5.drop mid,J9:=n.J9.drop mid },n.J5.getD mid []):=(by unfold eO;rw[iP hc]);rw[hH] at kk;have h:=oG h;refine Ko h 4 rfl x.2.1<|kD.tI E mid rfl oK λQ ah=>Ko h 4 rfl x.2.2.1<|kD.tI aa mid rfl oK λab ai=>oE h 1 rfl (fE (x.1,Q,x.2.2.1,x.2.2.2)) λaG h f=>ja (h.cell 4)<|oE h 1 rfl (fE (x.1,Q,ab,x.2.2.2)) λaH h f=>?_;have h:=oG h;refine Ko h 4 rfl x.2.1<|kD.from E mid rfl oK λR aj=>Ko h 4 rfl x.2.2.1<|kD.from aa mid rfl oK λac ak=>oE h 0 rfl (fE (x.1,R,x.2.2.1,x.2.2.2)) λaI h f=>ja (h.cell 4)<|oE h 0 rfl (fE (x.1,R,ac,x.2.2.2)) λaJ h f=>?_;have h:=oG h;refine Kq h 1 rfl (x.1,Q,ab,x.2.2.2)<|Kq h 0 rfl (x.1,R,ac,x.2.2.2)<|Ko h 4 rfl x.2.1 ?_;have I:mid<pk.length:=oK;refine kD.get' (E.q8 h.fr) mid rfl I λaK J hh=>oE h 3 rfl (fE (x.1,Q,ab,x.2.2.2)) λaL h f=>nA (hh _ (E.q8 h.fr)) (h.cell 4) (h.cells 0)<|oE h 2 rfl (fE (x.1,R,ac,x.2.2.2)) λaB h f=>kH (hh _ (E.q8 h.fr)) (h.cell 4)<|Kq h 3 rfl (x.1,Q,ab,x.2.2.2)<|Kq h 2 rfl (x.1,R,ac,x.2.2.2)<|kk _ _ _ aB ⟨h0,⟨λa J=>C.1 a (yW J),λa J=>C.2.1 a (yW J),C.2.2⟩,⟨pk.take mid,ah.q8 h.fr,by rw[B0,u]⟩,⟨pv.take mid,ai.q8 h.fr,by rw[B0,G]⟩,O.q8 h.fr⟩
   ⟨h0,⟨λa J=>C.1 a (yV J),λa J=>C.2.1 a (yV J),C.2.2⟩,⟨pk.drop mid,aj.q8 h.fr,by rw[AX,u]⟩,⟨pv.drop mid,ak.q8 h.fr,by rw[AX,G]⟩,O.q8 h.fr⟩ ?_ h.fr
  rw[<- u,A2 I];exact (E.2 _ (zX I)).q8 h.fr;rw[h0] at hc;have am:¬n.Q3=true:=(by rw[hc];decide);unfold qK at hm;rw[iN am] at hm;have hH:eO n mid=({ n with J8:=n.J8.take mid,J5:=n.J5.take (mid-1) },{ n with J8:=n.J8.drop mid,J5:=n.J5.drop mid },n.J5.getD (mid-1) []):=(by unfold eO;rw[iN am]);rw[hH] at kk;have em:wrap .i64 ((mid:Int)-1)=((mid-1:Nat):Int):=(by rw[gu _ oK];omega);have h:=oG h;refine Ko h 4 rfl x.2.2.2<|eE.Aq O mid rfl oK λU an=>Ko h 4 rfl x.2.1<|kD.tI E (mid-1) em oK λad ao=>oE h 1 rfl (fE (x.1,x.2.1,x.2.2.1,U)) λaM h f=>ja (h.cell 4)<|oE h 1 rfl (fE (x.1,ad,x.2.2.1,U)) λaN h f=>?_;have h:=oG h;refine Ko h 4 rfl x.2.2.2<|eE.Ad O mid rfl oK λV ap=>Ko h 4 rfl x.2.1<|kD.from E mid rfl oK λae aq=>oE h 0 rfl (fE (x.1,x.2.1,x.2.2.1,V)) λaO h f=>ja (h.cell 4)<|oE h 0 rfl (fE (x.1,ae,x.2.2.1,V)) λaP h f=>?_;have h:=oG h;refine Kq h 1 rfl (x.1,ad,x.2.2.1,U)<|Kq h 0 rfl (x.1,ae,x.2.2.1,V)<|Ko h 4 rfl x.2.1 ?_;have I:mid-1<pk.length:=oK;refine kD.get' (E.q8 h.fr) (mid-1) em I λaQ J hh=>oE h 3 rfl (fE (x.1,ad,x.2.2.1,U)) λaR h f=>nA (hh _ (E.q8 h.fr)) (h.cell 4) (h.cells 0)<|oE h 2 rfl (fE (x.1,ae,x.2.2.1,V)) λaC h f=>kH (hh _ (E.q8 h.fr)) (h.cell 4)<|Kq h 3 rfl (x.1,ad,x.2.2.1,U)<|Kq h 2 rfl (x.1,ae,x.2.2.1,V)<|kk _ _ _ aC ⟨h0,⟨λa J=>C.1 a (yW J),C.2.1,λa J=>C.2.2 a (yW J)⟩,⟨pk.take (mid-1),ao.q8 h.fr,by rw[B0,u]⟩,⟨pv,aa.q8 h.fr,G⟩,an.q8 h.fr⟩
   ⟨h0,⟨λa J=>C.1 a (yV J),C.2.1,λa J=>C.2.2 a (yV J)⟩,⟨pk.drop mid,aq.q8 h.fr,by rw[AX,u]⟩,⟨pv,aa.q8 h.fr,G⟩,ap.q8 h.fr⟩ ?_ h.fr
  rw[<- u,A2 I];exact (E.2 _ (zX I)).q8 h.fr
end
end
section
structure Sg (S0:Kr) (w0 wa:Kj) (F T:Kr):Prop where
 sP:Fr S0 w0 wa
 new:∀ b∈F,b∈S0\/w0.heap.size<=b
 own:∀ b∈T,b∈S0\/w0.heap.size<=b
abbrev fY (L:Kz):Kr:=L.map (·.1)
section
variable {dbk pb j:Nat} {FD S0 Y Y0 F0 F F' T:Kr} {D:dV} {w0 wa w w':Kj} {M M':eZ} {L:Kz}
def Sg.start(F:Kr)(w:Kj):Sg F w w F []:=⟨.refl _ _,λb u=>.inl u,λ_ h=>nomatch h⟩
def Sg.fr(g:Sg S0 w0 wa F T)(h:ed T wa w L):Fr S0 w0 w:=g.sP.j8 h.fr g.own
def Sg.fY(g:Sg S0 w0 wa F T)(h:ed T wa w L):∀b∈fY L,b∈S0\/w0.heap.size<=b:=λb C=>by obtain⟨q,E,rfl⟩:=mem_map.1 C;rcases h.own q E with u|u;exact g.own _ u;exact .inr (zL g.sP.size u)
def Bb(h:ed T wa w L):∀b∈fY L,b<w.heap.size:=λb u=>by obtain⟨q,C,rfl⟩:=mem_map.1 u;exact fq (h.jz q C)
def TW.J0(C:TW dbk pb FD D j wa (T++Y) F M)(h:ed T wa w L):TW dbk pb FD D j w (fY L++Y) F M:=
 C.cO (h.fr.mono λb u _=>by simp[u]) (λb u=>(zD.1 u).elim (Bb h b) λu=>yE (C.tA b (by simp[u])) h.fr.size) λb u=>(zD.1 u).elim (λu=>by obtain⟨q,E,rfl⟩:=mem_map.1 u;exact (h.own q E).imp (λh=>zH _ h) id) λu=>.inl (zI _ u)
def TW.cH(u:TW dbk pb FD D j wa Y F M)(h:ed [] wa w L):TW dbk pb FD D j w (fY L++Y) F M:=TW.J0 (T:=[]) u h
def tv(h:ed T wa w L)(f:Fr S w w')(C:∀b∈fY L,b∉S):ed (fY L) w' w' L:=
 ⟨λq u=>by rw[f.block q.1 (fq (h.jz q u)) (C _ (zZ u))];exact h.jz q u,h.nodup,.refl _ _,λq u=>.inl (zZ u)⟩
def TW.own(u:TW dbk pb FD D j w (fY L++Y) F M)(h:ed T wa w L)(f:Fr F w w'):ed (fY L) w' w' L:=tv h f λb C=>u.yf b (by simp[C])
def Sg.next(g:Sg S0 w0 wa F T)(h:ed T wa w L)(f:Fr F w w')(n:∀b∈F',b∈F\/w.heap.size<=b):Sg S0 w0 w' F' (Go.Proofs.YtfneoijhmknlnaaGreatDoor.fY L):=
 ⟨(g.fr h).j8 f g.new,λb u=>(n b u).elim (g.new b) λC=>.inr (zL (g.fr h).size C),g.fY h⟩
def Sg.cD(g:Sg S0 w0 wa F T)(h:ed T wa w L)(f:Fr [] w w'):Sg S0 w0 w' F (Go.Proofs.YtfneoijhmknlnaaGreatDoor.fY L):=
 ⟨(g.fr h).j8 f λ_ h=>(nomatch h),g.new,g.fY h⟩
def Fs(h:ed T wa w L):∀b∈Zo FD (Go.Proofs.YtfneoijhmknlnaaGreatDoor.fY L++Y) F,b∈Zo FD (T++Y) F\/wa.heap.size<=b:=λb u=>by rcases zD.1 u with u|u;rcases zD.1 u with u|u;exact .inl (by simp[u]);rcases zG.1 u with u|u;exact .inl (by simp[u]);rcases zD.1 u with u|u;obtain⟨q,C,rfl⟩:=mem_map.1 u;exact (h.own q C).imp (λh=>by simp[h]) id;exact .inl (by simp[u]);exact .inl (by simp[u])
def BW:∀b∈Zo FD Y F,b∈Zo FD (S++Y) F:=λb h=>by simp only[Zo,zD,zG] at h⊢;rcases h with (h|h|h)|h<;>simp[h]
def ye{b:Nat}(h:b∈F):b∈Zo FD Y F:=zI _ h
def eY.J0(u:eY (Zo FD (T++Y) F) wa x n)(h:ed T wa w L):eY (Zo FD (fY L++Y) F) w x n:=u.j0 (h.fr.mono λb C _=>by simp[C]) (Fs h)
def eY.cH(u:eY (Zo FD Y F) wa x n)(h:ed [] wa w L):eY (Zo FD (fY L++Y) F) w x n:=eY.J0 (T:=[]) u h
def eY.next(h:eY (Zo FD Y F) w x n)(f:Fr F w w')(u:∀b∈F',b∈F\/w.heap.size<=b):eY (Zo FD Y F') w' x n:=h.j0 (f.mono λb C _=>ye C) (TW.xu u)
def sO(u:eK (Zo FD (T++Y) F) wa s l)(h:ed T wa w L):eK (Zo FD (fY L++Y) F) w s l:=u.j0 (h.fr.mono λb C _=>by simp[C]) (Fs h)
def xb(u:eK (Zo FD Y F) wa s l)(h:ed [] wa w L):eK (Zo FD (fY L++Y) F) w s l:=sO (T:=[]) u h
def qtk(h:eK (Zo FD Y F) w s l)(f:Fr F w w')(u:∀b∈F',b∈F\/w.heap.size<=b):eK (Zo FD Y F') w' s l:=h.j0 (f.mono λb C _=>ye C) (TW.xu u)
def H0(h:eK (Zo FD (S++Y) F) w s l):eK (Zo FD Y F) w s l:=h.j0 (.refl _ _) λb u=>.inl (BW b u)
def TW.j7(h:TW dbk pb FD D j w (T++Y) F M):TW dbk pb FD D j w Y F M:=h.y0 λb u=>zI _ u
abbrev Fu:=KF
def vu (g:Grown) (ks:Sl):Fu:=(g.x4,g.J7,ks,g.Q9)
abbrev GR:Kl:=280
def rZ (x:Fu):Array Kk:=#[.u x.1,.bool x.2.1,x.2.2.1.v,.u x.2.2.2]
def wY:iX 0:=⟨oN,oN⟩
def qsW{k:Int}(h:M.Wf):iX (ic M k b).1.1:=by
 unfold ic;split;exact wY;split;exact wY;split;exact wY;rename_i n r u;have:=h.range n (by rw[u];simp);have:=h.n4;exact⟨by dsimp only;omega,by dsimp only;omega⟩
def xq(h:M.Wf)(u:iX p):iX (ee k v M p n).1.1:=by unfold ee;split;exact wY;split;exact u;split;exact qsW h;exact qsW h
structure Jf (g:Grown):Prop where
 x4:iX g.x4
 Q9:iX g.Q9
 key:ft g.key
def ft.nil:ft []:=λ_ h=>nomatch h
def HJ:Jf qH:=⟨⟨oN,oN⟩,⟨oN,oN⟩,.nil⟩
def vo{l:List Key}(h:∀a∈l,ft a)(i:Nat):ft (l.getD i []):=by
 rw[yS];cases e:l[i]? with
 | none=>exact .nil
 | some a=>exact h a (yG e)
def qrs{t:Int}{J7:Bool}{K:Fu×Int->WP}(hT:TW dbk pb FD D j w0 Y F M)(hx:eY (Zo FD Y F) w0 x n)(h1:n.J5.length<=100000)(h2:n.J9.length<=100000)(h3:n.J8.length<=100000)(hm:(fJ n k v).1>(fJ n k v).2->qK n ((fJ n k v).1 / 2))(hp:iX p)(kk:∀ks F' w',Jf (ia k v M p n J7).1.1->TW dbk pb FD D j w' Y F' (ia k v M p n J7).2->eK (Zo FD Y F') w' ks (ia k v M p n J7).1.1.key->Fr F w0 w'->(∀b∈F',b∈F\/w0.heap.size<=b)->K (vu (ia k v M p n J7).1.1 ks,(ia k v M p n J7).1.2) w'): cW 188 [.agg (qc (lf k v pb t)),.u p,.agg (fE x),.bool J7] [.agg si,.one .i] w0 K:=by
 refine qlQ ?_;have h:=oF [] w0;have g:=Sg.start F w0;have hl:=hx.lens;have aE:(fJ n k v).1<=100000:=(by unfold fJ;split<;>assumption);refine oB h λr1 w2 _ f h=>oB h λr3 w4 _ f h=>oB h λr5 w6 _ f h=>oB h λr7 w8 _ f h=>oE h 0 rfl (rZ (0,J7,dR,0)) λw9 h f=>Kq h 3 rfl (Ef k v)<|Kq h 2 rfl x<|G8 (k:=k) (v:=v) hl λaH al=>?_;have h:=h.q8 al;refine je (λ_ w'=>∃(x':lJ) (n':dW) (ks:Sl) (key:Key) (o:Int) (F' T:Kr) (wa:Kj) (M':eZ),Sg F w0 wa F' T/\TW dbk pb FD D j wa (T++Y) F' M'/\ed T wa w' [(r7,.c (rZ (0,J7,ks,o)) GR),(r5,.c (rZ (0,false,dR,0)) GR),(r3,.c (fE x') ND),(r1,.c (qc (lf k v pb t)) WK)]/\
   eY (Zo FD (T++Y) F') wa x' n'/\eK (Zo FD (T++Y) F') wa ks key/\n'.J5.length<=100000/\n'.J9.length<=100000/\n'.J8.length<=100000/\iX o/\ft key/\ia k v M p n J7=((⟨(ee k v M' p n').1.1,J7,key,o⟩,(ee k v M' p n').1.2),(ee k v M' p n').2)) ?_ ?_
 apply eV<;>intro I;have I:(fJ n k v).1>(fJ n k v).2:=(by have:=zC I;dsimp only at this;omega);have af:=hm I;have O:wrap .i64 (Int.tdiv ((fJ n k v).1:Int) 2)=(((fJ n k v).1 / 2:Nat):Int):=(by rw[JX oK,gu _ oK];rfl);generalize ag:(fJ n k v).1 / 2=C at af O;refine Kq h 2 rfl x ?_;dsimp only;rw[O];have E:=hT.cH h;refine qxD (hx.cH h) af oK λxl xr ks aI am an U V=>?_;have Q:=E.q8 V;have g:=g.cD h V;have h:=tv h V λ_ _ h=>nomatch h;refine oB h λaJ aK _ f h=>oB h λaL aM _ f h=>oE h 1 rfl (fE xl) λaN h f=>oE h 0 rfl (fE xr) λaO h f=>Kq h 5 rfl (lf k v pb t)<|Kq h 0 rfl xr ?_;have hH:(eO n C).1.J5.length<=100000/\(eO n C).1.J9.length<=100000/\(eO n C).1.J8.length<=100000/\(eO n C).2.1.J5.length<=100000/\(eO n C).2.1.J9.length<=100000/\(eO n C).2.1.J8.length<=100000:=by unfold eO;split<;>simp only[yM,yC]<;>omega
 refine yj (Q.J0 h) (an.J0 h) oK oK oK λF1 aq R J aa=>?_;have ab:=(am.J0 h).next J aa;have ac:=qtk (sO U h) J aa;have g:=g.next h J aa;have h:=(Q.J0 h).own h J;apply eV<;>intro G;have ar:(ee k v M 0 (eO n C).2.1).1.2≠0:=by rw[zT] at G;exact zR.1 G
 have e:ia k v M p n J7=((qH,(ee k v M 0 (eO n C).2.1).1.2),(ee k v M 0 (eO n C).2.1).2):=(by unfold ia;rw[iP I,ag,iP ar]);rw[e] at kk;exact oE h 3 rfl (rZ (0,false,dR,0)) λau h f=>Kq h 3 rfl (0,false,dR,0)<|kk dR F1 au HJ (R.J0 h).j7 (.nil _ _ _ _) (g.fr h) g.new;have he:¬(ee k v M 0 (eO n C).2.1).1.2≠0:=λe=>by rw[yF,yQ] at G;exact e G
 refine Kq h 1 rfl xl<|oE h 4 rfl (fE xl) λaQ h f=>oH h 2 rfl (rZ (0,J7,dR,(ee k v M 0 (eO n C).2.1).1.1)) rfl rfl (zO rfl) λaR h f=>oH h 2 rfl (rZ (0,J7,ks,(ee k v M 0 (eO n C).2.1).1.1)) rfl rfl (zO rfl) λaT h f=>⟨xl,(eO n C).1,ks,(eO n C).2.2,_,F1,_,aq,_,g,R,h.sub (.cons _ (.cons _ (.refl _))),ab,ac,hH.1,hH.2.1,hH.2.2.1,xq hT.wf ⟨oN,oN⟩,?_,?_⟩;unfold eO;split;exact vo hx.2.1.1 _;exact vo hx.2.1.1 _;unfold ia;rw[iP I,ag,iN he];have I:¬(fJ n k v).1>(fJ n k v).2:=(by have:=zB I;dsimp only at this;omega);refine⟨x,n,dR,[],0,F,[],w0,M,g,hT,h,hx,.nil _ _ _ _,h1,h2,h3,⟨oN,oN⟩,.nil,?_⟩;unfold ia;rw[iN I];rintro aU aV ⟨x',n',ks,key,o,F1,T,wa,M',g,E,h,av,aw,l1,l2,l3,uo,bk,e⟩;rw[e] at kk;refine Kq h 3 rfl (lf k v pb t)<|Kq h 2 rfl x'<|yj (E.J0 h) (av.J0 h) oK oK oK λF2 aY ah ad ai=>?_;have U:=qtk (sO aw h) ad ai;have g:=g.next h ad ai
 have h:=(E.J0 h).own h ad;exact oE h 0 rfl (rZ ((ee k v M' p n').1.1,J7,ks,o)) λaZ h f=>Kq h 0 rfl ((ee k v M' p n').1.1,J7,ks,o)<|oE h 1 rfl (rZ ((ee k v M' p n').1.1,J7,ks,o)) λax h f=>Kq h 1 rfl ((ee k v M' p n').1.1,J7,ks,o)<|kk ks F2 ax ⟨xq E.wf hp,uo,bk⟩ (ah.J0 h).j7 (H0 (sO U h)) (g.fr h) g.new
end
end
section
section
variable {Z:Kr} {w w':Kj} {s:Sl} {l:List Key} {B:Kr}
def qqO{α β:Type}(f:α->β)(l:List α)(i:Nat)(x:α):(gy l i x).map f=gy (l.map f) i (f x):=by unfold gy;rw[xP,xP,xR,xS];rfl
def qqB{α β:Type}(f:α->β)(l:List α)(i:Nat):(iV l i).map f=iV (l.map f) i:=by unfold iV;rw[xP,xR,xS]
def Gw{α:Type}{l:List α}{y:α}(h:y∈iV l i):y∈l:=by unfold iV at h;exact (zD.1 h).elim yW yV
abbrev ow (Z:Kr) (w:Kj) (Z':Kr):Prop:=∀b∈Z',b∈Z\/w.heap.size<=b
def Es{pk pk':rP}{Z':Kr}{E:Sl}{B':Kr}{l':List Key}(G:∀p∈pk,eK Z w p.1 p.2)(u:fB iv 1 w' E (jt pk') B')(e:ik pk'=l')(f:Fr B w w')(C:∀b∈B,b∈Z)(I:ow Z w Z')(J:∀p∈pk',p∈pk\/eK Z w p.1 p.2):jW Z' w' E l' B':=
 ⟨pk',u,e,λp h=>((J p h).elim (G p) id).j0 (f.mono λb u _=>C b u) I⟩
def jW.ins{ii:Int}{ks:Sl}{key:Key}{vb:Nat}{T':Kl}(h:jW Z w s l B)(C:∀b∈B,b∈Z)(hi:i<=l.length)(J:ii=i)(I:l.length<=100000)(O:w.heap[vb]?=some (.c #[gU ks] T'))(E:vb∉B)(Q:eK Z w ks key)(R:∀u B' w',(∀Z',ow Z w Z'->jW Z' w' u (gy l i key) B')->Fr B w w'->(∀b∈B',b∈B\/w.heap.size<=b)->K u w'): cW 187 [s.v,.i ii,.slice (pW vb) 1 1] dp w K:=by obtain⟨pk,U,rfl,G⟩:=h;rw[zK] at hi I;refine qvv U (by rw[zK];exact hi) J (by rw[zK];exact I) O E λu B' w' b' f n=>R u B' w' (λZ' V=>Es (pk':=gy pk i (ks,key)) G (by rw[show jt (gy pk i (ks,key))=gy (jt pk) i ks from qqO _ _ _ _];exact b') (qqO _ _ _ _) f C V λp G=>?_) f n;rcases FR G with rfl|h;exact .inr Q;exact .inl h
def jW.del{ii jj:Int}(h:jW Z w s l B)(C:∀b∈B,b∈Z)(hi:i<l.length)(I:ii=i)(J:jj=((i+1:Nat):Int))(G:l.length<=100000)(O:∀u w',(∀Z',ow Z w Z'->jW Z' w' u (iV l i) B)->Fr B w w'->K u w'): cW 222 [s.v,.i ii,.i jj] dp w K:=by obtain⟨pk,Q,rfl,E⟩:=h;rw[zK] at hi G;exact qvs Q (by rw[zK];exact hi) I J (by rw[zK];exact G) λu w' b' f=>O u w' (λZ' R=>Es (pk':=iV pk i) E (by rw[show jt (iV pk i)=iV (jt pk) i from qqB _ _ _];exact b') (qqB _ _ _) f C R λp E=>.inl (Gw E)) f
def jW.set{i:Nat}{ii:Int}{ks:Sl}{key:Key}{K:WP}(h:jW Z w s l B)(u:∀b∈B,b∈Z)(hi:i<l.length)(G:ii=i)(I:eK Z w ks key)(J:∀w',(∀Z',ow Z w Z'->jW Z' w' s (l.set i key) B)->Fr B w w'->K w'):idx s ii 1 λa=>st a [ks.v] w K:=by obtain⟨pk,E,rfl,C⟩:=h;rw[zK] at hi;refine fB.yy E G (by rw[zK];exact hi) λb O=>?_;subst O;refine fB.DJ (e:=gU) (x:=ks) (λ_=>rfl) E (by rw[zK];exact hi) rfl rfl λw' b' f=>J w' (λZ' Q=>Es (pk':=pk.set i (ks,key)) C (by rw[show jt (pk.set i (ks,key))=(jt pk).set i ks from map_set];exact b') (map_set) f u Q λp C=>?_) f;rcases mem_or_eq_of_mem_set C with h|rfl;exact .inl h;exact .inr I
def jW.Ep{ks:Sl}{key:Key}{vb:Nat}{T':Kl}(h:jW Z w s l B)(C:∀b∈B,b∈Z)(G:l.length<=100000)(I:w.heap[vb]?=some (.c #[gU ks] T'))(J:eK Z w ks key)(O:∀u B' w',(∀Z',ow Z w Z'->jW Z' w' u (l++[key]) B')->Fr B w w'->(∀b∈B',b∈B\/w.heap.size<=b)->K u w'): Pt.run dp ((Builtin.append_ #[173,173] 173 #[s.v,.slice (pW vb) 1 1]).run prog w) K:=by obtain⟨pk,Q,rfl,E⟩:=h;rw[zK] at G;refine rV Q (by rw[zK];exact G) I λu B' w' b' f n=>O u B' w' (λZ' R=>Es (pk':=pk++[(ks,key)]) E (by rw[show jt (pk++[(ks,key)])=jt pk++[ks] by simp];exact b') oM f C R λp E=>?_) f n;rcases zD.1 E with h|h;exact .inl h;rw[zE.1 h];exact .inr J
def jW.wF(h:jW Z w s l B)(E:∀b∈B,b∈Z)(R:l.length+ps.length<=100000)(u:eE iv 1 S w src (jt ps))(G:∀p∈ps,eK Z w p.1 p.2)(U:∀C B' w',(∀Z',ow Z w Z'->jW Z' w' C (l++ik ps) B')->Fr B w w'->(∀b∈B',b∈B\/w.heap.size<=b)->K C w'): Pt.run dp ((Builtin.append_ #[173,173] 173 #[s.v,src.v]).run prog w) K:=by obtain⟨pk,V,rfl,I⟩:=h;rw[zK] at R;obtain⟨aa,J,hz,O,Q⟩:=Ft;refine fB.j2 (ys:=jt ps) (e:=96) V zq oL J hz O rfl (wn (e':=96) u zq qxv oL) u.1 (by rw[Q,zK,u.1,zK];omega) (by rw[zK,u.1,zK];omega) λC B' w' b' f n _=>U C B' w' (λZ' hZ=>Es (pk':=pk++ps) I (by rw[show jt (pk++ps)=jt pk++jt ps by simp];exact b') oM f E hZ λp I=>?_) f n;rcases zD.1 I with h|h;exact .inl h;exact .inr (G p h)
def qAy{l ys:Kt}(h:fB jC 1 w s l B)(V:l.length+ys.length<=100000)(C:eE jC 1 S w src ys)(O:∀E B' w',fB jC 1 w' E (l++ys) B'->Fr B w w'->(∀b∈B',b∈B\/w.heap.size<=b)->K E w'): Pt.run dp ((Builtin.append_ #[174,174] 174 #[s.v,src.v]).run prog w) K:=by obtain⟨Q,G,R,I,J⟩:=A8;exact fB.j2 (ys:=ys) (e:=44) h uY oL G R I rfl (wn (e':=44) C uY (λx u U=>by rw[zE.1 U];rfl) oL) C.1 (by rw[J,C.1];omega) (by rw[C.1];omega) λE B' w' b' f n _=>O E B' w' b' f n
def qCA{l:Kt}{ii x:Int}{K:WP}(h:fB jC 1 w s l B)(hi:i<l.length)(C:ii=i)(E:∀w',fB jC 1 w' s (l.set i x) B->Fr B w w'->K w'):idx s ii 1 λa=>st a [.u x] w K:=by refine fB.yy h C hi λb G=>?_;subst G;exact fB.DJ (e:=pI) (x:=x) (λ_=>rfl) h hi rfl rfl E
end
section
variable {Z:Kr} {w:Kj} {x:lJ} {n:dW} {B:Kr}
def fU.tZ(h:fU Z w x n B):∃Bk,jW Z w x.2.1 n.J5 Bk/\(∀b∈Bk,b∈B)/\∀G E Bk' w',Fr Bk w w'->(∀b∈Bk,b∈Z)->(∀b∈Bk',b∈Bk\/w.heap.size<=b)->(∀a∈E,ft a)-> ∃B',(∀b∈B',b∈B\/w.heap.size<=b)/\∀Z',ow Z w Z'->jW Z' w' G E Bk'->fU Z' w' (x.1,G,x.2.2) { n with J5:=E } B':=by
 obtain⟨h0,I,Bk,U,V,rfl,J,hk,hv,hi⟩:=h;obtain⟨n1,n2,O⟩:=yN.1 J;refine⟨Bk,hk,λb u=>by simp[u],λG E Bk' w' f hz nk hl=>⟨Bk'++(U++V),λb u=>?_,λZ' hZ C=>⟨h0,⟨hl,I.2⟩,Bk',U,V,rfl,?_,C,hv.j0 f (λb u Q=>O b Q b (by simp[u]) rfl) (λb u=>.inl (hz b u)) hZ,hi.j0 f λb u Q=>O b Q b (by simp[u]) rfl⟩⟩⟩;rcases zD.1 u with u|u;exact (nk b u).imp (λh=>by simp[h]) id;exact .inl (zI _ u);have R:Bk'.Nodup:=(by obtain⟨_,u,_⟩:=C;exact CC u);refine yN.2 ⟨R,n2,λa ha b u e=>?_⟩;subst e;rcases nk a ha with h1|h1;exact O a h1 a u rfl;rcases zD.1 u with u|u;have:=hv.lt a u;omega;have:=hi.lt a u;omega
def fU.tP(h:fU Z w x n B):∃E,jW Z w x.2.2.1 n.J9 E/\(∀b∈E,b∈B)/\∀R Q C w',Fr E w w'->(∀b∈E,b∈Z)->(∀b∈C,b∈E\/w.heap.size<=b)->(∀a∈Q,ft a)-> ∃B',(∀b∈B',b∈B\/w.heap.size<=b)/\∀Z',ow Z w Z'->jW Z' w' R Q C->fU Z' w' (x.1,x.2.1,R,x.2.2.2) { n with J9:=Q } B':=by
 obtain⟨h0,G,Bk,E,Bi,rfl,U,hk,hv,hi⟩:=h;obtain⟨n1,n2,V⟩:=yN.1 U;obtain⟨m1,m2,m3⟩:=yN.1 n2;refine⟨E,hv,λb u=>by simp[u],λR Q C w' f hz nv hl=>⟨Bk++(C++Bi),λb u=>?_,λZ' hZ I=>⟨h0,⟨G.1,hl,G.2.2⟩,Bk,C,Bi,rfl,?_,hk.j0 f (λb u hm=>V b u b (by simp[hm]) rfl) (λb u=>.inl (hz b u)) hZ,I,hi.j0 f λb u hm=>m3 b hm b u rfl⟩⟩⟩;simp only[zD] at u⊢;rcases u with u|u|u;exact .inl (.inl u);exact (nv b u).imp (λh=>.inr (.inl h)) id;exact .inl (.inr (.inr u));have ac:C.Nodup:=(by obtain⟨_,u,_⟩:=I;exact CC u);refine yN.2 ⟨n1,yN.2 ⟨ac,m2,λa J b u e=>?_⟩,λa J b u e=>?_⟩;subst e;rcases nv a J with O|O;exact m3 a O a u rfl;have:=hi.lt a u;omega;subst e;rcases zD.1 u with u|u;rcases nv a u with O|O;exact V a J a (by simp[O]) rfl;have:=hk.lt a J;omega;exact V a J a (by simp[u]) rfl
def fU.tQ(h:fU Z w x n B):∃E,fB jC 1 w x.2.2.2 n.J8 E/\(∀b∈E,b∈B)/\∀R Q C w',Fr E w w'->(∀b∈E,b∈Z)->(∀b∈C,b∈E\/w.heap.size<=b)->(∀a∈Q,iX a)-> ∃B',(∀b∈B',b∈B\/w.heap.size<=b)/\∀Z',ow Z w Z'->fB jC 1 w' R Q C->fU Z' w' (x.1,x.2.1,x.2.2.1,R) { n with J8:=Q } B':=by
 obtain⟨h0,I,Bk,Bv,E,rfl,U,hk,hv,hi⟩:=h;obtain⟨n1,n2,V⟩:=yN.1 U;obtain⟨m1,m2,m3⟩:=yN.1 n2;refine⟨E,hi,λb u=>by simp[u],λR Q C w' f hz ni hl=>⟨Bk++(Bv++C),λb u=>?_,λZ' hZ J=>⟨h0,⟨I.1,I.2.1,hl⟩,Bk,Bv,C,rfl,?_,hk.j0 f (λb u hm=>V b u b (by simp[hm]) rfl) (λb u=>.inl (hz b u)) hZ,hv.j0 f (λb u hm=>m3 b u b hm rfl) (λb u=>.inl (hz b u)) hZ,J⟩⟩⟩;simp only[zD] at u⊢;rcases u with u|u|u;exact .inl (.inl u);exact .inl (.inr (.inl u));exact (ni b u).imp (λh=>.inr (.inr h)) id;refine yN.2 ⟨n1,yN.2 ⟨m1,CC J,λa G b u e=>?_⟩,λa G b u e=>?_⟩;subst e;rcases ni a u with O|O;exact m3 a G a O rfl;have:=hv.lt a G;omega;subst e;rcases zD.1 u with u|u;exact V a G a (by simp[u]) rfl;rcases ni a u with O|O;exact V a G a (by simp[O]) rfl;have:=hk.lt a G;omega
end
structure Ed (dbk pb:Nat) (FD:Kr) (D:dV) (j:Nat) (S0 N0:Kr) (w0 wa:Kj) (T Y F:Kr) (M:eZ) (x:lJ) (n:dW) (B:Kr):Prop where
 sg:Sg S0 w0 wa F T
 tw:TW dbk pb FD D j wa (T++(B++Y)) F M
 node:fU (Zo FD (T++(B++Y)) F) wa x n B
 sep:∀ b∈T,b∉B
 cJ:∀ b∈B,b∈N0\/w0.heap.size<=b
 cT:∀ b∈N0,b∈S0
 cM:∀ b∈B,b∉Y
section
variable {dbk pb j:Nat} {FD S0 N0 Y F F' T B B':Kr} {D:dV} {w0 wa w w':Kj} {M M':eZ} {L:Kz} {x x':lJ} {n n':dW}
def Ed.J0(e:Ed dbk pb FD D j S0 N0 w0 wa T Y F M x n B)(h:ed T wa w L):Ed dbk pb FD D j S0 N0 w0 w (fY L) Y F M x n B where
 sg:=⟨e.sg.fr h,e.sg.new,e.sg.fY h⟩
 tw:=e.tw.J0 h
 node:=e.node.j0 h.fr (λb u C=>e.sep b C u) (λb u=>.inl (by simp[u])) (Fs h)
 sep:=λb u C=>by
  obtain⟨q,G,rfl⟩:=mem_map.1 u;rcases h.own q G with E|E;exact e.sep _ E C;have:=e.node.lt _ C;omega
 cJ:=e.cJ
 cT:=e.cT
 cM:=e.cM
def Ed.rd(e:Ed dbk pb FD D j S0 N0 w0 wa T Y F M x n B):∀b∈B,b∈Zo FD (T++(B++Y)) F:=λb h=>by simp[h]
def Ed.pA{Bk:Kr}(e:Ed dbk pb FD D j S0 N0 w0 w (fY L) Y F M x n B)(h:ed T wa w L)(G:∀b∈Bk,b∈B)(f:Fr Bk w w')(J:fU (Zo FD (fY L++(B'++Y)) F) w' x' n' B')(E:∀b∈B',b∈B\/w.heap.size<=b):Ed dbk pb FD D j S0 N0 w0 w' (fY L) Y F M x' n' B'/\ed (fY L) w' w' L:=by
 refine⟨⟨⟨e.sg.sP.j8 f λb u=>(e.cJ b (G b u)).imp (e.cT b) id,e.sg.new,e.sg.own⟩,e.tw.cO (f.mono λb u _=>by simp[G b u]) (λb u=>?_) λb u=>?_,J,λb u I=>?_,λb u=>(E b u).elim (e.cJ b) λC=>.inr (zL e.sg.sP.size C),e.cT,λb u O=>?_⟩,tv h f λb u I=>e.sep b u (G b I)⟩;rcases zD.1 u with u|u;exact yE (e.tw.tA b (by simp[u])) f.size;rcases zD.1 u with u|u;exact J.lt b u;exact yE (e.tw.tA b (by simp[u])) f.size;rcases zD.1 u with u|u;exact .inl (by simp[u]);rcases zD.1 u with u|u;exact (E b u).imp (λh=>by simp[h]) id;exact .inl (by simp[u]);rcases E b I with C|C;exact e.sep b u C;have:=e.tw.tA b (by simp[u]);omega;rcases E b u with C|C;exact e.cM b C O;have:=e.tw.tA b (by simp[O]);omega
def Ed.fv(e:Ed dbk pb FD D j S0 N0 w0 w T Y F M x n B)(C:∀b∈B',b∈B\/w.heap.size<=b):ow (Zo FD (T++(B++Y)) F) w (Zo FD (T++(B'++Y)) F):=λb u=>by simp only[Zo,zD,zG] at u⊢;rcases u with (u|u|u|u|u)|u;simp[u];simp[u];simp[u];exact (C b u).imp (λh=>by simp[h]) id;simp[u];simp[u]
def Ed.next(e:Ed dbk pb FD D j S0 N0 w0 w (fY L) Y F M x n B)(h:ed T wa w L)(E:TW dbk pb FD D j w' (fY L++(B++Y)) F' M')(f:Fr F w w')(C:∀b∈F',b∈F\/w.heap.size<=b):Ed dbk pb FD D j S0 N0 w0 w' (fY L) Y F' M' x n B/\ed (fY L) w' w' L:=by have G:∀b∈fY L,b∉F:=λb u=>e.tw.yf b (by simp[u]);refine⟨⟨⟨e.sg.sP.j8 f e.sg.new,λb u=>(C b u).elim (e.sg.new b) λI=>.inr (zL e.sg.sP.size I),e.sg.own⟩,E,e.node.j0 f (λb u=>e.tw.yf b (by simp[u])) (λb u=>.inl (ye u)) (TW.xu C),e.sep,e.cJ,e.cT,e.cM⟩,tv h f G⟩
def Ed.cD(e:Ed dbk pb FD D j S0 N0 w0 w (fY L) Y F M x n B)(h:ed T wa w L)(f:Fr [] w w'):Ed dbk pb FD D j S0 N0 w0 w' (fY L) Y F M x n B/\ed (fY L) w' w' L:=
 e.next h (e.tw.q8 f) (f.mono λ_ h=>nomatch h) λb u=>.inl u
def Ed.cC(e:Ed dbk pb FD D j S0 N0 w0 w T Y F M x n B):eY (Zo FD (T++Y) F) w x n:=
 e.node.rd (λb h u=>by
  simp only[Zo,zD,zG] at u;have C:=e.tw.sep b (by simp[h]);rcases u with (u|u|u|u)|u;exact C.1 u;exact C.2 u;exact e.sep b u h;exact e.cM b h u;exact e.tw.yf b (by simp[h]) u) λb h=>.inl (by
  simp only[Zo,zD,zG] at h⊢;rcases h with (h|h|h|h)|h<;>simp[h])
def Ed.tD(e:Ed dbk pb FD D j S0 N0 w0 w T Y F M x n B):TW dbk pb FD D j w (T++Y) F M:=e.tw.y0 λb u=>(zD.1 u).elim (λh=>by simp[h]) λh=>by simp[h]
end
end
section
section
variable {dbk pb j:Nat} {FD S0 N0 Y F F' F0 T T1 B B' Bk Bk':Kr} {D:dV} {w0 wa w w':Kj} {M M':eZ} {L:Kz} {x x':lJ} {n n':dW} {i q:Nat} {ii jj:Int} {ks:Sl} {key:Key} {vb:Nat} {T':Kl}
structure oS (FD Y F B B':Kr) (T:Kr) (w w':Kj):Prop where
 cV:∀ s l,eK (Zo FD (T++(B++Y)) F) w s l->eK (Zo FD (T++(B'++Y)) F) w' s l
 node:∀ x n,eY (Zo FD (T++(B++Y)) F) w x n->eY (Zo FD (T++(B'++Y)) F) w' x n
def Ed.kO(e:Ed dbk pb FD D j S0 N0 w0 w T Y F M x n B)(C:∀b∈Bk,b∈B)(f:Fr Bk w w')(E:∀b∈B',b∈B\/w.heap.size<=b):oS FD Y F B B' T w w':=⟨λs l h=>h.j0 (f.mono λb u _=>by simp[C b u]) (e.fv E),λx n h=>h.j0 (f.mono λb u _=>by simp[C b u]) (e.fv E)⟩
def Ed.cV(e:Ed dbk pb FD D j F0 N0 w0 w T Y F M x n B)(C:eK (Zo FD Y F0) w0 s l):eK (Zo FD (T++(B++Y)) F) w s l:=
 C.j0 (e.sg.sP.mono λb u _=>ye u) λb u=>by rcases zD.1 u with u|u;rcases zD.1 u with u|u;exact .inl (by simp[u]);rcases zG.1 u with u|u;exact .inl (by simp[u]);rcases zD.1 u with u|u;exact (e.sg.own b u).imp (λh=>ye h) id;rcases zD.1 u with u|u;exact (e.cJ b u).imp (λh=>ye (e.cT b h)) id;exact .inl (by simp[u]);exact (e.sg.new b u).imp (λh=>ye h) id
def Ed.sub(e:Ed dbk pb FD D j S0 N0 w0 w T Y F M x n B)(C:∀b∈T1,b∈T):Ed dbk pb FD D j S0 N0 w0 w T1 Y F M x n B where
 sg:=⟨e.sg.sP,e.sg.new,λb u=>e.sg.own b (C b u)⟩
 tw:=e.tw.y0 λb u=>(zD.1 u).elim (λh=>zH _ (C b h)) λh=>zI _ h
 node:=e.node.j6 λb u=>.inl (by simp only[Zo,zD,zG] at u⊢;rcases u with (u|u|u|u)|u;simp[u];simp[u];simp[C b u];simp[u];simp[u])
 sep:=λb u=>e.sep b (C b u)
 cJ:=e.cJ
 cT:=e.cT
 cM:=e.cM
def IK{L:Kz}{q vb:Nat}{o:Obj}(h:L[q]?=some (vb,o)):vb∈fY L:=mem_map.2 ⟨_,yG h,rfl⟩
def Ed.cQ(e:Ed dbk pb FD D j S0 N0 w0 w (fY L) Y F M x n B)(h:ed T wa w L)(hi:i<=n.J5.length)(O:ii=i)(Q:n.J5.length<=100000)(q:Nat)(J:L[q]?=some (vb,.c #[gU ks] T'))(R:eK (Zo FD (fY L++(B++Y)) F) w ks key)(U:ft key)(V:∀C B' w',Ed dbk pb FD D j S0 N0 w0 w' (fY L) Y F M (x.1,C,x.2.2) { n with J5:=gy n.J5 i key } B'->ed (fY L) w' w' L->oS FD Y F B B' (fY L) w w'->K C w'): cW 187 [x.2.1.v,.i ii,.slice (pW vb) 1 1] dp w K:=by obtain⟨Bk,E,u,I⟩:=e.node.tZ;refine E.ins (λb E=>e.rd b (u b E)) hi O Q (h.at J) (λhm=>e.sep vb (IK J) (u vb hm)) R λC Bk' w' hz f nk=>?_;obtain⟨B',G,hN⟩:=I C _ Bk' w' f (λb E=>e.rd b (u b E)) nk λa ha=>(FR ha).elim (λh=>by rw[h];exact U) (e.node.2.1.1 a);obtain⟨e',h'⟩:=e.pA h u f (hN _ (e.fv G) (hz _ (e.fv G))) G;exact V C B' w' e' h' (e.kO u f G)
def Ed.u5(e:Ed dbk pb FD D j S0 N0 w0 w (fY L) Y F M x n B)(h:ed T wa w L)(hi:i<=n.J9.length)(O:ii=i)(Q:n.J9.length<=100000)(q:Nat)(J:L[q]?=some (vb,.c #[gU ks] T'))(R:eK (Zo FD (fY L++(B++Y)) F) w ks key)(U:ft key)(V:∀C B' w',Ed dbk pb FD D j S0 N0 w0 w' (fY L) Y F M (x.1,x.2.1,C,x.2.2.2) { n with J9:=gy n.J9 i key } B'->ed (fY L) w' w' L->oS FD Y F B B' (fY L) w w'->K C w'): cW 187 [x.2.2.1.v,.i ii,.slice (pW vb) 1 1] dp w K:=by obtain⟨Bk,E,u,I⟩:=e.node.tP;refine E.ins (λb E=>e.rd b (u b E)) hi O Q (h.at J) (λhm=>e.sep vb (IK J) (u vb hm)) R λC Bk' w' hz f nk=>?_;obtain⟨B',G,hN⟩:=I C _ Bk' w' f (λb E=>e.rd b (u b E)) nk λa ha=>(FR ha).elim (λh=>by rw[h];exact U) (e.node.2.1.2.1 a);obtain⟨e',h'⟩:=e.pA h u f (hN _ (e.fv G) (hz _ (e.fv G))) G;exact V C B' w' e' h' (e.kO u f G)
def Ed.uZ{G:Int}(e:Ed dbk pb FD D j S0 N0 w0 w (fY L) Y F M x n B)(h:ed T wa w L)(hi:i<=n.J8.length)(R:ii=i)(U:n.J8.length<=100000)(q:Nat)(Q:L[q]?=some (vb,.c #[.u G] T'))(V:iX G)(kk:∀E B' w',Ed dbk pb FD D j S0 N0 w0 w' (fY L) Y F M (x.1,x.2.1,x.2.2.1,E) { n with J8:=gy n.J8 i G } B'->ed (fY L) w' w' L->oS FD Y F B B' (fY L) w w'->K E w'): cW 189 [x.2.2.2.v,.i ii,.slice (pW vb) 1 1] dp w K:=by obtain⟨Bk,I,C,J⟩:=e.node.tQ;refine qvw I hi R U (h.at Q) (λhm=>e.sep vb (IK Q) (C vb hm)) λE Bk' w' hz f nk=>?_;obtain⟨B',O,hN⟩:=J E _ Bk' w' f (λb I=>e.rd b (C b I)) nk λa ha=>(FR ha).elim (λh=>by rw[h];exact V) (e.node.2.1.2.2 a);obtain⟨e',h'⟩:=e.pA h C f (hN _ (e.fv O) hz) O;exact kk E B' w' e' h' (e.kO C f O)
def Ed.Dx(e:Ed dbk pb FD D j S0 N0 w0 w (fY L) Y F M x n B)(h:ed T wa w L)(hi:i<n.J5.length)(J:ii=i)(O:jj=((i+1:Nat):Int))(Q:n.J5.length<=100000)(R:∀E B' w',Ed dbk pb FD D j S0 N0 w0 w' (fY L) Y F M (x.1,E,x.2.2) { n with J5:=iV n.J5 i } B'->ed (fY L) w' w' L->oS FD Y F B B' (fY L) w w'->K E w'): cW 222 [x.2.1.v,.i ii,.i jj] dp w K:=by obtain⟨Bk,C,u,I⟩:=e.node.tZ;refine C.del (λb C=>e.rd b (u b C)) hi J O Q λE w' U f=>?_;obtain⟨B',G,V⟩:=I E _ Bk w' f (λb C=>e.rd b (u b C)) (λb C=>.inl C) λa ha=>e.node.2.1.1 a (Gw ha);obtain⟨e',h'⟩:=e.pA h u f (V _ (e.fv G) (U _ (e.fv G))) G;exact R E B' w' e' h' (e.kO u f G)
def Ed.GY(e:Ed dbk pb FD D j S0 N0 w0 w (fY L) Y F M x n B)(h:ed T wa w L)(hi:i<n.J9.length)(J:ii=i)(O:jj=((i+1:Nat):Int))(Q:n.J9.length<=100000)(R:∀E B' w',Ed dbk pb FD D j S0 N0 w0 w' (fY L) Y F M (x.1,x.2.1,E,x.2.2.2) { n with J9:=iV n.J9 i } B'->ed (fY L) w' w' L->oS FD Y F B B' (fY L) w w'->K E w'): cW 222 [x.2.2.1.v,.i ii,.i jj] dp w K:=by obtain⟨Bk,C,u,I⟩:=e.node.tP;refine C.del (λb C=>e.rd b (u b C)) hi J O Q λE w' U f=>?_;obtain⟨B',G,V⟩:=I E _ Bk w' f (λb C=>e.rd b (u b C)) (λb C=>.inl C) λa ha=>e.node.2.1.2.1 a (Gw ha);obtain⟨e',h'⟩:=e.pA h u f (V _ (e.fv G) (U _ (e.fv G))) G;exact R E B' w' e' h' (e.kO u f G)
def Ed.I6(e:Ed dbk pb FD D j S0 N0 w0 w (fY L) Y F M x n B)(h:ed T wa w L)(hi:i<n.J8.length)(J:ii=i)(O:jj=((i+1:Nat):Int))(Q:n.J8.length<=100000)(R:∀C B' w',Ed dbk pb FD D j S0 N0 w0 w' (fY L) Y F M (x.1,x.2.1,x.2.2.1,C) { n with J8:=iV n.J8 i } B'->ed (fY L) w' w' L->oS FD Y F B B' (fY L) w w'->K C w'): cW 257 [x.2.2.2.v,.i ii,.i jj] dp w K:=by obtain⟨Bk,E,u,G⟩:=e.node.tQ;refine qvt E hi J O Q λC w' U f=>?_;obtain⟨B',I,V⟩:=G C _ Bk w' f (λb E=>e.rd b (u b E)) (λb E=>.inl E) λa ha=>e.node.2.1.2.2 a (Gw ha);obtain⟨e',h'⟩:=e.pA h u f (V _ (e.fv I) U) I;exact R C B' w' e' h' (e.kO u f I)
def Ed.Da{K:WP}(e:Ed dbk pb FD D j S0 N0 w0 w (fY L) Y F M x n B)(h:ed T wa w L)(hi:i<n.J5.length)(I:ii=i)(J:eK (Zo FD (fY L++(B++Y)) F) w ks key)(O:ft key)(Q:∀B' w',Ed dbk pb FD D j S0 N0 w0 w' (fY L) Y F M (x.1,x.2.1,x.2.2) { n with J5:=n.J5.set i key } B'->ed (fY L) w' w' L->oS FD Y F B B' (fY L) w w'->K w'): idx x.2.1 ii 1 λa=>st a [ks.v] w K:=by
 obtain⟨Bk,C,u,G⟩:=e.node.tZ;refine C.set (λb C=>e.rd b (u b C)) hi I J λw' R f=>?_;obtain⟨B',E,U⟩:=G x.2.1 _ Bk w' f (λb C=>e.rd b (u b C)) (λb C=>.inl C) λa V=>(mem_or_eq_of_mem_set V).elim (e.node.2.1.1 a) λh=>by rw[h];exact O
 obtain⟨e',h'⟩:=e.pA h u f (U _ (e.fv E) (R _ (e.fv E))) E;exact Q B' w' e' h' (e.kO u f E)
def Ed.HS{K:WP}(e:Ed dbk pb FD D j S0 N0 w0 w (fY L) Y F M x n B)(h:ed T wa w L)(hi:i<n.J9.length)(I:ii=i)(J:eK (Zo FD (fY L++(B++Y)) F) w ks key)(O:ft key)(Q:∀B' w',Ed dbk pb FD D j S0 N0 w0 w' (fY L) Y F M (x.1,x.2.1,x.2.2.1,x.2.2.2) { n with J9:=n.J9.set i key } B'->ed (fY L) w' w' L->oS FD Y F B B' (fY L) w w'->K w'): idx x.2.2.1 ii 1 λa=>st a [ks.v] w K:=by
 obtain⟨Bk,C,u,G⟩:=e.node.tP;refine C.set (λb C=>e.rd b (u b C)) hi I J λw' R f=>?_;obtain⟨B',E,U⟩:=G x.2.2.1 _ Bk w' f (λb C=>e.rd b (u b C)) (λb C=>.inl C) λa V=>(mem_or_eq_of_mem_set V).elim (e.node.2.1.2.1 a) λh=>by rw[h];exact O
 obtain⟨e',h'⟩:=e.pA h u f (U _ (e.fv E) (R _ (e.fv E))) E;exact Q B' w' e' h' (e.kO u f E)
def Ed.pZ{G:Int}{K:WP}(e:Ed dbk pb FD D j S0 N0 w0 w (fY L) Y F M x n B)(h:ed T wa w L)(hi:i<n.J8.length)(O:ii=i)(Q:iX G)(R:∀B' w',Ed dbk pb FD D j S0 N0 w0 w' (fY L) Y F M (x.1,x.2.1,x.2.2.1,x.2.2.2) { n with J8:=n.J8.set i G } B'->ed (fY L) w' w' L->oS FD Y F B B' (fY L) w w'->K w'): idx x.2.2.2 ii 1 λa=>st a [.u G] w K:=by
 obtain⟨Bk,E,C,I⟩:=e.node.tQ;refine qCA E hi O λw' U f=>?_;obtain⟨B',J,V⟩:=I x.2.2.2 _ Bk w' f (λb E=>e.rd b (C b E)) (λb E=>.inl E) λa ha=>(mem_or_eq_of_mem_set ha).elim (e.node.2.1.2.2 a) λh=>by rw[h];exact Q
 obtain⟨e',h'⟩:=e.pA h C f (V _ (e.fv J) U) J;exact R B' w' e' h' (e.kO C f J)
def Ed.rV(e:Ed dbk pb FD D j S0 N0 w0 w (fY L) Y F M x n B)(h:ed T wa w L)(J:n.J5.length<=100000)(q:Nat)(O:L[q]?=some (vb,.c #[gU ks] T'))(Q:eK (Zo FD (fY L++(B++Y)) F) w ks key)(R:ft key)(U:∀C B' w',Ed dbk pb FD D j S0 N0 w0 w' (fY L) Y F M (x.1,C,x.2.2) { n with J5:=n.J5++[key] } B'->ed (fY L) w' w' L->oS FD Y F B B' (fY L) w w'->K C w'): Pt.run dp ((Builtin.append_ #[173,173] 173 #[x.2.1.v,.slice (pW vb) 1 1]).run prog w) K:=by
 obtain⟨Bk,E,u,I⟩:=e.node.tZ;refine E.Ep (λb E=>e.rd b (u b E)) J (h.at O) Q λC Bk' w' V f nk=>?_;obtain⟨B',G,hN⟩:=I C _ Bk' w' f (λb E=>e.rd b (u b E)) nk λa ha=>(zD.1 ha).elim (e.node.2.1.1 a) λh=>by rw[zE.1 h];exact R
 obtain⟨e',h'⟩:=e.pA h u f (hN _ (e.fv G) (V _ (e.fv G))) G;exact U C B' w' e' h' (e.kO u f G)
def Ed.AY(e:Ed dbk pb FD D j S0 N0 w0 w (fY L) Y F M x n B)(h:ed T wa w L)(J:n.J9.length<=100000)(q:Nat)(O:L[q]?=some (vb,.c #[gU ks] T'))(Q:eK (Zo FD (fY L++(B++Y)) F) w ks key)(R:ft key)(U:∀C B' w',Ed dbk pb FD D j S0 N0 w0 w' (fY L) Y F M (x.1,x.2.1,C,x.2.2.2) { n with J9:=n.J9++[key] } B'->ed (fY L) w' w' L->oS FD Y F B B' (fY L) w w'->K C w'): Pt.run dp ((Builtin.append_ #[173,173] 173 #[x.2.2.1.v,.slice (pW vb) 1 1]).run prog w) K:=by
 obtain⟨Bk,E,u,I⟩:=e.node.tP;refine E.Ep (λb E=>e.rd b (u b E)) J (h.at O) Q λC Bk' w' V f nk=>?_;obtain⟨B',G,hN⟩:=I C _ Bk' w' f (λb E=>e.rd b (u b E)) nk λa ha=>(zD.1 ha).elim (e.node.2.1.2.1 a) λh=>by rw[zE.1 h];exact R
 obtain⟨e',h'⟩:=e.pA h u f (hN _ (e.fv G) (V _ (e.fv G))) G;exact U C B' w' e' h' (e.kO u f G)
def Ed.AE{G:Int}(e:Ed dbk pb FD D j S0 N0 w0 w (fY L) Y F M x n B)(h:ed T wa w L)(Q:n.J8.length<=100000)(q:Nat)(R:L[q]?=some (vb,.c #[.u G] T'))(U:iX G)(V:∀E B' w',Ed dbk pb FD D j S0 N0 w0 w' (fY L) Y F M (x.1,x.2.1,x.2.2.1,E) { n with J8:=n.J8++[G] } B'->ed (fY L) w' w' L->oS FD Y F B B' (fY L) w w'->K E w'): Pt.run dp ((Builtin.append_ #[174,174] 174 #[x.2.2.2.v,.slice (pW vb) 1 1]).run prog w) K:=by
 obtain⟨Bk,I,C,J⟩:=e.node.tQ;refine quK I Q (h.at R) λE Bk' w' hz f nk=>?_;obtain⟨B',O,hN⟩:=J E _ Bk' w' f (λb I=>e.rd b (C b I)) nk λa ha=>(zD.1 ha).elim (e.node.2.1.2.2 a) λh=>by rw[zE.1 h];exact U
 obtain⟨e',h'⟩:=e.pA h C f (hN _ (e.fv O) hz) O;exact V E B' w' e' h' (e.kO C f O)
def Ed.yu(e:Ed dbk pb FD D j S0 N0 w0 w (fY L) Y F M x n B)(h:ed T wa w L)(O:n.J5.length+ps.length<=100000)(Q:eE iv 1 S w src (jt ps))(I:∀p∈ps,eK (Zo FD (fY L++(B++Y)) F) w p.1 p.2)(R:∀a∈ik ps,ft a)(U:∀C B' w',Ed dbk pb FD D j S0 N0 w0 w' (fY L) Y F M (x.1,C,x.2.2) { n with J5:=n.J5++ik ps } B'->ed (fY L) w' w' L->oS FD Y F B B' (fY L) w w'->K C w'): Pt.run dp ((Builtin.append_ #[173,173] 173 #[x.2.1.v,src.v]).run prog w) K:=by obtain⟨Bk,E,u,J⟩:=e.node.tZ;refine E.wF (λb E=>e.rd b (u b E)) O Q I λC Bk' w' V f nk=>?_;obtain⟨B',G,hN⟩:=J C _ Bk' w' f (λb E=>e.rd b (u b E)) nk λa ha=>(zD.1 ha).elim (e.node.2.1.1 a) (R a);obtain⟨e',h'⟩:=e.pA h u f (hN _ (e.fv G) (V _ (e.fv G))) G;exact U C B' w' e' h' (e.kO u f G)
def Ed.xm(e:Ed dbk pb FD D j S0 N0 w0 w (fY L) Y F M x n B)(h:ed T wa w L)(O:n.J9.length+ps.length<=100000)(Q:eE iv 1 S w src (jt ps))(I:∀p∈ps,eK (Zo FD (fY L++(B++Y)) F) w p.1 p.2)(R:∀a∈ik ps,ft a)(U:∀C B' w',Ed dbk pb FD D j S0 N0 w0 w' (fY L) Y F M (x.1,x.2.1,C,x.2.2.2) { n with J9:=n.J9++ik ps } B'->ed (fY L) w' w' L->oS FD Y F B B' (fY L) w w'->K C w'): Pt.run dp ((Builtin.append_ #[173,173] 173 #[x.2.2.1.v,src.v]).run prog w) K:=by obtain⟨Bk,E,u,J⟩:=e.node.tP;refine E.wF (λb E=>e.rd b (u b E)) O Q I λC Bk' w' V f nk=>?_;obtain⟨B',G,hN⟩:=J C _ Bk' w' f (λb E=>e.rd b (u b E)) nk λa ha=>(zD.1 ha).elim (e.node.2.1.2.1 a) (R a);obtain⟨e',h'⟩:=e.pA h u f (hN _ (e.fv G) (V _ (e.fv G))) G;exact U C B' w' e' h' (e.kO u f G)
def Ed.ya{ys:Kt}(e:Ed dbk pb FD D j S0 N0 w0 w (fY L) Y F M x n B)(h:ed T wa w L)(J:n.J8.length+ys.length<=100000)(O:eE jC 1 S w src ys)(Q:∀y∈ys,iX y)(R:∀C B' w',Ed dbk pb FD D j S0 N0 w0 w' (fY L) Y F M (x.1,x.2.1,x.2.2.1,C) { n with J8:=n.J8++ys } B'->ed (fY L) w' w' L->oS FD Y F B B' (fY L) w w'->K C w'): Pt.run dp ((Builtin.append_ #[174,174] 174 #[x.2.2.2.v,src.v]).run prog w) K:=by obtain⟨Bk,E,u,G⟩:=e.node.tQ;refine qAy E J O λC Bk' w' U f V=>?_;obtain⟨B',I,hN⟩:=G C _ Bk' w' f (λb E=>e.rd b (u b E)) V λa ha=>(zD.1 ha).elim (e.node.2.1.2.2 a) (Q a);obtain⟨e',h'⟩:=e.pA h u f (hN _ (e.fv I) U) I;exact R C B' w' e' h' (e.kO u f I)
end
end
section
def CZ{D:dV}{M:eZ}(h:dU D M k v p=(n,0)):gx n k v:=by
 unfold dU at h;split at h;rename_i u;exact absurd (Kg (·.2) h) u;have:=qtl (kind:=(dS D M p).1) (b:=(dS D M p).2.1) (k:=k) (v:=v) (by rw[h]);rw[h] at this;exact this
def yb(h:gx n k v):n.J5.length<=498/\n.J9.length<=498/\n.J8.length<=498/\(n.Q3=true->n.J9.length=n.J5.length/\n.J5.length<=(eG k v).1)/\(n.Q3=false->n.J5.length+1=n.J8.length/\n.J8.length<=(eG k v).2/\2<=n.J8.length):=by
 have O:=D3 (k:=k) (v:=v);obtain⟨_,_,_,u⟩:=h;cases I:n.Q3 with
 | true=>
  rw[I,iP rfl] at u;obtain⟨C,J,E,G⟩:=u;rw[C];exact⟨oK,oK,oM,λ_=>⟨G,E⟩,λh=>nomatch h⟩
 | false=>
  rw[I,iN oN] at u;obtain⟨_,C,J,E,G⟩:=u;rw[C];exact⟨oK,oM,oK,λh=>(nomatch h),λ_=>⟨G,E,J⟩⟩
section
variable {D:dV} {M M1:eZ} {k v f:Nat} {key val:Key} {p e0 e1:Int} {n:dW} {g:Grown}
def qzL(h:dU D M k v p=(n,e0))(u:e0≠0):jb D k v key val (f+1) M p=((qH,e0),M):=by unfold jb;rw[h,iP u]
def qzM(h:dU D M k v p=(n,0))(u:n.Q3=true)(C:n.J5[dY n.J5 key]?=some key):jb D k v key val (f+1) M p=ia k v M p { n with J9:=n.J9.set (dY n.J5 key) val } false:=by unfold jb;rw[h,iN λh=>h rfl,iP u,iP C]
def qx9(h:dU D M k v p=(n,0))(u:n.Q3=true)(C:¬n.J5[dY n.J5 key]?=some key):jb D k v key val (f+1) M p=ia k v M p { n with J5:=gy n.J5 (dY n.J5 key) key,J9:=gy n.J9 (dY n.J5 key) val } true:=by unfold jb;rw[h,iN λh=>h rfl,iP u,iN C]
def qrh(h:dU D M k v p=(n,0))(u:¬n.Q3=true)(C:jb D k v key val f M (n.J8.getD (eT n.J5 key) 0)=((g,e1),M1))(E:e1≠0):jb D k v key val (f+1) M p=((qH,e1),M1):=by unfold jb;rw[h,iN λh=>h rfl,iN u];dsimp only;rw[C,iP E]
def qya(h:dU D M k v p=(n,0))(u:¬n.Q3=true)(C:jb D k v key val f M (n.J8.getD (eT n.J5 key) 0)=((g,0),M1))(E:g.x4=n.J8.getD (eT n.J5 key) 0/\g.Q9=0):jb D k v key val (f+1) M p=((⟨p,g.J7,[],0⟩,0),M1):=by unfold jb;rw[h,iN λh=>h rfl,iN u];dsimp only;rw[C,iN λh=>h rfl,iP E]
def qBf(h:dU D M k v p=(n,0))(u:¬n.Q3=true)(C:jb D k v key val f M (n.J8.getD (eT n.J5 key) 0)=((g,0),M1))(E:¬(g.x4=n.J8.getD (eT n.J5 key) 0/\g.Q9=0)):jb D k v key val (f+1) M p=ia k v M1 p (iC n (eT n.J5 key) g) g.J7:=by unfold jb;rw[h,iN λh=>h rfl,iN u];dsimp only;rw[C,iN λh=>h rfl,iN E]
end
def qzy(u:n.Q3=true)(C:n.J9.length=n.J5.length):(fJ n k v).1>(fJ n k v).2->qK n ((fJ n k v).1 / 2):=λh=>by unfold qK;have e:(fJ n k v).1=n.J5.length:=(by unfold fJ;rw[iP u]);rw[iP u,C];rw[e] at h⊢;omega
def qx0(u:¬n.Q3=true)(C:n.J5.length+1=n.J8.length)(E:2<=n.J8.length):(fJ n k v).1>(fJ n k v).2->qK n ((fJ n k v).1 / 2):=λh=>by unfold qK;have e:(fJ n k v).1=n.J8.length:=(by unfold fJ;rw[iN u]);rw[iN u];rw[e] at h⊢;omega
def CW{α:Type}{l:List α}{x:α}(h:i<=l.length):(gy l i x).length=l.length+1:=by unfold gy;simp;omega
def eE.cR{l:Kt}{i:Int}{K:Addr->Int->Prop}(h:eE jC 1 S w s l)(n:Nat)(hi:i=n)(O:n<l.length)(Q:∀a,(∀S' w',eE jC 1 S' w' s l->w'.cell? a=some (.u l[n]))->K a l[n]):idx s i 1 λa=>ld .u a w λy=>K a y:=by
 subst hi;have I:l[n]?=some l[n]:=zA O;obtain⟨hl,b,o,J,_,cs,T,fr,hb,hc⟩:=h.at n I;refine sJ J ⟨oK,oK⟩ ?_;rw[zJ];have key:∀S' w',eE jC 1 S' w' s l->w'.cell? ⟨b,o+n*1,none⟩=some (.u l[n]):=λS' w' R=>by
  obtain⟨_,b',o',C,_,U,T',V,E,G⟩:=R.at n I;rw[J] at C;cases C;rw[kA E]
  have:=Kg (·[0]?) G;simpa[jC] using this
 exact qm l[n] (key S w h) (Q _ key)
section
variable {dbk pb j:Nat} {FD S0 N0 Y F F' F0 T B:Kr} {D:dV} {w0 wa w w':Kj} {M M':eZ} {L:Kz} {x:lJ} {n:dW} {k v:Nat} {t:Int}
def Ed.load{w7:Kj}(C:∀b∈N0,b∈S0)(g:Sg S0 w0 wa F T)(h:ed T wa w L)(G:TW dbk pb FD D j w7 (B++(fY L++Y)) F M)(I:fU (Zo FD (B++(fY L++Y)) F) w7 x n B)(f:Fr [] w w7)(E:∀c∈B,w.heap.size<=c)(J:∀b∈Y,b<w.heap.size): Ed dbk pb FD D j S0 N0 w0 w7 (fY L) Y F M x n B/\ed (fY L) w7 w7 L:=by
 refine⟨⟨g.cD h f,G.y0 λb u=>?_,I.j6 λb u=>.inl ?_,λb u O=>?_,λb u=>.inr (zL (g.fr h).size (E b u)),C,λb u Q=>?_⟩,tv h f λ_ _ h=>nomatch h⟩;simp only[zD] at u⊢;rcases u with u|u|u<;>simp[u];simp only[Zo,zD,zG] at u⊢;rcases u with (u|u|u|u|u)|u<;>simp[u];have:=Bb h b u;have:=E b O;omega;have:=J b Q;have:=E b u;omega
def Ed.y8(e:Ed dbk pb FD D j S0 N0 w0 w T Y F M x n B):eE jC 1 (Zo FD (T++Y) F) w x.2.2.2 n.J8:=e.cC.2.2.2.2
def Ed.fr(e:Ed dbk pb FD D j S0 N0 w0 w T Y F M x n B):Fr S0 w0 w:=e.sg.sP
def nd{L':Kz}(h:ed T wa w L)(u:L'.Sublist L):ed (fY L') w w L':=(h.sub u).mQ
def HB{ks vs:Sl}{key val:Key}(ad:ft key)(ag:ft val):∀(f:Nat) {Y F:Kr} {w0:Kj} {M:eZ} {p:Int} {K:Fu×Int->WP} (hT:TW dbk pb FD D j w0 Y F M) (hp:iX p) (hk:eK (Zo FD Y F) w0 ks key) (hv:eK (Zo FD Y F) w0 vs val) (ak:(jb D k v key val f M p).1.2≠-1) (kk:∀gs F' w',Jf (jb D k v key val f M p).1.1->TW dbk pb FD D j w' Y F' (jb D k v key val f M p).2->eK (Zo FD Y F') w' gs (jb D k v key val f M p).1.1.key->Fr F w0 w'->(∀b∈F',b∈F\/w0.heap.size<=b)->K (vu (jb D k v key val f M p).1.1 gs,(jb D k v key val f M p).1.2) w'), cW 156 [.agg (qc (lf k v pb t)),.u p,ks.v,vs.v] [.agg si,.one .i] w0 K
 | 0,_,_,_,_,_,_,_,_,_,_,ak,_=>absurd rfl ak
 | f+1,Y,F,w0,M,p,K,hT,hp,hk,hv,ak,kk=>by
  refine qob ?_;unfold Fd IE FE;have h:=oF [] w0;have g:=Sg.start F w0;refine oB h λr1 w2 _ _ h=>oB h λr3 w4 _ _ h=>Kq h 1 rfl (lf k v pb t) ?_;rcases O:dU D M k v p with ⟨n,e0⟩;refine DI (k:=k) (v:=v) (hT.cH h) hp λx B w7 bb aH f7 bc=>?_;rw[O] at aH⊢;dsimp only at aH;obtain⟨e,h⟩:=Ed.load (N0:=[]) (λ_ h=>nomatch h) g h bb aH f7 bc λb hb=>yE (hT.tA b hb) h.fr.size;refine oB h λr8 w9 _ _ h=>oE h 0 rfl (fE x) λbP h _=>eV (λU=>?_) λU=>?_;have aR:e0≠0:=by rw[zT] at U;exact zR.1 U
  rw[qzL O aR] at kk;exact oE h 1 rfl (rZ (0,false,dR,0)) λbd h _=>Kq h 1 rfl (0,false,dR,0)<|kk dR F bd HJ (e.J0 h).tD.j7 (.nil _ _ _ _) (e.J0 h).fr (e.J0 h).sg.new;have bf:e0=0:=by rw[yF] at U;exact yQ.1 U
  subst bf;have hr:=CZ O;obtain⟨l1,l2,l3,l4,l5⟩:=yb hr;have e:=e.J0 h;have h:=nd h (.refl _);have aT:x.1=n.Q3:=e.node.1;refine Ko h 0 rfl x.1<|eV (λU=>?_) λU=>?_;rw[aT] at U;obtain⟨l6,l7⟩:=l4 U;refine Kq h 0 rfl x<|Fe e.cC (e.cV hk) ad hr.2.2.1 oK λbT bi=>?_;obtain⟨e,h⟩:=e.cD h bi;have am:=Ja n.J5 key;refine je (λ_ w'=>∃x' n' B',ed [r8,r3,r1] w' w' [(r8,.c (fE x') ND),(r3,.c (rZ (0,false,dR,0)) GR),(r1,.c (qc (lf k v pb t)) WK)]/\Ed dbk pb FD D j F [] w0 w' [r8,r3,r1] Y F M x' n' B'/\
   jb D k v key val (f+1) M p=ia k v M p n' (!decide (n.J5[dY n.J5 key]?=some key))/\n'.Q3=true/\n'.J9.length=n'.J5.length/\n'.J5.length<=1000/\n'.J8.length<=1000) ?_ ?_
  refine eV (λQ=>?_) λQ=>?_;have aJ:=zC Q;have bU:=(zP.1 aJ).1;refine Ko h 0 rfl x.2.2.1<|e.HS h (i:=dY n.J5 key) oK rfl (e.cV hv) ag λB' bV e h _=>⟨x,_,B',h,e,?_,U,by dsimp only;rw[xI];exact l6,by dsimp only;omega,by dsimp only;omega⟩;rw[qzM O U aJ,yA aJ];rfl;have ay:=zB Q;have I:jb D k v key val (f+1) M p=ia k v M p { n with J5:=gy n.J5 (dY n.J5 key) key,J9:=gy n.J9 (dY n.J5 key) val } (!decide (n.J5[dY n.J5 key]?=some key)):=by rw[qx9 O U ay,zU ay];rfl
  have an:(gy n.J9 (dY n.J5 key) val).length=(gy n.J5 (dY n.J5 key) key).length:=(by rw[CW oK,CW am,l6]);have ao:(gy n.J5 (dY n.J5 key) key).length<=1000:=(by rw[CW am];omega);refine⟨?_,?_,?_⟩;have h:=oG h;refine Ko h 0 rfl x.2.1<|Ko h 0 rfl x.2.2.1<|oB h λbW bX _ _ h=>kH (h.cell 1) (h.cell 1) ?_;have e:=e.J0 h;refine e.cQ h (i:=dY n.J5 key) am rfl oK 0 rfl (e.cV hk) ad λV B1 aU e h _=>ja (h.cell 1)<|oB h λbY bZ _ _ h=>kH (h.cell 2) (h.cell 2) ?_;have e:=e.J0 h;exact e.u5 h (i:=dY n.J5 key) oO rfl oO 0 rfl (e.cV hv) ag λap B2 aV e h _=>oE h 2 rfl (fE (x.1,V,x.2.2.1,x.2.2.2)) λaW h _=>oE h 2 rfl (fE (x.1,V,ap,x.2.2.2)) λaX h _=>⟨_,_,B2,nd h (.cons _ (.cons _ (.refl _))),(e.J0 h).sub oM,I,U,an,ao,by dsimp only;omega⟩;have h:=oG h;refine Ko h 0 rfl x.2.1<|Ko h 0 rfl x.2.2.1<|oB h λb0 b1 _ _ h=>kH (h.cell 1) (h.cell 1)<|oB h λb2 b3 _ _ h=>kH (h.cell 2) (h.cell 2) ?_;have e:=e.J0 h;exact e.cQ h (i:=dY n.J5 key) am rfl oK 1 rfl (e.cV hk) ad λV B1 aU e h _=>ja (h.cell 2)<|e.u5 h (i:=dY n.J5 key) oO rfl oO 0 rfl (e.cV hv) ag λap B2 aV e h _=>oE h 2 rfl (fE (x.1,V,x.2.2.1,x.2.2.2)) λaW h _=>oE h 2 rfl (fE (x.1,V,ap,x.2.2.2)) λaX h _=>⟨_,_,B2,nd h (.cons _ (.cons _ (.refl _))),(e.J0 h).sub oM,I,U,an,ao,by dsimp only;omega⟩;have h:=oG h;refine Ko h 0 rfl x.2.1<|Ko h 0 rfl x.2.2.1<|oB h λb4 b5 _ _ h=>kH (h.cell 1) (h.cell 1)<|oB h λb6 b7 _ _ h=>kH (h.cell 2) (h.cell 2) ?_;have e:=e.J0 h;exact e.cQ h (i:=dY n.J5 key) am rfl oK 0 rfl (e.cV hk) ad λV B1 aU e h _=>ja (h.cell 2)<|e.u5 h (i:=dY n.J5 key) oO rfl oO 1 rfl (e.cV hv) ag λap B2 aV e h _=>oE h 2 rfl (fE (x.1,V,x.2.2.1,x.2.2.2)) λaW h _=>oE h 2 rfl (fE (x.1,V,ap,x.2.2.2)) λaX h _=>⟨_,_,B2,nd h (.cons _ (.cons _ (.refl _))),(e.J0 h).sub oM,I,U,an,ao,by dsimp only;omega⟩;rintro _ b8 ⟨x',n',B',h,e,I,m0,m1,m2,m3⟩;rw[I] at kk;refine Kq h 2 rfl (lf k v pb t)<|Kq h 0 rfl x'<|qrs (Y:=[r8,r3,r1]++Y) e.tD e.cC oK oK oK (qzy m0 m1) hp λgs F' cc hG aY C aZ bj=>?_;have g:=e.sg.next h aZ bj
  have h:=tv h aZ λb hb=>e.tD.yf b (by simp at hb⊢;rcases hb with h|h|h<;>simp[h]);exact oH h 1 rfl (rZ (vu (ia k v M p n' (!decide (n.J5[dY n.J5 key]?=some key))).1.1 gs)) rfl rfl (zO rfl) λbk h _=>oC h 1 rfl (vu (ia k v M p n' (!decide (n.J5[dY n.J5 key]?=some key))).1.1 gs) rfl<|kk gs F' bk hG (aY.J0 h).j7 (H0 (sO C h)) (g.fr h) g.new
  ·rw[aT] at U;have ah:¬n.Q3=true:=(by rw[U];decide);obtain⟨l6,l7,l8⟩:=l5 U;refine Kq h 0 rfl x<|Du e.cC (e.cV hk) ad hr.2.2.1 oK λcd bl=>?_;obtain⟨e,h⟩:=e.cD h bl;have aq:=BZ n.J5 key;generalize av:eT n.J5 key=c at aq⊢;have ai:c<n.J8.length:=oK;have aK:n.J8.getD c 0=n.J8[c]:=(by rw[yS,zA ai];rfl);have hu:iX n.J8[c]:=e.node.2.1.2.2 _ (zX ai);rcases ar:jb D k v key val f M n.J8[c] with ⟨⟨E,e1⟩,M1⟩;have aa:jb D k v key val f M (n.J8.getD (eT n.J5 key) 0)=((E,e1),M1):=(by rw[av,aK];exact ar);have aA:e1≠-1:=λh1=>by rw[h1] at aa;rw[qrh O ah aa oN] at ak;exact ak rfl
   refine⟨?a,?b⟩;case' a=>
    have h:=oG h;have e:=e.J0 h;refine Kq h 2 rfl (lf k v pb t)<|Ko h 0 rfl x.2.2.2<|eE.cR e.y8 c rfl ai λbm hh=>HB ad ag f e.tw hu (e.cV hk) (e.cV hv) (by rw[ar];exact aA) λgs F1 bn hG ab C aL aM=>?_;rw[ar] at hG ab C⊢;obtain⟨e,h⟩:=e.next h ab aL aM
    refine oB h λau bo _ _ h=>nA (hh _ _ (e.J0 h).y8) (h.cell 1) (h.cells 3)<|oE h 0 rfl (rZ (vu E gs)) λa1 h _=>?_;have C:=sO C h;have e:=e.J0 h;have h:=nd h (.refl _)
   case' b=>
    have h:=oG h;have e:=e.J0 h;have h:=nd h (.refl _);refine Kq h 2 rfl (lf k v pb t)<|Ko h 0 rfl x.2.2.2<|eE.cR e.y8 c rfl ai λbm hh=>oB h λau bo _ _ h=>?_;have e:=e.J0 h;refine nA (hh _ _ e.y8) (h.cell 1) (h.cells 3)<|HB ad ag f e.tw hu (e.cV hk) (e.cV hv) (by rw[ar];exact aA) λgs F1 bn hG ab C aL aM=>?_;rw[ar] at hG ab C⊢;obtain⟨e,h⟩:=e.next h ab aL aM
    refine oE h 0 rfl (rZ (vu E gs)) λa1 h _=>?_;have C:=sO C h;have e:=e.J0 h;have h:=nd h (.refl _)
   all_goals
    refine eV (λQ=>?_) λQ=>?_;have a2:e1≠0:=by rw[zT] at Q;exact zR.1 Q
    rw[qrh O ah aa a2] at kk;exact oE h 2 rfl (rZ (0,false,dR,0)) λbp h _=>Kq h 2 rfl (0,false,dR,0)<|kk dR F1 bp HJ (e.J0 h).tD.j7 (.nil _ _ _ _) (e.J0 h).fr (e.J0 h).sg.new;have bq:e1=0:=by rw[yF] at Q;exact yQ.1 Q
    subst bq;refine je (λb w'=>b=decide (E.x4=n.J8[c]/\E.Q9=0)/\w'=a1.drew) ?_ ?_;have h:=oG h;refine Ko h 0 rfl E.x4<|Ko h 1 rfl x.2.2.2<|eE.get (e.J0 h).y8 c rfl (zA ai) (y:=n.J8[c]) rfl<|eV (λG=>?_) λG=>?_;have G:E.x4=n.J8[c]:=yQ.1 G;refine Ko h 0 rfl E.Q9 ⟨?_,rfl⟩;rw[JQ,yQ,yO];exact⟨λh=>⟨G,h⟩,λh=>h.2⟩;have G:E.x4≠n.J8[c]:=zR.1 G;exact⟨(zU λh=>G h.1).symm,rfl⟩;rintro bv bx ⟨rfl,rfl⟩;have h:=oG h;have C:=sO C h;have e:=e.J0 h;have h:=nd h (.refl _);refine eV (λG=>?_) λG=>?_;have G:=zC G;rw[<- aK,<- av] at G;rw[qya O ah aa G] at kk;exact Ko h 0 rfl E.J7<|oE h 2 rfl (rZ (p,E.J7,dR,0)) λa3 h _=>Kq h 2 rfl (p,E.J7,dR,0)<|kk dR F1 a3 ⟨hp,wY,.nil⟩ (e.J0 h).tD.j7 (.nil _ _ _ _) (e.J0 h).fr (e.J0 h).sg.new;have G:=zB G;rw[<- aK,<- av] at G;have I:=qBf O ah aa G;rw[av] at I;rw[I] at kk;refine Ko h 1 rfl x.2.2.2<|Ko h 0 rfl E.x4<|e.pZ h (i:=c) ai rfl hG.x4 λB1 bz e h kp=>?_;have C:=kp.cV _ _ C;refine je (λ_ w'=>∃x' B',ed [au,r8,r3,r1] w' w' [(au,.c (rZ (vu E gs)) GR),(r8,.c (fE x') ND),(r3,.c (rZ (0,false,dR,0)) GR),(r1,.c (qc (lf k v pb t)) WK)]/\Ed dbk pb FD D j F [] w0 w' [au,r8,r3,r1] Y F1 M1 x' (iC n c E) B'/\
     ¬(iC n c E).Q3=true/\(iC n c E).J5.length+1=(iC n c E).J8.length/\2<=(iC n c E).J8.length/\(iC n c E).J8.length<=1000/\(iC n c E).J9.length<=1000) ?_ ?_
    refine Ko h 0 rfl E.Q9<|eV (λR=>?_) λR=>?_;have R:E.Q9≠0:=by rw[zT] at R;exact zR.1 R
    have eg:iC n c E={ n with J8:=gy (n.J8.set c E.x4) (c+1) E.Q9,J5:=gy n.J5 c E.key }:=(by unfold iC;rw[iP R]);have af:¬(iC n c E).Q3=true/\(iC n c E).J5.length+1=(iC n c E).J8.length/\2<=(iC n c E).J8.length/\(iC n c E).J8.length<=1000/\(iC n c E).J9.length<=1000:=(by rw[eg];dsimp only;rw[CW aq,CW (l:=n.J8.set c E.x4) (by rw[xI];omega),xI];exact⟨ah,oK,oK,oK,oK⟩);rw[eg] at af⊢;have ew:wrap .i64 ((c:Int)+1)=((c+1:Nat):Int):=ud oK;rw[ew];refine⟨?_,?_,?_⟩;have h:=oG h;refine Ko h 1 rfl x.2.2.2<|Ko h 0 rfl E.Q9<|Ko h 1 rfl x.2.1<|Ko h 0 rfl gs<|oB h λbA bB _ _ h=>nA (h.cell 1) (h.cell 2) (h.cell 2) ?_;have C:=sO C h;have e:=e.J0 h;refine e.uZ h (i:=c+1) (by dsimp only;rw[xI];omega) rfl (by dsimp only;rw[xI];omega) 0 rfl hG.Q9 λJ B2 aB e h kp=>?_;have C:=kp.cV _ _ C;refine kH (h.cell 1) (h.cell 2)<|oB h λbC bD _ _ h=>nA (h.cell 3) (h.cell 2) (h.cell 3) ?_;have C:=sO C h;have e:=e.J0 h;exact e.cQ h (i:=c) aq rfl oO 0 rfl C hG.key λac B3 aC e h _=>oE h 3 rfl (fE (x.1,x.2.1,x.2.2.1,J)) λaD h _=>oE h 3 rfl (fE (x.1,ac,x.2.2.1,J)) λaE h _=>⟨_,B3,nd h (.cons _ (.cons _ (.refl _))),(e.J0 h).sub oM,af⟩;have h:=oG h;refine Ko h 1 rfl x.2.2.2<|Ko h 0 rfl E.Q9<|Ko h 1 rfl x.2.1<|Ko h 0 rfl gs<|oB h λbE bF _ _ h=>nA (h.cell 1) (h.cell 2) (h.cell 2)<|oB h λbG bH _ _ h=>nA (h.cell 3) (h.cell 2) (h.cell 3) ?_;have C:=sO C h;have e:=e.J0 h;refine e.uZ h (i:=c+1) (by dsimp only;rw[xI];omega) rfl (by dsimp only;rw[xI];omega) 1 rfl hG.Q9 λJ B2 aB e h kp=>?_;have C:=kp.cV _ _ C;exact kH (h.cell 2) (h.cell 3)<|e.cQ h (i:=c) aq rfl oO 0 rfl C hG.key λac B3 aC e h _=>oE h 3 rfl (fE (x.1,x.2.1,x.2.2.1,J)) λaD h _=>oE h 3 rfl (fE (x.1,ac,x.2.2.1,J)) λaE h _=>⟨_,B3,nd h (.cons _ (.cons _ (.refl _))),(e.J0 h).sub oM,af⟩;have h:=oG h;refine Ko h 1 rfl x.2.2.2<|Ko h 0 rfl E.Q9<|Ko h 1 rfl x.2.1<|Ko h 0 rfl gs<|oB h λbI bJ _ _ h=>nA (h.cell 2) (h.cell 1) (h.cell 2)<|oB h λbK bL _ _ h=>nA (h.cell 2) (h.cell 3) (h.cell 3) ?_;have C:=sO C h;have e:=e.J0 h;refine e.uZ h (i:=c+1) (by dsimp only;rw[xI];omega) rfl (by dsimp only;rw[xI];omega) 0 rfl hG.Q9 λJ B2 aB e h kp=>?_;have C:=kp.cV _ _ C;exact kH (h.cell 2) (h.cell 3)<|e.cQ h (i:=c) aq rfl oO 1 rfl C hG.key λac B3 aC e h _=>oE h 3 rfl (fE (x.1,x.2.1,x.2.2.1,J)) λaD h _=>oE h 3 rfl (fE (x.1,ac,x.2.2.1,J)) λaE h _=>⟨_,B3,nd h (.cons _ (.cons _ (.refl _))),(e.J0 h).sub oM,af⟩;have R:¬E.Q9≠0:=(by rw[yF] at R;exact λhh=>hh (yQ.1 R));have eg:iC n c E={ n with J8:=n.J8.set c E.x4 }:=(by unfold iC;rw[iN R]);rw[eg];exact⟨x,B1,h,e,ah,by dsimp only;rw[xI];omega,by dsimp only;rw[xI];omega,by dsimp only;rw[xI];omega,by dsimp only;omega⟩;rintro _ bM ⟨x',B',h,e,q1,q2,q3,q4,q5⟩;refine Kq h 3 rfl (lf k v pb t)<|Kq h 1 rfl x'<|Ko h 0 rfl E.J7<|qrs (Y:=[au,r8,r3,r1]++Y) e.tD e.cC oK oK oK (qx0 q1 q2 q3) hp λaO F2 bN bt aP a5 aF a6=>?_;have g:=e.sg.next h aF a6
    have h:=tv h aF λb hb=>e.tD.yf b (by simp at hb⊢;rcases hb with h|h|h|h<;>simp[h]);exact oH h 2 rfl (rZ (vu (ia k v M1 p (iC n c E) E.J7).1.1 aO)) rfl rfl (zO rfl) λa7 h _=>oC h 2 rfl (vu (ia k v M1 p (iC n c E) E.J7).1.1 aO) rfl<|kk aO F2 a7 bt (aP.J0 h).j7 (H0 (sO a5 h)) (g.fr h) g.new
end
end
section
def tz{H u C E:WP}{K:Prop}(h:H w)(G:u w)(I:C w)(J:E w)(k:K):held [H,u,C,E] w K:=by unfold held;exact⟨⟨h,G,I,J⟩,k⟩
structure sA (S0 Z:Kr) (w:Kj) (x:lJ) (n:dW) (pk pv:rP):Prop where
 lens:qC x n
 nb:NB n
 J5:ik pk=n.J5
 J9:ik pv=n.J9
 rk:eE iv 1 S0 w x.2.1 (jt pk)
 rv:eE iv 1 S0 w x.2.2.1 (jt pv)
 ri:eE jC 1 S0 w x.2.2.2 n.J8
 ek:∀ p∈pk,eK Z w p.1 p.2
 ev:∀ p∈pv,eK Z w p.1 p.2
section
variable {S S0 S0' Z Z' B:Kr} {w w':Kj} {x:lJ} {n:dW} {pk pv:rP}
def fU.DA(h:fU Z w x n B)(C:∀b∈B,b∉S0):∃pk pv,sA S0 Z w x n pk pv:=by have G:eY [] w x n:=h.rd (λ_ _ h=>(nomatch h)) λ_ h=>nomatch h;have I:=G.lens;obtain⟨h0,E,Bk,Bv,Bi,rfl,J,⟨pk,O,Q,R⟩,⟨pv,U,V,v3⟩,hi⟩:=h;exact⟨pk,pv,I,E,Q,V,O.kZ zq λb u=>C b (by simp[u]),U.kZ zq λb u=>C b (by simp[u]),hi.kZ uY λb u=>C b (by simp[u]),R,v3⟩
def sA.j0(h:sA S0 Z w x n pk pv)(f:Fr S w w')(G:∀b∈S,b∈S0)(E:∀b∈S,b∈Z)(C:ow S0 w S0')(J:ow Z w Z'):sA S0' Z' w' x n pk pv where
 lens:=h.lens
 nb:=h.nb
 J5:=h.J5
 J9:=h.J9
 rk:=h.rk.j0 (f.mono λb u _=>G b u) C
 rv:=h.rv.j0 (f.mono λb u _=>G b u) C
 ri:=h.ri.j0 (f.mono λb u _=>G b u) C
 ek:=λp I=>(h.ek p I).j0 (f.mono λb u _=>E b u) J
 ev:=λp I=>(h.ev p I).j0 (f.mono λb u _=>E b u) J
def sA.vM(h:sA S0 Z w x n pk pv):pk.length=n.J5.length:=by rw[<- h.J5,zK]
def sA.AZ(h:sA S0 Z w x n pk pv):pv.length=n.J9.length:=by rw[<- h.J9,zK]
def sA.rdK(h:sA S0 Z w x n pk pv)(u:∀b∈S0,b∈Z):kD S0 w x.2.1 pk:=⟨h.rk,λp C=>(h.ek p C).j0 (.refl _ _) λb E=>.inl (u b E)⟩
def sA.rdV(h:sA S0 Z w x n pk pv)(u:∀b∈S0,b∈Z):kD S0 w x.2.2.1 pv:=⟨h.rv,λp C=>(h.ev p C).j0 (.refl _ _) λb E=>.inl (u b E)⟩
def eE.cK{i:Int}{K:Addr->Sl->Prop}(h:eE iv 1 S w s (jt ps))(n:Nat)(hi:i=n)(J:n<ps.length)(O:∀a,(∀S' w',eE iv 1 S' w' s (jt ps)->w'.cell? a=some (.slice ps[n].1.a ps[n].1.len ps[n].1.cap))->K a ps[n].1):idx s i 1 λa=>ld .slice a w λy=>K a y:=by
 subst hi;have G:(jt ps)[n]?=some ps[n].1:=(by rw[zQ,zA J];rfl);obtain⟨V,b,o,I,_,cs,T,fr,hb,hc⟩:=h.at n G;refine sJ I ⟨oK,oK⟩ ?_;rw[zJ];have key:∀S' w',eE iv 1 S' w' s (jt ps)->w'.cell? ⟨b,o+n*1,none⟩=some (.slice ps[n].1.a ps[n].1.len ps[n].1.cap):=λS' w' Q=>by
  obtain⟨_,b',o',u,_,R,T',U,C,E⟩:=Q.at n G;rw[I] at u;cases u;rw[kA C]
  have:=Kg (·[0]?) E;simpa[iv] using this
 exact qm ps[n].1 (key S w h) (O _ key)
def sA.pc(h:sA S0 Z w x n pk pv)(hi:i<pk.length):n.J5.getD i []=pk[i].2:=by rw[<- h.J5,A2 hi]
def sA.uC(h:sA S0 Z w x n pk pv)(hi:i<pv.length):n.J9.getD i []=pv[i].2:=by rw[<- h.J9,A2 hi]
def wU{n:dW}(hi:i<n.J8.length):n.J8.getD i 0=n.J8[i]:=by rw[yS,zA hi];rfl
end
structure iH (n:dW):Prop where
 Q3:n.Q3=true->n.J9.length=n.J5.length
 inner:n.Q3=false->n.J8.length=n.J5.length+1
 J5:n.J5.length<=2000
 J9:n.J9.length<=2000
 J8:n.J8.length<=2000
section
variable {dbk pb j:Nat} {FD Y F Bl Br:Kr} {D:dV} {w0:Kj} {M:eZ} {xl xr:lJ} {nl nr:dW} {ks:Sl} {key:Key}
def zoT{b:Nat}(h:b∈T):b∈Zo FD (T++Y) F:=by simp[h]
def CU:∀b∈Zo FD Y F,b∈Zo FD (T++(Bl++Y)) F:=λb h=>by simp only[Zo,zD,zG] at h⊢;rcases h with (h|h|h)|h<;>simp[h]
def Ct{α:Type}(l:List α)(x:α):gy l 0 x=x::l:=by unfold gy;simp
def qzq{K:lJ×lJ×Sl->WP}(hT:TW dbk pb FD D j w0 (Br++(Bl++Y)) F M)(hl:fU (Zo FD (Br++(Bl++Y)) F) w0 xl nl Bl)(hr:fU (Zo FD (Br++(Bl++Y)) F) w0 xr nr Br)(d1:∀b∈Br,b∉Bl)(d2:∀b∈Br,b∉Y)(d3:∀b∈Bl,b∉Y)(hk:eK (Zo FD (Br++(Bl++Y)) F) w0 ks key)(au:ft key)(bd:nl.Q3=nr.Q3)(h1:1<=nl.J5.length)(sl:iH nl)(sr:iH nr)(kk:∀yl yr aA w',TW dbk pb FD D j w' Y F M->eY (Zo FD Y F) w' yl (jS nl nr key).1->eY (Zo FD Y F) w' yr (jS nl nr key).2.1->eK (Zo FD Y F) w' aA (jS nl nr key).2.2->Fr (Br++F) w0 w'->K (yl,yr,aA) w'): cW 244 [.agg (fE xl),.agg (fE xr),ks.v] [.agg eJ,.agg eJ,.one .slice] w0 K:=by
 refine qtG ?_;unfold Fc E9;obtain⟨pk,pv,o⟩:=hl.DA (S0:=Br++Zo FD Y F) λb u V=>by rcases zD.1 V with V|V;exact d1 b V u;have h0:=hT.sep b (by simp[u]);simp only[Zo,zD,zG] at V;rcases V with (V|V|V)|V;exact h0.1 V;exact h0.2 V;exact d3 b u V;exact hT.yf b (by simp[u]) V
 have e0:Ed dbk pb FD D j (Br++F) Br w0 w0 [] (Bl++Y) F M xr nr Br:=⟨⟨.refl _ _,λb u=>.inl (by simp[u]),λ_ h=>nomatch h⟩,hT,hr,λ_ h=>(nomatch h),λb u=>.inl u,λb u=>by simp[u],λb u V=>(zD.1 V).elim (d1 b u) (d2 b u)⟩;have ab:∀b∈Br++Zo FD Y F,b∈Zo FD (Br++(Bl++Y)) F:=λb u=>by simp only[Zo,zD,zG] at u⊢;rcases u with u|(u|u|u)|u<;>simp[u]
 have ac:∀b∈Br++F,b∈Br++Zo FD Y F:=λb u=>by simp only[Zo,zD,zG] at u⊢;rcases u with u|u<;>simp[u]
 have nZ:∀ {w' T x' n' B'},Ed dbk pb FD D j (Br++F) Br w0 w' T (Bl++Y) F M x' n' B'->ow (Zo FD (Br++(Bl++Y)) F) w0 (Zo FD (T++(B'++(Bl++Y))) F):=λe b u=>by simp only[Zo,zD,zG] at u;rcases u with (u|u|u|u|u|u)|u;exact .inl (by simp[u]);exact .inl (by simp[u]);exact (e.sg.own b u).imp (λh=>ab b (ac b h)) id;exact (e.cJ b u).imp (λh=>ab b (ac b (e.cT b h))) id;exact .inl (by simp[u]);exact .inl (by simp[u]);exact .inl (by simp[u])
 have O:∀ {w' T x' n' B'},Ed dbk pb FD D j (Br++F) Br w0 w' T (Bl++Y) F M x' n' B'->sA (Br++Zo FD Y F) (Zo FD (T++(B'++(Bl++Y))) F) w' xl nl pk pv:=λe=>o.j0 e.fr ac (λb u=>ab b (ac b u)) (λb u=>.inl u) (nZ e);have aB:=o.rdK ab;have aC:=o.rdV ab;have ad:∀ {w' T x' n' B'},Ed dbk pb FD D j (Br++F) Br w0 w' T (Bl++Y) F M x' n' B'->Fr (Br++Zo FD Y F) w0 w':=λe=>e.fr.mono λb u _=>ac b u;have ae:∀b∈Zo FD Y F,b∈Br++Zo FD Y F\/w0.heap.size<=b:=λb u=>.inl (zI _ u);have Q:=o.lens;have kl:=o.vM;have vl:=o.AZ;have sk:=sl.J5;have bf:=sr.J5;have bg:=sr.J9;have bh:=sr.J8;have aM:wrap .i64 ((xl.2.1.len:Int)-1)=((nl.J5.length-1:Nat):Int):=(by rw[Q.J5,gu _ oK];omega);have h:=oF [] w0;refine oB h λr1 w2 _ _ h=>oB h λr3 w4 _ _ h=>oB h λr5 w6 _ _ h=>oB h λr7 w8 _ _ h=>Ko h 3 rfl xl.2.1<|Ko h 3 rfl xl.1 ?_;rw[aM];apply eV<;>intro hc
 ·rw[Q.Q3] at hc;have bi:=sl.Q3 hc;have hG:jS nl nr key=({ nl with J5:=nl.J5.take (nl.J5.length-1),J9:=nl.J9.take (nl.J5.length-1) },{ nr with J5:=nl.J5.getD (nl.J5.length-1) []::nr.J5,J9:=nl.J9.getD (nl.J5.length-1) []::nr.J9 },nl.J5.getD (nl.J5.length-1) []):=(by unfold jS;rw[iP hc]);have hi:nl.J5.length-1<pk.length:=oK;have R:nl.J5.length-1<pv.length:=oK;rw[hG,o.pc hi,o.uC R] at kk;have aa:ft pk[nl.J5.length-1].2:=(by rw[<- o.pc hi];exact vo o.nb.1 _);have aw:ft pv[nl.J5.length-1].2:=(by rw[<- o.uC R];exact vo o.nb.2.1 _);refine⟨?a1,?a2,?a3⟩;case' a1=>
   have h:=oG h;refine Ko h 2 rfl xr.2.1<|Ko h 3 rfl xl.2.1<|eE.cK ((o.rk).q8 h.fr) (nl.J5.length-1) rfl hi λag G=>Ko h 2 rfl xr.2.2.1<|Ko h 3 rfl xl.2.2.1<|eE.cK ((o.rv).q8 h.fr) (nl.J5.length-1) rfl R λaD U=>oB h λah ai _ _ h=>?_;have e:=e0.J0 h;refine tz (U _ _ (O e).rv) (h.cell 4) (h.cell 3) (h.cell 3)<|e.cQ h (i:=0) (yY _) rfl oK 0 rfl ((O e).ek _ (zX hi)) aa λC B1 aj e h _=>nA (U _ _ (O e).rv) (h.cell 4) (h.cell 3)<|oB h λak al _ _ h=>?_;have e:=e.J0 h;refine tz (h.cell 4) (G _ _ (O e).rk) (h.cell 5) (h.cell 4)<|e.u5 h (i:=0) (yY _) rfl oO 0 rfl ((O e).ev _ (zX R)) aw λE B2 am e h _=>?_
  case' a2=>
   have h:=oG h;refine Ko h 2 rfl xr.2.1<|Ko h 3 rfl xl.2.1<|eE.cK ((o.rk).q8 h.fr) (nl.J5.length-1) rfl hi λag G=>Ko h 2 rfl xr.2.2.1<|Ko h 3 rfl xl.2.2.1<|eE.cK ((o.rv).q8 h.fr) (nl.J5.length-1) rfl R λaD U=>oB h λah ai _ _ h=>tz (U _ _ (O (e0.J0 h)).rv) (h.cell 4) (h.cell 3) (h.cell 3)<|oB h λak al _ _ h=>?_;have e:=e0.J0 h;refine tz (h.cell 4) (G _ _ (O e).rk) (h.cell 5) (h.cell 4)<|e.cQ h (i:=0) (yY _) rfl oK 1 rfl ((O e).ek _ (zX hi)) aa λC B1 aj e h _=>nA (U _ _ (O e).rv) (h.cell 5) (h.cell 4)<|e.u5 h (i:=0) (yY _) rfl oO 0 rfl ((O e).ev _ (zX R)) aw λE B2 am e h _=>?_
  case' a3=>
   have h:=oG h;refine Ko h 2 rfl xr.2.1<|Ko h 3 rfl xl.2.1<|eE.cK ((o.rk).q8 h.fr) (nl.J5.length-1) rfl hi λag G=>Ko h 2 rfl xr.2.2.1<|Ko h 3 rfl xl.2.2.1<|eE.cK ((o.rv).q8 h.fr) (nl.J5.length-1) rfl R λaD U=>oB h λah ai _ _ h=>tz (h.cell 3) (G _ _ (O (e0.J0 h)).rk) (h.cell 4) (h.cell 3)<|oB h λak al _ _ h=>?_;have e:=e0.J0 h;refine tz (U _ _ (O e).rv) (h.cell 5) (h.cell 4) (h.cell 4)<|e.cQ h (i:=0) (yY _) rfl oK 0 rfl ((O e).ek _ (zX hi)) aa λC B1 aj e h _=>nA (U _ _ (O e).rv) (h.cell 5) (h.cell 4)<|e.u5 h (i:=0) (yY _) rfl oO 1 rfl ((O e).ev _ (zX R)) aw λE B2 am e h _=>?_
  all_goals
   refine oE h 4 rfl (fE (xr.1,C,xr.2.2.1,xr.2.2.2)) λaO h _=>oE h 4 rfl (fE (xr.1,C,E,xr.2.2.2)) λaP h _=>?_;have h:=oG h;refine Ko h 5 rfl xl.2.1<|kD.upto aB (nl.J5.length-1) rfl oK λI an=>Ko h 5 rfl xl.2.2.1<|kD.upto aC (nl.J5.length-1) rfl oK λJ ao=>oE h 5 rfl (fE (xl.1,I,xl.2.2.1,xl.2.2.2)) λaQ h _=>oE h 5 rfl (fE (xl.1,I,J,xl.2.2.2)) λaR h _=>?_;have h:=oG h;refine Kq h 5 rfl (xl.1,I,J,xl.2.2.2)<|Kq h 4 rfl (xr.1,C,E,xr.2.2.2)<|Ko h 4 rfl C ?_;have e:=e.J0 h;have h:=nd h (.refl _);obtain⟨q0,qN,⟨qk,aq,aG⟩,q4,q5⟩:=e.cC;have ax:0<qk.length:=by
    have:=Kg List.length aG;dsimp only at this;rw[Ct,zK,yJ] at this;omega
   have aT:qk[0].2=pk[nl.J5.length-1].2:=(by rw[<- A2 ax,aG];dsimp only;rw[Ct];rfl);refine eE.cK aq.1 0 rfl ax λbj aH=>oE h 3 rfl (fE (xl.1,I,J,xl.2.2.2)) λaU h _=>nA (aH [] _ (aq.1.j0 (h.fr.mono λb u _=>zoT u) λ_ h=>nomatch h)) (h.cell 4) (h.cells 4)<|oE h 2 rfl (fE (xr.1,C,E,xr.2.2.2)) λay h _=>kH (aH [] _ (aq.1.j0 (h.fr.mono λb u _=>zoT u) λ_ h=>nomatch h)) (h.cell 4)<|Kq h 3 rfl (xl.1,I,J,xl.2.2.2)<|Kq h 2 rfl (xr.1,C,E,xr.2.2.2) ?_;have ar:=sO (aq.2 _ (zX ax)) h;rw[aT] at ar;have e:=e.J0 h;have hR:=e.cC.j6 (S':=Zo FD Y F) λb u=>.inl (CU b u);rw[Ct,Ct] at hR;exact kk (xl.1,I,J,xl.2.2.2) (xr.1,C,E,xr.2.2.2) _ ay (e.tD.y0 λb u=>by simp[u]) ⟨Q.Q3,⟨λa ha=>o.nb.1 a (yW ha),λa ha=>o.nb.2.1 a (yW ha),o.nb.2.2⟩,⟨_,an.j0 (ad e) ae,by rw[B0,o.J5]⟩,⟨_,ao.j0 (ad e) ae,by rw[B0,o.J9]⟩,o.ri.j0 (ad e) ae⟩
    hR (ar.j0 (.refl _ _) λb u=>.inl (CU b u)) e.fr
 ·rw[Q.Q3] at hc;have aV:¬nl.Q3=true:=(by rw[hc];decide);have il:=sl.inner hc;have hG:jS nl nr key=({ nl with J5:=nl.J5.take (nl.J5.length-1),J8:=nl.J8.take (nl.J5.length-1+1) },{ nr with J5:=key::nr.J5,J8:=nl.J8.getD (nl.J5.length-1+1) 0::nr.J8 },nl.J5.getD (nl.J5.length-1) []):=(by unfold jS;rw[iN aV]);have hi:nl.J5.length-1<pk.length:=oK;have ap:nl.J5.length-1+1<nl.J8.length:=oK;rw[hG,o.pc hi,wU ap] at kk;have aa:iX nl.J8[nl.J5.length-1+1]:=o.nb.2.2 _ (zX ap);have aW:wrap .i64 (((nl.J5.length-1:Nat):Int)+1)=((nl.J5.length-1+1:Nat):Int):=ud oK;rw[aW];have kw:∀ {w' T x' n' B'},Ed dbk pb FD D j (Br++F) Br w0 w' T (Bl++Y) F M x' n' B'->eK (Zo FD (T++(B'++(Bl++Y))) F) w' ks key:=λe=>hk.j0 (e.fr.mono λb u _=>ab b (ac b u)) (nZ e);refine Ko h 3 rfl xl.2.1<|eE.cK ((o.rk).q8 h.fr) (nl.J5.length-1) rfl hi λa7 a8=>⟨?b1,?b2,?b3⟩;case' b1=>
   have h:=oG h;refine Ko h 2 rfl xr.2.1<|Ko h 2 rfl xr.2.2.2<|Ko h 3 rfl xl.2.2.2<|eE.cR ((o.ri).q8 h.fr) (nl.J5.length-1+1) rfl ap λag G=>oB h λah ai _ _ h=>?_;have e:=e0.J0 h;refine tz (G _ _ (O e).ri) (h.cell 4) (h.cell 3) (h.cell 3)<|e.cQ h (i:=0) (yY _) rfl oK 0 rfl (kw e) au λC B1 aj e h _=>nA (G _ _ (O e).ri) (h.cell 4) (h.cell 3)<|oB h λak al _ _ h=>?_;have e:=e.J0 h;refine kH (h.cell 4) (h.cell 4)<|e.uZ h (i:=0) (yY _) rfl oO 0 rfl aa λE B2 am e h _=>?_
  case' b2=>
   have h:=oG h;refine Ko h 2 rfl xr.2.1<|Ko h 2 rfl xr.2.2.2<|Ko h 3 rfl xl.2.2.2<|eE.cR ((o.ri).q8 h.fr) (nl.J5.length-1+1) rfl ap λag G=>oB h λah ai _ _ h=>tz (G _ _ (O (e0.J0 h)).ri) (h.cell 4) (h.cell 3) (h.cell 3)<|oB h λak al _ _ h=>?_;have e:=e0.J0 h;refine kH (h.cell 4) (h.cell 4)<|e.cQ h (i:=0) (yY _) rfl oK 1 rfl (kw e) au λC B1 aj e h _=>nA (G _ _ (O e).ri) (h.cell 5) (h.cell 4)<|e.uZ h (i:=0) (yY _) rfl oO 0 rfl aa λE B2 am e h _=>?_
  case' b3=>
   have h:=oG h;refine Ko h 2 rfl xr.2.1<|Ko h 2 rfl xr.2.2.2<|Ko h 3 rfl xl.2.2.2<|eE.cR ((o.ri).q8 h.fr) (nl.J5.length-1+1) rfl ap λag G=>oB h λah ai _ _ h=>kH (h.cell 3) (h.cell 3)<|oB h λak al _ _ h=>?_;have e:=e0.J0 h;refine tz (G _ _ (O e).ri) (h.cell 5) (h.cell 4) (h.cell 4)<|e.cQ h (i:=0) (yY _) rfl oK 0 rfl (kw e) au λC B1 aj e h _=>nA (G _ _ (O e).ri) (h.cell 5) (h.cell 4)<|e.uZ h (i:=0) (yY _) rfl oO 1 rfl aa λE B2 am e h _=>?_
  all_goals
   refine oE h 4 rfl (fE (xr.1,C,xr.2.2.1,xr.2.2.2)) λaO h _=>oE h 4 rfl (fE (xr.1,C,xr.2.2.1,E)) λaP h _=>?_;have h:=oG h;refine Ko h 5 rfl xl.2.1<|kD.upto aB (nl.J5.length-1) rfl oK λI an=>Ko h 5 rfl xl.2.2.2<|eE.Dw o.ri (nl.J5.length-1+1) rfl oK λJ ao=>oE h 5 rfl (fE (xl.1,I,xl.2.2.1,xl.2.2.2)) λaQ h _=>oE h 5 rfl (fE (xl.1,I,xl.2.2.1,J)) λaR h _=>?_;have h:=oG h;refine Kq h 5 rfl (xl.1,I,xl.2.2.1,J)<|Kq h 4 rfl (xr.1,C,xr.2.2.1,E)<|oE h 3 rfl (fE (xl.1,I,xl.2.2.1,J)) λaU h _=>ja (h.cells 4)<|oE h 2 rfl (fE (xr.1,C,xr.2.2.1,E)) λay h _=>Kq h 3 rfl (xl.1,I,xl.2.2.1,J)<|Kq h 2 rfl (xr.1,C,xr.2.2.1,E) ?_;have e:=e.J0 h;have hR:=e.cC.j6 (S':=Zo FD Y F) λb u=>.inl (CU b u);rw[Ct,Ct] at hR;exact kk (xl.1,I,xl.2.2.1,J) (xr.1,C,xr.2.2.1,E) _ ay (e.tD.y0 λb u=>by simp[u]) ⟨Q.Q3,⟨λa ha=>o.nb.1 a (yW ha),o.nb.2.1,λa ha=>o.nb.2.2 a (yW ha)⟩,⟨_,an.j0 (ad e) ae,by rw[B0,o.J5]⟩,⟨_,aC.j0 (ad e) ae,o.J9⟩,ao.j0 (ad e) ae⟩
    hR (((O e).ek _ (zX hi)).j0 (.refl _ _) λb u=>.inl (by simp only[Zo,zD,zG] at u⊢;rcases u with (u|u|u)|u<;>simp[u])) e.fr
end
end
section
section
variable {dbk pb j:Nat} {FD Y F Bl Br:Kr} {D:dV} {w0:Kj} {M:eZ} {xl xr:lJ} {nl nr:dW} {ks:Sl} {key:Key}
def qz0{K:lJ×lJ×Sl->WP}(hT:TW dbk pb FD D j w0 (Bl++(Br++Y)) F M)(hl:fU (Zo FD (Bl++(Br++Y)) F) w0 xl nl Bl)(hr:fU (Zo FD (Bl++(Br++Y)) F) w0 xr nr Br)(d1:∀b∈Bl,b∉Br)(d2:∀b∈Bl,b∉Y)(d3:∀b∈Br,b∉Y)(hk:eK (Zo FD (Bl++(Br++Y)) F) w0 ks key)(aq:ft key)(ay:nl.Q3=nr.Q3)(h1:1<=nr.J5.length)(h2:nr.Q3=true->2<=nr.J5.length)(sl:iH nl)(sr:iH nr)(kk:∀yl yr az w',TW dbk pb FD D j w' Y F M->eY (Zo FD Y F) w' yl (takeN nl nr key).1->eY (Zo FD Y F) w' yr (takeN nl nr key).2.1->eK (Zo FD Y F) w' az (takeN nl nr key).2.2->Fr (Bl++F) w0 w'->K (yl,yr,az) w'): cW 245 [.agg (fE xl),.agg (fE xr),ks.v] [.agg eJ,.agg eJ,.one .slice] w0 K:=by
 refine qtH ?_;unfold Fl Ez;obtain⟨pk,pv,o⟩:=hr.DA (S0:=Bl++Zo FD Y F) λb u hm=>by rcases zD.1 hm with hm|hm;exact d1 b hm u;have h0:=hT.sep b (by simp[u]);simp only[Zo,zD,zG] at hm;rcases hm with (hm|hm|hm)|hm;exact h0.1 hm;exact h0.2 hm;exact d3 b u hm;exact hT.yf b (by simp[u]) hm
 have e0:Ed dbk pb FD D j (Bl++F) Bl w0 w0 [] (Br++Y) F M xl nl Bl:=⟨⟨.refl _ _,λb u=>.inl (by simp[u]),λ_ h=>nomatch h⟩,hT,hl,λ_ h=>(nomatch h),λb u=>.inl u,λb u=>by simp[u],λb u hm=>(zD.1 hm).elim (d1 b u) (d2 b u)⟩;have ac:∀b∈Bl++Zo FD Y F,b∈Zo FD (Bl++(Br++Y)) F:=λb u=>by simp only[Zo,zD,zG] at u⊢;rcases u with u|(u|u|u)|u<;>simp[u]
 have ad:∀b∈Bl++F,b∈Bl++Zo FD Y F:=λb u=>by simp only[Zo,zD,zG] at u⊢;rcases u with u|u<;>simp[u]
 have nZ:∀ {w' T x' n' B'},Ed dbk pb FD D j (Bl++F) Bl w0 w' T (Br++Y) F M x' n' B'->ow (Zo FD (Bl++(Br++Y)) F) w0 (Zo FD (T++(B'++(Br++Y))) F):=λe b u=>by simp only[Zo,zD,zG] at u;rcases u with (u|u|u|u|u|u)|u;exact .inl (by simp[u]);exact .inl (by simp[u]);exact (e.sg.own b u).imp (λh=>ac b (ad b h)) id;exact (e.cJ b u).imp (λh=>ac b (ad b (e.cT b h))) id;exact .inl (by simp[u]);exact .inl (by simp[u]);exact .inl (by simp[u])
 have J:∀ {w' T x' n' B'},Ed dbk pb FD D j (Bl++F) Bl w0 w' T (Br++Y) F M x' n' B'->sA (Bl++Zo FD Y F) (Zo FD (T++(B'++(Br++Y))) F) w' xr nr pk pv:=λe=>o.j0 e.fr ad (λb u=>ac b (ad b u)) (λb u=>.inl u) (nZ e);have aA:=o.rdK ac;have aB:=o.rdV ac;have Q:∀ {w' T x' n' B'},Ed dbk pb FD D j (Bl++F) Bl w0 w' T (Br++Y) F M x' n' B'->Fr (Bl++Zo FD Y F) w0 w':=λe=>e.fr.mono λb u _=>ad b u;have ae:∀b∈Zo FD Y F,b∈Bl++Zo FD Y F\/w0.heap.size<=b:=λb u=>.inl (zI _ u);have al:=o.lens;have kl:=o.vM;have vl:=o.AZ;have sk:=sr.J5;have bj:=sl.J5;have bk:=sl.J9;have bl:=sl.J8;have h:=oF [] w0;refine oB h λr1 w2 _ _ h=>oB h λr3 w4 _ _ h=>oB h λr5 w6 _ _ h=>oB h λr7 w8 _ _ h=>Ko h 3 rfl xl.1 ?_;apply eV<;>intro hc
 ·rw[hl.1] at hc;have aC:nr.Q3=true:=(by rw[<- ay];exact hc);have h2:=h2 aC;have bm:=sr.Q3 aC;have hG:takeN nl nr key=({ nl with J5:=nl.J5++[nr.J5.getD 0 []],J9:=nl.J9++[nr.J9.getD 0 []] },{ nr with J5:=nr.J5.drop 1,J9:=nr.J9.drop 1 },(nr.J5.drop 1).getD 0 []):=(by unfold takeN;rw[iP hc]);have hi:0<pk.length:=oK;have R:0<pv.length:=oK;have au:0<(pk.drop 1).length:=(by rw[yC];omega);have aW:(nr.J5.drop 1).getD 0 []=(pk.drop 1)[0].2:=(by rw[<- o.J5,<- AX,A2 au]);rw[hG,o.pc hi,o.uC R,aW] at kk;have ab:ft pk[0].2:=(by rw[<- o.pc hi];exact vo o.nb.1 _);have av:ft pv[0].2:=(by rw[<- o.uC R];exact vo o.nb.2.1 _);refine⟨?a1,?a2,?a3⟩;case' a1=>
   have h:=oG h;refine Ko h 3 rfl xl.2.1<|Ko h 2 rfl xr.2.1<|eE.cK ((o.rk).q8 h.fr) 0 rfl hi λaD ag=>Ko h 3 rfl xl.2.2.1<|Ko h 2 rfl xr.2.2.1<|eE.cK ((o.rv).q8 h.fr) 0 rfl R λaE U=>oB h λaF aG _ _ h=>?_;have e:=e0.J0 h;refine tz (U _ _ (J e).rv) (h.cell 3) (h.cell 4) (h.cell 4)<|e.rV h oK 0 rfl ((J e).ek _ (zX hi)) ab λC B1 aI e h _=>nA (U _ _ (J e).rv) (h.cell 3) (h.cell 4)<|oB h λaJ aK _ _ h=>?_;have e:=e.J0 h;refine tz (h.cell 5) (ag _ _ (J e).rk) (h.cell 4) (h.cell 5)<|e.AY h oO 0 rfl ((J e).ev _ (zX R)) av λE B2 aM e h _=>?_
  case' a2=>
   have h:=oG h;refine Ko h 3 rfl xl.2.1<|Ko h 2 rfl xr.2.1<|eE.cK ((o.rk).q8 h.fr) 0 rfl hi λaD ag=>Ko h 3 rfl xl.2.2.1<|Ko h 2 rfl xr.2.2.1<|eE.cK ((o.rv).q8 h.fr) 0 rfl R λaE U=>oB h λaF aG _ _ h=>tz (U _ _ (J (e0.J0 h)).rv) (h.cell 3) (h.cell 4) (h.cell 4)<|oB h λaJ aK _ _ h=>?_;have e:=e0.J0 h;refine tz (h.cell 5) (ag _ _ (J e).rk) (h.cell 4) (h.cell 5)<|e.rV h oK 1 rfl ((J e).ek _ (zX hi)) ab λC B1 aI e h _=>nA (U _ _ (J e).rv) (h.cell 4) (h.cell 5)<|e.AY h oO 0 rfl ((J e).ev _ (zX R)) av λE B2 aM e h _=>?_
  case' a3=>
   have h:=oG h;refine Ko h 3 rfl xl.2.1<|Ko h 2 rfl xr.2.1<|eE.cK ((o.rk).q8 h.fr) 0 rfl hi λaD ag=>Ko h 3 rfl xl.2.2.1<|Ko h 2 rfl xr.2.2.1<|eE.cK ((o.rv).q8 h.fr) 0 rfl R λaE U=>oB h λaF aG _ _ h=>tz (h.cell 4) (ag _ _ (J (e0.J0 h)).rk) (h.cell 3) (h.cell 4)<|oB h λaJ aK _ _ h=>?_;have e:=e0.J0 h;refine tz (U _ _ (J e).rv) (h.cell 4) (h.cell 5) (h.cell 5)<|e.rV h oK 0 rfl ((J e).ek _ (zX hi)) ab λC B1 aI e h _=>nA (U _ _ (J e).rv) (h.cell 4) (h.cell 5)<|e.AY h oO 1 rfl ((J e).ev _ (zX R)) av λE B2 aM e h _=>?_
  all_goals
   refine oE h 5 rfl (fE (xl.1,C,xl.2.2.1,xl.2.2.2)) λak h _=>oE h 5 rfl (fE (xl.1,C,E,xl.2.2.2)) λaX h _=>?_;have h:=oG h;refine Ko h 4 rfl xr.2.1<|kD.from aA 1 rfl oK λG O=>Ko h 4 rfl xr.2.2.1<|kD.from aB 1 rfl oK λI ah=>oE h 4 rfl (fE (xr.1,G,xr.2.2.1,xr.2.2.2)) λaY h _=>oE h 4 rfl (fE (xr.1,G,I,xr.2.2.2)) λaZ h _=>?_;have h:=oG h;refine Kq h 5 rfl (xl.1,C,E,xl.2.2.2)<|Kq h 4 rfl (xr.1,G,I,xr.2.2.2)<|Ko h 4 rfl G<|eE.cK (O.j0 (Q (e.J0 h)) λb u=>.inl u).1 0 rfl au λbn aN=>oE h 3 rfl (fE (xl.1,C,E,xl.2.2.2)) λa0 h _=>nA (aN _ _ (O.j0 (Q (e.J0 h)) λb u=>.inl u).1) (h.cell 4) (h.cells 4)<|oE h 2 rfl (fE (xr.1,G,I,xr.2.2.2)) λaw h _=>kH (aN _ _ (O.j0 (Q (e.J0 h)) λb u=>.inl u).1) (h.cell 4)<|Kq h 3 rfl (xl.1,C,E,xl.2.2.2)<|Kq h 2 rfl (xr.1,G,I,xr.2.2.2) ?_;have e:=e.J0 h;have hR:=e.cC.j6 (S':=Zo FD Y F) λb u=>.inl (CU b u);have ai:=O.j0 (Q e) ae;exact kk (xl.1,C,E,xl.2.2.2) (xr.1,G,I,xr.2.2.2) _ aw (e.tD.y0 λb u=>by simp[u]) hR ⟨al.Q3,⟨λa ha=>o.nb.1 a (yV ha),λa ha=>o.nb.2.1 a (yV ha),o.nb.2.2⟩,⟨_,ai,by rw[AX,o.J5]⟩,⟨_,ah.j0 (Q e) ae,by rw[AX,o.J9]⟩,o.ri.j0 (Q e) ae⟩
    (ai.2 _ (zX au)) e.fr
 ·rw[hl.1] at hc;have a5:¬nl.Q3=true:=(by rw[hc];decide);have il:=sr.inner (by rw[<- ay];exact hc);have hG:takeN nl nr key=({ nl with J5:=nl.J5++[key],J8:=nl.J8++[nr.J8.getD 0 0] },{ nr with J5:=nr.J5.drop 1,J8:=nr.J8.drop 1 },nr.J5.getD 0 []):=(by unfold takeN;rw[iN a5]);have hi:0<pk.length:=oK;have aj:0<nr.J8.length:=oK;rw[hG,o.pc hi,wU aj] at kk;have ab:iX nr.J8[0]:=o.nb.2.2 _ (zX aj);have kw:∀ {w' T x' n' B'},Ed dbk pb FD D j (Bl++F) Bl w0 w' T (Br++Y) F M x' n' B'->eK (Zo FD (T++(B'++(Br++Y))) F) w' ks key:=λe=>hk.j0 (e.fr.mono λb u _=>ac b (ad b u)) (nZ e);refine Ko h 2 rfl xr.2.1<|eE.cK ((o.rk).q8 h.fr) 0 rfl hi λbc bd=>⟨?b1,?b2,?b3⟩;case' b1=>
   have h:=oG h;refine Ko h 3 rfl xl.2.1<|Ko h 3 rfl xl.2.2.2<|Ko h 2 rfl xr.2.2.2<|eE.cR ((o.ri).q8 h.fr) 0 rfl aj λaO V=>oB h λam an _ _ h=>?_;have e:=e0.J0 h;refine tz (V _ _ (J e).ri) (h.cell 3) (h.cell 4) (h.cell 4)<|e.rV h oK 0 rfl (kw e) aq λC B1 aP e h _=>nA (V _ _ (J e).ri) (h.cell 3) (h.cell 4)<|oB h λao ap _ _ h=>?_;have e:=e.J0 h;refine kH (h.cell 5) (h.cell 5)<|e.AE h oO 0 rfl ab λE B2 ak e h _=>?_
  case' b2=>
   have h:=oG h;refine Ko h 3 rfl xl.2.1<|Ko h 3 rfl xl.2.2.2<|Ko h 2 rfl xr.2.2.2<|eE.cR ((o.ri).q8 h.fr) 0 rfl aj λaO V=>oB h λam an _ _ h=>tz (V _ _ (J (e0.J0 h)).ri) (h.cell 3) (h.cell 4) (h.cell 4)<|oB h λao ap _ _ h=>?_;have e:=e0.J0 h;refine kH (h.cell 5) (h.cell 5)<|e.rV h oK 1 rfl (kw e) aq λC B1 aP e h _=>nA (V _ _ (J e).ri) (h.cell 4) (h.cell 5)<|e.AE h oO 0 rfl ab λE B2 ak e h _=>?_
  case' b3=>
   have h:=oG h;refine Ko h 3 rfl xl.2.1<|Ko h 3 rfl xl.2.2.2<|Ko h 2 rfl xr.2.2.2<|eE.cR ((o.ri).q8 h.fr) 0 rfl aj λaO V=>oB h λam an _ _ h=>kH (h.cell 4) (h.cell 4)<|oB h λao ap _ _ h=>?_;have e:=e0.J0 h;refine tz (V _ _ (J e).ri) (h.cell 4) (h.cell 5) (h.cell 5)<|e.rV h oK 0 rfl (kw e) aq λC B1 aP e h _=>nA (V _ _ (J e).ri) (h.cell 4) (h.cell 5)<|e.AE h oO 1 rfl ab λE B2 ak e h _=>?_
  all_goals
   refine oE h 5 rfl (fE (xl.1,C,xl.2.2.1,xl.2.2.2)) λak h _=>oE h 5 rfl (fE (xl.1,C,xl.2.2.1,E)) λaX h _=>?_;have h:=oG h;refine Ko h 4 rfl xr.2.1<|kD.from aA 1 rfl oK λG O=>Ko h 4 rfl xr.2.2.2<|eE.Ad o.ri 1 rfl oK λI ah=>oE h 4 rfl (fE (xr.1,G,xr.2.2.1,xr.2.2.2)) λaY h _=>oE h 4 rfl (fE (xr.1,G,xr.2.2.1,I)) λaZ h _=>?_;have h:=oG h;refine Kq h 5 rfl (xl.1,C,xl.2.2.1,E)<|Kq h 4 rfl (xr.1,G,xr.2.2.1,I)<|oE h 3 rfl (fE (xl.1,C,xl.2.2.1,E)) λa0 h _=>ja (h.cells 4)<|oE h 2 rfl (fE (xr.1,G,xr.2.2.1,I)) λaw h _=>Kq h 3 rfl (xl.1,C,xl.2.2.1,E)<|Kq h 2 rfl (xr.1,G,xr.2.2.1,I) ?_;have e:=e.J0 h;have hR:=e.cC.j6 (S':=Zo FD Y F) λb u=>.inl (CU b u);exact kk (xl.1,C,xl.2.2.1,E) (xr.1,G,xr.2.2.1,I) _ aw (e.tD.y0 λb u=>by simp[u]) hR ⟨al.Q3,⟨λa ha=>o.nb.1 a (yV ha),o.nb.2.1,λa ha=>o.nb.2.2 a (yV ha)⟩,⟨_,O.j0 (Q e) ae,by rw[AX,o.J5]⟩,⟨_,aB.j0 (Q e) ae,o.J9⟩,ah.j0 (Q e) ae⟩
    (((J e).ek _ (zX hi)).j0 (.refl _ _) λb u=>.inl (by simp only[Zo,zD,zG] at u⊢;rcases u with (u|u|u)|u<;>simp[u])) e.fr
end
end
section
section
variable {dbk pb j:Nat} {FD S S0 S1 N0 Y Y1 F F' T B Bl Br Bn:Kr} {D:dV} {w0 wa w w':Kj} {M M':eZ} {L:Kz} {x xl xr:lJ} {n nl nr:dW} {k v:Nat} {t:Int}
def qBi(g:Sg S0 w0 wa F T)(u:∀b∈S0,b∈S1):Sg S1 w0 wa F T:=⟨g.sP.mono λb h _=>u b h,λb h=>(g.new b h).imp (u b) id,λb h=>(g.own b h).imp (u b) id⟩
structure qh (FD F:Kr) (w:Kj) (T R:Kr) (x:lJ) (n:dW) (B:Kr):Prop where
 node:fU (Zo FD (T++R) F) w x n B
 sep:∀ b∈T,b∉B
def qh.J0{R:Kr}(o:qh FD F wa T R x n B)(h:ed T wa w L):qh FD F w (fY L) R x n B:=
 ⟨o.node.j0 h.fr (λb u C=>o.sep b C u) (λb u=>.inl (by simp[u])) (Fs h),λb u C=>by
  obtain⟨q,G,rfl⟩:=mem_map.1 u;rcases h.own q G with E|E;exact o.sep _ E C;have:=o.node.lt _ C;omega⟩
def Ed.base(e:Ed dbk pb FD D j S0 N0 w0 w T Y F M x n B)(C:∀b∈S0,b∈Z)(E:∀b∈FD,b∈Z)(G:HG∈Z)(I:∀b∈Y,b∈Z):ow Z w0 (Zo FD (T++(B++Y)) F):=λb u=>by simp only[Zo,zD,zG] at u;rcases u with (u|u|u|u|u)|u;exact .inl (E b u);rw[u];exact .inl G;exact (e.sg.own b u).imp (C b) id;exact (e.cJ b u).imp (λh=>C b (e.cT b h)) id;exact .inl (I b u);exact (e.sg.new b u).imp (C b) id
def Ed.Q9(e:Ed dbk pb FD D j S0 N0 w0 w T Y F M x n B)(hn:fU Z w0 xl nl Bn)(R:∀b∈Bn,b∉S0)(U:∀b∈S0,b∈Z)(G:∀b∈FD,b∈Z)(I:HG∈Z)(hY:∀b∈Y,b∈Z)(C:∀b∈Bn++Y1,b∈Y)(J:∀b∈Bn,b∉Y1)(O:∀b∈Bn,b<w0.heap.size): Ed dbk pb FD D j (Bn++S0) Bn w0 w T Y1 F M xl nl Bn:=by
 have hz:=e.base U G I hY;have E:∀b∈Zo FD (T++(Bn++Y1)) F,b∈Zo FD (T++(B++Y)) F:=λb u=>by simp only[Zo,zD,zG] at u⊢;have Q:=λh=>C b h;simp only[zD] at Q;rcases u with (u|u|u|u|u)|u;simp[u];simp[u];simp[u];simp[Q (.inl u)];simp[Q (.inr u)];simp[u]
 refine⟨qBi e.sg λb u=>zI _ u,e.tw.y0 λb u=>?_,hn.j0 e.fr R (λb u=>.inl (U b u)) λb u=>hz b (E b u),λb u V=>?_,λb u=>.inl u,λb u=>zH _ u,J⟩;rcases zD.1 u with u|u;simp[u];exact zI _ (zI _ (C b u));rcases e.sg.own b u with h1|h1;exact R b V h1;have:=O b V;omega
def qCf:∀b∈Bn++(Br++Y),b∈Zo FD (Bl++(Bn++(Br++Y))) F:=λb u=>by simp only[Zo,zD,zG] at u⊢;rcases u with h|h|h<;>simp[h]
def qBK:∀b∈Bn++Y,b∈Bn++(Br++Y):=λb u=>by simp only[zD] at u⊢;rcases u with h|h<;>simp[h]
def qBL:∀b∈Zo FD (T++(Bn++Y)) F,b∈Zo FD (T++(Bn++(Br++Y))) F:=λb u=>by simp only[Zo,zD,zG] at u⊢;rcases u with (h|h|h|h|h)|h<;>simp[h]
def qzv{K:lJ×Int->WP}(hT:TW dbk pb FD D j w0 (Bl++(Bn++(Br++Y))) F M)(hl:fU (Zo FD (Bl++(Bn++(Br++Y))) F) w0 xl nl Bl)(hn:fU (Zo FD (Bl++(Bn++(Br++Y))) F) w0 x n Bn)(hr:fU (Zo FD (Bl++(Bn++(Br++Y))) F) w0 xr nr Br)(d1:∀b∈Bl,b∉Bn)(d2:∀b∈Bl,b∉Br)(d3:∀b∈Bl,b∉Y)(d4:∀b∈Bn,b∉Br)(d5:∀b∈Bn,b∉Y)(sl:iH nl)(sr:iH nr)(sn:iH n)(hi:i<n.J5.length)(av:n.Q3=false)(O:∀yn B' F' w',TW dbk pb FD D j w' (B'++Y) F' (mY k v M n i nl nr).2->fU (Zo FD (B'++Y) F') w' yn (mY k v M n i nl nr).1.1 B'->Fr (Bn++(Bl++F)) w0 w'->(∀b∈B',b∈Bn\/w0.heap.size<=b)->(∀b∈F',b∈Bn++(Bl++F)\/w0.heap.size<=b)->K (yn,(mY k v M n i nl nr).1.2) w'): cW 243 [.agg (qc (lf k v pb t)),.agg (fE x),.i i,.agg (fE xl),.agg (fE xr)] [.agg eJ,.one .i] w0 K:=by
 refine qmL ?_;have e0:Ed dbk pb FD D j (Bl++F) Bl w0 w0 [] (Bn++(Br++Y)) F M xl nl Bl:=⟨⟨.refl _ _,λb u=>.inl (by simp[u]),λ_ h=>nomatch h⟩,hT,hl,λ_ h=>(nomatch h),λb u=>.inl u,λb u=>by simp[u],λb u G=>by simp only[zD] at G;rcases G with G|G|G;exact d1 b u G;exact d2 b u G;exact d3 b u G⟩;have hF:∀ {Bx:Kr},(∀b∈Bx,b∈Bn\/b∈Br)->(∀b∈Bx,b∉Bl)->∀b∈Bx,b∉Bl++F:=λh1 h2 b u G=>(zD.1 G).elim (h2 b u) λG=>hT.yf b (by rcases h1 b u with h|h<;>simp[h]) G;have dn:=hF (Bx:=Bn) (λb u=>.inl u) λb u G=>d1 b G u;obtain⟨nk,nv,on⟩:=hn.DA (S0:=Bl++F) dn;obtain⟨rk,rv,E⟩:=hr.DA (S0:=Bl++F) (hF (λb u=>.inr u) λb u G=>d2 b G u);have aa:∀b∈Bl++F,b∈Zo FD (Bl++(Bn++(Br++Y))) F:=λb u=>by rcases zD.1 u with u|u<;>simp[u]
 have nZ:∀ {w' T x' n' B'},Ed dbk pb FD D j (Bl++F) Bl w0 w' T (Bn++(Br++Y)) F M x' n' B'->ow (Zo FD (Bl++(Bn++(Br++Y))) F) w0 (Zo FD (T++(B'++(Bn++(Br++Y)))) F):=λe=>e.base aa (λb u=>by simp[u]) oM λb u=>by simp only[Zo,zD,zG] at u⊢;rcases u with h|h|h<;>simp[h]
 have nw:∀ {w' T x' n' B'},Ed dbk pb FD D j (Bl++F) Bl w0 w' T (Bn++(Br++Y)) F M x' n' B'->sA (Bl++F) (Zo FD (T++(B'++(Bn++(Br++Y)))) F) w' x n nk nv:=λe=>on.j0 e.fr (λb u=>u) aa (λb u=>.inl u) (nZ e);have R:∀ {w' T x' n' B'},Ed dbk pb FD D j (Bl++F) Bl w0 w' T (Bn++(Br++Y)) F M x' n' B'->sA (Bl++F) (Zo FD (T++(B'++(Bn++(Br++Y)))) F) w' xr nr rk rv:=λe=>E.j0 e.fr (λb u=>u) aa (λb u=>.inl u) (nZ e);have ab:i<nk.length:=(by rw[on.vM];exact hi);have a1:=sn.inner av;have ac:i<n.J8.length:=oK;have ae:i+1<n.J8.length:=oK;have z1:=sl.J5;have z2:=sl.J9;have z3:=sl.J8;have z4:=sr.J5;have z5:=sr.J9;have z6:=sr.J8;have z7:=sn.J5;have z8:=sn.J8;have a2:=E.vM;have a3:=E.AZ;have h:=oF [] w0;refine oB h λr1 w2 _ _ h=>oB h λr3 w4 _ _ h=>oB h λr5 w6 _ _ h=>oB h λr7 w8 _ _ h=>oB h λr9 a4 _ _ h=>je (λ_ w'=>∃I B',ed [r9,r7,r5,r3,r1] w' w' [(r9,.c (fE gp) ND),(r7,.c (fE xr) ND),(r5,.c (fE (xl.1,I,xl.2.2)) ND),(r3,.c (fE x) ND),(r1,.c (qc (lf k v pb t)) WK)]/\
  Ed dbk pb FD D j (Bl++F) Bl w0 w' [r9,r7,r5,r3,r1] (Bn++(Br++Y)) F M (xl.1,I,xl.2.2) { nl with J5:=if nl.Q3 then nl.J5 else nl.J5++[n.J5.getD i []] } B') ?_ ?_
 refine Ko h 2 rfl xl.1 ?_;apply eV<;>intro C;have C:nl.Q3=false:=(by rw[hl.1,zT] at C;exact C);rw[iN (show ¬nl.Q3=true by rw[C];decide),on.pc ab];have h:=oG h;refine Ko h 2 rfl xl.2.1<|Ko h 3 rfl x.2.1<|eE.get (on.rk.q8 h.fr) i rfl (x:=nk[i].1) (by rw[zQ,zA ab];rfl) (y:=nk[i].1) rfl<|oB h λa5 a6 _ _ h=>ja (h.cell 3) ?_;have e:=e0.J0 h;exact e.rV h oK 0 rfl ((nw e).ek _ (zX ab)) (by rw[<- on.pc ab];exact vo on.nb.1 _) λI B1 a7 e h _=>oE h 3 rfl (fE (xl.1,I,xl.2.2)) λa8 h _=>⟨I,B1,nd h (.cons _ (.refl _)),(e.J0 h).sub oM⟩;have C:nl.Q3=true:=(by rw[hl.1,yF] at C;exact C);rw[iP C];exact⟨xl.2.1,Bl,nd h (.refl _),e0.J0 h⟩;rintro _ a9 ⟨I,B1,h,e⟩;have e:=e.J0 h;have h:=nd h (.refl _);refine Ko h 2 rfl I<|Ko h 1 rfl xr.2.1 ?_;have aO:(if nl.Q3 then nl.J5 else nl.J5++[n.J5.getD i []]).length<=2001:=by split;omega;rw[zF,xO];omega
 refine e.yu h oO (R e).rk (R e).ek (by rw[E.J5];exact E.nb.1) λU B2 ba e h _=>?_;rw[E.J5] at e;refine oE h 2 rfl (fE (xl.1,U,xl.2.2.1,xl.2.2.2)) λbb h _=>Ko h 2 rfl xl.2.2.1<|Ko h 1 rfl xr.2.2.1 ?_;have e:=e.J0 h;refine e.xm h oO (R e).rv (R e).ev (by rw[E.J9];exact E.nb.2.1) λad B3 bc e h _=>?_;rw[E.J9] at e;refine oE h 2 rfl (fE (xl.1,U,ad,xl.2.2.2)) λbd h _=>Ko h 2 rfl xl.2.2.2<|Ko h 1 rfl xr.2.2.2 ?_;have e:=e.J0 h;refine e.ya h oO (R e).ri E.nb.2.2 λaf B4 bf e h _=>oE h 2 rfl (fE (xl.1,U,ad,af)) λbg h _=>?_;have h:=oG h;have e:=e.J0 h;have h:=nd h (.refl _);refine Kq h 4 rfl (lf k v pb t)<|Ko h 3 rfl x.2.2.2<|eE.get (nw e).ri i rfl (x:=n.J8[i]) (zA ac) (y:=n.J8[i]) rfl<|Kq h 2 rfl (xl.1,U,ad,af) ?_;have hJ:({ Q3:=nl.Q3,J5:=(if nl.Q3 then nl.J5 else nl.J5++[n.J5.getD i []])++nr.J5,J9:=nl.J9++nr.J9,J8:=nl.J8++nr.J8 }:dW)=mc nl nr (n.J5.getD i []):=rfl;have ax:n.J8.getD i 0=n.J8[i]:=wU ac;have aj:n.J8.getD (i+1) 0=n.J8[i+1]:=wU ae;unfold mY at O;rw[ax,aj,<- hJ] at O;have ay:=e.cC.j6 λb u=>.inl (qBL b u);have e:=e.Q9 hn dn aa (λb u=>by simp[u]) oM qCf (Y1:=Y) qBK d5 hn.lt;refine yj e.tw ay (by dsimp only;rw[zF];omega) (by dsimp only;rw[zF];omega) (by dsimp only;rw[zF];omega) λF1 bj ak az aA=>?_;obtain⟨e,h⟩:=e.next h ak az aA;generalize aB:ee k v M n.J8[i] { Q3:=nl.Q3,J5:=(if nl.Q3 then nl.J5 else nl.J5++[n.J5.getD i []])++nr.J5,J9:=nl.J9++nr.J9,J8:=nl.J8++nr.J8 }=st at O e⊢;have hu:iX st.1.1:=(by rw[<- aB];exact xq hT.wf (hn.2.1.2.2 _ (zX ac)));obtain⟨⟨bk,J⟩,M1⟩:=st;dsimp only at O e hu⊢;refine je (λer w'=>∃F2,er=(if J=0 then (fX M1 n.J8[i+1]).1 else J)/\ed [r9,r7,r5,r3,r1] w' w' [(r9,.c (fE gp) ND),(r7,.c (fE xr) ND),(r5,.c (fE (xl.1,U,ad,af)) ND),(r3,.c (fE x) ND),(r1,.c (qc (lf k v pb t)) WK)]/\
  Ed dbk pb FD D j (Bn++(Bl++F)) Bn w0 w' [r9,r7,r5,r3,r1] Y F2 (if J=0 then (fX M1 n.J8[i+1]).2 else M1) x n Bn) ?_ ?_
 apply eV<;>intro C;have C:J=0:=yQ.1 C;rw[iP C,iP C];have h:=oG h;refine Ko h 4 rfl (pW pb)<|Ko h 3 rfl x.2.2.2 ?_;have e:=e.J0 h;have ew:wrap .i64 ((i:Int)+1)=((i+1:Nat):Int):=ud oK;refine eE.get e.y8 (i+1) ew (x:=n.J8[i+1]) (zA ae) (y:=n.J8[i+1]) rfl<|TW.drop e.tw λF2 bl al aC aD=>?_;obtain⟨e,h⟩:=e.next h al aC aD
 exact⟨F2,rfl,h,e⟩;have C:¬J=0:=zR.1 C;rw[iN C,iN C];exact⟨F1,rfl,h,e⟩;rintro er bm ⟨F2,rfl,h,e⟩;have e:=e.J0 h;have h:=nd h (.refl _);have aE:∀ {A B:(dW×Int)×eZ},(if J≠0 then A else B)=if J=0 then B else A:=by intro A B;by_cases h:J=0;rw[iN λh'=>h' h,iP h];rw[iP h,iN h]
 rw[aE] at O;apply eV<;>intro C;have C:(if J=0 then (fX M1 n.J8[i+1]).1 else J)≠0:=by rw[zT] at C;exact zR.1 C
 refine oE h 0 rfl (fE gp) λam h _=>Kq h 0 rfl gp ?_;have e:=e.J0 h;by_cases h0:J=0;rw[iP h0] at O C e⊢;rw[iP C] at O;exact O gp [] F2 am e.tD.j7 (.zero _ _) e.fr (λ_ h=>(nomatch h)) e.sg.new;rw[iN h0] at O C e⊢;exact O gp [] F2 am e.tD.j7 (.zero _ _) e.fr (λ_ h=>(nomatch h)) e.sg.new;have C:(if J=0 then (fX M1 n.J8[i+1]).1 else J)=0:=by rw[yF] at C;exact yQ.1 C
 by_cases h0:J=0;rw[iP h0] at O C e;rw[iN λh=>h C] at O;refine Ko h 3 rfl x.2.2.2<|e.pZ h (i:=i) ac rfl hu λB1 bo e h _=>?_;have h:=oG h;refine Ko h 3 rfl x.2.2.2<|Ko h 3 rfl x.2.1 ?_;have e:=e.J0 h;have ew:wrap .i64 ((i:Int)+1)=((i+1:Nat):Int):=ud oK;have aF:wrap .i64 ((i:Int)+2)=((i+1+1:Nat):Int):=(by rw[gu _ oK];omega);refine e.I6 h (i:=i+1) (by dsimp only;rw[xI];omega) ew aF (by dsimp only;rw[xI];omega) λQ B2 bp e h _=>ja (h.cell 3)<|e.Dx h (i:=i) hi rfl ew oO λV B3 bq e h _=>oE h 3 rfl (fE (x.1,x.2.1,x.2.2.1,Q)) λbt h _=>oE h 3 rfl (fE (x.1,V,x.2.2.1,Q)) λbu h _=>Kq h 3 rfl (x.1,V,x.2.2.1,Q)<|oE h 0 rfl (fE (x.1,V,x.2.2.1,Q)) λaG h _=>Kq h 0 rfl (x.1,V,x.2.2.1,Q) ?_;have e:=e.J0 h;refine O (x.1,V,x.2.2.1,Q) B3 F2 aG e.tw.j7 (e.node.j6 λb u=>.inl (by simp only[Zo,zD,zG] at u⊢;rcases u with (u|u|u|u)|u<;>simp[u])) e.fr e.cJ e.sg.new;rw[iN h0] at C;exact absurd C h0
end
end
end
end Go.Proofs.YtfneoijhmknlnaaGreatDoor
