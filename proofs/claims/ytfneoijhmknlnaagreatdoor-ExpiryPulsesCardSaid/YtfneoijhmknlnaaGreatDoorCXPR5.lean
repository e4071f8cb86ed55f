/- Conditions: those that stand in each line. -/
import Derived.Test.YtfneoijhmknlnaaGreatDoorCXPR4
import Derived.Test.YtfneoijhmknlnaaGreatDoorCXPR2
import Derived.Test.YtfneoijhmknlnaaGreatDoorCXPR3
set_option linter.unusedVariables false
set_option linter.unusedSimpArgs false
set_option linter.defProp false
namespace Go.Proofs.YtfneoijhmknlnaaGreatDoor
open Go.Proofs.Tryz (prog)
section
open Go Go.Pt List
open Go.IntKind (wrap)
attribute [local irreducible] ld dT iH pK ku fw st new idx kZ kM gb kV ke nz ig nn call eF inv run fM i9 join loop held ext kJ ft pw pQ pT IntKind.wrap
variable {B:KD} {K:Sl->WP} {cs:Array Kw} {i:Nat} {ii:Int} {l:List Key} {s:Sl} {w:Kv}
def Hi{α:Type}{p:α->Bool}:∀ {l:List α} {r:Nat},r<=l.length->(∀(i:Nat) a,i<r->l[i]?=some a->p a=true)->(∀a,l[r]?=some a->p a=false)->(l.takeWhile p).length=r
 | [],r,h,_,_=>by simp at h;simp[h]
 | x::l,0,h,_,u=>by
  have:=u x rfl;rw[takeWhile_cons,this];rfl
 | x::l,r+1,h,E,u=>by
  have G:=E 0 x (Nat.succ_pos r) rfl;have:=Hi (p:=p) (l:=l) (r:=r) (oQ h) (λi a I C=>E (i+1) a oK (oQ C)) (λa C=>u a (oQ C));rw[takeWhile_cons,G];simp[this]
def qA8{k:Key}{r:Nat}(C:r<=l.length)(E:∀(i:Nat) a,i<r->l[i]?=some a->nm a k)(G:∀a,l[r]?=some a->gq k a):eT l k=r:=
 Hi C (λi a I u=>yA (E i a I u)) λa u=>zU λh=>h (G a u)
def qyk{k:Key}{r:Nat}(u:r<=l.length)(C:∀(i:Nat) a,i<r->l[i]?=some a->gq a k)(E:∀a,l[r]?=some a->nm k a):dY l k=r:=
 Hi u (λi a G h=>yA (C i a G h)) λa h=>zU (E a h)
def Jj(h:gz l){j:Nat}{a b:Key}(u:i<j)(C:l[i]?=some a)(E:l[j]?=some b):gq a b:=by obtain⟨G,rfl⟩:=zP.1 C;obtain⟨I,rfl⟩:=zP.1 E;exact pairwise_iff_getElem.1 h i j G I u
abbrev lJ:=KF
def fE (x:lJ):Array Kw:=#[.bool x.1,x.2.1.v,x.2.2.1.v,x.2.2.2.v]
def gp:lJ:=(false,dR,dR,dR)
def NB (n:dW):Prop:=(∀a∈n.J5,fq a)/\(∀a∈n.J9,fq a)/\∀x∈n.J8,iZ x
def eY (S:KD) (w:Kv) (x:lJ) (n:dW):Prop:=
 x.1=n.Q3/\NB n/\(∃pk,kF S w x.2.1 pk/\ik pk=n.J5)/\(∃pv,kF S w x.2.2.1 pv/\ik pv=n.J9)/\eE jD 1 S w x.2.2.2 n.J8
def jY (Z:KD) (w:Kv) (s:Sl) (l:List Key) (B:KD):Prop:=∃pk:rP,fB iv 1 w s (jt pk) B/\ik pk=l/\∀p∈pk,eO Z w p.1 p.2
def fU (Z:KD) (w:Kv) (x:lJ) (n:dW) (B:KD):Prop:=
 x.1=n.Q3/\NB n/\∃Bk h u,B=Bk++(h++u)/\B.Nodup/\jY Z w x.2.1 n.J5 Bk/\jY Z w x.2.2.1 n.J9 h/\fB jD 1 w x.2.2.2 n.J8 u
def jY.nil(Z:KD)(w:Kv):jY Z w dR [] []:=⟨[],.nil _ _ _,rfl,λp h=>nomatch h⟩
def fU.zero(Z:KD)(w:Kv):fU Z w gp jr []:=⟨rfl,⟨λ_ h=>(nomatch h),λ_ h=>(nomatch h),λ_ h=>(nomatch h)⟩,[],[],[],rfl,nodup_nil,.nil _ _,.nil _ _,.nil _ _ _⟩
section
variable {Z Z' S:KD} {w w':Kv} {s:Sl} {l:List Key} {B:KD} {x:lJ} {n:dW}
def jY.lt(h:jY Z w s l B):∀b∈B,b<w.heap.size:=by obtain⟨pk,u,rfl,_⟩:=h;exact u.lt
def jY.j0(h:jY Z w s l B)(f:Fr S w w')(u:∀b∈B,b∉S)(C:∀b∈S,b∈Z\/w.heap.size<=b)(E:∀b∈Z',b∈Z\/w.heap.size<=b):jY Z' w' s l B:=by obtain⟨pk,G,I,J⟩:=h;exact⟨pk,G.j0 f u,I,λp O=>(J p O).j0 (f.mono λi Q R=>(C i Q).elim id λh=>absurd R oK) E⟩
def jY.q8(h:jY Z w s l B)(f:Fr [] w w'):jY Z w' s l B:=h.j0 f (λ_ _ h=>nomatch h) (λ_ h=>nomatch h) λ_ h=>.inl h
def fU.lt(h:fU Z w x n B):∀b∈B,b<w.heap.size:=by obtain⟨_,_,Bk,I,J,rfl,_,C,E,G⟩:=h;intro b u;rcases zD.1 u with u|u;exact C.lt b u;rcases zD.1 u with u|u;exact E.lt b u;exact G.lt b u
def fU.j0(h:fU Z w x n B)(f:Fr S w w')(C:∀b∈B,b∉S)(E:∀b∈S,b∈Z\/w.heap.size<=b)(G:∀b∈Z',b∈Z\/w.heap.size<=b):fU Z' w' x n B:=by obtain⟨I,u,Bk,J,O,rfl,Q,R,U,V⟩:=h;exact⟨I,u,Bk,J,O,rfl,Q,R.j0 f (λb u=>C b (by simp[u])) E G,U.j0 f (λb u=>C b (by simp[u])) E G,V.j0 f λb u=>C b (by simp[u])⟩
def fU.q8(h:fU Z w x n B)(f:Fr [] w w'):fU Z w' x n B:=h.j0 f (λ_ _ h=>nomatch h) (λ_ h=>nomatch h) λ_ h=>.inl h
def fU.j6(h:fU Z w x n B)(u:∀b∈Z',b∈Z\/w.heap.size<=b):fU Z' w x n B:=h.j0 (.refl [] _) (λ_ _ h=>nomatch h) (λ_ h=>nomatch h) u
def jY.rd(h:jY Z w s l B)(u:∀b∈B,b∉S)(C:∀b∈S,b∈Z\/w.heap.size<=b):∃pk,kF S w s pk/\ik pk=l:=by obtain⟨pk,E,G,I⟩:=h;exact⟨pk,⟨E.k5 zu u,λp J=>(I p J).j0 (.refl _ _) C⟩,G⟩
def fU.rd(h:fU Z w x n B)(C:∀b∈B,b∉S)(E:∀b∈S,b∈Z\/w.heap.size<=b):eY S w x n:=by obtain⟨G,u,Bk,Q,R,rfl,U,I,J,O⟩:=h;exact⟨G,u,I.rd (λb u=>C b (by simp[u])) E,J.rd (λb u=>C b (by simp[u])) E,O.k5 (λ_=>rfl) λb u=>C b (by simp[u])⟩
def eY.j0{S':KD}(h:eY S w x n)(f:Fr S w w')(u:∀b∈S',b∈S\/w.heap.size<=b):eY S' w' x n:=by obtain⟨C,E,⟨pk,G,I⟩,⟨pv,J,O⟩,Q⟩:=h;exact⟨C,E,⟨pk,G.j0 f u,I⟩,⟨pv,J.j0 f u,O⟩,Q.j0 f u⟩
def eY.q8(h:eY S w x n)(f:Fr [] w w'):eY S w' x n:=h.j0 (f.mono λb u=>nomatch u) λb u=>.inl u
def eY.j6{S':KD}(h:eY S w x n)(u:∀b∈S',b∈S\/w.heap.size<=b):eY S' w x n:=h.j0 (.refl _ _) u
end
def qlC:∀ {l:List Key},(∀(i:Nat) a b,l[i]?=some a->l[i+1]?=some b->gq a b)->gz l
 | [],_=>.nil
 | [x],_=>pairwise_singleton _ _
 | x::y::r,h=>by have ih:gz (y::r):=qlC λi a b u E=>h (i+1) a b (oQ u) (oQ E);have C:gq x y:=h 0 x y rfl rfl;refine yK.2 ⟨λa u=>?_,ih⟩;rcases zG.1 u with rfl|u;exact C;exact rL C (BB ih a u)
def EP{α:Type}{l:List α}{x y:α}(h:y∈gy l i x):y=x\/y∈l:=by unfold gy at h;simp only[zD,zE] at h;rcases h with (h|h)|h;exact .inr (yW h);exact .inl h;exact .inr (yV h)
def If{k v:Nat}:∀(c:Nat) {b:KE},fq b->(∀a∈(jP k v c b).1,fq a)/\∀a∈(jP k v c b).2,fq a
 | 0,_,_=>⟨λ_ h=>(nomatch h),λ_ h=>(nomatch h)⟩
 | c+1,b,h=>by have ih:=If (k:=k) (v:=v) c (b:=b.drop (k+v)) (h.drop _);refine⟨λa u=>?_,λa u=>?_⟩;rcases zG.1 u with rfl|u;exact h.take _;exact ih.1 a u;rcases zG.1 u with rfl|u;exact (h.drop _).take _;exact ih.2 a u
def qq5{k:Nat}:∀(c:Nat) {b:KE},fq b->∀a∈mu k c b,fq a
 | 0,_,_=>λ_ h=>(nomatch h)
 | c+1,b,h=>λa u=>by rcases zG.1 u with rfl|u;exact h.take _;exact qq5 c (h.drop _) a u
def EE:∃i,prog.info? 96=some i/\i.zero=some (.slice none 0 0)/\i.size=1/\i.bytes=24:=uN oL
abbrev gT (s:Sl):Kw:=s.v
abbrev pH (n:Int):Kw:=.u n
def ET{α:Type}(e:α->Kw)(l:List α)(i:Nat)(x:α):(l.take i++[x]++l.drop i).map e=(l.map e).take i++[e x]++(l.map e).drop i:=by rw[xP,xP,xR,xS];rfl
def qu2{α:Type}(e:α->Kw)(l:List α)(i:Nat):(l.take i++l.drop (i+1)).map e=(l.map e).take i++(l.map e).drop (i+1):=by rw[xP,xR,xS]
def Ck{a:Addr}{len cap:Nat}{hi:Int}{u:Nat}{K:Sl->Prop}(n:Nat)(C:hi=n)(h:n<=cap)(k:K ⟨some a,n,cap⟩):gb ⟨some a,len,cap⟩ none (some hi) none u K:=by subst C;refine Aw ⟨oK,by dsimp only;omega⟩ ?_;rw[zJ];exact k
def uQ{b len cap:Nat}{lo:Int}{K:Sl->Prop}(n:Nat)(h:lo=n)(C:n<=len)(u:len<=cap)(E:n<cap)(k:K ⟨some (dm b n),len-n,cap-n⟩):gb ⟨pW b,len,cap⟩ (some lo) none none 1 K:=by subst h;refine Gf oK oK u oK ?_;rw[zJ,xV,xU];exact k
def qyL{lo hi mx:Int}{u:Nat}{K:Sl->Prop}(h:0<=lo/\lo<=hi/\hi<=mx/\mx<=s.cap)(k:∀C,K C):gb s (some lo) (some hi) (some mx) u K:=by unfold gb;exact⟨by simpa using h,k _⟩
def Ca{α:Type}{e:α->Kw}{b:Nat}{T:Kx}{E:KQ}{l:List α}(G:w.heap[b]?=some (.cells cs T E))(I:cs.toList.take l.length=l.map e)(i:Nat):∀(j:Nat) u,((l.map e).drop i)[j]?=some u->w.cell? (Addr.add (dm b i) j)=some u:=λj u C=>by rw[Addr.j1,kD G];rw[xB] at C;have h:=(zP.1 C).1;rw[zK] at h;rw[<- I,xC,iP h] at C;simpa using C
def qne{α:Type}{e:α->Kw}{l:List α}(h:cs.toList.take l.length=l.map e)(hi:i<=l.length):cs.toList.take i=(l.map e).take i:=by rw[<- h,take_take,xT hi]
def E3{α:Type}{enc:α->List Kw}{e:α->Kw}(u:∀x,enc x=[e x]){l:List α}(h:cs.toList.take l.length=l.flatMap enc):cs.toList.take l.length=l.map e:=by rw[h,CU u]
def qvG{l:List Sl}{x:Sl}{vb:Nat}{T':Kx}(h:fB iv 1 w s l B)(hi:i<=l.length)(he:ii=i)(hl:l.length<=100000)(hv:w.heap[vb]?=some (.c #[gT x] T'))(ai:vb∉B)(kk:∀s' B' w',fB iv 1 w' s' (gy l i x) B'->Fr B w w'->(∀b∈B',b∈B\/w.heap.size<=b)->K s' w'): cW 187 [s.v,.i ii,.slice (pW vb) 1 1] dp w K:=by
 obtain⟨aE,V,hz,aj,ak⟩:=EE;refine qmM (s:=s) (i:=ii) (v:=⟨pW vb,1,1⟩) ?_;subst he;have al:=h.len;have aa:∀w',Fr B w w'->∀(j:Nat) u,([gT x]:List Kw)[j]?=some u->w'.cell? (Addr.add (dm vb) j)=some u:=λw' f j u hj=>by rw[Addr.j1,kD (by rw[f.block vb (fl hv) ai];exact hv),xU];simpa using hj
 refine eE.part (S:=[]) (fB.k5 (enc:=iv) (k:=1) (λ_=>rfl) h λ_ _ h=>nomatch h) (lo:=some (i:Int)) (hi:=none) i l.length rfl (by rw[xY,al]) hi (zM _) λs1 _ _ _=>JU rfl ?_;apply eV<;>intro hc;have J:i=l.length:=(by have:=yQ.1 hc;omega);have am:Src prog 1 173 (.slice (pW vb) 1 1) 1 ([x].flatMap iv) w:=.ofSlice w (e':=96) oL _ 1 1 _ rfl (aa w (.refl _ _)) (λu hu=>by rw[yI,flatMap_nil,xJ] at hu;rw[zE.1 hu];rfl);refine fB.j2 (ys:=[x]) (e:=96) h (λ_=>rfl) oL V hz aj rfl am rfl (by rw[ak];omega) oK λs' B' w' b' f' n' _=>kk s' B' w' ?_ f' n';have e:gy l i x=l++[x]:=(by unfold gy;rw[J,vB,drop_length,xJ]);rw[e];exact b';have J:i<l.length:=by
  have:=(zR.1 hc)
  omega
 have aF:l≠[]:=λe=>by rw[e] at J;exact absurd J (vA _)
 obtain⟨b,cs,T,rfl,ha,hb,hn,an,ao,aG⟩:=h.ptr aF;have hM:=E3 (e:=gT) (λ_=>rfl) aG;obtain⟨sa,sn,sc⟩:=s;dsimp only at ha hn an ao;subst ha hn;have aH:vb≠b:=(oQ ai);have E:(l.map gT).length=l.length:=zK ..;have ap:∀v∈(l.map gT).drop i,Value.oneCell' v=true:=λv I=>by obtain⟨y,_,rfl⟩:=mem_map.1 (yV I);rfl
 have O:((l.map gT).drop i).length=l.length-i:=(by rw[yC,E]);have Q:wrap .i64 ((l.length:Int)+1)=((l.length+1:Nat):Int):=(by rw[gu _ oK];rfl);have aq:wrap .i64 ((i:Int)+1)=((i+1:Nat):Int):=(by rw[gu _ oK];rfl);have aI:wrap .i64 (((l.length+1:Nat):Int)-(i:Int))=((l.length+1-i:Nat):Int):=(by rw[gu _ oK];omega);apply cD<;>intro hc;have hg:sc<l.length+1:=by
  have:=hc;dsimp only at this;rw[show (((1:Nat):Int))=1 from rfl,Q] at this;omega
 refine Ck i rfl oK ?_;dsimp only;rw[show (((1:Nat):Int))=1 from rfl,Q,aI,aq];have ar:i+(l.length+1-i)=l.length+1:=oK;refine JE (e:=96) (i:=aE) (kn:=.i64) (olds:=(l.map gT).take i) oL oL V hz aj rfl (by rw[yM,E];omega) (λh=>nomatch h) (λa ha j u hj=>?_) oK oK (by rw[ar,ak];omega) oK λb2 aK c w2 e2 ad U R aL aM=>?_;cases ha;have au:=Ca hb hM 0 j u;rw[xH] at au;rw[xC] at hj;split at hj;exact au hj;cases hj;rw[ar] at R⊢;have av:=fl hb;have aX:Fr [b2] w w2:=U.mono λ_ h _=>nomatch h;refine uQ i rfl oK R oK<|zg (vs:=[gT x]) (src:=⟨pW vb,1,1⟩) ad (el:=96) oL oL ?_ (λ_=>⟨_,rfl,aa w2 (U.mono λ_ h _=>nomatch h)⟩) (λv I=>by rw[zE.1 I];rfl) oP λw3 ae f3=>?_;show 1=min 1 (l.length+1-i);omega;refine uQ (i+1) rfl oK R oK<|uQ i rfl oK oK oK ?_;have aN:w3.heap[b]?=some (.c cs T):=by rw[f3.block b (yE av U.size) oP,U.block b av λh=>nomatch h];exact hb
 refine zg (w:=w3.drew) (vs:=(l.map gT).drop i) (src:=⟨some (dm b i),l.length-i,sc-i⟩) ae (el:=96) oL oL ?_ (λ_=>⟨_,rfl,Ca (w:=w3.drew) aN hM i⟩) ap (by rw[pE,O];omega) λw4 aO f4=>?_;rw[O];show l.length-i=min (l.length-i) (l.length+1-(i+1));omega;have G:=qxX (cs:=aK) (M:=l.map gT) (i:=i) (v:=gT x) (by rw[E];omega) (by rw[E];omega) aM;have C:(gy l i x).length=l.length+1:=(by unfold gy;simp;omega);refine kk _ [b2] w4 (fB.one (e:=gT) (λ_=>rfl) aO C.symm R (by rw[pE,pE];exact aL) ?_) ?_ λb' af=>?_;rw[C];rw[E] at G;rw[G];exact (ET gT l i x).symm;refine Fr.j8 (S:=[b]) (T:=[b2]) (U.mono λ_ h _=>nomatch h) (f3.drew.trans f4) λi hi=>.inr ?_;rw[zE.1 hi,e2];exact zM _;rw[zE.1 af,e2];exact .inr (zM _);have hg:l.length+1<=sc:=by
  have:=hc;dsimp only at this;rw[show (((1:Nat):Int))=1 from rfl,Q] at this;omega
 dsimp only;rw[show (((1:Nat):Int))=1 from rfl,Q,aq];refine Ck (l.length+1) rfl hg<|uQ (i+1) rfl oK hg oK<|Et (e:=Extern.SlicesOverlaps.overlaps #[173,173] #[4]) Tryz.func216 oL oL oL oL false w (qpc oL V hv hb aH oK)<|JT rfl<|uQ (i+1) rfl oK hg oK<|uQ i rfl oK hg oK<|zg (w:=w.drew) (vs:=(l.map gT).drop i) (src:=⟨some (dm b i),l.length+1-i,sc-i⟩) hb (el:=96) oL oL ?_ (λ_=>⟨_,rfl,Ca (w:=w.drew) hb hM i⟩) ap (by rw[O];omega) λw2 ad U=>?_;rw[O];show l.length-i=min (l.length+1-i) (l.length+1-(i+1));omega;refine uQ i rfl oK hg oK<|zg (vs:=[gT x]) (src:=⟨pW vb,1,1⟩) ad (el:=96) oL oL ?_ (λ_=>⟨_,rfl,aa w2 ((Fr.refl [b] w).drew.trans U)⟩) (λv I=>by rw[zE.1 I];rfl) (by rw[pE];simp;omega) λw3 ae f3=>?_;show 1=min 1 (l.length+1-i);omega;have G:=qxZ (cs:=cs) (M:=l.map gT) (i:=i) (v:=gT x) (by rw[E];omega) (by rw[E];omega) (qne hM oK);have C:(gy l i x).length=l.length+1:=(by unfold gy;simp;omega);refine kk _ [b] w3 (fB.one (e:=gT) (λ_=>rfl) ae C.symm hg (by rw[pE,pE];exact ao) ?_) (((Fr.refl [b] w).drew.trans U).trans f3) λb' af=>.inl af;rw[C];rw[E] at G;rw[G];exact (ET gT l i x).symm
def qvD{l:List Sl}{jj:Int}(h:fB iv 1 w s l B)(hi:i<l.length)(he:ii=i)(hj:jj=((i+1:Nat):Int))(hl:l.length<=100000)(kk:∀s' w',fB iv 1 w' s' (iX l i) B->Fr B w w'->K s' w'): cW 222 [s.v,.i ii,.i jj] dp w K:=by
 obtain⟨au,aa,hz,ab,av⟩:=EE;refine qmK ?_;subst he hj;have ac:l≠[]:=λe=>by rw[e] at hi;exact absurd hi (vA _)
 obtain⟨b,cs,T,rfl,ha,hb,hn,Q,G,ad⟩:=h.ptr ac;have hM:=E3 (e:=gT) (λ_=>rfl) ad;obtain⟨sa,sn,sc⟩:=s;dsimp only at ha hn Q G;subst ha hn;have C:(l.map gT).length=l.length:=zK ..;have ay:∀v∈(l.map gT).drop (i+1),Value.oneCell' v=true:=λv ae=>by obtain⟨y,_,rfl⟩:=mem_map.1 (yV ae);rfl
 have az:((l.map gT).drop (i+1)).length=l.length-(i+1):=(by rw[yC,C]);refine qyL oO λ_=>JU (zR.2 oK)<|Ck i rfl oK ?_;have af:∀O,O.heap[b]?=some (.c (ef cs i ((l.map gT).drop (i+1))) T)->Fr [b] w O->gb ⟨pW b,l.length-1,sc⟩ (some (((l.length-1:Nat)):Int)) (some ((l.length:Nat):Int)) none 1 λ(I:Sl)=>
  run [] ((Builtin.clear_ #[173] 0 (#[Value.slice I.a I.len I.cap])).run prog O)<|
  λ(aA:PUnit) (ag:Kv)=>
  K ⟨pW b,l.length-1,sc⟩ ag:=λO J f5=>by
  refine Gl oK oK oK oK ?_;rw[zJ,zJ,xV,xU];have h1:l.length-(l.length-1)=1:=oK;rw[h1];dsimp only;refine quZ (e:=96) (z:=(Value.slice none 0 0)) J oL oL rfl rfl oK (by rw[pE];omega) λw6 ai f6=>?_;have E:=qxA (cs:=cs) (M:=l.map gT) (i:=i) (z:=(Value.slice none 0 0)) (by rw[C];omega) (by rw[C];exact hM);have R:(iX l i).length=l.length-1:=(by unfold iX;simp;omega);refine kk _ w6 (fB.one (e:=gT) (λ_=>rfl) ai R.symm oK (by rw[pE,pE];exact G) ?_) (f5.trans f6);rw[R];rw[C] at E;rw[show List.replicate 1 ((Value.slice none 0 0))=[(Value.slice none 0 0)] from rfl,E];exact (qu2 gT l i).symm
 refine eE.part (S:=[]) (fB.k5 (enc:=iv) (k:=1) (λ_=>rfl) h λ_ _ h=>nomatch h) (lo:=some ((i+1:Nat):Int)) (hi:=none) (i+1) l.length rfl rfl oK (zM _) λs3 U h3 aF=>?_;have V:Src prog 1 173 s3.v s3.len ((l.map gT).drop (i+1)) w.drew:=by
  have:=wF (P:=prog) (tx:=173) (e':=96) (h3.same (rJ.refl w).drew) (λ_=>rfl) (λx u hu=>by rw[zE.1 hu];rfl) oL;rw[CU (enc:=iv) (e:=gT) λ_=>rfl,vB,xS] at this;exact this
 dsimp only;refine quU (w:=w.drew) (e:=96) hb oL aa ab V (by rw[U];omega) G λO J f5=>?_;have e:i+s3.len=l.length-1:=(by rw[U];omega);rw[e];exact af O J ((Fr.refl [b] w).drew.trans f5)
def qvH{l:KE}{x:Int}{vb:Nat}{T':Kx}(h:fB jD 1 w s l B)(hi:i<=l.length)(he:ii=i)(hl:l.length<=100000)(hv:w.heap[vb]?=some (.c #[pH x] T'))(ai:vb∉B)(kk:∀s' B' w',fB jD 1 w' s' (gy l i x) B'->Fr B w w'->(∀b∈B',b∈B\/w.heap.size<=b)->K s' w'): cW 189 [s.v,.i ii,.slice (pW vb) 1 1] dp w K:=by
 obtain⟨aE,V,hz,aj,ak⟩:=BF;refine qmN (s:=s) (i:=ii) (v:=⟨pW vb,1,1⟩) ?_;subst he;have al:=h.len;have aa:∀w',Fr B w w'->∀(j:Nat) u,([pH x]:List Kw)[j]?=some u->w'.cell? (Addr.add (dm vb) j)=some u:=λw' f j u hj=>by rw[Addr.j1,kD (by rw[f.block vb (fl hv) ai];exact hv),xU];simpa using hj
 refine eE.part (S:=[]) (fB.k5 (enc:=jD) (k:=1) (λ_=>rfl) h λ_ _ h=>nomatch h) (lo:=some (i:Int)) (hi:=none) i l.length rfl (by rw[xY,al]) hi (zM _) λs1 _ _ _=>JU rfl ?_;apply eV<;>intro hc;have J:i=l.length:=(by have:=yQ.1 hc;omega);have am:Src prog 1 174 (.slice (pW vb) 1 1) 1 ([x].flatMap jD) w:=.ofSlice w (e':=44) oL _ 1 1 _ rfl (aa w (.refl _ _)) (λu hu=>by rw[yI,flatMap_nil,xJ] at hu;rw[zE.1 hu];rfl);refine fB.j2 (ys:=[x]) (e:=44) h (λ_=>rfl) oL V hz aj rfl am rfl (by rw[ak];omega) oK λs' B' w' b' f' n' _=>kk s' B' w' ?_ f' n';have e:gy l i x=l++[x]:=(by unfold gy;rw[J,vB,drop_length,xJ]);rw[e];exact b';have J:i<l.length:=by
  have:=(zR.1 hc)
  omega
 have aF:l≠[]:=λe=>by rw[e] at J;exact absurd J (vA _)
 obtain⟨b,cs,T,rfl,ha,hb,hn,an,ao,aG⟩:=h.ptr aF;have hM:=E3 (e:=pH) (λ_=>rfl) aG;obtain⟨sa,sn,sc⟩:=s;dsimp only at ha hn an ao;subst ha hn;have aH:vb≠b:=(oQ ai);have E:(l.map pH).length=l.length:=zK ..;have ap:∀v∈(l.map pH).drop i,Value.oneCell' v=true:=λv I=>by obtain⟨y,_,rfl⟩:=mem_map.1 (yV I);rfl
 have O:((l.map pH).drop i).length=l.length-i:=(by rw[yC,E]);have Q:wrap .i64 ((l.length:Int)+1)=((l.length+1:Nat):Int):=(by rw[gu _ oK];rfl);have aq:wrap .i64 ((i:Int)+1)=((i+1:Nat):Int):=(by rw[gu _ oK];rfl);have aI:wrap .i64 (((l.length+1:Nat):Int)-(i:Int))=((l.length+1-i:Nat):Int):=(by rw[gu _ oK];omega);apply cD<;>intro hc;have hg:sc<l.length+1:=by
  have:=hc;dsimp only at this;rw[show (((1:Nat):Int))=1 from rfl,Q] at this;omega
 refine Ck i rfl oK ?_;dsimp only;rw[show (((1:Nat):Int))=1 from rfl,Q,aI,aq];have ar:i+(l.length+1-i)=l.length+1:=oK;refine JE (e:=44) (i:=aE) (kn:=.i64) (olds:=(l.map pH).take i) oL oL V hz aj rfl (by rw[yM,E];omega) (λh=>nomatch h) (λa ha j u hj=>?_) oK oK (by rw[ar,ak];omega) oK λb2 aK c w2 e2 ad U R aL aM=>?_;cases ha;have au:=Ca hb hM 0 j u;rw[xH] at au;rw[xC] at hj;split at hj;exact au hj;cases hj;rw[ar] at R⊢;have av:=fl hb;have aX:Fr [b2] w w2:=U.mono λ_ h _=>nomatch h;refine uQ i rfl oK R oK<|zg (vs:=[pH x]) (src:=⟨pW vb,1,1⟩) ad (el:=44) oL oL ?_ (λ_=>⟨_,rfl,aa w2 (U.mono λ_ h _=>nomatch h)⟩) (λv I=>by rw[zE.1 I];rfl) oP λw3 ae f3=>?_;show 1=min 1 (l.length+1-i);omega;refine uQ (i+1) rfl oK R oK<|uQ i rfl oK oK oK ?_;have aN:w3.heap[b]?=some (.c cs T):=by rw[f3.block b (yE av U.size) oP,U.block b av λh=>nomatch h];exact hb
 refine zg (w:=w3.drew) (vs:=(l.map pH).drop i) (src:=⟨some (dm b i),l.length-i,sc-i⟩) ae (el:=44) oL oL ?_ (λ_=>⟨_,rfl,Ca (w:=w3.drew) aN hM i⟩) ap (by rw[pE,O];omega) λw4 aO f4=>?_;rw[O];show l.length-i=min (l.length-i) (l.length+1-(i+1));omega;have G:=qxX (cs:=aK) (M:=l.map pH) (i:=i) (v:=pH x) (by rw[E];omega) (by rw[E];omega) aM;have C:(gy l i x).length=l.length+1:=(by unfold gy;simp;omega);refine kk _ [b2] w4 (fB.one (e:=pH) (λ_=>rfl) aO C.symm R (by rw[pE,pE];exact aL) ?_) ?_ λb' af=>?_;rw[C];rw[E] at G;rw[G];exact (ET pH l i x).symm;refine Fr.j8 (S:=[b]) (T:=[b2]) (U.mono λ_ h _=>nomatch h) (f3.drew.trans f4) λi hi=>.inr ?_;rw[zE.1 hi,e2];exact zM _;rw[zE.1 af,e2];exact .inr (zM _);have hg:l.length+1<=sc:=by
  have:=hc;dsimp only at this;rw[show (((1:Nat):Int))=1 from rfl,Q] at this;omega
 dsimp only;rw[show (((1:Nat):Int))=1 from rfl,Q,aq];refine Ck (l.length+1) rfl hg<|uQ (i+1) rfl oK hg oK<|Et (e:=Extern.SlicesOverlaps.overlaps #[174,174] #[4]) Tryz.func220 oL oL oL oL false w (qpc oL V hv hb aH oK)<|JT rfl<|uQ (i+1) rfl oK hg oK<|uQ i rfl oK hg oK<|zg (w:=w.drew) (vs:=(l.map pH).drop i) (src:=⟨some (dm b i),l.length+1-i,sc-i⟩) hb (el:=44) oL oL ?_ (λ_=>⟨_,rfl,Ca (w:=w.drew) hb hM i⟩) ap (by rw[O];omega) λw2 ad U=>?_;rw[O];show l.length-i=min (l.length+1-i) (l.length+1-(i+1));omega;refine uQ i rfl oK hg oK<|zg (vs:=[pH x]) (src:=⟨pW vb,1,1⟩) ad (el:=44) oL oL ?_ (λ_=>⟨_,rfl,aa w2 ((Fr.refl [b] w).drew.trans U)⟩) (λv I=>by rw[zE.1 I];rfl) (by rw[pE];simp;omega) λw3 ae f3=>?_;show 1=min 1 (l.length+1-i);omega;have G:=qxZ (cs:=cs) (M:=l.map pH) (i:=i) (v:=pH x) (by rw[E];omega) (by rw[E];omega) (qne hM oK);have C:(gy l i x).length=l.length+1:=(by unfold gy;simp;omega);refine kk _ [b] w3 (fB.one (e:=pH) (λ_=>rfl) ae C.symm hg (by rw[pE,pE];exact ao) ?_) (((Fr.refl [b] w).drew.trans U).trans f3) λb' af=>.inl af;rw[C];rw[E] at G;rw[G];exact (ET pH l i x).symm
def qvE{l:KE}{jj:Int}(h:fB jD 1 w s l B)(hi:i<l.length)(he:ii=i)(hj:jj=((i+1:Nat):Int))(hl:l.length<=100000)(kk:∀s' w',fB jD 1 w' s' (iX l i) B->Fr B w w'->K s' w'): cW 257 [s.v,.i ii,.i jj] dp w K:=by
 obtain⟨au,aa,hz,ab,av⟩:=BF;refine qmL ?_;subst he hj;have ac:l≠[]:=λe=>by rw[e] at hi;exact absurd hi (vA _)
 obtain⟨b,cs,T,rfl,ha,hb,hn,Q,G,ad⟩:=h.ptr ac;have hM:=E3 (e:=pH) (λ_=>rfl) ad;obtain⟨sa,sn,sc⟩:=s;dsimp only at ha hn Q G;subst ha hn;have C:(l.map pH).length=l.length:=zK ..;have ay:∀v∈(l.map pH).drop (i+1),Value.oneCell' v=true:=λv ae=>by obtain⟨y,_,rfl⟩:=mem_map.1 (yV ae);rfl
 have az:((l.map pH).drop (i+1)).length=l.length-(i+1):=(by rw[yC,C]);refine qyL oO λ_=>JU (zR.2 oK)<|Ck i rfl oK ?_;have af:∀O,O.heap[b]?=some (.c (ef cs i ((l.map pH).drop (i+1))) T)->Fr [b] w O->gb ⟨pW b,l.length-1,sc⟩ (some (((l.length-1:Nat)):Int)) (some ((l.length:Nat):Int)) none 1 λ(I:Sl)=>
  run [] ((Builtin.clear_ #[174] 0 (#[Value.slice I.a I.len I.cap])).run prog O)<|
  λ(aA:PUnit) (ag:Kv)=>
  K ⟨pW b,l.length-1,sc⟩ ag:=λO J f5=>by
  refine Gl oK oK oK oK ?_;rw[zJ,zJ,xV,xU];have h1:l.length-(l.length-1)=1:=oK;rw[h1];dsimp only;refine quZ (e:=44) (z:=(Value.int .u32 0)) J oL oL rfl rfl oK (by rw[pE];omega) λw6 ai f6=>?_;have E:=qxA (cs:=cs) (M:=l.map pH) (i:=i) (z:=(Value.int .u32 0)) (by rw[C];omega) (by rw[C];exact hM);have R:(iX l i).length=l.length-1:=(by unfold iX;simp;omega);refine kk _ w6 (fB.one (e:=pH) (λ_=>rfl) ai R.symm oK (by rw[pE,pE];exact G) ?_) (f5.trans f6);rw[R];rw[C] at E;rw[show List.replicate 1 ((Value.int .u32 0))=[(Value.int .u32 0)] from rfl,E];exact (qu2 pH l i).symm
 refine eE.part (S:=[]) (fB.k5 (enc:=jD) (k:=1) (λ_=>rfl) h λ_ _ h=>nomatch h) (lo:=some ((i+1:Nat):Int)) (hi:=none) (i+1) l.length rfl rfl oK (zM _) λs3 U h3 aF=>?_;have V:Src prog 1 174 s3.v s3.len ((l.map pH).drop (i+1)) w.drew:=by
  have:=wF (P:=prog) (tx:=174) (e':=44) (h3.same (rJ.refl w).drew) (λ_=>rfl) (λx u hu=>by rw[zE.1 hu];rfl) oL;rw[CU (enc:=jD) (e:=pH) λ_=>rfl,vB,xS] at this;exact this
 dsimp only;refine quU (w:=w.drew) (e:=44) hb oL aa ab V (by rw[U];omega) G λO J f5=>?_;have e:i+s3.len=l.length-1:=(by rw[U];omega);rw[e];exact af O J ((Fr.refl [b] w).drew.trans f5)
end
section
open Go Go.Pt List
open Go.IntKind (wrap)
open Classical
attribute [local irreducible] ld dT iH pK ku fw st new idx kZ kM gb kV ke nz ig nn call eF inv run fM i9 join loop held ext kJ ft pw pQ pT IntKind.wrap
variable {B S:KD} {K:Sl->WP} {L:KK} {T:Kx} {b l:KE} {k v:Nat} {kind:Int} {n:dW} {ps:rP} {s:Sl} {w w0:Kv} {x:lJ}
def qu9{i j:Nat}(h:i+j<=10000000):wrap .i64 (Int.fdiv (wrap .u64 (wrap .i64 ((i:Int)+(j:Int)))) (2^1))=(((i+j) / 2:Nat):Int):=by have e1:wrap .i64 ((i:Int)+(j:Int))=(i:Int)+(j:Int):=gu _ oK;have u:wrap .u64 ((i:Int)+(j:Int))=(i:Int)+(j:Int):=IntWalk.u64_in _ oK;rw[e1,u,Int.fdiv_eq_ediv_of_nonneg _ oN];have e:((i:Int)+(j:Int)) / 2^1=(((i+j) / 2:Nat):Int):=oK;rw[e,gu _ oK]
def qxm{n:Nat}{v:Kw}{p:Nat->Bool}{K:Int->WP}(E:n<=1000000)(hf:∀w1 (i:Nat) (U:Bool->WP),Fr [] w w1->i<n->(∀w2,Fr [] w w2->U (p i) w2)->eF prog v [.i i] dr w1 U)(u:∀i j,i<=j->j<n->p i=true->p j=true)(hk:∀(r:Nat) w',r<=n->(∀i,i<r->p i=false)->(∀i,r<=i->i<n->p i=true)->Fr [] w w'->K r w'): cW 129 [.i n,v] dq w K:=by
 refine qqp<|kz (λs w'=>∃i j:Nat,s=((i:Int),(j:Int))/\i<=j/\j<=n/\(∀a,a<i->p a=false)/\(∀a,j<=a->a<n->p a=true)/\Fr [] w w') (λs _=>(s.2-s.1).toNat) ⟨0,n,rfl,oK,oK,λ_ h=>absurd h (vA _),λa G I=>oK,.refl _ _⟩ ?_;rintro s w1 ⟨i,j,rfl,ae,J,G,I,V⟩ X hX;dsimp only;apply cD<;>intro O;have af:i<j:=oK;rw[qu9 oK];refine hf w1 ((i+j) / 2) _ V oK λw2 C=>?_;cases hp:p ((i+j) / 2);refine JT rfl ?_;have e:wrap .i64 ((((i+j) / 2:Nat):Int)+1)=(((i+j) / 2+1:Nat):Int):=(by rw[gu _ oK];rfl);rw[e];refine hX _ _ ⟨(i+j) / 2+1,j,rfl,oK,J,λa Q=>?_,I,C⟩ oO;cases R:p a;rfl
 have:=u a ((i+j) / 2) oK oK R;rw[hp] at this;exact this.symm;exact JU rfl<|hX _ _ ⟨i,(i+j) / 2,rfl,oK,oK,G,λa Q E=>u _ a Q E hp,C⟩ oO;have ag:¬i<j:=oK;exact hk i w1 oK G (λa Q E=>I a oK E) V
def qAw{n:Nat}{v:Kw}{c:Nat->Int}{K:KU->WP}(O:n<=1000000)(hf:∀w1 (i:Nat) (K':Int->WP),Fr [] w w1->i<n->(∀w2,Fr [] w w2->K' (c i) w2)->eF prog v [.i i] dq w1 K')(u:∀i j,i<=j->j<n->c j>0->c i>0)(hk:∀(r:Nat) w',r<=n->(∀i,i<r->c i>0)->(∀i,r<=i->i<n->¬c i>0)->Fr [] w w'->K (r,decide (r<n/\c r=0)) w'): cW 132 [.i n,v] dG w K:=by
 refine qtH<|kz (λs w'=>∃i j:Nat,s=((i:Int),(j:Int))/\i<=j/\j<=n/\(∀a,a<i->c a>0)/\(∀a,j<=a->a<n->¬c a>0)/\Fr [] w w') (λs _=>(s.2-s.1).toNat) ⟨0,n,rfl,oK,oK,λ_ h=>absurd h (vA _),λa Q R=>oK,.refl _ _⟩ ?_;rintro s w1 ⟨i,j,rfl,ag,U,Q,R,V⟩ X hX;dsimp only;apply cD<;>intro G;have ah:i<j:=oK;rw[qu9 oK];refine hf w1 ((i+j) / 2) _ V oK λw2 C=>?_;apply eV<;>intro I;have I:=zC I;have e:wrap .i64 ((((i+j) / 2:Nat):Int)+1)=(((i+j) / 2+1:Nat):Int):=(by rw[gu _ oK];rfl);rw[e];exact hX _ _ ⟨(i+j) / 2+1,j,rfl,oK,U,λa ha=>u a _ oK oK I,R,C⟩ oO;have I:=zB I;exact hX _ _ ⟨i,(i+j) / 2,rfl,oK,oK,Q,λa ha O ab=>I (u _ a ha O ab),C⟩ oO;have ai:¬i<j:=oK;have J:=λw'=>hk i w' oK Q λa ha O=>R a oK O;apply cD<;>intro G;have E:i<n:=oK;refine hf w1 i _ V E λw2 C=>?_;have e:(c i==0)=decide (i<n/\c i=0):=by rw[Ka,yQ,yO];exact⟨λh=>⟨E,h⟩,λh=>h.2⟩
 rw[e];exact J w2 C;have E:¬i<n:=by omega
 have:=J w1 V;rw[zU λh=>E h.1] at this;exact this
section
variable {S S':KD} {w:Kv} {x:lJ} {n:dW} {ks:Sl} {key:Key}
def Gu{K:KU->WP}(hx:eY S w x n)(hk:eO S' w ks key)(hB:fq key)(hr:gz n.J5)(hl:n.J5.length<=1000000)(kk:∀w',Fr [] w w'->K (dY n.J5 key,decide (n.J5[dY n.J5 key]?=some key)) w'): cW 88 [.agg (fE x),ks.v] dG w K:=by
 obtain⟨h0,V,⟨pk,I,E⟩,_⟩:=hx;refine qrU<|oB (oF [] w) λr1 w1 e1 f1 h=>oB h λr3 w2 e2 f2 h=>KA h 1 rfl x.2.1 ?_;have O:x.2.1.len=pk.length:=I.len;have ak:n.J5.length=pk.length:=(by rw[<- E,zK]);have u:∀(i:Nat) (C:i<pk.length),n.J5[i]?=some pk[i].2:=λi C=>by rw[<- E,zQ,zA C];rfl
 rw[O];refine qAw (c:=λi=>cmpL key (n.J5.getD i [])) oK (λw3 i K' f3 C aa=>?_) (λi j am hj hc=>?_) λr w' ao ab ac f'=>?_;refine rS (lb:=[dQ r3,dQ r1]) rfl oL ?_;have J:=h.q8 f3;refine qn3 ?_;have J:=J.drew;refine KA J 0 rfl ks<|KA J 1 rfl x.2.1<|kF.get (I.q8 J.fr) i rfl C<|EB (hk.q8 J.fr) ((I.q8 J.fr).2 pk[i] (zX C)) hB (V.1 _ (yG (u i C))) ?_;have e:n.J5.getD i []=pk[i].2:=by rw[yS,u i C];rfl
 have:=aa w3.drew f3.drew;rw[e] at this;exact this;by_cases hij':i=j;rw[hij'];exact hc;have C:=u i oK;have Q:=u j hj;rw[yS,Q,xX] at hc;rw[yS,C,xX];have h1:gq pk[j].2 key:=(by unfold gq;rw[v8];omega);have R:=rL (Jj hr oK C Q) h1;unfold gq at R;rw[v8] at R;omega;have hp:dY n.J5 key=r:=qyk oK (λi a C U=>by
  have:=ab i C;rw[yS,U,xX,v8] at this;show cmpL a key<0;omega) λa U=>by
  have au:=(zP.1 U).1;have:=ac r (zM _) oK;rw[yS,U,xX,v8] at this;show ¬cmpL a key<0;omega
 have G:=kk w' (h.fr.trans f');rw[hp] at G;have e:decide (n.J5[r]?=some key)=decide (r<pk.length/\cmpL key (n.J5.getD r [])=0):=by refine decide_eq_decide.2 ⟨λh=>?_,λh=>?_⟩;refine⟨by have:=(zP.1 h).1;omega,?_⟩;rw[yS,h,xX,HK];have R:=h.2;rw[yS,u r h.1,xX] at R;exact (u r h.1).trans (Kr some (E1 R).symm)
 rw[e] at G;exact G
def D8{K:Int->WP}(hx:eY S w x n)(hk:eO S' w ks key)(hB:fq key)(hr:gz n.J5)(hl:n.J5.length<=1000000)(kk:∀w',Fr [] w w'->K (eT n.J5 key) w'): cW 87 [.agg (fE x),ks.v] dq w K:=by
 obtain⟨h0,V,⟨pk,I,C⟩,_⟩:=hx;refine quq<|oB (oF [] w) λr1 w1 e1 f1 h=>oB h λr3 w2 e2 f2 h=>KA h 1 rfl x.2.1 ?_;have O:x.2.1.len=pk.length:=I.len;have ak:n.J5.length=pk.length:=(by rw[<- C,zK]);have E:∀(i:Nat) (u:i<pk.length),n.J5[i]?=some pk[i].2:=λi u=>by rw[<- C,zQ,zA u];rfl
 rw[O];refine qxm (p:=λi=>decide (cmpL key (n.J5.getD i [])<0)) oK (λw3 i K' f3 u aa=>?_) (λi j am hj Q=>?_) λr w' ao ab ac f'=>?_;refine rS (lb:=[dQ r3,dQ r1]) rfl oL ?_;have J:=h.q8 f3;refine qqa ?_;have J:=J.drew;refine KA J 0 rfl ks<|KA J 1 rfl x.2.1<|kF.get (I.q8 J.fr) i rfl u<|EB (hk.q8 J.fr) ((I.q8 J.fr).2 pk[i] (zX u)) hB (V.1 _ (yG (E i u))) ?_;have e:n.J5.getD i []=pk[i].2:=(by rw[yS,E i u];rfl);have e2:decide (cmpL key (n.J5.getD i [])<0)=decide (cmpL key pk[i].2<0):=decide_eq_decide.2 (by rw[e]);rw[<- e2];exact aa w3.drew f3.drew;by_cases hij':i=j;rw[<- hij'];exact Q;have u:=E i oK;have R:=E j hj;have Q:=zC Q;rw[yS,u,xX] at Q;refine yA ?_;rw[yS,R,xX];exact rL Q (Jj hr oK u R);have hp:eT n.J5 key=r:=qA8 oK (λi a u U=>by
  have:=zB (ab i u);rw[yS,U,xX] at this;exact this) λa U=>by
  have ar:=(zP.1 U).1;have:=zC (ac r (zM _) oK);rw[yS,U,xX] at this;exact this
 have G:=kk w' (h.fr.trans f');rw[hp] at G;exact G
end
section
def ES{p:Prop}{i:Decidable p}(h:p):true=decide p:=by simp[h]
def ud{i:Nat}(h:i<=100000000):wrap .i64 ((i:Int)+1)=((i+1:Nat):Int):=by rw[gu _ oK];rfl
section
variable {S:KD} {w:Kv} {s:Sl}
def qsf{v:Kw}{p:Key->Bool}{K:Bool->WP}(Q:kF S w s ps)(hl:ps.length<=1000000)(hf:∀w1 (x:Sl×Key) (R:Bool->WP),Fr [] w w1->x∈ps->(∀w2,Fr [] w w2->R (p x.2) w2)->eF prog v [x.1.v] dr w1 R)(U:∀w',Fr [] w w'->K ((ik ps).any p) w'): cW 232 [s.v,v] dr w K:=by
 refine qgW<|qjY ?_;have V:=Q.len;refine kz (λi w'=>∃n:Nat,i=(n:Int)/\n<=ps.length/\((ik ps).take n).any p=false/\Fr [] w w') (λi _=>((ps.length:Int)-i).toNat) ⟨0,rfl,yY _,rfl,.refl _ _⟩ ?_;rintro _ w1 ⟨n,rfl,hn,C,u⟩ X hX;apply cD<;>intro I;have h:n<ps.length:=oK;refine kF.get (Q.q8 u) n rfl h<|hf w1 ps[n] _ u (zX h) λw2 E=>?_;have G:(ik ps)[n]?=some ps[n].2:=(by rw[zQ,zA h];rfl);apply eV<;>intro J;have:(ik ps).any p=true:=any_eq_true.2 ⟨ps[n].2,yG G,J⟩;show K (decide (((n:Nat):Int)>=0)) w2;rw[yA (show ((n:Nat):Int)>=0 by omega)];rw[<- this];exact U w2 E;rw[ud oK];refine hX _ _ ⟨n+1,rfl,h,?_,E⟩ oK;rw[take_add_one,G,any_append,C];simpa using J;have O:n=ps.length:=oK;show K (decide ((-1:Int)>=0)) w1;rw[zU (show ¬(-1:Int)>=0 by decide)];have:(ik ps).any p=false:=by rw[<- C,O,zS (by rw[zK];exact zM _)]
 rw[<- this];exact U w1 u
def qsg{v:Kw}{p:Int->Bool}{K:Bool->WP}(R:Rd S w s l)(hl:l.length<=1000000)(hf:∀w1 (x:Int) (U:Bool->WP),Fr [] w w1->x∈l->(∀w2,Fr [] w w2->U (p x) w2)->eF prog v [.u x] dr w1 U)(V:∀w',Fr [] w w'->K (l.any p) w'): cW 202 [s.v,v] dr w K:=by
 refine qgX<|qjZ ?_;have aa:=R.1;refine kz (λi w'=>∃n:Nat,i=(n:Int)/\n<=l.length/\(l.take n).any p=false/\Fr [] w w') (λi _=>((l.length:Int)-i).toNat) ⟨0,rfl,yY _,rfl,.refl _ _⟩ ?_;rintro _ w1 ⟨n,rfl,hn,G,h⟩ X hX;apply cD<;>intro J;have C:n<l.length:=oK;have E:l[n]?=some l[n]:=zA C;refine eE.get (R.q8 h) n rfl E (y:=l[n]) rfl<|hf w1 l[n] _ h (zX C) λw2 I=>?_;apply eV<;>intro O;have:l.any p=true:=any_eq_true.2 ⟨l[n],yG E,O⟩;show K (decide (((n:Nat):Int)>=0)) w2;rw[yA (show ((n:Nat):Int)>=0 by omega)];rw[<- this];exact V w2 I;rw[ud oK];refine hX _ _ ⟨n+1,rfl,C,?_,I⟩ oK;rw[take_add_one,E,any_append,G];simpa using O;have Q:n=l.length:=oK;show K (decide ((-1:Int)>=0)) w1;rw[zU (show ¬(-1:Int)>=0 by decide)];have:l.any p=false:=by rw[<- G,Q,zS (zM _)]
 rw[<- this];exact V w1 h
def qs9{m:Nat}{K:Bool->WP}(O:kF S w s ps)(Q:ps.length<=1000000)(R:∀w',Fr [] w w'->K (decide (∀a∈ik ps,a.length=m)) w'): cW 200 [s.v,.i m] dr w K:=by
 refine qte<|oB (oF [] w) λr1 w1 e1 I h=>?_;have u:=O.q8 I;refine qsf (p:=λa=>decide (a.length≠m)) u Q (λw2 x K' J U C=>?_) λw' V=>?_;refine rS (lb:=[dQ r1]) rfl oL<|qo9<|KA (h.q8 J) 0 rfl (m:Int) ?_;have E:=(u.2 x U).1;have e:(!((x.1.len:Int)==(m:Int)))=decide (x.2.length≠m):=by rw[E,Ka];simp;omega
 rw[e];exact C w2 J;have e:(!((ik ps).any λa=>decide (a.length≠m)))=decide (∀a∈ik ps,a.length=m):=by
  rw[Ka,yO,zT,any_eq_false];constructor;intro h a G;have:=h a G;simpa using this;intro h a G;simp[h a G]
 rw[e];exact R w' (I.trans V)
def qyg{K:Bool->WP}(V:kF S w s ps)(hB:∀a∈ik ps,fq a)(hl:ps.length<=1000000)(kk:∀w',Fr [] w w'->K (decide (gz (ik ps))) w'): cW 201 [s.v] dr w K:=by
 refine qrY ?_;have ac:=V.len;have C:∀(i:Nat) (hi:i<ps.length),(ik ps)[i]?=some ps[i].2:=λi hi=>by rw[zQ,zA hi];rfl
 refine kz (λi w'=>∃n:Nat,i=(n:Int)/\1<=n/\(∀(j:Nat) a b,j+1<n->(ik ps)[j]?=some a->(ik ps)[j+1]?=some b->gq a b)/\Fr [] w w') (λi _=>((ps.length:Int)-i).toNat) ⟨1,rfl,zM _,λj a b h=>oK,.refl _ _⟩ ?_;rintro _ w1 ⟨n,rfl,hn,J,E⟩ X hX;apply cD<;>intro U;have G:n<ps.length:=oK;have e1:wrap .i64 ((n:Int)-1)=((n-1:Nat):Int):=(by rw[gu _ oK];omega);have I:=V.q8 E.drew;rw[e1];refine kF.get I (n-1) rfl oK<|kF.get I n rfl G<|EB (I.2 ps[n-1] (zX _)) (I.2 ps[n] (zX _)) (hB _ (yG (C (n-1) oK))) (hB _ (yG (C n G))) ?_;apply eV<;>intro O;have O:=zC O;have:¬gz (ik ps):=λhr=>by
  have:=Jj hr (show n-1<n by omega) (C (n-1) oK) (C n G);unfold gq at this;omega
 have u:=kk _ E.drew;rw[zU this] at u;exact u;have O:=zB O;rw[ud oK];refine hX _ _ ⟨n+1,rfl,oK,λj a b hj R Q=>?_,E.drew⟩ oK;by_cases hjn:j+1<n;exact J j a b hjn R Q;obtain rfl:n=j+1:=by omega
 rw[C j oK] at R;rw[C (j+1) G] at Q;cases R;cases Q;show cmpL _ _<0;simp only[Nat.add_sub_cancel] at O;omega;have ag:¬n<ps.length:=oK;have:gz (ik ps):=qlC λj a b R Q=>J j a b (by
  have:=(zP.1 Q).1;rw[zK] at this;omega) R Q
 have u:=kk w1 E;rw[yA this] at u;exact u
def qzo:vW (k:Int) (v:Int)=(((eG k v).1:Int),((eG k v).2:Int)):=by unfold vW eG;by_cases h:k<1\/k>24\/v>108;rw[iP h,iP];rfl;rw[iN h,iN];rfl
def Ia{w:Kv}{K:KI->WP}(h:∀w',Fr [] w w'->K (((eG k v).1:Int),((eG k v).2:Int)) w'):cW 126 [.i k,.i v] dA w K:=
 qAs λw' u=>by rw[qzo];exact h w' (.of_same u)
def qsp{K:Bool->WP}(hx:eY S w x n)(h1:n.J5.length<=1000000)(h2:n.J9.length<=1000000)(h3:n.J8.length<=1000000)(kk:∀w',Fr [] w w'->K (decide (gx n k v)) w'): cW 171 [.agg (fE x),.i k,.i v] dr w K:=by
 obtain⟨h0,aj,⟨pk,ac,C⟩,⟨pv,ae,R⟩,aa⟩:=hx;refine qrV<|oB (oF [] w) λr1 w1 e1 f1 h=>Ia λw2 f2=>?_;have h:=h.q8 f2;have l1:pk.length=n.J5.length:=(by rw[<- C,zK]);have l2:pv.length=n.J9.length:=(by rw[<- R,zK]);have n1:x.2.1.len=n.J5.length:=(by rw[ac.len,l1]);have n2:x.2.2.1.len=n.J9.length:=(by rw[ae.len,l2]);have n3:x.2.2.2.len=n.J8.length:=aa.1;refine jf (λb w'=>b=decide (¬((∀a∈n.J5,a.length=k)/\(∀a∈n.J9,a.length=v)/\gz n.J5))/\ed [] w w' [(r1,.cells (fE x) 176)]) ?_ ?_;refine KA h 0 rfl x.2.1<|qs9 (m:=k) (ac.q8 h.fr) oK λw3 f3=>?_;have h:=h.q8 f3;rw[C];refine eV (λG=>⟨?_,h⟩) λG=>?_;have:¬ ∀a∈n.J5,a.length=k:=zB (oQ G);exact ES λJ=>this J.1;have q1:∀a∈n.J5,a.length=k:=zC (oQ G);refine KA h 0 rfl x.2.2.1<|qs9 (m:=v) (ae.q8 h.fr) oK λw4 f4=>?_;have h:=h.q8 f4;rw[R];refine eV (λG=>⟨?_,h⟩) λG=>?_;have:¬ ∀a∈n.J9,a.length=v:=zB (oQ G);exact ES λJ=>this J.2.1;have q2:∀a∈n.J9,a.length=v:=zC (oQ G);refine KA h 0 rfl x.2.1<|qyg (ac.q8 h.fr) (by rw[C];exact aj.1) oK λw5 f5=>?_;have h:=h.q8 f5;rw[C];refine⟨?_,h⟩;rw[Ka,zT,Kn,yO];exact⟨λJ g=>J g.2.2,λJ g=>J ⟨q1,q2,g⟩⟩;rintro b w3 ⟨rfl,h⟩;have no:∀ {w'},¬gx n k v->Fr [] w w'->K false w':=λhn f=>by
  have:=kk _ f;rw[zU hn] at this;exact this
 refine eV (λG=>no (λE=>zC G ⟨E.1,E.2.1,E.2.2.1⟩) h.fr) λG=>?_;have hq:=Classical.not_not.1 (zB G);have u:gx n k v↔(if n.Q3 then n.J8=[]/\1<=n.J5.length/\n.J5.length<=(eG k v).1/\n.J9.length=n.J5.length
   else (∀x∈n.J8,2<=x)/\n.J9=[]/\2<=n.J8.length/\n.J8.length<=(eG k v).2/\n.J5.length+1=n.J8.length):=⟨λE=>E.2.2.2,λJ=>⟨hq.1,hq.2.1,hq.2.2,J⟩⟩
 refine KA h 0 rfl x.1 ?_;apply eV<;>intro G;rw[h0] at G;rw[iP G] at u;have ad:∀ {Q:Sl->Prop},Q x.2.1->ld .slice (dm r1 1) w3 Q:=λq=>KA h 0 rfl x.2.1 q;refine KA h 0 rfl x.2.2.2<|eV (λO=>?_) λO=>no (λE=>?_) h.fr;refine ad (eV (λU=>?_) λU=>no (λE=>?_) h.fr);refine ad (eV (λI=>?_) λI=>no (λE=>?_) h.fr);refine KA h 0 rfl x.2.2.1 (ad ?_);have O:=yQ.1 O;have U:=zC U;have I:=zC I;have e:((x.2.2.1.len:Int)==(x.2.1.len:Int))=decide (gx n k v):=by rw[Ka,yQ,yO,u];dsimp only at I;constructor;intro J;exact⟨Kg oK,oK,oK,oK⟩;intro J;omega
 rw[e];exact kk w3 h.fr;have:=(u.1 E).2.2.1;have I:=zB I;dsimp only at I;omega;have:=(u.1 E).2.1;have U:=zB U;omega;have:=(u.1 E).1;have O:=zR.1 O;rw[this] at n3;exact O (by rw[n3];rfl);rw[h0] at G;rw[iN (by rw[G];decide)] at u;have V:∀ {w'} {Q:Sl->Prop},ed [] w w' [(r1,.cells (fE x) 176)]->Q x.2.2.2->ld .slice (dm r1 3) w' Q:=λh q=>KA h 0 rfl x.2.2.2 q;refine V h<|qsg (p:=λy=>decide (y<2)) (aa.q8 h.fr) h3 (λw4 y K' f4 hy an=>?_) λw4 f4=>?_;exact rS (lb:=[]) rfl oL<|qn4<|an w4 f4;have h:=h.q8 f4;refine eV (λc0=>no (λE=>?_) h.fr) λc0=>?_;obtain⟨y,hy,ap⟩:=any_eq_true.1 c0
 have:=(u.1 E).1 y hy;have:=zC ap;omega;have ag:∀y∈n.J8,2<=y:=λy hy=>by
  have:=any_eq_false.1 c0 y hy;simp at this;exact this
 refine KA h 0 rfl x.2.2.1<|eV (λO=>?_) λO=>no (λE=>?_) h.fr;refine V h (eV (λU=>?_) λU=>no (λE=>?_) h.fr);refine V h (eV (λI=>?_) λI=>no (λE=>?_) h.fr);refine KA h 0 rfl x.2.1 (V h ?_);have O:=yQ.1 O;have U:=zC U;have I:=zC I;dsimp only at I;have ew:wrap .i64 ((x.2.2.2.len:Int)-1)=(x.2.2.2.len:Int)-1:=gu _ oK;have e:((x.2.1.len:Int)==wrap .i64 ((x.2.2.2.len:Int)-1))=decide (gx n k v):=by rw[ew,Ka,yQ,yO,u];constructor;intro J;exact⟨ag,Kg oK,oK,oK,oK⟩;intro J;omega
 rw[e];exact kk _ h.fr;have:=(u.1 E).2.2.2.1;have I:=zB I;dsimp only at I;omega;have:=(u.1 E).2.2.1;have U:=zB U;omega;have:=(u.1 E).2.1;have O:=zR.1 O;rw[this] at n2;exact O (by rw[n2];rfl)
end
end
section
def Co{src:Sl}{ys:KE}(h:gA w s l B)(J:eO S w src ys)(hl:l.length+ys.length<=1000000)(O:∀E B' w',gA w' E (l++ys) B'->Fr B w w'->(∀b∈B',b∈B\/w.heap.size<=b)->K E w'): Pt.run dp ((Builtin.append_ #[96,96] 96 #[s.v,src.v]).run prog w) K:=by obtain⟨i,Q,R,G,I⟩:=Ap;have C:=J.1;exact fB.j2 (e:=5) h mW oL Q R G rfl (wF (e':=5) J mW (λx u U=>by rw[zE.1 U];rfl) oL) C (by rw[I];omega) oK λE B' w' b' V n' _=>O E B' w' b' V n'
def qBF(n:Int):be n 2=[wrap .u8 (Int.fdiv n (2^8)),wrap .u8 n]:=by show [iA n 1,iA n 0]=_;unfold iA;rw[show (min (8*1) 32:Nat)=8 from rfl,show (min (8*0) 32:Nat)=0 from rfl,Int.pow_zero,Int.fdiv_one]
def qCB(n:Int):be n 4=[wrap .u8 (Int.fdiv n (2^24)),wrap .u8 (Int.fdiv n (2^16)),wrap .u8 (Int.fdiv n (2^8)),wrap .u8 n]:=by show [iA n 3,iA n 2,iA n 1,iA n 0]=_;unfold iA;rw[show (min (8*3) 32:Nat)=24 from rfl,show (min (8*2) 32:Nat)=16 from rfl,show (min (8*1) 32:Nat)=8 from rfl,show (min (8*0) 32:Nat)=0 from rfl,Int.pow_zero,Int.fdiv_one]
def kF.get'(h:kF S w s ps)(n:Nat){i:Int}{K:Addr->Sl->Prop}(hi:i=n)(J:n<ps.length)(O:∀a,w.cell? a=some (.slice ps[n].1.a ps[n].1.len ps[n].1.cap)->(∀w',kF S w' s ps->w'.cell? a=some (.slice ps[n].1.a ps[n].1.len ps[n].1.cap))->K a ps[n].1):idx s i 1 λa=>ld .slice a w λx=>K a x:=by
 subst hi;have G:(jt ps)[n]?=some ps[n].1:=(by rw[zQ,zA J];rfl);obtain⟨V,b,o,I,_,cs,T,fr,hb,hc⟩:=h.1.at n G;refine sM I ⟨oK,oK⟩ ?_;rw[zJ];have key:∀w',kF S w' s ps->w'.cell? ⟨b,o+n*1,none⟩=some (.slice ps[n].1.a ps[n].1.len ps[n].1.cap):=λw' Q=>by
  obtain⟨_,b',o',u,_,R,T',U,C,E⟩:=Q.1.at n G;rw[I] at u;cases u;rw[kD C]
  have:=Kr (·[0]?) E;simpa[iv] using this
 exact qj ps[n].1 (key w h) (O _ (key w h) key)
def I7{b n:Nat}(u:w.heap[b]?=some (.c (l.map (Value.int .u8)).toArray T))(h:n=l.length):gA w ⟨pW b,n,n⟩ l [b]:=
 fB.one (e:=Value.int .u8) (λ_=>rfl) u h (zM _) (by simp[h]) (by rw[<- zK (f:=Value.int .u8),vB])
def qBg{b:Nat}{n:Int}(u:w.heap[b]?=some (.c #[.b (wrap .u8 (Int.fdiv n (2^24))),.b (wrap .u8 (Int.fdiv n (2^16))),.b (wrap .u8 (Int.fdiv n (2^8))),.b (wrap .u8 n)] T)):eO [] w ⟨pW b,4,4⟩ (be n 4):=by rw[qCB];exact fB.k5 mW (I7 (n:=4) u rfl) λ_ _ h=>nomatch h
section
variable {S:KD} {w:Kv} {s:Sl}
def qAx{n:Nat}(hn:n<=1000000)(Q:∀u B w',gA w' u [] B->Fr [] w w'->(∀b∈B,w.heap.size<=b)->K u w'): cW 114 [.slice none 0 0,.i n] dp w K:=by obtain⟨E,R,U,G,I⟩:=Ap;refine qqo (s:=dR) (n:=n) ?_;have e0:wrap .i64 (((0:Nat):Int)-((0:Nat):Int))=0:=gu _ oN;have e1:wrap .i64 ((n:Int)-0)=(n:Int):=(by rw[gu _ oK];omega);refine jf (λ_ w'=>w=w') (JU (zU oK) rfl) ?_;rintro _ _ rfl;refine jf (λu w'=>∃B,gA w' u [] B/\Fr [] w w'/\∀b∈B,w.heap.size<=b) ?_ λu w' ⟨B,V,f1,n1⟩=>Q u B w' V f1 n1;dsimp only;rw[e0,e1];refine eV (λO=>?_) λO=>⟨[],.nil _ _ _,.refl _ _,λ_ h=>nomatch h⟩;have C:0<n:=(by have:=zC O;omega);refine Aw ⟨oK,by dsimp only;omega⟩ ?_;rw[zJ];dsimp only;refine JE (e:=5) (i:=E) (kn:=.i64) (olds:=[]) oL oL R U G rfl rfl (λ_=>rfl) (λa ha=>nomatch ha) C oK (by rw[I];omega) oK λb cs c w2 e2 hb f2 h1 h2 h3=>Aw ⟨oK,by dsimp only;omega⟩ ?_;rw[zJ];exact⟨[b],fB.fresh (cap:=c) mW hb rfl (yY _) oK rfl,f2,λb' J=>by rw[zE.1 J,e2];exact zM _⟩
def qk9{i:Nat}(hi:i<ps.length):((ik ps).take (i+1)).flatten=((ik ps).take i).flatten++ps[i].2:=by rw[take_add_one,zQ,zA hi,flatten_append];simp
def JF(i:Nat):((ik ps).take i).flatten.length<=(ik ps).flatten.length:=by have:(ik ps).flatten=((ik ps).take i).flatten++((ik ps).drop i).flatten:=(by rw[<- flatten_append,xG]);rw[this,zF];omega
def qqz(O:kF S w s ps)(hl:ps.length<=1000000)(ht:(ik ps).flatten.length<=1000000)(kk:∀s' B w',gA w' s' (ik ps).flatten B->Fr [] w w'->(∀b∈B,w.heap.size<=b)->K s' w'): cW 77 [s.v] dp w K:=by
 refine qoh ?_;have ae:=O.len;refine kz (λt w'=>∃i:Nat,t=((((ik ps).take i).flatten.length:Int),(i:Int))/\i<=ps.length/\w'=w) (λt _=>((ps.length:Int)-t.2).toNat) ⟨0,rfl,yY _,rfl⟩ ?_;rintro t w' ⟨i,rfl,hi,rfl⟩ X V;dsimp only;apply cD<;>intro E;have u:i<ps.length:=oK;have G:=JF (ps:=ps) (i+1);have C:=qk9 u;have aa:=(O.2 ps[i] (zX u)).1;have e:wrap .i64 ((((ik ps).take i).flatten.length:Int)+(ps[i].1.len:Int))=(((ik ps).take (i+1)).flatten.length:Int):=by rw[C,zF] at G⊢;rw[gu _ oK,aa];rfl
 refine jf (λx w2=>x=(((ik ps).take (i+1)).flatten.length:Int)/\w2=w') ?_ ?_;refine kF.get O i rfl u ?_;rw[e];exact JU (zU oK) ⟨rfl,rfl⟩;rintro x w2 ⟨rfl,rfl⟩;rw[ud oK];exact V _ _ ⟨i+1,rfl,u,rfl⟩ oO;have I:i=ps.length:=oK;refine qAx (zL (JF (ps:=ps) i) ht) λs1 B1 w1 b1 f1 n1=>kz (λt w2=>∃(j:Nat) (Q:Sl) (R:KD),t=(Q,(j:Int))/\j<=ps.length/\gA w2 Q ((ik ps).take j).flatten R/\Fr [] w' w2/\∀b∈R,w'.heap.size<=b) (λt _=>((ps.length:Int)-t.2).toNat) ⟨0,s1,B1,rfl,yY _,b1,f1,n1⟩ ?_;rintro t w2 ⟨j,Q,R,rfl,hj,b2,U,n2⟩ X V;dsimp only;apply cD<;>intro E;have u:j<ps.length:=oK;have G:=JF (ps:=ps) (j+1);have C:=qk9 u;have J:=O.q8 U;refine kF.get J j rfl u<|Co b2 (J.2 ps[j] (zX u)) (by rw[C,zF] at G;omega) λs3 B3 w3 b3 f3 n3=>?_;rw[ud oK];refine V _ _ ⟨j+1,s3,B3,rfl,u,by rw[C];exact b3,U.j8 f3 λi hi=>.inr (n2 i hi),λb hb=>?_⟩ oO;rcases n3 b hb with h|h;exact n2 b h;exact zL U.size h;have I:j=ps.length:=oK;rw[I,zS (by rw[zK];exact zM _)] at b2;exact kk Q R w2 b2 U n2
def qzc{K:KS->WP}(hx:eY S w x n)(h1:n.J5.length<=1000000)(h2:n.J9.length<=1000000)(h3:n.J8.length<=1000000)(kk:∀s w',(∀G:KD,(∀b∈G,b<w.heap.size)->eO G w' s (fH n k v).2.1)->Fr [] w w'->K ((fH n k v).1,s,(fH n k v).2.2) w'): cW 183 [.agg (fE x),.i k,.i v] dw w K:=by
 have aU:=hx;obtain⟨h0,bc,⟨pk,am,E⟩,⟨pv,an,R⟩,aj⟩:=hx;refine qrW<|oB (oF [] w) λr1 w1 e1 f1 h=>KC h 0 rfl x<|qsp (x:=x) (aU.q8 f1) h1 h2 h3 λw2 f2=>?_;have h:=h.q8 f2;apply eV<;>intro C;have hn:¬gx n k v:=zB (oQ C)
 have:=kk dR w2 (λG _=>by unfold fH;rw[iN hn];exact .nil _ _ _ _) h.fr;unfold fH at this;rw[iN hn] at this;exact this;have hR:gx n k v:=zC (oQ C);have hW:fH n k v=(jJ n,io n,0):=(by unfold fH;rw[iP hR]);rw[hW] at kk;have aC:=(FE hR).2;have l1:pk.length=n.J5.length:=(by rw[<- E,zK]);have l2:pv.length=n.J9.length:=(by rw[<- R,zK]);have n1:x.2.1.len=n.J5.length:=(by rw[am.len,l1]);have n3:x.2.2.2.len=n.J8.length:=aj.1;have aD:∀ {s' B w'},gA w' s' (io n) B->(∀b∈B,w.heap.size<=b)->Fr [] w w'->K (jJ n,s',0) w':=λb hB f=>kk _ _ (λG hG=>b.k5 mW λc C hm=>by have:=hB c C;have:=hG c hm;omega) f;refine KA h 0 rfl x.1 ?_;apply eV<;>intro C;rw[h0] at C;have u:io n=be n.J5.length 2++(n.J5.zip n.J9).flatMap (λx=>x.1++x.2):=(by unfold io;rw[iP C];rfl);have J:jJ n=3:=(by unfold jJ;rw[iP C]);have aE:=hR.2.2.2;rw[iP C] at aE;have aF:(n.J5.zip n.J9).length=n.J5.length:=(by rw[length_zip,aE.2.2.2,Nat.min_self]);refine KA h 0 rfl x.2.1<|KA h 0 rfl x.2.1<|oB h λr9 w3 e3 f3 h=>KA h 1 rfl x.2.1 ?_;have h9:=h.at (i:=0) rfl;have ap:=h.sub (L':=[(r1,.cells (fE x) 176)]) (Kl _ _);have aq:r1≠r9:=λe=>by have:=h.nodup;simp[e] at this
 have U:w.heap.size<=r9:=(h.own (r9,_) (JZ ..)).elim (λh=>nomatch h) id;refine kz (λt w'=>∃(i:Nat) (s2:Sl) (B2:KD),t=(s2,(i:Int))/\i<=n.J5.length/\gA w' s2 (be n.J5.length 2++((n.J5.zip n.J9).take i).flatMap λx=>x.1++x.2) B2/\ed [] w w' [(r1,.cells (fE x) 176)]/\r1∉B2/\∀b∈B2,w.heap.size<=b) (λt _=>((n.J5.length:Int)-t.2).toNat)
  ⟨0,_,[r9],rfl,yY _,?_,ap,by simpa using aq,λb V=>by rw[zE.1 V];exact U⟩ ?_
 rw[qBF,take_zero,flatMap_nil,xJ];refine I7 (T:=5) ?_ rfl;rw[n1] at h9;exact h9;rintro t w4 ⟨i,s2,B2,rfl,hi,b2,ho,ab,I⟩ X hX;dsimp only;apply eV<;>intro C;have ag:i<n.J5.length:=(by have:=zC C;omega);have bp:i<n.J9.length:=oK;have aH:=am.q8 ho.fr;refine kF.get aH i rfl oK ?_;have ac:=ho.drew;refine KA ac 0 rfl x.2.2.1 ?_;have aX:=an.q8 ac.fr;have ad:i<pv.length:=oK;have ak:i<pk.length:=oK;refine kF.get' aX i rfl ad λa ha hh=>?_;have ah:n.J5[i]?=some pk[i].2:=(by rw[<- E,zQ,zA ak];rfl);have aY:n.J9[i]?=some pv[i].2:=(by rw[<- R,zQ,zA ad];rfl);have hz:(n.J5.zip n.J9)[i]?=some (pk[i].2,pv[i].2):=List.getElem?_zip_eq_some.2 ⟨ah,aY⟩;have O:((n.J5.zip n.J9).take (i+1)).flatMap (λx=>x.1++x.2)=((n.J5.zip n.J9).take i).flatMap (λx=>x.1++x.2)++(pk[i].2++pv[i].2):=by rw[take_add_one,hz,yR];simp
 have ai:(be n.J5.length 2++((n.J5.zip n.J9).take (i+1)).flatMap λx=>x.1++x.2).length<=500:=(by refine zL ?_ aC;rw[u,zF,zF];have e:(n.J5.zip n.J9).flatMap (λx=>x.1++x.2)=((n.J5.zip n.J9).take (i+1)).flatMap (λx=>x.1++x.2)++((n.J5.zip n.J9).drop (i+1)).flatMap (λx=>x.1++x.2):=(by rw[<- yR,xG]);rw[e,zF];omega);rw[O,zF,zF,zF] at ai;have bu:=ho.drew;refine Co (w:=w4.drew) (b2.q8 (Fr.refl [] w4).drew) ((aH.2 pk[i] (zX ak)).q8 (Fr.refl [] w4).drew) (by rw[zF];omega) λs3 B3 w5 b3 f5 n5=>?_;have Q:=ac.j0 f5 (λi hi=>.inr (I i hi)) (λp hp=>by rw[zE.1 hp];exact ab);have aJ:∀b∈B3,w.heap.size<=b:=λb V=>by rcases n5 b V with h|h;exact I b h;exact zL ac.fr.size h
 refine kH (hh w5 (an.q8 Q.fr)) (Q.cell 0) ?_;have aK:r1∉B3:=λhm=>by
  rcases n5 r1 hm with h|h;exact ab h;have:=fl (ac.at (i:=0) rfl);dsimp only at this;omega
 refine Co b3 ((an.q8 Q.fr).2 pv[i] (zX ad)) (by rw[zF,zF];omega) λs6 B6 w6 b6 f6 n6=>?_;have ax:=Q.j0 f6 (λi hi=>.inr (aJ i hi)) (λp hp=>by rw[zE.1 hp];exact aK);rw[ud oK];refine hX _ _ ⟨i+1,s6,B6,rfl,ag,by rw[O,<- zV,<- zV];exact b6,ax,λhm=>?_,λb V=>?_⟩ oO;rcases n6 r1 hm with h|h;exact aK h;have:=fl (Q.at (i:=0) rfl);dsimp only at this;omega;rcases n6 b V with h|h;exact aJ b h;exact zL Q.fr.size h;have ay:i=n.J5.length:=(by have:=zB C;omega);rw[ay,<- aF,vB,aF,<- u] at b2;have:=aD b2 I ho.fr;rw[J] at this;exact this;rw[h0] at C;have aM:¬n.Q3=true:=(by rw[C];decide);have u:io n=be n.J8.length 2++n.J8.flatMap (λx=>be x 4)++n.J5.flatten:=(by unfold io;rw[iN aM]);have J:jJ n=4:=(by unfold jJ;rw[iN aM]);refine KA h 0 rfl x.2.2.2<|KA h 0 rfl x.2.2.2<|oB h λr9 w3 e3 f3 h=>KA h 1 rfl x.2.2.2 ?_;have h9:=h.at (i:=0) rfl;have ap:=h.sub (L':=[(r1,.cells (fE x) 176)]) (Kl _ _);have aq:r1≠r9:=λe=>by have:=h.nodup;simp[e] at this
 have U:w.heap.size<=r9:=(h.own (r9,_) (JZ ..)).elim (λh=>nomatch h) id;have a0:(be n.J8.length 2++n.J8.flatMap λx=>be x 4).length+n.J5.flatten.length<=500:=(by rw[<- zF,<- u];exact aC);refine kz (λt w'=>∃(i:Nat) (s2:Sl) (B2:KD),t=(s2,(i:Int))/\i<=n.J8.length/\gA w' s2 (be n.J8.length 2++(n.J8.take i).flatMap λx=>be x 4) B2/\ed [] w w' [(r1,.cells (fE x) 176)]/\r1∉B2/\∀b∈B2,w.heap.size<=b) (λt _=>((n.J8.length:Int)-t.2).toNat)
  ⟨0,_,[r9],rfl,yY _,?_,ap,by simpa using aq,λb V=>by rw[zE.1 V];exact U⟩ ?_
 rw[qBF,take_zero,flatMap_nil,xJ];refine I7 (T:=5) ?_ rfl;rw[n3] at h9;exact h9;rintro t w4 ⟨i,s2,B2,rfl,hi,b2,ho,ab,I⟩ X hX;dsimp only;apply cD<;>intro C;have ag:i<n.J8.length:=oK;have ah:n.J8[i]?=some n.J8[i]:=zA ag;refine eE.get (aj.q8 ho.fr) i rfl ah (y:=n.J8[i]) rfl<|oB ho λr6 w5 e5 f5 h5=>?_;have a1:=h5.at (i:=0) rfl;have O:(n.J8.take (i+1)).flatMap (λx=>be x 4)=(n.J8.take i).flatMap (λx=>be x 4)++be n.J8[i] 4:=by rw[take_add_one,ah,yR];simp
 have ai:(be n.J8.length 2++(n.J8.take (i+1)).flatMap λx=>be x 4).length<=500:=(by have e:n.J8.flatMap (λx=>be x 4)=(n.J8.take (i+1)).flatMap (λx=>be x 4)++(n.J8.drop (i+1)).flatMap (λx=>be x 4):=(by rw[<- yR,xG]);rw[e,zF,zF] at a0;rw[zF];omega);rw[O,zF,zF] at ai;have al:eO [] w5 ⟨pW r6,4,4⟩ (be n.J8[i] 4):=qBg (T:=5) a1;have az:=lM n.J8[i] 4;generalize be n.J8[i] 4=aN at O ai al az;refine Co (src:=⟨pW r6,4,4⟩) (ys:=aN) (b2.q8 f5) al (by rw[zF];omega) λs6 B6 w6 b6 f6 n6=>?_;have aA:=h5.sub (L':=[(r1,.cells (fE x) 176)]) (Kl _ _);have ax:=aA.j0 f6 (λi hi=>.inr (I i hi)) (λp hp=>by rw[zE.1 hp];exact ab);rw[ud oK];refine hX _ _ ⟨i+1,s6,B6,rfl,ag,by rw[O,<- zV];exact b6,ax,λhm=>?_,λb V=>?_⟩ oO;rcases n6 r1 hm with h|h;exact ab h;have:=fl (aA.at (i:=0) rfl);dsimp only at this;omega;rcases n6 b V with h|h;exact I b h;exact zL aA.fr.size h;have ay:i=n.J8.length:=oK;rw[ay,vB] at b2;refine KA ho 0 rfl x.2.1<|qqz (am.q8 ho.fr) oK (by rw[E];omega) λs5 B5 w5 b5 f5 n5=>?_;rw[E] at b5;refine Co (b2.q8 f5) (b5.k5 mW (S:=[]) λ_ _ h=>nomatch h) oK λs6 B6 w6 b6 f6 n6=>?_;rw[<- u] at b6
 have:=aD b6 (λb V=>by rcases n6 b V with h|h;exact I b h;exact zL (zL ho.fr.size f5.size) h) ((ho.fr.trans f5).j8 f6 λi hi=>.inr (I i hi));rw[J] at this;exact this
end
end
abbrev ND:Kx:=176
def FV{k v:Nat}:∀(c:Nat) (b:KE),(jP k v c b).1.length=c/\(jP k v c b).2.length=c
 | 0,_=>⟨rfl,rfl⟩
 | c+1,b=>by
  have:=FV (k:=k) (v:=v) c (b.drop (k+v));exact⟨by rw[jP,yJ,this.1],by rw[jP,yJ,this.2]⟩
def qo1{k v:Nat}:∀(c:Nat) (b:KE),jP k v (c+1) b=((jP k v c b).1++[(b.drop (c*(k+v))).take k],(jP k v c b).2++[((b.drop (c*(k+v))).drop k).take v])
 | 0,b=>by simp[jP]
 | c+1,b=>by have ih:=qo1 (k:=k) (v:=v) c (b.drop (k+v));have e:(k+v)+c*(k+v)=(c+1)*(k+v):=(by rw[xW];omega);rw[jP,ih];simp only[xF,e];rfl
def qo0:∀(c:Nat) (b:KE),y9 (c+1) b=y9 c b++[jd ((b.drop (c*4)).take 4)]
 | 0,b=>by simp[y9]
 | c+1,b=>by have ih:=qo0 c (b.drop 4);have e:4+c*4=(c+1)*4:=oK;rw[y9,ih,xF,e];rfl
def qoY{k:Nat}:∀(c:Nat) (b:KE),mu k (c+1) b=mu k c b++[(b.drop (c*k)).take k]
 | 0,b=>by simp[mu]
 | c+1,b=>by have ih:=qoY (k:=k) c (b.drop k);have e:k+c*k=(c+1)*k:=(by rw[xW];omega);rw[mu,ih,xF,e];rfl
def IB:∀(c:Nat) (b:KE),(y9 c b).length=c
 | 0,_=>rfl
 | c+1,b=>by rw[y9,yJ,IB c]
def HP{k:Nat}:∀(c:Nat) (b:KE),(mu k c b).length=c
 | 0,_=>rfl
 | c+1,b=>by rw[mu,yJ,HP c]
def rW{x:Sl}{l:List Sl}{vb:Nat}{T':Kx}(h:fB iv 1 w s l B)(hl:l.length<=100000)(Q:w.heap[vb]?=some (.c #[gT x] T'))(R:∀C B' w',fB iv 1 w' C (l++[x]) B'->Fr B w w'->(∀b∈B',b∈B\/w.heap.size<=b)->K C w'): Pt.run dp ((Builtin.append_ #[173,173] 173 #[s.v,.slice (pW vb) 1 1]).run prog w) K:=by obtain⟨U,E,V,G,I⟩:=EE;refine fB.j2 (ys:=[x]) (e:=96) h zu oL E V G rfl (.ofSlice w (e':=96) oL _ 1 1 _ rfl (λj u J=>?_) λu O=>?_) rfl (by rw[I];omega) oK λC B' w' b' f' n' _=>R C B' w' b' f' n';rw[Addr.j1,kD Q,xU];rw[yI,flatMap_nil,xJ] at J;simpa[iv] using J;rw[yI,flatMap_nil,xJ] at O;rw[zE.1 O];rfl
def quV{x:Int}{vb:Nat}{T':Kx}(h:fB jD 1 w s l B)(hl:l.length<=100000)(Q:w.heap[vb]?=some (.c #[.u x] T'))(R:∀C B' w',fB jD 1 w' C (l++[x]) B'->Fr B w w'->(∀b∈B',b∈B\/w.heap.size<=b)->K C w'): Pt.run dp ((Builtin.append_ #[174,174] 174 #[s.v,.slice (pW vb) 1 1]).run prog w) K:=by obtain⟨U,E,V,G,I⟩:=BF;refine fB.j2 (ys:=[x]) (e:=44) h u9 oL E V G rfl (.ofSlice w (e':=44) oL _ 1 1 _ rfl (λj u J=>?_) λu O=>?_) rfl (by rw[I];omega) oK λC B' w' b' f' n' _=>R C B' w' b' f' n';rw[Addr.j1,kD Q,xU];rw[yI,flatMap_nil,xJ] at J;simpa[jD] using J;rw[yI,flatMap_nil,xJ] at O;rw[zE.1 O];rfl
abbrev uy (h:Nat):Kw:=.func (.func 231) #[] #[dQ h]
def qtO{u i m:Nat}(h:ed [] w0 w L)(hi:L[i]?=some (u,.c #[gT s] T))(E:eO [] w0 s b)(C:m<=b.length)(hl:b.length<=1000000)(kk:∀J B' O w',ed [] w0 w' (L.set i (u,.c #[gT O] T))->gA w' J (b.take m) B'->(∀c∈B',w.heap.size<=c)->eO [] w0 O (b.drop m)->Fr [u] w w'->K J w'): eF prog (uy u) [.i m] dp w K:=by
 refine rS (lb:=[dQ u]) rfl oL<|qn5<|oA h i hi s rfl<|eE.part (S:=[]) E (lo:=none) (hi:=some (m:Int)) 0 m rfl rfl (yY _) C λs1 _ Q _=>?_;rw[xH] at Q;refine CP (Q.q8 h.fr) (by rw[yM];omega) λs2 B2 w2 b2 R U _ _=>?_;have V:=h.q8 R;refine oA V i hi s rfl<|eE.part (S:=[]) E (lo:=some (m:Int)) (hi:=none) m b.length rfl (by rw[xY,E.1]) C (zM _) λs3 _ h3 _=>?_;rw[vB] at h3;have G:=fl (h.at hi);refine oH V i hi #[gT s3] rfl rfl (zM _) λw3 I f3=>kk s2 B2 s3 w3 I (b2.j0 f3 λc hc C=>?_) U h3 ((R.mono λ_ h _=>nomatch h).trans f3)
 have:=U c hc;rw[zE.1 C] at this;dsimp only at G;omega
def xv (x:lJ) (o:Nat):Sl:=if o=1 then x.2.1 else x.2.2.1
def Bs (x:lJ) (o:Nat) (s:Sl):lJ:=if o=1 then (x.1,s,x.2.2) else (x.1,x.2.1,s,x.2.2.2)
def HO{o:Nat}(h:o=1\/o=2):(fE x)[o]?=some (gT (xv x o)):=by rcases h with rfl|rfl<;>rfl
def qBj{o:Nat}(h:o=1\/o=2):ef (fE x) o [gT s]=fE (Bs x o s):=by rcases h with rfl|rfl<;>rfl
def Hf{E I m o:Nat}{s':Sl}{l:List Sl}{Bk:KD}{K:WP}(ho:o=1\/o=2)(h:ed [] w0 w ((E,.c (fE x) ND)::(I,.c #[gT s'] T)::L))(hr:eO [] w0 s' b)(C:m<=b.length)(aG:b.length<=1000000)(ac:fB iv 1 w (xv x o) l Bk)(V:∀c∈Bk,w0.heap.size<=c/\c∉E::I::L.map (·.1))(hl:l.length<=100000)(kk:∀sn sN O Bk' w',ed [] w0 w' ((E,.c (fE (Bs x o O)) ND)::(I,.c #[gT sN] T)::L)->eO [] w0 sN (b.drop m)->fB iv 1 w' O (l++[sn]) Bk'-> (∀c∈Bk',c∈Bk\/w.heap.size<=c)->(∀c∈Bk',c∉E::I::L.map (·.1))->Fr (E::I::Bk) w w'->(∀G:KD,(∀c∈G,c<w.heap.size\/c∈Bk')->eO G w' sn (b.take m))->K w'): (ld Cell.slice (dm E o) w.drew<|λ(u:Sl)=> eF prog (uy I) ([Value.int IntKind.i64 m]) (dp) w.drew<|λ(Q:Sl) (ad:Kv)=> held [λ(aq:Go.World)=>World.cell? aq (dm E o)=some (Value.slice u.a u.len u.cap)] ad<| new (.cells #[Value.slice Q.a Q.len Q.cap] 96) ad<|λ(ar:Nat) (ae:Kv)=> held [λ(au:Go.World)=>World.cell? au (dm E o)=some (Value.slice u.a u.len u.cap)] ae<| run dp ((Builtin.append_ (#[173,173]) 173 (#[Value.slice u.a u.len u.cap,Value.slice (pW ar) 1 1])).run prog ae)<|λ(R:Sl) (av:Kv)=> st (dm E o) ([Value.slice R.a R.len R.cap]) av K):=by
 have hd:=h.drew;refine oA hd 0 rfl (xv x o) (HO ho)<|qtO hd (i:=1) rfl hr C aG λaH aI sN ah aa aJ aK hN ai=>?_;have aa:ed [] w0 ah ((E,.c (fE x) ND)::(I,.c #[gT sN] T)::L):=aa;refine ja (aa.cell 0 rfl (HO ho))<|oB aa λaX aY aZ aj ak=>ja (ak.cell 1 rfl (HO ho)) ?_;have al:fB iv 1 w.drew (xv x o) l Bk:=ac;have aw:=al.j0 ai λc J C=>(V c J).2 (by rw[zE.1 C];simp);have ax:=aw.q8 aj;refine rW ax hl (ak.at (i:=0) rfl) λO Bk' a0 aL am ay=>?_;have az:=ak.sub (L':=(E,.c (fE x) ND)::(I,.c #[gT sN] T)::L) (Kl _ _);have a1:w.heap.size<=ah.heap.size:=ai.size;have a2:=aj.size;have a3:=am.size;have U:∀c∈E::I::L.map (·.1),c<w.heap.size:=λc J=>by obtain⟨p,hp,rfl⟩:=mem_map.1 (show c∈((E,Obj.cells (fE x) ND (0,0))::(I,.c #[gT s'] T)::L).map (·.1) from J);exact fl (h.jz p hp)
 have an:∀p∈((E,Obj.cells (fE x) ND (0,0))::(I,.c #[gT sN] T)::L),p.1∉Bk:=λp hp C=>(V p.1 C).2 (zZ (f:=(·.1)) hp);have aN:=az.j0 am (λi hi=>.inr (V i hi).1) an;have af:∀c∈Bk',c∈Bk\/w.heap.size<=c:=λc J=>(ay c J).elim .inl λh=>.inr oK;have aA:∀c∈Bk',c∉E::I::L.map (·.1):=λc J C=>by
  rcases af c J with h|h;exact (V c h).2 C;have:=U c C;omega
 refine oH aN 0 rfl (fE (Bs x o O)) (qBj ho) rfl (by rcases ho with rfl|rfl<;>exact zO rfl) λao aO aB=>?_;have h5:∀c∈Bk',c∉[E]:=λc J C=>aA c J (by rw[zE.1 C];simp);have aC:Fr (E::I::Bk) ah ao:=((aj.mono λ_ h _=>nomatch h).trans (am.mono λi hi _=>by simp[hi])).trans (aB.mono λi hi _=>by simp[zE.1 hi]);have aP:Fr (E::I::Bk) w ao:=((Fr.refl _ w).drew.trans (ai.mono λi hi _=>by simp[zE.1 hi])).trans aC;refine kk aH sN O Bk' ao aO hN (aL.j0 aB h5) af aA aP λG hG=>?_;have aD:∀c∈aI,c∉E::I::Bk++G.filter λc=>decide (c<w.heap.size):=λc J C=>by
  have h1:w.heap.size<=c:=aK c J;rcases zD.1 C with C|C;rcases zG.1 C with rfl|C;have:=U c oM;omega;rcases zG.1 C with rfl|C;have:=U c oM;omega;have:=ac.lt c C;omega;have:=(mem_filter.1 C).2;simp at this;omega
 refine (aJ.k5 mW aD).j0 (aC.mono λi hi _=>zH _ hi) λc J=>?_;rcases hG c J with h1|h1;exact .inl (zI _ (mem_filter.2 ⟨J,by simpa using h1⟩));rcases ay c h1 with h2|h2;exact .inl (zH _ (by simp[h2]));exact .inr oK
section
def Fm{L':KK}(h:ed S w0 w L)(p:L.Perm L'):ed S w0 w L':=⟨λx u=>h.jz x (p.mem_iff.2 u),(p.map _).nodup_iff.1 h.nodup,h.fr,λx u=>h.own x (p.mem_iff.2 u)⟩
def BN{α:Type}{enc:α->List Kw}{l:List α}(h:fB enc k w s l B):B.Nodup:=by rcases h with ⟨_,_,rfl⟩|⟨b,_,_,_,rfl,_⟩<;>simp
def wL (w:Kv) (ps:rP) (T:KD):Prop:=∀p∈ps,eO T w p.1 p.2
def wL.j0{w w':Kv}{ps:rP}{T T' S:KD}(h:wL w ps T)(f:Fr S w w')(u:∀b∈S,b∈T)(C:∀b∈T',b∈T\/w.heap.size<=b):wL w' ps T':=λp E=>(h p E).j0 (f.mono λi G _=>u i G) C
def wL.snoc{T:KD}{a:Key}(h:wL w ps T)(g:eO T w s a):wL w (ps++[(s,a)]) T:=λp u=>by rcases zD.1 u with u|u;exact h p u;rw[zE.1 u];exact g
def qvp{G:KD}{pk pv:rP}{Bk h u T:KD}(h0:x.1=n.Q3)(hN:NB n)(O:fB iv 1 w x.2.1 (jt pk) Bk)(e1:ik pk=n.J5)(Q:fB iv 1 w x.2.2.1 (jt pv) h)(e2:ik pv=n.J9)(R:fB jD 1 w x.2.2.2 n.J8 u)(U:∀c∈Bk,c∉h/\c∉u)(d2:∀c∈h,c∉u)(g1:wL w pk T)(g2:wL w pv T)(V:∀c∈G++(Bk++(h++u)),c∈T):fU (G++(Bk++(h++u))) w x n (Bk++(h++u)):=by refine⟨h0,hN,Bk,h,u,rfl,?_,⟨pk,O,e1,λp I=>(g1 p I).j6 λc J=>.inl (V c J)⟩,⟨pv,Q,e2,λp I=>(g2 p I).j6 λc J=>.inl (V c J)⟩,R⟩;refine yN.2 ⟨BN O,yN.2 ⟨BN Q,BN R,λa E b C e=>d2 a E (e▸C)⟩,λa E b C e=>?_⟩;rcases zD.1 C with C|C;exact (U a E).1 (e▸C);exact (U a E).2 (e▸C)
section
variable {w:Kv} {s:Sl} {b:KE}
def qBb{count:Nat}{K:lJ×Bool->WP}(hb:eO [] w s b)(hB:fq b)(hl:b.length<=1000)(hc:count<=100000)(hk:1<=k/\k<=1000)(hv:v<=1000)(kk:∀x B n w',(b.length=count*(k+v)->n=⟨true,(jP k v count b).1,(jP k v count b).2,[]⟩)->fU (List.range w.heap.size++B) w' x n B->Fr [] w w'->(∀c∈B,w.heap.size<=c)->K (x,decide (b.length=count*(k+v))) w'): cW 169 [s.v,.i count,.i k,.i v] [.agg eJ,.one .bool] w K:=by
 refine qtd<|oB (oF [] w) λr1 w1 e1 f1 h=>?_;have a1:count*(k+v)<=100000*2000:=Nat.mul_le_mul hc oK;have ew:wrap .i64 ((count:Int)*wrap .i64 ((k:Int)+(v:Int)))=((count*(k+v):Nat):Int):=by have e1:wrap .i64 ((k:Int)+(v:Int))=((k+v:Nat):Int):=(by rw[gu _ oK];rfl);rw[e1,<- Int.natCast_mul,gu _ oK]
 rw[ew];have an:=hb.1;apply eV<;>intro aa;have ao:b.length≠count*(k+v):=λe=>by rw[an,e] at aa;simp at aa
 refine oE h 0 rfl (fE gp) λw2 h f2=>KC h 0 rfl gp ?_;have:=kk gp [] jr w2 (λe=>absurd e ao) (.zero _ _) h.fr (λ_ h=>nomatch h);rw[zU ao] at this;exact this;have aI:b.length=count*(k+v):=by
  have:((s.len:Int)==((count*(k+v):Nat):Int))=true:=by simpa using aa
  have:=yQ.1 this;omega
 have a7:count<=1000:=(by have:count*1<=count*(k+v):=Nat.mul_le_mul_left _ oK;omega);refine oB h λC w2 e2 f2 h=>oE h 0 rfl (fE (true,dR,dR,dR)) λw3 h f3=>qke<|oB h λE w4 e4 f4 h=>?_;have h:=Fm h (List.Perm.swap _ _ _);have a8:=h.nodup;have a9:=λp hp=>(h.own p hp).elim (λh=>(nomatch h:False).elim) (id:w.heap.size<=p.1->_);refine kz (λi w'=>∃(c:Nat) (sk V sn:Sl) (pk pv:rP) (Bk G:KD),i=(c:Int)/\c<=count/\ed [] w w' [(C,.c (fE (true,sk,V,dR)) ND),(E,.c #[gT sn] 96),(r1,.c (fE gp) ND)]/\
   eO [] w sn (b.drop (c*(k+v)))/\fB iv 1 w' sk (jt pk) Bk/\ik pk=(jP k v c b).1/\fB iv 1 w' V (jt pv) G/\ik pv=(jP k v c b).2/\(∀c∈Bk,w.heap.size<=c/\c∉[C,E,r1])/\(∀c∈G,w.heap.size<=c/\c∉[C,E,r1])/\(∀c∈Bk,c∉G)/\
   wL w' pk (List.range w.heap.size++C::E::r1::(Bk++G))/\wL w' pv (List.range w.heap.size++C::E::r1::(Bk++G))) (λi _=>((count:Int)-i).toNat)
  ⟨0,dR,dR,s,[],[],[],[],rfl,yY _,h,by rw[Nat.zero_mul,xH];exact hb,.nil _ _ _,rfl,.nil _ _ _,rfl,λ_ h=>(nomatch h),λ_ h=>(nomatch h),λ_ h=>(nomatch h),λ_ h=>(nomatch h),λ_ h=>(nomatch h)⟩ ?_
 rintro _ w' ⟨c,sk,V,sn,pk,pv,Bk,G,rfl,ba,h,aJ,ap,ek,ab,ev,nk,nv,ah,gk,gv⟩ X hX;have lk:pk.length=c:=(by rw[<- zK (f:=(·.2)),show pk.map (·.2)=ik pk from rfl,ek,(FV c b).1]);have lv:pv.length=c:=(by rw[<- zK (f:=(·.2)),show pv.map (·.2)=ik pv from rfl,ev,(FV c b).2]);have J:∀z∈[C,E,r1],z<w'.heap.size:=λz u=>by simp only[zG,xZ,or_false] at u;rcases u with rfl|rfl|rfl;exact fl (h.at (i:=0) rfl);exact fl (h.at (i:=1) rfl);exact fl (h.at (i:=2) rfl)
 apply cD<;>intro ai;have aq:c<count:=oK;have aj:(c+1)*(k+v)<=count*(k+v):=Kk _ aq;rw[xW,Nat.one_mul] at aj;have bc:(b.drop (c*(k+v))).length=b.length-c*(k+v):=yC;refine Hf (o:=1) (m:=k) (.inl rfl) h aJ oK oK (x:=(true,sk,V,dR)) ap (λz u=>nk z u) oP λQ sN R Bk' w5 h5 aM b5 n5 m5 f5 g5=>?_;have h5:ed [] w w5 [(C,.c (fE (true,R,V,dR)) ND),(E,.c #[gT sN] 96),(r1,.c (fE gp) ND)]:=h5;have ar:=ab.j0 f5 λz u I=>by simp only[zG] at I;rcases I with rfl|rfl|I;exact (nv _ u).2 oM;exact (nv _ u).2 oM;exact ah z I u
 have au:∀z∈List.range w.heap.size++C::E::r1::(Bk'++G),z∈List.range w.heap.size++C::E::r1::(Bk++G)\/w'.heap.size<=z:=λz u=>by simp only[zD,zG] at u⊢;rcases u with u|rfl|rfl|rfl|u|u;exact .inl (.inl u);simp;simp;simp;rcases n5 z u with h|h;simp[h];exact .inr h;simp[u]
 have av:∀z∈C::E::Bk,z∈List.range w.heap.size++C::E::r1::(Bk++G):=λz u=>by simp only[zD,zG] at u⊢;rcases u with rfl|rfl|u<;>simp[*]
 have aP:=(gk.j0 f5 av au).snoc (s:=Q) (a:=(b.drop (c*(k+v))).take k) (g5 _ λz u=>by
  simp only[zD,zG,mem_range] at u;have:=h.fr.size;rcases u with u|rfl|rfl|rfl|u|u;exact .inl oK;exact .inl (J _ oM);exact .inl (J _ oM);exact .inl (J _ oM);exact .inr u;exact .inl (ab.lt z u))
 have aQ:=gv.j0 f5 av au;have ak:∀z∈Bk',w.heap.size<=z/\z∉[C,E,r1]:=λz u=>⟨by rcases n5 z u with O|O;exact (nk z O).1;exact zL h.fr.size O,m5 z u⟩;have ag:∀z∈Bk',z∉G:=λz u I=>by
  rcases n5 z u with O|O;exact ah z O I;have:=ab.lt z I;omega
 have aR:fB iv 1 w5 R (jt (pk++[(Q,(b.drop (c*(k+v))).take k)])) Bk':=(by rw[show jt (pk++[(Q,(b.drop (c*(k+v))).take k)])=jt pk++[Q] by simp];exact b5);refine Hf (o:=2) (m:=v) (.inr rfl) h5 aM (by rw[yC];omega) (by rw[yC];omega) (x:=(true,R,V,dR)) ar (λz u=>nv z u) oP λad aw ax ay w6 h6 az b6 n6 m6 f6 g6=>?_;have h6:ed [] w w6 [(C,.c (fE (true,R,ax,dR)) ND),(E,.c #[gT aw] 96),(r1,.c (fE gp) ND)]:=h6;have U:∀z∈[C,E,r1],z<w5.heap.size:=λz u=>yE (J z u) f5.size;have aA:=aR.j0 f6 λz u I=>by simp only[zG] at I;rcases I with rfl|rfl|I;exact (ak _ u).2 oM;exact (ak _ u).2 oM;exact ag z u I
 have aB:∀z∈List.range w.heap.size++C::E::r1::(Bk'++ay),z∈List.range w.heap.size++C::E::r1::(Bk'++G)\/w5.heap.size<=z:=λz u=>by simp only[zD,zG] at u⊢;rcases u with u|rfl|rfl|rfl|u|u;exact .inl (.inl u);simp;simp;simp;simp[u];rcases n6 z u with h|h;simp[h];exact .inr h
 have aC:∀z∈C::E::G,z∈List.range w.heap.size++C::E::r1::(Bk'++G):=λz u=>by simp only[zD,zG] at u⊢;rcases u with rfl|rfl|u<;>simp[*]
 have aW:=(aQ.j0 f6 aC aB).snoc (s:=ad) (a:=((b.drop (c*(k+v))).drop k).take v) (g6 _ λz u=>by
  simp only[zD,zG,mem_range] at u;have:=h5.fr.size;rcases u with u|rfl|rfl|rfl|u|u;exact .inl oK;exact .inl (U _ oM);exact .inl (U _ oM);exact .inl (U _ oM);exact .inl (b5.lt z u);exact .inr u)
 have aX:=aP.j0 f6 aC aB;rw[ud oK];have aD:=qo1 (k:=k) (v:=v) c b;refine hX _ _ ⟨c+1,R,ax,aw,pk++[(Q,(b.drop (c*(k+v))).take k)],pv++[(ad,((b.drop (c*(k+v))).drop k).take v)],Bk',ay,rfl,aq,h6,?_,aA,?_,?_,?_,ak,λz u=>⟨?_,m6 z u⟩,λz u I=>?_,aX,aW⟩ oK;rw[xF,xF] at az;have e:c*(k+v)+(k+v)=(c+1)*(k+v):=(by rw[xW];omega);rw[<- e];exact az;rw[aD];simp[ek];rw[show jt (pv++[(ad,((b.drop (c*(k+v))).drop k).take v)])=jt pv++[ad] by simp];exact b6;rw[aD];simp[ev];rcases n6 z u with O|O;exact (nv z O).1;exact zL h5.fr.size O;rcases n6 z I with O|O;exact ag z u O;have:=b5.lt z u;omega;have aY:c=count:=oK;subst aY;refine KC h 0 rfl (true,sk,V,dR)<|oE h 2 rfl (fE (true,sk,V,dR)) λw5 h5 f5=>KC h5 2 rfl (true,sk,V,dR) ?_;have aE:∀ {B:KD},(∀z∈B,w.heap.size<=z/\z∉[C,E,r1])->∀z∈B,z∉[r1]:=λhB z u I=>(hB z u).2 (by rw[zE.1 I];simp);have aF:∀z∈[r1],z∈List.range w.heap.size++C::E::r1::(Bk++G):=λz u=>by rw[zE.1 u];simp
 have:=kk (true,sk,V,dR) (Bk++(G++[])) ⟨true,(jP k v c b).1,(jP k v c b).2,[]⟩ w5 (λ_=>rfl)
  (qvp (T:=List.range w.heap.size++C::E::r1::(Bk++G)) rfl ⟨(If c hB).1,(If c hB).2,λ_ h=>(nomatch h)⟩ (ap.j0 f5 (aE nk)) ek (ab.j0 f5 (aE nv)) ev (.nil _ _ _) (λz u=>⟨ah z u,λh=>nomatch h⟩) (λ_ _ h=>nomatch h)
   (gk.j0 f5 aF λz u=>.inl u) (gv.j0 f5 aF λz u=>.inl u) λz u=>by simp only[xJ,zD,zG] at u⊢;rcases u with u|u|u<;>simp[*]) h5.fr (λz u=>by
   rw[xJ] at u;rcases zD.1 u with u|u;exact (nk z u).1;exact (nv z u).1)
 rw[yA aI] at this;exact this
end
end
section
def quc(u:fq l)(E:4<=l.length):fZ (l.take 4)=jd (l.take 4):=by
 match l,E with
 | a::b::c::d::r,_=>
  have G:=u a oM;have I:=u b oM;have J:=u c oM;have O:=u d oM;show fZ [a,b,c,d]=jd [a,b,c,d];show qM a b c d=_;rw[qsS G I J O,FL (λv C=>u v (by simp at C⊢;rcases C with h|h|h|h<;>simp[h])) (zM _)];show _=(((0*256+a)*256+b)*256+c)*256+d;omega
def qzC(l:KE):iZ (jd l):=by
 unfold jd;have:∀(l:KE) (r:Int),iZ r->iZ (l.foldl (λr x=>bits .or .u32 (wrap .u32 (r*2^8)) (wrap .u32 x)) r):=by
  intro l;induction l with
  | nil=>intro r h;exact h
  | cons x l ih=>intro r h;exact ih _ (Fu _ _ _)
 exact this l 0 ⟨oN,oN⟩
def qq7:∀(c:Nat) (b:KE),∀x∈y9 c b,iZ x
 | 0,_,_,h=>nomatch h
 | c+1,b,x,h=>by rcases zG.1 h with rfl|h;exact qzC _;exact qq7 c _ x h
def qBn{I J:Nat}{s':Sl}{Bi:KD}{K:WP}(h:ed [] w0 w ((I,.c (fE x) ND)::(J,.c #[gT s'] T)::L))(hr:eO [] w0 s' b)(hB:fq b)(V:4<=b.length)(aA:b.length<=1000000)(ah:fB jD 1 w x.2.2.2 l Bi)(aa:∀c∈Bi,w0.heap.size<=c/\c∉I::J::L.map (·.1))(hl:l.length<=100000)(kk:∀sN O Q w',ed [] w0 w' ((I,.c (fE (x.1,x.2.1,x.2.2.1,O)) ND)::(J,.c #[gT sN] T)::L)->eO [] w0 sN (b.drop 4)->fB jD 1 w' O (l++[jd (b.take 4)]) Q-> (∀c∈Q,w0.heap.size<=c/\c∉I::J::L.map (·.1))->K w'): (eF prog (uy J) ([Value.int IntKind.i64 4]) (dp) w<|λ(E:Sl) (u:Kv)=> ld Cell.slice (dm I 3) u.drew<|λ(C:Sl)=> idx E 0 1<|λ(ai:Addr)=> ld (Cell.int IntKind.u8) ai u.drew<|λ(aj:Int)=> idx E 1 1<|λ(ak:Addr)=> ld (Cell.int IntKind.u8) ak u.drew<|λ(al:Int)=> idx E 2 1<|λ(am:Addr)=> ld (Cell.int IntKind.u8) am u.drew<|λ(an:Int)=> idx E 3 1<|λ(ao:Addr)=> ld (Cell.int IntKind.u8) ao u.drew<|λ(ap:Int)=> new (.cells #[Value.int IntKind.u32 (bits .or .u32 (bits .or .u32 (bits .or .u32 (wrap IntKind.u32 (wrap IntKind.u32 aj*2^24)) (wrap IntKind.u32 (wrap IntKind.u32 al*2^16))) (wrap IntKind.u32 (wrap IntKind.u32 an*2^8))) (wrap IntKind.u32 ap))] 44) u.drew<|λ(aq:Nat) (ad:Kv)=> held [λ(ar:Go.World)=>World.cell? ar (dm I 3)=some (Value.slice C.a C.len C.cap)] ad<| run dp ((Builtin.append_ (#[174,174]) 174 (#[Value.slice C.a C.len C.cap,Value.slice (pW aq) 1 1])).run prog ad)<|λ(R:Sl) (au:Kv)=> st (dm I 3) ([Value.slice R.a R.len R.cap]) au K):=by
 refine qtO (m:=4) h (i:=1) rfl hr V aA λaB aX sN ab aC aD aY hN aE=>?_;have hd:ed [] w0 ab.drew ((I,.c (fE x) ND)::(J,.c #[gT sN] T)::L):=oG aC;refine KA hd 0 rfl x.2.2.2 ?_;have G:eO [] ab.drew aB (b.take 4):=(aD.k5 mW (S:=[]) λ_ _ h=>nomatch h).q8 (Fr.refl [] ab).drew;have h4:4<=(b.take 4).length:=(by rw[yM];omega);refine eO.at G 0 rfl (getD_some oK)<|eO.at G 1 rfl (getD_some oK)<|eO.at G 2 rfl (getD_some oK)<|eO.at G 3 rfl (getD_some oK) ?_;have e4:=quc hB V;unfold fZ qM at e4;rw[e4];refine oB hd λa0 aF a1 aG ae=>ja (ae.cell 1) ?_;have av:=ah.j0 aE λc hc V=>(aa c hc).2 (by rw[zE.1 V];simp);have aw:=(av.q8 (Fr.refl [] ab).drew).q8 aG;refine quV aw hl (ae.at (i:=0) rfl) λO Q a2 aH aI aJ=>?_;have U:=ae.sub (L':=(I,.c (fE x) ND)::(J,.c #[gT sN] T)::L) (Kl _ _);have ag:∀p∈((I,Obj.cells (fE x) ND (0,0))::(J,.c #[gT sN] T)::L),p.1∉Bi:=λp hp V=>(aa p.1 V).2 (zZ (f:=(·.1)) hp);have aL:=U.j0 aI (λi hi=>.inr (aa i hi).1) ag;have ax:∀c∈I::J::L.map (·.1),c<aF.heap.size:=λc hc=>by obtain⟨p,hp,rfl⟩:=mem_map.1 (show c∈((I,Obj.cells (fE x) ND (0,0))::(J,.c #[gT sN] T)::L).map (·.1) from hc);exact fl (U.jz p hp)
 have ay:∀c∈Q,w0.heap.size<=c/\c∉I::J::L.map (·.1):=λc hc=>by rcases aJ c hc with h|h;exact aa c h;exact⟨zL U.fr.size h,λV=>by have:=ax c V;omega⟩
 exact oE aL 0 rfl (fE (x.1,x.2.1,x.2.2.1,O)) λaM aN aO=>kk sN O Q aM aN hN (aH.j0 aO λc hc V=>(ay c hc).2 (by rw[zE.1 V];simp)) ay
section
variable {w:Kv} {s:Sl} {b:KE}
def qxU{count:Nat}{K:lJ×Bool->WP}(hb:eO [] w s b)(hB:fq b)(hl:b.length<=1000)(hc:count<=100000)(hk:1<=k/\k<=1000)(kk:∀x B n w',(1<=count/\b.length=count*4+(count-1)*k->n=⟨false,mu k (count-1) (b.drop (count*4)),[],y9 count b⟩)->fU (List.range w.heap.size++B) w' x n B->Fr [] w w'->(∀c∈B,w.heap.size<=c)->K (x,decide (1<=count/\b.length=count*4+(count-1)*k)) w'): cW 170 [s.v,.i count,.i k] [.agg eJ,.one .bool] w K:=by
 refine qrX<|oB (oF [] w) λr1 w1 e1 f1 h=>?_;have al:=hb.1;have am:(count-1)*k<=100000*1000:=Nat.mul_le_mul oK hk.2;refine jf (λd w'=>d = !decide (1<=count/\b.length=count*4+(count-1)*k)/\w'=w1) ?_ ?_;apply eV<;>intro h1;have h1:=zC h1;refine⟨?_,rfl⟩;rw[zU λh=>oK];rfl;have h1:=zB h1;refine⟨?_,rfl⟩;have ea:wrap .i64 ((count:Int)-1)=((count-1:Nat):Int):=(by rw[gu _ oK];omega);have ew:wrap .i64 (wrap .i64 ((count:Int)*4)+wrap .i64 (wrap .i64 ((count:Int)-1)*(k:Int)))=((count*4+(count-1)*k:Nat):Int):=by have e4:wrap .i64 ((count:Int)*4)=((count*4:Nat):Int):=(by rw[gu _ oK];rfl);have e5:wrap .i64 (((count-1:Nat):Int)*(k:Int))=(((count-1)*k:Nat):Int):=(by rw[<- Int.natCast_mul,gu _ oK]);rw[ea,e4,e5];generalize (count-1)*k=z at am;rw[gu _ oK];rfl
 rw[ew,al];congr 1;rw[Ka,yQ,yO];generalize (count-1)*k=z;omega;rintro d aX ⟨rfl,rfl⟩;apply eV<;>intro O;have ao:¬(1<=count/\b.length=count*4+(count-1)*k):=(by rw[zT] at O;exact zB O);refine oE h 0 rfl (fE gp) λw2 h f2=>KC h 0 rfl gp ?_;have:=kk gp [] jr w2 (λe=>absurd e ao) (.zero _ _) h.fr (λ_ h=>nomatch h);rw[zU ao] at this;exact this;have aD:1<=count/\b.length=count*4+(count-1)*k:=(by rw[yF] at O;exact zC O);refine oB h λE w2 e2 f2 h=>qke<|oB h λG w4 e4 f4 h=>?_;have h:=Fm h (List.Perm.swap _ _ _);refine kz (λi w'=>∃(c:Nat) (J sn:Sl) (I:KD),i=(c:Int)/\c<=count/\ed [] w w' [(E,.c (fE (false,dR,dR,J)) ND),(G,.c #[gT sn] 96),(r1,.c (fE gp) ND)]/\
   eO [] w sn (b.drop (c*4))/\fB jD 1 w' J (y9 c b) I/\(∀c∈I,w.heap.size<=c/\c∉[E,G,r1])) (λi _=>((count:Int)-i).toNat)
  ⟨0,dR,s,[],rfl,yY _,h,by rw[Nat.zero_mul,xH];exact hb,.nil _ _ _,λ_ h=>(nomatch h)⟩ ?_
 rintro _ w' ⟨c,J,sn,I,rfl,aZ,h,ap,C,ni⟩ X hX;apply cD<;>intro ad;have U:c<count:=oK;have aF:(b.drop (c*4)).length=b.length-c*4:=yC;refine qBn h ap (hB.drop _) oK oK (x:=(false,dR,dR,J)) C ni (by rw[IB];omega) λsN aG aH w5 h5 Q b5 n5=>?_;rw[ud oK];refine hX _ _ ⟨c+1,aG,sN,aH,rfl,U,h5,?_,by rw[qo0];exact b5,n5⟩ oK;rw[xF] at Q;have e:c*4+4=(c+1)*4:=oK;rw[<- e];exact Q;have ae:c=count:=oK;subst ae;have aR:∀z∈I,w.heap.size<=z:=λz u=>(ni z u).1;refine kz (λi w2=>∃(d:Nat) (sk sn:Sl) (pk:rP) (Bk:KD),i=(d:Int)/\d<=c-1/\ed [] w w2 [(E,.c (fE (false,sk,dR,J)) ND),(G,.c #[gT sn] 96),(r1,.c (fE gp) ND)]/\
   eO [] w sn ((b.drop (c*4)).drop (d*k))/\fB jD 1 w2 J (y9 c b) I/\fB iv 1 w2 sk (jt pk) Bk/\ik pk=mu k d (b.drop (c*4))/\(∀c∈Bk,w.heap.size<=c/\c∉[E,G,r1])/\(∀c∈Bk,c∉I)/\
   wL w2 pk (List.range w.heap.size++E::G::r1::(Bk++I))) (λi _=>(((c-1:Nat):Int)-i).toNat)
  ⟨0,dR,sn,[],[],rfl,yY _,h,by rw[Nat.zero_mul,xH];exact ap,C,.nil _ _ _,rfl,λ_ h=>(nomatch h),λ_ h=>(nomatch h),λ_ h=>(nomatch h)⟩ ?_
 rintro _ w2 ⟨d,sk,a0,pk,Bk,rfl,a1,h,ar,C,au,ek,nk,af,gk⟩ X hX;have lk:pk.length=d:=(by rw[<- zK (f:=(·.2)),show pk.map (·.2)=ik pk from rfl,ek,HP]);have ea:wrap .i64 ((c:Int)-1)=((c-1:Nat):Int):=(by rw[gu _ oK];omega);have R:∀z∈[E,G,r1],z<w2.heap.size:=λz u=>by simp only[zG,xZ,or_false] at u;rcases u with rfl|rfl|rfl;exact fl (h.at (i:=0) rfl);exact fl (h.at (i:=1) rfl);exact fl (h.at (i:=2) rfl)
 rw[ea];apply cD<;>intro ag;have U:d<c-1:=oK;have ah:(d+1)*k<=(c-1)*k:=Kk _ U;rw[xW,Nat.one_mul] at ah;have aF:((b.drop (c*4)).drop (d*k)).length=b.length-c*4-d*k:=(by rw[yC,yC]);refine Hf (o:=1) (m:=k) (.inl rfl) h ar oK oK (x:=(false,sk,dR,J)) au nk oP λV sN av Bk' w5 h5 Q b5 n5 m5 f5 g5=>?_;have h5:ed [] w w5 [(E,.c (fE (false,av,dR,J)) ND),(G,.c #[gT sN] 96),(r1,.c (fE gp) ND)]:=h5;have aw:=C.j0 f5 λz u hm=>by simp only[zG] at hm;rcases hm with rfl|rfl|hm;exact (ni _ u).2 oM;exact (ni _ u).2 oM;exact af z hm u
 have aK:∀z∈List.range w.heap.size++E::G::r1::(Bk'++I),z∈List.range w.heap.size++E::G::r1::(Bk++I)\/w2.heap.size<=z:=λz u=>by simp only[zD,zG] at u⊢;rcases u with u|rfl|rfl|rfl|u|u;exact .inl (.inl u);simp;simp;simp;rcases n5 z u with h|h;simp[h];exact .inr h;simp[u]
 have aL:∀z∈E::G::Bk,z∈List.range w.heap.size++E::G::r1::(Bk++I):=λz u=>by simp only[zD,zG] at u⊢;rcases u with rfl|rfl|u<;>simp[*]
 have aM:=(gk.j0 f5 aL aK).snoc (s:=V) (a:=((b.drop (c*4)).drop (d*k)).take k) (g5 _ λz u=>by
  simp only[zD,zG,mem_range] at u;have:=h.fr.size;rcases u with u|rfl|rfl|rfl|u|u;exact .inl oK;exact .inl (R _ oM);exact .inl (R _ oM);exact .inl (R _ oM);exact .inr u;exact .inl (C.lt z u))
 rw[ud oK];refine hX _ _ ⟨d+1,av,sN,pk++[(V,((b.drop (c*4)).drop (d*k)).take k)],Bk',rfl,U,h5,?_,aw,?_,?_,λz u=>⟨?_,m5 z u⟩,λz u hm=>?_,aM⟩ oK;rw[xF] at Q;have e:d*k+k=(d+1)*k:=(by rw[xW];omega);rw[<- e];exact Q;rw[show jt (pk++[(V,((b.drop (c*4)).drop (d*k)).take k)])=jt pk++[V] by simp];exact b5;rw[qoY];simp[ek];rcases n5 z u with h'|h';exact (nk z h').1;exact zL h.fr.size h';rcases n5 z u with h'|h';exact af z h' hm;have:=C.lt z hm;omega;have ae:d=c-1:=oK;subst ae;refine KC h 0 rfl (false,sk,dR,J)<|oE h 2 rfl (fE (false,sk,dR,J)) λw5 h5 f5=>KC h5 2 rfl (false,sk,dR,J) ?_;have ax:∀ {B:KD},(∀z∈B,w.heap.size<=z/\z∉[E,G,r1])->∀z∈B,z∉[r1]:=λhB z u hm=>(hB z u).2 (by rw[zE.1 hm];simp);have aN:∀z∈[r1],z∈List.range w.heap.size++E::G::r1::(Bk++I):=λz u=>by rw[zE.1 u];simp
 have:=kk (false,sk,dR,J) (Bk++([]++I)) ⟨false,mu k (c-1) (b.drop (c*4)),[],y9 c b⟩ w5 (λ_=>rfl)
  (qvp (pv:=[]) (T:=List.range w.heap.size++E::G::r1::(Bk++I)) rfl ⟨qq5 _ (hB.drop _),λ_ h=>(nomatch h),qq7 _ _⟩ (au.j0 f5 (ax nk)) ek (.nil _ _ _) rfl (C.j0 f5 (ax ni)) (λz u=>⟨λh=>(nomatch h),af z u⟩) (λ_ h=>nomatch h)
   (gk.j0 f5 aN λz u=>.inl u) (λ_ h=>nomatch h) λz u=>by simp only[xK,zD,zG] at u⊢;rcases u with u|u|u<;>simp[*]) h5.fr (λz u=>by
   rw[xK] at u;rcases zD.1 u with u|u;exact (nk z u).1;exact (ni z u).1)
 rw[yA aD] at this;exact this
end
end
section
def qt7(h:fq b)(E:2<=b.length):bits .or .i64 (wrap .i64 (wrap .i64 (b.getD 0 0)*2^8)) (wrap .i64 (b.getD 1 0))=(gw b:Int)/\gw b<=65535:=by have u:0<=b.getD 0 0/\b.getD 0 0<256:=h _ (yG (getD_some (l:=b) (n:=0) oK));have C:0<=b.getD 1 0/\b.getD 1 0<256:=h _ (yG (getD_some (l:=b) (n:=1) oK));unfold gw;generalize b.getD 0 0=x at u⊢;generalize b.getD 1 0=y at C⊢;rw[gu x oK,gu y oK,gu (x*2^8) oK,qth 8 oK oK oK oK oK];omega
def qoz(h:(eG k v).1≠0):1<=k/\k<=24/\v<=108:=by unfold eG at h;split at h;exact absurd rfl h;omega
def qz4(h:(eG k v).1=0\/b.length<2\/b.length>500):jw kind b k v=(jr,2):=by unfold jw;rw[iP h]
def qyy(h:¬((eG k v).1=0\/b.length<2\/b.length>500)):jw 3 b k v=if (b.drop 2).length=gw b*(k+v)/\gx (oV k v b) k v then (oV k v b,0) else (jr,2):=by unfold jw;rw[iN h];by_cases h2:(b.drop 2).length=gw b*(k+v)/\gx (oV k v b) k v;rw[iP ⟨rfl,h2⟩,iP h2];rw[iN λh=>h2 h.2,iN h2,iN λh=>absurd h.1 oN]
def qwM(h:¬((eG k v).1=0\/b.length<2\/b.length>500)):jw 4 b k v=if (1<=gw b/\(b.drop 2).length=gw b*4+(gw b-1)*k)/\gx (mB k b) k v then (mB k b,0) else (jr,2):=by unfold jw;rw[iN h,iN λh=>absurd h.1 oN];by_cases h2:(1<=gw b/\(b.drop 2).length=gw b*4+(gw b-1)*k)/\gx (mB k b) k v;rw[iP ⟨rfl,h2.1.1,h2.1.2,h2.2⟩,iP h2];rw[iN λh=>h2 ⟨⟨h.2.1,h.2.2.1⟩,h.2.2.2⟩,iN h2]
def qyx(u:kind≠3)(C:kind≠4):jw kind b k v=(jr,2):=by unfold jw;split;rfl;rw[iN λh=>u h.1,iN λh=>C h.1]
section
variable {w:Kv} {s:Sl} {b:KE}
def HY{K:lJ×Int->WP}(hb:eO [] w s b)(hB:fq b)(kk:∀x B w',fU (List.range w.heap.size++B) w' x (jw kind b k v).1 B->Fr [] w w'->(∀c∈B,w.heap.size<=c)->K (x,(jw kind b k v).2) w'): cW 128 [.b kind,s.v,.i k,.i v] [.agg eJ,.one .i] w K:=by
 refine qtb ?_;have af:=hb.1;refine oB (oF [] w) λr1 w1 e1 f1 h=>Ia λw4 f4=>?_;have h:=h.q8 f4;refine jf (λd w'=>d=decide ((eG k v).1=0\/b.length<2\/b.length>500)/\w'=w4) ?_ ?_;dsimp only;refine eV (λC=>⟨?_,rfl⟩) λC=>eV (λc2=>⟨?_,rfl⟩) λc2=>⟨?_,rfl⟩;have C:=yQ.1 C;exact ES (.inl oK);have c2:=zC c2;exact ES (.inr (.inl oK));have C:=zR.1 C;have c2:=zB c2;rw[Ka,yO,yO];constructor;intro h;exact .inr (.inr oK);rintro (h|h|h);omega;omega;omega;rintro d aG ⟨rfl,rfl⟩;have ar:∀ {w'},jw kind b k v=(jr,2)->ed [] w w' [(r1,.c (fE gp) ND)]->
   st (dm r1) ([Value.bool false,Value.slice none 0 0,Value.slice none 0 0,Value.slice none 0 0]) w' λau=>dT (eJ) (dm r1) au λaH=>K ((aH,2)) au:=λhe h=>by
  refine oE h 0 rfl (fE gp) λw2 h f2=>KC h 0 rfl gp ?_;have:=kk gp [] w2 (by rw[he];exact .zero _ _) h.fr (λ_ h=>nomatch h);rw[he] at this;exact this
 refine eV (λu=>ar (qz4 (zC u)) h) λu=>?_;have U:=zB u;have av:(eG k v).1≠0:=λe=>U (.inl e);have h2:2<=b.length/\b.length<=500:=by refine⟨?_,?_⟩;exact Nat.not_lt.1 λe=>U (.inr (.inl e));exact Nat.not_lt.1 λe=>U (.inr (.inr e))
 obtain⟨aW,aX,aY⟩:=qoz av;obtain⟨aw,aZ⟩:=qt7 hB h2.1;have ax:=(hb.q8 h.fr).q8 (Fr.refl [] aG).drew;refine eO.at ax 0 rfl (getD_some oK)<|eO.at ax 1 rfl (getD_some oK) ?_;rw[aw];have h:=h.drew;refine oB h λad ah a0 a1 h=>?_;have ai:=fl (h.at (i:=0) rfl);have ay:=fl (h.at (i:=1) rfl);dsimp only at ai ay;have ag:=hb.q8 h.fr;have az:=h.fr.size;refine jf (λO w'=>∃x B n,ed [] w w' [(ad,.c (fE x) ND),(r1,.c (fE gp) ND)]/\fU (List.range ah.heap.size++B) w' x n B/\(∀c∈B,ah.heap.size<=c)/\
   O=decide ((kind=3/\(b.drop 2).length=gw b*(k+v))\/(kind=4/\1<=gw b/\(b.drop 2).length=gw b*4+(gw b-1)*k))/\
   (O=true->n=if kind=3 then oV k v b else mB k b)) ?_ ?_
 refine eV (λR=>?_) λR=>eV (λc4=>?_) λc4=>?_;have R:=yQ.1 R;refine eE.part (S:=[]) ag (lo:=some 2) (hi:=none) 2 b.length rfl (by rw[xY,af]) h2.1 (zM _) λaJ _ I _=>?_;rw[vB] at I;refine qBb I (hB.drop 2) (by rw[yC];omega) oK oK oK λx B n aK hn hN al J=>?_;have am:=h.q8 al;refine oE am 0 rfl (fE x) λaL an ao=>?_;have V:∀c∈B,c∉[ad]:=λc u hm=>by have:=J c u;rw[zE.1 hm] at this;omega
 refine⟨x,B,n,an,hN.j0 ao V (λc u=>.inl (by rw[zE.1 u];simp[ai])) λc u=>.inl u,J,?_,λE=>?_⟩;rw[Ka,yO,yO];constructor;intro Q;exact .inl ⟨R,Q⟩;rintro (Q|Q);exact Q.2;have:=Q.1;omega;rw[iP R];exact hn (zC E);have R:=zR.1 R;have c4:=yQ.1 c4;refine eE.part (S:=[]) ag (lo:=some 2) (hi:=none) 2 b.length rfl (by rw[xY,af]) h2.1 (zM _) λaJ _ I _=>?_;rw[vB] at I;refine qxU I (hB.drop 2) (by rw[yC];omega) oK oK λx B n aK hn hN al J=>?_;have am:=h.q8 al;refine oE am 0 rfl (fE x) λaL an ao=>?_;have V:∀c∈B,c∉[ad]:=λc u hm=>by have:=J c u;rw[zE.1 hm] at this;omega
 refine⟨x,B,n,an,hN.j0 ao V (λc u=>.inl (by rw[zE.1 u];simp[ai])) λc u=>.inl u,J,?_,λE=>?_⟩;rw[Ka,yO,yO];constructor;intro Q;exact .inr ⟨c4,Q⟩;rintro (Q|Q);exact absurd Q.1 R;exact Q.2;rw[iN R];exact hn (zC E);have R:=zR.1 R;have c4:=zR.1 c4;refine⟨gp,[],jr,h,.zero _ _,λ_ h=>(nomatch h),?_,λE=>nomatch E⟩;rw[zU];rintro (Q|Q);exact R Q.1;exact c4 Q.1;rintro O aM ⟨x,B,n,h,hN,J,aa,hn⟩;have aB:O=true->n.J5.length<=1000000/\n.J9.length<=1000000/\n.J8.length<=1000000:=λE=>by
  rw[hn E];split;have:=FV (k:=k) (v:=v) (gw b) (b.drop 2);unfold oV;dsimp only;rw[this.1,this.2];simp;omega;unfold mB;dsimp only;rw[HP,IB];simp;omega
 refine jf (λd w'=>d = !(O&&decide (gx n k v))/\ed [] w w' [(ad,.c (fE x) ND),(r1,.c (fE gp) ND)]/\fU (List.range ah.heap.size++B) w' x n B) ?_ ?_;apply eV<;>intro C;have C:O=false:=(oQ C);exact⟨by rw[C];rfl,h,hN⟩;have C:O=true:=(oQ C);obtain⟨q1,q2,q3⟩:=aB C;refine KC h 0 rfl x ?_;have aN:eY [] aM x n:=hN.rd (λ_ _ h=>(nomatch h)) λ_ h=>nomatch h;exact qsp (x:=x) aN q1 q2 q3 λa5 aC=>⟨by rw[C,Bool.true_and],h.q8 aC,hN.q8 aC⟩;rintro d a6 ⟨rfl,h,hN⟩;have G:jw kind b k v=if (O&&decide (gx n k v))=true then (n,0) else (jr,2):=by
  by_cases k3:kind=3;subst k3;rw[qyy U];have e:O=decide ((b.drop 2).length=gw b*(k+v)):=(by rw[aa];exact decide_eq_decide.2 ⟨λh=>h.elim (·.2) λh=>absurd h.1 oN,λh=>.inl ⟨rfl,h⟩⟩);by_cases E:O=true;have ab:=hn E;rw[iP rfl] at ab;rw[ab,E,Bool.true_and];have hl:(b.drop 2).length=gw b*(k+v):=zC (e▸E);by_cases hr:gx (oV k v b) k v;rw[iP ⟨hl,hr⟩,iP (yA hr)];rw[iN λh=>hr h.2,iN (by rw[zU hr];decide)];have ac:O=false:=(oQ E);rw[ac,Bool.false_and,iN (show ¬(false=true) by decide)];have hl:¬(b.drop 2).length=gw b*(k+v):=zB (e▸ac);rw[iN λh=>hl h.1];by_cases k4:kind=4;subst k4;rw[qwM U];have e:O=decide (1<=gw b/\(b.drop 2).length=gw b*4+(gw b-1)*k):=(by rw[aa];exact decide_eq_decide.2 ⟨λh=>h.elim (λh=>absurd h.1 oN) (·.2),λh=>.inr ⟨rfl,h⟩⟩);by_cases E:O=true;have ab:=hn E;rw[iN k3] at ab;rw[ab,E,Bool.true_and];have hl:=zC (e▸E);by_cases hr:gx (mB k b) k v;rw[iP ⟨hl,hr⟩,iP (yA hr)];rw[iN λh=>hr h.2,iN (by rw[zU hr];decide)];have ac:O=false:=(oQ E);rw[ac,Bool.false_and,iN (show ¬(false=true) by decide)];have hl:=zB (e▸ac);rw[iN λh=>hl h.1];rw[qyx k3 k4];have E:O=false:=by rw[aa,zU];rintro (h|h);exact k3 h.1;exact k4 h.1
  rw[E,Bool.false_and,iN (show ¬(false=true) by decide)]
 have aO:∀c∈B,c∉[r1]:=λc u hm=>by have:=J c u;rw[zE.1 hm] at this;omega
 apply eV<;>intro C;refine ar ?_ (h.sub (Kl _ _));rw[G,iN (by rw[zT] at C;rw[C];decide)];rw[yF] at C;refine KC h 0 rfl x<|oE h 1 rfl (fE x) λaP aD aQ=>KC aD 1 rfl x ?_;rw[iP C] at G
 have:=kk x B aP (by rw[G];exact (hN.j0 aQ aO (λc u=>.inl (by rw[zE.1 u];simp[ay])) λc u=>.inl u).j6 λc u=>.inl (by rcases zD.1 u with u|u;exact zH _ (mem_range.2 (yE (mem_range.1 u) az));exact zI _ u)) aD.fr (λc u=>zL az (J c u));rw[G] at this;exact this
end
end
section
section
variable {D D':dV} {M:eZ} {y7 Q8:KE} {t:Int} {ov:Bool}
end
end
end
section
open Go Go.Pt List
open Go.IntKind (wrap)
open Classical
attribute [local irreducible] ld dT iH pK ku fw st new idx kZ kM gb kV ke nz ig nn call eF inv run fM i9 join loop held ext kJ ft pw pQ pT IntKind.wrap
end
section
open Go Go.Pt List
open Go.IntKind (wrap)
variable {db:Option Addr} {w:Kv}
def vL{cl:List Cell}{b off:Nat}{cs:Array Kw}{T:Kx}{h:KQ}{K:HL cl->Prop}(u:w.heap[b]?=some (.cells cs T h))(x:HL cl)(C:(cs.toList.drop off).take cl.length=HL.mk cl x)(k:K x):Pt.dT cl (dm b off) w K:=
 ⟨x,vP u _ off 0 (by rw[HL.j3];exact C),k⟩
attribute [local irreducible] ld dT iH pK ku fw st new idx kZ kM gb kV ke nz ig nn call eF inv run fM i9 join loop held ext kJ ft pw pQ pT IntKind.wrap
def qr.wI{w':Kv}{X:KD}{pb:Nat}{M:eZ}{fb defb mb:Nat}{sl sn:Sl}{F1 F2:KD}{C:List (Int×mJ)}{Q1:KE}(h:qr w X pb db M fb defb mb sl sn F1 F2 C)(E:Q1.length=24)(G:w'.heap[pb]?=some (.c (gQ db M.j9 sl sn M.x5 M.Q2 fb defb mb Q1) uW))(f:Fr [pb] w w'):qr w' X pb db { M with Q1:=Q1 } fb defb mb sl sn F1 F2 C where
 cell:=G
 Q0:=h.Q0.j0 f λb u=>by simpa using (h.sep.2.1 b u).1
 J6:=h.J6.j0 f λb u=>by simpa using (h.sep.2.2 b u).1
 map:=h.map.j0 f (by simpa using λe=>h.sep.1 e.symm)
 J7:=h.J7
 rows:=h.rows.j0 (f.mono λi I _=>by rw[zE.1 I];simp) λb u=>.inl u
 si:=λb u=>yE (h.si b u) f.size
 pu:=h.pu
 sep:=h.sep
 Q7:=h.Q7
 x6:=E
def qwG{j9:rf}{sl sn:Sl}{x5:Int}{Q2:Bool}{fb defb mb:Nat}{Q1:KE}(G:j9.2.length=27)(O:Q1.length=24){t:Nat}(Q:t<8){h r1 C:Int}: ef (gQ db j9 sl sn x5 Q2 fb defb mb Q1) (36+3*t) [.u h,.u r1,.u C]=gQ db j9 sl sn x5 Q2 fb defb mb (Q1.take (3*t)++[h,r1,C]++Q1.drop (3*t+3)):=by
 have E:Q1=Q1.take (3*t)++(Q1.drop (3*t)).take 3++Q1.drop (3*t+3):=by rw[zV,<- xF,xG,xG]
 have:=vr (A:=(.pointer db::gh j9.1 j9.2)++pB sl sn x5 Q2 fb defb mb++(Q1.take (3*t)).map (Value.int .u32)) (X:=((Q1.drop (3*t)).take 3).map (Value.int .u32)) (Y:=[.u h,.u r1,.u C]) (Z:=(Q1.drop (3*t+3)).map (Value.int .u32)) (by rw[zK,yM,yC];show min 3 _=3;omega);have I:((.pointer db::gh j9.1 j9.2)++pB sl sn x5 Q2 fb defb mb++(Q1.take (3*t)).map (Value.int .u32)).length=36+3*t:=(by rw[zF,zF,uV G,zK,yM];show 29+7+_=_;omega);rw[I] at this;unfold gQ;have J:Q1.map (Value.int .u32)=(Q1.take (3*t)).map (Value.int .u32)++((Q1.drop (3*t)).take 3).map (Value.int .u32)++(Q1.drop (3*t+3)).map (Value.int .u32):=(by rw[<- xP,<- xP,<- E]);rw[J];simp only[xP,xQ,map_nil];simp only[zV] at this⊢;exact this
section
variable {w:Kv} {X:KD} {pb:Nat} {db:Option Addr} {F:KD} {M:eZ}
def qt2{t E r1 G:Int}{K:Int->WP}(h:gd w X pb db F M)(hk:∀w',gd w' X pb db F (fO M t E r1 G).2->Fr F w w'->K (fO M t E r1 G).1 w'): cW 155 [dQ pb,.i t,.agg #[.u E,.u r1,.u G]] dq w K:=by
 have h0:=h;obtain⟨fb,defb,mb,sl,sn,F1,F2,fs,rfl,J⟩:=h;refine qh4 ?_;have I:∀ {e:Int} {w':Kv},fO M t E r1 G=(e,M)->Fr [] w w'->K e w':=by
  intro e w' he hf;have:=hk w' (by rw[he];exact h0.q8 hf) (hf.mono λb O=>by cases O);rw[he] at this;exact this
 refine oB (oF [] w) λr w1 e1 f1 ho=>?_;have Q:=J.q8 f1;refine gV (jH Q.cell M.Q2 (DO J.Q7) ?_);refine eV (λC=>I (by rw[fO,iP C]) f1) λC=>?_;have R:¬M.Q2=true:=(by rw[C];decide);refine jf (λb w'=>b=decide (t<0\/t>7)/\w'=w1) ?_ ?_;refine eV (λC=>⟨by rw[yA (Or.inl (zC C))],rfl⟩) (λC=>?_);have:=zB C;refine⟨decide_eq_decide.2 ⟨λh=>.inr oK,λh=>oK⟩,rfl⟩;rintro b w2 ⟨rfl,rfl⟩;refine eV (λC=>I (by rw[fO,iN R,iP (zC C)]) f1) λC=>?_;have hr:=zB C;obtain⟨n,rfl⟩:∃n:Nat,t=n:=⟨t.toNat,oK⟩;have ab:n<8:=oK;have U:fO M n E r1 G=(0,{ M with Q1:=M.Q1.take (3*n)++[E,r1,G]++M.Q1.drop (3*n+3) }):=(by rw[fO,iN R,iN hr,zJ]);have ac:=ho.drew;have V:=Q.q8 (Fr.refl [] w2).drew;refine KC ac 0 rfl (E,r1,G)<|gV<|mI oK ?_;simp only[Addr.j1,zJ];refine tY V.cell (gQ db M.j9 sl sn M.x5 M.Q2 fb defb mb (M.Q1.take (3*n)++[E,r1,G]++M.Q1.drop (3*n+3))) (by show ef _ (0+33+3+n*3) _=_;rw[show 0+33+3+n*3=36+3*n by omega];exact qwG J.Q7 J.x6 ab) rfl (by rw[qvt J.Q7,J.x6];exact zL (show 0+33+3+n*3+3<=60 by omega) (zM 60)) λw3 ad f3=>?_;have hl:(M.Q1.take (3*n)++[E,r1,G]++M.Q1.drop (3*n+3)).length=24:=by
  have:=J.x6;simp only[zF,yM,yC,yJ,xM];omega
 have:=hk w3 (by rw[U];exact⟨fb,defb,mb,sl,sn,F1,F2,fs,rfl,V.wI hl ad f3⟩) ((f1.drew.mono λb O=>nomatch O).trans (f3.mono λb O _=>by rw[zE.1 O];simp));rw[U] at this;exact this
def eU (M:eZ) (t:Int):KR:=if t<0\/t>7 then (0,0,0) else (M.Q1.getD (3*t.toNat) 0,M.Q1.getD (3*t.toNat+1) 0,M.Q1.getD (3*t.toNat+2) 0)
def qy4{t:Int}{K:KR->WP}(h:gd w X pb db F M)(Q:∀w',Fr [] w w'->K (eU M t) w'): cW 85 [dQ pb,.i t] [.agg [.u,.u,.u]] w K:=by
 obtain⟨fb,defb,mb,sl,sn,F1,F2,fs,rfl,I⟩:=h;refine qkz<|oB (oF [] w) λr w1 e1 U R=>?_;have J:=I.q8 U;refine jf (λb w'=>b=decide (t<0\/t>7)/\w'=w1) ?_ ?_;refine eV (λE=>⟨by rw[yA (Or.inl (zC E))],rfl⟩) (λE=>?_)
 have:=zB E;refine⟨decide_eq_decide.2 ⟨λh=>.inr oK,λh=>oK⟩,rfl⟩;rintro b w2 ⟨rfl,rfl⟩;apply cD<;>intro E;refine oE R 0 rfl #[.u 0,.u 0,.u 0] λO C V=>KC C 0 rfl (0,0,0) ?_;have:=Q O C.fr;rw[eU,iP (E)] at this;exact this;have hr:=E;obtain⟨n,rfl⟩:∃n:Nat,t=n:=⟨t.toNat,oK⟩;have ab:n<8:=oK;have ac:=I.x6;refine gV<|mI oK ?_;simp only[Addr.j1,zJ];have e3:((M.Q1.map (Value.int .u32)).drop (3*n)).take 3=[.u (M.Q1.getD (3*n) 0),.u (M.Q1.getD (3*n+1) 0),.u (M.Q1.getD (3*n+2) 0)]:=by rw[zY (by rw[zK];omega),zY (by rw[zK];omega),zY (by rw[zK];omega)];simp only[take_succ_cons,take_zero,getElem_map];rw[getElem_eq_getD 0,getElem_eq_getD 0,getElem_eq_getD 0]
 refine vL J.cell (M.Q1.getD (3*n) 0,M.Q1.getD (3*n+1) 0,M.Q1.getD (3*n+2) 0) ?_ ?_;have hd:=qzW (db:=db) (j9:=M.j9) (sl:=sl) (sn:=sn) (x5:=M.x5) (Q2:=M.Q2) (fb:=fb) (defb:=defb) (mb:=mb) (Q1:=M.Q1) I.Q7 I.x6;have G:(gQ db M.j9 sl sn M.x5 M.Q2 fb defb mb M.Q1).toList.drop 36=M.Q1.map (Value.int .u32):=by
  rw[<- hd,zS];have:=qvt (db:=db) (j9:=M.j9) (sl:=sl) (sn:=sn) (x5:=M.x5) (Q2:=M.Q2) (fb:=fb) (defb:=defb) (mb:=mb) (Q1:=M.Q1) I.Q7;rw[yC,Ku];omega
 rw[show 0+33+3+n*3=36+3*n by omega,<- xF,G];exact e3;refine oE R 0 rfl #[.u (M.Q1.getD (3*n) 0),.u (M.Q1.getD (3*n+1) 0),.u (M.Q1.getD (3*n+2) 0)] λO C V=>KC C 0 rfl (M.Q1.getD (3*n) 0,M.Q1.getD (3*n+1) 0,M.Q1.getD (3*n+2) 0) ?_;have:=Q O C.fr;rw[eU,iN hr,zJ] at this;exact this
end
def qxe{dbk pb:Nat}{X FD F:KD}{D:dV}{M:eZ}{k:Nat}{n:Int}{K:KS->WP}(aa:fN w dbk FD D)(R:nK D k)(U:gd w X pb (t5 dbk M) F M)(hv:Hv w)(hn:iZ n)(hl:M.Q4.length<=1000000)(hb:∀e∈M.J7,e.2.2.length<=100000)(hk:∀s w',(∀G:KD,(∀b∈G,b<w.heap.size)->eO G w' s (dS D M n).2.1)->Fr [] w w'->K ((dS D M n).1,s,(dS D M n).2.2) w'): cW 127 [dQ pb,.u n] dw w K:=by
 have ab:=U;obtain⟨fb,defb,mb,sl,sn,F1,F2,fs,rfl,V⟩:=U;refine qkx ?_;have ac:∀ {a:Int} {e:Int} {w':Kv},dS D M n=(a,[],e)->Fr [] w w'->K (a,dR,e) w':=λhe f=>by
  have:=hk dR _ (λG hG=>by rw[he];exact .nil _ _ _ _) f;rw[he] at this;exact this
 refine gV (jH V.cell M.Q2 (DO V.Q7) ?_);refine eV (λI=>ac (by rw[dS,iP I]) (.refl _ _)) λI=>?_;have J:¬M.Q2=true:=(by rw[I];decide);have an:t5 dbk M=pW dbk:=iN J;refine gV ?_;simp only[Addr.j1];refine jH V.cell (some mb) (xo V.Q7) ?_;have h:look n M.J7=(look n fs).map λq=>(q.1,q.2.1,q.2.2.2):=(by rw[V.J7];exact Bj (λe:mJ=>(e.1,e.2.2)) n fs);refine GC V.map.at (λq hq=>?_) λhq=>?_;rw[hq] at h;have h:look n M.J7=some (q.1,q.2.1,q.2.2.2):=h;refine oB (oF [] w) λr w1 e1 f1 ho=>oE ho 0 rfl #[.b q.2.1,q.2.2.1.v] λw2 Q f2=>?_;have O:=Q.drew;refine JT rfl<|KA O 0 rfl q.2.1<|KA O 0 rfl q.2.2.1 ?_;have ap:=(vT hq).2;have aq:=V.rows.cA _ ap;have af:=(vT h).2;refine CP (aq.q8 O.fr) (zL (hb _ af) oN) λs2 B2 w3 b2 f3 n2 _ _=>?_;have ag:=O.q8 f3;refine ja (ag.cell 0) ?_;have C:dS D M n=(q.2.1,q.2.2.2,0):=by rw[dS,iN J,h]
 have:=hk s2 w3 (λG hG=>by rw[C];exact fB.k5 mW b2 λb hb hm=>by have:=n2 b hb;have:=hG b hm;have:=O.fr.size;omega) ag.fr;rw[C] at this;exact this;rw[hq] at h;have h:look n M.J7=none:=h;refine oB (oF [] w) λr w1 e1 f1 ho=>oE ho 0 rfl #[.b 0,.slice none 0 0] λw2 Q f2=>JU rfl<|qsl (ab.q8 Q.fr) hl λw3 f3=>?_;have E:=Q.fr.trans f3;have ah:=V.q8 E;apply eV<;>intro I;have hu:iy M n=false:=(oQ I);exact ac (by rw[dS,iN J,h];exact iP hu) E;have hu:¬iy M n=false:=(oQ I);rw[an] at ah;refine gV (jH ah.cell (pW dbk) qCM ?_);rw[gu n (by have:=hn.1;have:=hn.2;omega)];refine FN (aa.q8 E) R.ok λs5 B5 w5 b5 f5 n5=>?_;apply eV<;>intro I;have he:(eW D n).2≠0:=(oQ I);exact ac (by rw[dS,iN J,h];exact (iN hu).trans (iP he)) (E.trans f5);have he:¬(eW D n).2≠0:=(oQ I);have av:=zt R.ok n;refine HE (b5.k5 mW (S:=[]) oM) (hv.q8 (E.trans f5)) av.1 oK λs6 B6 w6 b6 f6 n6=>?_;have C:dS D M n=fP n (eW D n).1:=by rw[dS,iN J,h];exact (iN hu).trans (iN he)
 have:=hk s6 w6 (λG hG=>by rw[C];exact fB.k5 mW b6 λb hb hm=>by have:=n6 b hb;have:=hG b hm;have:=(E.trans f5).size;omega) ((E.trans f5).trans f6);rw[C] at this;exact this
end
section
open Go Go.Pt List
open Go.IntKind (wrap)
def nK.new{n:Nat}(h:n<=4096):nK (pA n) 0:=⟨qBk h,by simp[pA],by simp[pA]⟩
def vv (n:Nat):KE:=(gr n).take (gW (gr n).length)
def pS (n:Nat):KE:=(gr n).drop (gW (gr n).length)
def oU (n:Nat):eZ:=lE (lU n) (vv n) (pS n) 1 false (pS n)
def qBh{n:Nat}(h:8<=n)(u:n<=4096):(oU n).Wf:=by have e:(lU n).2.getD 0 0=n:=(by show wrap .u32 (n:Int)=_;exact nR _ oK);exact qzk (by rw[e];exact qoN) (by rw[e];omega) (Hu h u).u32
structure Made (D:dV) (n:Nat):Prop where
 quiet:fK D
 size:D.size=n
 Q6:D.Q6=[]
 opens:rz D (lU n) (vv n) (pS n)
 fmt:mU (pA n)=(D,0)
 zero:view D 0=zs 512
end
section
open Go Go.Pt List
open Go.IntKind (wrap)
open Classical
variable {P:KE} {t:Int}
def lV (t:Int) (s:KI×eZ) (u h:Int):Int×eZ:=if s.1.2≠0 then (s.1.2,s.2) else fO s.2 t s.1.1 u h
noncomputable def uF (k v:Nat) (t:Int) (r:KR) (x:(Grown×Int)×eZ):Int×eZ:=
 if x.1.2≠0 then (x.1.2,x.2)
 else if x.1.1.Q9≠0 then lV t (ee k v x.2 0 ⟨false,[x.1.1.key],[],[x.1.1.x4,x.1.1.Q9]⟩) (if x.1.1.J7 then wrap .u32 (r.2.1+1) else r.2.1) (wrap .u32 (r.2.2+1))
 else fO x.2 t x.1.1.x4 (if x.1.1.J7 then wrap .u32 (r.2.1+1) else r.2.1) r.2.2
noncomputable def kW (D:dV) (k v:Nat) (t:Int) (key val:Key) (f:Nat) (M:eZ):Int×eZ:=
 if (eU M t).1=0 then lV t (ee k v M 0 (eQ [(key,val)])) 1 1 else uF k v t (eU M t) (jc D k v key val f M (eU M t).1)
noncomputable def om (k v:Nat) (t:Int) (r:KR) (x:(dW×Int)×eZ):Int×eZ:=
 if x.1.2≠0 then (x.1.2,x.2)
 else if x.1.1.Q3=true/\x.1.1.J5.length=0 then (if (fX x.2 r.1).1≠0 then ((fX x.2 r.1).1,(fX x.2 r.1).2) else fO (fX x.2 r.1).2 t 0 0 0)
 else if x.1.1.Q3=false/\x.1.1.J8.length=1 then (if (fX x.2 r.1).1≠0 then ((fX x.2 r.1).1,(fX x.2 r.1).2) else fO (fX x.2 r.1).2 t (x.1.1.J8.getD 0 0) (wrap .u32 (r.2.1-1)) (wrap .u32 (r.2.2-1)))
 else lV t (ee k v x.2 r.1 x.1.1) (wrap .u32 (r.2.1-1)) r.2.2
noncomputable def mp (D:dV) (k v:Nat) (t:Int) (key:Key) (f:Nat) (M:eZ):Int×eZ:=om k v t (eU M t) (jg D k v key f M (eU M t).1)
def ib (D:dV) (M:eZ) (k v:Nat) (t:Int) (L:gH) (P:KE):Prop:=
 (eU M t=(0,0,0)/\L=[]/\P=[])\/∃h n p,p≠0/\eU M t=(p,(L.length:Int),((h+1:Nat):Int))/\Has D M k v h ⟨p,n,L,P⟩
structure sD (D:dV) (M M':eZ) (t:Int) (P P':KE):Prop where
 step:Step D M { M' with Q1:=M.Q1 } P P'
 wf:M'.Wf
 len:M'.Q1.length=24
 others:∀ t':Int,t'≠t->eU M' t'=eU M t'
section
variable {D:dV} {M M':eZ} {k v:Nat}
def qz6{a b c:Int}(O:0<=t/\t<8)(G:M.Q2=false)(Q:M.Q1.length=24):∃R,fO M t a b c=(0,{ M with Q1:=R })/\R.length=24/\eU { M with Q1:=R } t=(a,b,c)/\(∀C:Int,C≠t->eU { M with Q1:=R } C=eU M C)/\∀x∈R,x∈M.Q1\/x=a\/x=b\/x=c:=by
 obtain⟨n,rfl⟩:∃n:Nat,t=n:=⟨t.toNat,oK⟩;have U:n<8:=oK;have e:fO M n a b c=(0,{ M with Q1:=M.Q1.take (3*n)++[a,b,c]++M.Q1.drop (3*n+3) }):=by rw[fO,iN (by rw[G];decide),iN,zJ]
 have I:(M.Q1.take (3*n)).length=3*n:=(by rw[yM];omega);have h:∀i,(M.Q1.take (3*n)++[a,b,c]++M.Q1.drop (3*n+3)).getD i 0=if i=3*n then a else if i=3*n+1 then b else if i=3*n+2 then c else M.Q1.getD i 0:=λi=>by rw[zV,yS];by_cases h1:i<3*n;rw[xA oK,xC,iP h1,iN,iN,iN,yS];rw[yZ oK,I];by_cases h2:i=3*n;rw[iP h2,h2,Nat.sub_self];rfl;rw[iN h2];by_cases h3:i=3*n+1;rw[iP h3,h3,show 3*n+1-3*n=1 by omega];rfl;rw[iN h3];by_cases h4:i=3*n+2;rw[iP h4,h4,show 3*n+2-3*n=2 by omega];rfl;rw[iN h4,yZ oP,xB,yS];congr 2;simp;omega
 refine⟨_,e,?_,?_,λC E=>?_,λx u=>?_⟩;simp only[zF,yM,yC,yJ,xM];omega;rw[eU,iN,zJ];dsimp only;rw[h,h,h,iP rfl,iN,iP rfl,iN,iN,iP rfl];unfold eU;by_cases hr':C<0\/C>7;rw[iP hr',iP hr'];rw[iN hr',iN hr'];dsimp only;have J:C.toNat≠n:=λe=>E oK;rw[h,h,h,iN,iN,iN,iN,iN,iN,iN,iN,iN];rcases zD.1 u with u|u;rcases zD.1 u with u|u;exact .inl (yW u);simp only[zG,xZ,or_false] at u;exact .inr u;exact .inl (yV u)
def qtW{R:KE}(h:M.Wf)(u:∀x∈R,iZ x):({ M with Q1:=R }:eZ).Wf:=⟨h.n4,h.u32,u,h.cO,h.Q8,h.cV,h.tJ,h.nodup,h.range,h.body⟩
def Has.Q1{h:Nat}{s:jh}{R:KE}(u:Has D M k v h s):Has D { M with Q1:=R } k v h s:=u.j0 λx _=>rfl
def Step.J4{P':KE}{a b c:Int}(E:0<=t/\t<8)(G:M.Q1.length=24)(h:Step D M M' P P')(I:iZ a)(J:iZ b)(O:iZ c): ∃R,fO M' t a b c=(0,{ M' with Q1:=R })/\sD D M { M' with Q1:=R } t P P'/\eU { M' with Q1:=R } t=(a,b,c):=by obtain⟨R,e,Q,U,V,h3⟩:=qz6 (a:=a) (b:=b) (c:=c) E h.Q2 (by rw[h.Q1];exact G);refine⟨R,e,⟨?_,qtW h.wf λx hx=>?_,Q,λt' C=>?_⟩,U⟩;have e':({ M' with Q1:=M.Q1 }:eZ)=M':=(by rw[<- h.Q1]);show Step D M { M' with Q1:=M.Q1 } P P';rw[e'];exact h;rcases h3 x hx with u|u|u|u;exact h.wf.Q1 x u;rw[u];exact I;rw[u];exact J;rw[u];exact O;rw[V t' C];unfold eU;rw[h.Q1]
def Has.counts:∀ {h:Nat} {s:jh},Has D M k v h s->h+1<=s.y6.length/\s.y7.length+1<=2*s.y6.length
 | 0,s,C=>by have I:=length_pos_iff.2 C.ne;rw[C.1];simp;omega
 | h+1,s,⟨E,V,I,J,O,Q,h5,h6,R⟩=>by
  have U:=Q.right.x8.1;rw[J,O];have key:∀l:List iO,(∀e∈l,Has D M k v h e.2)->l.length*(h+1)<=(l.flatMap (·.2.y6)).length/\(l.flatMap (·.2.y7)).length+l.length<=2*(l.flatMap (·.2.y6)).length:=by
   intro l;induction l with
   | nil=>intro _;exact⟨oM,oM⟩
   | cons a l ih=>
    intro G;have i:=ih λe u=>G e (zN _ u);have j:=(G a oM).counts;rw[yI,yI,zF,zF,yJ,xW];omega
  have:=key E λe u=>(R e u).1;have h9:2*(h+1)<=E.length*(h+1):=Kk _ U;rw[yJ];omega
def qx0(hc:je k v){key val:Key}{L:gH}(ht:0<=t/\t<8)(hk:key.length=k/\fq key)(hv:val.length=v/\fq val)(hT:ib D M k v t L P)(hW:M.Wf)(ho:M.Q2=false)(hr:M.Q1.length=24)(hn:P.Nodup)(hL:L.length<=1000000)(hf:2*(eU M t).2.2.toNat+1<=M.Q0.length): ∃M' P',kW D k v t key val (eU M t).2.2.toNat M=(0,M')/\ib D M' k v t (gI key val L) P'/\sD D M M' t P P'/\M.Q0.length<=M'.Q0.length+(2*(eU M t).2.2.toNat+1):=by
 have aY:=Ev (k:=k) (v:=v);rcases hT with ⟨e0,rfl,rfl⟩|⟨h,n,p,aJ,er,hs⟩;unfold kW;rw[e0,iP rfl];have aK:nX k v [(key,val)]:=λx hx=>by rw[zE.1 hx];exact⟨hk.1,hv.1,hk.2,hv.2⟩
 have hN:=C6 (k:=k) (v:=v) aK (pairwise_singleton _ _) oM (by have:=hc.Q3;simp;omega);obtain⟨q,M1,e1,st,ae,hl,af⟩:=Ip (D:=D) hW ho hN (λe=>by rw[e] at hf;simp at hf);have hu:=st.has q oM;have hq:=wR st.wf hu;obtain⟨R,e2,rs,C⟩:=st.J4 (a:=q) (b:=1) (c:=1) ht hr ⟨oK,hq.2⟩ ⟨oN,oN⟩ ⟨oN,oN⟩;refine⟨{ M1 with Q1:=R },[q],?_,.inr ⟨0,1,q,af,C,?_⟩,rs,by show M.Q0.length<=M1.Q0.length+_;omega⟩;unfold lV;rw[e1];dsimp only;rw[iN λh=>h rfl,e2];have:=DI hN ae;exact this.Q1;rw[er] at hf;have an:(((h+1:Nat):Int)).toNat=h+1:=zJ _;dsimp only at hf;rw[an] at hf;have ao:=hs.counts;dsimp only at ao;obtain⟨g,M1,eg,ok⟩:=qvy hc hk hv h M ⟨p,n,L,P⟩ hs hW ho hn (by
  have h9:=hs.load;obtain⟨N,R,_,hN,_⟩:=h9;show n<=1000;cases h with
  | zero=>have:=hN.2.2.2.2.2;dsimp only at this;omega
  | succ h=>obtain⟨_,_,_,_,_,_,_,_,h8,_⟩:=hN;dsimp only at h8;omega) oK
 have ap:=ok.Q0;have E:=ok.J7;dsimp only at eg E;have u:((gI key val L).length:Int)=if g.J7 then wrap .u32 ((L.length:Int)+1) else (L.length:Int):=by rw[E];by_cases hm:key∈eh L;rw[zU λh=>h hm,iN oN,E9 hs.sort hm];rw[yA hm,iP rfl,Fg hm,nR _ oK];omega
 have aq:iZ (if g.J7 then wrap .u32 ((L.length:Int)+1) else (L.length:Int)):=by
  rw[<- u];have h1:(gI key val L).length<=L.length+1:=by by_cases hm:key∈eh L;rw[E9 (show fT L from hs.sort) hm];omega;rw[Fg hm];exact zM _
  exact⟨oK,oK⟩
 unfold kW;rw[er,iN (show ¬p=0 from aJ)];dsimp only;rw[an,eg];unfold uF;dsimp only;rw[iN λh=>h rfl];rcases ok.Fv with ⟨ah,n',P',hH,st,_⟩|⟨ah,n1,Q,I,n2,J,G,U,V,ar,aP,aQ,au,av,aR,aT,st⟩;rw[iN λh=>h ah];have hu:=hH.J3 st.Q2 g.x4 hH.mem;have hq:=wR st.wf hu;obtain⟨R,e2,rs,C⟩:=st.J4 (a:=g.x4) (b:=if g.J7 then wrap .u32 ((L.length:Int)+1) else (L.length:Int)) (c:=((h+1:Nat):Int)) ht hr ⟨oK,hq.2⟩ aq ⟨oK,oK⟩;rw[<- u] at C e2;refine⟨{ M1 with Q1:=R },P',?_,.inr ⟨h,n',g.x4,oK,C,hH.Q1⟩,rs,by show M.Q0.length<=M1.Q0.length+_;omega⟩;rw[<- u];exact e2;rw[iP ah];have a4:=wR st.wf (U.J3 st.Q2 g.x4 U.mem);have a5:=wR st.wf (V.J3 st.Q2 g.Q9 V.mem);have aw:Q≠[]:=U.ne;have ax:J≠[]:=V.ne;have ad:gB [([],(⟨g.x4,n1,Q,I⟩:jh)),(g.key,⟨g.Q9,n2,J,G⟩)]:=
  (gB.Bm (A:=[]) (B:=[]) (lo:=[]) (s:=⟨0,0,Q++J,[]⟩) (s1:=⟨g.x4,n1,Q,I⟩) (s2:=⟨g.Q9,n2,J,G⟩) (m:=g.key) (Ha λx _=>DG _) rfl aP aQ aw ax)
 have hp:∀e∈[([],(⟨g.x4,n1,Q,I⟩:jh)),(g.key,⟨g.Q9,n2,J,G⟩)],Has D M1 k v h e.2/\minOf k v h<=e.2.size:=λe O=>by simp only[zG,xZ,or_false] at O;rcases O with rfl|rfl;exact⟨U,aR⟩;exact⟨V,aT⟩
 have aU:iz k [([],(⟨g.x4,n1,Q,I⟩:jh)),(g.key,⟨g.Q9,n2,J,G⟩)]:=λe O=>by rw[zE.1 (show e∈[(g.key,(⟨g.Q9,n2,J,G⟩:jh))] from O)];exact⟨au,av⟩
 have hN:=CD st.wf st.Q2 aU ad oM (by have:=hc.inner;simp;omega) λe O=>(hp e O).1;obtain⟨q,M2,e1,aa,ae,a6,af⟩:=Ip (D:=D) st.wf st.Q2 hN (λe=>by rw[e] at ap;simp at ap;omega);have az:∀e∈[([],(⟨g.x4,n1,Q,I⟩:jh)),(g.key,⟨g.Q9,n2,J,G⟩)],Has D M2 k v h e.2/\minOf k v h<=e.2.size:=λe O=>
  ⟨(hp e O).1.j0 λx hx=>(aa.rest x ((hp e O).1.J3 st.Q2 x hx) oM).1,(hp e O).2⟩
 have hI:=Cc (h:=h) rfl hN ae ad az;have aA:Step D M1 M2 (I++G) (q::(I++G)):=by
  have:=aa.beside (Z:=I++G) st.has (oQ st.nodup);exact this.perm oM perm_append_comm
 have aB:=st.trans aA;have hq:=wR aa.wf (aa.has q oM);obtain⟨R,e2,rs,C⟩:=aB.J4 (a:=q) (b:=if g.J7 then wrap .u32 ((L.length:Int)+1) else (L.length:Int)) (c:=((h+1+1:Nat):Int)) ht hr ⟨oK,hq.2⟩ aq ⟨oK,oK⟩;have e3:ee k v M1 0 ⟨false,[g.key],[],[g.x4,g.Q9]⟩=((q,0),M2):=e1;have aV:wrap .u32 ((((h+1:Nat):Int))+1)=((h+1+1:Nat):Int):=(by rw[nR _ oK];omega);rw[<- u] at C e2;refine⟨{ M2 with Q1:=R },q::(I++G),?_,.inr ⟨h+1,2,q,af,C,?_⟩,rs,by show M.Q0.length<=M2.Q0.length+_;omega⟩;unfold lV;rw[e3,aV,<- u];dsimp only;rw[iN λh=>h rfl,e2];have h9:=hI.Q1 (R:=R);have e5:[([],(⟨g.x4,n1,Q,I⟩:jh)),(g.key,⟨g.Q9,n2,J,G⟩)].flatMap (·.2.y6)=gI key val L:=(by rw[<- ar];simp);have e6:[([],(⟨g.x4,n1,Q,I⟩:jh)),(g.key,⟨g.Q9,n2,J,G⟩)].flatMap (·.2.y7)=I++G:=oM;rw[e5,e6] at h9;exact h9
def qyA(hc:je k v){key:Key}{L:gH}(ht:0<=t/\t<8)(hT:ib D M k v t L P)(I:key∈eh L)(hW:M.Wf)(ho:M.Q2=false)(hr:M.Q1.length=24)(hn:P.Nodup)(hL:L.length<=1000000)(hf:2*(eU M t).2.2.toNat+1<=M.Q0.length): ∃M' P',mp D k v t key (eU M t).2.2.toNat M=(0,M')/\ib D M' k v t (ir key L) P'/\sD D M M' t P P'/\M.Q0.length<=M'.Q0.length+(2*(eU M t).2.2.toNat+1):=by
 rcases hT with ⟨e0,rfl,rfl⟩|⟨h,n,p,a0,er,hs⟩;cases I;rw[er] at hf;have ap:(((h+1:Nat):Int)).toNat=h+1:=zJ _;dsimp only at hf;rw[ap] at hf;have aq:=hs.counts;dsimp only at aq;obtain⟨N,m,M1,R,R',ec,hP,hN,st,aG,a1⟩:=Jt hc h M ⟨p,n,L,P⟩ hs hW ho hn I oK;dsimp only at ec hP;subst hP;have G:=hs.sort;dsimp only at G;have aU:(ir key L).length+1=L.length:=by
  have hm:=(AP G).2 I;have hi:dY (eh L) key<L.length:=by
   have:=(zP.1 hm).1;simpa using this
  rw[qoG G I,zF,yM,yC];omega
 have aH:wrap .u32 ((L.length:Int)-1)=((ir key L).length:Int):=(by rw[nR _ oK];omega);have ai:iZ ((ir key L).length:Int):=⟨oK,oK⟩;have aj:eH M p:=hs.J3 ho p oM;have ar:p∉R:=(nodup_cons.1 hn).1;have J:=(st.rest p aj ar).2.1;have O:=(st.rest p aj ar).2.2;have ak:Step D M M1 (p::R) (p::R'):=st.beside (Z:=[p]) (λx hx=>by rw[zE.1 hx];exact aj) (oQ hn);unfold mp;rw[er];dsimp only;rw[ap,ec];unfold om;dsimp only;rw[iN λh=>h rfl,aH];have af:∀ {a b c:Int},iZ a->iZ b->iZ c->∃u U,fX M1 p=(0,u)/\fO u t a b c=(0,{ u with Q1:=U })/\sD D M { u with Q1:=U } t (p::R) R'/\eU { u with Q1:=U } t=(a,b,c)/\M1.Q0.length<=u.Q0.length/\∀x∈R',dS D u x=dS D M1 x:=λha hb aI=>by
  obtain⟨u,e2,C,V⟩:=qqP (D:=D) st.wf st.Q2 J;have h9:=C.beside (Z:=R') (λx hx=>st.has x hx) (by
   have:=ak.nodup;exact (JW p R').nodup_iff.2 this)
  rw[xJ] at h9;have h8:=(ak.perm (.refl _) (JW p R').symm).trans h9;obtain⟨U,e3,rs,E⟩:=h8.J4 (t:=t) ht hr ha hb aI;exact⟨u,U,e2,e3,rs,E,V,λx hx=>(C.rest x (st.has x hx) λhm=>O (by rw[<- zE.1 hm];exact hx)).1⟩
 cases h with
 | zero=>
  have al:=hN;have aJ:R=[]:=(vE (show p::R=[p] from hs.1)).2;subst aJ;obtain⟨rfl,hm,rfl,a5,aK,au⟩:=hN;dsimp only at hm;have aa:(eQ (ir key L)).J5.length=(ir key L).length:=zK _;by_cases hz:(ir key L).length=0;rw[iP ⟨rfl,by rw[aa];exact hz⟩];have av:ir key L=[]:=Kg hz;obtain⟨u,U,e2,e3,rs,E,V,_⟩:=af (a:=0) (b:=0) (c:=0) ⟨oN,oN⟩ ⟨oN,oN⟩ ⟨oN,oN⟩;rw[e2];dsimp only;rw[iN λh=>h rfl,e3];exact⟨_,[],rfl,.inl ⟨E,av,rfl⟩,rs,by show M.Q0.length<=u.Q0.length+_;omega⟩;rw[iN (λh=>hz (by rw[<- aa];exact h.2)),iN λh=>nomatch h.1];obtain⟨q,u,e2,C,H2,V⟩:=al.store st.wf st.Q2 (show 1<=m by omega) J O oK;have am:Step D M u [p] [q]:=ak.trans C;have hq:=wR C.wf (C.has q oM);obtain⟨U,e3,rs,E⟩:=am.J4 (a:=q) (b:=((ir key L).length:Int)) (c:=((0+1:Nat):Int)) ht hr ⟨oK,hq.2⟩ ai ⟨oN,oN⟩;refine⟨{ u with Q1:=U },[q],?_,.inr ⟨0,m,q,oK,E,H2.Q1⟩,rs,by show M.Q0.length<=u.Q0.length+_;omega⟩;unfold lV;rw[e2];dsimp only;rw[iN λh=>h rfl,e3]
 | succ h=>
  have al:=hN;obtain⟨es,hh,rfl,hm,aM,rfl,hk,aK,au,hp⟩:=hN;have aa:(dX es).J8.length=es.length:=(by show (es.map _).length=_;rw[zK]);have aW:2<=n:=by
   obtain⟨a7,_,g1,_,_,g4,_⟩:=hs;have:=g4.right.x8;dsimp only at g1;omega
  dsimp only at aG;rw[iN λh=>nomatch h.1];by_cases h1:es.length=1;rw[iP ⟨rfl,by rw[aa];exact h1⟩];obtain⟨e,rfl⟩:∃e,es=[e]:=by
   match es,h1 with
   | [e],_=>exact⟨e,rfl⟩
  have ax:(dX [e]).J8.getD 0 0=e.2.x4:=rfl;rw[ax];have he:=(hp e oM).1;have hq:=wR st.wf (he.J3 st.Q2 e.2.x4 he.mem);have aO:wrap .u32 ((((h+1+1:Nat):Int))-1)=((h+1:Nat):Int):=(by rw[nR _ oK];omega);rw[aO];obtain⟨u,U,e2,e3,rs,E,V,aP⟩:=af (a:=e.2.x4) (b:=((ir key L).length:Int)) (c:=((h+1:Nat):Int)) ⟨oK,hq.2⟩ ai ⟨oK,oK⟩;rw[e2];dsimp only;rw[iN λh=>h rfl,e3];have ay:ir key L=e.2.y6:=(by rw[aM];simp);have az:[e].flatMap (·.2.y7)=e.2.y7:=oM;refine⟨_,_,rfl,.inr ⟨h,e.2.size,e.2.x4,oK,E,?_⟩,rs,by show M.Q0.length<=u.Q0.length+_;omega⟩;rw[ay,az];exact (he.j0 λx hx=>aP x (by rw[az];exact hx)).Q1;rw[iN λh=>h1 (by rw[<- aa];exact h.2)];have h2:2<=m:=oK;obtain⟨q,u,e2,C,H2,V⟩:=al.store st.wf st.Q2 (show 2<=m from h2) J O oK;have am:Step D M u (p::R) ([q]++es.flatMap (·.2.y7)):=Step.kid (Q:=[q]) (hs.J3 ho) hn st C;have hq:=wR C.wf (C.has q oM);obtain⟨U,e3,rs,E⟩:=am.J4 (a:=q) (b:=((ir key L).length:Int)) (c:=((h+1+1:Nat):Int)) ht hr ⟨oK,hq.2⟩ ai ⟨oK,oK⟩;refine⟨{ u with Q1:=U },[q]++es.flatMap (·.2.y7),?_,.inr ⟨h+1,m,q,oK,E,H2.Q1⟩,rs,by show M.Q0.length<=u.Q0.length+_;omega⟩;unfold lV;rw[e2];dsimp only;rw[iN λh=>h rfl,e3]
end
section
def qhM{D:dV}{M:eZ}{k v:Nat}{L:gH}(C:ib D M k v t L P):(eU M t).2.2.toNat<=L.length/\P.length<=2*L.length/\(eU M t).2.1=L.length/\0<=(eU M t).2.2:=by
 rcases C with ⟨u,rfl,rfl⟩|⟨h,n,p,G,u,E⟩;rw[u];exact⟨zM _,zM _,rfl,Int.le_refl _⟩;have:=E.counts;dsimp only at this;rw[u];dsimp only;rw[zJ];omega
def ib.sort{D:dV}{M:eZ}{k v:Nat}{t:Int}{L:gH}{P:KE}(C:ib D M k v t L P):fT L/\nX k v L:=by rcases C with ⟨_,rfl,_⟩|⟨h,n,p,G,I,u⟩;exact⟨.nil,λx E=>nomatch E⟩;exact⟨u.sort,u.Ax⟩
def qBv(h:C5 t):∃k v:Nat,uR t=((k:Int),(v:Int))/\je k v/\1<=k/\k<=24/\1<=v/\v<=108:=by obtain⟨u,C⟩:=h;have:t=0\/t=1\/t=2\/t=3\/t=4\/t=5\/t=6\/t=7:=oK;rcases this with rfl|rfl|rfl|rfl|rfl|rfl|rfl|rfl;exact⟨16,88,rfl,⟨oN,oN⟩,oN,oN,oN,oN⟩;exact⟨16,108,rfl,⟨oN,oN⟩,oN,oN,oN,oN⟩;exact⟨16,1,rfl,⟨oN,oN⟩,oN,oN,oN,oN⟩;exact⟨16,16,rfl,⟨oN,oN⟩,oN,oN,oN,oN⟩;exact⟨24,16,rfl,⟨oN,oN⟩,oN,oN,oN,oN⟩;exact⟨24,16,rfl,⟨oN,oN⟩,oN,oN,oN,oN⟩;exact⟨24,65,rfl,⟨oN,oN⟩,oN,oN,oN,oN⟩;exact⟨1,8,rfl,⟨oN,oN⟩,oN,oN,oN,oN⟩
structure BH (D:dV) (M:eZ) (k v c:Nat) (t:Int) (L:gH) (P:KE):Prop where
 J1:ib D M k v t L P
 wf:M.Wf
 Q2:M.Q2=false
 len:M.Q1.length=24
 nodup:P.Nodup
 Q8:M.x9
 many:M.Q8.length=c
 use:∀ x,eH M x->x∈P
section
variable {D:dV} {M M':eZ} {k v c:Nat} {t:Int} {L L':gH} {P P':KE}
end
def qyM{D:dV}{n k v:Nat}(U:0<=t/\t<8)(V:8<=n)(h4:n<=4096)(O:(oU n).Wf):BH D (oU n) k v ((n-2)-gW (n-2)) t [] []:=by
 have I:(oU n).Q1=zs 24:=rfl;have u:(zs 24).length=24:=(by simp[zs]);have E:∀i,(zs 24).getD i 0=0:=λi=>by rw[yS];unfold zs;rw[List.getElem?_replicate];split<;>rfl
 refine⟨.inl ⟨?_,rfl,rfl⟩,O,rfl,by rw[I];exact u,.nil,qt3 _ _ _ _ _,?_,λx C=>?_⟩;unfold eU;split;rfl;rw[I,E,E,E];show (pS n).length=_;unfold pS;rw[yC,FC];rcases C with C|C;cases C;obtain⟨Q,J,R,G,h5,_⟩:=uv.1 C;have e:(oU n).j9.2.getD 0 0=n:=(by show wrap .u32 (n:Int)=_;exact nR _ oK);rw[e] at J;have h:=FQ.2 ⟨Q,J⟩;rw[<- xG (gW (gr n).length) (gr n)] at h;rcases zD.1 h with h|h;exact absurd h R;exact absurd h G
end
section
section
variable {D:dV} {M M':eZ} {k v c:Nat} {t:Int} {L L':gH} {P P':KE}
def Has.tZ(J:4<=(eG k v).1):∀ {h:Nat} {s:jh},Has D M k v h s->minOf k v h<=s.size->s.y7.length+1<=s.y6.length
 | 0,s,E,G=>by have I:(eG k v).1 / 2<=s.size:=G;rw[E.2.1] at I;rw[E.1,xO];omega
 | h+1,s,⟨O,h0,I,Q,R,u,h5,h6,U⟩,G=>by
  have h8:=u.right.x8.1;rw[Q,R];have key:∀l:List iO,(∀e∈l,Has D M k v h e.2/\minOf k v h<=e.2.size)->(l.flatMap (·.2.y7)).length+l.length<=(l.flatMap (·.2.y6)).length:=by
   intro l;induction l with
   | nil=>intro _;simp
   | cons a l ih=>
    intro C;have i:=ih λe V=>C e (zN _ V);have j:=Has.tZ J (C a oM).1 (C a oM).2;rw[yI,yI,zF,zF,yJ];omega
  have:=key O U;rw[yJ];omega
def Has.cT(G:4<=(eG k v).1){h:Nat}{s:jh}(u:Has D M k v h s):s.y7.length<=s.y6.length:=by
 cases h with
 | zero=>
  have:=length_pos_iff.2 u.ne;rw[u.1,xO];omega
 | succ h=>
  obtain⟨I,U,V,J,O,C,h5,h6,Q⟩:=u;have h8:=C.right.x8.1;rw[J,O];have key:∀l:List iO,(∀e∈l,Has D M k v h e.2/\minOf k v h<=e.2.size)->(l.flatMap (·.2.y7)).length+l.length<=(l.flatMap (·.2.y6)).length:=by
   intro l;induction l with
   | nil=>intro _;simp
   | cons a l ih=>
    intro E;have i:=ih λe R=>E e (zN _ R);have j:=Has.tZ G (E a oM).1 (E a oM).2;rw[yI,yI,zF,zF,yJ];omega
  have:=key I Q;rw[yJ];omega
def ib.cT(u:4<=(eG k v).1)(C:ib D M k v t L P):P.length<=L.length:=by rcases C with ⟨E,rfl,rfl⟩|⟨h,n,p,I,E,G⟩;exact zM _;exact G.cT u
end
end
section
section
variable {D D':dV} {M M':eZ} {k v:Nat} {t:Int} {L:gH} {P:KE}
def Has.cJ:∀ {h:Nat} {s:jh},Has D M k v h s->(∀x∈s.y7,dS D' M' x=dS D M x)->Has D' M' k v h s
 | 0,s,⟨C,G,u,I⟩,E=>⟨C,G,u,by rw[E s.x4 (by rw[C];simp)];exact I⟩
 | h+1,s,⟨Q,R,C,G,u,I,U,V,O⟩,E=>⟨Q,R,C,G,u,I,by rw[E s.x4 (by rw[u];simp)];exact U,V,λe J=>⟨(O e J).1.cJ λx hx=>E x (by rw[u];exact zN _ (yL.2 ⟨e,J,hx⟩)),(O e J).2⟩⟩
structure Calm (D:dV) (M:eZ) (b q:Nat):Prop where
 quiet:fK D
 Q6:D.Q6=[]
 size:D.size=b
 blocks:M.j9.2.getD 0 0=b
 b8:8<=b
 wf:M.Wf
 Q8:M.x9
 Q2:M.Q2=false
 len:M.Q1.length=24
 seq:0<=M.j9.1/\M.j9.1<=q
 x5:0<=M.x5/\M.x5<=q
structure Kept (D:dV) (M:eZ) (D':dV) (M':eZ):Prop where
 Q1:M'.Q1=M.Q1
 use:∀ x,eH M' x↔eH M x
 read:∀ x,eH M x->dS D' M' x=dS D M x
end
end
end
section
open Go Go.Pt List
open Go.IntKind (wrap)
attribute [local irreducible] ld dT iH pK ku fw st new idx kZ kM gb kV ke nz ig nn call eF inv run fM i9 join loop held ext kJ ft pw pQ pT IntKind.wrap
variable {F':KD} {K:Int->WP} {body:KE}
structure TW (dbk pb:Nat) (FD:KD) (D:dV) (j:Nat) (w:Kv) (Y F:KD) (M:eZ):Prop where
 cQ:fN w dbk FD D
 lim:nK D j
 x7:gd w (FD++HG::Y) pb (t5 dbk M) F M
 hv:Hv w
 wf:M.Wf
 sep:∀ b∈Y,b∉FD/\b≠HG
abbrev Zo (FD Y F:KD):KD:=(FD++HG::Y)++F
section
variable {dbk pb j:Nat} {FD Y Y' F:KD} {D:dV} {w w':Kv} {M:eZ}
def TW.q8(h:TW dbk pb FD D j w Y F M)(f:Fr [] w w'):TW dbk pb FD D j w' Y F M:=⟨h.cQ.q8 f,h.lim,h.x7.q8 f,h.hv.q8 f,h.wf,h.sep⟩
def TW.tG(h:TW dbk pb FD D j w Y F M):∀b∈Y,b<w.heap.size:=λb u=>h.x7.si b (by simp[u])
def TW.An(h:TW dbk pb FD D j w Y F M):∀b∈Zo FD Y F,b<w.heap.size:=λb u=>(zD.1 u).elim (h.x7.si b) (h.x7.lt b)
def TW.yf(h:TW dbk pb FD D j w Y F M):∀b∈Y,b∉F:=λb u=>h.x7.sep b (by simp[u])
def TW.cP(h:TW dbk pb FD D j w Y F M)(f:Fr Y w w')(J:∀b∈Y',b<w'.heap.size)(G:∀b∈Y',b∈Y\/w.heap.size<=b):TW dbk pb FD D j w' Y' F M where
 cQ:=h.cQ.j0 f λb u E=>(h.sep b E).1 u
 lim:=h.lim
 x7:=h.x7.A0 (f.mono λb u _=>by simp[u]) (λb u=>by
  rcases zD.1 u with u|u;exact yE (h.cQ.lt b u) f.size;rcases zG.1 u with rfl|u;exact yE h.hv.lt f.size;exact J b u) λb u=>by
  rcases zD.1 u with u|u;exact .inl (zH _ u);rcases zG.1 u with rfl|u;exact .inl oM;rcases G b u with C|C;exact .inl (by simp[C]);exact .inr C
 hv:=h.hv.j0 f λE=>(h.sep _ E).2 rfl
 wf:=h.wf
 sep:=λb u=>by rcases G b u with C|C;exact h.sep b C;exact⟨λI=>by have:=h.cQ.lt b I;omega,λI=>by have:=h.hv.lt;omega⟩
def TW.y5(h:TW dbk pb FD D j w Y F M)(C:∀b∈Y',b∈Y):TW dbk pb FD D j w Y' F M:=h.cP (.refl _ _) (λb u=>h.tG b (C b u)) λb u=>.inl (C b u)
def TW.Bc{B:KD}{w0:Kv}(h:TW dbk pb FD D j w0 Y F M)(f:Fr Y w0 w)(C:∀b∈B,w0.heap.size<=b/\b<w.heap.size):TW dbk pb FD D j w (B++Y) F M:=
 h.cP f (λb u=>(zD.1 u).elim (λu=>(C b u).2) λu=>yE (h.tG b u) f.size) λb u=>(zD.1 u).elim (λu=>.inr (C b u).1) .inl
def qyb(M:eZ)(kd:Int)(b:KE):(ia M kd b).2.Q2=M.Q2:=by unfold ia;split;rfl;split;rfl;split<;>rfl
def qz0(M:eZ)(n kd:Int)(b:KE):(kB M n kd b).2.Q2=M.Q2:=by unfold kB;split;rfl;split;rfl;split<;>rfl
def qxB(M:eZ)(n:Int):(fX M n).2.Q2=M.Q2:=by unfold fX;split;rfl;split;rfl;split<;>rfl
def qyD(M:eZ)(t a b c:Int):(fO M t a b c).2.Q2=M.Q2:=by unfold fO;split;rfl;split<;>rfl
def qxx{M M':eZ}(h:M'.Q2=M.Q2):t5 dbk M'=t5 dbk M:=by unfold t5;rw[h]
def TW.next{M':eZ}(h:TW dbk pb FD D j w Y F M)(u:M'.Q2=M.Q2)(C:M'.Wf)(E:gd w' (FD++HG::Y) pb (t5 dbk M) F' M')(f:Fr F w w'):TW dbk pb FD D j w' Y F' M' where
 cQ:=h.cQ.j0 f λb G=>h.x7.sep b (zH _ G)
 lim:=h.lim
 x7:=by rw[qxx u];exact E
 hv:=h.hv.j0 f (h.x7.sep HG oM)
 wf:=C
 sep:=h.sep
def TW.make{kind:Int}{s:Sl}{K:KI->WP}(h:TW dbk pb FD D j w Y F M)(C:eO (Zo FD Y F) w s body)(E:body.length<=100000)(G:0<=kind/\kind<256)(I:fq body)(J:∀F' w',TW dbk pb FD D j w' Y F' (ia M kind body).2->Fr F w w'->(∀b∈F',b∈F\/w.heap.size<=b)->K (ia M kind body).1 w'): cW 185 [dQ pb,.b kind,s.v] dB w K:=
 qy2 h.x7 C E (by have:=h.wf.all;omega) λF' w' O f Q=>J F' w' (h.next (qyb M kind body) (qvn h.wf G I).1 O f) f Q
def TW.put{n kind:Int}{s:Sl}(h:TW dbk pb FD D j w Y F M)(C:eO (Zo FD Y F) w s body)(E:body.length<=100000)(G:0<=kind/\kind<256)(I:fq body)(J:∀w',TW dbk pb FD D j w' Y F (kB M n kind body).2->Fr F w w'->K (kB M n kind body).1 w'): cW 184 [dQ pb,.u n,.b kind,s.v] dq w K:=
 qAB h.x7 C E λw' O f=>J w' (h.next (qz0 M n kind body) (qyq h.wf G I).1 O f) f
def TW.drop{n:Int}(h:TW dbk pb FD D j w Y F M)(C:∀F' w',TW dbk pb FD D j w' Y F' (fX M n).2->Fr F w w'->(∀b∈F',b∈F\/w.heap.size<=b)->K (fX M n).1 w'): cW 186 [dQ pb,.u n] dq w K:=
 qy0 h.x7 (by have:=h.wf.all;omega) (by have:=h.wf.all;omega) (by have:=h.wf.all;omega) λF' w' E f G=>C F' w' (h.next (qxB M n) (qu4 h.wf) E f) f G
def TW.read{n:Int}{K:KS->WP}(h:TW dbk pb FD D j w Y F M)(C:iZ n)(E:∀s w',(∀G:KD,(∀b∈G,b<w.heap.size)->eO G w' s (dS D M n).2.1)->Fr [] w w'->K ((dS D M n).1,s,(dS D M n).2.2) w'): cW 127 [dQ pb,.u n] dw w K:=
 qxe h.cQ h.lim h.x7 h.hv C (by have:=h.wf.all;omega) (λe I=>zL (h.wf.body e I).2.1 oN) E
def TW.J4{t:Int}{K:KR->WP}(h:TW dbk pb FD D j w Y F M)(C:∀w',Fr [] w w'->K (eU M t) w'): cW 85 [dQ pb,.i t] [.agg [.u,.u,.u]] w K:=qy4 h.x7 C
def qwW{t a b c:Int}(u:M.Wf)(C:iZ a)(E:iZ b)(G:iZ c):(fO M t a b c).2.Wf:=by unfold fO;split;exact u;split;exact u;refine qtW u λx h=>?_;simp only[zD,zG,xZ,or_false] at h;rcases h with (h|rfl|rfl|rfl)|h;exact u.Q1 x (yW h);exact C;exact E;exact G;exact u.Q1 x (yV h)
def TW.tk{t a b c:Int}(h:TW dbk pb FD D j w Y F M)(C:iZ a)(E:iZ b)(G:iZ c)(I:∀w',TW dbk pb FD D j w' Y F (fO M t a b c).2->Fr F w w'->K (fO M t a b c).1 w'): cW 155 [dQ pb,.i t,.agg #[.u a,.u b,.u c]] dq w K:=
 qt2 h.x7 λw' J f=>I w' (h.next (qyD M t a b c) (qwW h.wf C E G) J f) f
def TW.room(h:TW dbk pb FD D j w Y F M)(u:K M.Q0.length w):cW 151 [dQ pb] dq w K:=qy3 h.x7 u
def TW.yc(h:∀b∈F',b∈F\/w.heap.size<=b):∀b∈Zo FD Y F',b∈Zo FD Y F\/w.heap.size<=b:=Cr h
def GH(h:M.Wf)(t:Int):iZ (eU M t).1/\iZ (eU M t).2.1/\iZ (eU M t).2.2:=by
 have key:∀n,iZ (M.Q1.getD n 0):=λn=>by
  rw[yS];cases e:M.Q1[n]? with
  | none=>exact⟨oN,oN⟩
  | some x=>exact h.Q1 x (yG e)
 unfold eU;split;exact⟨⟨oN,oN⟩,⟨oN,oN⟩,⟨oN,oN⟩⟩;exact⟨key _,key _,key _⟩
end
end
section
open Go Go.Pt List
open Go.IntKind (wrap)
open Classical
attribute [local irreducible] ld dT iH pK ku fw st new idx kZ kM gb kV ke nz ig nn call eF inv run fM i9 join loop held ext kJ ft pw pQ pT IntKind.wrap
variable {K:Sl->WP} {S T Z:KD} {b:KE} {hi p:Int} {i k v:Nat} {l:Key} {n:dW} {ps:rP} {s src:Sl} {w:Kv} {x:lJ}
abbrev Im:=KL
def lg (k v pb:Nat) (t:Int):Im:=((k:Int),(v:Int),((eG k v).1:Int),((eG k v).2:Int),pW pb,t)
def qe (x:Im):Array Kw:=#[.i x.1,.i x.2.1,.i x.2.2.1,.i x.2.2.2.1,.pointer x.2.2.2.2.1,.i x.2.2.2.2.2]
abbrev WK:Kx:=167
def Ef (k v:Nat):KT:=((k:Int),(v:Int),((eG k v).1:Int),((eG k v).2:Int))
def Iv (k v:Nat):Array Kw:=#[.i k,.i v,.i (eG k v).1,.i (eG k v).2]
section
variable {S:KD} {w:Kv} {x:lJ} {n:dW} {k v:Nat}
structure qE (x:lJ) (n:dW):Prop where
 Q3:x.1=n.Q3
 J5:x.2.1.len=n.J5.length
 J9:x.2.2.1.len=n.J9.length
 J8:x.2.2.2.len=n.J8.length
def eY.lens(h:eY S w x n):qE x n:=by obtain⟨u,_,⟨pk,C,E⟩,⟨pv,G,I⟩,J⟩:=h;exact⟨u,by rw[C.len,<- E,zK],by rw[G.len,<- I,zK],J.1⟩
def Jp{K:KI->WP}(h:qE x n)(C:∀w',Fr [] w w'->K (((fI n k v).1:Int),((fI n k v).2:Int)) w'): cW 218 [.agg (Iv k v),.agg (fE x)] dA w K:=by refine qlU<|oB (oF [] w) λr1 w1 e1 I G=>oB G λr3 w2 J O G=>KA G 0 rfl x.1 ?_;unfold fI at C;have u:=G.drew;apply eV<;>intro E;rw[h.Q3] at E;rw[iP E] at C;refine KA u 0 rfl x.2.1<|KA u 1 rfl ((eG k v).1:Int) ?_;rw[h.J5];exact C _ u.fr;rw[h.Q3] at E;rw[iN (by rw[E];decide)] at C;refine KA u 0 rfl x.2.2.2<|KA u 1 rfl ((eG k v).2:Int) ?_;rw[h.J8];exact C _ u.fr
def qqY{n:dW}:wrap .i64 (Int.tdiv ((fI n k v).2:Int) 2)=(((fI n k v).2 / 2:Nat):Int):=by have h:=Ev (k:=k) (v:=v);have u:(fI n k v).2<=498:=(by unfold fI;split<;>omega);rw[Ki oK,gu _ oK];rfl
def qBZ{K:Bool->WP}(h:qE x n)(C:∀w',Fr [] w w'->K (decide (qS n k v)) w'): cW 223 [.agg (Iv k v),.agg (fE x)] dr w K:=by refine qmP<|oB (oF [] w) λr1 w1 e1 I u=>oB u λr3 w2 J O u=>KC u 1 rfl (Ef k v)<|KC u 0 rfl x<|Jp (k:=k) (v:=v) h λE G=>?_;dsimp only;rw[qqY];have e:decide (((fI n k v).1:Int)<(((fI n k v).2 / 2:Nat):Int))=decide (qS n k v):=decide_eq_decide.2 (by unfold qS;omega);rw[e];exact C E (u.fr.trans G)
def qAb{K:Bool->WP}(h:qE x n)(C:∀w',Fr [] w w'->K (decide (jS n k v)) w'): cW 242 [.agg (Iv k v),.agg (fE x)] dr w K:=by refine qkD<|oB (oF [] w) λr1 w1 e1 I u=>oB u λr3 w2 J O u=>KC u 1 rfl (Ef k v)<|KC u 0 rfl x<|Jp (k:=k) (v:=v) h λE G=>?_;dsimp only;rw[qqY];have e:decide (((fI n k v).1:Int)>(((fI n k v).2 / 2:Nat):Int))=decide (jS n k v):=decide_eq_decide.2 (by unfold jS;omega);rw[e];exact C E (u.fr.trans G)
end
def GY{t:Int}{ks:Sl}{pb:Nat}{K:Im×Int->WP}(G:uR t=((k:Int),(v:Int)))(I:k=0->∀x w',Fr [] w w'->K (x,4) w')(J:k≠0->ks.len≠k->∀x w',Fr [] w w'->K (x,1) w')(O:k≠0->ks.len=k->∀w',Fr [] w w'->K (lg k v pb t,0) w'): cW 84 [dQ pb,.i t,ks.v] [.agg jF,.one .i] w K:=by
 refine qr6<|oB (oF [] w) λr1 w1 e1 Q h=>qsr ?_;rw[G];apply eV<;>intro C;have C:((k:Nat):Int)=0:=yQ.1 C;exact oE h 0 rfl (qe (0,0,0,0,none,0)) λw2 h E=>KC h 0 rfl (0,0,0,0,none,0)<|I oK _ _ h.fr;have C:¬((k:Nat):Int)=0:=zR.1 C;apply eV<;>intro u;have u:¬((ks.len:Int)=(k:Int)):=zR.1 (oQ u);exact oE h 0 rfl (qe (0,0,0,0,none,0)) λw2 h E=>KC h 0 rfl (0,0,0,0,none,0)<|J oK oK _ _ h.fr;have u:(ks.len:Int)=(k:Int):=by rw[yF] at u;exact yQ.1 u
 refine Ia λw2 E=>?_;have h:=h.q8 E;exact oE h 0 rfl (qe (lg k v pb t)) λR h U=>KC h 0 rfl (lg k v pb t)<|O oK oK _ h.fr
section
variable {dbk pb j:Nat} {FD Y F:KD} {D:dV} {w:Kv} {M:eZ} {k v:Nat} {t:Int}
def Dp{K:lJ×Int->WP}(h:TW dbk pb FD D j w Y F M)(hp:iZ p)(O:∀x B w',TW dbk pb FD D j w' (B++Y) F M->fU (Zo FD (B++Y) F) w' x (dU D M k v p).1 B->Fr [] w w'->(∀c∈B,w.heap.size<=c)->K (x,(dU D M k v p).2) w'): cW 86 [.agg (qe (lg k v pb t)),.u p] [.agg eJ,.one .i] w K:=by
 refine qmS<|oB (oF [] w) λr1 w1 e1 f1 E=>oB E λr3 w2 e2 f2 E=>KA E 1 rfl (pW pb) ?_;have h2:=h.q8 E.fr;refine TW.read h2 hp λs w7 hs f7=>?_;have E:=E.q8 f7;have ac:=hs [] λ_ h=>nomatch h;have hB:fq (dS D M p).2.1:=qiD h.lim.ok (λe he=>(h.wf.body e he).2.2) p;unfold dU at O;apply eV<;>intro C;have ae:(dS D M p).2.2≠0:=λe=>by dsimp only at C;rw[e] at C;exact absurd C oN
 rw[iP ae] at O;exact oE E 0 rfl (fE gp) λw8 E f8=>KC E 0 rfl gp<|O gp [] w8 (h.q8 E.fr) (.zero _ _) E.fr λ_ h=>nomatch h;have he:¬(dS D M p).2.2≠0:=λe=>by dsimp only at C;rw[yF,yQ] at C;exact e C
 rw[iN he] at O;refine KA E 1 rfl (k:Int)<|KA E 1 rfl (v:Int)<|HY (k:=k) (v:=v) ac hB λx B ao hN af J=>?_;have Q:=E.q8 af;have R:=fl (E.at (i:=0) rfl);dsimp only at R;have hr:∀c∈B,c∉[r3]:=λc C hm=>by have:=J c C;rw[zE.1 hm] at this;omega
 refine oE Q 0 rfl (fE x) λU G ag=>KC G 0 rfl x ?_;have I:=hN.j0 ag hr (λc C=>.inl (by rw[zE.1 C];simp[R])) λc C=>.inl C;have au:=h.q8 G.fr;have V:=E.fr.size;have aa:TW dbk pb FD D j U (B++Y) F M:=h.Bc (G.fr.mono λ_ h=>nomatch h) λb hb=>⟨zL V (J b hb),I.lt b hb⟩;refine O x B U aa (I.j6 λc C=>.inl ?_) G.fr λc C=>zL V (J c C);have zl:=h.An;rcases zD.1 C with C|C;rcases zD.1 C with C|C;have:=zl c (by simp[C]);simp;omega;rcases zG.1 C with C|C;have:=zl c (by simp[C]);simp;omega;rcases zD.1 C with C|C;simp[C];have:=zl c (by simp[C]);simp;omega;have:=zl c (by simp[C]);simp;omega
def qwJ{kd:Int}{n:Int}(h:(kB M n kd b).1=10):(kB M n kd b).2=M:=by unfold kB at h⊢;split;rfl;rename_i u;rw[iN u] at h;split;rfl;rename_i q C;rw[C] at h;dsimp only at h;split;rfl;rename_i E;rw[iN E] at h;cases h
def yu{K:KI->WP}(h:TW dbk pb FD D j w Y F M)(hx:eY (Zo FD Y F) w x n)(h1:n.J5.length<=1000000)(h2:n.J9.length<=1000000)(h3:n.J8.length<=1000000)(U:∀F' w',TW dbk pb FD D j w' Y F' (ee k v M p n).2->Fr F w w'->(∀b∈F',b∈F\/w.heap.size<=b)->K (ee k v M p n).1 w'): cW 154 [.agg (qe (lg k v pb t)),.u p,.agg (fE x)] dB w K:=by
 refine qlW<|oB (oF [] w) λr1 w1 e1 f1 I=>oB I λr3 w2 e2 f2 I=>KC I 0 rfl x<|KA I 1 rfl (k:Int)<|KA I 1 rfl (v:Int)<|qzc (x:=x) (k:=k) (v:=v) (hx.q8 I.fr) h1 h2 h3 λs w9 hs f9=>?_;have I:=I.q8 f9;have h9:=h.q8 I.fr;have am:fq (fH n k v).2.1:=by unfold fH;split;exact qqG hx.2.1.1 hx.2.1.2.1;exact λ_ h=>nomatch h
 have an:0<=(fH n k v).1/\(fH n k v).1<256:=(by unfold fH jJ;split;dsimp only;split<;>exact⟨oN,oN⟩;exact⟨oN,oN⟩);have ao:(fH n k v).2.1.length<=100000:=(by unfold fH;split;rename_i hr;have:=(FE hr).2;dsimp only;omega;exact yY _);unfold ee at U;apply eV<;>intro C;have aB:(fH n k v).2.2≠0:=λe=>by dsimp only at C;rw[e] at C;exact absurd C oN
 rw[iP aB] at U;exact U F w9 h9 (I.fr.mono λ_ h=>nomatch h) λb Q=>.inl Q;have he:¬(fH n k v).2.2≠0:=λe=>by dsimp only at C;rw[yF,yQ] at C;exact e C
 rw[iN he] at U;have aC:=fl (I.at (i:=1) rfl);dsimp only at aC;have ac:=h.An;have ae:r1∉F:=λhm=>by have:=ac r1 (by simp[hm]);omega
 have ap:w.heap.size<=r1:=oK;have aM:=I.fr.size;have ag:∀G:KD,(∀b∈G,b<w.heap.size)->eO G w9 s (fH n k v).2.1:=λG hG=>hs G λb Q=>yE (hG b Q) (zL f1.size f2.size);have ah:ed F w w9 [(r1,.c (qe (lg k v pb t)) WK)]:=⟨λq hq=>by rw[zE.1 hq];exact I.at (i:=1) rfl,oM,I.fr.mono (λ_ h=>nomatch h),λq hq=>by rw[zE.1 hq];exact .inr ap⟩;generalize a0:(fH n k v).1=R at *;generalize a1:(fH n k v).2.1=J at *;refine jf (λ_ w'=>(p=0\/(kB M p R J).1=10)/\TW dbk pb FD D j w' Y F M/\ed F w w' [(r1,.c (qe (lg k v pb t)) WK)]/\eO (Zo FD Y F) w' s J) ?_ ?_;apply eV<;>intro V;have V:p≠0:=by rw[zT] at V;exact zR.1 V
 refine KA ah 0 rfl (pW pb)<|TW.put h9 (ag _ ac) ao an am λaD aj aq=>?_;have af:=ah.j0 aq (λi hi=>.inl hi) (λq hq=>by rw[zE.1 hq];exact ae);apply eV<;>intro E;have E:(kB M p R J).1≠10:=by rw[zT] at E;exact zR.1 E
 rw[iP ⟨V,E⟩] at U;exact U F aD aj af.fr λb Q=>.inl Q;have E:(kB M p R J).1=10:=by rw[yF] at E;exact yQ.1 E
 rw[qwJ E] at aj;exact⟨.inr E,aj,af,(ag _ ac).j0 (aq.mono λb Q _=>by simp[Q]) λb Q=>.inl Q⟩;have V:p=0:=by rw[yF] at V;exact yQ.1 V
 exact⟨.inl V,h9,ah,ag _ ac⟩;rintro _ a2 ⟨V,aF,aa,ar⟩;rw[iN λhh=>V.elim hh.1 hh.2] at U;refine KA aa 0 rfl (pW pb)<|TW.make aF ar ao an am λF' aG au aH aI=>?_;have O:=aa.j0 aH (λi hi=>.inl hi) (λq hq=>by rw[zE.1 hq];exact ae);have ak:=aa.fr.size;have ab:∀b∈F',b∈F\/w.heap.size<=b:=λb Q=>(aI b Q).imp id λh=>zL ak h;refine jf (λe w'=>∃F2,e=(if (ia M R J).1.2=0/\p≠0 then (fX (ia M R J).2 p).1 else (ia M R J).1.2)/\TW dbk pb FD D j w' Y F2 (if (ia M R J).1.2=0/\p≠0 then (fX (ia M R J).2 p).2 else (ia M R J).2)/\Fr F w w'/\∀b∈F2,b∈F\/w.heap.size<=b) ?_ ?_;refine jf (λd w'=>d=decide ((ia M R J).1.2=0/\p≠0)/\w'=aG) ?_ ?_;refine eV (λC=>⟨?_,rfl⟩) λC=>⟨?_,rfl⟩;have C:(ia M R J).1.2=0:=yQ.1 C;rw[Ka,yO,zT,zR];exact⟨λh=>⟨C,h⟩,λh=>h.2⟩;have C:¬(ia M R J).1.2=0:=zR.1 C;rw[zU λh=>C h.1];rintro d a3 ⟨rfl,rfl⟩;apply eV<;>intro C;have C:=zC C;rw[iP C,iP C];refine KA O 0 rfl (pW pb)<|TW.drop au λF2 a4 aJ aK aL=>?_;have al:=O.fr.size;refine⟨F2,rfl,aJ,O.fr.j8 aK ab,λb Q=>?_⟩;rcases aL b Q with h|h;exact ab b h;exact .inr (zL al h);have C:=zB C;rw[iN C,iN C];exact⟨F',rfl,au,O.fr,ab⟩;rintro e av ⟨F2,rfl,ad,aw,ax⟩;by_cases C:(ia M R J).1.2=0/\p≠0;rw[iP C] at U ad⊢;exact U F2 av ad aw ax;rw[iN C] at U ad⊢;exact U F2 av ad aw ax
end
section
section
variable {S:KD} {w:Kv} {s:Sl} {ps:rP}
def kF.tN(h:kF S w s ps)(b:Nat){K:Sl->Prop}(C:hi=b)(G:b<=ps.length)(I:∀u,kF S w u (ps.take b)->K u):gb s none (some hi) (some hi) 1 K:=
 eE.Av h.1 b C (by rw[zK];exact G) λu E=>I u ⟨by rw[<- xR] at E;exact E,λp J=>h.2 p (yW J)⟩
def kF.from(h:kF S w s ps){lo:Int}(a:Nat){K:Sl->Prop}(C:lo=a)(G:a<=ps.length)(I:∀u,kF S w u (ps.drop a)->K u):gb s (some lo) none none 1 K:=
 eE.part h.1 a ps.length C (by rw[xY,h.len]) G (by rw[zK];exact zM _) λu _ E _=>I u ⟨by have e:(jt ps).take ps.length=jt ps:=zS (by rw[zK];exact zM _);rw[e,<- xS] at E;exact E,λp J=>h.2 p (yV J)⟩
def kF.upto(h:kF S w s ps)(b:Nat){K:Sl->Prop}(C:hi=b)(G:b<=ps.length)(I:∀u,kF S w u (ps.take b)->K u):gb s none (some hi) none 1 K:=
 eE.part h.1 0 b rfl C (yY _) (by rw[zK];exact G) λu _ E _=>I u ⟨by rw[xH,<- xR] at E;exact E,λp J=>h.2 p (yW J)⟩
def CJ(ps:rP)(b:Nat):ik (ps.take b)=(ik ps).take b:=xR
def A4(ps:rP)(b:Nat):ik (ps.drop b)=(ik ps).drop b:=xS
def A9{ps:rP}(hi:i<ps.length):(ik ps).getD i []=ps[i].2:=by rw[yS,zQ,zA hi];rfl
def eE.Af{α:Type}{enc:α->List Kw}{l:List α}(h:eE enc 1 S w s l){lo:Int}(a:Nat){K:Sl->Prop}(C:lo=a)(G:a<=l.length)(I:∀u,eE enc 1 S w u (l.drop a)->K u):gb s (some lo) none none 1 K:=
 eE.part h a l.length C (by rw[xY,h.1]) G (zM _) λu _ E _=>I u (by rw[vB] at E;exact E)
def eE.Ds{α:Type}{enc:α->List Kw}{l:List α}(h:eE enc 1 S w s l)(b:Nat){K:Sl->Prop}(C:hi=b)(G:b<=l.length)(I:∀u,eE enc 1 S w u (l.take b)->K u):gb s none (some hi) none 1 K:=
 eE.part h 0 b rfl C (yY _) G λu _ E _=>I u (by rw[xH] at E;exact E)
end
section
variable {S:KD} {w:Kv} {x:lJ} {n:dW} {k v:Nat}
def qL (n:dW) (mid:Nat):Prop:=if n.Q3 then mid<n.J5.length/\mid<=n.J9.length else 1<=mid/\mid<=n.J5.length/\mid<=n.J8.length
def qxP{mid:Nat}{K:lJ×lJ×Sl->WP}(hx:eY S w x n)(hm:qL n mid)(hl:mid<=1000000)(kk:∀xl xr ks w',eY S w' xl (eP n mid).1->eY S w' xr (eP n mid).2.1->eO S w' ks (eP n mid).2.2->Fr [] w w'->K (xl,xr,ks) w'): cW 219 [.agg (fE x),.i mid] [.agg eJ,.agg eJ,.one .slice] w K:=by
 have aF:=hx;obtain⟨h0,C,⟨pk,E,u⟩,⟨pv,aa,G⟩,O⟩:=hx;have l1:pk.length=n.J5.length:=(by rw[<- u,zK]);have l2:pv.length=n.J9.length:=(by rw[<- G,zK]);refine qqx ?_;have h:=oF [] w;refine oB h λr1 w2 _ f h=>oB h λr3 w4 _ f h=>oB h λr5 w6 _ f h=>?_;have h:=oG h;refine⟨?a,?b⟩;case' a=>
  refine KC h 2 rfl x<|KC h 2 rfl x<|oB h λr9 av _ f h=>kH (h.cells 3) (h.cells 3)<|oB h λaw ax _ f h=>kH (h.cells 4) (h.cells 4)<|oE h 1 rfl (fE x) λay h f=>ja (h.cells 4)<|oE h 0 rfl (fE x) λaz h f=>?_
 case' b=>
  refine KC h 2 rfl x<|KC h 2 rfl x<|oB h λaw av _ f h=>kH (h.cells 3) (h.cells 3)<|oB h λr9 ax _ f h=>kH (h.cells 4) (h.cells 4)<|oE h 0 rfl (fE x) λay h f=>ja (h.cells 4)<|oE h 1 rfl (fE x) λaz h f=>?_;have h:=Fm h (List.Perm.swap _ _ _)
 all_goals
  refine KA h 4 rfl x.1 ?_;apply eV<;>intro hc;rw[h0] at hc;unfold qL at hm;rw[iP hc] at hm;have hH:eP n mid=({ n with J5:=n.J5.take mid,J9:=n.J9.take mid },{ n with J5:=n.J5.drop mid,J9:=n.J9.drop mid },n.J5.getD mid []):=(by unfold eP;rw[iP hc]);rw[hH] at kk;have h:=oG h;refine KA h 4 rfl x.2.1<|kF.tN E mid rfl oK λQ ah=>KA h 4 rfl x.2.2.1<|kF.tN aa mid rfl oK λab ai=>oE h 1 rfl (fE (x.1,Q,x.2.2.1,x.2.2.2)) λaG h f=>ja (h.cell 4)<|oE h 1 rfl (fE (x.1,Q,ab,x.2.2.2)) λaH h f=>?_;have h:=oG h;refine KA h 4 rfl x.2.1<|kF.from E mid rfl oK λR aj=>KA h 4 rfl x.2.2.1<|kF.from aa mid rfl oK λac ak=>oE h 0 rfl (fE (x.1,R,x.2.2.1,x.2.2.2)) λaI h f=>ja (h.cell 4)<|oE h 0 rfl (fE (x.1,R,ac,x.2.2.2)) λaJ h f=>?_;have h:=oG h;refine KC h 1 rfl (x.1,Q,ab,x.2.2.2)<|KC h 0 rfl (x.1,R,ac,x.2.2.2)<|KA h 4 rfl x.2.1 ?_;have I:mid<pk.length:=oK;refine kF.get' (E.q8 h.fr) mid rfl I λaK J hh=>oE h 3 rfl (fE (x.1,Q,ab,x.2.2.2)) λaL h f=>nM (hh _ (E.q8 h.fr)) (h.cell 4) (h.cells 0)<|oE h 2 rfl (fE (x.1,R,ac,x.2.2.2)) λaB h f=>kH (hh _ (E.q8 h.fr)) (h.cell 4)<|KC h 3 rfl (x.1,Q,ab,x.2.2.2)<|KC h 2 rfl (x.1,R,ac,x.2.2.2)<|kk _ _ _ aB ⟨h0,⟨λa J=>C.1 a (yW J),λa J=>C.2.1 a (yW J),C.2.2⟩,⟨pk.take mid,ah.q8 h.fr,by rw[CJ,u]⟩,⟨pv.take mid,ai.q8 h.fr,by rw[CJ,G]⟩,O.q8 h.fr⟩
   ⟨h0,⟨λa J=>C.1 a (yV J),λa J=>C.2.1 a (yV J),C.2.2⟩,⟨pk.drop mid,aj.q8 h.fr,by rw[A4,u]⟩,⟨pv.drop mid,ak.q8 h.fr,by rw[A4,G]⟩,O.q8 h.fr⟩ ?_ h.fr
  rw[<- u,A9 I];exact (E.2 _ (zX I)).q8 h.fr;rw[h0] at hc;have am:¬n.Q3=true:=(by rw[hc];decide);unfold qL at hm;rw[iN am] at hm;have hH:eP n mid=({ n with J8:=n.J8.take mid,J5:=n.J5.take (mid-1) },{ n with J8:=n.J8.drop mid,J5:=n.J5.drop mid },n.J5.getD (mid-1) []):=(by unfold eP;rw[iN am]);rw[hH] at kk;have em:wrap .i64 ((mid:Int)-1)=((mid-1:Nat):Int):=(by rw[gu _ oK];omega);have h:=oG h;refine KA h 4 rfl x.2.2.2<|eE.Av O mid rfl oK λU an=>KA h 4 rfl x.2.1<|kF.tN E (mid-1) em oK λad ao=>oE h 1 rfl (fE (x.1,x.2.1,x.2.2.1,U)) λaM h f=>ja (h.cell 4)<|oE h 1 rfl (fE (x.1,ad,x.2.2.1,U)) λaN h f=>?_;have h:=oG h;refine KA h 4 rfl x.2.2.2<|eE.Af O mid rfl oK λV ap=>KA h 4 rfl x.2.1<|kF.from E mid rfl oK λae aq=>oE h 0 rfl (fE (x.1,x.2.1,x.2.2.1,V)) λaO h f=>ja (h.cell 4)<|oE h 0 rfl (fE (x.1,ae,x.2.2.1,V)) λaP h f=>?_;have h:=oG h;refine KC h 1 rfl (x.1,ad,x.2.2.1,U)<|KC h 0 rfl (x.1,ae,x.2.2.1,V)<|KA h 4 rfl x.2.1 ?_;have I:mid-1<pk.length:=oK;refine kF.get' (E.q8 h.fr) (mid-1) em I λaQ J hh=>oE h 3 rfl (fE (x.1,ad,x.2.2.1,U)) λaR h f=>nM (hh _ (E.q8 h.fr)) (h.cell 4) (h.cells 0)<|oE h 2 rfl (fE (x.1,ae,x.2.2.1,V)) λaC h f=>kH (hh _ (E.q8 h.fr)) (h.cell 4)<|KC h 3 rfl (x.1,ad,x.2.2.1,U)<|KC h 2 rfl (x.1,ae,x.2.2.1,V)<|kk _ _ _ aC ⟨h0,⟨λa J=>C.1 a (yW J),C.2.1,λa J=>C.2.2 a (yW J)⟩,⟨pk.take (mid-1),ao.q8 h.fr,by rw[CJ,u]⟩,⟨pv,aa.q8 h.fr,G⟩,an.q8 h.fr⟩
   ⟨h0,⟨λa J=>C.1 a (yV J),C.2.1,λa J=>C.2.2 a (yV J)⟩,⟨pk.drop mid,aq.q8 h.fr,by rw[A4,u]⟩,⟨pv,aa.q8 h.fr,G⟩,ap.q8 h.fr⟩ ?_ h.fr
  rw[<- u,A9 I];exact (E.2 _ (zX I)).q8 h.fr
end
end
section
structure Sg (S0:KD) (w0 wa:Kv) (F T:KD):Prop where
 sS:Fr S0 w0 wa
 new:∀ b∈F,b∈S0\/w0.heap.size<=b
 own:∀ b∈T,b∈S0\/w0.heap.size<=b
abbrev fY (L:KK):KD:=L.map (·.1)
section
variable {dbk pb j:Nat} {FD S0 Y Y0 F0 F F' T:KD} {D:dV} {w0 wa w w':Kv} {M M':eZ} {L:KK}
def Sg.start(F:KD)(w:Kv):Sg F w w F []:=⟨.refl _ _,λb u=>.inl u,λ_ h=>nomatch h⟩
def Sg.fr(g:Sg S0 w0 wa F T)(h:ed T wa w L):Fr S0 w0 w:=g.sS.j8 h.fr g.own
def Sg.fY(g:Sg S0 w0 wa F T)(h:ed T wa w L):∀b∈fY L,b∈S0\/w0.heap.size<=b:=λb C=>by obtain⟨q,E,rfl⟩:=mem_map.1 C;rcases h.own q E with u|u;exact g.own _ u;exact .inr (zL g.sS.size u)
def AJ(h:ed T wa w L):∀b∈fY L,b<w.heap.size:=λb u=>by obtain⟨q,C,rfl⟩:=mem_map.1 u;exact fl (h.jz q C)
def TW.J0(C:TW dbk pb FD D j wa (T++Y) F M)(h:ed T wa w L):TW dbk pb FD D j w (fY L++Y) F M:=
 C.cP (h.fr.mono λb u _=>by simp[u]) (λb u=>(zD.1 u).elim (AJ h b) λu=>yE (C.tG b (by simp[u])) h.fr.size) λb u=>(zD.1 u).elim (λu=>by obtain⟨q,E,rfl⟩:=mem_map.1 u;exact (h.own q E).imp (λh=>zH _ h) id) λu=>.inl (zI _ u)
def TW.cI(u:TW dbk pb FD D j wa Y F M)(h:ed [] wa w L):TW dbk pb FD D j w (fY L++Y) F M:=TW.J0 (T:=[]) u h
def tH(h:ed T wa w L)(f:Fr S w w')(C:∀b∈fY L,b∉S):ed (fY L) w' w' L:=
 ⟨λq u=>by rw[f.block q.1 (fl (h.jz q u)) (C _ (zZ u))];exact h.jz q u,h.nodup,.refl _ _,λq u=>.inl (zZ u)⟩
def TW.own(u:TW dbk pb FD D j w (fY L++Y) F M)(h:ed T wa w L)(f:Fr F w w'):ed (fY L) w' w' L:=tH h f λb C=>u.yf b (by simp[C])
def Sg.next(g:Sg S0 w0 wa F T)(h:ed T wa w L)(f:Fr F w w')(n:∀b∈F',b∈F\/w.heap.size<=b):Sg S0 w0 w' F' (Go.Proofs.YtfneoijhmknlnaaGreatDoor.fY L):=
 ⟨(g.fr h).j8 f g.new,λb u=>(n b u).elim (g.new b) λC=>.inr (zL (g.fr h).size C),g.fY h⟩
def Sg.cH(g:Sg S0 w0 wa F T)(h:ed T wa w L)(f:Fr [] w w'):Sg S0 w0 w' F (Go.Proofs.YtfneoijhmknlnaaGreatDoor.fY L):=
 ⟨(g.fr h).j8 f λ_ h=>(nomatch h),g.new,g.fY h⟩
def Gc(h:ed T wa w L):∀b∈Zo FD (Go.Proofs.YtfneoijhmknlnaaGreatDoor.fY L++Y) F,b∈Zo FD (T++Y) F\/wa.heap.size<=b:=λb u=>by rcases zD.1 u with u|u;rcases zD.1 u with u|u;exact .inl (by simp[u]);rcases zG.1 u with u|u;exact .inl (by simp[u]);rcases zD.1 u with u|u;obtain⟨q,C,rfl⟩:=mem_map.1 u;exact (h.own q C).imp (λh=>by simp[h]) id;exact .inl (by simp[u]);exact .inl (by simp[u])
def Cb:∀b∈Zo FD Y F,b∈Zo FD (S++Y) F:=λb h=>by simp only[Zo,zD,zG] at h⊢;rcases h with (h|h|h)|h<;>simp[h]
def ym{b:Nat}(h:b∈F):b∈Zo FD Y F:=zI _ h
def eY.J0(u:eY (Zo FD (T++Y) F) wa x n)(h:ed T wa w L):eY (Zo FD (fY L++Y) F) w x n:=u.j0 (h.fr.mono λb C _=>by simp[C]) (Gc h)
def eY.cI(u:eY (Zo FD Y F) wa x n)(h:ed [] wa w L):eY (Zo FD (fY L++Y) F) w x n:=eY.J0 (T:=[]) u h
def eY.next(h:eY (Zo FD Y F) w x n)(f:Fr F w w')(u:∀b∈F',b∈F\/w.heap.size<=b):eY (Zo FD Y F') w' x n:=h.j0 (f.mono λb C _=>ym C) (TW.yc u)
def sR(u:eO (Zo FD (T++Y) F) wa s l)(h:ed T wa w L):eO (Zo FD (fY L++Y) F) w s l:=u.j0 (h.fr.mono λb C _=>by simp[C]) (Gc h)
def xh(u:eO (Zo FD Y F) wa s l)(h:ed [] wa w L):eO (Zo FD (fY L++Y) F) w s l:=sR (T:=[]) u h
def qtu(h:eO (Zo FD Y F) w s l)(f:Fr F w w')(u:∀b∈F',b∈F\/w.heap.size<=b):eO (Zo FD Y F') w' s l:=h.j0 (f.mono λb C _=>ym C) (TW.yc u)
def I5(h:eO (Zo FD (S++Y) F) w s l):eO (Zo FD Y F) w s l:=h.j0 (.refl _ _) λb u=>.inl (Cb b u)
def TW.j7(h:TW dbk pb FD D j w (T++Y) F M):TW dbk pb FD D j w Y F M:=h.y5 λb u=>zI _ u
abbrev FA:=KP
def vN (g:Grown) (ks:Sl):FA:=(g.x4,g.J7,ks,g.Q9)
abbrev GR:Kx:=280
def sd (x:FA):Array Kw:=#[.u x.1,.bool x.2.1,x.2.2.1.v,.u x.2.2.2]
def wN:iZ 0:=⟨oN,oN⟩
def qs7{k:Int}(h:M.Wf):iZ (ia M k b).1.1:=by
 unfold ia;split;exact wN;split;exact wN;split;exact wN;rename_i n r u;have:=h.range n (by rw[u];simp);have:=h.n4;exact⟨by dsimp only;omega,by dsimp only;omega⟩
def yb(h:M.Wf)(u:iZ p):iZ (ee k v M p n).1.1:=by unfold ee;split;exact wN;split;exact u;split;exact qs7 h;exact qs7 h
structure Jr (g:Grown):Prop where
 x4:iZ g.x4
 Q9:iZ g.Q9
 key:fq g.key
def fq.nil:fq []:=λ_ h=>nomatch h
def GL:Jr qI:=⟨⟨oN,oN⟩,⟨oN,oN⟩,.nil⟩
def vz{l:List Key}(h:∀a∈l,fq a)(i:Nat):fq (l.getD i []):=by
 rw[yS];cases e:l[i]? with
 | none=>exact .nil
 | some a=>exact h a (yG e)
def qrD{t:Int}{J7:Bool}{K:FA×Int->WP}(hT:TW dbk pb FD D j w0 Y F M)(hx:eY (Zo FD Y F) w0 x n)(h1:n.J5.length<=100000)(h2:n.J9.length<=100000)(h3:n.J8.length<=100000)(hm:(fI n k v).1>(fI n k v).2->qL n ((fI n k v).1 / 2))(hp:iZ p)(kk:∀ks F' w',Jr (gY k v M p n J7).1.1->TW dbk pb FD D j w' Y F' (gY k v M p n J7).2->eO (Zo FD Y F') w' ks (gY k v M p n J7).1.1.key->Fr F w0 w'->(∀b∈F',b∈F\/w0.heap.size<=b)->K (vN (gY k v M p n J7).1.1 ks,(gY k v M p n J7).1.2) w'): cW 188 [.agg (qe (lg k v pb t)),.u p,.agg (fE x),.bool J7] [.agg sq,.one .i] w0 K:=by
 refine qlV ?_;have h:=oF [] w0;have g:=Sg.start F w0;have hl:=hx.lens;have aE:(fI n k v).1<=100000:=(by unfold fI;split<;>assumption);refine oB h λr1 w2 _ f h=>oB h λr3 w4 _ f h=>oB h λr5 w6 _ f h=>oB h λr7 w8 _ f h=>oE h 0 rfl (sd (0,J7,dR,0)) λw9 h f=>KC h 3 rfl (Ef k v)<|KC h 2 rfl x<|Jp (k:=k) (v:=v) hl λaH al=>?_;have h:=h.q8 al;refine jf (λ_ w'=>∃(x':lJ) (n':dW) (ks:Sl) (key:Key) (o:Int) (F' T:KD) (wa:Kv) (M':eZ),Sg F w0 wa F' T/\TW dbk pb FD D j wa (T++Y) F' M'/\ed T wa w' [(r7,.c (sd (0,J7,ks,o)) GR),(r5,.c (sd (0,false,dR,0)) GR),(r3,.c (fE x') ND),(r1,.c (qe (lg k v pb t)) WK)]/\
   eY (Zo FD (T++Y) F') wa x' n'/\eO (Zo FD (T++Y) F') wa ks key/\n'.J5.length<=100000/\n'.J9.length<=100000/\n'.J8.length<=100000/\iZ o/\fq key/\gY k v M p n J7=((⟨(ee k v M' p n').1.1,J7,key,o⟩,(ee k v M' p n').1.2),(ee k v M' p n').2)) ?_ ?_
 apply eV<;>intro I;have I:(fI n k v).1>(fI n k v).2:=(by have:=zC I;dsimp only at this;omega);have af:=hm I;have O:wrap .i64 (Int.tdiv ((fI n k v).1:Int) 2)=(((fI n k v).1 / 2:Nat):Int):=(by rw[Ki oK,gu _ oK];rfl);generalize ag:(fI n k v).1 / 2=C at af O;refine KC h 2 rfl x ?_;dsimp only;rw[O];have E:=hT.cI h;refine qxP (hx.cI h) af oK λxl xr ks aI am an U V=>?_;have Q:=E.q8 V;have g:=g.cH h V;have h:=tH h V λ_ _ h=>nomatch h;refine oB h λaJ aK _ f h=>oB h λaL aM _ f h=>oE h 1 rfl (fE xl) λaN h f=>oE h 0 rfl (fE xr) λaO h f=>KC h 5 rfl (lg k v pb t)<|KC h 0 rfl xr ?_;have hH:(eP n C).1.J5.length<=100000/\(eP n C).1.J9.length<=100000/\(eP n C).1.J8.length<=100000/\(eP n C).2.1.J5.length<=100000/\(eP n C).2.1.J9.length<=100000/\(eP n C).2.1.J8.length<=100000:=by unfold eP;split<;>simp only[yM,yC]<;>omega
 refine yu (Q.J0 h) (an.J0 h) oK oK oK λF1 aq R J aa=>?_;have ab:=(am.J0 h).next J aa;have ac:=qtu (sR U h) J aa;have g:=g.next h J aa;have h:=(Q.J0 h).own h J;apply eV<;>intro G;have ar:(ee k v M 0 (eP n C).2.1).1.2≠0:=by rw[zT] at G;exact zR.1 G
 have e:gY k v M p n J7=((qI,(ee k v M 0 (eP n C).2.1).1.2),(ee k v M 0 (eP n C).2.1).2):=(by unfold gY;rw[iP I,ag,iP ar]);rw[e] at kk;exact oE h 3 rfl (sd (0,false,dR,0)) λau h f=>KC h 3 rfl (0,false,dR,0)<|kk dR F1 au GL (R.J0 h).j7 (.nil _ _ _ _) (g.fr h) g.new;have he:¬(ee k v M 0 (eP n C).2.1).1.2≠0:=λe=>by rw[yF,yQ] at G;exact e G
 refine KC h 1 rfl xl<|oE h 4 rfl (fE xl) λaQ h f=>oH h 2 rfl (sd (0,J7,dR,(ee k v M 0 (eP n C).2.1).1.1)) rfl rfl (zO rfl) λaR h f=>oH h 2 rfl (sd (0,J7,ks,(ee k v M 0 (eP n C).2.1).1.1)) rfl rfl (zO rfl) λaT h f=>⟨xl,(eP n C).1,ks,(eP n C).2.2,_,F1,_,aq,_,g,R,h.sub (.cons _ (.cons _ (.refl _))),ab,ac,hH.1,hH.2.1,hH.2.2.1,yb hT.wf ⟨oN,oN⟩,?_,?_⟩;unfold eP;split;exact vz hx.2.1.1 _;exact vz hx.2.1.1 _;unfold gY;rw[iP I,ag,iN he];have I:¬(fI n k v).1>(fI n k v).2:=(by have:=zB I;dsimp only at this;omega);refine⟨x,n,dR,[],0,F,[],w0,M,g,hT,h,hx,.nil _ _ _ _,h1,h2,h3,⟨oN,oN⟩,.nil,?_⟩;unfold gY;rw[iN I];rintro aU aV ⟨x',n',ks,key,o,F1,T,wa,M',g,E,h,av,aw,l1,l2,l3,uo,bk,e⟩;rw[e] at kk;refine KC h 3 rfl (lg k v pb t)<|KC h 2 rfl x'<|yu (E.J0 h) (av.J0 h) oK oK oK λF2 aY ah ad ai=>?_;have U:=qtu (sR aw h) ad ai;have g:=g.next h ad ai
 have h:=(E.J0 h).own h ad;exact oE h 0 rfl (sd ((ee k v M' p n').1.1,J7,ks,o)) λaZ h f=>KC h 0 rfl ((ee k v M' p n').1.1,J7,ks,o)<|oE h 1 rfl (sd ((ee k v M' p n').1.1,J7,ks,o)) λax h f=>KC h 1 rfl ((ee k v M' p n').1.1,J7,ks,o)<|kk ks F2 ax ⟨yb E.wf hp,uo,bk⟩ (ah.J0 h).j7 (I5 (sR U h)) (g.fr h) g.new
end
end
section
section
variable {Z:KD} {w w':Kv} {s:Sl} {l:List Key} {B:KD}
def qq0{α β:Type}(f:α->β)(l:List α)(i:Nat)(x:α):(gy l i x).map f=gy (l.map f) i (f x):=by unfold gy;rw[xP,xP,xR,xS];rfl
def qqM{α β:Type}(f:α->β)(l:List α)(i:Nat):(iX l i).map f=iX (l.map f) i:=by unfold iX;rw[xP,xR,xS]
def FP{α:Type}{l:List α}{y:α}(h:y∈iX l i):y∈l:=by unfold iX at h;exact (zD.1 h).elim yW yV
abbrev ow (Z:KD) (w:Kv) (Z':KD):Prop:=∀b∈Z',b∈Z\/w.heap.size<=b
def DZ{pk pk':rP}{Z':KD}{E:Sl}{B':KD}{l':List Key}(G:∀p∈pk,eO Z w p.1 p.2)(u:fB iv 1 w' E (jt pk') B')(e:ik pk'=l')(f:Fr B w w')(C:∀b∈B,b∈Z)(I:ow Z w Z')(J:∀p∈pk',p∈pk\/eO Z w p.1 p.2):jY Z' w' E l' B':=
 ⟨pk',u,e,λp h=>((J p h).elim (G p) id).j0 (f.mono λb u _=>C b u) I⟩
def jY.ins{ii:Int}{ks:Sl}{key:Key}{vb:Nat}{T':Kx}(h:jY Z w s l B)(C:∀b∈B,b∈Z)(hi:i<=l.length)(J:ii=i)(I:l.length<=100000)(O:w.heap[vb]?=some (.c #[gT ks] T'))(E:vb∉B)(Q:eO Z w ks key)(R:∀u B' w',(∀Z',ow Z w Z'->jY Z' w' u (gy l i key) B')->Fr B w w'->(∀b∈B',b∈B\/w.heap.size<=b)->K u w'): cW 187 [s.v,.i ii,.slice (pW vb) 1 1] dp w K:=by obtain⟨pk,U,rfl,G⟩:=h;rw[zK] at hi I;refine qvG U (by rw[zK];exact hi) J (by rw[zK];exact I) O E λu B' w' b' f n=>R u B' w' (λZ' V=>DZ (pk':=gy pk i (ks,key)) G (by rw[show jt (gy pk i (ks,key))=gy (jt pk) i ks from qq0 _ _ _ _];exact b') (qq0 _ _ _ _) f C V λp G=>?_) f n;rcases EP G with rfl|h;exact .inr Q;exact .inl h
def jY.del{ii jj:Int}(h:jY Z w s l B)(C:∀b∈B,b∈Z)(hi:i<l.length)(I:ii=i)(J:jj=((i+1:Nat):Int))(G:l.length<=100000)(O:∀u w',(∀Z',ow Z w Z'->jY Z' w' u (iX l i) B)->Fr B w w'->K u w'): cW 222 [s.v,.i ii,.i jj] dp w K:=by obtain⟨pk,Q,rfl,E⟩:=h;rw[zK] at hi G;exact qvD Q (by rw[zK];exact hi) I J (by rw[zK];exact G) λu w' b' f=>O u w' (λZ' R=>DZ (pk':=iX pk i) E (by rw[show jt (iX pk i)=iX (jt pk) i from qqM _ _ _];exact b') (qqM _ _ _) f C R λp E=>.inl (FP E)) f
def jY.set{i:Nat}{ii:Int}{ks:Sl}{key:Key}{K:WP}(h:jY Z w s l B)(u:∀b∈B,b∈Z)(hi:i<l.length)(G:ii=i)(I:eO Z w ks key)(J:∀w',(∀Z',ow Z w Z'->jY Z' w' s (l.set i key) B)->Fr B w w'->K w'):idx s ii 1 λa=>st a [ks.v] w K:=by obtain⟨pk,E,rfl,C⟩:=h;rw[zK] at hi;refine fB.zi E G (by rw[zK];exact hi) λb O=>?_;subst O;refine fB.DH (e:=gT) (x:=ks) (λ_=>rfl) E (by rw[zK];exact hi) rfl rfl λw' b' f=>J w' (λZ' Q=>DZ (pk':=pk.set i (ks,key)) C (by rw[show jt (pk.set i (ks,key))=(jt pk).set i ks from map_set];exact b') (map_set) f u Q λp C=>?_) f;rcases mem_or_eq_of_mem_set C with h|rfl;exact .inl h;exact .inr I
def jY.Es{ks:Sl}{key:Key}{vb:Nat}{T':Kx}(h:jY Z w s l B)(C:∀b∈B,b∈Z)(G:l.length<=100000)(I:w.heap[vb]?=some (.c #[gT ks] T'))(J:eO Z w ks key)(O:∀u B' w',(∀Z',ow Z w Z'->jY Z' w' u (l++[key]) B')->Fr B w w'->(∀b∈B',b∈B\/w.heap.size<=b)->K u w'): Pt.run dp ((Builtin.append_ #[173,173] 173 #[s.v,.slice (pW vb) 1 1]).run prog w) K:=by obtain⟨pk,Q,rfl,E⟩:=h;rw[zK] at G;refine rW Q (by rw[zK];exact G) I λu B' w' b' f n=>O u B' w' (λZ' R=>DZ (pk':=pk++[(ks,key)]) E (by rw[show jt (pk++[(ks,key)])=jt pk++[ks] by simp];exact b') oM f C R λp E=>?_) f n;rcases zD.1 E with h|h;exact .inl h;rw[zE.1 h];exact .inr J
def jY.wM(h:jY Z w s l B)(E:∀b∈B,b∈Z)(R:l.length+ps.length<=100000)(u:eE iv 1 S w src (jt ps))(G:∀p∈ps,eO Z w p.1 p.2)(U:∀C B' w',(∀Z',ow Z w Z'->jY Z' w' C (l++ik ps) B')->Fr B w w'->(∀b∈B',b∈B\/w.heap.size<=b)->K C w'): Pt.run dp ((Builtin.append_ #[173,173] 173 #[s.v,src.v]).run prog w) K:=by obtain⟨pk,V,rfl,I⟩:=h;rw[zK] at R;obtain⟨aa,J,hz,O,Q⟩:=EE;refine fB.j2 (ys:=jt ps) (e:=96) V zu oL J hz O rfl (wF (e':=96) u zu qxH oL) u.1 (by rw[Q,zK,u.1,zK];omega) (by rw[zK,u.1,zK];omega) λC B' w' b' f n _=>U C B' w' (λZ' hZ=>DZ (pk':=pk++ps) I (by rw[show jt (pk++ps)=jt pk++jt ps by simp];exact b') oM f E hZ λp I=>?_) f n;rcases zD.1 I with h|h;exact .inl h;exact .inr (G p h)
def qAL{l ys:KE}(h:fB jD 1 w s l B)(V:l.length+ys.length<=100000)(C:eE jD 1 S w src ys)(O:∀E B' w',fB jD 1 w' E (l++ys) B'->Fr B w w'->(∀b∈B',b∈B\/w.heap.size<=b)->K E w'): Pt.run dp ((Builtin.append_ #[174,174] 174 #[s.v,src.v]).run prog w) K:=by obtain⟨Q,G,R,I,J⟩:=BF;exact fB.j2 (ys:=ys) (e:=44) h u9 oL G R I rfl (wF (e':=44) C u9 (λx u U=>by rw[zE.1 U];rfl) oL) C.1 (by rw[J,C.1];omega) (by rw[C.1];omega) λE B' w' b' f n _=>O E B' w' b' f n
def qCO{l:KE}{ii x:Int}{K:WP}(h:fB jD 1 w s l B)(hi:i<l.length)(C:ii=i)(E:∀w',fB jD 1 w' s (l.set i x) B->Fr B w w'->K w'):idx s ii 1 λa=>st a [.u x] w K:=by refine fB.zi h C hi λb G=>?_;subst G;exact fB.DH (e:=pH) (x:=x) (λ_=>rfl) h hi rfl rfl E
end
section
variable {Z:KD} {w:Kv} {x:lJ} {n:dW} {B:KD}
def fU.t8(h:fU Z w x n B):∃Bk,jY Z w x.2.1 n.J5 Bk/\(∀b∈Bk,b∈B)/\∀G E Bk' w',Fr Bk w w'->(∀b∈Bk,b∈Z)->(∀b∈Bk',b∈Bk\/w.heap.size<=b)->(∀a∈E,fq a)-> ∃B',(∀b∈B',b∈B\/w.heap.size<=b)/\∀Z',ow Z w Z'->jY Z' w' G E Bk'->fU Z' w' (x.1,G,x.2.2) { n with J5:=E } B':=by
 obtain⟨h0,I,Bk,U,V,rfl,J,hk,hv,hi⟩:=h;obtain⟨n1,n2,O⟩:=yN.1 J;refine⟨Bk,hk,λb u=>by simp[u],λG E Bk' w' f hz nk hl=>⟨Bk'++(U++V),λb u=>?_,λZ' hZ C=>⟨h0,⟨hl,I.2⟩,Bk',U,V,rfl,?_,C,hv.j0 f (λb u Q=>O b Q b (by simp[u]) rfl) (λb u=>.inl (hz b u)) hZ,hi.j0 f λb u Q=>O b Q b (by simp[u]) rfl⟩⟩⟩;rcases zD.1 u with u|u;exact (nk b u).imp (λh=>by simp[h]) id;exact .inl (zI _ u);have R:Bk'.Nodup:=(by obtain⟨_,u,_⟩:=C;exact BN u);refine yN.2 ⟨R,n2,λa ha b u e=>?_⟩;subst e;rcases nk a ha with h1|h1;exact O a h1 a u rfl;rcases zD.1 u with u|u;have:=hv.lt a u;omega;have:=hi.lt a u;omega
def fU.tV(h:fU Z w x n B):∃E,jY Z w x.2.2.1 n.J9 E/\(∀b∈E,b∈B)/\∀R Q C w',Fr E w w'->(∀b∈E,b∈Z)->(∀b∈C,b∈E\/w.heap.size<=b)->(∀a∈Q,fq a)-> ∃B',(∀b∈B',b∈B\/w.heap.size<=b)/\∀Z',ow Z w Z'->jY Z' w' R Q C->fU Z' w' (x.1,x.2.1,R,x.2.2.2) { n with J9:=Q } B':=by
 obtain⟨h0,G,Bk,E,Bi,rfl,U,hk,hv,hi⟩:=h;obtain⟨n1,n2,V⟩:=yN.1 U;obtain⟨m1,m2,m3⟩:=yN.1 n2;refine⟨E,hv,λb u=>by simp[u],λR Q C w' f hz nv hl=>⟨Bk++(C++Bi),λb u=>?_,λZ' hZ I=>⟨h0,⟨G.1,hl,G.2.2⟩,Bk,C,Bi,rfl,?_,hk.j0 f (λb u hm=>V b u b (by simp[hm]) rfl) (λb u=>.inl (hz b u)) hZ,I,hi.j0 f λb u hm=>m3 b hm b u rfl⟩⟩⟩;simp only[zD] at u⊢;rcases u with u|u|u;exact .inl (.inl u);exact (nv b u).imp (λh=>.inr (.inl h)) id;exact .inl (.inr (.inr u));have ac:C.Nodup:=(by obtain⟨_,u,_⟩:=I;exact BN u);refine yN.2 ⟨n1,yN.2 ⟨ac,m2,λa J b u e=>?_⟩,λa J b u e=>?_⟩;subst e;rcases nv a J with O|O;exact m3 a O a u rfl;have:=hi.lt a u;omega;subst e;rcases zD.1 u with u|u;rcases nv a u with O|O;exact V a J a (by simp[O]) rfl;have:=hk.lt a J;omega;exact V a J a (by simp[u]) rfl
def fU.tW(h:fU Z w x n B):∃E,fB jD 1 w x.2.2.2 n.J8 E/\(∀b∈E,b∈B)/\∀R Q C w',Fr E w w'->(∀b∈E,b∈Z)->(∀b∈C,b∈E\/w.heap.size<=b)->(∀a∈Q,iZ a)-> ∃B',(∀b∈B',b∈B\/w.heap.size<=b)/\∀Z',ow Z w Z'->fB jD 1 w' R Q C->fU Z' w' (x.1,x.2.1,x.2.2.1,R) { n with J8:=Q } B':=by
 obtain⟨h0,I,Bk,Bv,E,rfl,U,hk,hv,hi⟩:=h;obtain⟨n1,n2,V⟩:=yN.1 U;obtain⟨m1,m2,m3⟩:=yN.1 n2;refine⟨E,hi,λb u=>by simp[u],λR Q C w' f hz ni hl=>⟨Bk++(Bv++C),λb u=>?_,λZ' hZ J=>⟨h0,⟨I.1,I.2.1,hl⟩,Bk,Bv,C,rfl,?_,hk.j0 f (λb u hm=>V b u b (by simp[hm]) rfl) (λb u=>.inl (hz b u)) hZ,hv.j0 f (λb u hm=>m3 b u b hm rfl) (λb u=>.inl (hz b u)) hZ,J⟩⟩⟩;simp only[zD] at u⊢;rcases u with u|u|u;exact .inl (.inl u);exact .inl (.inr (.inl u));exact (ni b u).imp (λh=>.inr (.inr h)) id;refine yN.2 ⟨n1,yN.2 ⟨m1,BN J,λa G b u e=>?_⟩,λa G b u e=>?_⟩;subst e;rcases ni a u with O|O;exact m3 a G a O rfl;have:=hv.lt a G;omega;subst e;rcases zD.1 u with u|u;exact V a G a (by simp[u]) rfl;rcases ni a u with O|O;exact V a G a (by simp[O]) rfl;have:=hk.lt a G;omega
end
structure Ed (dbk pb:Nat) (FD:KD) (D:dV) (j:Nat) (S0 N0:KD) (w0 wa:Kv) (T Y F:KD) (M:eZ) (x:lJ) (n:dW) (B:KD):Prop where
 sg:Sg S0 w0 wa F T
 tw:TW dbk pb FD D j wa (T++(B++Y)) F M
 node:fU (Zo FD (T++(B++Y)) F) wa x n B
 sep:∀ b∈T,b∉B
 cK:∀ b∈B,b∈N0\/w0.heap.size<=b
 cU:∀ b∈N0,b∈S0
 cN:∀ b∈B,b∉Y
section
variable {dbk pb j:Nat} {FD S0 N0 Y F F' T B B':KD} {D:dV} {w0 wa w w':Kv} {M M':eZ} {L:KK} {x x':lJ} {n n':dW}
def Ed.J0(e:Ed dbk pb FD D j S0 N0 w0 wa T Y F M x n B)(h:ed T wa w L):Ed dbk pb FD D j S0 N0 w0 w (fY L) Y F M x n B where
 sg:=⟨e.sg.fr h,e.sg.new,e.sg.fY h⟩
 tw:=e.tw.J0 h
 node:=e.node.j0 h.fr (λb u C=>e.sep b C u) (λb u=>.inl (by simp[u])) (Gc h)
 sep:=λb u C=>by
  obtain⟨q,G,rfl⟩:=mem_map.1 u;rcases h.own q G with E|E;exact e.sep _ E C;have:=e.node.lt _ C;omega
 cK:=e.cK
 cU:=e.cU
 cN:=e.cN
def Ed.rd(e:Ed dbk pb FD D j S0 N0 w0 wa T Y F M x n B):∀b∈B,b∈Zo FD (T++(B++Y)) F:=λb h=>by simp[h]
def Ed.pC{Bk:KD}(e:Ed dbk pb FD D j S0 N0 w0 w (fY L) Y F M x n B)(h:ed T wa w L)(G:∀b∈Bk,b∈B)(f:Fr Bk w w')(J:fU (Zo FD (fY L++(B'++Y)) F) w' x' n' B')(E:∀b∈B',b∈B\/w.heap.size<=b):Ed dbk pb FD D j S0 N0 w0 w' (fY L) Y F M x' n' B'/\ed (fY L) w' w' L:=by
 refine⟨⟨⟨e.sg.sS.j8 f λb u=>(e.cK b (G b u)).imp (e.cU b) id,e.sg.new,e.sg.own⟩,e.tw.cP (f.mono λb u _=>by simp[G b u]) (λb u=>?_) λb u=>?_,J,λb u I=>?_,λb u=>(E b u).elim (e.cK b) λC=>.inr (zL e.sg.sS.size C),e.cU,λb u O=>?_⟩,tH h f λb u I=>e.sep b u (G b I)⟩;rcases zD.1 u with u|u;exact yE (e.tw.tG b (by simp[u])) f.size;rcases zD.1 u with u|u;exact J.lt b u;exact yE (e.tw.tG b (by simp[u])) f.size;rcases zD.1 u with u|u;exact .inl (by simp[u]);rcases zD.1 u with u|u;exact (E b u).imp (λh=>by simp[h]) id;exact .inl (by simp[u]);rcases E b I with C|C;exact e.sep b u C;have:=e.tw.tG b (by simp[u]);omega;rcases E b u with C|C;exact e.cN b C O;have:=e.tw.tG b (by simp[O]);omega
def Ed.fw(e:Ed dbk pb FD D j S0 N0 w0 w T Y F M x n B)(C:∀b∈B',b∈B\/w.heap.size<=b):ow (Zo FD (T++(B++Y)) F) w (Zo FD (T++(B'++Y)) F):=λb u=>by simp only[Zo,zD,zG] at u⊢;rcases u with (u|u|u|u|u)|u;simp[u];simp[u];simp[u];exact (C b u).imp (λh=>by simp[h]) id;simp[u];simp[u]
def Ed.next(e:Ed dbk pb FD D j S0 N0 w0 w (fY L) Y F M x n B)(h:ed T wa w L)(E:TW dbk pb FD D j w' (fY L++(B++Y)) F' M')(f:Fr F w w')(C:∀b∈F',b∈F\/w.heap.size<=b):Ed dbk pb FD D j S0 N0 w0 w' (fY L) Y F' M' x n B/\ed (fY L) w' w' L:=by have G:∀b∈fY L,b∉F:=λb u=>e.tw.yf b (by simp[u]);refine⟨⟨⟨e.sg.sS.j8 f e.sg.new,λb u=>(C b u).elim (e.sg.new b) λI=>.inr (zL e.sg.sS.size I),e.sg.own⟩,E,e.node.j0 f (λb u=>e.tw.yf b (by simp[u])) (λb u=>.inl (ym u)) (TW.yc C),e.sep,e.cK,e.cU,e.cN⟩,tH h f G⟩
def Ed.cH(e:Ed dbk pb FD D j S0 N0 w0 w (fY L) Y F M x n B)(h:ed T wa w L)(f:Fr [] w w'):Ed dbk pb FD D j S0 N0 w0 w' (fY L) Y F M x n B/\ed (fY L) w' w' L:=
 e.next h (e.tw.q8 f) (f.mono λ_ h=>nomatch h) λb u=>.inl u
def Ed.cD(e:Ed dbk pb FD D j S0 N0 w0 w T Y F M x n B):eY (Zo FD (T++Y) F) w x n:=
 e.node.rd (λb h u=>by
  simp only[Zo,zD,zG] at u;have C:=e.tw.sep b (by simp[h]);rcases u with (u|u|u|u)|u;exact C.1 u;exact C.2 u;exact e.sep b u h;exact e.cN b h u;exact e.tw.yf b (by simp[h]) u) λb h=>.inl (by
  simp only[Zo,zD,zG] at h⊢;rcases h with (h|h|h|h)|h<;>simp[h])
def Ed.tI(e:Ed dbk pb FD D j S0 N0 w0 w T Y F M x n B):TW dbk pb FD D j w (T++Y) F M:=e.tw.y5 λb u=>(zD.1 u).elim (λh=>by simp[h]) λh=>by simp[h]
end
end
section
section
variable {dbk pb j:Nat} {FD S0 N0 Y F F' F0 T T1 B B' Bk Bk':KD} {D:dV} {w0 wa w w':Kv} {M M':eZ} {L:KK} {x x':lJ} {n n':dW} {i q:Nat} {ii jj:Int} {ks:Sl} {key:Key} {vb:Nat} {T':Kx}
structure oS (FD Y F B B':KD) (T:KD) (w w':Kv):Prop where
 cX:∀ s l,eO (Zo FD (T++(B++Y)) F) w s l->eO (Zo FD (T++(B'++Y)) F) w' s l
 node:∀ x n,eY (Zo FD (T++(B++Y)) F) w x n->eY (Zo FD (T++(B'++Y)) F) w' x n
def Ed.kN(e:Ed dbk pb FD D j S0 N0 w0 w T Y F M x n B)(C:∀b∈Bk,b∈B)(f:Fr Bk w w')(E:∀b∈B',b∈B\/w.heap.size<=b):oS FD Y F B B' T w w':=⟨λs l h=>h.j0 (f.mono λb u _=>by simp[C b u]) (e.fw E),λx n h=>h.j0 (f.mono λb u _=>by simp[C b u]) (e.fw E)⟩
def Ed.cX(e:Ed dbk pb FD D j F0 N0 w0 w T Y F M x n B)(C:eO (Zo FD Y F0) w0 s l):eO (Zo FD (T++(B++Y)) F) w s l:=
 C.j0 (e.sg.sS.mono λb u _=>ym u) λb u=>by rcases zD.1 u with u|u;rcases zD.1 u with u|u;exact .inl (by simp[u]);rcases zG.1 u with u|u;exact .inl (by simp[u]);rcases zD.1 u with u|u;exact (e.sg.own b u).imp (λh=>ym h) id;rcases zD.1 u with u|u;exact (e.cK b u).imp (λh=>ym (e.cU b h)) id;exact .inl (by simp[u]);exact (e.sg.new b u).imp (λh=>ym h) id
def Ed.sub(e:Ed dbk pb FD D j S0 N0 w0 w T Y F M x n B)(C:∀b∈T1,b∈T):Ed dbk pb FD D j S0 N0 w0 w T1 Y F M x n B where
 sg:=⟨e.sg.sS,e.sg.new,λb u=>e.sg.own b (C b u)⟩
 tw:=e.tw.y5 λb u=>(zD.1 u).elim (λh=>zH _ (C b h)) λh=>zI _ h
 node:=e.node.j6 λb u=>.inl (by simp only[Zo,zD,zG] at u⊢;rcases u with (u|u|u|u)|u;simp[u];simp[u];simp[C b u];simp[u];simp[u])
 sep:=λb u=>e.sep b (C b u)
 cK:=e.cK
 cU:=e.cU
 cN:=e.cN
def I3{L:KK}{q vb:Nat}{o:Obj}(h:L[q]?=some (vb,o)):vb∈fY L:=mem_map.2 ⟨_,yG h,rfl⟩
def Ed.cR(e:Ed dbk pb FD D j S0 N0 w0 w (fY L) Y F M x n B)(h:ed T wa w L)(hi:i<=n.J5.length)(O:ii=i)(Q:n.J5.length<=100000)(q:Nat)(J:L[q]?=some (vb,.c #[gT ks] T'))(R:eO (Zo FD (fY L++(B++Y)) F) w ks key)(U:fq key)(V:∀C B' w',Ed dbk pb FD D j S0 N0 w0 w' (fY L) Y F M (x.1,C,x.2.2) { n with J5:=gy n.J5 i key } B'->ed (fY L) w' w' L->oS FD Y F B B' (fY L) w w'->K C w'): cW 187 [x.2.1.v,.i ii,.slice (pW vb) 1 1] dp w K:=by obtain⟨Bk,E,u,I⟩:=e.node.t8;refine E.ins (λb E=>e.rd b (u b E)) hi O Q (h.at J) (λhm=>e.sep vb (I3 J) (u vb hm)) R λC Bk' w' hz f nk=>?_;obtain⟨B',G,hN⟩:=I C _ Bk' w' f (λb E=>e.rd b (u b E)) nk λa ha=>(EP ha).elim (λh=>by rw[h];exact U) (e.node.2.1.1 a);obtain⟨e',h'⟩:=e.pC h u f (hN _ (e.fw G) (hz _ (e.fw G))) G;exact V C B' w' e' h' (e.kN u f G)
def Ed.vg(e:Ed dbk pb FD D j S0 N0 w0 w (fY L) Y F M x n B)(h:ed T wa w L)(hi:i<=n.J9.length)(O:ii=i)(Q:n.J9.length<=100000)(q:Nat)(J:L[q]?=some (vb,.c #[gT ks] T'))(R:eO (Zo FD (fY L++(B++Y)) F) w ks key)(U:fq key)(V:∀C B' w',Ed dbk pb FD D j S0 N0 w0 w' (fY L) Y F M (x.1,x.2.1,C,x.2.2.2) { n with J9:=gy n.J9 i key } B'->ed (fY L) w' w' L->oS FD Y F B B' (fY L) w w'->K C w'): cW 187 [x.2.2.1.v,.i ii,.slice (pW vb) 1 1] dp w K:=by obtain⟨Bk,E,u,I⟩:=e.node.tV;refine E.ins (λb E=>e.rd b (u b E)) hi O Q (h.at J) (λhm=>e.sep vb (I3 J) (u vb hm)) R λC Bk' w' hz f nk=>?_;obtain⟨B',G,hN⟩:=I C _ Bk' w' f (λb E=>e.rd b (u b E)) nk λa ha=>(EP ha).elim (λh=>by rw[h];exact U) (e.node.2.1.2.1 a);obtain⟨e',h'⟩:=e.pC h u f (hN _ (e.fw G) (hz _ (e.fw G))) G;exact V C B' w' e' h' (e.kN u f G)
def Ed.vc{G:Int}(e:Ed dbk pb FD D j S0 N0 w0 w (fY L) Y F M x n B)(h:ed T wa w L)(hi:i<=n.J8.length)(R:ii=i)(U:n.J8.length<=100000)(q:Nat)(Q:L[q]?=some (vb,.c #[.u G] T'))(V:iZ G)(kk:∀E B' w',Ed dbk pb FD D j S0 N0 w0 w' (fY L) Y F M (x.1,x.2.1,x.2.2.1,E) { n with J8:=gy n.J8 i G } B'->ed (fY L) w' w' L->oS FD Y F B B' (fY L) w w'->K E w'): cW 189 [x.2.2.2.v,.i ii,.slice (pW vb) 1 1] dp w K:=by obtain⟨Bk,I,C,J⟩:=e.node.tW;refine qvH I hi R U (h.at Q) (λhm=>e.sep vb (I3 Q) (C vb hm)) λE Bk' w' hz f nk=>?_;obtain⟨B',O,hN⟩:=J E _ Bk' w' f (λb I=>e.rd b (C b I)) nk λa ha=>(EP ha).elim (λh=>by rw[h];exact V) (e.node.2.1.2.2 a);obtain⟨e',h'⟩:=e.pC h C f (hN _ (e.fw O) hz) O;exact kk E B' w' e' h' (e.kN C f O)
def Ed.Dt(e:Ed dbk pb FD D j S0 N0 w0 w (fY L) Y F M x n B)(h:ed T wa w L)(hi:i<n.J5.length)(J:ii=i)(O:jj=((i+1:Nat):Int))(Q:n.J5.length<=100000)(R:∀E B' w',Ed dbk pb FD D j S0 N0 w0 w' (fY L) Y F M (x.1,E,x.2.2) { n with J5:=iX n.J5 i } B'->ed (fY L) w' w' L->oS FD Y F B B' (fY L) w w'->K E w'): cW 222 [x.2.1.v,.i ii,.i jj] dp w K:=by obtain⟨Bk,C,u,I⟩:=e.node.t8;refine C.del (λb C=>e.rd b (u b C)) hi J O Q λE w' U f=>?_;obtain⟨B',G,V⟩:=I E _ Bk w' f (λb C=>e.rd b (u b C)) (λb C=>.inl C) λa ha=>e.node.2.1.1 a (FP ha);obtain⟨e',h'⟩:=e.pC h u f (V _ (e.fw G) (U _ (e.fw G))) G;exact R E B' w' e' h' (e.kN u f G)
def Ed.Hd(e:Ed dbk pb FD D j S0 N0 w0 w (fY L) Y F M x n B)(h:ed T wa w L)(hi:i<n.J9.length)(J:ii=i)(O:jj=((i+1:Nat):Int))(Q:n.J9.length<=100000)(R:∀E B' w',Ed dbk pb FD D j S0 N0 w0 w' (fY L) Y F M (x.1,x.2.1,E,x.2.2.2) { n with J9:=iX n.J9 i } B'->ed (fY L) w' w' L->oS FD Y F B B' (fY L) w w'->K E w'): cW 222 [x.2.2.1.v,.i ii,.i jj] dp w K:=by obtain⟨Bk,C,u,I⟩:=e.node.tV;refine C.del (λb C=>e.rd b (u b C)) hi J O Q λE w' U f=>?_;obtain⟨B',G,V⟩:=I E _ Bk w' f (λb C=>e.rd b (u b C)) (λb C=>.inl C) λa ha=>e.node.2.1.2.1 a (FP ha);obtain⟨e',h'⟩:=e.pC h u f (V _ (e.fw G) (U _ (e.fw G))) G;exact R E B' w' e' h' (e.kN u f G)
def Ed.Jf(e:Ed dbk pb FD D j S0 N0 w0 w (fY L) Y F M x n B)(h:ed T wa w L)(hi:i<n.J8.length)(J:ii=i)(O:jj=((i+1:Nat):Int))(Q:n.J8.length<=100000)(R:∀C B' w',Ed dbk pb FD D j S0 N0 w0 w' (fY L) Y F M (x.1,x.2.1,x.2.2.1,C) { n with J8:=iX n.J8 i } B'->ed (fY L) w' w' L->oS FD Y F B B' (fY L) w w'->K C w'): cW 257 [x.2.2.2.v,.i ii,.i jj] dp w K:=by obtain⟨Bk,E,u,G⟩:=e.node.tW;refine qvE E hi J O Q λC w' U f=>?_;obtain⟨B',I,V⟩:=G C _ Bk w' f (λb E=>e.rd b (u b E)) (λb E=>.inl E) λa ha=>e.node.2.1.2.2 a (FP ha);obtain⟨e',h'⟩:=e.pC h u f (V _ (e.fw I) U) I;exact R C B' w' e' h' (e.kN u f I)
def Ed.C7{K:WP}(e:Ed dbk pb FD D j S0 N0 w0 w (fY L) Y F M x n B)(h:ed T wa w L)(hi:i<n.J5.length)(I:ii=i)(J:eO (Zo FD (fY L++(B++Y)) F) w ks key)(O:fq key)(Q:∀B' w',Ed dbk pb FD D j S0 N0 w0 w' (fY L) Y F M (x.1,x.2.1,x.2.2) { n with J5:=n.J5.set i key } B'->ed (fY L) w' w' L->oS FD Y F B B' (fY L) w w'->K w'): idx x.2.1 ii 1 λa=>st a [ks.v] w K:=by
 obtain⟨Bk,C,u,G⟩:=e.node.t8;refine C.set (λb C=>e.rd b (u b C)) hi I J λw' R f=>?_;obtain⟨B',E,U⟩:=G x.2.1 _ Bk w' f (λb C=>e.rd b (u b C)) (λb C=>.inl C) λa V=>(mem_or_eq_of_mem_set V).elim (e.node.2.1.1 a) λh=>by rw[h];exact O
 obtain⟨e',h'⟩:=e.pC h u f (U _ (e.fw E) (R _ (e.fw E))) E;exact Q B' w' e' h' (e.kN u f E)
def Ed.H5{K:WP}(e:Ed dbk pb FD D j S0 N0 w0 w (fY L) Y F M x n B)(h:ed T wa w L)(hi:i<n.J9.length)(I:ii=i)(J:eO (Zo FD (fY L++(B++Y)) F) w ks key)(O:fq key)(Q:∀B' w',Ed dbk pb FD D j S0 N0 w0 w' (fY L) Y F M (x.1,x.2.1,x.2.2.1,x.2.2.2) { n with J9:=n.J9.set i key } B'->ed (fY L) w' w' L->oS FD Y F B B' (fY L) w w'->K w'): idx x.2.2.1 ii 1 λa=>st a [ks.v] w K:=by
 obtain⟨Bk,C,u,G⟩:=e.node.tV;refine C.set (λb C=>e.rd b (u b C)) hi I J λw' R f=>?_;obtain⟨B',E,U⟩:=G x.2.2.1 _ Bk w' f (λb C=>e.rd b (u b C)) (λb C=>.inl C) λa V=>(mem_or_eq_of_mem_set V).elim (e.node.2.1.2.1 a) λh=>by rw[h];exact O
 obtain⟨e',h'⟩:=e.pC h u f (U _ (e.fw E) (R _ (e.fw E))) E;exact Q B' w' e' h' (e.kN u f E)
def Ed.qa{G:Int}{K:WP}(e:Ed dbk pb FD D j S0 N0 w0 w (fY L) Y F M x n B)(h:ed T wa w L)(hi:i<n.J8.length)(O:ii=i)(Q:iZ G)(R:∀B' w',Ed dbk pb FD D j S0 N0 w0 w' (fY L) Y F M (x.1,x.2.1,x.2.2.1,x.2.2.2) { n with J8:=n.J8.set i G } B'->ed (fY L) w' w' L->oS FD Y F B B' (fY L) w w'->K w'): idx x.2.2.2 ii 1 λa=>st a [.u G] w K:=by
 obtain⟨Bk,E,C,I⟩:=e.node.tW;refine qCO E hi O λw' U f=>?_;obtain⟨B',J,V⟩:=I x.2.2.2 _ Bk w' f (λb E=>e.rd b (C b E)) (λb E=>.inl E) λa ha=>(mem_or_eq_of_mem_set ha).elim (e.node.2.1.2.2 a) λh=>by rw[h];exact Q
 obtain⟨e',h'⟩:=e.pC h C f (V _ (e.fw J) U) J;exact R B' w' e' h' (e.kN C f J)
def Ed.rW(e:Ed dbk pb FD D j S0 N0 w0 w (fY L) Y F M x n B)(h:ed T wa w L)(J:n.J5.length<=100000)(q:Nat)(O:L[q]?=some (vb,.c #[gT ks] T'))(Q:eO (Zo FD (fY L++(B++Y)) F) w ks key)(R:fq key)(U:∀C B' w',Ed dbk pb FD D j S0 N0 w0 w' (fY L) Y F M (x.1,C,x.2.2) { n with J5:=n.J5++[key] } B'->ed (fY L) w' w' L->oS FD Y F B B' (fY L) w w'->K C w'): Pt.run dp ((Builtin.append_ #[173,173] 173 #[x.2.1.v,.slice (pW vb) 1 1]).run prog w) K:=by
 obtain⟨Bk,E,u,I⟩:=e.node.t8;refine E.Es (λb E=>e.rd b (u b E)) J (h.at O) Q λC Bk' w' V f nk=>?_;obtain⟨B',G,hN⟩:=I C _ Bk' w' f (λb E=>e.rd b (u b E)) nk λa ha=>(zD.1 ha).elim (e.node.2.1.1 a) λh=>by rw[zE.1 h];exact R
 obtain⟨e',h'⟩:=e.pC h u f (hN _ (e.fw G) (V _ (e.fw G))) G;exact U C B' w' e' h' (e.kN u f G)
def Ed.A5(e:Ed dbk pb FD D j S0 N0 w0 w (fY L) Y F M x n B)(h:ed T wa w L)(J:n.J9.length<=100000)(q:Nat)(O:L[q]?=some (vb,.c #[gT ks] T'))(Q:eO (Zo FD (fY L++(B++Y)) F) w ks key)(R:fq key)(U:∀C B' w',Ed dbk pb FD D j S0 N0 w0 w' (fY L) Y F M (x.1,x.2.1,C,x.2.2.2) { n with J9:=n.J9++[key] } B'->ed (fY L) w' w' L->oS FD Y F B B' (fY L) w w'->K C w'): Pt.run dp ((Builtin.append_ #[173,173] 173 #[x.2.2.1.v,.slice (pW vb) 1 1]).run prog w) K:=by
 obtain⟨Bk,E,u,I⟩:=e.node.tV;refine E.Es (λb E=>e.rd b (u b E)) J (h.at O) Q λC Bk' w' V f nk=>?_;obtain⟨B',G,hN⟩:=I C _ Bk' w' f (λb E=>e.rd b (u b E)) nk λa ha=>(zD.1 ha).elim (e.node.2.1.2.1 a) λh=>by rw[zE.1 h];exact R
 obtain⟨e',h'⟩:=e.pC h u f (hN _ (e.fw G) (V _ (e.fw G))) G;exact U C B' w' e' h' (e.kN u f G)
def Ed.AK{G:Int}(e:Ed dbk pb FD D j S0 N0 w0 w (fY L) Y F M x n B)(h:ed T wa w L)(Q:n.J8.length<=100000)(q:Nat)(R:L[q]?=some (vb,.c #[.u G] T'))(U:iZ G)(V:∀E B' w',Ed dbk pb FD D j S0 N0 w0 w' (fY L) Y F M (x.1,x.2.1,x.2.2.1,E) { n with J8:=n.J8++[G] } B'->ed (fY L) w' w' L->oS FD Y F B B' (fY L) w w'->K E w'): Pt.run dp ((Builtin.append_ #[174,174] 174 #[x.2.2.2.v,.slice (pW vb) 1 1]).run prog w) K:=by
 obtain⟨Bk,I,C,J⟩:=e.node.tW;refine quV I Q (h.at R) λE Bk' w' hz f nk=>?_;obtain⟨B',O,hN⟩:=J E _ Bk' w' f (λb I=>e.rd b (C b I)) nk λa ha=>(zD.1 ha).elim (e.node.2.1.2.2 a) λh=>by rw[zE.1 h];exact U
 obtain⟨e',h'⟩:=e.pC h C f (hN _ (e.fw O) hz) O;exact V E B' w' e' h' (e.kN C f O)
def Ed.ze(e:Ed dbk pb FD D j S0 N0 w0 w (fY L) Y F M x n B)(h:ed T wa w L)(O:n.J5.length+ps.length<=100000)(Q:eE iv 1 S w src (jt ps))(I:∀p∈ps,eO (Zo FD (fY L++(B++Y)) F) w p.1 p.2)(R:∀a∈ik ps,fq a)(U:∀C B' w',Ed dbk pb FD D j S0 N0 w0 w' (fY L) Y F M (x.1,C,x.2.2) { n with J5:=n.J5++ik ps } B'->ed (fY L) w' w' L->oS FD Y F B B' (fY L) w w'->K C w'): Pt.run dp ((Builtin.append_ #[173,173] 173 #[x.2.1.v,src.v]).run prog w) K:=by obtain⟨Bk,E,u,J⟩:=e.node.t8;refine E.wM (λb E=>e.rd b (u b E)) O Q I λC Bk' w' V f nk=>?_;obtain⟨B',G,hN⟩:=J C _ Bk' w' f (λb E=>e.rd b (u b E)) nk λa ha=>(zD.1 ha).elim (e.node.2.1.1 a) (R a);obtain⟨e',h'⟩:=e.pC h u f (hN _ (e.fw G) (V _ (e.fw G))) G;exact U C B' w' e' h' (e.kN u f G)
def Ed.xu(e:Ed dbk pb FD D j S0 N0 w0 w (fY L) Y F M x n B)(h:ed T wa w L)(O:n.J9.length+ps.length<=100000)(Q:eE iv 1 S w src (jt ps))(I:∀p∈ps,eO (Zo FD (fY L++(B++Y)) F) w p.1 p.2)(R:∀a∈ik ps,fq a)(U:∀C B' w',Ed dbk pb FD D j S0 N0 w0 w' (fY L) Y F M (x.1,x.2.1,C,x.2.2.2) { n with J9:=n.J9++ik ps } B'->ed (fY L) w' w' L->oS FD Y F B B' (fY L) w w'->K C w'): Pt.run dp ((Builtin.append_ #[173,173] 173 #[x.2.2.1.v,src.v]).run prog w) K:=by obtain⟨Bk,E,u,J⟩:=e.node.tV;refine E.wM (λb E=>e.rd b (u b E)) O Q I λC Bk' w' V f nk=>?_;obtain⟨B',G,hN⟩:=J C _ Bk' w' f (λb E=>e.rd b (u b E)) nk λa ha=>(zD.1 ha).elim (e.node.2.1.2.1 a) (R a);obtain⟨e',h'⟩:=e.pC h u f (hN _ (e.fw G) (V _ (e.fw G))) G;exact U C B' w' e' h' (e.kN u f G)
def Ed.yh{ys:KE}(e:Ed dbk pb FD D j S0 N0 w0 w (fY L) Y F M x n B)(h:ed T wa w L)(J:n.J8.length+ys.length<=100000)(O:eE jD 1 S w src ys)(Q:∀y∈ys,iZ y)(R:∀C B' w',Ed dbk pb FD D j S0 N0 w0 w' (fY L) Y F M (x.1,x.2.1,x.2.2.1,C) { n with J8:=n.J8++ys } B'->ed (fY L) w' w' L->oS FD Y F B B' (fY L) w w'->K C w'): Pt.run dp ((Builtin.append_ #[174,174] 174 #[x.2.2.2.v,src.v]).run prog w) K:=by obtain⟨Bk,E,u,G⟩:=e.node.tW;refine qAL E J O λC Bk' w' U f V=>?_;obtain⟨B',I,hN⟩:=G C _ Bk' w' f (λb E=>e.rd b (u b E)) V λa ha=>(zD.1 ha).elim (e.node.2.1.2.2 a) (Q a);obtain⟨e',h'⟩:=e.pC h u f (hN _ (e.fw I) U) I;exact R C B' w' e' h' (e.kN u f I)
end
end
section
def Do{D:dV}{M:eZ}(h:dU D M k v p=(n,0)):gx n k v:=by
 unfold dU at h;split at h;rename_i u;exact absurd (Kr (·.2) h) u;have:=qtv (kind:=(dS D M p).1) (b:=(dS D M p).2.1) (k:=k) (v:=v) (by rw[h]);rw[h] at this;exact this
def yi(h:gx n k v):n.J5.length<=498/\n.J9.length<=498/\n.J8.length<=498/\(n.Q3=true->n.J9.length=n.J5.length/\n.J5.length<=(eG k v).1)/\(n.Q3=false->n.J5.length+1=n.J8.length/\n.J8.length<=(eG k v).2/\2<=n.J8.length):=by
 have O:=Ev (k:=k) (v:=v);obtain⟨_,_,_,u⟩:=h;cases I:n.Q3 with
 | true=>
  rw[I,iP rfl] at u;obtain⟨C,J,E,G⟩:=u;rw[C];exact⟨oK,oK,oM,λ_=>⟨G,E⟩,λh=>nomatch h⟩
 | false=>
  rw[I,iN oN] at u;obtain⟨_,C,J,E,G⟩:=u;rw[C];exact⟨oK,oM,oK,λh=>(nomatch h),λ_=>⟨G,E,J⟩⟩
section
variable {D:dV} {M M1:eZ} {k v f:Nat} {key val:Key} {p e0 e1:Int} {n:dW} {g:Grown}
def qzY(h:dU D M k v p=(n,e0))(u:e0≠0):jc D k v key val (f+1) M p=((qI,e0),M):=by unfold jc;rw[h,iP u]
def qzZ(h:dU D M k v p=(n,0))(u:n.Q3=true)(C:n.J5[dY n.J5 key]?=some key):jc D k v key val (f+1) M p=gY k v M p { n with J9:=n.J9.set (dY n.J5 key) val } false:=by unfold jc;rw[h,iN λh=>h rfl,iP u,iP C]
def qym(h:dU D M k v p=(n,0))(u:n.Q3=true)(C:¬n.J5[dY n.J5 key]?=some key):jc D k v key val (f+1) M p=gY k v M p { n with J5:=gy n.J5 (dY n.J5 key) key,J9:=gy n.J9 (dY n.J5 key) val } true:=by unfold jc;rw[h,iN λh=>h rfl,iP u,iN C]
def qrs(h:dU D M k v p=(n,0))(u:¬n.Q3=true)(C:jc D k v key val f M (n.J8.getD (eT n.J5 key) 0)=((g,e1),M1))(E:e1≠0):jc D k v key val (f+1) M p=((qI,e1),M1):=by unfold jc;rw[h,iN λh=>h rfl,iN u];dsimp only;rw[C,iP E]
def qyn(h:dU D M k v p=(n,0))(u:¬n.Q3=true)(C:jc D k v key val f M (n.J8.getD (eT n.J5 key) 0)=((g,0),M1))(E:g.x4=n.J8.getD (eT n.J5 key) 0/\g.Q9=0):jc D k v key val (f+1) M p=((⟨p,g.J7,[],0⟩,0),M1):=by unfold jc;rw[h,iN λh=>h rfl,iN u];dsimp only;rw[C,iN λh=>h rfl,iP E]
def qBr(h:dU D M k v p=(n,0))(u:¬n.Q3=true)(C:jc D k v key val f M (n.J8.getD (eT n.J5 key) 0)=((g,0),M1))(E:¬(g.x4=n.J8.getD (eT n.J5 key) 0/\g.Q9=0)):jc D k v key val (f+1) M p=gY k v M1 p (iC n (eT n.J5 key) g) g.J7:=by unfold jc;rw[h,iN λh=>h rfl,iN u];dsimp only;rw[C,iN λh=>h rfl,iN E]
end
def qzL(u:n.Q3=true)(C:n.J9.length=n.J5.length):(fI n k v).1>(fI n k v).2->qL n ((fI n k v).1 / 2):=λh=>by unfold qL;have e:(fI n k v).1=n.J5.length:=(by unfold fI;rw[iP u]);rw[iP u,C];rw[e] at h⊢;omega
def qyd(u:¬n.Q3=true)(C:n.J5.length+1=n.J8.length)(E:2<=n.J8.length):(fI n k v).1>(fI n k v).2->qL n ((fI n k v).1 / 2):=λh=>by unfold qL;have e:(fI n k v).1=n.J8.length:=(by unfold fI;rw[iN u]);rw[iN u];rw[e] at h⊢;omega
def C9{α:Type}{l:List α}{x:α}(h:i<=l.length):(gy l i x).length=l.length+1:=by unfold gy;simp;omega
def eE.cS{l:KE}{i:Int}{K:Addr->Int->Prop}(h:eE jD 1 S w s l)(n:Nat)(hi:i=n)(O:n<l.length)(Q:∀a,(∀S' w',eE jD 1 S' w' s l->w'.cell? a=some (.u l[n]))->K a l[n]):idx s i 1 λa=>ld .u a w λy=>K a y:=by
 subst hi;have I:l[n]?=some l[n]:=zA O;obtain⟨hl,b,o,J,_,cs,T,fr,hb,hc⟩:=h.at n I;refine sM J ⟨oK,oK⟩ ?_;rw[zJ];have key:∀S' w',eE jD 1 S' w' s l->w'.cell? ⟨b,o+n*1,none⟩=some (.u l[n]):=λS' w' R=>by
  obtain⟨_,b',o',C,_,U,T',V,E,G⟩:=R.at n I;rw[J] at C;cases C;rw[kD E]
  have:=Kr (·[0]?) G;simpa[jD] using this
 exact qj l[n] (key S w h) (Q _ key)
section
variable {dbk pb j:Nat} {FD S0 N0 Y F F' F0 T B:KD} {D:dV} {w0 wa w w':Kv} {M M':eZ} {L:KK} {x:lJ} {n:dW} {k v:Nat} {t:Int}
def Ed.load{w7:Kv}(C:∀b∈N0,b∈S0)(g:Sg S0 w0 wa F T)(h:ed T wa w L)(G:TW dbk pb FD D j w7 (B++(fY L++Y)) F M)(I:fU (Zo FD (B++(fY L++Y)) F) w7 x n B)(f:Fr [] w w7)(E:∀c∈B,w.heap.size<=c)(J:∀b∈Y,b<w.heap.size): Ed dbk pb FD D j S0 N0 w0 w7 (fY L) Y F M x n B/\ed (fY L) w7 w7 L:=by
 refine⟨⟨g.cH h f,G.y5 λb u=>?_,I.j6 λb u=>.inl ?_,λb u O=>?_,λb u=>.inr (zL (g.fr h).size (E b u)),C,λb u Q=>?_⟩,tH h f λ_ _ h=>nomatch h⟩;simp only[zD] at u⊢;rcases u with u|u|u<;>simp[u];simp only[Zo,zD,zG] at u⊢;rcases u with (u|u|u|u|u)|u<;>simp[u];have:=AJ h b u;have:=E b O;omega;have:=J b Q;have:=E b u;omega
def Ed.y9(e:Ed dbk pb FD D j S0 N0 w0 w T Y F M x n B):eE jD 1 (Zo FD (T++Y) F) w x.2.2.2 n.J8:=e.cD.2.2.2.2
def Ed.fr(e:Ed dbk pb FD D j S0 N0 w0 w T Y F M x n B):Fr S0 w0 w:=e.sg.sS
def nf{L':KK}(h:ed T wa w L)(u:L'.Sublist L):ed (fY L') w w L':=(h.sub u).mQ
def Il{ks vs:Sl}{key val:Key}(ad:fq key)(ag:fq val):∀(f:Nat) {Y F:KD} {w0:Kv} {M:eZ} {p:Int} {K:FA×Int->WP} (hT:TW dbk pb FD D j w0 Y F M) (hp:iZ p) (hk:eO (Zo FD Y F) w0 ks key) (hv:eO (Zo FD Y F) w0 vs val) (ak:(jc D k v key val f M p).1.2≠-1) (kk:∀gs F' w',Jr (jc D k v key val f M p).1.1->TW dbk pb FD D j w' Y F' (jc D k v key val f M p).2->eO (Zo FD Y F') w' gs (jc D k v key val f M p).1.1.key->Fr F w0 w'->(∀b∈F',b∈F\/w0.heap.size<=b)->K (vN (jc D k v key val f M p).1.1 gs,(jc D k v key val f M p).1.2) w'), cW 156 [.agg (qe (lg k v pb t)),.u p,ks.v,vs.v] [.agg sq,.one .i] w0 K
 | 0,_,_,_,_,_,_,_,_,_,_,ak,_=>absurd rfl ak
 | f+1,Y,F,w0,M,p,K,hT,hp,hk,hv,ak,kk=>by
  refine qoj ?_;unfold Fs IK FH;have h:=oF [] w0;have g:=Sg.start F w0;refine oB h λr1 w2 _ _ h=>oB h λr3 w4 _ _ h=>KC h 1 rfl (lg k v pb t) ?_;rcases O:dU D M k v p with ⟨n,e0⟩;refine Dp (k:=k) (v:=v) (hT.cI h) hp λx B w7 bb aH f7 bc=>?_;rw[O] at aH⊢;dsimp only at aH;obtain⟨e,h⟩:=Ed.load (N0:=[]) (λ_ h=>nomatch h) g h bb aH f7 bc λb hb=>yE (hT.tG b hb) h.fr.size;refine oB h λr8 w9 _ _ h=>oE h 0 rfl (fE x) λbP h _=>eV (λU=>?_) λU=>?_;have aR:e0≠0:=by rw[zT] at U;exact zR.1 U
  rw[qzY O aR] at kk;exact oE h 1 rfl (sd (0,false,dR,0)) λbd h _=>KC h 1 rfl (0,false,dR,0)<|kk dR F bd GL (e.J0 h).tI.j7 (.nil _ _ _ _) (e.J0 h).fr (e.J0 h).sg.new;have bf:e0=0:=by rw[yF] at U;exact yQ.1 U
  subst bf;have hr:=Do O;obtain⟨l1,l2,l3,l4,l5⟩:=yi hr;have e:=e.J0 h;have h:=nf h (.refl _);have aT:x.1=n.Q3:=e.node.1;refine KA h 0 rfl x.1<|eV (λU=>?_) λU=>?_;rw[aT] at U;obtain⟨l6,l7⟩:=l4 U;refine KC h 0 rfl x<|Gu e.cD (e.cX hk) ad hr.2.2.1 oK λbT bi=>?_;obtain⟨e,h⟩:=e.cH h bi;have am:=G0 n.J5 key;refine jf (λ_ w'=>∃x' n' B',ed [r8,r3,r1] w' w' [(r8,.c (fE x') ND),(r3,.c (sd (0,false,dR,0)) GR),(r1,.c (qe (lg k v pb t)) WK)]/\Ed dbk pb FD D j F [] w0 w' [r8,r3,r1] Y F M x' n' B'/\
   jc D k v key val (f+1) M p=gY k v M p n' (!decide (n.J5[dY n.J5 key]?=some key))/\n'.Q3=true/\n'.J9.length=n'.J5.length/\n'.J5.length<=1000/\n'.J8.length<=1000) ?_ ?_
  refine eV (λQ=>?_) λQ=>?_;have aJ:=zC Q;have bU:=(zP.1 aJ).1;refine KA h 0 rfl x.2.2.1<|e.H5 h (i:=dY n.J5 key) oK rfl (e.cX hv) ag λB' bV e h _=>⟨x,_,B',h,e,?_,U,by dsimp only;rw[xI];exact l6,by dsimp only;omega,by dsimp only;omega⟩;rw[qzZ O U aJ,yA aJ];rfl;have ay:=zB Q;have I:jc D k v key val (f+1) M p=gY k v M p { n with J5:=gy n.J5 (dY n.J5 key) key,J9:=gy n.J9 (dY n.J5 key) val } (!decide (n.J5[dY n.J5 key]?=some key)):=by rw[qym O U ay,zU ay];rfl
  have an:(gy n.J9 (dY n.J5 key) val).length=(gy n.J5 (dY n.J5 key) key).length:=(by rw[C9 oK,C9 am,l6]);have ao:(gy n.J5 (dY n.J5 key) key).length<=1000:=(by rw[C9 am];omega);refine⟨?_,?_,?_⟩;have h:=oG h;refine KA h 0 rfl x.2.1<|KA h 0 rfl x.2.2.1<|oB h λbW bX _ _ h=>kH (h.cell 1) (h.cell 1) ?_;have e:=e.J0 h;refine e.cR h (i:=dY n.J5 key) am rfl oK 0 rfl (e.cX hk) ad λV B1 aU e h _=>ja (h.cell 1)<|oB h λbY bZ _ _ h=>kH (h.cell 2) (h.cell 2) ?_;have e:=e.J0 h;exact e.vg h (i:=dY n.J5 key) oO rfl oO 0 rfl (e.cX hv) ag λap B2 aV e h _=>oE h 2 rfl (fE (x.1,V,x.2.2.1,x.2.2.2)) λaW h _=>oE h 2 rfl (fE (x.1,V,ap,x.2.2.2)) λaX h _=>⟨_,_,B2,nf h (.cons _ (.cons _ (.refl _))),(e.J0 h).sub oM,I,U,an,ao,by dsimp only;omega⟩;have h:=oG h;refine KA h 0 rfl x.2.1<|KA h 0 rfl x.2.2.1<|oB h λb0 b1 _ _ h=>kH (h.cell 1) (h.cell 1)<|oB h λb2 b3 _ _ h=>kH (h.cell 2) (h.cell 2) ?_;have e:=e.J0 h;exact e.cR h (i:=dY n.J5 key) am rfl oK 1 rfl (e.cX hk) ad λV B1 aU e h _=>ja (h.cell 2)<|e.vg h (i:=dY n.J5 key) oO rfl oO 0 rfl (e.cX hv) ag λap B2 aV e h _=>oE h 2 rfl (fE (x.1,V,x.2.2.1,x.2.2.2)) λaW h _=>oE h 2 rfl (fE (x.1,V,ap,x.2.2.2)) λaX h _=>⟨_,_,B2,nf h (.cons _ (.cons _ (.refl _))),(e.J0 h).sub oM,I,U,an,ao,by dsimp only;omega⟩;have h:=oG h;refine KA h 0 rfl x.2.1<|KA h 0 rfl x.2.2.1<|oB h λb4 b5 _ _ h=>kH (h.cell 1) (h.cell 1)<|oB h λb6 b7 _ _ h=>kH (h.cell 2) (h.cell 2) ?_;have e:=e.J0 h;exact e.cR h (i:=dY n.J5 key) am rfl oK 0 rfl (e.cX hk) ad λV B1 aU e h _=>ja (h.cell 2)<|e.vg h (i:=dY n.J5 key) oO rfl oO 1 rfl (e.cX hv) ag λap B2 aV e h _=>oE h 2 rfl (fE (x.1,V,x.2.2.1,x.2.2.2)) λaW h _=>oE h 2 rfl (fE (x.1,V,ap,x.2.2.2)) λaX h _=>⟨_,_,B2,nf h (.cons _ (.cons _ (.refl _))),(e.J0 h).sub oM,I,U,an,ao,by dsimp only;omega⟩;rintro _ b8 ⟨x',n',B',h,e,I,m0,m1,m2,m3⟩;rw[I] at kk;refine KC h 2 rfl (lg k v pb t)<|KC h 0 rfl x'<|qrD (Y:=[r8,r3,r1]++Y) e.tI e.cD oK oK oK (qzL m0 m1) hp λgs F' cc hG aY C aZ bj=>?_;have g:=e.sg.next h aZ bj
  have h:=tH h aZ λb hb=>e.tI.yf b (by simp at hb⊢;rcases hb with h|h|h<;>simp[h]);exact oH h 1 rfl (sd (vN (gY k v M p n' (!decide (n.J5[dY n.J5 key]?=some key))).1.1 gs)) rfl rfl (zO rfl) λbk h _=>oC h 1 rfl (vN (gY k v M p n' (!decide (n.J5[dY n.J5 key]?=some key))).1.1 gs) rfl<|kk gs F' bk hG (aY.J0 h).j7 (I5 (sR C h)) (g.fr h) g.new
  ·rw[aT] at U;have ah:¬n.Q3=true:=(by rw[U];decide);obtain⟨l6,l7,l8⟩:=l5 U;refine KC h 0 rfl x<|D8 e.cD (e.cX hk) ad hr.2.2.1 oK λcd bl=>?_;obtain⟨e,h⟩:=e.cH h bl;have aq:=Ce n.J5 key;generalize av:eT n.J5 key=c at aq⊢;have ai:c<n.J8.length:=oK;have aK:n.J8.getD c 0=n.J8[c]:=(by rw[yS,zA ai];rfl);have hu:iZ n.J8[c]:=e.node.2.1.2.2 _ (zX ai);rcases ar:jc D k v key val f M n.J8[c] with ⟨⟨E,e1⟩,M1⟩;have aa:jc D k v key val f M (n.J8.getD (eT n.J5 key) 0)=((E,e1),M1):=(by rw[av,aK];exact ar);have aA:e1≠-1:=λh1=>by rw[h1] at aa;rw[qrs O ah aa oN] at ak;exact ak rfl
   refine⟨?a,?b⟩;case' a=>
    have h:=oG h;have e:=e.J0 h;refine KC h 2 rfl (lg k v pb t)<|KA h 0 rfl x.2.2.2<|eE.cS e.y9 c rfl ai λbm hh=>Il ad ag f e.tw hu (e.cX hk) (e.cX hv) (by rw[ar];exact aA) λgs F1 bn hG ab C aL aM=>?_;rw[ar] at hG ab C⊢;obtain⟨e,h⟩:=e.next h ab aL aM
    refine oB h λau bo _ _ h=>nM (hh _ _ (e.J0 h).y9) (h.cell 1) (h.cells 3)<|oE h 0 rfl (sd (vN E gs)) λa1 h _=>?_;have C:=sR C h;have e:=e.J0 h;have h:=nf h (.refl _)
   case' b=>
    have h:=oG h;have e:=e.J0 h;have h:=nf h (.refl _);refine KC h 2 rfl (lg k v pb t)<|KA h 0 rfl x.2.2.2<|eE.cS e.y9 c rfl ai λbm hh=>oB h λau bo _ _ h=>?_;have e:=e.J0 h;refine nM (hh _ _ e.y9) (h.cell 1) (h.cells 3)<|Il ad ag f e.tw hu (e.cX hk) (e.cX hv) (by rw[ar];exact aA) λgs F1 bn hG ab C aL aM=>?_;rw[ar] at hG ab C⊢;obtain⟨e,h⟩:=e.next h ab aL aM
    refine oE h 0 rfl (sd (vN E gs)) λa1 h _=>?_;have C:=sR C h;have e:=e.J0 h;have h:=nf h (.refl _)
   all_goals
    refine eV (λQ=>?_) λQ=>?_;have a2:e1≠0:=by rw[zT] at Q;exact zR.1 Q
    rw[qrs O ah aa a2] at kk;exact oE h 2 rfl (sd (0,false,dR,0)) λbp h _=>KC h 2 rfl (0,false,dR,0)<|kk dR F1 bp GL (e.J0 h).tI.j7 (.nil _ _ _ _) (e.J0 h).fr (e.J0 h).sg.new;have bq:e1=0:=by rw[yF] at Q;exact yQ.1 Q
    subst bq;refine jf (λb w'=>b=decide (E.x4=n.J8[c]/\E.Q9=0)/\w'=a1.drew) ?_ ?_;have h:=oG h;refine KA h 0 rfl E.x4<|KA h 1 rfl x.2.2.2<|eE.get (e.J0 h).y9 c rfl (zA ai) (y:=n.J8[c]) rfl<|eV (λG=>?_) λG=>?_;have G:E.x4=n.J8[c]:=yQ.1 G;refine KA h 0 rfl E.Q9 ⟨?_,rfl⟩;rw[Ka,yQ,yO];exact⟨λh=>⟨G,h⟩,λh=>h.2⟩;have G:E.x4≠n.J8[c]:=zR.1 G;exact⟨(zU λh=>G h.1).symm,rfl⟩;rintro bv bx ⟨rfl,rfl⟩;have h:=oG h;have C:=sR C h;have e:=e.J0 h;have h:=nf h (.refl _);refine eV (λG=>?_) λG=>?_;have G:=zC G;rw[<- aK,<- av] at G;rw[qyn O ah aa G] at kk;exact KA h 0 rfl E.J7<|oE h 2 rfl (sd (p,E.J7,dR,0)) λa3 h _=>KC h 2 rfl (p,E.J7,dR,0)<|kk dR F1 a3 ⟨hp,wN,.nil⟩ (e.J0 h).tI.j7 (.nil _ _ _ _) (e.J0 h).fr (e.J0 h).sg.new;have G:=zB G;rw[<- aK,<- av] at G;have I:=qBr O ah aa G;rw[av] at I;rw[I] at kk;refine KA h 1 rfl x.2.2.2<|KA h 0 rfl E.x4<|e.qa h (i:=c) ai rfl hG.x4 λB1 bz e h kp=>?_;have C:=kp.cX _ _ C;refine jf (λ_ w'=>∃x' B',ed [au,r8,r3,r1] w' w' [(au,.c (sd (vN E gs)) GR),(r8,.c (fE x') ND),(r3,.c (sd (0,false,dR,0)) GR),(r1,.c (qe (lg k v pb t)) WK)]/\Ed dbk pb FD D j F [] w0 w' [au,r8,r3,r1] Y F1 M1 x' (iC n c E) B'/\
     ¬(iC n c E).Q3=true/\(iC n c E).J5.length+1=(iC n c E).J8.length/\2<=(iC n c E).J8.length/\(iC n c E).J8.length<=1000/\(iC n c E).J9.length<=1000) ?_ ?_
    refine KA h 0 rfl E.Q9<|eV (λR=>?_) λR=>?_;have R:E.Q9≠0:=by rw[zT] at R;exact zR.1 R
    have eg:iC n c E={ n with J8:=gy (n.J8.set c E.x4) (c+1) E.Q9,J5:=gy n.J5 c E.key }:=(by unfold iC;rw[iP R]);have af:¬(iC n c E).Q3=true/\(iC n c E).J5.length+1=(iC n c E).J8.length/\2<=(iC n c E).J8.length/\(iC n c E).J8.length<=1000/\(iC n c E).J9.length<=1000:=(by rw[eg];dsimp only;rw[C9 aq,C9 (l:=n.J8.set c E.x4) (by rw[xI];omega),xI];exact⟨ah,oK,oK,oK,oK⟩);rw[eg] at af⊢;have ew:wrap .i64 ((c:Int)+1)=((c+1:Nat):Int):=ud oK;rw[ew];refine⟨?_,?_,?_⟩;have h:=oG h;refine KA h 1 rfl x.2.2.2<|KA h 0 rfl E.Q9<|KA h 1 rfl x.2.1<|KA h 0 rfl gs<|oB h λbA bB _ _ h=>nM (h.cell 1) (h.cell 2) (h.cell 2) ?_;have C:=sR C h;have e:=e.J0 h;refine e.vc h (i:=c+1) (by dsimp only;rw[xI];omega) rfl (by dsimp only;rw[xI];omega) 0 rfl hG.Q9 λJ B2 aB e h kp=>?_;have C:=kp.cX _ _ C;refine kH (h.cell 1) (h.cell 2)<|oB h λbC bD _ _ h=>nM (h.cell 3) (h.cell 2) (h.cell 3) ?_;have C:=sR C h;have e:=e.J0 h;exact e.cR h (i:=c) aq rfl oO 0 rfl C hG.key λac B3 aC e h _=>oE h 3 rfl (fE (x.1,x.2.1,x.2.2.1,J)) λaD h _=>oE h 3 rfl (fE (x.1,ac,x.2.2.1,J)) λaE h _=>⟨_,B3,nf h (.cons _ (.cons _ (.refl _))),(e.J0 h).sub oM,af⟩;have h:=oG h;refine KA h 1 rfl x.2.2.2<|KA h 0 rfl E.Q9<|KA h 1 rfl x.2.1<|KA h 0 rfl gs<|oB h λbE bF _ _ h=>nM (h.cell 1) (h.cell 2) (h.cell 2)<|oB h λbG bH _ _ h=>nM (h.cell 3) (h.cell 2) (h.cell 3) ?_;have C:=sR C h;have e:=e.J0 h;refine e.vc h (i:=c+1) (by dsimp only;rw[xI];omega) rfl (by dsimp only;rw[xI];omega) 1 rfl hG.Q9 λJ B2 aB e h kp=>?_;have C:=kp.cX _ _ C;exact kH (h.cell 2) (h.cell 3)<|e.cR h (i:=c) aq rfl oO 0 rfl C hG.key λac B3 aC e h _=>oE h 3 rfl (fE (x.1,x.2.1,x.2.2.1,J)) λaD h _=>oE h 3 rfl (fE (x.1,ac,x.2.2.1,J)) λaE h _=>⟨_,B3,nf h (.cons _ (.cons _ (.refl _))),(e.J0 h).sub oM,af⟩;have h:=oG h;refine KA h 1 rfl x.2.2.2<|KA h 0 rfl E.Q9<|KA h 1 rfl x.2.1<|KA h 0 rfl gs<|oB h λbI bJ _ _ h=>nM (h.cell 2) (h.cell 1) (h.cell 2)<|oB h λbK bL _ _ h=>nM (h.cell 2) (h.cell 3) (h.cell 3) ?_;have C:=sR C h;have e:=e.J0 h;refine e.vc h (i:=c+1) (by dsimp only;rw[xI];omega) rfl (by dsimp only;rw[xI];omega) 0 rfl hG.Q9 λJ B2 aB e h kp=>?_;have C:=kp.cX _ _ C;exact kH (h.cell 2) (h.cell 3)<|e.cR h (i:=c) aq rfl oO 1 rfl C hG.key λac B3 aC e h _=>oE h 3 rfl (fE (x.1,x.2.1,x.2.2.1,J)) λaD h _=>oE h 3 rfl (fE (x.1,ac,x.2.2.1,J)) λaE h _=>⟨_,B3,nf h (.cons _ (.cons _ (.refl _))),(e.J0 h).sub oM,af⟩;have R:¬E.Q9≠0:=(by rw[yF] at R;exact λhh=>hh (yQ.1 R));have eg:iC n c E={ n with J8:=n.J8.set c E.x4 }:=(by unfold iC;rw[iN R]);rw[eg];exact⟨x,B1,h,e,ah,by dsimp only;rw[xI];omega,by dsimp only;rw[xI];omega,by dsimp only;rw[xI];omega,by dsimp only;omega⟩;rintro _ bM ⟨x',B',h,e,q1,q2,q3,q4,q5⟩;refine KC h 3 rfl (lg k v pb t)<|KC h 1 rfl x'<|KA h 0 rfl E.J7<|qrD (Y:=[au,r8,r3,r1]++Y) e.tI e.cD oK oK oK (qyd q1 q2 q3) hp λaO F2 bN bt aP a5 aF a6=>?_;have g:=e.sg.next h aF a6
    have h:=tH h aF λb hb=>e.tI.yf b (by simp at hb⊢;rcases hb with h|h|h|h<;>simp[h]);exact oH h 2 rfl (sd (vN (gY k v M1 p (iC n c E) E.J7).1.1 aO)) rfl rfl (zO rfl) λa7 h _=>oC h 2 rfl (vN (gY k v M1 p (iC n c E) E.J7).1.1 aO) rfl<|kk aO F2 a7 bt (aP.J0 h).j7 (I5 (sR a5 h)) (g.fr h) g.new
end
end
section
def tD{H u C E:WP}{K:Prop}(h:H w)(G:u w)(I:C w)(J:E w)(k:K):held [H,u,C,E] w K:=by unfold held;exact⟨⟨h,G,I,J⟩,k⟩
structure sA (S0 Z:KD) (w:Kv) (x:lJ) (n:dW) (pk pv:rP):Prop where
 lens:qE x n
 nb:NB n
 J5:ik pk=n.J5
 J9:ik pv=n.J9
 rk:eE iv 1 S0 w x.2.1 (jt pk)
 rv:eE iv 1 S0 w x.2.2.1 (jt pv)
 ri:eE jD 1 S0 w x.2.2.2 n.J8
 ek:∀ p∈pk,eO Z w p.1 p.2
 ev:∀ p∈pv,eO Z w p.1 p.2
section
variable {S S0 S0' Z Z' B:KD} {w w':Kv} {x:lJ} {n:dW} {pk pv:rP}
def fU.Dv(h:fU Z w x n B)(C:∀b∈B,b∉S0):∃pk pv,sA S0 Z w x n pk pv:=by have G:eY [] w x n:=h.rd (λ_ _ h=>(nomatch h)) λ_ h=>nomatch h;have I:=G.lens;obtain⟨h0,E,Bk,Bv,Bi,rfl,J,⟨pk,O,Q,R⟩,⟨pv,U,V,v3⟩,hi⟩:=h;exact⟨pk,pv,I,E,Q,V,O.k5 zu λb u=>C b (by simp[u]),U.k5 zu λb u=>C b (by simp[u]),hi.k5 u9 λb u=>C b (by simp[u]),R,v3⟩
def sA.j0(h:sA S0 Z w x n pk pv)(f:Fr S w w')(G:∀b∈S,b∈S0)(E:∀b∈S,b∈Z)(C:ow S0 w S0')(J:ow Z w Z'):sA S0' Z' w' x n pk pv where
 lens:=h.lens
 nb:=h.nb
 J5:=h.J5
 J9:=h.J9
 rk:=h.rk.j0 (f.mono λb u _=>G b u) C
 rv:=h.rv.j0 (f.mono λb u _=>G b u) C
 ri:=h.ri.j0 (f.mono λb u _=>G b u) C
 ek:=λp I=>(h.ek p I).j0 (f.mono λb u _=>E b u) J
 ev:=λp I=>(h.ev p I).j0 (f.mono λb u _=>E b u) J
def sA.vV(h:sA S0 Z w x n pk pv):pk.length=n.J5.length:=by rw[<- h.J5,zK]
def sA.A6(h:sA S0 Z w x n pk pv):pv.length=n.J9.length:=by rw[<- h.J9,zK]
def sA.rdK(h:sA S0 Z w x n pk pv)(u:∀b∈S0,b∈Z):kF S0 w x.2.1 pk:=⟨h.rk,λp C=>(h.ek p C).j0 (.refl _ _) λb E=>.inl (u b E)⟩
def sA.rdV(h:sA S0 Z w x n pk pv)(u:∀b∈S0,b∈Z):kF S0 w x.2.2.1 pv:=⟨h.rv,λp C=>(h.ev p C).j0 (.refl _ _) λb E=>.inl (u b E)⟩
def eE.cL{i:Int}{K:Addr->Sl->Prop}(h:eE iv 1 S w s (jt ps))(n:Nat)(hi:i=n)(J:n<ps.length)(O:∀a,(∀S' w',eE iv 1 S' w' s (jt ps)->w'.cell? a=some (.slice ps[n].1.a ps[n].1.len ps[n].1.cap))->K a ps[n].1):idx s i 1 λa=>ld .slice a w λy=>K a y:=by
 subst hi;have G:(jt ps)[n]?=some ps[n].1:=(by rw[zQ,zA J];rfl);obtain⟨V,b,o,I,_,cs,T,fr,hb,hc⟩:=h.at n G;refine sM I ⟨oK,oK⟩ ?_;rw[zJ];have key:∀S' w',eE iv 1 S' w' s (jt ps)->w'.cell? ⟨b,o+n*1,none⟩=some (.slice ps[n].1.a ps[n].1.len ps[n].1.cap):=λS' w' Q=>by
  obtain⟨_,b',o',u,_,R,T',U,C,E⟩:=Q.at n G;rw[I] at u;cases u;rw[kD C]
  have:=Kr (·[0]?) E;simpa[iv] using this
 exact qj ps[n].1 (key S w h) (O _ key)
def sA.pd(h:sA S0 Z w x n pk pv)(hi:i<pk.length):n.J5.getD i []=pk[i].2:=by rw[<- h.J5,A9 hi]
def sA.uI(h:sA S0 Z w x n pk pv)(hi:i<pv.length):n.J9.getD i []=pv[i].2:=by rw[<- h.J9,A9 hi]
def wU{n:dW}(hi:i<n.J8.length):n.J8.getD i 0=n.J8[i]:=by rw[yS,zA hi];rfl
end
structure iI (n:dW):Prop where
 Q3:n.Q3=true->n.J9.length=n.J5.length
 inner:n.Q3=false->n.J8.length=n.J5.length+1
 J5:n.J5.length<=2000
 J9:n.J9.length<=2000
 J8:n.J8.length<=2000
section
variable {dbk pb j:Nat} {FD Y F Bl Br:KD} {D:dV} {w0:Kv} {M:eZ} {xl xr:lJ} {nl nr:dW} {ks:Sl} {key:Key}
def zoT{b:Nat}(h:b∈T):b∈Zo FD (T++Y) F:=by simp[h]
def Eb:∀b∈Zo FD Y F,b∈Zo FD (T++(Bl++Y)) F:=λb h=>by simp only[Zo,zD,zG] at h⊢;rcases h with (h|h|h)|h<;>simp[h]
def BO{α:Type}(l:List α)(x:α):gy l 0 x=x::l:=by unfold gy;simp
def qzD{K:lJ×lJ×Sl->WP}(hT:TW dbk pb FD D j w0 (Br++(Bl++Y)) F M)(hl:fU (Zo FD (Br++(Bl++Y)) F) w0 xl nl Bl)(hr:fU (Zo FD (Br++(Bl++Y)) F) w0 xr nr Br)(d1:∀b∈Br,b∉Bl)(d2:∀b∈Br,b∉Y)(d3:∀b∈Bl,b∉Y)(hk:eO (Zo FD (Br++(Bl++Y)) F) w0 ks key)(au:fq key)(bd:nl.Q3=nr.Q3)(h1:1<=nl.J5.length)(sl:iI nl)(sr:iI nr)(kk:∀yl yr aA w',TW dbk pb FD D j w' Y F M->eY (Zo FD Y F) w' yl (jU nl nr key).1->eY (Zo FD Y F) w' yr (jU nl nr key).2.1->eO (Zo FD Y F) w' aA (jU nl nr key).2.2->Fr (Br++F) w0 w'->K (yl,yr,aA) w'): cW 244 [.agg (fE xl),.agg (fE xr),ks.v] [.agg eJ,.agg eJ,.one .slice] w0 K:=by
 refine qtQ ?_;unfold EQ Fq;obtain⟨pk,pv,o⟩:=hl.Dv (S0:=Br++Zo FD Y F) λb u V=>by rcases zD.1 V with V|V;exact d1 b V u;have h0:=hT.sep b (by simp[u]);simp only[Zo,zD,zG] at V;rcases V with (V|V|V)|V;exact h0.1 V;exact h0.2 V;exact d3 b u V;exact hT.yf b (by simp[u]) V
 have e0:Ed dbk pb FD D j (Br++F) Br w0 w0 [] (Bl++Y) F M xr nr Br:=⟨⟨.refl _ _,λb u=>.inl (by simp[u]),λ_ h=>nomatch h⟩,hT,hr,λ_ h=>(nomatch h),λb u=>.inl u,λb u=>by simp[u],λb u V=>(zD.1 V).elim (d1 b u) (d2 b u)⟩;have ab:∀b∈Br++Zo FD Y F,b∈Zo FD (Br++(Bl++Y)) F:=λb u=>by simp only[Zo,zD,zG] at u⊢;rcases u with u|(u|u|u)|u<;>simp[u]
 have ac:∀b∈Br++F,b∈Br++Zo FD Y F:=λb u=>by simp only[Zo,zD,zG] at u⊢;rcases u with u|u<;>simp[u]
 have nZ:∀ {w' T x' n' B'},Ed dbk pb FD D j (Br++F) Br w0 w' T (Bl++Y) F M x' n' B'->ow (Zo FD (Br++(Bl++Y)) F) w0 (Zo FD (T++(B'++(Bl++Y))) F):=λe b u=>by simp only[Zo,zD,zG] at u;rcases u with (u|u|u|u|u|u)|u;exact .inl (by simp[u]);exact .inl (by simp[u]);exact (e.sg.own b u).imp (λh=>ab b (ac b h)) id;exact (e.cK b u).imp (λh=>ab b (ac b (e.cU b h))) id;exact .inl (by simp[u]);exact .inl (by simp[u]);exact .inl (by simp[u])
 have O:∀ {w' T x' n' B'},Ed dbk pb FD D j (Br++F) Br w0 w' T (Bl++Y) F M x' n' B'->sA (Br++Zo FD Y F) (Zo FD (T++(B'++(Bl++Y))) F) w' xl nl pk pv:=λe=>o.j0 e.fr ac (λb u=>ab b (ac b u)) (λb u=>.inl u) (nZ e);have aB:=o.rdK ab;have aC:=o.rdV ab;have ad:∀ {w' T x' n' B'},Ed dbk pb FD D j (Br++F) Br w0 w' T (Bl++Y) F M x' n' B'->Fr (Br++Zo FD Y F) w0 w':=λe=>e.fr.mono λb u _=>ac b u;have ae:∀b∈Zo FD Y F,b∈Br++Zo FD Y F\/w0.heap.size<=b:=λb u=>.inl (zI _ u);have Q:=o.lens;have kl:=o.vV;have vl:=o.A6;have sk:=sl.J5;have bf:=sr.J5;have bg:=sr.J9;have bh:=sr.J8;have aM:wrap .i64 ((xl.2.1.len:Int)-1)=((nl.J5.length-1:Nat):Int):=(by rw[Q.J5,gu _ oK];omega);have h:=oF [] w0;refine oB h λr1 w2 _ _ h=>oB h λr3 w4 _ _ h=>oB h λr5 w6 _ _ h=>oB h λr7 w8 _ _ h=>KA h 3 rfl xl.2.1<|KA h 3 rfl xl.1 ?_;rw[aM];apply eV<;>intro hc
 ·rw[Q.Q3] at hc;have bi:=sl.Q3 hc;have hG:jU nl nr key=({ nl with J5:=nl.J5.take (nl.J5.length-1),J9:=nl.J9.take (nl.J5.length-1) },{ nr with J5:=nl.J5.getD (nl.J5.length-1) []::nr.J5,J9:=nl.J9.getD (nl.J5.length-1) []::nr.J9 },nl.J5.getD (nl.J5.length-1) []):=(by unfold jU;rw[iP hc]);have hi:nl.J5.length-1<pk.length:=oK;have R:nl.J5.length-1<pv.length:=oK;rw[hG,o.pd hi,o.uI R] at kk;have aa:fq pk[nl.J5.length-1].2:=(by rw[<- o.pd hi];exact vz o.nb.1 _);have aw:fq pv[nl.J5.length-1].2:=(by rw[<- o.uI R];exact vz o.nb.2.1 _);refine⟨?a1,?a2,?a3⟩;case' a1=>
   have h:=oG h;refine KA h 2 rfl xr.2.1<|KA h 3 rfl xl.2.1<|eE.cL ((o.rk).q8 h.fr) (nl.J5.length-1) rfl hi λag G=>KA h 2 rfl xr.2.2.1<|KA h 3 rfl xl.2.2.1<|eE.cL ((o.rv).q8 h.fr) (nl.J5.length-1) rfl R λaD U=>oB h λah ai _ _ h=>?_;have e:=e0.J0 h;refine tD (U _ _ (O e).rv) (h.cell 4) (h.cell 3) (h.cell 3)<|e.cR h (i:=0) (yY _) rfl oK 0 rfl ((O e).ek _ (zX hi)) aa λC B1 aj e h _=>nM (U _ _ (O e).rv) (h.cell 4) (h.cell 3)<|oB h λak al _ _ h=>?_;have e:=e.J0 h;refine tD (h.cell 4) (G _ _ (O e).rk) (h.cell 5) (h.cell 4)<|e.vg h (i:=0) (yY _) rfl oO 0 rfl ((O e).ev _ (zX R)) aw λE B2 am e h _=>?_
  case' a2=>
   have h:=oG h;refine KA h 2 rfl xr.2.1<|KA h 3 rfl xl.2.1<|eE.cL ((o.rk).q8 h.fr) (nl.J5.length-1) rfl hi λag G=>KA h 2 rfl xr.2.2.1<|KA h 3 rfl xl.2.2.1<|eE.cL ((o.rv).q8 h.fr) (nl.J5.length-1) rfl R λaD U=>oB h λah ai _ _ h=>tD (U _ _ (O (e0.J0 h)).rv) (h.cell 4) (h.cell 3) (h.cell 3)<|oB h λak al _ _ h=>?_;have e:=e0.J0 h;refine tD (h.cell 4) (G _ _ (O e).rk) (h.cell 5) (h.cell 4)<|e.cR h (i:=0) (yY _) rfl oK 1 rfl ((O e).ek _ (zX hi)) aa λC B1 aj e h _=>nM (U _ _ (O e).rv) (h.cell 5) (h.cell 4)<|e.vg h (i:=0) (yY _) rfl oO 0 rfl ((O e).ev _ (zX R)) aw λE B2 am e h _=>?_
  case' a3=>
   have h:=oG h;refine KA h 2 rfl xr.2.1<|KA h 3 rfl xl.2.1<|eE.cL ((o.rk).q8 h.fr) (nl.J5.length-1) rfl hi λag G=>KA h 2 rfl xr.2.2.1<|KA h 3 rfl xl.2.2.1<|eE.cL ((o.rv).q8 h.fr) (nl.J5.length-1) rfl R λaD U=>oB h λah ai _ _ h=>tD (h.cell 3) (G _ _ (O (e0.J0 h)).rk) (h.cell 4) (h.cell 3)<|oB h λak al _ _ h=>?_;have e:=e0.J0 h;refine tD (U _ _ (O e).rv) (h.cell 5) (h.cell 4) (h.cell 4)<|e.cR h (i:=0) (yY _) rfl oK 0 rfl ((O e).ek _ (zX hi)) aa λC B1 aj e h _=>nM (U _ _ (O e).rv) (h.cell 5) (h.cell 4)<|e.vg h (i:=0) (yY _) rfl oO 1 rfl ((O e).ev _ (zX R)) aw λE B2 am e h _=>?_
  all_goals
   refine oE h 4 rfl (fE (xr.1,C,xr.2.2.1,xr.2.2.2)) λaO h _=>oE h 4 rfl (fE (xr.1,C,E,xr.2.2.2)) λaP h _=>?_;have h:=oG h;refine KA h 5 rfl xl.2.1<|kF.upto aB (nl.J5.length-1) rfl oK λI an=>KA h 5 rfl xl.2.2.1<|kF.upto aC (nl.J5.length-1) rfl oK λJ ao=>oE h 5 rfl (fE (xl.1,I,xl.2.2.1,xl.2.2.2)) λaQ h _=>oE h 5 rfl (fE (xl.1,I,J,xl.2.2.2)) λaR h _=>?_;have h:=oG h;refine KC h 5 rfl (xl.1,I,J,xl.2.2.2)<|KC h 4 rfl (xr.1,C,E,xr.2.2.2)<|KA h 4 rfl C ?_;have e:=e.J0 h;have h:=nf h (.refl _);obtain⟨q0,qN,⟨qk,aq,aG⟩,q4,q5⟩:=e.cD;have ax:0<qk.length:=by
    have:=Kr List.length aG;dsimp only at this;rw[BO,zK,yJ] at this;omega
   have aT:qk[0].2=pk[nl.J5.length-1].2:=(by rw[<- A9 ax,aG];dsimp only;rw[BO];rfl);refine eE.cL aq.1 0 rfl ax λbj aH=>oE h 3 rfl (fE (xl.1,I,J,xl.2.2.2)) λaU h _=>nM (aH [] _ (aq.1.j0 (h.fr.mono λb u _=>zoT u) λ_ h=>nomatch h)) (h.cell 4) (h.cells 4)<|oE h 2 rfl (fE (xr.1,C,E,xr.2.2.2)) λay h _=>kH (aH [] _ (aq.1.j0 (h.fr.mono λb u _=>zoT u) λ_ h=>nomatch h)) (h.cell 4)<|KC h 3 rfl (xl.1,I,J,xl.2.2.2)<|KC h 2 rfl (xr.1,C,E,xr.2.2.2) ?_;have ar:=sR (aq.2 _ (zX ax)) h;rw[aT] at ar;have e:=e.J0 h;have hR:=e.cD.j6 (S':=Zo FD Y F) λb u=>.inl (Eb b u);rw[BO,BO] at hR;exact kk (xl.1,I,J,xl.2.2.2) (xr.1,C,E,xr.2.2.2) _ ay (e.tI.y5 λb u=>by simp[u]) ⟨Q.Q3,⟨λa ha=>o.nb.1 a (yW ha),λa ha=>o.nb.2.1 a (yW ha),o.nb.2.2⟩,⟨_,an.j0 (ad e) ae,by rw[CJ,o.J5]⟩,⟨_,ao.j0 (ad e) ae,by rw[CJ,o.J9]⟩,o.ri.j0 (ad e) ae⟩
    hR (ar.j0 (.refl _ _) λb u=>.inl (Eb b u)) e.fr
 ·rw[Q.Q3] at hc;have aV:¬nl.Q3=true:=(by rw[hc];decide);have il:=sl.inner hc;have hG:jU nl nr key=({ nl with J5:=nl.J5.take (nl.J5.length-1),J8:=nl.J8.take (nl.J5.length-1+1) },{ nr with J5:=key::nr.J5,J8:=nl.J8.getD (nl.J5.length-1+1) 0::nr.J8 },nl.J5.getD (nl.J5.length-1) []):=(by unfold jU;rw[iN aV]);have hi:nl.J5.length-1<pk.length:=oK;have ap:nl.J5.length-1+1<nl.J8.length:=oK;rw[hG,o.pd hi,wU ap] at kk;have aa:iZ nl.J8[nl.J5.length-1+1]:=o.nb.2.2 _ (zX ap);have aW:wrap .i64 (((nl.J5.length-1:Nat):Int)+1)=((nl.J5.length-1+1:Nat):Int):=ud oK;rw[aW];have kw:∀ {w' T x' n' B'},Ed dbk pb FD D j (Br++F) Br w0 w' T (Bl++Y) F M x' n' B'->eO (Zo FD (T++(B'++(Bl++Y))) F) w' ks key:=λe=>hk.j0 (e.fr.mono λb u _=>ab b (ac b u)) (nZ e);refine KA h 3 rfl xl.2.1<|eE.cL ((o.rk).q8 h.fr) (nl.J5.length-1) rfl hi λa7 a8=>⟨?b1,?b2,?b3⟩;case' b1=>
   have h:=oG h;refine KA h 2 rfl xr.2.1<|KA h 2 rfl xr.2.2.2<|KA h 3 rfl xl.2.2.2<|eE.cS ((o.ri).q8 h.fr) (nl.J5.length-1+1) rfl ap λag G=>oB h λah ai _ _ h=>?_;have e:=e0.J0 h;refine tD (G _ _ (O e).ri) (h.cell 4) (h.cell 3) (h.cell 3)<|e.cR h (i:=0) (yY _) rfl oK 0 rfl (kw e) au λC B1 aj e h _=>nM (G _ _ (O e).ri) (h.cell 4) (h.cell 3)<|oB h λak al _ _ h=>?_;have e:=e.J0 h;refine kH (h.cell 4) (h.cell 4)<|e.vc h (i:=0) (yY _) rfl oO 0 rfl aa λE B2 am e h _=>?_
  case' b2=>
   have h:=oG h;refine KA h 2 rfl xr.2.1<|KA h 2 rfl xr.2.2.2<|KA h 3 rfl xl.2.2.2<|eE.cS ((o.ri).q8 h.fr) (nl.J5.length-1+1) rfl ap λag G=>oB h λah ai _ _ h=>tD (G _ _ (O (e0.J0 h)).ri) (h.cell 4) (h.cell 3) (h.cell 3)<|oB h λak al _ _ h=>?_;have e:=e0.J0 h;refine kH (h.cell 4) (h.cell 4)<|e.cR h (i:=0) (yY _) rfl oK 1 rfl (kw e) au λC B1 aj e h _=>nM (G _ _ (O e).ri) (h.cell 5) (h.cell 4)<|e.vc h (i:=0) (yY _) rfl oO 0 rfl aa λE B2 am e h _=>?_
  case' b3=>
   have h:=oG h;refine KA h 2 rfl xr.2.1<|KA h 2 rfl xr.2.2.2<|KA h 3 rfl xl.2.2.2<|eE.cS ((o.ri).q8 h.fr) (nl.J5.length-1+1) rfl ap λag G=>oB h λah ai _ _ h=>kH (h.cell 3) (h.cell 3)<|oB h λak al _ _ h=>?_;have e:=e0.J0 h;refine tD (G _ _ (O e).ri) (h.cell 5) (h.cell 4) (h.cell 4)<|e.cR h (i:=0) (yY _) rfl oK 0 rfl (kw e) au λC B1 aj e h _=>nM (G _ _ (O e).ri) (h.cell 5) (h.cell 4)<|e.vc h (i:=0) (yY _) rfl oO 1 rfl aa λE B2 am e h _=>?_
  all_goals
   refine oE h 4 rfl (fE (xr.1,C,xr.2.2.1,xr.2.2.2)) λaO h _=>oE h 4 rfl (fE (xr.1,C,xr.2.2.1,E)) λaP h _=>?_;have h:=oG h;refine KA h 5 rfl xl.2.1<|kF.upto aB (nl.J5.length-1) rfl oK λI an=>KA h 5 rfl xl.2.2.2<|eE.Ds o.ri (nl.J5.length-1+1) rfl oK λJ ao=>oE h 5 rfl (fE (xl.1,I,xl.2.2.1,xl.2.2.2)) λaQ h _=>oE h 5 rfl (fE (xl.1,I,xl.2.2.1,J)) λaR h _=>?_;have h:=oG h;refine KC h 5 rfl (xl.1,I,xl.2.2.1,J)<|KC h 4 rfl (xr.1,C,xr.2.2.1,E)<|oE h 3 rfl (fE (xl.1,I,xl.2.2.1,J)) λaU h _=>ja (h.cells 4)<|oE h 2 rfl (fE (xr.1,C,xr.2.2.1,E)) λay h _=>KC h 3 rfl (xl.1,I,xl.2.2.1,J)<|KC h 2 rfl (xr.1,C,xr.2.2.1,E) ?_;have e:=e.J0 h;have hR:=e.cD.j6 (S':=Zo FD Y F) λb u=>.inl (Eb b u);rw[BO,BO] at hR;exact kk (xl.1,I,xl.2.2.1,J) (xr.1,C,xr.2.2.1,E) _ ay (e.tI.y5 λb u=>by simp[u]) ⟨Q.Q3,⟨λa ha=>o.nb.1 a (yW ha),o.nb.2.1,λa ha=>o.nb.2.2 a (yW ha)⟩,⟨_,an.j0 (ad e) ae,by rw[CJ,o.J5]⟩,⟨_,aC.j0 (ad e) ae,o.J9⟩,ao.j0 (ad e) ae⟩
    hR (((O e).ek _ (zX hi)).j0 (.refl _ _) λb u=>.inl (by simp only[Zo,zD,zG] at u⊢;rcases u with (u|u|u)|u<;>simp[u])) e.fr
end
end
section
section
variable {dbk pb j:Nat} {FD Y F Bl Br:KD} {D:dV} {w0:Kv} {M:eZ} {xl xr:lJ} {nl nr:dW} {ks:Sl} {key:Key}
def qAd{K:lJ×lJ×Sl->WP}(hT:TW dbk pb FD D j w0 (Bl++(Br++Y)) F M)(hl:fU (Zo FD (Bl++(Br++Y)) F) w0 xl nl Bl)(hr:fU (Zo FD (Bl++(Br++Y)) F) w0 xr nr Br)(d1:∀b∈Bl,b∉Br)(d2:∀b∈Bl,b∉Y)(d3:∀b∈Br,b∉Y)(hk:eO (Zo FD (Bl++(Br++Y)) F) w0 ks key)(aq:fq key)(ay:nl.Q3=nr.Q3)(h1:1<=nr.J5.length)(h2:nr.Q3=true->2<=nr.J5.length)(sl:iI nl)(sr:iI nr)(kk:∀yl yr az w',TW dbk pb FD D j w' Y F M->eY (Zo FD Y F) w' yl (takeN nl nr key).1->eY (Zo FD Y F) w' yr (takeN nl nr key).2.1->eO (Zo FD Y F) w' az (takeN nl nr key).2.2->Fr (Bl++F) w0 w'->K (yl,yr,az) w'): cW 245 [.agg (fE xl),.agg (fE xr),ks.v] [.agg eJ,.agg eJ,.one .slice] w0 K:=by
 refine qtR ?_;unfold Fp Fx;obtain⟨pk,pv,o⟩:=hr.Dv (S0:=Bl++Zo FD Y F) λb u hm=>by rcases zD.1 hm with hm|hm;exact d1 b hm u;have h0:=hT.sep b (by simp[u]);simp only[Zo,zD,zG] at hm;rcases hm with (hm|hm|hm)|hm;exact h0.1 hm;exact h0.2 hm;exact d3 b u hm;exact hT.yf b (by simp[u]) hm
 have e0:Ed dbk pb FD D j (Bl++F) Bl w0 w0 [] (Br++Y) F M xl nl Bl:=⟨⟨.refl _ _,λb u=>.inl (by simp[u]),λ_ h=>nomatch h⟩,hT,hl,λ_ h=>(nomatch h),λb u=>.inl u,λb u=>by simp[u],λb u hm=>(zD.1 hm).elim (d1 b u) (d2 b u)⟩;have ac:∀b∈Bl++Zo FD Y F,b∈Zo FD (Bl++(Br++Y)) F:=λb u=>by simp only[Zo,zD,zG] at u⊢;rcases u with u|(u|u|u)|u<;>simp[u]
 have ad:∀b∈Bl++F,b∈Bl++Zo FD Y F:=λb u=>by simp only[Zo,zD,zG] at u⊢;rcases u with u|u<;>simp[u]
 have nZ:∀ {w' T x' n' B'},Ed dbk pb FD D j (Bl++F) Bl w0 w' T (Br++Y) F M x' n' B'->ow (Zo FD (Bl++(Br++Y)) F) w0 (Zo FD (T++(B'++(Br++Y))) F):=λe b u=>by simp only[Zo,zD,zG] at u;rcases u with (u|u|u|u|u|u)|u;exact .inl (by simp[u]);exact .inl (by simp[u]);exact (e.sg.own b u).imp (λh=>ac b (ad b h)) id;exact (e.cK b u).imp (λh=>ac b (ad b (e.cU b h))) id;exact .inl (by simp[u]);exact .inl (by simp[u]);exact .inl (by simp[u])
 have J:∀ {w' T x' n' B'},Ed dbk pb FD D j (Bl++F) Bl w0 w' T (Br++Y) F M x' n' B'->sA (Bl++Zo FD Y F) (Zo FD (T++(B'++(Br++Y))) F) w' xr nr pk pv:=λe=>o.j0 e.fr ad (λb u=>ac b (ad b u)) (λb u=>.inl u) (nZ e);have aA:=o.rdK ac;have aB:=o.rdV ac;have Q:∀ {w' T x' n' B'},Ed dbk pb FD D j (Bl++F) Bl w0 w' T (Br++Y) F M x' n' B'->Fr (Bl++Zo FD Y F) w0 w':=λe=>e.fr.mono λb u _=>ad b u;have ae:∀b∈Zo FD Y F,b∈Bl++Zo FD Y F\/w0.heap.size<=b:=λb u=>.inl (zI _ u);have al:=o.lens;have kl:=o.vV;have vl:=o.A6;have sk:=sr.J5;have bj:=sl.J5;have bk:=sl.J9;have bl:=sl.J8;have h:=oF [] w0;refine oB h λr1 w2 _ _ h=>oB h λr3 w4 _ _ h=>oB h λr5 w6 _ _ h=>oB h λr7 w8 _ _ h=>KA h 3 rfl xl.1 ?_;apply eV<;>intro hc
 ·rw[hl.1] at hc;have aC:nr.Q3=true:=(by rw[<- ay];exact hc);have h2:=h2 aC;have bm:=sr.Q3 aC;have hG:takeN nl nr key=({ nl with J5:=nl.J5++[nr.J5.getD 0 []],J9:=nl.J9++[nr.J9.getD 0 []] },{ nr with J5:=nr.J5.drop 1,J9:=nr.J9.drop 1 },(nr.J5.drop 1).getD 0 []):=(by unfold takeN;rw[iP hc]);have hi:0<pk.length:=oK;have R:0<pv.length:=oK;have au:0<(pk.drop 1).length:=(by rw[yC];omega);have aW:(nr.J5.drop 1).getD 0 []=(pk.drop 1)[0].2:=(by rw[<- o.J5,<- A4,A9 au]);rw[hG,o.pd hi,o.uI R,aW] at kk;have ab:fq pk[0].2:=(by rw[<- o.pd hi];exact vz o.nb.1 _);have av:fq pv[0].2:=(by rw[<- o.uI R];exact vz o.nb.2.1 _);refine⟨?a1,?a2,?a3⟩;case' a1=>
   have h:=oG h;refine KA h 3 rfl xl.2.1<|KA h 2 rfl xr.2.1<|eE.cL ((o.rk).q8 h.fr) 0 rfl hi λaD ag=>KA h 3 rfl xl.2.2.1<|KA h 2 rfl xr.2.2.1<|eE.cL ((o.rv).q8 h.fr) 0 rfl R λaE U=>oB h λaF aG _ _ h=>?_;have e:=e0.J0 h;refine tD (U _ _ (J e).rv) (h.cell 3) (h.cell 4) (h.cell 4)<|e.rW h oK 0 rfl ((J e).ek _ (zX hi)) ab λC B1 aI e h _=>nM (U _ _ (J e).rv) (h.cell 3) (h.cell 4)<|oB h λaJ aK _ _ h=>?_;have e:=e.J0 h;refine tD (h.cell 5) (ag _ _ (J e).rk) (h.cell 4) (h.cell 5)<|e.A5 h oO 0 rfl ((J e).ev _ (zX R)) av λE B2 aM e h _=>?_
  case' a2=>
   have h:=oG h;refine KA h 3 rfl xl.2.1<|KA h 2 rfl xr.2.1<|eE.cL ((o.rk).q8 h.fr) 0 rfl hi λaD ag=>KA h 3 rfl xl.2.2.1<|KA h 2 rfl xr.2.2.1<|eE.cL ((o.rv).q8 h.fr) 0 rfl R λaE U=>oB h λaF aG _ _ h=>tD (U _ _ (J (e0.J0 h)).rv) (h.cell 3) (h.cell 4) (h.cell 4)<|oB h λaJ aK _ _ h=>?_;have e:=e0.J0 h;refine tD (h.cell 5) (ag _ _ (J e).rk) (h.cell 4) (h.cell 5)<|e.rW h oK 1 rfl ((J e).ek _ (zX hi)) ab λC B1 aI e h _=>nM (U _ _ (J e).rv) (h.cell 4) (h.cell 5)<|e.A5 h oO 0 rfl ((J e).ev _ (zX R)) av λE B2 aM e h _=>?_
  case' a3=>
   have h:=oG h;refine KA h 3 rfl xl.2.1<|KA h 2 rfl xr.2.1<|eE.cL ((o.rk).q8 h.fr) 0 rfl hi λaD ag=>KA h 3 rfl xl.2.2.1<|KA h 2 rfl xr.2.2.1<|eE.cL ((o.rv).q8 h.fr) 0 rfl R λaE U=>oB h λaF aG _ _ h=>tD (h.cell 4) (ag _ _ (J (e0.J0 h)).rk) (h.cell 3) (h.cell 4)<|oB h λaJ aK _ _ h=>?_;have e:=e0.J0 h;refine tD (U _ _ (J e).rv) (h.cell 4) (h.cell 5) (h.cell 5)<|e.rW h oK 0 rfl ((J e).ek _ (zX hi)) ab λC B1 aI e h _=>nM (U _ _ (J e).rv) (h.cell 4) (h.cell 5)<|e.A5 h oO 1 rfl ((J e).ev _ (zX R)) av λE B2 aM e h _=>?_
  all_goals
   refine oE h 5 rfl (fE (xl.1,C,xl.2.2.1,xl.2.2.2)) λak h _=>oE h 5 rfl (fE (xl.1,C,E,xl.2.2.2)) λaX h _=>?_;have h:=oG h;refine KA h 4 rfl xr.2.1<|kF.from aA 1 rfl oK λG O=>KA h 4 rfl xr.2.2.1<|kF.from aB 1 rfl oK λI ah=>oE h 4 rfl (fE (xr.1,G,xr.2.2.1,xr.2.2.2)) λaY h _=>oE h 4 rfl (fE (xr.1,G,I,xr.2.2.2)) λaZ h _=>?_;have h:=oG h;refine KC h 5 rfl (xl.1,C,E,xl.2.2.2)<|KC h 4 rfl (xr.1,G,I,xr.2.2.2)<|KA h 4 rfl G<|eE.cL (O.j0 (Q (e.J0 h)) λb u=>.inl u).1 0 rfl au λbn aN=>oE h 3 rfl (fE (xl.1,C,E,xl.2.2.2)) λa0 h _=>nM (aN _ _ (O.j0 (Q (e.J0 h)) λb u=>.inl u).1) (h.cell 4) (h.cells 4)<|oE h 2 rfl (fE (xr.1,G,I,xr.2.2.2)) λaw h _=>kH (aN _ _ (O.j0 (Q (e.J0 h)) λb u=>.inl u).1) (h.cell 4)<|KC h 3 rfl (xl.1,C,E,xl.2.2.2)<|KC h 2 rfl (xr.1,G,I,xr.2.2.2) ?_;have e:=e.J0 h;have hR:=e.cD.j6 (S':=Zo FD Y F) λb u=>.inl (Eb b u);have ai:=O.j0 (Q e) ae;exact kk (xl.1,C,E,xl.2.2.2) (xr.1,G,I,xr.2.2.2) _ aw (e.tI.y5 λb u=>by simp[u]) hR ⟨al.Q3,⟨λa ha=>o.nb.1 a (yV ha),λa ha=>o.nb.2.1 a (yV ha),o.nb.2.2⟩,⟨_,ai,by rw[A4,o.J5]⟩,⟨_,ah.j0 (Q e) ae,by rw[A4,o.J9]⟩,o.ri.j0 (Q e) ae⟩
    (ai.2 _ (zX au)) e.fr
 ·rw[hl.1] at hc;have a5:¬nl.Q3=true:=(by rw[hc];decide);have il:=sr.inner (by rw[<- ay];exact hc);have hG:takeN nl nr key=({ nl with J5:=nl.J5++[key],J8:=nl.J8++[nr.J8.getD 0 0] },{ nr with J5:=nr.J5.drop 1,J8:=nr.J8.drop 1 },nr.J5.getD 0 []):=(by unfold takeN;rw[iN a5]);have hi:0<pk.length:=oK;have aj:0<nr.J8.length:=oK;rw[hG,o.pd hi,wU aj] at kk;have ab:iZ nr.J8[0]:=o.nb.2.2 _ (zX aj);have kw:∀ {w' T x' n' B'},Ed dbk pb FD D j (Bl++F) Bl w0 w' T (Br++Y) F M x' n' B'->eO (Zo FD (T++(B'++(Br++Y))) F) w' ks key:=λe=>hk.j0 (e.fr.mono λb u _=>ac b (ad b u)) (nZ e);refine KA h 2 rfl xr.2.1<|eE.cL ((o.rk).q8 h.fr) 0 rfl hi λbc bd=>⟨?b1,?b2,?b3⟩;case' b1=>
   have h:=oG h;refine KA h 3 rfl xl.2.1<|KA h 3 rfl xl.2.2.2<|KA h 2 rfl xr.2.2.2<|eE.cS ((o.ri).q8 h.fr) 0 rfl aj λaO V=>oB h λam an _ _ h=>?_;have e:=e0.J0 h;refine tD (V _ _ (J e).ri) (h.cell 3) (h.cell 4) (h.cell 4)<|e.rW h oK 0 rfl (kw e) aq λC B1 aP e h _=>nM (V _ _ (J e).ri) (h.cell 3) (h.cell 4)<|oB h λao ap _ _ h=>?_;have e:=e.J0 h;refine kH (h.cell 5) (h.cell 5)<|e.AK h oO 0 rfl ab λE B2 ak e h _=>?_
  case' b2=>
   have h:=oG h;refine KA h 3 rfl xl.2.1<|KA h 3 rfl xl.2.2.2<|KA h 2 rfl xr.2.2.2<|eE.cS ((o.ri).q8 h.fr) 0 rfl aj λaO V=>oB h λam an _ _ h=>tD (V _ _ (J (e0.J0 h)).ri) (h.cell 3) (h.cell 4) (h.cell 4)<|oB h λao ap _ _ h=>?_;have e:=e0.J0 h;refine kH (h.cell 5) (h.cell 5)<|e.rW h oK 1 rfl (kw e) aq λC B1 aP e h _=>nM (V _ _ (J e).ri) (h.cell 4) (h.cell 5)<|e.AK h oO 0 rfl ab λE B2 ak e h _=>?_
  case' b3=>
   have h:=oG h;refine KA h 3 rfl xl.2.1<|KA h 3 rfl xl.2.2.2<|KA h 2 rfl xr.2.2.2<|eE.cS ((o.ri).q8 h.fr) 0 rfl aj λaO V=>oB h λam an _ _ h=>kH (h.cell 4) (h.cell 4)<|oB h λao ap _ _ h=>?_;have e:=e0.J0 h;refine tD (V _ _ (J e).ri) (h.cell 4) (h.cell 5) (h.cell 5)<|e.rW h oK 0 rfl (kw e) aq λC B1 aP e h _=>nM (V _ _ (J e).ri) (h.cell 4) (h.cell 5)<|e.AK h oO 1 rfl ab λE B2 ak e h _=>?_
  all_goals
   refine oE h 5 rfl (fE (xl.1,C,xl.2.2.1,xl.2.2.2)) λak h _=>oE h 5 rfl (fE (xl.1,C,xl.2.2.1,E)) λaX h _=>?_;have h:=oG h;refine KA h 4 rfl xr.2.1<|kF.from aA 1 rfl oK λG O=>KA h 4 rfl xr.2.2.2<|eE.Af o.ri 1 rfl oK λI ah=>oE h 4 rfl (fE (xr.1,G,xr.2.2.1,xr.2.2.2)) λaY h _=>oE h 4 rfl (fE (xr.1,G,xr.2.2.1,I)) λaZ h _=>?_;have h:=oG h;refine KC h 5 rfl (xl.1,C,xl.2.2.1,E)<|KC h 4 rfl (xr.1,G,xr.2.2.1,I)<|oE h 3 rfl (fE (xl.1,C,xl.2.2.1,E)) λa0 h _=>ja (h.cells 4)<|oE h 2 rfl (fE (xr.1,G,xr.2.2.1,I)) λaw h _=>KC h 3 rfl (xl.1,C,xl.2.2.1,E)<|KC h 2 rfl (xr.1,G,xr.2.2.1,I) ?_;have e:=e.J0 h;have hR:=e.cD.j6 (S':=Zo FD Y F) λb u=>.inl (Eb b u);exact kk (xl.1,C,xl.2.2.1,E) (xr.1,G,xr.2.2.1,I) _ aw (e.tI.y5 λb u=>by simp[u]) hR ⟨al.Q3,⟨λa ha=>o.nb.1 a (yV ha),o.nb.2.1,λa ha=>o.nb.2.2 a (yV ha)⟩,⟨_,O.j0 (Q e) ae,by rw[A4,o.J5]⟩,⟨_,aB.j0 (Q e) ae,o.J9⟩,ah.j0 (Q e) ae⟩
    (((J e).ek _ (zX hi)).j0 (.refl _ _) λb u=>.inl (by simp only[Zo,zD,zG] at u⊢;rcases u with (u|u|u)|u<;>simp[u])) e.fr
end
end
section
section
variable {dbk pb j:Nat} {FD S S0 S1 N0 Y Y1 F F' T B Bl Br Bn:KD} {D:dV} {w0 wa w w':Kv} {M M':eZ} {L:KK} {x xl xr:lJ} {n nl nr:dW} {k v:Nat} {t:Int}
def qBu(g:Sg S0 w0 wa F T)(u:∀b∈S0,b∈S1):Sg S1 w0 wa F T:=⟨g.sS.mono λb h _=>u b h,λb h=>(g.new b h).imp (u b) id,λb h=>(g.own b h).imp (u b) id⟩
structure qm (FD F:KD) (w:Kv) (T R:KD) (x:lJ) (n:dW) (B:KD):Prop where
 node:fU (Zo FD (T++R) F) w x n B
 sep:∀ b∈T,b∉B
def qm.J0{R:KD}(o:qm FD F wa T R x n B)(h:ed T wa w L):qm FD F w (fY L) R x n B:=
 ⟨o.node.j0 h.fr (λb u C=>o.sep b C u) (λb u=>.inl (by simp[u])) (Gc h),λb u C=>by
  obtain⟨q,G,rfl⟩:=mem_map.1 u;rcases h.own q G with E|E;exact o.sep _ E C;have:=o.node.lt _ C;omega⟩
def Ed.base(e:Ed dbk pb FD D j S0 N0 w0 w T Y F M x n B)(C:∀b∈S0,b∈Z)(E:∀b∈FD,b∈Z)(G:HG∈Z)(I:∀b∈Y,b∈Z):ow Z w0 (Zo FD (T++(B++Y)) F):=λb u=>by simp only[Zo,zD,zG] at u;rcases u with (u|u|u|u|u)|u;exact .inl (E b u);rw[u];exact .inl G;exact (e.sg.own b u).imp (C b) id;exact (e.cK b u).imp (λh=>C b (e.cU b h)) id;exact .inl (I b u);exact (e.sg.new b u).imp (C b) id
def Ed.Q9(e:Ed dbk pb FD D j S0 N0 w0 w T Y F M x n B)(hn:fU Z w0 xl nl Bn)(R:∀b∈Bn,b∉S0)(U:∀b∈S0,b∈Z)(G:∀b∈FD,b∈Z)(I:HG∈Z)(hY:∀b∈Y,b∈Z)(C:∀b∈Bn++Y1,b∈Y)(J:∀b∈Bn,b∉Y1)(O:∀b∈Bn,b<w0.heap.size): Ed dbk pb FD D j (Bn++S0) Bn w0 w T Y1 F M xl nl Bn:=by
 have hz:=e.base U G I hY;have E:∀b∈Zo FD (T++(Bn++Y1)) F,b∈Zo FD (T++(B++Y)) F:=λb u=>by simp only[Zo,zD,zG] at u⊢;have Q:=λh=>C b h;simp only[zD] at Q;rcases u with (u|u|u|u|u)|u;simp[u];simp[u];simp[u];simp[Q (.inl u)];simp[Q (.inr u)];simp[u]
 refine⟨qBu e.sg λb u=>zI _ u,e.tw.y5 λb u=>?_,hn.j0 e.fr R (λb u=>.inl (U b u)) λb u=>hz b (E b u),λb u V=>?_,λb u=>.inl u,λb u=>zH _ u,J⟩;rcases zD.1 u with u|u;simp[u];exact zI _ (zI _ (C b u));rcases e.sg.own b u with h1|h1;exact R b V h1;have:=O b V;omega
def qCr:∀b∈Bn++(Br++Y),b∈Zo FD (Bl++(Bn++(Br++Y))) F:=λb u=>by simp only[Zo,zD,zG] at u⊢;rcases u with h|h|h<;>simp[h]
def qBW:∀b∈Bn++Y,b∈Bn++(Br++Y):=λb u=>by simp only[zD] at u⊢;rcases u with h|h<;>simp[h]
def qBX:∀b∈Zo FD (T++(Bn++Y)) F,b∈Zo FD (T++(Bn++(Br++Y))) F:=λb u=>by simp only[Zo,zD,zG] at u⊢;rcases u with (h|h|h|h|h)|h<;>simp[h]
def qzI{K:lJ×Int->WP}(hT:TW dbk pb FD D j w0 (Bl++(Bn++(Br++Y))) F M)(hl:fU (Zo FD (Bl++(Bn++(Br++Y))) F) w0 xl nl Bl)(hn:fU (Zo FD (Bl++(Bn++(Br++Y))) F) w0 x n Bn)(hr:fU (Zo FD (Bl++(Bn++(Br++Y))) F) w0 xr nr Br)(d1:∀b∈Bl,b∉Bn)(d2:∀b∈Bl,b∉Br)(d3:∀b∈Bl,b∉Y)(d4:∀b∈Bn,b∉Br)(d5:∀b∈Bn,b∉Y)(sl:iI nl)(sr:iI nr)(sn:iI n)(hi:i<n.J5.length)(av:n.Q3=false)(O:∀yn B' F' w',TW dbk pb FD D j w' (B'++Y) F' (mZ k v M n i nl nr).2->fU (Zo FD (B'++Y) F') w' yn (mZ k v M n i nl nr).1.1 B'->Fr (Bn++(Bl++F)) w0 w'->(∀b∈B',b∈Bn\/w0.heap.size<=b)->(∀b∈F',b∈Bn++(Bl++F)\/w0.heap.size<=b)->K (yn,(mZ k v M n i nl nr).1.2) w'): cW 243 [.agg (qe (lg k v pb t)),.agg (fE x),.i i,.agg (fE xl),.agg (fE xr)] [.agg eJ,.one .i] w0 K:=by
 refine qmR ?_;have e0:Ed dbk pb FD D j (Bl++F) Bl w0 w0 [] (Bn++(Br++Y)) F M xl nl Bl:=⟨⟨.refl _ _,λb u=>.inl (by simp[u]),λ_ h=>nomatch h⟩,hT,hl,λ_ h=>(nomatch h),λb u=>.inl u,λb u=>by simp[u],λb u G=>by simp only[zD] at G;rcases G with G|G|G;exact d1 b u G;exact d2 b u G;exact d3 b u G⟩;have hF:∀ {Bx:KD},(∀b∈Bx,b∈Bn\/b∈Br)->(∀b∈Bx,b∉Bl)->∀b∈Bx,b∉Bl++F:=λh1 h2 b u G=>(zD.1 G).elim (h2 b u) λG=>hT.yf b (by rcases h1 b u with h|h<;>simp[h]) G;have dn:=hF (Bx:=Bn) (λb u=>.inl u) λb u G=>d1 b G u;obtain⟨nk,nv,on⟩:=hn.Dv (S0:=Bl++F) dn;obtain⟨rk,rv,E⟩:=hr.Dv (S0:=Bl++F) (hF (λb u=>.inr u) λb u G=>d2 b G u);have aa:∀b∈Bl++F,b∈Zo FD (Bl++(Bn++(Br++Y))) F:=λb u=>by rcases zD.1 u with u|u<;>simp[u]
 have nZ:∀ {w' T x' n' B'},Ed dbk pb FD D j (Bl++F) Bl w0 w' T (Bn++(Br++Y)) F M x' n' B'->ow (Zo FD (Bl++(Bn++(Br++Y))) F) w0 (Zo FD (T++(B'++(Bn++(Br++Y)))) F):=λe=>e.base aa (λb u=>by simp[u]) oM λb u=>by simp only[Zo,zD,zG] at u⊢;rcases u with h|h|h<;>simp[h]
 have nw:∀ {w' T x' n' B'},Ed dbk pb FD D j (Bl++F) Bl w0 w' T (Bn++(Br++Y)) F M x' n' B'->sA (Bl++F) (Zo FD (T++(B'++(Bn++(Br++Y)))) F) w' x n nk nv:=λe=>on.j0 e.fr (λb u=>u) aa (λb u=>.inl u) (nZ e);have R:∀ {w' T x' n' B'},Ed dbk pb FD D j (Bl++F) Bl w0 w' T (Bn++(Br++Y)) F M x' n' B'->sA (Bl++F) (Zo FD (T++(B'++(Bn++(Br++Y)))) F) w' xr nr rk rv:=λe=>E.j0 e.fr (λb u=>u) aa (λb u=>.inl u) (nZ e);have ab:i<nk.length:=(by rw[on.vV];exact hi);have a1:=sn.inner av;have ac:i<n.J8.length:=oK;have ae:i+1<n.J8.length:=oK;have z1:=sl.J5;have z2:=sl.J9;have z3:=sl.J8;have z4:=sr.J5;have z5:=sr.J9;have z6:=sr.J8;have z7:=sn.J5;have z8:=sn.J8;have a2:=E.vV;have a3:=E.A6;have h:=oF [] w0;refine oB h λr1 w2 _ _ h=>oB h λr3 w4 _ _ h=>oB h λr5 w6 _ _ h=>oB h λr7 w8 _ _ h=>oB h λr9 a4 _ _ h=>jf (λ_ w'=>∃I B',ed [r9,r7,r5,r3,r1] w' w' [(r9,.c (fE gp) ND),(r7,.c (fE xr) ND),(r5,.c (fE (xl.1,I,xl.2.2)) ND),(r3,.c (fE x) ND),(r1,.c (qe (lg k v pb t)) WK)]/\
  Ed dbk pb FD D j (Bl++F) Bl w0 w' [r9,r7,r5,r3,r1] (Bn++(Br++Y)) F M (xl.1,I,xl.2.2) { nl with J5:=if nl.Q3 then nl.J5 else nl.J5++[n.J5.getD i []] } B') ?_ ?_
 refine KA h 2 rfl xl.1 ?_;apply eV<;>intro C;have C:nl.Q3=false:=(by rw[hl.1,zT] at C;exact C);rw[iN (show ¬nl.Q3=true by rw[C];decide),on.pd ab];have h:=oG h;refine KA h 2 rfl xl.2.1<|KA h 3 rfl x.2.1<|eE.get (on.rk.q8 h.fr) i rfl (x:=nk[i].1) (by rw[zQ,zA ab];rfl) (y:=nk[i].1) rfl<|oB h λa5 a6 _ _ h=>ja (h.cell 3) ?_;have e:=e0.J0 h;exact e.rW h oK 0 rfl ((nw e).ek _ (zX ab)) (by rw[<- on.pd ab];exact vz on.nb.1 _) λI B1 a7 e h _=>oE h 3 rfl (fE (xl.1,I,xl.2.2)) λa8 h _=>⟨I,B1,nf h (.cons _ (.refl _)),(e.J0 h).sub oM⟩;have C:nl.Q3=true:=(by rw[hl.1,yF] at C;exact C);rw[iP C];exact⟨xl.2.1,Bl,nf h (.refl _),e0.J0 h⟩;rintro _ a9 ⟨I,B1,h,e⟩;have e:=e.J0 h;have h:=nf h (.refl _);refine KA h 2 rfl I<|KA h 1 rfl xr.2.1 ?_;have aO:(if nl.Q3 then nl.J5 else nl.J5++[n.J5.getD i []]).length<=2001:=by split;omega;rw[zF,xO];omega
 refine e.ze h oO (R e).rk (R e).ek (by rw[E.J5];exact E.nb.1) λU B2 ba e h _=>?_;rw[E.J5] at e;refine oE h 2 rfl (fE (xl.1,U,xl.2.2.1,xl.2.2.2)) λbb h _=>KA h 2 rfl xl.2.2.1<|KA h 1 rfl xr.2.2.1 ?_;have e:=e.J0 h;refine e.xu h oO (R e).rv (R e).ev (by rw[E.J9];exact E.nb.2.1) λad B3 bc e h _=>?_;rw[E.J9] at e;refine oE h 2 rfl (fE (xl.1,U,ad,xl.2.2.2)) λbd h _=>KA h 2 rfl xl.2.2.2<|KA h 1 rfl xr.2.2.2 ?_;have e:=e.J0 h;refine e.yh h oO (R e).ri E.nb.2.2 λaf B4 bf e h _=>oE h 2 rfl (fE (xl.1,U,ad,af)) λbg h _=>?_;have h:=oG h;have e:=e.J0 h;have h:=nf h (.refl _);refine KC h 4 rfl (lg k v pb t)<|KA h 3 rfl x.2.2.2<|eE.get (nw e).ri i rfl (x:=n.J8[i]) (zA ac) (y:=n.J8[i]) rfl<|KC h 2 rfl (xl.1,U,ad,af) ?_;have hJ:({ Q3:=nl.Q3,J5:=(if nl.Q3 then nl.J5 else nl.J5++[n.J5.getD i []])++nr.J5,J9:=nl.J9++nr.J9,J8:=nl.J8++nr.J8 }:dW)=mc nl nr (n.J5.getD i []):=rfl;have ax:n.J8.getD i 0=n.J8[i]:=wU ac;have aj:n.J8.getD (i+1) 0=n.J8[i+1]:=wU ae;unfold mZ at O;rw[ax,aj,<- hJ] at O;have ay:=e.cD.j6 λb u=>.inl (qBX b u);have e:=e.Q9 hn dn aa (λb u=>by simp[u]) oM qCr (Y1:=Y) qBW d5 hn.lt;refine yu e.tw ay (by dsimp only;rw[zF];omega) (by dsimp only;rw[zF];omega) (by dsimp only;rw[zF];omega) λF1 bj ak az aA=>?_;obtain⟨e,h⟩:=e.next h ak az aA;generalize aB:ee k v M n.J8[i] { Q3:=nl.Q3,J5:=(if nl.Q3 then nl.J5 else nl.J5++[n.J5.getD i []])++nr.J5,J9:=nl.J9++nr.J9,J8:=nl.J8++nr.J8 }=st at O e⊢;have hu:iZ st.1.1:=(by rw[<- aB];exact yb hT.wf (hn.2.1.2.2 _ (zX ac)));obtain⟨⟨bk,J⟩,M1⟩:=st;dsimp only at O e hu⊢;refine jf (λer w'=>∃F2,er=(if J=0 then (fX M1 n.J8[i+1]).1 else J)/\ed [r9,r7,r5,r3,r1] w' w' [(r9,.c (fE gp) ND),(r7,.c (fE xr) ND),(r5,.c (fE (xl.1,U,ad,af)) ND),(r3,.c (fE x) ND),(r1,.c (qe (lg k v pb t)) WK)]/\
  Ed dbk pb FD D j (Bn++(Bl++F)) Bn w0 w' [r9,r7,r5,r3,r1] Y F2 (if J=0 then (fX M1 n.J8[i+1]).2 else M1) x n Bn) ?_ ?_
 apply eV<;>intro C;have C:J=0:=yQ.1 C;rw[iP C,iP C];have h:=oG h;refine KA h 4 rfl (pW pb)<|KA h 3 rfl x.2.2.2 ?_;have e:=e.J0 h;have ew:wrap .i64 ((i:Int)+1)=((i+1:Nat):Int):=ud oK;refine eE.get e.y9 (i+1) ew (x:=n.J8[i+1]) (zA ae) (y:=n.J8[i+1]) rfl<|TW.drop e.tw λF2 bl al aC aD=>?_;obtain⟨e,h⟩:=e.next h al aC aD
 exact⟨F2,rfl,h,e⟩;have C:¬J=0:=zR.1 C;rw[iN C,iN C];exact⟨F1,rfl,h,e⟩;rintro er bm ⟨F2,rfl,h,e⟩;have e:=e.J0 h;have h:=nf h (.refl _);have aE:∀ {A B:(dW×Int)×eZ},(if J≠0 then A else B)=if J=0 then B else A:=by intro A B;by_cases h:J=0;rw[iN λh'=>h' h,iP h];rw[iP h,iN h]
 rw[aE] at O;apply eV<;>intro C;have C:(if J=0 then (fX M1 n.J8[i+1]).1 else J)≠0:=by rw[zT] at C;exact zR.1 C
 refine oE h 0 rfl (fE gp) λam h _=>KC h 0 rfl gp ?_;have e:=e.J0 h;by_cases h0:J=0;rw[iP h0] at O C e⊢;rw[iP C] at O;exact O gp [] F2 am e.tI.j7 (.zero _ _) e.fr (λ_ h=>(nomatch h)) e.sg.new;rw[iN h0] at O C e⊢;exact O gp [] F2 am e.tI.j7 (.zero _ _) e.fr (λ_ h=>(nomatch h)) e.sg.new;have C:(if J=0 then (fX M1 n.J8[i+1]).1 else J)=0:=by rw[yF] at C;exact yQ.1 C
 by_cases h0:J=0;rw[iP h0] at O C e;rw[iN λh=>h C] at O;refine KA h 3 rfl x.2.2.2<|e.qa h (i:=i) ac rfl hu λB1 bo e h _=>?_;have h:=oG h;refine KA h 3 rfl x.2.2.2<|KA h 3 rfl x.2.1 ?_;have e:=e.J0 h;have ew:wrap .i64 ((i:Int)+1)=((i+1:Nat):Int):=ud oK;have aF:wrap .i64 ((i:Int)+2)=((i+1+1:Nat):Int):=(by rw[gu _ oK];omega);refine e.Jf h (i:=i+1) (by dsimp only;rw[xI];omega) ew aF (by dsimp only;rw[xI];omega) λQ B2 bp e h _=>ja (h.cell 3)<|e.Dt h (i:=i) hi rfl ew oO λV B3 bq e h _=>oE h 3 rfl (fE (x.1,x.2.1,x.2.2.1,Q)) λbt h _=>oE h 3 rfl (fE (x.1,V,x.2.2.1,Q)) λbu h _=>KC h 3 rfl (x.1,V,x.2.2.1,Q)<|oE h 0 rfl (fE (x.1,V,x.2.2.1,Q)) λaG h _=>KC h 0 rfl (x.1,V,x.2.2.1,Q) ?_;have e:=e.J0 h;refine O (x.1,V,x.2.2.1,Q) B3 F2 aG e.tw.j7 (e.node.j6 λb u=>.inl (by simp only[Zo,zD,zG] at u⊢;rcases u with (u|u|u|u)|u<;>simp[u])) e.fr e.cK e.sg.new;rw[iN h0] at C;exact absurd C h0
end
end
end
end Go.Proofs.YtfneoijhmknlnaaGreatDoor
