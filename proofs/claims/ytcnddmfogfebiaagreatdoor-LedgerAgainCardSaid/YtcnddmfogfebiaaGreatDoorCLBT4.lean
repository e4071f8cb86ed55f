/- Conditions: those that stand in each line. -/
import Derived.Test.YtcnddmfogfebiaaGreatDoorCLBT3
import Derived.Test.YtcnddmfogfebiaaGreatDoorCLBT1
set_option linter.unusedVariables false
set_option linter.unusedSimpArgs false
set_option linter.defProp false
namespace Go.Proofs.YtcnddmfogfebiaaGreatDoor
open Go Go.Pt
attribute [local irreducible] ld dP iA qg kO eX st new idx kz gi jH nD gV nn call dU inv run eO jt join loop held ext mn fc pZ qG qz IntKind.wrap
open Go.Proofs.Tryz (prog)
open Go Go.Pt List
open Go.IntKind (wrap)
open Classical
variable {M M' M1:eU} {n:dX} {k v mid i n1 n2 h:Nat} {p q:Int} {D:dQ} {J8:Bool} {L L1 L2:iF} {key val m:Key} {es A B:List lI} {e:lI} {s s1 s2:jF} {g:Grown} {b:Ml}
def I9(G:M.Wf)(I:M.Q3=false)(J:jq n k v)(h:eN M p)(O:M.Q1≠[]): ∃q M',ee k v M p n=((q,0),M')/\Step D M M' [p] [q]/\dO D M' q=(jQ n,ib n,0)/\M.Q1.length<=M'.Q1.length+1/\(p∈M.J8.map (·.1)->q=p/\M'.Q1=M.Q1):=by obtain⟨q,M',e,t,U,V,hx⟩:=qvn G I J (.inr h) O;have E:p≠0:=(by have:=(Ex G h).1;omega);rw[iN E] at t;exact⟨q,M',e,t.step I h U,(t.wrote _ rfl).1,V,hx⟩
def JX(I:M.Wf)(E:M.Q3=false)(J:jq n k v)(O:M.Q1≠[]): ∃q M',ee k v M 0 n=((q,0),M')/\Step D M M' [] [q]/\dO D M' q=(jQ n,ib n,0)/\M.Q1.length<=M'.Q1.length+1/\q≠0:=by obtain⟨q,M',e,t,U,V,_⟩:=qvn (D:=D) I E J (.inl rfl) O;rw[iP rfl] at t;have G:=t.wrote _ rfl;have h2:=(Ex t.wf G.2).1;have h:=U.resolve_left oL;exact⟨q,M',e,t.J8 E h,G.1,V,oL⟩
def qnW(h:M.Wf)(E:M.Q3=false)(G:jq n k v)(V:(fC n k v).1<=(fC n k v).2)(I:eN M p)(J:M.Q1≠[]): ∃q M',gT k v M p n J8=((⟨q,J8,[],0⟩,0),M')/\Step D M M' [p] [q]/\dO D M' q=(jQ n,ib n,0)/\M.Q1.length<=M'.Q1.length+1:=by obtain⟨q,M',e,st,O,U,_⟩:=I9 h E G I J;refine⟨q,M',?_,st,O,U⟩;unfold gT;rw[iN,e]
def qsQ(hW:M.Wf)(ho:M.Q3=false)(G:(fC n k v).1 / 2=mid)(h1:jq (eP n mid).1 k v)(h2:jq (eP n mid).2.1 k v)(hs:(fC n k v).1>(fC n k v).2)(hp:eN M p)(hf:2<=M.Q1.length): ∃q o M',gT k v M p n J8=((⟨q,J8,(eP n mid).2.2,o⟩,0),M')/\o≠0/\Step D M M' [p] [q,o]/\dO D M' q=(jQ (eP n mid).1,ib (eP n mid).1,0)/\dO D M' o=(jQ (eP n mid).2.1,ib (eP n mid).2.1,0)/\M.Q1.length<=M'.Q1.length+2:=by
 subst G;obtain⟨o,M1,e1,E,V,I,aa⟩:=JX (D:=D) hW ho h2 (λe=>by rw[e] at hf;exact absurd hf oO);have s1:=E.beside (λx hx=>by rw[zE.1 hx];exact hp) oN;have ac:=s1.has p oN;obtain⟨q,M2,e2,J,ad,ao,_⟩:=I9 (D:=D) E.wf E.Q3 h1 ac (λe=>by rw[e] at I;simp at I;omega);have O:o≠p:=λe=>by rcases E.new o oN with h|h;cases h;exact h (e▸hp)
 have U:=E.has o oN;have s2:=J.beside (λx hx=>by rw[zE.1 hx];exact U) (oS O);refine⟨q,o,M2,?_,aa,(s1.perm (.refl _) (List.Perm.swap _ _ _)).trans (s2.perm (.refl _) (List.Perm.swap _ _ _)),ad,?_,oL⟩;unfold gT;rw[iP hs,e1];rw[iN λh=>h rfl,e2];rw[(J.rest o U (oS O)).1];exact V
def qEV(h:(eE L)[i]?=some key):(⟨(fL L).Q4,eE L,(fL L).Q0.set i val,(fL L).J9⟩:dX)=fL (L.set i (key,val)):=by
 unfold fL;rw[map_set,map_set];have:(L.map (·.1)).set i key=L.map (·.1):=by obtain⟨E,G⟩:=zP.1 h;rw[<- G];exact set_getElem_self E
 rw[this]
def qD2:(⟨(fL L).Q4,gz (eE L) i key,gz (fL L).Q0 i val,(fL L).J9⟩:dX)=fL (L.take i++[(key,val)]++L.drop i):=by unfold fL gz;simp only[xL,xN,xO,xM,map_nil]
def qAf(h:mid<L.length):eP (fL L) mid=(fL (L.take mid),fL (L.drop mid),L[mid].1):=by unfold eP;rw[iP (show (fL L).Q4=true from rfl)];unfold fL;simp only[xN,xO,Prod.mk.injEq,true_and];rw[yR,zQ,zA h];rfl
def Gr:fC (fL L) k v=(L.length,(eG k v).1):=by unfold fC;rw[iP (show (fL L).Q4=true from rfl)];show ((L.map _).length,_)=_;rw[zK]
def pg.sub{L':iF}(h:pg k v L)(E:∀x∈L',x∈L):pg k v L':=λx G=>h x (E x G)
def gq.take(h:gq L)(n:Nat):gq (L.take n):=by unfold gq eE;rw[xN];exact gQ.take h n
def gq.drop(h:gq L)(n:Nat):gq (L.drop n):=by unfold gq eE;rw[xO];exact gQ.drop h n
def Ea(h:jq (fL L) k v)(E:dO D M q=(3,ib (fL L),0)):Has D M k v 0 ⟨q,L.length,L,[q]⟩:=⟨rfl,rfl,h,E⟩
structure A5 (D:dQ) (M:eU) (k v:Nat) (h:Nat) (s:jF) (key val:Key) (g:Grown) (M':eU):Prop where
 J8:g.J8=decide (key∉eE s.y5)
 Q1:M.Q1.length<=M'.Q1.length+2*(h+1)
 GH:(g.x4=0/\∃ n P,Has D M' k v h ⟨g.x5,n,gF key val s.y5,P⟩/\Step D M M' s.y6 P/\s.size<=n)\/
  (g.x4≠0/\∃ n1 L1 P1 n2 L2 P2,Has D M' k v h ⟨g.x5,n1,L1,P1⟩/\Has D M' k v h ⟨g.x4,n2,L2,P2⟩/\L1++L2=gF key val s.y5/\(∀ x∈L1,gX x.1 g.key)/\(∀ y∈L2,pr g.key y.1)/\g.key.length=k/\fj g.key/\minOf k v h<=n1/\minOf k v h<=n2/\Step D M M' s.y6 (P1++P2))
structure jh (k v:Nat):Prop where
 Q4:2<=(eG k v).1
 inner:4<=(eG k v).2
def qu4{L':iF}(hc:jh k v)(hW:M.Wf)(ho:M.Q3=false)(hp:eN M p)(hf:2<=M.Q1.length)(hL:pg k v L')(hs:gq L')(h1:1<=L'.length)(h2:L'.length<=(eG k v).1+1)(h3:L.length<=L'.length)(he:L'=gF key val L)(G:J8=decide (key∉eE L)): ∃g M',gT k v M p (fL L') J8=((g,0),M')/\A5 D M k v 0 ⟨p,L.length,L,[p]⟩ key val g M':=by by_cases hb:L'.length<=(eG k v).1;have hn:=EB hL hs h1 hb;obtain⟨q,M',e,st,hr,hl⟩:=qnW hW ho hn (by rw[Gr];exact hb) hp (λe=>by rw[e] at hf;exact absurd hf oO);refine⟨_,M',e,G,by show M.Q1.length<=M'.Q1.length+2;omega,.inl ⟨rfl,L'.length,[q],?_,st,h3⟩⟩;rw[<- he];exact Ea hn hr;have ax:=hc.Q4;have h:L'.length / 2<L'.length:=oL;have hh:=qAf h;have n1:jq (fL (L'.take (L'.length / 2))) k v:=EB (hL.sub λx I=>yV I) (hs.take _) (by rw[yL];omega) (by rw[yL];omega);have n2:jq (fL (L'.drop (L'.length / 2))) k v:=EB (hL.sub λx I=>yU I) (hs.drop _) (by rw[yC];omega) (by rw[yC];omega);obtain⟨q,o,M',e,af,st,J,O,hl⟩:=qsQ (k:=k) (v:=v) (n:=fL L') hW ho (by rw[Gr]) (by rw[hh];exact n1) (by rw[hh];exact n2) (by rw[Gr];show L'.length>_;omega) hp hf;rw[hh] at e J O;have U:L'=L'.take (L'.length / 2)++L'.drop (L'.length / 2):=(xD _ _).symm;have hd:=zX h;have E:=hs;rw[U] at E;have E:=gq.xq.1 E;have V:=hL _ (zW h);refine⟨⟨q,J8,L'[L'.length / 2].1,o⟩,M',e,G,by show M.Q1.length<=M'.Q1.length+2;omega,.inr ⟨af,(L'.take (L'.length / 2)).length,_,[q],(L'.drop (L'.length / 2)).length,_,[o],Ea n1 J,Ea n2 O,by rw[<- U];exact he,λx I=>E.2.2 x I _ (by rw[hd];exact LQ),λy hy=>?_,V.1,V.2.2.1,?_,?_,st⟩⟩;have h5:=E.2.1;rw[hd] at hy h5;rcases zG.1 hy with rfl|hy;exact uL;exact wu (CX (x:=L'[L'.length / 2].1) (r:=eE _) h5 y.1 (zY hy));rw[yL];show (eG k v).1 / 2<=_;omega;rw[yC];show (eG k v).1 / 2<=_;omega
def G0(E:(es.map (·.1)).head?=some [])(V:gI es):∃A e B,es=A++e::B/\A.length=ga ((es.map (·.1)).tail) key/\pr e.1 key/\(∀b∈B,gX key b.1)/\(es.map (·.2.x5)).getD (ga ((es.map (·.1)).tail) key) 0=e.2.x5:=by
 have hr:=V.rising;have G:=FN ((es.map (·.1)).tail) key;have I:es≠[]:=λe=>by rw[e] at E;cases E
 have O:=length_pos_iff.2 I;have h:ga ((es.map (·.1)).tail) key<es.length:=(by rw[length_tail,zK] at G;omega);generalize U:ga ((es.map (·.1)).tail) key=c at h;have J:es=es.take c++es[c]::es.drop (c+1):=(by rw[<- zX h,xD]);refine⟨es.take c,es[c],es.drop (c+1),J,by rw[yL];omega,?_,λb hb=>?_,?_⟩;cases c with
 | zero=>
  have:es[0].1=[]:=by
   cases es with
   | nil=>cases E
   | cons a r=>simpa using E
  rw[this];exact ES _
 | succ c=>
  refine qyb (l:=(es.map (·.1)).tail) ?_;rw[U];have h1:(es.map (·.1)).tail[c]?=some es[c+1].1:=(by rw[List.getElem?_tail,zQ,zA h];rfl);refine yF (i:=c) ?_;rw[xB,iP];exact h1
 refine qv0 hr ?_;rw[U];have:(es.map (·.1)).tail.drop c=(es.drop (c+1)).map (·.1):=(by rw[<- drop_one,xC,xO,Nat.add_comm]);rw[this];exact zY hb;rw[yR,zQ,zA h];rfl
def uq{α:Type}{f:lI->List α}:(A++e::B).flatMap f=A.flatMap f++(f e++B.flatMap f):=by rw[yQ,yH]
def gI.put(h:gI (A++e::B))(O:pr e.1 key)(U:∀b∈B,gX key b.1)(hs:∀x∈s.y5,x.1=key\/x∈e.2.y5):gI (A++(e.1,s)::B):=by have J:=pairwise_append.1 h.pair;have V:=yJ.1 J.2.1;refine⟨pairwise_append.2 ⟨J.1,yJ.2 ⟨λb E=>⟨(V.1 b E).1,λx I=>?_⟩,V.2⟩,λa ha b E=>?_⟩,λb E x I=>?_⟩;rcases hs x I with G|G;rw[G];exact U b E;exact (V.1 b E).2 x G;rcases zG.1 E with rfl|E;exact J.2.2 a ha e oN;exact J.2.2 a ha b (by simp[E]);rcases zD.1 E with E|E;exact h.low b (by simp[E]) x I;rcases zG.1 E with rfl|E;rcases hs x I with G|G;rw[G];exact O;exact h.low e oN x G;exact h.low b (by simp[E]) x I
def gI.CC{lo:Key}(h:gI (A++(lo,s)::B))(J:s.y5=s1.y5++s2.y5)(h1:∀x∈s1.y5,gX x.1 m)(h2:∀y∈s2.y5,pr m y.1)(O:s1.y5≠[])(U:s2.y5≠[]):gI (A++(lo,s1)::(m,s2)::B):=by have hp:=pairwise_append.1 h.pair;have V:=yJ.1 hp.2.1;have aa:=h.low (lo,s) oN;obtain⟨x1,ab⟩:=exists_mem_of_ne_nil _ O;obtain⟨y1,ac⟩:=exists_mem_of_ne_nil _ U;have hm:=Ec (aa x1 (by show x1∈s.y5;rw[J];exact zH _ ab)) (h1 x1 ab);have ah:∀b∈B,gX m b.1:=λb E=>Ec (h2 y1 ac) ((V.1 b E).2 y1 (by show y1∈s.y5;rw[J];exact zI _ ac));refine⟨pairwise_append.2 ⟨hp.1,yJ.2 ⟨λb E=>?_,yJ.2 ⟨λb E=>⟨ah b E,λx G=>(V.1 b E).2 x (by show x∈s.y5;rw[J];exact zI _ G)⟩,V.2⟩⟩,λa ha b E=>?_⟩,λb E x G=>?_⟩;rcases zG.1 E with rfl|E;exact⟨hm,λx G=>h1 x G⟩;exact⟨(V.1 b E).1,λx G=>(V.1 b E).2 x (by show x∈s.y5;rw[J];exact zH _ G)⟩;have I:=hp.2.2 a ha (lo,s) oN;rcases zG.1 E with rfl|E;exact I;rcases zG.1 E with rfl|E;exact⟨t8 I.1 hm,λx G=>t8 (I.2 x G) hm⟩;exact hp.2.2 a ha b (by simp[E]);rcases zD.1 E with E|E;exact h.low b (by simp[E]) x G;rcases zG.1 E with rfl|E;exact aa x (by show x∈s.y5;rw[J];exact zH _ G);rcases zG.1 E with rfl|E;exact h2 x G;exact h.low b (by simp[E]) x G
def FP:fC (eK es) k v=(es.length,(eG k v).2):=by unfold fC;rw[iN (show ¬(eK es).Q4=true from λe=>nomatch e)];show ((es.map _).length,_)=_;rw[zK]
def lK:List lI->List lI
 | []=>[]
 | e::r=>([],e.2)::r
def qCi(es:List lI):eK (lK es)=eK es:=by cases es<;>rfl
def qzY(I:1<=mid)(h:mid<es.length):eP (eK es) mid=(eK (es.take mid),eK (lK (es.drop mid)),es[mid].1):=by
 unfold eP;rw[iN (show ¬(eK es).Q4=true from λe=>nomatch e),qCi];unfold eK;have e1:(es.map (·.1)).tail.take (mid-1)=((es.take mid).map (·.1)).tail:=by rw[<- drop_one,<- drop_one,xN,drop_take]
 have E:(es.map (·.1)).tail.drop mid=((es.drop mid).map (·.1)).tail:=(by rw[<- drop_one,<- drop_one,xO,xC,xC,Nat.add_comm]);have G:(es.map (·.1)).tail.getD (mid-1) []=es[mid].1:=(by rw[yR,List.getElem?_tail,zQ,show mid-1+1=mid by omega,zA h];rfl);dsimp only;rw[e1,E,G];simp only[xN,xO]
def gI.take(h:gI es)(n:Nat):gI (es.take n):=⟨List.Pairwise.sublist (take_sublist n es) h.pair,λe E=>h.low e (yV E)⟩
def gI.drop(h:gI es)(n:Nat):gI (es.drop n):=⟨List.Pairwise.sublist (drop_sublist n es) h.pair,λe E=>h.low e (yU E)⟩
def gI.lK(h:gI es):gI (lK es):=by
 cases es with
 | nil=>exact h
 | cons e r=>
  have G:=yJ.1 h.pair;refine⟨yJ.2 ⟨λb E=>⟨?_,(G.1 b E).2⟩,G.2⟩,λb E x J=>?_⟩;have:=(G.1 b E).1
  cases I:b.1 with|nil=>rw[I] at this;exact absurd this qnN|cons y l=>show cmpL [] (y::l)<0;simp[cmpL]
  rcases zG.1 E with rfl|E;exact ES _;exact h.low b (zN _ E) x J
def qqk{α:Type}{f:jF->List α}(es:List lI):(lK es).flatMap (λe=>f e.2)=es.flatMap λe=>f e.2:=by cases es<;>rfl
def qsG{P:jF->Prop}(h:∀e∈es,P e.2):∀e∈lK es,P e.2:=by
 cases es with
 | nil=>exact h
 | cons a r=>
  intro e E;rcases zG.1 E with rfl|E;exact h a oN;exact h e (zN _ E)
def qyv(h:es≠[]):((lK es).map (·.1)).head?=some []:=by cases es with|nil=>exact absurd rfl h|cons a r=>rfl
def qAJ(es:List lI):(lK es).length=es.length:=by cases es<;>rfl
def iw (k:Nat) (es:List lI):Prop:=∀e∈es.tail,e.1.length=k/\fj e.1
def iw.tail(h:iw k es):∀a∈(es.map (·.1)).tail,a.length=k/\fj a:=λa E=>by rw[<- map_tail] at E;obtain⟨e,G,rfl⟩:=mem_map.1 E;exact h e G
def iw.of(h:jq (eK es) k v):iw k es:=λe E=>by have:e.1∈(eK es).J6:=(by show e.1∈(es.map (·.1)).tail;rw[<- map_tail];exact zY E);exact⟨h.right.1 _ this,h.J6 _ this⟩
def Be(E:M.Wf){x:Int}(h:eN M x):2<=x/\x<4294967296:=by have G:=Ex E h;have I:=E.n4;omega
def C9(E:(es.map (·.1)).head?=some [])(G:jq (eK es) k v)(I:dO D M q=(4,ib (eK es),0))(J:gI es)(O:∀e∈es,Has D M k v h e.2/\minOf k v h<=e.2.size): Has D M k v (h+1) ⟨q,es.length,es.flatMap (·.2.y5),q::es.flatMap (·.2.y6)⟩:=⟨es,E,rfl,rfl,rfl,G,I,J,O⟩
def qCh(V:((A++e::B).map (·.1)).head?=some [])(E:g.x5=s1.x5)(G:g.x4=s2.x5)(I:g.key=m)(J:g.x4≠0):iz (eK (A++e::B)) A.length g=eK (A++(e.1,s1)::(m,s2)::B):=by
 unfold iz;rw[iP J,E,G,I];unfold eK gz;dsimp only;congr 1;cases A with
 | nil=>simp
 | cons a A=>
  have:(A.map (·.1)++e.1::B.map (·.1)).take (A.length+1)=A.map (·.1)++[e.1]:=(by rw[show A.map (·.1)++e.1::B.map (·.1)=(A.map (·.1)++[e.1])++B.map (·.1) by simp];exact take_left' oN);have O:(A.map (·.1)++e.1::B.map (·.1)).drop (A.length+1)=B.map (·.1):=(by rw[show A.map (·.1)++e.1::B.map (·.1)=(A.map (·.1)++[e.1])++B.map (·.1) by simp];exact drop_left' oN);simp only[xL,xM,xI,tail_cons,yI];rw[this,O];simp
 have U:(A.map (·.2.x5)).length=A.length:=zK _;have h:(A.map (·.2.x5)++e.2.x5::B.map (·.2.x5)).set A.length s1.x5=(A.map (·.2.x5)++[s1.x5])++B.map (·.2.x5):=(by rw[set_append_right _ _ oL,U,Nat.sub_self];simp);simp only[xL,xM];rw[h,take_left' oN,drop_left' oN];simp
def qzX(E:g.x5=s1.x5)(G:g.x4=0):iz (eK (A++e::B)) A.length g=eK (A++(e.1,s1)::B):=by unfold iz;rw[iN λh=>h G,E];unfold eK;have I:(A.map (·.2.x5)).length=A.length:=zK _;congr 1;simp;simp only[xL,xM];rw[set_append_right _ _ oL,I,Nat.sub_self];rfl
def Ho{α:Type}{a x b z:List α}:(a++(x++b)).Perm ((a++b)++x):=by rw[zV];exact List.Perm.append_left a perm_append_comm
def Step.node{I:eU}{a x y:Ml}{Q:Ml}(J:∀z∈p::(a++(x++b)),eN M z)(O:(p::(a++(x++b))).Nodup)(U:Step D M M1 x y)(V:Step D M1 I [p] Q):Step D M I (p::(a++(x++b))) (Q++(a++(y++b))):=by have h:(p::(a++(x++b))).Perm ((p::(a++b))++x):=(by rw[xI];exact (Ho (z:=a)).cons p);have s1:=(U.beside (Z:=p::(a++b)) (λz G=>J z (h.mem_iff.2 (zH _ G))) (h.nodup_iff.1 O));have E:((p::(a++b))++y).Perm ((a++(y++b))++[p]):=(by refine List.Perm.trans ?_ perm_append_comm;rw[xI];exact ((Ho (z:=a)).symm).cons p);have s2:=V.beside (Z:=a++(y++b)) (λz G=>s1.has z (E.mem_iff.2 (zH _ G))) (E.nodup_iff.1 s1.nodup);exact ((s1.perm (h.symm) E).trans s2).perm (.refl _) perm_append_comm
def qnz(hW:M.Wf)(O:M.Q3=false)(h0:(es.map (·.1)).head?=some [])(U:jq (eK es) k v)(E:es.length<=(eG k v).2)(hs:gI es)(I:∀e∈es,Has D M k v h e.2/\minOf k v h<=e.2.size)(hu:eN M p)(J:p∉es.flatMap (·.2.y6))(V:1<=M.Q1.length): ∃q M',gT k v M p (eK es) J8=((⟨q,J8,[],0⟩,0),M')/\Step D M M' [p] [q]/\Has D M' k v (h+1) ⟨q,es.length,es.flatMap (·.2.y5),q::es.flatMap (·.2.y6)⟩/\M.Q1.length<=M'.Q1.length+1:=by obtain⟨q,M',e,st,hr,hl⟩:=qnW hW O U (by rw[FP];exact E) hu (λe=>by rw[e] at V;exact absurd V oO);refine⟨q,M',e,st,C9 h0 U hr hs λb G=>⟨(I b G).1.j0 λx hx=>?_,(I b G).2⟩,hl⟩;exact (st.rest x ((I b G).1.J4 O x hx) λhm=>J (yK.2 ⟨b,G,by rw[<- zE.1 hm];exact hx⟩)).1
def Du(I:M.Wf)(J:M.Q3=false)(O:iw k es)(U:gI es)(V:2<=es.length)(h3:es.length<=(eG k v).2)(E:∀e∈es,Has D M k v h e.2):jq (eK es) k v:=
 qDR O.tail U.rising V h3 λe G=>Be I ((E e G).J4 J e.2.x5 (E e G).mem)
def qyw(h:iw k es):iw k (lK es):=by cases es<;>exact h
def qz1(hc:jh k v)(hW:M.Wf)(ho:M.Q3=false)(h0:(es.map (·.1)).head?=some [])(hk:iw k es)(aE:es.length=(eG k v).2+1)(hs:gI es)(V:∀e∈es,Has D M k v h e.2/\minOf k v h<=e.2.size)(hu:eN M p)(ar:p∉es.flatMap (·.2.y6))(hf:2<=M.Q1.length): ∃q o m M' n1 L1 P1 n2 L2 P2,gT k v M p (eK es) J8=((⟨q,J8,m,o⟩,0),M')/\o≠0/\Step D M M' [p] [q,o]/\Has D M' k v (h+1) ⟨q,n1,L1,q::P1⟩/\Has D M' k v (h+1) ⟨o,n2,L2,o::P2⟩/\L1++L2=es.flatMap (·.2.y5)/\P1++P2=es.flatMap (·.2.y6)/\(∀x∈L1,gX x.1 m)/\(∀y∈L2,pr m y.1)/\m.length=k/\fj m/\minOf k v (h+1)<=n1/\minOf k v (h+1)<=n2/\M.Q1.length<=M'.Q1.length+2:=by
 have aM:=hc.inner;have G:es.length / 2<es.length:=oL;have hh:=qzY (es:=es) (mid:=es.length / 2) oL G;have lt:(es.take (es.length / 2)).length=es.length / 2:=(by rw[yL];omega);have ld:(lK (es.drop (es.length / 2))).length=es.length-es.length / 2:=(by rw[qAJ,yC]);have I:∀e∈es.take (es.length / 2),Has D M k v h e.2/\minOf k v h<=e.2.size:=λe E=>V e (yV E);have ax:∀e∈lK (es.drop (es.length / 2)),Has D M k v h e.2/\minOf k v h<=e.2.size:=qsG (P:=λs=>Has D M k v h s/\minOf k v h<=s.size) λe E=>V e (yU E);have ac:=hs.take (es.length / 2);have ad:=(hs.drop (es.length / 2)).lK;have ay:iw k (es.take (es.length / 2)):=λe E=>by refine hk e ?_;rw[<- drop_one,drop_take] at E;rw[<- drop_one];exact yV E
 have az:iw k (lK (es.drop (es.length / 2))):=qyw λe E=>by refine hk e ?_;rw[<- drop_one,xC,show es.length / 2+1=1+es.length / 2 by omega,<- xC] at E;rw[<- drop_one];exact yU E
 have n1:=Du hW ho ay ac oL oL λe E=>(I e E).1;have n2:=Du hW ho az ad oL oL λe E=>(ax e E).1;have J:es.take (es.length / 2)++es.drop (es.length / 2)=es:=xD _ _;have hd:=zX G;obtain⟨q,o,M',e,aB,st,ae,af,hl⟩:=qsQ (D:=D) (k:=k) (v:=v) (p:=p) (J8:=J8) (mid:=es.length / 2) (n:=eK es) hW ho (by rw[FP]) (by rw[hh];exact n1) (by rw[hh];exact n2) (by rw[FP];show es.length>_;omega) hu hf;rw[hh] at e ae af;have fr:∀b∈es,∀x∈b.2.y6,dO D M' x=dO D M x:=λb O x U=>
  (st.rest x ((V b O).1.J4 ho x U) λhm=>ar (yK.2 ⟨b,O,by rw[<- zE.1 hm];exact U⟩)).1
 have f1:∀e∈es.take (es.length / 2),Has D M' k v h e.2/\minOf k v h<=e.2.size:=λe E=>⟨(I e E).1.j0 (fr e (yV E)),(I e E).2⟩;have f2:∀e∈lK (es.drop (es.length / 2)),Has D M' k v h e.2/\minOf k v h<=e.2.size:=qsG (P:=λs=>Has D M' k v h s/\minOf k v h<=s.size) λe E=>⟨(V e (yU E)).1.j0 (fr e (yU E)),(V e (yU E)).2⟩;have aC:((es.take (es.length / 2)).map (·.1)).head?=some []:=by
  rw[xN];cases ah:es.map (·.1) with
  | nil=>rw[ah] at h0;cases h0
  | cons a r=>
   rw[ah] at h0;rw[show es.length / 2=(es.length / 2-1)+1 by omega,take_succ_cons];exact h0
 have aD:((lK (es.drop (es.length / 2))).map (·.1)).head?=some []:=qyv (by rw[hd];exact cons_ne_nil _ _);have ai:=hs;rw[<- J,hd] at ai;have hm:=ai.mid;have aj:=hk es[es.length / 2] (by rw[<- drop_one];exact yF (i:=es.length / 2-1) (by rw[xA,show 1+(es.length / 2-1)=es.length / 2 by omega,zA G]));have ep:(lK (es.drop (es.length / 2))).flatMap (·.2.y5)=(es.drop (es.length / 2)).flatMap (·.2.y5):=qqk (f:=jF.y5) _;have eg:(lK (es.drop (es.length / 2))).flatMap (·.2.y6)=(es.drop (es.length / 2)).flatMap (·.2.y6):=qqk (f:=jF.y6) _;have H2:=C9 aD n2 af ad f2;refine⟨q,o,es[es.length / 2].1,M',_,_,_,_,_,_,e,aB,st,C9 aC n1 ae ac f1,H2,?_,?_,λx U=>?_,λy hy=>?_,aj.1,aj.2,?_,?_,hl⟩;rw[ep,<- yQ,J];rw[eg,<- yQ,J];obtain⟨a,ha,U⟩:=yK.1 U;exact hm.1 a ha x U;rw[ep,hd] at hy;obtain⟨b,O,hy⟩:=yK.1 hy;rcases zG.1 O with rfl|O;exact hs.low _ (zW G) y hy;exact Dv (wu (hm.2 b O).1) ((hm.2 b O).2.2 y hy);show (eG k v).2 / 2<=_;omega;show (eG k v).2 / 2<=_;omega
def I1(h:iw k (A++e::B)):iw k (A++(e.1,s)::B):=by
 cases A with
 | nil=>exact h
 | cons a A=>
  intro b E;rcases zD.1 (show b∈A++(e.1,s)::B from E) with E|E;exact h b (show b∈A++e::B from zH _ E);rcases zG.1 E with rfl|E;exact h e (show e∈A++e::B from zI _ LQ);exact h b (show b∈A++e::B from zI _ (zN _ E))
def quH(h:iw k (A++e::B))(J:m.length=k/\fj m):iw k (A++(e.1,s1)::(m,s2)::B):=by
 have I:∀b∈(m,s2)::B,(∀c∈B,c.1.length=k/\fj c.1)->b.1.length=k/\fj b.1:=λb E O=>(zG.1 E).elim (λe=>by rw[e];exact J) (O b);cases A with
 | nil=>exact λb E=>I b E λc G=>h c G
 | cons a A=>
  intro b E;rcases zD.1 (show b∈A++(e.1,s1)::(m,s2)::B from E) with E|E;exact h b (show b∈A++e::B from zH _ E);rcases zG.1 E with rfl|E;exact h e (show e∈A++e::B from zI _ LQ);exact I b E λc G=>h c (show c∈A++e::B from zI _ (zN _ G))
def qxf(hc:jh k v){key val:Key}(hk:key.length=k/\fj key)(hv:val.length=v/\fj val):∀(h:Nat) (M:eU) (s:jF),Has D M k v h s->M.Wf->M.Q3=false->s.y6.Nodup->s.size<=1000->2*(h+1)<=M.Q1.length-> ∃g M',jg D k v key val (h+1) M s.x5=((g,0),M')/\A5 D M k v h s key val g M'
 | 0,M,⟨p,n,L,P⟩,⟨h1,h2,h3,h4⟩,hW,ho,aW,_,hf=>by
  dsimp only at h1 h2 h3 h4;subst h1 h2;have hp:eN M p:=JZ ho (by rw[h4]);have hl:dR D M k v p=(fL L,0):=h3.load h4;have hs:gq L:=h3.right.2.2.1;have hL:pg k v L:=λx I=>⟨h3.right.1 x.1 (zY I),h3.right.2.1 x.2 (zY I),h3.J6 x.1 (zY I),h3.Q0 x.2 (zY I)⟩;have O:=h3.right.2.2.2;rw[iP (show (fL L).Q4=true from rfl)] at O;have a6:1<=L.length/\L.length<=(eG k v).1:=by have e:(fL L).J6.length=L.length:=zK _;rw[e] at O;exact⟨O.2.1,O.2.2.1⟩
  have aX:(fL L).J6=eE L:=rfl;have al:=qx6 (v:=val) (k:=key) hs;have aA:pg k v (gF key val L):=λx I=>(EQ I).elim (λe=>by rw[e];exact⟨hk.1,hv.1,hk.2,hv.2⟩) (hL x);have aB:=HC (k:=key) (v:=val) hs;unfold jg;rw[hl];dsimp only;rw[iN λh=>h rfl,iP (show (fL L).Q4=true from rfl),aX];by_cases U:(eE L)[eh (eE L) key]?=some key;rw[iP U,qEV U];rw[iP U] at al;have an:=HO (v:=val) hs ((CO hs).1 U);rw[al] at aA aB an;exact qu4 hc hW ho hp oL aA aB oL oL oL al.symm (by rw[zU λh=>h ((CO hs).1 U)]);rw[iN U,qD2];rw[iN U] at al;have a7:key∉eE L:=λh=>U ((CO hs).2 h);have an:=HM (v:=val) a7;rw[al] at aA aB an;exact qu4 hc hW ho hp oL aA aB oL oL oL al.symm (by rw[yA a7])
 | h+1,M,⟨p,n,L,P⟩,⟨V,h0,h1,h2,h3,h4,h5,h6,h7⟩,hW,ho,aW,h8,hf=>by
  dsimp only at h1 h2 h3 h5 aW h8;subst h1 h2 h3;have hp:=JZ ho (by rw[h5]);have hl:=h4.load h5;have bV:=h4.right.x9;obtain⟨A,e,B,J,hA,aY,aZ,a0⟩:=G0 h0 h6;have a1:(eK V).J9.getD (ga (eK V).J6 key) 0=e.2.x5:=a0;have bF:ga (eK V).J6 key=A.length:=hA.symm;have bG:e∈V:=(by rw[J];simp);obtain⟨aD,ar⟩:=h7 e bG;have ae:∀z∈p::V.flatMap (·.2.y6),eN M z:=λz hz=>(zG.1 hz).elim (λe=>by rw[e];exact hp) λhz=>by obtain⟨b,E,hz⟩:=yK.1 hz;exact (h7 b E).1.J4 ho z hz
  have ah:V.flatMap (·.2.y6)=A.flatMap (·.2.y6)++(e.2.y6++B.flatMap (·.2.y6)):=(by rw[J,uq]);have af:V.flatMap (·.2.y5)=A.flatMap (·.2.y5)++(e.2.y5++B.flatMap (·.2.y5)):=(by rw[J,uq]);have aa:=aW;have aj:=ae;rw[ah] at aa aj;have bH:e.2.size<=1000:=by
   have:=Fw (k:=k) (v:=v)
   cases h with
   | zero=>
    have h9:=aD.2.2.1.right.2.2.2;rw[iP (show (fL e.2.y5).Q4=true from rfl)] at h9;have bI:=h9.2.2.1;have e1:(fL e.2.y5).J6.length=e.2.y5.length:=zK _;rw[e1] at bI;rw[aD.2.1];omega
   | succ h=>
    obtain⟨b2,_,g1,_,_,g4,_⟩:=aD;have:=g4.right.x9;rw[g1];omega
  have a8:=(yM.1 (yM.1 (nodup_cons.1 aa).2).2.1).1;obtain⟨g,M1,eg,ok⟩:=qxf hc hk hv h M e.2 aD hW ho a8 bH oL;have bK:=ok.Q1;have ak:=h6;rw[J] at ak;have au:=ak.mid;have a9:∀x∈A.flatMap (·.2.y5),gX x.1 key:=λx I=>by obtain⟨a,ha,I⟩:=yK.1 I;exact vY (au.1 a ha x I) aY
  have a':∀x∈B.flatMap (·.2.y5),gX key x.1:=λx I=>by obtain⟨b,E,I⟩:=yK.1 I;exact vY (aZ b E) ((au.2 b E).2.2 x I)
  have aP:gF key val (V.flatMap (·.2.y5))=A.flatMap (·.2.y5)++(gF key val e.2.y5++B.flatMap (·.2.y5)):=(by rw[af,EM a9,qnA a']);have aE:g.J8=decide (key∉eE (V.flatMap (·.2.y5))):=by rw[ok.J8];refine decide_eq_decide.2 (not_congr ⟨λU=>?_,λU=>?_⟩);obtain⟨x,I,rfl⟩:=mem_map.1 U;exact zY (by rw[af];exact zI _ (zH _ I));obtain⟨x,I,rfl⟩:=mem_map.1 U;rw[af] at I;rcases zD.1 I with I|I;exact absurd (a9 x I) uL;rcases zD.1 I with I|I;exact zY I;exact absurd (a' x I) uL
  have av:p∉e.2.y6:=λU=>(nodup_cons.1 aa).1 (zI _ (zH _ U));have ba:∀b,b∈A\/b∈B->∀z∈b.2.y6,z∉e.2.y6:=λb E z hz U=>by have h9:=yM.1 (nodup_cons.1 aa).2;rcases E with E|E;exact h9.2.2 z (yK.2 ⟨b,E,hz⟩) z (zH _ U) rfl;exact (yM.1 h9.2.1).2.2 z U z (yK.2 ⟨b,E,hz⟩) rfl
  have ag:=iw.of h4;have bc:∀ {MM:eU} {Q:Ml},Step D M MM e.2.y6 Q->p∉A.flatMap (·.2.y6)++(Q++B.flatMap (·.2.y6)):=λst U=>by have h9:=(nodup_cons.1 aa).1;rcases zD.1 U with U|U;exact h9 (zH _ U);rcases zD.1 U with U|U;exact (st.rest p hp av).2.2 U;exact h9 (zI _ (zI _ U))
  unfold jg;rw[hl];rw[iN λh=>h rfl,iN (show ¬(eK V).Q4=true from λe=>nomatch e),a1,eg];rw[iN λh=>h rfl,bF];have ad:∀ {MM:eU},(∀x∈p::V.flatMap (·.2.y6),x∉e.2.y6->dO D MM x=dO D M x)->∀b,b∈A\/b∈B->Has D MM k v h b.2/\minOf k v h<=b.2.size:=λhr b E=>by
   have a2:b∈V:=by rw[J];rcases E with E|E<;>simp[E]
   exact⟨(h7 b a2).1.j0 λx I=>hr x (zN _ (yK.2 ⟨b,a2,I⟩)) (ba b E x I),(h7 b a2).2⟩
  rcases ok.GH with ⟨aF,n',P',aQ,st,aR⟩|⟨aF,n1,L1,P1,n2,L2,P2,bd,bf,aT,bg,bh,bi,bj,bL,bM,st⟩;have ab:((A++(e.1,(⟨g.x5,n',gF key val e.2.y5,P'⟩:jF))::B).map (·.1)).head?=some []:=by rw[J] at h0;rw[xL,xM] at h0⊢;exact h0
  have ac:gI (A++(e.1,(⟨g.x5,n',gF key val e.2.y5,P'⟩:jF))::B):=ak.put aY aZ λx I=>(EQ I).imp (λe=>by rw[e]) id;have G:∀x∈p::V.flatMap (·.2.y6),x∉e.2.y6->dO D M1 x=dO D M x:=λx I a3=>(st.rest x (ae x I) a3).1;have O:(A++(e.1,(⟨g.x5,n',gF key val e.2.y5,P'⟩:jF))::B).length=V.length:=(by rw[J];simp);have ax:(A++(e.1,(⟨g.x5,n',gF key val e.2.y5,P'⟩:jF))::B).flatMap (·.2.y5)=gF key val (V.flatMap (·.2.y5)):=(by rw[uq,aP]);have ai:(A++(e.1,(⟨g.x5,n',gF key val e.2.y5,P'⟩:jF))::B).flatMap (·.2.y6)=A.flatMap (·.2.y6)++(P'++B.flatMap (·.2.y6)):=(by rw[uq]);by_cases hsame:g.x5=e.2.x5/\g.x4=0;rw[iP hsame];have bk:eK (A++(e.1,(⟨g.x5,n',gF key val e.2.y5,P'⟩:jF))::B)=eK V:=(by rw[J];unfold eK;simp[hsame.1]);have bN:dO D M1 p=(4,ib (eK (A++(e.1,(⟨g.x5,n',gF key val e.2.y5,P'⟩:jF))::B)),0):=(by rw[G p oN av,h5,bk]);refine⟨_,M1,rfl,aE,oL,.inl ⟨rfl,V.length,p::(A.flatMap (·.2.y6)++(P'++B.flatMap (·.2.y6))),?_,?_,zM _⟩⟩;have:=C9 ab (by rw[bk];exact h4) bN ac (h:=h) λb E=>?_;rw[O,ax,ai] at this;exact this;rcases zD.1 E with E|E;exact ad G b (.inl E);rcases zG.1 E with rfl|E;exact⟨aQ,zL ar aR⟩;exact ad G b (.inr E);show Step D M M1 (p::V.flatMap (·.2.y6)) _;rw[ah];have h9:=Step.node aj aa st (Step.refl st.wf st.Q3 (λx I=>by rw[zE.1 I];exact (st.rest p hp av).2.1) oN);exact h9;rw[iN hsame,J,qzX (s1:=⟨g.x5,n',gF key val e.2.y5,P'⟩) rfl aF];have ao:∀b∈A++(e.1,(⟨g.x5,n',gF key val e.2.y5,P'⟩:jF))::B,Has D M1 k v h b.2/\minOf k v h<=b.2.size:=λb E=>by rcases zD.1 E with E|E;exact ad G b (.inl E);rcases zG.1 E with rfl|E;exact⟨aQ,zL ar aR⟩;exact ad G b (.inr E)
  have aK:iw k (A++(e.1,(⟨g.x5,n',gF key val e.2.y5,P'⟩:jF))::B):=I1 (by rw[<- J];exact ag);have hN:=Du st.wf st.Q3 aK ac oL oL λb E=>(ao b E).1;obtain⟨q,M2,e2,ay,H2,an⟩:=qnz st.wf st.Q3 ab hN oL ac ao (st.rest p hp av).2.1 (by rw[ai];exact bc st) oL;refine⟨_,M2,e2,by rw[<- J];exact aE,oL,.inl ⟨rfl,V.length,q::(A.flatMap (·.2.y6)++(P'++B.flatMap (·.2.y6))),?_,?_,Nat.le_of_eq (by rw[J])⟩⟩;rw[O,ax,ai] at H2;rw[<- J];exact H2;show Step D M M2 (p::(A++e::B).flatMap (·.2.y6)) _;rw[uq];exact Step.node aj aa st ay;have bn:=bd.ne;have bo:=bf.ne;rw[iN λh=>aF h.2];have ac:gI (A++(e.1,(⟨g.x5,n1,L1,P1⟩:jF))::(g.key,⟨g.x4,n2,L2,P2⟩)::B):=
   (ak.put (s:=⟨0,0,gF key val e.2.y5,[]⟩) aY aZ λx I=>(EQ I).imp (λe=>by rw[e]) id).CC aT.symm bg bh bn bo
  have ab:((A++(e.1,(⟨g.x5,n1,L1,P1⟩:jF))::(g.key,⟨g.x4,n2,L2,P2⟩)::B).map (·.1)).head?=some []:=by
   rw[J] at h0;rw[xL,xM] at h0⊢;cases A with|nil=>exact h0|cons a A=>exact h0
  have G:∀x∈p::V.flatMap (·.2.y6),x∉e.2.y6->dO D M1 x=dO D M x:=λx I a3=>(st.rest x (ae x I) a3).1;have O:(A++(e.1,(⟨g.x5,n1,L1,P1⟩:jF))::(g.key,⟨g.x4,n2,L2,P2⟩)::B).length=V.length+1:=(by rw[J];simp;omega);have ax:(A++(e.1,(⟨g.x5,n1,L1,P1⟩:jF))::(g.key,⟨g.x4,n2,L2,P2⟩)::B).flatMap (·.2.y5)=gF key val (V.flatMap (·.2.y5)):=(by rw[uq,yH,aP,<- aT,zV]);have ai:(A++(e.1,(⟨g.x5,n1,L1,P1⟩:jF))::(g.key,⟨g.x4,n2,L2,P2⟩)::B).flatMap (·.2.y6)=A.flatMap (·.2.y6)++((P1++P2)++B.flatMap (·.2.y6)):=(by rw[uq,yH,zV P1]);have ao:∀b∈A++(e.1,(⟨g.x5,n1,L1,P1⟩:jF))::(g.key,⟨g.x4,n2,L2,P2⟩)::B,Has D M1 k v h b.2/\minOf k v h<=b.2.size:=λb E=>by rcases zD.1 E with E|E;exact ad G b (.inl E);rcases zG.1 E with rfl|E;exact⟨bd,bL⟩;rcases zG.1 E with rfl|E;exact⟨bf,bM⟩;exact ad G b (.inr E)
  have aK:iw k (A++(e.1,(⟨g.x5,n1,L1,P1⟩:jF))::(g.key,⟨g.x4,n2,L2,P2⟩)::B):=quH (by rw[<- J];exact ag) ⟨bi,bj⟩;have bp:p∉(A++(e.1,(⟨g.x5,n1,L1,P1⟩:jF))::(g.key,⟨g.x4,n2,L2,P2⟩)::B).flatMap (·.2.y6):=(by rw[ai];exact bc st);have bq:=(st.rest p hp av).2.1;have bP:iz (eK V) A.length g=eK (A++(e.1,(⟨g.x5,n1,L1,P1⟩:jF))::(g.key,⟨g.x4,n2,L2,P2⟩)::B):=(by rw[J];exact qCh (by rw[<- J];exact h0) rfl rfl rfl aF);rw[bP];have br:∀ {M2:eU} {Q:Ml},Step D M1 M2 [p] Q->Step D M M2 (p::V.flatMap (·.2.y6)) (Q++(A.flatMap (·.2.y6)++((P1++P2)++B.flatMap (·.2.y6)))):=λh2=>by rw[ah];exact Step.node aj aa st h2
  by_cases E:V.length+1<=(eG k v).2;have hN:=Du st.wf st.Q3 aK ac oL oL λb E=>(ao b E).1;obtain⟨q,M2,e2,ay,H2,an⟩:=qnz st.wf st.Q3 ab hN oL ac ao bq bp oL;rw[O,ax,ai] at H2;exact⟨_,M2,e2,aE,oL,.inl ⟨rfl,_,_,H2,br ay,by show V.length<=V.length+1;omega⟩⟩;obtain⟨q,o,m,M2,n3,L3,P3,n4,L4,P4,e2,bQ,ay,H3,H4,hL,hP,bR,a6,bs,bt,bS,bT,an⟩:=qz1 hc st.wf st.Q3 ab aK oL ac ao bq bp oL;rw[ax] at hL;rw[ai] at hP;refine⟨_,M2,e2,aE,oL,.inr ⟨bQ,_,_,_,_,_,_,H3,H4,hL,bR,a6,bs,bt,bS,bT,?_⟩⟩;have:=br ay;rw[<- hP] at this;refine this.perm (.refl _) ?_;show (q::o::(P3++P4)).Perm (q::(P3++o::P4));exact (perm_middle.symm).cons q
def iY {α:Type} (l:List α) (i:Nat):List α:=l.take i++l.drop (i+1)
def rG (n:dX) (k v:Nat):Prop:=(fC n k v).1<(fC n k v).2 / 2
def kj (n:dX) (k v:Nat):Prop:=(fC n k v).1>(fC n k v).2 / 2
def kr (l r:dX) (key:Key):dX×dX×Key:=
 if l.Q4 then
  ({ l with J6:=l.J6.take (l.J6.length-1),Q0:=l.Q0.take (l.J6.length-1) },
  { r with J6:=l.J6.getD (l.J6.length-1) []::r.J6,Q0:=l.Q0.getD (l.J6.length-1) []::r.Q0 },l.J6.getD (l.J6.length-1) [])
 else
  ({ l with J6:=l.J6.take (l.J6.length-1),J9:=l.J9.take (l.J6.length-1+1) },
  { r with J6:=key::r.J6,J9:=l.J9.getD (l.J6.length-1+1) 0::r.J9 },l.J6.getD (l.J6.length-1) [])
def takeN (l r:dX) (key:Key):dX×dX×Key:=
 if l.Q4 then
  ({ l with J6:=l.J6++[r.J6.getD 0 []],Q0:=l.Q0++[r.Q0.getD 0 []] },{ r with J6:=r.J6.drop 1,Q0:=r.Q0.drop 1 },(r.J6.drop 1).getD 0 [])
 else
  ({ l with J6:=l.J6++[key],J9:=l.J9++[r.J9.getD 0 0] },{ r with J6:=r.J6.drop 1,J9:=r.J9.drop 1 },r.J6.getD 0 [])
def mJ (l r:dX) (key:Key):dX:=⟨l.Q4,(if l.Q4 then l.J6 else l.J6++[key])++r.J6,l.Q0++r.Q0,l.J9++r.J9⟩
noncomputable def nT (k v:Nat) (M:eU) (n:dX) (i:Nat) (l r:dX):(dX×Int)×eU:=
 if (ee k v M (n.J9.getD i 0) (mJ l r (n.J6.getD i []))).1.2≠0 then ((jx,(ee k v M (n.J9.getD i 0) (mJ l r (n.J6.getD i []))).1.2),(ee k v M (n.J9.getD i 0) (mJ l r (n.J6.getD i []))).2)
 else if (gf (ee k v M (n.J9.getD i 0) (mJ l r (n.J6.getD i []))).2 (n.J9.getD (i+1) 0)).1≠0 then ((jx,(gf (ee k v M (n.J9.getD i 0) (mJ l r (n.J6.getD i []))).2 (n.J9.getD (i+1) 0)).1),(gf (ee k v M (n.J9.getD i 0) (mJ l r (n.J6.getD i []))).2 (n.J9.getD (i+1) 0)).2)
 else (({ n with J9:=iY (n.J9.set i (ee k v M (n.J9.getD i 0) (mJ l r (n.J6.getD i []))).1.1) (i+1),J6:=iY n.J6 i },0),(gf (ee k v M (n.J9.getD i 0) (mJ l r (n.J6.getD i []))).2 (n.J9.getD (i+1) 0)).2)
noncomputable def qr (k v:Nat) (M:eU) (n:dX) (i:Nat) (r:dX×dX×Key):(dX×Int)×eU:=
 if (ee k v M (n.J9.getD i 0) r.1).1.2≠0 then ((jx,(ee k v M (n.J9.getD i 0) r.1).1.2),(ee k v M (n.J9.getD i 0) r.1).2)
 else (({ n with J6:=n.J6.set i r.2.2,J9:=(n.J9.set i (ee k v M (n.J9.getD i 0) r.1).1.1).set (i+1) (ee k v (ee k v M (n.J9.getD i 0) r.1).2 (n.J9.getD (i+1) 0) r.2.1).1.1 },(ee k v (ee k v M (n.J9.getD i 0) r.1).2 (n.J9.getD (i+1) 0) r.2.1).1.2),(ee k v (ee k v M (n.J9.getD i 0) r.1).2 (n.J9.getD (i+1) 0) r.2.1).2)
noncomputable def lJ (D:dQ) (k v:Nat) (M:eU) (n:dX) (side c:Nat) (x:dX):(dX×Int)×eU:=
 if (dR D M k v (n.J9.getD side 0)).2≠0 then ((jx,(dR D M k v (n.J9.getD side 0)).2),M)
 else if side<c then
  if ¬kj (dR D M k v (n.J9.getD side 0)).1 k v then nT k v M n side (dR D M k v (n.J9.getD side 0)).1 x
  else qr k v M n side (kr (dR D M k v (n.J9.getD side 0)).1 x (n.J6.getD side []))
 else
  if ¬kj (dR D M k v (n.J9.getD side 0)).1 k v then nT k v M n c x (dR D M k v (n.J9.getD side 0)).1
  else qr k v M n c (takeN x (dR D M k v (n.J9.getD side 0)).1 (n.J6.getD c []))
noncomputable def jk (D:dQ) (k v:Nat) (key:Key):Nat->eU->Int->(dX×Int)×eU
 | 0,M,_=>((jx,-1),M)
 | f+1,M,p=>
  if (dR D M k v p).2≠0 then ((jx,(dR D M k v p).2),M)
  else if (dR D M k v p).1.Q4 then
   if (dR D M k v p).1.J6[eh (dR D M k v p).1.J6 key]?=some key then (({ (dR D M k v p).1 with J6:=iY (dR D M k v p).1.J6 (eh (dR D M k v p).1.J6 key),Q0:=iY (dR D M k v p).1.Q0 (eh (dR D M k v p).1.J6 key) },0),M)
   else ((jx,5),M)
  else if (jk D k v key f M ((dR D M k v p).1.J9.getD (ga (dR D M k v p).1.J6 key) 0)).1.2≠0 then
   ((jx,(jk D k v key f M ((dR D M k v p).1.J9.getD (ga (dR D M k v p).1.J6 key) 0)).1.2),(jk D k v key f M ((dR D M k v p).1.J9.getD (ga (dR D M k v p).1.J6 key) 0)).2)
  else if ¬rG (jk D k v key f M ((dR D M k v p).1.J9.getD (ga (dR D M k v p).1.J6 key) 0)).1.1 k v then
   (({ (dR D M k v p).1 with J9:=(dR D M k v p).1.J9.set (ga (dR D M k v p).1.J6 key) (ee k v (jk D k v key f M ((dR D M k v p).1.J9.getD (ga (dR D M k v p).1.J6 key) 0)).2 ((dR D M k v p).1.J9.getD (ga (dR D M k v p).1.J6 key) 0) (jk D k v key f M ((dR D M k v p).1.J9.getD (ga (dR D M k v p).1.J6 key) 0)).1.1).1.1 },
    (ee k v (jk D k v key f M ((dR D M k v p).1.J9.getD (ga (dR D M k v p).1.J6 key) 0)).2 ((dR D M k v p).1.J9.getD (ga (dR D M k v p).1.J6 key) 0) (jk D k v key f M ((dR D M k v p).1.J9.getD (ga (dR D M k v p).1.J6 key) 0)).1.1).1.2),
    (ee k v (jk D k v key f M ((dR D M k v p).1.J9.getD (ga (dR D M k v p).1.J6 key) 0)).2 ((dR D M k v p).1.J9.getD (ga (dR D M k v p).1.J6 key) 0) (jk D k v key f M ((dR D M k v p).1.J9.getD (ga (dR D M k v p).1.J6 key) 0)).1.1).2)
  else if ga (dR D M k v p).1.J6 key>0 then
   lJ D k v (jk D k v key f M ((dR D M k v p).1.J9.getD (ga (dR D M k v p).1.J6 key) 0)).2 (dR D M k v p).1 (ga (dR D M k v p).1.J6 key-1) (ga (dR D M k v p).1.J6 key) (jk D k v key f M ((dR D M k v p).1.J9.getD (ga (dR D M k v p).1.J6 key) 0)).1.1
  else lJ D k v (jk D k v key f M ((dR D M k v p).1.J9.getD (ga (dR D M k v p).1.J6 key) 0)).2 (dR D M k v p).1 (ga (dR D M k v p).1.J6 key+1) (ga (dR D M k v p).1.J6 key) (jk D k v key f M ((dR D M k v p).1.J9.getD (ga (dR D M k v p).1.J6 key) 0)).1.1
def ll (D:dQ) (M:eU) (k v:Nat):Nat->dX->Nat->iF->Ml->Prop
 | 0,N,n,L,R=>N=fL L/\n=L.length/\R=[]/\pg k v L/\gq L/\n<=(eG k v).1
 | h+1,N,n,L,R=>∃E:List lI,(E.map (·.1)).head?=some []/\N=eK E/\n=E.length/\L=E.flatMap (·.2.y5)/\R=E.flatMap (·.2.y6)/\iw k E/\gI E/\n<=(eG k v).2/\∀e∈E,Has D M k v h e.2/\minOf k v h<=e.2.size
def oneOf (h:Nat):Nat:=if h=0 then 1 else 2
variable {n:Nat} {N Nl Nr:dX} {R R1 R2:Ml} {E r:List lI} {e1:lI}
def ll.size(E:ll D M k v h N n L R):fC N k v=(n,if h=0 then (eG k v).1 else (eG k v).2):=by
 cases h with
 | zero=>
  obtain⟨rfl,rfl,_⟩:=E;exact Gr
 | succ h=>
  obtain⟨G,_,rfl,rfl,_⟩:=E;exact FP
def ll.J4(I:M.Q3=false)(G:ll D M k v h N n L R):∀x∈R,eN M x:=by
 cases h with
 | zero=>obtain⟨_,_,rfl,_⟩:=G;exact λx E=>nomatch E
 | succ h=>
  obtain⟨U,_,_,_,_,rfl,_,_,_,J⟩:=G;intro x E;obtain⟨e,O,E⟩:=yK.1 E;exact (J e O).1.J4 I x E
def ll.j0(G:ll D M k v h N n L R)(J:∀x∈R,dO D M' x=dO D M x):ll D M' k v h N n L R:=by
 cases h with
 | zero=>exact G
 | succ h=>
  obtain⟨O,U,V,h3,h4,rfl,h6,h7,h8,I⟩:=G;exact⟨O,U,V,h3,h4,rfl,h6,h7,h8,λe E=>⟨(I e E).1.j0 λx hx=>J x (yK.2 ⟨e,E,hx⟩),(I e E).2⟩⟩
def ll.ok(I:M.Wf)(J:M.Q3=false)(E:ll D M k v h N n L R)(G:oneOf h<=n):jq N k v:=by
 cases h with
 | zero=>
  obtain⟨rfl,rfl,_,O,U,V⟩:=E;exact EB O U G V
 | succ h=>
  obtain⟨es,h2,rfl,rfl,h4,rfl,h6,h7,h8,he⟩:=E;exact Du I J h6 h7 G h8 λe hm=>(he e hm).1
def ll.stored(J:M.Wf)(O:M.Q3=false)(G:ll D M k v h N n L R)(U:oneOf h<=n)(I:dO D M q=(jQ N,ib N,0)):Has D M k v h ⟨q,n,L,q::R⟩:=by
 have E:=G.ok J O U;cases h with
 | zero=>
  obtain⟨rfl,rfl,rfl,hL,hs,hl⟩:=G;exact Ea E I
 | succ h=>
  obtain⟨es,V,rfl,rfl,rfl,rfl,h6,h7,h8,he⟩:=G;exact C9 V E I h7 he
def Has.load(hs:Has D M k v h s):∃N R,dR D M k v s.x5=(N,0)/\ll D M k v h N s.size s.y5 R/\s.y6=s.x5::R/\N.Q4=decide (h=0)/\oneOf h<=s.size:=by
 cases h with
 | zero=>
  obtain⟨J,O,G,U⟩:=hs;have E:=G.right.2.2.2;rw[iP (show (fL s.y5).Q4=true from rfl)] at E;have e:(fL s.y5).J6.length=s.y5.length:=zK _;rw[e] at E;exact⟨fL s.y5,[],G.load U,⟨rfl,O,rfl,λx V=>⟨G.right.1 x.1 (zY V),G.right.2.1 x.2 (zY V),G.J6 x.1 (zY V),G.Q0 x.2 (zY V)⟩,G.right.2.2.1,by rw[O];exact E.2.2.1⟩,J,rfl,by rw[O];exact E.2.1⟩
 | succ h=>
  obtain⟨es,h0,J,O,G,U,h5,h6,h7⟩:=hs;have I:=U.right.x9;exact⟨eK es,_,U.load h5,⟨es,h0,rfl,J,O,rfl,iw.of U,h6,by rw[J];exact I.2,h7⟩,G,rfl,by rw[J];exact I.1⟩
def ll.store(J:M.Wf)(E:M.Q3=false)(G:ll D M k v h N n L R)(O:oneOf h<=n)(hp:eN M p)(I:p∉R)(U:1<=M.Q1.length): ∃q M',ee k v M p N=((q,0),M')/\Step D M M' [p] [q]/\Has D M' k v h ⟨q,n,L,q::R⟩/\M.Q1.length<=M'.Q1.length+1:=by obtain⟨q,M',e,st,hr,hl,_⟩:=I9 J E (G.ok J E O) hp (λe=>by rw[e] at U;exact absurd U oO);exact⟨q,M',e,st,(G.j0 λx V=>(st.rest x (G.J4 E x V) λhm=>I (by rw[<- zE.1 hm];exact V)).1).stored st.wf st.Q3 O hr,hl⟩
def qD0{h E:iF}{z:Key×Key}:kr (fL (h++[z])) (fL E) key=(fL h,fL (z::E),z.1):=by unfold kr;rw[iP (show (fL _).Q4=true from rfl)];unfold fL;simp
def qD3{h E:iF}{z y:Key×Key}:takeN (fL h) (fL (z::y::E)) key=(fL (h++[z]),fL (y::E),y.1):=by unfold takeN;rw[iP (show (fL _).Q4=true from rfl)];unfold fL;simp
def qD1{h E:iF}:mJ (fL h) (fL E) key=fL (h++E):=by unfold mJ;unfold fL;simp
def qDS{a z b:lI}{h:List lI}:kr (eK (a::h++[z])) (eK (b::E)) key=(eK (a::h),eK (([],z.2)::(key,b.2)::E),z.1):=by unfold kr;rw[iN (show ¬(eK _).Q4=true from λe=>nomatch e)];unfold eK;simp
def qDU{h:List lI}{a z y:lI}:takeN (eK (a::h)) (eK (z::y::E)) key=(eK (a::h++[(key,z.2)]),eK (([],y.2)::E),y.1):=by unfold takeN;rw[iN (show ¬(eK _).Q4=true from λe=>nomatch e)];unfold eK;simp
def qDT{h:List lI}{a b:lI}:mJ (eK (a::h)) (eK (b::E)) key=eK (a::h++(key,b.2)::E):=by unfold mJ;unfold eK;simp
def gI.xq{a b:List lI}(E:gI a)(G:gI b)(h:∀x∈a,∀y∈b,gX x.1 y.1/\∀z∈x.2.y5,gX z.1 y.1):gI (a++b):=
 ⟨pairwise_append.2 ⟨E.pair,G.pair,λx I y J=>h x I y J⟩,λe O=>(zD.1 O).elim (E.low e) (G.low e)⟩
def gI.sub{a b:List lI}(h:gI b)(E:a.Sublist b):gI a:=⟨h.pair.sublist E,λe G=>h.low e (E.subset G)⟩
def IS(h:∀x∈e.2.y5,pr e.1 x.1):gI [e]:=⟨pairwise_singleton _ _,λa E=>by rw[zE.1 E];exact h⟩
def qwZ{a b:Key}(h:gX a b):gX [] b:=by
 cases b with|nil=>exact absurd h qnN|cons y l=>show cmpL [] (y::l)<0;simp[cmpL]
def gI.head{x:lI}(h:gI (x::r))(I:∀b∈r,gX m b.1)(J:∀y∈x.2.y5,pr m y.1):gI ((m,x.2)::r):=by have G:=yJ.1 h.pair;exact⟨yJ.2 ⟨λb E=>⟨I b E,(G.1 b E).2⟩,G.2⟩,λb E=>(zG.1 E).elim (λe=>by rw[e];exact J) λE=>h.low b (zN _ E)⟩
def Lf{x:lI}(G:gI (x::r))(I:Has D M k v h x.2)(J:∀y∈x.2.y5,pr m y.1):∀b∈r,gX m b.1:=λb O=>by obtain⟨y,E⟩:=exists_mem_of_ne_nil _ I.ne;exact Ec (J y E) (((yJ.1 G.pair).1 b O).2 y E)
structure ym (D:dQ) (M:eU) (k v:Nat) (h:Nat) (r:dX×dX×Key) (L:iF) (P:Ml):Prop where
 GH:∃ n1 L1 R1 n2 L2 R2,ll D M k v h r.1 n1 L1 R1/\ll D M k v h r.2.1 n2 L2 R2/\L1++L2=L/\R1++R2=P/\(∀ x∈L1,gX x.1 r.2.2)/\(∀ y∈L2,pr r.2.2 y.1)/\r.2.2.length=k/\fj r.2.2/\minOf k v h<=n1/\minOf k v h<=n2/\L1≠[]/\L2≠[]
def jh.min(E:jh k v)(h:Nat):oneOf h<=minOf k v h/\1<=minOf k v h:=by have G:=E.Q4;have I:=E.inner;unfold oneOf minOf;split<;>omega
def qDJ(G:∀e∈es,Has D M k v h e.2/\minOf k v h<=e.2.size)(E:es≠[]):es.flatMap (·.2.y5)≠[]:=by
 cases es with|nil=>exact absurd rfl E|cons a r=>intro e;rw[yH] at e;exact (G a oN).1.ne (append_eq_nil_iff.1 e).1
def qDM(G:jh k v)(hl:ll D M k v h Nl n1 L1 R1)(hr:ll D M k v h Nr n2 L2 R2)(h1:minOf k v h<n1)(h2:n2+1=minOf k v h)(h3:∀x∈L1,gX x.1 key)(h4:∀y∈L2,pr key y.1)(hk:key.length=k/\fj key): ym D M k v h (kr Nl Nr key) (L1++L2) (R1++R2):=by
 have ay:=G.min h;cases h with
 | zero=>
  obtain⟨rfl,rfl,rfl,an,U,V⟩:=hl;obtain⟨rfl,rfl,rfl,az,aa,ao⟩:=hr;have ap:L1≠[]:=λe=>by rw[e] at h1;simp at h1
  obtain⟨L,z,rfl⟩:∃L z,L1=L++[z]:=⟨L1.dropLast,L1.getLast ap,(xZ ap).symm⟩;rw[qD0];have hz:=an z oN;have aq:=gq.xq.1 U;rw[zF] at h1 V;have aA:gq (z::L2):=by refine yJ.2 ⟨λa ha=>?_,aa⟩;obtain⟨y,E,rfl⟩:=mem_map.1 ha;exact vY (h3 z oN) (h4 y E)
  refine⟨L.length,L,[],L2.length+1,z::L2,[],⟨rfl,rfl,rfl,an.sub λx J=>zH _ J,aq.1,?_⟩,⟨rfl,rfl,rfl,λx J=>(zG.1 J).elim (λe=>by rw[e];exact hz) (az x),aA,oL⟩,oN,rfl,λx J=>aq.2.2 x J z oN,λy E=>?_,hz.1,hz.2.2.1,?_,oL,?_,oN⟩;simp at V;omega;rcases zG.1 E with rfl|E;exact uL;exact wu (vY (h3 z oN) (h4 y E));simp at h1;omega;intro e;rw[e] at h1;simp at h1;omega
 | succ h=>
  obtain⟨af,aB,rfl,rfl,rfl,rfl,ar,U,V,ag⟩:=hl;obtain⟨I,aC,rfl,rfl,rfl,rfl,aD,aa,ao,ah⟩:=hr;obtain⟨a,O,z,rfl⟩:∃a O z,af=a::O++[z]:=by
   have:2<=af.length:=(by have:=ay.1;unfold oneOf at this;rw[iN] at this;omega);match af,this with|a::b::r,_=>exact⟨a,(b::r).dropLast,(b::r).getLast oN,by rw[xI,xZ]⟩
  obtain⟨b,I,rfl⟩:∃b O,I=b::O:=by
   cases I with
   | nil=>cases aC
   | cons b r=>exact⟨b,r,rfl⟩
  rw[qDS];have hz:=ag z oN;have au:=ar z (show z∈O++[z] by simp);have av:=gI.mid U;have ab:gX z.1 key:=by obtain⟨x,J⟩:=exists_mem_of_ne_nil _ hz.1.ne;exact Ec (U.low z oN x J) (h3 x (yK.2 ⟨z,oN,J⟩))
  have aw:∀y∈b.2.y5,pr key y.1:=λy E=>h4 y (by rw[yH];exact zH _ E);have ai:=Lf aa (ah b oN).1 aw;have aj:gI (([],z.2)::(key,b.2)::I):=by refine gI.xq (IS λx _=>ES _) (aa.head ai aw) λx J y E=>?_;rw[zE.1 J];rcases zG.1 E with rfl|E;exact⟨qwZ ab,λw hw=>h3 w (yK.2 ⟨z,oN,hw⟩)⟩;exact⟨qwZ (ai y E),λw hw=>t8 (h3 w (yK.2 ⟨z,oN,hw⟩)) (ai y E)⟩
  simp only[zF,yI,xJ] at h1 h2 V ao;have aF:(a::O++[z]).flatMap (·.2.y5)=(a::O).flatMap (·.2.y5)++z.2.y5:=(by simp[yQ]);have aG:(a::O++[z]).flatMap (·.2.y6)=(a::O).flatMap (·.2.y6)++z.2.y6:=(by simp[yQ]);refine⟨O.length+1,(a::O).flatMap (·.2.y5),(a::O).flatMap (·.2.y6),I.length+2,z.2.y5++(b.2.y5++I.flatMap (·.2.y5)),z.2.y6++(b.2.y6++I.flatMap (·.2.y6)),⟨a::O,aB,rfl,rfl,rfl,rfl,λc G=>ar c (show c∈O++[z] from zH _ G),U.sub (sublist_append_left _ _),oL,λc G=>ag c (zH _ G)⟩,⟨([],z.2)::(key,b.2)::I,rfl,rfl,rfl,rfl,rfl,λc G=>(zG.1 G).elim (λe=>by rw[e];exact hk) (aD c),aj,oL,λc G=>?_⟩,?_,?_,λx J=>?_,λy E=>?_,au.1,au.2,oL,oL,?_,?_⟩;rcases zG.1 G with rfl|G;exact hz;rcases zG.1 G with rfl|G;exact ah b oN;exact ah c (by simp[G]);rw[aF];simp only[yH,zV];rw[aG];simp only[yH,zV];obtain⟨c,G,J⟩:=yK.1 J;exact av.1 c G x J;rcases zD.1 E with E|E;exact U.low z oN y E;exact Dv (wu ab) (h4 y (by rw[yH];exact E));exact qDJ (λc G=>ag c (zH _ G)) oN;intro e;exact hz.1.ne (append_eq_nil_iff.1 e).1
def qAb(I:gI es)(J:∀e∈es,Has D M k v h e.2/\minOf k v h<=e.2.size)(O:∀x∈es.flatMap (·.2.y5),gX x.1 key):∀e∈es,gX e.1 key:=λe E=>by obtain⟨x,G⟩:=exists_mem_of_ne_nil _ (J e E).1.ne;exact Ec (I.low e E x G) (O x (yK.2 ⟨e,E,G⟩))
def qEq(hc:jh k v)(hl:ll D M k v h Nl n1 L1 R1)(hr:ll D M k v h Nr n2 L2 R2)(h1:n1+1=minOf k v h)(h2:minOf k v h<n2)(h3:∀x∈L1,gX x.1 key)(h4:∀y∈L2,pr key y.1)(hk:key.length=k/\fj key): ym D M k v h (takeN Nl Nr key) (L1++L2) (R1++R2):=by
 have hmn:=hc.min h;cases h with
 | zero=>
  obtain⟨rfl,rfl,rfl,hL1,hs1,hb1⟩:=hl;obtain⟨rfl,rfl,rfl,hL2,hs2,hb2⟩:=hr;obtain⟨z,y,L,rfl⟩:∃z y L,L2=z::y::L:=by
   match L2,h2 with|[],h=>simp at h|[_],h=>simp at h;omega|z::y::L,_=>exact⟨z,y,L,rfl⟩
  rw[qD3];have hz:=hL2 z oN;have hy:=hL2 y oN;have hcs:=yJ.1 (show (z.1::eE (y::L)).Pairwise gX from hs2);simp only[yI] at h2 hb2;have hzy:=hcs.1 y.1 oN;refine⟨L1.length+1,L1++[z],[],L.length+1,y::L,[],⟨rfl,oN,rfl,λx hx=>(zD.1 hx).elim (hL1 x) λhx=>by rw[zE.1 hx];exact hz,?_,oL⟩,⟨rfl,oN,rfl,λx hx=>hL2 x (zN _ hx),hcs.2,oL⟩,oN,rfl,λx hx=>?_,λw hw=>?_,hy.1,hy.2.2.1,oL,oL,oN,oN⟩;exact gq.xq.2 ⟨hs1,pairwise_singleton _ _,λx hx w hw=>by rw[zE.1 hw];exact vY (h3 x hx) (h4 z oN)⟩;rcases zD.1 hx with hx|hx;exact t8 (vY (h3 x hx) (h4 z oN)) hzy;rw[zE.1 hx];exact hzy;rcases zG.1 hw with rfl|hw;exact uL;exact wu ((yJ.1 (show (y.1::eE L).Pairwise gX from hcs.2)).1 w.1 (zY hw))
 | succ h=>
  obtain⟨es1,hh1,rfl,rfl,rfl,rfl,hk1,hs1,hb1,hp1⟩:=hl;obtain⟨es2,hh2,rfl,rfl,rfl,rfl,hk2,hs2,hb2,hp2⟩:=hr;obtain⟨a,es,rfl⟩:∃a es,es1=a::es:=by
   cases es1 with
   | nil=>cases hh1
   | cons b r=>exact⟨b,r,rfl⟩
  obtain⟨z,y,es2,rfl⟩:∃z y es,es2=z::y::es:=by
   match es2,h2 with|[],h=>simp at h|[_],h=>simp at h;omega|z::y::L,_=>exact⟨z,y,L,rfl⟩
  rw[qDU];have hz:=hp2 z oN;have hyk:=hk2 y (show y∈y::es2 by simp);have hz4:∀w∈z.2.y5,pr key w.1:=λw hw=>h4 w (by rw[yH];exact zH _ hw);have hky:=Lf hs2 hz.1 hz4 y oN;have hcs:=yJ.1 hs2.pair;have hcy:=yJ.1 hcs.2;have hsl:gI (a::es++[(key,z.2)]):=gI.xq hs1 (IS hz4) λx hx w hw=>by rw[zE.1 hw];exact⟨qAb hs1 hp1 h3 x hx,λq hq=>h3 q (yK.2 ⟨x,hx,hq⟩)⟩
  have hsr:=gI.lK (hs2.sub (L5 _ _));simp only[yI] at h1 h2 hb1 hb2;refine⟨es.length+2,(a::es).flatMap (·.2.y5)++z.2.y5,(a::es).flatMap (·.2.y6)++z.2.y6,es2.length+1,y.2.y5++es2.flatMap (·.2.y5),y.2.y6++es2.flatMap (·.2.y6),⟨a::es++[(key,z.2)],hh1,rfl,oN,by simp[yQ],by simp[yQ],λc hc=>?_,hsl,oL,λc hc=>?_⟩,⟨([],y.2)::es2,rfl,rfl,rfl,rfl,rfl,λc hc=>hk2 c (show c∈y::es2 from zN _ hc),hsr,oL,λc hc=>?_⟩,?_,?_,λx hx=>?_,λw hw=>?_,hyk.1,hyk.2,oL,oL,?_,?_⟩;rcases zD.1 (show c∈es++[(key,z.2)] from hc) with hc|hc;exact hk1 c hc;rw[zE.1 hc];exact hk;rcases zD.1 hc with hc|hc;exact hp1 c hc;rw[zE.1 hc];exact hz;rcases zG.1 hc with rfl|hc;exact hp2 y oN;exact hp2 c (by simp[hc]);simp only[yH,zV];simp only[yH,zV];rcases zD.1 hx with hx|hx;exact t8 (h3 x hx) hky;exact (hcs.1 y oN).2 x hx;rcases zD.1 hw with hw|hw;exact hs2.low y oN w hw;obtain⟨c,hc,hw⟩:=yK.1 hw;exact Dv (wu (hcy.1 c hc).1) (hs2.low c (by simp[hc]) w hw);intro e;exact hz.1.ne (append_eq_nil_iff.1 e).2;intro e;exact (hp2 y oN).1.ne (append_eq_nil_iff.1 e).1
def qDV(hl:ll D M k v h Nl n1 L1 R1)(hr:ll D M k v h Nr n2 L2 R2)(h1:n1+n2<=(if h=0 then (eG k v).1 else (eG k v).2))(h3:∀x∈L1,gX x.1 key)(h4:∀y∈L2,pr key y.1)(hk:key.length=k/\fj key): ll D M k v h (mJ Nl Nr key) (n1+n2) (L1++L2) (R1++R2):=by
 cases h with
 | zero=>
  obtain⟨rfl,rfl,rfl,ao,I,ap⟩:=hl;obtain⟨rfl,rfl,rfl,aq,J,ar⟩:=hr;rw[qD1];exact⟨rfl,oN,rfl,λx hx=>(zD.1 hx).elim (ao x) (aq x),gq.xq.2 ⟨I,J,λx hx y O=>vY (h3 x hx) (h4 y O)⟩,h1⟩
 | succ h=>
  obtain⟨ac,ad,rfl,rfl,rfl,rfl,au,I,ap,ae⟩:=hl;obtain⟨G,av,rfl,rfl,rfl,rfl,aw,J,ar,U⟩:=hr;obtain⟨a,es,rfl⟩:∃a es,ac=a::es:=by
   cases ac with
   | nil=>cases ad
   | cons b r=>exact⟨b,r,rfl⟩
  obtain⟨b,G,rfl⟩:∃b es,G=b::es:=by
   cases G with
   | nil=>cases av
   | cons b r=>exact⟨b,r,rfl⟩
  rw[qDT];have af:∀y∈b.2.y5,pr key y.1:=λy O=>h4 y (by rw[yH];exact zH _ O);have V:=Lf J (U b oN).1 af;refine⟨a::es++(key,b.2)::G,ad,rfl,by simp;omega,by simp[yQ],by simp[yQ],λc E=>?_,gI.xq I (J.head V af) λx hx y O=>?_,by simpa using h1,λc E=>?_⟩;rcases zD.1 (show c∈es++(key,b.2)::G from E) with E|E;exact au c E;rcases zG.1 E with rfl|E;exact hk;exact aw c E;have ag:=qAb I ae h3 x hx;have ah:∀w∈x.2.y5,gX w.1 key:=λw hw=>h3 w (yK.2 ⟨x,hx,hw⟩);rcases zG.1 O with rfl|O;exact⟨ag,ah⟩;exact⟨t8 ag (V y O),λw hw=>t8 (ah w hw) (V y O)⟩;rcases zD.1 E with E|E;exact ae c E;rcases zG.1 E with rfl|E;exact U b oN;exact U c (by simp[E])
def Step.part{a x y:Ml}(G:∀z∈a++(x++b),eN M z)(I:(a++(x++b)).Nodup)(h:Step D M M1 x y):Step D M M1 (a++(x++b)) (a++(y++b)):=by have E:(a++(x++b)).Perm ((a++b)++x):=Ho (z:=a);exact ((h.beside (λz J=>G z (E.mem_iff.2 (zH _ J))) (E.nodup_iff.1 I)).perm E.symm (Ho (z:=a)).symm)
def Step.kid{h:eU}{E Q:Ml}(G:∀z∈p::R,eN M z)(I:(p::R).Nodup)(J:Step D M M1 R E)(O:Step D M1 h [p] Q):Step D M h (p::R) (Q++E):=by
 have:=Step.node (a:=[]) (b:=[]) (oS G) (oS I) J O;simpa using this
def Lt{h:lI}:((A++e1::h::B).map (·.1)).tail.getD A.length []=h.1:=by
 cases A with|nil=>rfl|cons a A=>simp
def C1{h:lI}:((A++e1::h::B).map (·.2.x5)).getD A.length 0=e1.2.x5/\((A++e1::h::B).map (·.2.x5)).getD (A.length+1) 0=h.2.x5:=by constructor;simp;simp
def qEl{h:lI}:(⟨false,((A++e1::h::B).map (·.1)).tail.set A.length m,[],(((A++e1::h::B).map (·.2.x5)).set A.length s1.x5).set (A.length+1) s2.x5⟩:dX)=eK (A++(e1.1,s1)::(m,s2)::B):=by
 unfold eK;congr 1;cases A with|nil=>rfl|cons a A=>simp[set_append_right]
 simp[set_append_right]
def qDF{G:lI}:(⟨false,iY ((A++e1::G::B).map (·.1)).tail A.length,[],iY (((A++e1::G::B).map (·.2.x5)).set A.length s.x5) (A.length+1)⟩:dX)=eK (A++(e1.1,s)::B):=by
 have J:(A.map (·.2.x5)).length=A.length:=zK _;unfold eK iY;congr 1;cases A with
 | nil=>rfl
 | cons a A=>
  have E:((a::A++e1::G::B).map (·.1)).tail=(A.map (·.1)++[e1.1])++(G.1::B.map (·.1)):=oN;have I:((a::A++(e1.1,s)::B).map (·.1)).tail=(A.map (·.1)++[e1.1])++B.map (·.1):=oN;have h:(A.map (·.1)++[e1.1]).length=(a::A).length:=oN;rw[E,I,take_left' h,<- h,drop_length_add_append];rfl
 have E:((A++e1::G::B).map (·.2.x5)).set A.length s.x5=(A.map (·.2.x5)++[s.x5])++(G.2.x5::B.map (·.2.x5)):=(by rw[xL,set_append_right _ _ oL,J,Nat.sub_self];simp);have h:(A.map (·.2.x5)++[s.x5]).length=A.length+1:=oN;rw[E,take_left' h,<- h,drop_length_add_append];simp
def qEk:(⟨false,((A++e::B).map (·.1)).tail,[],((A++e::B).map (·.2.x5)).set A.length s.x5⟩:dX)=eK (A++(e.1,s)::B):=by
 have h:(A.map (·.2.x5)).length=A.length:=zK _;unfold eK;congr 1;cases A with|nil=>rfl|cons a A=>simp
 rw[xL,set_append_right _ _ oL,h,Nat.sub_self];simp
structure wI (D:dQ) (M:eU) (k v:Nat) (h:Nat) (A B:List lI) (e1 e2:lI) (Nl Nr:dX) (n1 n2:Nat) (L1 L2:iF) (R1 R2:Ml):Prop where
 wf:M.Wf
 Q3:M.Q3=false
 head:((A++e1::e2::B).map (·.1)).head?=some []
 J6:iw k (A++e1::e2::B)
 sep:gI (A++(e1.1,⟨0,0,L1,[]⟩)::(e2.1,⟨0,0,L2,[]⟩)::B)
 len:A.length+B.length+2<=(eG k v).2
 rest:∀ b,b∈A\/b∈B->Has D M k v h b.2/\minOf k v h<=b.2.size
 left:ll D M k v h Nl n1 L1 R1
 right:ll D M k v h Nr n2 L2 R2
 use:∀ x∈A.flatMap (·.2.y6)++(((e1.2.x5::R1)++(e2.2.x5::R2))++B.flatMap (·.2.y6)),eN M x
 nodup:(A.flatMap (·.2.y6)++(((e1.2.x5::R1)++(e2.2.x5::R2))++B.flatMap (·.2.y6))).Nodup
def wI.Ce{E:lI}{J O:dX}{U V:Nat}{I G:iF}(H:wI D M k v h A B e1 E J O U V I G R1 R2):(∀x∈I,gX x.1 E.1)/\(∀y∈G,pr E.1 y.1)/\E.1.length=k/\fj E.1:=by have hp:=pairwise_append.1 H.sep.pair;have hc:=yJ.1 hp.2.1;have hk:=H.J6 E (by cases A<;>simp);exact⟨(hc.1 (E.1,⟨0,0,G,[]⟩) oN).2,H.sep.low (E.1,⟨0,0,G,[]⟩) oN,hk⟩
def qwC(hc:jh k v){I:lI}(H:wI D M k v h A B e1 I Nl Nr n1 n2 L1 L2 R1 R2){r:dX×dX×Key}(hr:ym D M k v h r (L1++L2) (R1++R2))(hf:2<=M.Q1.length): ∃N M' R,qr k v M (eK (A++e1::I::B)) A.length r=((N,0),M')/\ll D M' k v (h+1) N (A.length+B.length+2) (A.flatMap (·.2.y5)++((L1++L2)++B.flatMap (·.2.y5))) R/\ Step D M M' (A.flatMap (·.2.y6)++(((e1.2.x5::R1)++(I.2.x5::R2))++B.flatMap (·.2.y6))) R/\M.Q1.length<=M'.Q1.length+2:=by
 obtain⟨m1,K1,O,m2,K2,U,aP,aQ,eL,eR,aR,aT,aU,aV,aW,aX,aC,aD⟩:=hr.GH;have bm:=hc.min h;have ae:=H.use;have aq:=H.nodup;have pm:(((e1.2.x5::R1)++(I.2.x5::R2))).Perm (e1.2.x5::I.2.x5::(R1++R2)):=by rw[xI];exact (perm_middle).cons _
 rw[<- eR] at pm;have ab:∀x,x∈e1.2.x5::I.2.x5::(O++U)->x∈A.flatMap (·.2.y6)++(((e1.2.x5::R1)++(I.2.x5::R2))++B.flatMap (·.2.y6)):=λx G=>zI _ (zH _ (pm.mem_iff.2 G));have ak:=pm.nodup_iff.1 (yM.1 (yM.1 aq).2.1).1;have ac:=nodup_cons.1 ak;have al:=nodup_cons.1 ac.2;have aY:=ae _ (ab e1.2.x5 oN);have aF:=ae _ (ab I.2.x5 oN);obtain⟨J,M1,s1,af,H1,bn⟩:=aP.store H.wf H.Q3 oL aY (λhm=>ac.1 (zN _ (zH _ hm))) oL;have V:∀x,eN M x->x≠e1.2.x5->dO D M1 x=dO D M x/\eN M1 x/\x≠J:=λx G ar=>by
  have:=af.rest x G (oS ar);exact⟨this.1,this.2.1,by simpa using this.2.2⟩
 have ag:I.2.x5≠e1.2.x5:=λe=>ac.1 (by rw[e];simp);have a0:=aQ.j0 λx G=>(V x (ae x (ab x (by simp[G]))) λe=>ac.1 (by rw[<- e];simp[G])).1;obtain⟨q2,M2,s2,aH,H2,bp⟩:=a0.store af.wf af.Q3 oL (V _ aF ag).2.1 (λhm=>al.1 (zI _ hm)) oL;have ah:∀x,eN M1 x->x≠I.2.x5->dO D M2 x=dO D M1 x/\eN M2 x/\x≠q2:=λx G ar=>by
  have:=aH.rest x G (oS ar);exact⟨this.1,this.2.1,by simpa using this.2.2⟩
 have an:∀x∈J::O,eN M1 x/\x≠I.2.x5:=λx G=>by refine⟨H1.J4 af.Q3 x G,λe=>?_⟩;rcases zG.1 G with e'|G;rcases af.new J oN with h9|h9;exact ag (by rw[<- e,e',zE.1 h9]);exact h9 (by rw[<- e',e];exact aF);exact al.1 (zH _ (e▸G))
 have a1:=H1.j0 λx G=>(ah x (an x G).1 (an x G).2).1;have a2:∀b,b∈A\/b∈B->∀x∈b.2.y6,eN M x/\x≠e1.2.x5/\x≠I.2.x5:=λb E x G=>by
  have hd:=yM.1 aq;have a3:=yM.1 hd.2.1;have aI:∀z,z=e1.2.x5\/z=I.2.x5->z∈(e1.2.x5::R1)++(I.2.x5::R2):=λz hz=>pm.mem_iff.2 (by rcases hz with rfl|rfl<;>simp);have key:∀z,z=e1.2.x5\/z=I.2.x5->x≠z:=λz hz e=>by rcases E with E|E;exact hd.2.2 x (yK.2 ⟨b,E,G⟩) z (zH _ (aI z hz)) e;exact a3.2.2 z (aI z hz) x (yK.2 ⟨b,E,G⟩) e.symm
  refine⟨ae x ?_,key _ (.inl rfl),key _ (.inr rfl)⟩;rcases E with E|E;exact zH _ (yK.2 ⟨b,E,G⟩);exact zI _ (zI _ (yK.2 ⟨b,E,G⟩))
 have ai:∀b,b∈A\/b∈B->Has D M2 k v h b.2/\minOf k v h<=b.2.size:=λb E=>⟨(H.rest b E).1.j0 λx G=>by have h9:=a2 b E x G;have h8:=V x h9.1 h9.2.1;exact ((ah x h8.2.1 h9.2.2).1).trans h8.1,(H.rest b E).2⟩;have hL:=eL;have aJ:gI (A++(e1.1,(⟨J,m1,K1,J::O⟩:jF))::(r.2.2,⟨q2,m2,K2,q2::U⟩)::B):=by
  have hS:=H.sep;have hp:=pairwise_append.1 hS.pair;have aj:=yJ.1 hp.2.1;have aL:=yJ.1 aj.2;have hj:gI (A++(e1.1,(⟨0,0,L1++L2,[]⟩:jF))::B):=by refine⟨pairwise_append.2 ⟨hp.1,yJ.2 ⟨λb E=>⟨(aj.1 b (by simp[E])).1,λx G=>?_⟩,aL.2⟩,λa ha b E=>?_⟩,λb E x G=>?_⟩;rcases zD.1 G with G|G;exact (aj.1 b (by simp[E])).2 x G;exact (aL.1 b E).2 x G;rcases zG.1 E with rfl|E;exact hp.2.2 a ha (e1.1,⟨0,0,L1,[]⟩) oN;exact hp.2.2 a ha b (by simp[E]);rcases zD.1 E with E|E;exact hS.low b (by simp[E]) x G;rcases zG.1 E with rfl|E;rcases zD.1 G with G|G;exact hS.low (e1.1,⟨0,0,L1,[]⟩) oN x G;have h9:=hS.low (I.1,⟨0,0,L2,[]⟩) oN x G;exact Dv (wu (aj.1 (I.1,⟨0,0,L2,[]⟩) oN).1) h9;exact hS.low b (by simp[E]) x G
  exact hj.CC hL.symm aR aT aC aD
 have au:iw k (A++(e1.1,(⟨J,m1,K1,J::O⟩:jF))::(r.2.2,⟨q2,m2,K2,q2::U⟩)::B):=by
  have h9:iw k (A++e1::B):=λb E=>H.J6 b (by
   cases A with
   | nil=>exact zN _ E
   | cons a A=>
    rcases zD.1 (show b∈A++e1::B from E) with E|E;exact zH (e1::I::B) E;exact zI A ((zG.1 E).elim (λe=>by rw[e];simp) λE=>by simp[E]))
  exact quH h9 ⟨aU,aV⟩
 have av:((A++(e1.1,(⟨J,m1,K1,J::O⟩:jF))::(r.2.2,⟨q2,m2,K2,q2::U⟩)::B).map (·.1)).head?=some []:=by
  have h9:=H.head;cases A with|nil=>exact h9|cons a A=>exact h9
 refine⟨eK (A++(e1.1,(⟨J,m1,K1,J::O⟩:jF))::(r.2.2,⟨q2,m2,K2,q2::U⟩)::B),M2,_,?_,⟨_,av,rfl,by simp;omega,?_,rfl,au,aJ,H.len,λb E=>?_⟩,?_,oL⟩;have a4:(eK (A++e1::I::B)).J9.getD A.length 0=e1.2.x5:=C1.1;have a5:(eK (A++e1::I::B)).J9.getD (A.length+1) 0=I.2.x5:=C1.2;unfold qr;rw[a4,a5,s1];rw[iN λh=>h rfl,s2];exact Ma (λN=>((N,(0:Int)),M2)) (qEl (s1:=⟨J,m1,K1,J::O⟩) (s2:=⟨q2,m2,K2,q2::U⟩));rw[uq,yH,<- hL,zV];rcases zD.1 E with E|E;exact ai b (.inl E);rcases zG.1 E with rfl|E;exact⟨a1,aW⟩;rcases zG.1 E with rfl|E;exact⟨H2,aX⟩;exact ai b (.inr E);have t1:Step D M M1 (e1.2.x5::I.2.x5::(O++U)) ([J]++I.2.x5::(O++U)):=by
  have:=af.beside (λx G=>ae x (ab x (zN _ G))) (by have p9:(e1.2.x5::I.2.x5::(O++U)).Perm ((I.2.x5::(O++U))++[e1.2.x5]):=(LN _ _).symm;exact p9.nodup_iff.1 ak);exact this.perm (LN _ _) perm_append_comm
 have aM:∀x∈[J]++(O++U),eN M1 x:=λx G=>t1.has x (by rcases zD.1 G with G|G;exact zH _ G;exact zI _ (zN _ G));have p8:([J]++I.2.x5::(O++U)).Perm (([J]++(O++U))++[I.2.x5]):=(by exact perm_middle.trans<|(LN _ _).symm);have t2:=aH.beside aM (p8.nodup_iff.1 t1.nodup);have t3:=(t1.perm (.refl _) p8).trans t2;have p7:(([J]++(O++U))++[q2]).Perm ((J::O)++(q2::U)):=(by show (J::((O++U)++[q2])).Perm (J::(O++q2::U));refine List.Perm.cons _ ((LN _ _).trans ?_);exact perm_middle.symm);have t4:=Step.part ae aq (t3.perm pm.symm p7);rw[uq,yH];refine t4.perm (.refl _) ?_;rw[zV]
def qrX{n:Int}(I:M.Wf)(J:M.Q3=false)(O:eN M n):∃M',gf M n=(0,M')/\Step D M M' [n] []/\M.Q1.length<=M'.Q1.length:=by
 obtain⟨M',e,t,U,V,hl⟩:=qnr (q:=n+1) I J O oL;have G:∀x,x≠n->dO D M' x=dO D M x/\(eN M' x↔eN M x):=λx E=>by by_cases hq':x=n+1;rw[hq'];exact⟨U,V⟩;exact⟨t.rest x hq' E,t.use x hq' E⟩
 refine⟨M',e,⟨t.wf,t.Q3,t.Q2,t.j9,t.Q5,t.Q9,t.z9,t.x6,λx E h=>?_,λx E=>?_,λx E=>(nomatch E),λx E=>(nomatch E),.nil,t.jT⟩,hl⟩;have h:x≠n:=(oS h);exact⟨(G x h).1,(G x h).2.2 E,oN⟩;by_cases h:x=n;subst h;exact absurd E (t.left oL);exact .inr ⟨(G x h).2.1 E,by simpa using h⟩
def qsf(hc:jh k v){I:lI}{J O:Ml}(H:wI D M k v h A B e1 I Nl Nr n1 n2 L1 L2 J O)(h1:n1+n2<=(if h=0 then (eG k v).1 else (eG k v).2))(h2:minOf k v h<=n1+n2)(hf:1<=M.Q1.length): ∃N M' R,nT k v M (eK (A++e1::I::B)) A.length Nl Nr=((N,0),M')/\ll D M' k v (h+1) N (A.length+B.length+1) (A.flatMap (·.2.y5)++((L1++L2)++B.flatMap (·.2.y5))) R/\ Step D M M' (A.flatMap (·.2.y6)++(((e1.2.x5::J)++(I.2.x5::O))++B.flatMap (·.2.y6))) R/\M.Q1.length<=M'.Q1.length+1:=by
 obtain⟨aF,aG,aH,aI⟩:=H.Ce;have hJ:=qDV H.left H.right h1 aF aG ⟨aH,aI⟩;have a5:=hc.min h;have V:=H.use;have ao:=H.nodup;have pm:(((e1.2.x5::J)++(I.2.x5::O))).Perm (e1.2.x5::I.2.x5::(J++O)):=by rw[xI];exact (perm_middle).cons _
 have aa:∀x,x∈e1.2.x5::I.2.x5::(J++O)->x∈A.flatMap (·.2.y6)++(((e1.2.x5::J)++(I.2.x5::O))++B.flatMap (·.2.y6)):=λx G=>zI _ (zH _ (pm.mem_iff.2 G));have an:=pm.nodup_iff.1 (yM.1 (yM.1 ao).2.1).1;have ab:=nodup_cons.1 an;have au:=nodup_cons.1 ab.2;have aJ:=V _ (aa e1.2.x5 oN);have av:=V _ (aa I.2.x5 oN);obtain⟨q,M1,s1,ac,H1,a6⟩:=hJ.store H.wf H.Q3 oL aJ (λhm=>ab.1 (zN _ hm)) hf;have ad:I.2.x5≠e1.2.x5:=λe=>ab.1 (by rw[e];simp);have U:∀x,eN M x->x≠e1.2.x5->dO D M1 x=dO D M x/\eN M1 x/\x≠q:=λx G ap=>by
  have:=ac.rest x G (oS ap);exact⟨this.1,this.2.1,by simpa using this.2.2⟩
 obtain⟨M2,s2,ax,a8⟩:=qrX (D:=D) ac.wf ac.Q3 (U _ av ad).2.1;have ae:∀x,eN M1 x->x≠I.2.x5->dO D M2 x=dO D M1 x/\eN M2 x:=λx G ap=>by
  have:=ax.rest x G (oS ap);exact⟨this.1,this.2.1⟩
 have aK:=H1.j0 λx G=>(ae x (H1.J4 ac.Q3 x G) λe=>by rcases zG.1 G with e'|G;exact (U _ av ad).2.2 (by rw[<- e,e']);exact au.1 (e▸G)).1;have aL:∀b,b∈A\/b∈B->∀x∈b.2.y6,eN M x/\x≠e1.2.x5/\x≠I.2.x5:=λb E x G=>by
  have hd:=yM.1 ao;have aM:=yM.1 hd.2.1;have ay:∀z,z=e1.2.x5\/z=I.2.x5->z∈(e1.2.x5::J)++(I.2.x5::O):=λz hz=>pm.mem_iff.2 (by rcases hz with rfl|rfl<;>simp);have key:∀z,z=e1.2.x5\/z=I.2.x5->x≠z:=λz hz e=>by rcases E with E|E;exact hd.2.2 x (yK.2 ⟨b,E,G⟩) z (zH _ (ay z hz)) e;exact aM.2.2 z (ay z hz) x (yK.2 ⟨b,E,G⟩) e.symm
  refine⟨V x ?_,key _ (.inl rfl),key _ (.inr rfl)⟩;rcases E with E|E;exact zH _ (yK.2 ⟨b,E,G⟩);exact zI _ (zI _ (yK.2 ⟨b,E,G⟩))
 have af:∀b,b∈A\/b∈B->Has D M2 k v h b.2/\minOf k v h<=b.2.size:=λb E=>⟨(H.rest b E).1.j0 λx G=>by have h9:=aL b E x G;have h8:=U x h9.1 h9.2.1;exact ((ae x h8.2.1 h9.2.2).1).trans h8.1,(H.rest b E).2⟩;have hS:=H.sep;have hp:=pairwise_append.1 hS.pair;have aj:=yJ.1 hp.2.1;have aA:=yJ.1 aj.2;have aB:gI (A++(e1.1,(⟨q,n1+n2,L1++L2,q::(J++O)⟩:jF))::B):=by refine⟨pairwise_append.2 ⟨hp.1,yJ.2 ⟨λb E=>⟨(aj.1 b (by simp[E])).1,λx G=>?_⟩,aA.2⟩,λa ha b E=>?_⟩,λb E x G=>?_⟩;rcases zD.1 G with G|G;exact (aj.1 b (by simp[E])).2 x G;exact (aA.1 b E).2 x G;rcases zG.1 E with rfl|E;exact hp.2.2 a ha (e1.1,⟨0,0,L1,[]⟩) oN;exact hp.2.2 a ha b (by simp[E]);rcases zD.1 E with E|E;exact hS.low b (by simp[E]) x G;rcases zG.1 E with rfl|E;rcases zD.1 G with G|G;exact hS.low (e1.1,⟨0,0,L1,[]⟩) oN x G;have h9:=hS.low (I.1,⟨0,0,L2,[]⟩) oN x G;exact Dv (wu (aj.1 (I.1,⟨0,0,L2,[]⟩) oN).1) h9;exact hS.low b (by simp[E]) x G
 have aq:iw k (A++(e1.1,(⟨q,n1+n2,L1++L2,q::(J++O)⟩:jF))::B):=by
  have h9:iw k (A++e1::B):=λb E=>H.J6 b (by
   cases A with
   | nil=>exact zN _ E
   | cons a A=>
    rcases zD.1 (show b∈A++e1::B from E) with E|E;exact zH (e1::I::B) E;exact zI A ((zG.1 E).elim (λe=>by rw[e];simp) λE=>by simp[E]))
  exact I1 h9
 have ar:((A++(e1.1,(⟨q,n1+n2,L1++L2,q::(J++O)⟩:jF))::B).map (·.1)).head?=some []:=by
  have h9:=H.head;cases A with|nil=>exact h9|cons a A=>exact h9
 have aY:=H.len;refine⟨eK (A++(e1.1,(⟨q,n1+n2,L1++L2,q::(J++O)⟩:jF))::B),M2,_,?_,⟨_,ar,rfl,by simp;omega,by rw[uq],rfl,aq,aB,oL,λb E=>?_⟩,?_,oL⟩;have aN:(eK (A++e1::I::B)).J9.getD A.length 0=e1.2.x5:=C1.1;have aO:(eK (A++e1::I::B)).J9.getD (A.length+1) 0=I.2.x5:=C1.2;have aP:(eK (A++e1::I::B)).J6.getD A.length []=I.1:=Lt;unfold nT;rw[aN,aO,aP,s1];rw[iN λh=>h rfl,s2];rw[iN λh=>h rfl];exact Ma (λN=>((N,(0:Int)),M2)) (qDF (s:=⟨q,n1+n2,L1++L2,q::(J++O)⟩));rcases zD.1 E with E|E;exact af b (.inl E);rcases zG.1 E with rfl|E;exact⟨aK,h2⟩;exact af b (.inr E);have t1:Step D M M1 (e1.2.x5::I.2.x5::(J++O)) ([q]++I.2.x5::(J++O)):=by
  have:=ac.beside (λx G=>V x (aa x (zN _ G))) (by have p9:(e1.2.x5::I.2.x5::(J++O)).Perm ((I.2.x5::(J++O))++[e1.2.x5]):=(LN _ _).symm;exact p9.nodup_iff.1 an);exact this.perm (LN _ _) perm_append_comm
 have p8:([q]++I.2.x5::(J++O)).Perm (([q]++(J++O))++[I.2.x5]):=(by exact perm_middle.trans<|(LN _ _).symm);have t2:=ax.beside (λx G=>t1.has x (by rcases zD.1 G with G|G;exact zH _ G;exact zI _ (zN _ G))) (p8.nodup_iff.1 t1.nodup);have t3:=(t1.perm (.refl _) p8).trans t2;rw[xG] at t3;have t4:=Step.part V ao (t3.perm pm.symm (.refl _));rw[uq];exact t4
def gI.swap(h:gI (A++e::B))(E:∀x∈s.y5,x∈e.2.y5):gI (A++(e.1,s)::B):=
 h.put (key:=e.1) uL (λb G=>(h.mid.2 b G).1) λx I=>.inr (E x I)
variable {n:dX} {l:List Key} {j:Nat} {B:Mk}
def IE(hc:jh k v){key:Key}:∀(h:Nat) (M:eU) (s:jF),Has D M k v h s->M.Wf->M.Q3=false->s.y6.Nodup->key∈eE s.y5->2*h<=M.Q1.length-> ∃N n M' R R',jk D k v key (h+1) M s.x5=((N,0),M')/\s.y6=s.x5::R/\ll D M' k v h N n (iG key s.y5) R'/\Step D M M' R R'/\s.size<=n+1/\M.Q1.length<=M'.Q1.length+2*h
 | 0,M,s,hs,hW,ho,aM,ak,hf=>by
  obtain⟨N,R,hl,hN,hp,bU,_⟩:=hs.load;have bV:=hN;obtain⟨rfl,hn,rfl,hL,aN,bK⟩:=hN;have al:=qpy aN ak;have hm:=(CO aN).2 ak;have hi:eh (eE s.y5) key<s.y5.length:=by
   have:=(zP.1 hm).1;simpa using this
  have bL:(iG key s.y5).length+1=s.y5.length:=(by rw[al,zF,yL,yC];omega);refine⟨fL (iG key s.y5),(iG key s.y5).length,M,[],[],?_,hp,⟨rfl,rfl,rfl,λx E=>hL x (Ib.1 E).1,qrR aN,oL⟩,Step.refl hW ho (λx E=>nomatch E) .nil,oL,oL⟩;unfold jk;rw[hl];rw[iN λh=>h rfl,iP (show (fL s.y5).Q4=true from rfl),iP (show (fL s.y5).J6[eh (fL s.y5).J6 key]?=some key from hm)];refine Ma (λN=>((N,(0:Int)),M)) ?_;rw[al];unfold fL iY;simp only[xL,xN,xO]
 | h+1,M,⟨p,n,L,P⟩,⟨es,h0,h1,h2,h3,h4,h5,h6,h7⟩,hW,ho,aM,ak,hf=>by
  dsimp only at h1 h2 h3 h5 aM ak;subst h1 h2 h3;have hl:=h4.load h5;have an:=h4.right.x9;obtain⟨A,e,B,ab,hA,bu,bv,aP⟩:=G0 h0 h6;have aQ:(eK es).J9.getD (ga (eK es).J6 key) 0=e.2.x5:=aP;have bx:ga (eK es).J6 key=A.length:=hA.symm;have bz:e∈es:=(by rw[ab];simp);obtain⟨bA,bB⟩:=h7 e bz;have ai:es.flatMap (·.2.y6)=A.flatMap (·.2.y6)++(e.2.y6++B.flatMap (·.2.y6)):=(by rw[ab,uq]);have aw:es.flatMap (·.2.y5)=A.flatMap (·.2.y5)++(e.2.y5++B.flatMap (·.2.y5)):=(by rw[ab,uq]);have aA:∀z∈A.flatMap (·.2.y6)++(e.2.y6++B.flatMap (·.2.y6)),eN M z:=λz hz=>by rw[<- ai] at hz;obtain⟨b,I,hz⟩:=yK.1 hz;exact (h7 b I).1.J4 ho z hz
  have ah:(A.flatMap (·.2.y6)++(e.2.y6++B.flatMap (·.2.y6))).Nodup:=(by rw[<- ai];exact (nodup_cons.1 aM).2);have ao:=(yM.1 (yM.1 ah).2.1).1;have ax:=h6;rw[ab] at ax;have aB:=ax.mid;have bg:∀x∈A.flatMap (·.2.y5),gX x.1 key:=λx E=>by obtain⟨a,ha,E⟩:=yK.1 E;exact vY (aB.1 a ha x E) bu
  have bh:∀x∈B.flatMap (·.2.y5),gX key x.1:=λx E=>by obtain⟨b,I,E⟩:=yK.1 E;exact vY (bv b I) ((aB.2 b I).2.2 x E)
  have al:iG key (es.flatMap (·.2.y5))=A.flatMap (·.2.y5)++(iG key e.2.y5++B.flatMap (·.2.y5)):=(by rw[aw,qpx bg,qnp bh]);have aR:key∈eE e.2.y5:=by obtain⟨x,E,rfl⟩:=mem_map.1 ak;rw[aw] at E;rcases zD.1 E with E|E;exact absurd (bg x E) uL;rcases zD.1 E with E|E;exact zY E;exact absurd (bh x E) uL
  obtain⟨N1,n1,M1,Re,aa,ec,aT,az,st,b1,b2⟩:=IE hc h M e.2 bA hW ho ao aR oL;rw[aT] at aA ah ao;have ac:=iw.of h4;have aK:=(nodup_cons.1 ao).1;have aU:eN M e.2.x5:=aA _ oN;have bC:Step D M M1 (e.2.x5::Re) (e.2.x5::aa):=st.beside (λx E=>by rw[zE.1 E];exact aU) (oS ao);have aV:=Step.part aA ah bC;have bi:=(st.rest _ aU aK).2.1;have aW:=(st.rest _ aU aK).2.2;have J:∀b,b∈A\/b∈B->Has D M1 k v h b.2/\minOf k v h<=b.2.size:=λb I=>by
   have aX:b∈es:=by rw[ab];rcases I with I|I<;>simp[I]
   refine⟨(h7 b aX).1.j0 λx E=>?_,(h7 b aX).2⟩;have hd:=yM.1 ah;refine (st.rest x ((h7 b aX).1.J4 ho x E) λhm=>?_).1;rcases I with I|I;exact hd.2.2 x (yK.2 ⟨b,I,E⟩) x (zH _ (zN _ hm)) rfl;exact (yM.1 hd.2.1).2.2 x (zN _ hm) x (yK.2 ⟨b,I,E⟩) rfl
  have b3:=hc.min h;have au:minOf k v h=(if h=0 then (eG k v).1 else (eG k v).2) / 2:=(by unfold minOf;split<;>rfl);have aC:gI (A++(e.1,(⟨0,0,iG key e.2.y5,[]⟩:jF))::B):=ax.swap λx E=>(Ib.1 E).1;have G:es.length=A.length+B.length+1:=(by rw[ab];simp;omega);have aE:∀ {N:dX} {M2:eU} {n R':_},ll D M2 k v (h+1) N n (A.flatMap (·.2.y5)++(iG key e.2.y5++B.flatMap (·.2.y5))) R'->ll D M2 k v (h+1) N n (iG key (es.flatMap (·.2.y5))) R':=λh9=>by rw[al];exact h9
  have ay:∀ {M2:eU} {R':Ml},Step D M1 M2 (A.flatMap (·.2.y6)++((e.2.x5::aa)++B.flatMap (·.2.y6))) R'->Step D M M2 (es.flatMap (·.2.y6)) R':=λh9=>by rw[ai,aT];exact aV.trans h9
  have aL:rG N1 k v↔n1<minOf k v h:=(by unfold rG;rw[az.size,au]);unfold jk;rw[hl];rw[iN λh=>h rfl,iN (show ¬(eK es).Q4=true from λe=>nomatch e),aQ,ec];rw[iN λh=>h rfl,bx];by_cases hlw:rG N1 k v;rw[iN λh=>h hlw];have b4:=aL.1 hlw;have bk:n1+1=minOf k v h:=oL;by_cases hA0:A.length>0;rw[iP hA0];obtain⟨A',f,rfl⟩:∃A' f,A=A'++[f]:=(by have bl:=length_pos_iff.1 hA0;exact⟨A.dropLast,A.getLast bl,(xZ bl).symm⟩);have bD:(A'++[f]).length-1=A'.length:=oN;rw[bD];have aY:=J f (.inl oN);obtain⟨Ny,Ry,a0,av,a1,_,_⟩:=aY.1.load;have O:es=A'++f::e::B:=(by rw[ab];simp);have bE:(A'++[f]).flatMap (·.2.y6)=A'.flatMap (·.2.y6)++f.2.y6:=(by simp[yQ]);have bn:(A'++[f]).flatMap (·.2.y5)=A'.flatMap (·.2.y5)++f.2.y5:=(by simp[yQ]);have ad:(A'++[f]).flatMap (·.2.y6)++((e.2.x5::aa)++B.flatMap (·.2.y6))=A'.flatMap (·.2.y6)++(((f.2.x5::Ry)++(e.2.x5::aa))++B.flatMap (·.2.y6)):=(by rw[bE,a1];simp only[zV]);have ar:(A'++[f]).flatMap (·.2.y5)++(iG key e.2.y5++B.flatMap (·.2.y5))=A'.flatMap (·.2.y5)++((f.2.y5++iG key e.2.y5)++B.flatMap (·.2.y5)):=(by rw[bn];simp only[zV]);have aD:gI (A'++(f.1,(⟨0,0,f.2.y5,[]⟩:jF))::(e.1,⟨0,0,iG key e.2.y5,[]⟩)::B):=(by have h9:gI (A'++f::((e.1,(⟨0,0,iG key e.2.y5,[]⟩:jF))::B)):=(oS aC);exact h9.swap λx E=>E);have ae:=aV;rw[ad] at ae;have Hn:wI D M1 k v h A' B f e Ny N1 f.2.size n1 f.2.y5 (iG key e.2.y5) Ry aa:=
   ⟨st.wf,st.Q3,by rw[<- O];exact h0,by rw[<- O];exact ac,aD,by have:=an.2;rw[G] at this;simp at this;omega,λb I=>J b (I.imp (λI=>by simp[I]) id),av,az,ae.has,ae.nodup⟩
  have a3:(eK es).J9.getD A'.length 0=f.2.x5:=(by rw[O];exact C1.1);have U:kj Ny k v↔minOf k v h<f.2.size:=(by unfold kj;rw[av.size,au]);unfold lJ;rw[a3,a0];rw[iN λh=>h rfl,iP (show A'.length<(A'++[f]).length by simp),O];by_cases hsq:kj Ny k v;rw[iN λh=>h hsq];obtain⟨a4,a5,a6,a7⟩:=Hn.Ce;have a8:(eK (A'++f::e::B)).J6.getD A'.length []=e.1:=Lt;rw[a8];obtain⟨N,M2,R,e2,af,V,aG⟩:=qwC hc Hn (qDM hc av az (U.1 hsq) bk a4 a5 ⟨a6,a7⟩) oL;rw[<- ar] at af;rw[<- ad] at V;rw[<- O];exact⟨N,_,M2,_,R,by rw[O];exact e2,rfl,aE af,ay V,by rw[G];simp;omega,oL⟩;rw[iP hsq];have bF:=Nat.le_of_not_lt λh9=>hsq (U.2 h9);obtain⟨N,M2,R,e2,af,V,aG⟩:=qsf hc Hn oL oL oL;rw[<- ar] at af;rw[<- ad] at V;rw[<- O];exact⟨N,_,M2,_,R,by rw[O];exact e2,rfl,aE af,ay V,by rw[G];simp;omega,oL⟩;rw[iN hA0];obtain rfl:A=[]:=LX oL;obtain⟨f,B',rfl⟩:∃f B',B=f::B':=by
   cases B with|nil=>rw[G] at an;simp at an|cons f B'=>exact⟨f,B',rfl⟩
  have aY:=J f (.inr oN);obtain⟨Ny,Ry,a0,av,a1,_,_⟩:=aY.1.load;have O:=ab;have ad:([]:List lI).flatMap (·.2.y6)++((e.2.x5::aa)++(f::B').flatMap (·.2.y6))=([]:List lI).flatMap (·.2.y6)++(((e.2.x5::aa)++(f.2.x5::Ry))++B'.flatMap (·.2.y6)):=by rw[yH,a1];simp only[zV]
  have ar:([]:List lI).flatMap (·.2.y5)++(iG key e.2.y5++(f::B').flatMap (·.2.y5))=([]:List lI).flatMap (·.2.y5)++((iG key e.2.y5++f.2.y5)++B'.flatMap (·.2.y5)):=(by rw[yH];simp only[zV]);have aD:gI ([]++(e.1,(⟨0,0,iG key e.2.y5,[]⟩:jF))::(f.1,⟨0,0,f.2.y5,[]⟩)::B'):=(by have h9:gI ([(e.1,(⟨0,0,iG key e.2.y5,[]⟩:jF))]++f::B'):=aC;exact h9.swap λx E=>E);have ae:=aV;rw[ad] at ae;have Hn:wI D M1 k v h [] B' e f N1 Ny n1 f.2.size (iG key e.2.y5) f.2.y5 aa Ry:=
   ⟨st.wf,st.Q3,by rw[<- O];exact h0,by rw[<- O];exact ac,aD,by have:=an.2;rw[G] at this;simp at this⊢;omega,λb I=>J b (I.imp id λI=>by simp[I]),az,av,ae.has,ae.nodup⟩
  have a3:(eK es).J9.getD (([]:List lI).length+1) 0=f.2.x5:=(by rw[O];exact C1.2);have U:kj Ny k v↔minOf k v h<f.2.size:=(by unfold kj;rw[av.size,au]);unfold lJ;rw[a3,a0];rw[iN λh=>h rfl,iN (show ¬([]:List lI).length+1<([]:List lI).length by simp),O];by_cases hsq:kj Ny k v;rw[iN λh=>h hsq];obtain⟨a4,a5,a6,a7⟩:=Hn.Ce;have a8:(eK ([]++e::f::B')).J6.getD ([]:List lI).length []=f.1:=Lt (A:=[]) (e1:=e);rw[a8];obtain⟨N,M2,R,e2,af,V,aG⟩:=qwC hc Hn (qEq hc az av bk (U.1 hsq) a4 a5 ⟨a6,a7⟩) oL;rw[<- ar] at af;rw[<- ad] at V;rw[<- O];exact⟨N,_,M2,_,R,by rw[O];exact e2,rfl,aE af,ay V,by rw[G];simp,oL⟩;rw[iP hsq];have bF:=Nat.le_of_not_lt λh9=>hsq (U.2 h9);obtain⟨N,M2,R,e2,af,V,aG⟩:=qsf hc Hn oL oL oL;rw[<- ar] at af;rw[<- ad] at V;rw[<- O];exact⟨N,_,M2,_,R,by rw[O];exact e2,rfl,aE af,ay V,by rw[G];simp,oL⟩;rw[iP hlw];have bG:=Nat.le_of_not_lt λh9=>hlw (aL.2 h9);obtain⟨q,M2,e2,V,H2,aG⟩:=az.store st.wf st.Q3 oL bi aW oL;rw[e2];have bH:=Step.kid (λz hz=>aA z (zI _ (zH _ hz))) ao st V;have bI:=Step.part aA ah bH;have a9:gI (A++(e.1,(⟨q,n1,iG key e.2.y5,q::aa⟩:jF))::B):=ax.swap λx E=>(Ib.1 E).1;have a':((A++(e.1,(⟨q,n1,iG key e.2.y5,q::aa⟩:jF))::B).map (·.1)).head?=some []:=(by rw[ab] at h0;rw[xL,xM] at h0⊢;exact h0);refine⟨eK (A++(e.1,(⟨q,n1,iG key e.2.y5,q::aa⟩:jF))::B),es.length,M2,_,A.flatMap (·.2.y6)++((q::aa)++B.flatMap (·.2.y6)),?_,rfl,⟨_,a',rfl,by rw[ab];simp,by rw[uq,al],by rw[uq],I1 (by rw[<- ab];exact ac),a9,an.2,λb I=>?_⟩,by rw[ai,aT];exact bI,by show es.length<=es.length+1;omega,oL⟩;rw[ab];exact Ma (λN=>((N,(0:Int)),M2)) (qEk (s:=⟨q,n1,iG key e.2.y5,q::aa⟩));have bo:∀b,b∈A\/b∈B->Has D M2 k v h b.2/\minOf k v h<=b.2.size:=λb I=>by have h9:=J b I;refine⟨h9.1.j0 λx E=>(V.rest x (h9.1.J4 st.Q3 x E) λhm=>?_).1,h9.2⟩;have hd:=yM.1 ah;have bp:=zE.1 hm;rcases I with I|I;exact hd.2.2 x (yK.2 ⟨b,I,E⟩) x (by rw[bp];simp) rfl;exact (yM.1 hd.2.1).2.2 x (by rw[bp];simp) x (yK.2 ⟨b,I,E⟩) rfl
  rcases zD.1 I with I|I;exact bo b (.inl I);rcases zG.1 I with rfl|I;exact⟨H2,bG⟩;exact bo b (.inr I)
def Iw{α:Type}{p:α->Bool}:∀ {l:List α} {r:Nat},r<=l.length->(∀(i:Nat) a,i<r->l[i]?=some a->p a=true)->(∀a,l[r]?=some a->p a=false)->(l.takeWhile p).length=r
 | [],r,h,_,_=>by simp at h;simp[h]
 | x::l,0,h,_,E=>by
  have:=E x rfl;rw[takeWhile_cons,this];rfl
 | x::l,r+1,h,I,E=>by
  have J:=I 0 x (Nat.succ_pos r) rfl;have:=Iw (oS h) (λi a O G=>I (i+1) a oL (oS G)) (λa G=>E a (oS G));rw[takeWhile_cons,J];simp[this]
def qDW{k:Key}{r:Nat}(G:r<=l.length)(I:∀(i:Nat) a,i<r->l[i]?=some a->pr a k)(J:∀a,l[r]?=some a->gX k a):ga l k=r:=
 Iw G (λi a O E=>yA (I i a O E)) λa E=>zU λh=>h (J a E)
def qAv{k:Key}{r:Nat}(E:r<=l.length)(G:∀(i:Nat) a,i<r->l[i]?=some a->gX a k)(I:∀a,l[r]?=some a->pr k a):eh l k=r:=
 Iw E (λi a J h=>yA (G i a J h)) λa h=>zU (I a h)
def Iy(h:gQ l){a b:Key}(E:i<j)(G:l[i]?=some a)(I:l[j]?=some b):gX a b:=by obtain⟨J,rfl⟩:=zP.1 G;obtain⟨O,rfl⟩:=zP.1 I;exact pairwise_iff_getElem.1 h i j J O E
abbrev mp:=Mm
def fB (x:mp):Array Me:=#[.bool x.1,x.2.1.v,x.2.2.1.v,x.2.2.2.v]
def gG:mp:=(false,dN,dN,dN)
def NB (n:dX):Prop:=(∀a∈n.J6,fj a)/\(∀a∈n.Q0,fj a)/\∀x∈n.J9,jf x
def fe (S:Mk) (w:Md) (x:mp) (n:dX):Prop:=
 x.1=n.Q4/\NB n/\(∃pk,lf S w x.2.1 pk/\io pk=n.J6)/\(∃pv,lf S w x.2.2.1 pv/\io pv=n.Q0)/\eT jS 1 S w x.2.2.2 n.J9
def kE (Z:Mk) (w:Md) (s:Sl) (l:List Key) (B:Mk):Prop:=∃pk:sP,eZ ir 1 w s (jG pk) B/\io pk=l/\∀p∈pk,eY Z w p.1 p.2
def gc (Z:Mk) (w:Md) (x:mp) (n:dX) (B:Mk):Prop:=
 x.1=n.Q4/\NB n/\∃Bk h E,B=Bk++(h++E)/\B.Nodup/\kE Z w x.2.1 n.J6 Bk/\kE Z w x.2.2.1 n.Q0 h/\eZ jS 1 w x.2.2.2 n.J9 E
def kE.nil(Z:Mk)(w:Md):kE Z w dN [] []:=⟨[],.nil _ _ _,rfl,λp h=>nomatch h⟩
def gc.zero(Z:Mk)(w:Md):gc Z w gG jx []:=⟨rfl,⟨λ_ h=>(nomatch h),λ_ h=>(nomatch h),λ_ h=>(nomatch h)⟩,[],[],[],rfl,nodup_nil,.nil _ _,.nil _ _,.nil _ _ _⟩
variable {s:Sl} {Z S Z' S':Mk} {w w':Md} {x:mp} {a:Addr} {E:Nat} {hi lo:Int} {K:Sl->Prop} {cs:Array Me} {T:Mf}
def kE.lt(h:kE Z w s l B):∀b∈B,b<w.z:=by obtain⟨pk,E,rfl,_⟩:=h;exact E.lt
def kE.j0(h:kE Z w s l B)(f:Fr S w w')(E:∀b∈B,b∉S)(G:∀b∈S,b∈Z\/w.z<=b)(I:∀b∈Z',b∈Z\/w.z<=b):kE Z' w' s l B:=by obtain⟨pk,J,O,U⟩:=h;exact⟨pk,J.j0 f E,O,λp V=>(U p V).j0 (f.mono λi hi hl=>(G i hi).elim id λh=>absurd hl oL) I⟩
def kE.q9(h:kE Z w s l B)(f:Fr [] w w'):kE Z w' s l B:=h.j0 f (λ_ _ h=>nomatch h) (λ_ h=>nomatch h) λ_ h=>.inl h
def gc.lt(h:gc Z w x n B):∀b∈B,b<w.z:=by obtain⟨_,_,Bk,O,U,rfl,_,G,I,J⟩:=h;intro b E;rcases zD.1 E with E|E;exact G.lt b E;rcases zD.1 E with E|E;exact I.lt b E;exact J.lt b E
def gc.j0(h:gc Z w x n B)(f:Fr S w w')(G:∀b∈B,b∉S)(I:∀b∈S,b∈Z\/w.z<=b)(J:∀b∈Z',b∈Z\/w.z<=b):gc Z' w' x n B:=by obtain⟨O,E,Bk,U,V,rfl,hn,h1,h2,h3⟩:=h;exact⟨O,E,Bk,U,V,rfl,hn,h1.j0 f (λb E=>G b (by simp[E])) I J,h2.j0 f (λb E=>G b (by simp[E])) I J,h3.j0 f λb E=>G b (by simp[E])⟩
def gc.q9(h:gc Z w x n B)(f:Fr [] w w'):gc Z w' x n B:=h.j0 f (λ_ _ h=>nomatch h) (λ_ h=>nomatch h) λ_ h=>.inl h
def gc.j6(h:gc Z w x n B)(E:∀b∈Z',b∈Z\/w.z<=b):gc Z' w x n B:=h.j0 (.refl [] _) (λ_ _ h=>nomatch h) (λ_ h=>nomatch h) E
def kE.rd(h:kE Z w s l B)(E:∀b∈B,b∉S)(G:∀b∈S,b∈Z\/w.z<=b):∃pk,lf S w s pk/\io pk=l:=by obtain⟨pk,I,J,O⟩:=h;exact⟨pk,⟨I.ju AZ E,λp U=>(O p U).j0 (.refl _ _) G⟩,J⟩
def gc.rd(h:gc Z w x n B)(G:∀b∈B,b∉S)(I:∀b∈S,b∈Z\/w.z<=b):fe S w x n:=by obtain⟨J,E,Bk,Bv,Bi,rfl,hn,O,U,V⟩:=h;exact⟨J,E,O.rd (λb E=>G b (by simp[E])) I,U.rd (λb E=>G b (by simp[E])) I,V.ju (λ_=>rfl) λb E=>G b (by simp[E])⟩
def fe.j0(h:fe S w x n)(f:Fr S w w')(E:∀b∈S',b∈S\/w.z<=b):fe S' w' x n:=by obtain⟨G,I,⟨pk,J,O⟩,⟨pv,U,V⟩,h5⟩:=h;exact⟨G,I,⟨pk,J.j0 f E,O⟩,⟨pv,U.j0 f E,V⟩,h5.j0 f E⟩
def fe.q9(h:fe S w x n)(f:Fr [] w w'):fe S w' x n:=h.j0 (f.mono λb E=>nomatch E) λb E=>.inl E
def fe.j6(h:fe S w x n)(E:∀b∈S',b∈S\/w.z<=b):fe S' w x n:=h.j0 (.refl _ _) E
def qlJ:∀ {l:List Key},(∀(i:Nat) a b,l[i]?=some a->l[i+1]?=some b->gX a b)->gQ l
 | [],_=>.nil
 | [x],_=>pairwise_singleton _ _
 | x::y::r,h=>by have ih:=qlJ λi a b E I=>h (i+1) a b (oS E) (oS I);have G:=h 0 x y rfl rfl;refine yJ.2 ⟨λa E=>?_,ih⟩;rcases zG.1 E with rfl|E;exact G;exact t8 G (CX ih a E)
def GW{α:Type}{l:List α}{x y:α}(h:y∈gz l i x):y=x\/y∈l:=by unfold gz at h;simp only[zD,zE] at h;rcases h with (h|h)|h;exact .inr (yV h);exact .inl h;exact .inr (yU h)
def JS{k v:Nat}:∀(c:Nat) {b:Ml},fj b->(∀a∈(jZ k v c b).1,fj a)/\∀a∈(jZ k v c b).2,fj a
 | 0,_,_=>⟨λ_ h=>(nomatch h),λ_ h=>(nomatch h)⟩
 | c+1,b,h=>by have ih:=JS (k:=k) (v:=v) c (b:=b.drop (k+v)) (h.drop _);refine⟨λa E=>?_,λa E=>?_⟩;rcases zG.1 E with rfl|E;exact h.take _;exact ih.1 a E;rcases zG.1 E with rfl|E;exact (h.drop _).take _;exact ih.2 a E
def qsh{k:Nat}:∀(c:Nat) {b:Ml},fj b->∀a∈mS k c b,fj a
 | 0,_,_=>λ_ h=>(nomatch h)
 | c+1,b,h=>λa E=>by rcases zG.1 E with rfl|E;exact h.take _;exact qsh c (h.drop _) a E
def GZ:∃i,prog.info? 79=some i/\i.zero=some (.slice none 0 0)/\i.size=1/\i.bytes=24:=yy oM
abbrev je (s:Sl):Me:=s.v
abbrev uw (n:Int):Me:=.u n
def FL{α:Type}(e:α->Me)(l:List α)(i:Nat)(x:α):(l.take i++[x]++l.drop i).map e=(l.map e).take i++[e x]++(l.map e).drop i:=by rw[xL,xL,xN,xO];rfl
def qwG{α:Type}(e:α->Me)(l:List α)(i:Nat):(l.take i++l.drop (i+1)).map e=(l.map e).take i++(l.map e).drop (i+1):=by rw[xL,xN,xO]
def C8{len cap:Nat}(n:Nat)(G:hi=n)(h:n<=cap)(k:K ⟨some a,n,cap⟩):gi ⟨some a,len,cap⟩ none (some hi) none E K:=by subst G;refine Dk ⟨oL,by dsimp only;omega⟩ ?_;rw[zJ];exact k
def vM{b len cap:Nat}(n:Nat)(h:lo=n)(G:n<=len)(E:len<=cap)(I:n<cap)(k:K ⟨some (dh b n),len-n,cap-n⟩):gi ⟨pW b,len,cap⟩ (some lo) none none 1 K:=by subst h;refine FJ oL oL E oL ?_;rw[zJ,xR,xQ];exact k
def qAW{G:Int}(h:0<=lo/\lo<=hi/\hi<=G/\G<=s.cap)(k:∀I,K I):gi s (some lo) (some hi) (some G) E K:=by unfold gi;exact⟨by simpa using h,k _⟩
def DE{α:Type}{e:α->Me}{b:Nat}{G:Mu}{l:List α}(I:w.heap[b]?=some (.cells cs T G))(J:cs.toList.take l.length=l.map e)(i:Nat):∀(j:Nat) u,((l.map e).drop i)[j]?=some u->w.cell? (Addr.add (dh b i) j)=some u:=λj u E=>by rw[Addr.j1,jI I];rw[xA] at E;have h:=(zP.1 E).1;rw[zK] at h;rw[<- J,xB,iP h] at E;simpa using E
def qnE{α:Type}{e:α->Me}{l:List α}(h:cs.toList.take l.length=l.map e)(hi:i<=l.length):cs.toList.take i=(l.map e).take i:=by rw[<- h,take_take,xP hi]
def FV{α:Type}{enc:α->List Me}{e:α->Me}(E:∀x,enc x=[e x]){l:List α}(h:cs.toList.take l.length=l.flatMap enc):cs.toList.take l.length=l.map e:=by rw[h,Cj E]
variable {l:List Sl} {K:Sl->WP} {ii jj:Int} {vb:Nat} {T':Mf}
def qxq{x:Sl}(h:eZ ir 1 w s l B)(hi:i<=l.length)(he:ii=i)(hl:l.length<=100000)(hv:w.heap[vb]?=some (.c #[je x] T'))(al:vb∉B)(kk:∀s' B' w',eZ ir 1 w' s' (gz l i x) B'->Fr B w w'->(∀b∈B',b∈B\/w.z<=b)->K s' w'): cW 262 [s.v,.i ii,.slice (pW vb) 1 1] di w K:=by
 obtain⟨aH,ac,hz,an,ao⟩:=GZ;refine qm8 (s:=s) (i:=ii) (v:=⟨pW vb,1,1⟩) ?_;subst he;have ap:=h.len;have ad:∀w',Fr B w w'->∀(j:Nat) u,([je x]:List Me)[j]?=some u->w'.cell? (Addr.add (dh vb) j)=some u:=λw' f j u hj=>by rw[Addr.j1,jI (by rw[f.block vb (gg hv) al];exact hv),xQ];simpa using hj
 refine eT.part (S:=[]) (eZ.ju (enc:=ir) (k:=1) (λ_=>rfl) h λ_ _ h=>nomatch h) (lo:=some (i:Int)) (hi:=none) i l.length rfl (by rw[xU,ap]) hi (zM _) λs1 _ _ _=>x_ ?_;apply eF<;>intro hc;have O:i=l.length:=(by have:=yP.1 hc;omega);have aq:Src prog 1 116 (.slice (pW vb) 1 1) 1 ([x].flatMap ir) w:=.ofSlice w (e':=79) oM _ 1 1 _ rfl (ad w (.refl _ _)) (λu hu=>by rw[yH,flatMap_nil,xG] at hu;rw[zE.1 hu];rfl);refine eZ.j2 (ys:=[x]) (e:=79) h (λ_=>rfl) oM ac hz an rfl aq rfl (by rw[ao];omega) oL λs' B' w' b' f' n' _=>kk s' B' w' ?_ f' n';have e:gz l i x=l++[x]:=(by unfold gz;rw[O,xY,drop_length,xG]);rw[e];exact b';have O:i<l.length:=by
  have:=(zR.1 hc)
  omega
 have aI:l≠[]:=λe=>by rw[e] at O;exact absurd O (xX _)
 obtain⟨b,cs,T,rfl,ha,hb,hn,ar,au,aJ⟩:=h.ptr aI;have hM:=FV (e:=je) (λ_=>rfl) aJ;obtain⟨sa,sn,sc⟩:=s;dsimp only at ha hn ar au;subst ha hn;have aL:vb≠b:=(oS al);have G:(l.map je).length=l.length:=zK ..;have av:∀v∈(l.map je).drop i,Value.oneCell' v=true:=λv J=>by obtain⟨y,_,rfl⟩:=mem_map.1 (yU J);rfl
 have U:((l.map je).drop i).length=l.length-i:=(by rw[yC,G]);have V:wrap .i64 ((l.length:Int)+1)=((l.length+1:Nat):Int):=(by rw[gJ _ oL];rfl);have aw:wrap .i64 ((i:Int)+1)=((i+1:Nat):Int):=(by rw[gJ _ oL];rfl);have aM:wrap .i64 (((l.length+1:Nat):Int)-(i:Int))=((l.length+1-i:Nat):Int):=(by rw[gJ _ oL];omega);apply cD<;>intro hc;have hg:sc<l.length+1:=by
  have:=hc;dsimp only at this;rw[show (((1:Nat):Int))=1 from rfl,V] at this;omega
 refine C8 i rfl oL ?_;dsimp only;rw[show (((1:Nat):Int))=1 from rfl,V,aM,aw];have ax:i+(l.length+1-i)=l.length+1:=oL;refine IL (e:=79) (i:=aH) (kn:=.i64) (olds:=(l.map je).take i) oM oM ac hz an rfl (by rw[yL,G];omega) (λh=>nomatch h) (λa ha j u hj=>?_) oL oL (by rw[ax,ao];omega) oL λb2 a0 c w2 e2 ag f2 aa aN aO=>?_;cases ha;have ay:=DE hb hM 0 j u;rw[xE] at ay;rw[xB] at hj;split at hj;exact ay hj;cases hj;rw[ax] at aa⊢;have az:=gg hb;have a1:Fr [b2] w w2:=f2.mono λ_ h _=>nomatch h;refine vM i rfl oL aa oL<|Bs (vs:=[je x]) (src:=⟨pW vb,1,1⟩) ag (el:=79) oM oM ?_ (λ_=>⟨_,rfl,ad w2 (f2.mono λ_ h _=>nomatch h)⟩) (λv J=>by rw[zE.1 J];rfl) oQ λw3 ah f3=>?_;show 1=min 1 (l.length+1-i);omega;refine vM (i+1) rfl oL aa oL<|vM i rfl oL oL oL ?_;have aP:w3.heap[b]?=some (.c cs T):=by rw[f3.block b (yD az f2.size) oQ,f2.block b az λh=>nomatch h];exact hb
 refine Bs (w:=w3.drew) (vs:=(l.map je).drop i) (src:=⟨some (dh b i),l.length-i,sc-i⟩) ah (el:=79) oM oM ?_ (λ_=>⟨_,rfl,DE aP hM i⟩) av (by rw[qI,U];omega) λw4 aQ f4=>?_;rw[U];show l.length-i=min (l.length-i) (l.length+1-(i+1));omega;have I:=qz5 (v:=je x) (by rw[G];omega) (by rw[G];omega) aO;have E:(gz l i x).length=l.length+1:=(by unfold gz;simp;omega);refine kk _ [b2] w4 (eZ.one (λ_=>rfl) aQ E.symm aa (by rw[qI,qI];exact aN) ?_) ?_ λb' ai=>?_;rw[E];rw[G] at I;rw[I];exact (FL je l i x).symm;refine Fr.j8 (f2.mono λ_ h _=>nomatch h) (f3.drew.trans f4) λi hi=>.inr ?_;rw[zE.1 hi,e2];exact zM _;rw[zE.1 ai,e2];exact .inr (zM _);have hg:l.length+1<=sc:=by
  have:=hc;dsimp only at this;rw[show (((1:Nat):Int))=1 from rfl,V] at this;omega
 rw[show (((1:Nat):Int))=1 from rfl,V,aw];refine C8 (l.length+1) rfl hg<|vM (i+1) rfl oL hg oL<|CE (e:=Extern.SlicesOverlaps.overlaps #[116,116] #[4]) Tryz.func285 oM oM oM oM false w (qp2 oM ac hv hb aL oL)<|y_<|vM (i+1) rfl oL hg oL<|vM i rfl oL hg oL<|Bs hb (el:=79) oM oM ?_ (λ_=>⟨_,rfl,DE hb hM i⟩) av (by rw[U];omega) λw2 ag f2=>?_;rw[U];show l.length-i=min (l.length+1-i) (l.length+1-(i+1));omega;refine vM i rfl oL hg oL<|Bs (src:=⟨pW vb,1,1⟩) ag (el:=79) oM oM ?_ (λ_=>⟨_,rfl,ad w2 ((Fr.refl [b] w).drew.trans f2)⟩) (λv J=>by rw[zE.1 J];rfl) (by rw[qI];simp;omega) λw3 ah f3=>?_;show 1=min 1 (l.length+1-i);omega;have I:=qz7 (v:=je x) (by rw[G];omega) (by rw[G];omega) (qnE hM oL);have E:(gz l i x).length=l.length+1:=(by unfold gz;simp;omega);refine kk _ [b] w3 (eZ.one (λ_=>rfl) ah E.symm hg (by rw[qI,qI];exact au) ?_) (((Fr.refl [b] w).drew.trans f2).trans f3) λb' ai=>.inl ai;rw[E];rw[G] at I;rw[I];exact (FL je l i x).symm
def qxm(h:eZ ir 1 w s l B)(hi:i<l.length)(he:ii=i)(hj:jj=((i+1:Nat):Int))(hl:l.length<=100000)(kk:∀s' w',eZ ir 1 w' s' (iY l i) B->Fr B w w'->K s' w'): cW 296 [s.v,.i ii,.i jj] di w K:=by
 obtain⟨aw,ad,hz,ae,ax⟩:=GZ;refine qm6 ?_;subst he hj;have af:l≠[]:=λe=>by rw[e] at hi;exact absurd hi (xX _)
 obtain⟨b,cs,T,rfl,ha,hb,hn,V,G,ag⟩:=h.ptr af;have hM:=FV (λ_=>rfl) ag;obtain⟨sa,sn,sc⟩:=s;dsimp only at ha hn V G;subst ha hn;have I:(l.map je).length=l.length:=zK ..;refine qAW oP λ_=>LK (zR.2 oL)<|C8 i rfl oL ?_;have ah:∀U,U.heap[b]?=some (.c (d7 cs i ((l.map je).drop (i+1))) T)->Fr [b] w U->gi ⟨pW b,l.length-1,sc⟩ (some (((l.length-1:Nat)):Int)) (some ((l.length:Nat):Int)) none 1 λ(J:Sl)=>
  run [] ((Builtin.clear_ #[116] 0 (#[Value.slice J.a J.len J.cap])).run prog U)<|
  λ(aB:PUnit) (ai:Md)=>
  K ⟨pW b,l.length-1,sc⟩ ai:=λU O f5=>by
  refine HV oL oL oL oL ?_;rw[zJ,zJ,xR,xQ];have h1:l.length-(l.length-1)=1:=oL;rw[h1];dsimp only;refine qwD (e:=79) (z:=(Value.slice none 0 0)) O oM oM rfl rfl oL (by rw[qI];omega) λw6 ak f6=>?_;have E:=qzz (i:=i) (z:=(Value.slice none 0 0)) (by rw[I];omega) (by rw[I];exact hM);have aa:(iY l i).length=l.length-1:=(by unfold iY;simp;omega);refine kk _ w6 (eZ.one (λ_=>rfl) ak aa.symm oL (by rw[qI,qI];exact G) ?_) (f5.trans f6);rw[aa];rw[I] at E;rw[show List.replicate 1 ((Value.slice none 0 0))=[(Value.slice none 0 0)] from rfl,E];exact (qwG je l i).symm
 refine eT.part (S:=[]) (eZ.ju (enc:=ir) (k:=1) (λ_=>rfl) h λ_ _ h=>nomatch h) (lo:=some ((i+1:Nat):Int)) (hi:=none) (i+1) l.length rfl rfl oL (zM _) λs3 ab h3 aG=>?_;have ac:Src prog 1 116 s3.v s3.len ((l.map je).drop (i+1)) w.drew:=by
  have:=yd (P:=prog) (tx:=116) (e':=79) (h3.same (sD.refl w).drew) (λ_=>rfl) (λx u hu=>by rw[zE.1 hu];rfl) oM;rw[Cj (enc:=ir) (e:=je) λ_=>rfl,xY,xO] at this;exact this
 dsimp only;refine qwA (w:=w.drew) (e:=79) hb oM ad ae ac (by rw[ab];omega) G λU O f5=>?_;have e:i+s3.len=l.length-1:=(by rw[ab];omega);rw[e];exact ah U O ((Fr.refl [b] w).drew.trans f5)
variable {l:Ml}
def qxr{x:Int}(h:eZ jS 1 w s l B)(hi:i<=l.length)(he:ii=i)(hl:l.length<=100000)(hv:w.heap[vb]?=some (.c #[uw x] T'))(al:vb∉B)(kk:∀s' B' w',eZ jS 1 w' s' (gz l i x) B'->Fr B w w'->(∀b∈B',b∈B\/w.z<=b)->K s' w'): cW 264 [s.v,.i ii,.slice (pW vb) 1 1] di w K:=by
 obtain⟨aH,ac,hz,an,ao⟩:=Cb;refine qm9 (s:=s) (i:=ii) (v:=⟨pW vb,1,1⟩) ?_;subst he;have ap:=h.len;have ad:∀w',Fr B w w'->∀(j:Nat) u,([uw x]:List Me)[j]?=some u->w'.cell? (Addr.add (dh vb) j)=some u:=λw' f j u hj=>by rw[Addr.j1,jI (by rw[f.block vb (gg hv) al];exact hv),xQ];simpa using hj
 refine eT.part (S:=[]) (eZ.ju (enc:=jS) (k:=1) (λ_=>rfl) h λ_ _ h=>nomatch h) (lo:=some (i:Int)) (hi:=none) i l.length rfl (by rw[xU,ap]) hi (zM _) λs1 _ _ _=>x_ ?_;apply eF<;>intro hc;have O:i=l.length:=(by have:=yP.1 hc;omega);have aq:Src prog 1 117 (.slice (pW vb) 1 1) 1 ([x].flatMap jS) w:=.ofSlice w (e':=35) oM _ 1 1 _ rfl (ad w (.refl _ _)) (λu hu=>by rw[yH,flatMap_nil,xG] at hu;rw[zE.1 hu];rfl);refine eZ.j2 (ys:=[x]) (e:=35) h (λ_=>rfl) oM ac hz an rfl aq rfl (by rw[ao];omega) oL λs' B' w' b' f' n' _=>kk s' B' w' ?_ f' n';have e:gz l i x=l++[x]:=(by unfold gz;rw[O,xY,drop_length,xG]);rw[e];exact b';have O:i<l.length:=by
  have:=(zR.1 hc)
  omega
 have aI:l≠[]:=λe=>by rw[e] at O;exact absurd O (xX _)
 obtain⟨b,cs,T,rfl,ha,hb,hn,ar,au,aJ⟩:=h.ptr aI;have hM:=FV (e:=uw) (λ_=>rfl) aJ;obtain⟨sa,sn,sc⟩:=s;dsimp only at ha hn ar au;subst ha hn;have aL:vb≠b:=(oS al);have G:(l.map uw).length=l.length:=zK ..;have av:∀v∈(l.map uw).drop i,Value.oneCell' v=true:=λv J=>by obtain⟨y,_,rfl⟩:=mem_map.1 (yU J);rfl
 have U:((l.map uw).drop i).length=l.length-i:=(by rw[yC,G]);have V:wrap .i64 ((l.length:Int)+1)=((l.length+1:Nat):Int):=(by rw[gJ _ oL];rfl);have aw:wrap .i64 ((i:Int)+1)=((i+1:Nat):Int):=(by rw[gJ _ oL];rfl);have aM:wrap .i64 (((l.length+1:Nat):Int)-(i:Int))=((l.length+1-i:Nat):Int):=(by rw[gJ _ oL];omega);apply cD<;>intro hc;have hg:sc<l.length+1:=by
  have:=hc;dsimp only at this;rw[show (((1:Nat):Int))=1 from rfl,V] at this;omega
 refine C8 i rfl oL ?_;dsimp only;rw[show (((1:Nat):Int))=1 from rfl,V,aM,aw];have ax:i+(l.length+1-i)=l.length+1:=oL;refine IL (e:=35) (i:=aH) (kn:=.i64) (olds:=(l.map uw).take i) oM oM ac hz an rfl (by rw[yL,G];omega) (λh=>nomatch h) (λa ha j u hj=>?_) oL oL (by rw[ax,ao];omega) oL λb2 a0 c w2 e2 ag f2 aa aN aO=>?_;cases ha;have ay:=DE hb hM 0 j u;rw[xE] at ay;rw[xB] at hj;split at hj;exact ay hj;cases hj;rw[ax] at aa⊢;have az:=gg hb;have a1:Fr [b2] w w2:=f2.mono λ_ h _=>nomatch h;refine vM i rfl oL aa oL<|Bs (vs:=[uw x]) (src:=⟨pW vb,1,1⟩) ag (el:=35) oM oM ?_ (λ_=>⟨_,rfl,ad w2 (f2.mono λ_ h _=>nomatch h)⟩) (λv J=>by rw[zE.1 J];rfl) oQ λw3 ah f3=>?_;show 1=min 1 (l.length+1-i);omega;refine vM (i+1) rfl oL aa oL<|vM i rfl oL oL oL ?_;have aP:w3.heap[b]?=some (.c cs T):=by rw[f3.block b (yD az f2.size) oQ,f2.block b az λh=>nomatch h];exact hb
 refine Bs (w:=w3.drew) (vs:=(l.map uw).drop i) (src:=⟨some (dh b i),l.length-i,sc-i⟩) ah (el:=35) oM oM ?_ (λ_=>⟨_,rfl,DE aP hM i⟩) av (by rw[qI,U];omega) λw4 aQ f4=>?_;rw[U];show l.length-i=min (l.length-i) (l.length+1-(i+1));omega;have I:=qz5 (v:=uw x) (by rw[G];omega) (by rw[G];omega) aO;have E:(gz l i x).length=l.length+1:=(by unfold gz;simp;omega);refine kk _ [b2] w4 (eZ.one (λ_=>rfl) aQ E.symm aa (by rw[qI,qI];exact aN) ?_) ?_ λb' ai=>?_;rw[E];rw[G] at I;rw[I];exact (FL uw l i x).symm;refine Fr.j8 (f2.mono λ_ h _=>nomatch h) (f3.drew.trans f4) λi hi=>.inr ?_;rw[zE.1 hi,e2];exact zM _;rw[zE.1 ai,e2];exact .inr (zM _);have hg:l.length+1<=sc:=by
  have:=hc;dsimp only at this;rw[show (((1:Nat):Int))=1 from rfl,V] at this;omega
 rw[show (((1:Nat):Int))=1 from rfl,V,aw];refine C8 (l.length+1) rfl hg<|vM (i+1) rfl oL hg oL<|CE (e:=Extern.SlicesOverlaps.overlaps #[117,117] #[4]) Tryz.func289 oM oM oM oM false w (qp2 oM ac hv hb aL oL)<|y_<|vM (i+1) rfl oL hg oL<|vM i rfl oL hg oL<|Bs hb (el:=35) oM oM ?_ (λ_=>⟨_,rfl,DE hb hM i⟩) av (by rw[U];omega) λw2 ag f2=>?_;rw[U];show l.length-i=min (l.length+1-i) (l.length+1-(i+1));omega;refine vM i rfl oL hg oL<|Bs (src:=⟨pW vb,1,1⟩) ag (el:=35) oM oM ?_ (λ_=>⟨_,rfl,ad w2 ((Fr.refl [b] w).drew.trans f2)⟩) (λv J=>by rw[zE.1 J];rfl) (by rw[qI];simp;omega) λw3 ah f3=>?_;show 1=min 1 (l.length+1-i);omega;have I:=qz7 (v:=uw x) (by rw[G];omega) (by rw[G];omega) (qnE hM oL);have E:(gz l i x).length=l.length+1:=(by unfold gz;simp;omega);refine kk _ [b] w3 (eZ.one (λ_=>rfl) ah E.symm hg (by rw[qI,qI];exact au) ?_) (((Fr.refl [b] w).drew.trans f2).trans f3) λb' ai=>.inl ai;rw[E];rw[G] at I;rw[I];exact (FL uw l i x).symm
def qxn(h:eZ jS 1 w s l B)(hi:i<l.length)(he:ii=i)(hj:jj=((i+1:Nat):Int))(hl:l.length<=100000)(kk:∀s' w',eZ jS 1 w' s' (iY l i) B->Fr B w w'->K s' w'): cW 309 [s.v,.i ii,.i jj] di w K:=by
 obtain⟨aw,ad,hz,ae,ax⟩:=Cb;refine qm7 ?_;subst he hj;have af:l≠[]:=λe=>by rw[e] at hi;exact absurd hi (xX _)
 obtain⟨b,cs,T,rfl,ha,hb,hn,V,G,ag⟩:=h.ptr af;have hM:=FV (λ_=>rfl) ag;obtain⟨sa,sn,sc⟩:=s;dsimp only at ha hn V G;subst ha hn;have I:(l.map uw).length=l.length:=zK ..;refine qAW oP λ_=>LK (zR.2 oL)<|C8 i rfl oL ?_;have ah:∀U,U.heap[b]?=some (.c (d7 cs i ((l.map uw).drop (i+1))) T)->Fr [b] w U->gi ⟨pW b,l.length-1,sc⟩ (some (((l.length-1:Nat)):Int)) (some ((l.length:Nat):Int)) none 1 λ(J:Sl)=>
  run [] ((Builtin.clear_ #[117] 0 (#[Value.slice J.a J.len J.cap])).run prog U)<|
  λ(aB:PUnit) (ai:Md)=>
  K ⟨pW b,l.length-1,sc⟩ ai:=λU O f5=>by
  refine HV oL oL oL oL ?_;rw[zJ,zJ,xR,xQ];have h1:l.length-(l.length-1)=1:=oL;rw[h1];dsimp only;refine qwD (e:=35) (z:=(Value.int .u32 0)) O oM oM rfl rfl oL (by rw[qI];omega) λw6 ak f6=>?_;have E:=qzz (i:=i) (z:=(Value.int .u32 0)) (by rw[I];omega) (by rw[I];exact hM);have aa:(iY l i).length=l.length-1:=(by unfold iY;simp;omega);refine kk _ w6 (eZ.one (λ_=>rfl) ak aa.symm oL (by rw[qI,qI];exact G) ?_) (f5.trans f6);rw[aa];rw[I] at E;rw[show List.replicate 1 ((Value.int .u32 0))=[(Value.int .u32 0)] from rfl,E];exact (qwG uw l i).symm
 refine eT.part (S:=[]) (eZ.ju (enc:=jS) (k:=1) (λ_=>rfl) h λ_ _ h=>nomatch h) (lo:=some ((i+1:Nat):Int)) (hi:=none) (i+1) l.length rfl rfl oL (zM _) λs3 ab h3 aG=>?_;have ac:Src prog 1 117 s3.v s3.len ((l.map uw).drop (i+1)) w.drew:=by
  have:=yd (P:=prog) (tx:=117) (e':=35) (h3.same (sD.refl w).drew) (λ_=>rfl) (λx u hu=>by rw[zE.1 hu];rfl) oM;rw[Cj (enc:=jS) (e:=uw) λ_=>rfl,xY,xO] at this;exact this
 dsimp only;refine qwA (w:=w.drew) (e:=35) hb oM ad ae ac (by rw[ab];omega) G λU O f5=>?_;have e:i+s3.len=l.length-1:=(by rw[ab];omega);rw[e];exact ah U O ((Fr.refl [b] w).drew.trans f5)
def qwP(h:i+j<=10000000):wrap .i64 (Int.fdiv (wrap .u64 (wrap .i64 ((i:Int)+(j:Int)))) (2^1))=(((i+j) / 2:Nat):Int):=by have e1:wrap .i64 ((i:Int)+(j:Int))=(i:Int)+(j:Int):=gJ _ oL;have E:wrap .u64 ((i:Int)+(j:Int))=(i:Int)+(j:Int):=IntWalk.u64_in _ oL;rw[e1,E,Int.fdiv_eq_ediv_of_nonneg _ oO];have e:((i:Int)+(j:Int)) / 2^1=(((i+j) / 2:Nat):Int):=oL;rw[e,gJ _ oL]
variable {K:Int->WP} {ks:Sl}
def qzh{n:Nat}{v:Me}{p:Nat->Bool}(I:n<=1000000)(hf:∀w1 (i:Nat) (K':Bool->WP),Fr [] w w1->i<n->(∀w2,Fr [] w w2->K' (p i) w2)->dU prog v [.i i] dk w1 K')(E:∀i j,i<=j->j<n->p i=true->p j=true)(hk:∀(r:Nat) w',r<=n->(∀i,i<r->p i=false)->(∀i,r<=i->i<n->p i=true)->Fr [] w w'->K r w'): cW 79 [.i n,v] dj w K:=by
 refine qrw<|lD (λs w'=>∃i j:Nat,s=((i:Int),(j:Int))/\i<=j/\j<=n/\(∀a,a<i->p a=false)/\(∀a,j<=a->a<n->p a=true)/\Fr [] w w') (λs _=>(s.2-s.1).toNat) ⟨0,n,rfl,oL,oL,λ_ h=>absurd h (xX _),λa J O=>oL,.refl _ _⟩ ?_;rintro s w1 ⟨i,j,rfl,ai,U,J,O,hs⟩ X hX;apply cD<;>intro V;have aj:i<j:=oL;rw[qwP oL];refine hf w1 ((i+j) / 2) _ hs oL λw2 G=>?_;cases hp:p ((i+j) / 2);refine y_ ?_;have e:wrap .i64 ((((i+j) / 2:Nat):Int)+1)=(((i+j) / 2+1:Nat):Int):=(by rw[gJ _ oL];rfl);rw[e];refine hX _ _ ⟨(i+j) / 2+1,j,rfl,oL,U,λa ha=>?_,O,G⟩ oP;cases ab:p a;rfl
 have:=E a ((i+j) / 2) oL oL ab;rw[hp] at this;exact this.symm;exact x_<|hX _ _ ⟨i,(i+j) / 2,rfl,oL,oL,J,λa ha I=>E _ a ha I hp,G⟩ oP;have ak:¬i<j:=oL;exact hk i w1 oL J (λa ha I=>O a oL I) hs
def qDi{n:Nat}{v:Me}{c:Nat->Int}{K:Mz->WP}(V:n<=1000000)(hf:∀w1 (i:Nat) (K':Int->WP),Fr [] w w1->i<n->(∀w2,Fr [] w w2->K' (c i) w2)->dU prog v [.i i] dj w1 K')(E:∀i j,i<=j->j<n->c j>0->c i>0)(hk:∀(r:Nat) w',r<=n->(∀i,i<r->c i>0)->(∀i,r<=i->i<n->¬c i>0)->Fr [] w w'->K (r,decide (r<n/\c r=0)) w'): cW 82 [.i n,v] dD w K:=by
 refine qvl<|lD (λs w'=>∃i j:Nat,s=((i:Int),(j:Int))/\i<=j/\j<=n/\(∀a,a<i->c a>0)/\(∀a,j<=a->a<n->¬c a>0)/\Fr [] w w') (λs _=>(s.2-s.1).toNat) ⟨0,n,rfl,oL,oL,λ_ h=>absurd h (xX _),λa h1 h2=>oL,.refl _ _⟩ ?_;rintro s w1 ⟨i,j,rfl,ak,ac,h1,h2,hs⟩ X hX;apply cD<;>intro J;have al:i<j:=oL;rw[qwP oL];refine hf w1 ((i+j) / 2) _ hs oL λw2 G=>?_;apply eF<;>intro O;have O:=zC O;have e:wrap .i64 ((((i+j) / 2:Nat):Int)+1)=(((i+j) / 2+1:Nat):Int):=(by rw[gJ _ oL];rfl);rw[e];exact hX _ _ ⟨(i+j) / 2+1,j,rfl,oL,ac,λa ha=>E a _ oL oL O,h2,G⟩ oP;have O:=zB O;exact hX _ _ ⟨i,(i+j) / 2,rfl,oL,oL,h1,λa ha V af=>O (E _ a ha V af),G⟩ oP;have an:¬i<j:=oL;have U:=λw'=>hk i w' oL h1 λa ha V=>h2 a oL V;apply cD<;>intro J;have I:i<n:=oL;refine hf w1 i _ hs I λw2 G=>?_;have e:(c i==0)=decide (i<n/\c i=0):=by rw[LR,yP,yN];exact⟨λh=>⟨I,h⟩,λh=>h.2⟩
 rw[e];exact U w2 G;have I:¬i<n:=by omega
 have:=U w1 hs;rw[zU λh=>I h.1] at this;exact this
def GP{K:Mz->WP}(hx:fe S w x n)(hk:eY S' w ks key)(hB:fj key)(hr:gQ n.J6)(hl:n.J6.length<=1000000)(kk:∀w',Fr [] w w'->K (eh n.J6 key,decide (n.J6[eh n.J6 key]?=some key)) w'): cW 48 [.agg (fB x),ks.v] dD w K:=by
 obtain⟨h0,ad,⟨pk,O,I⟩,_⟩:=hx;refine qtj<|oD (oG [] w) λr1 w1 e1 f1 h=>oD h λr3 w2 e2 f2 h=>Mi h 1 x.2.1 ?_;have V:=O.len;have ap:n.J6.length=pk.length:=(by rw[<- I,zK]);have E:∀(i:Nat) (G:i<pk.length),n.J6[i]?=some pk[i].2:=λi G=>by rw[<- I,zQ,zA G];rfl
 rw[V];refine qDi (c:=λi=>cmpL key (n.J6.getD i [])) oL (λw3 i K' f3 G ae=>?_) (λi j ar hj hc=>?_) λr w' av af ag f'=>?_;refine nM rfl oM ?_;have U:=h.q9 f3;refine qoz ?_;have U:=U.drew;refine Mi U 0 ks<|Mi U 1 x.2.1<|lf.get (O.q9 U.fr) i rfl G<|Hx (hk.q9 U.fr) ((O.q9 U.fr).2 pk[i] (zW G)) hB (ad.1 _ (yF (E i G))) ?_;have e:n.J6.getD i []=pk[i].2:=by rw[yR,E i G];rfl
 have:=ae w3.drew f3.drew;rw[e] at this;exact this;by_cases hij':i=j;rw[hij'];exact hc;have G:=E i oL;have aa:=E j hj;rw[yR,aa,xT] at hc;rw[yR,G,xT];have h1:gX pk[j].2 key:=(by unfold gX;rw[AV];omega);have h2:=t8 (Iy hr oL G aa) h1;unfold gX at h2;rw[AV] at h2;omega;have hp:eh n.J6 key=r:=qAv oL (λi a G ha=>by
  have:=af i G;rw[yR,ha,xT,AV] at this;show cmpL a key<0;omega) λa ha=>by
  have az:=(zP.1 ha).1;have:=ag r (zM _) oL;rw[yR,ha,xT,AV] at this;show ¬cmpL a key<0;omega
 have J:=kk w' (h.fr.trans f');rw[hp] at J;have e:decide (n.J6[r]?=some key)=decide (r<pk.length/\cmpL key (n.J6.getD r [])=0):=by refine decide_eq_decide.2 ⟨λh=>?_,λh=>?_⟩;refine⟨by have:=(zP.1 h).1;omega,?_⟩;rw[yR,h,xT,Jy];have h2:=h.2;rw[yR,E r h.1,xT] at h2;exact (E r h.1).trans (Ma some (KJ h2).symm)
 rw[e] at J;exact J
def HY(hx:fe S w x n)(hk:eY S' w ks key)(hB:fj key)(hr:gQ n.J6)(hl:n.J6.length<=1000000)(kk:∀w',Fr [] w w'->K (ga n.J6 key) w'): cW 47 [.agg (fB x),ks.v] dj w K:=by
 obtain⟨h0,ad,⟨pk,O,G⟩,_⟩:=hx;refine qv7<|oD (oG [] w) λr1 w1 e1 f1 h=>oD h λr3 w2 e2 f2 h=>Mi h 1 x.2.1 ?_;have V:=O.len;have ap:n.J6.length=pk.length:=(by rw[<- G,zK]);have I:∀(i:Nat) (E:i<pk.length),n.J6[i]?=some pk[i].2:=λi E=>by rw[<- G,zQ,zA E];rfl
 rw[V];refine qzh (p:=λi=>decide (cmpL key (n.J6.getD i [])<0)) oL (λw3 i K' f3 E ae=>?_) (λi j ar hj hc=>?_) λr w' av af ag f'=>?_;refine nM rfl oM ?_;have U:=h.q9 f3;refine qrb ?_;have U:=U.drew;refine Mi U 0 ks<|Mi U 1 x.2.1<|lf.get (O.q9 U.fr) i rfl E<|Hx (hk.q9 U.fr) ((O.q9 U.fr).2 pk[i] (zW E)) hB (ad.1 _ (yF (I i E))) ?_;have e:n.J6.getD i []=pk[i].2:=(by rw[yR,I i E];rfl);have e2:decide (cmpL key (n.J6.getD i [])<0)=decide (cmpL key pk[i].2<0):=decide_eq_decide.2 (by rw[e]);rw[<- e2];exact ae w3.drew f3.drew;by_cases hij':i=j;rw[<- hij'];exact hc;have E:=I i oL;have ab:=I j hj;have hc:=zC hc;rw[yR,E,xT] at hc;refine yA ?_;rw[yR,ab,xT];exact t8 hc (Iy hr oL E ab);have hp:ga n.J6 key=r:=qDW oL (λi a E ha=>by
  have:=zB (af i E);rw[yR,ha,xT] at this;exact this) λa ha=>by
  have ay:=(zP.1 ha).1;have:=zC (ag r (zM _) oL);rw[yR,ha,xT] at this;exact this
 have J:=kk w' (h.fr.trans f');rw[hp] at J;exact J
def FF{p:Prop}{i:Decidable p}(h:p):true=decide p:=by simp[h]
def uZ(h:i<=100000000):wrap .i64 ((i:Int)+1)=((i+1:Nat):Int):=by rw[gJ _ oL];rfl
variable {K:Bool->WP} {ps:sP}
def qtM{v:Me}{p:Key->Bool}(hs:lf S w s ps)(hl:ps.length<=1000000)(hf:∀w1 (x:Sl×Key) (K':Bool->WP),Fr [] w w1->x∈ps->(∀w2,Fr [] w w2->K' (p x.2) w2)->dU prog v [x.1.v] dk w1 K')(kk:∀w',Fr [] w w'->K ((io ps).any p) w'): cW 244 [s.v,v] dk w K:=by
 refine qgs<|qjL ?_;have ad:=hs.len;refine lD (λi w'=>∃n:Nat,i=(n:Int)/\n<=ps.length/\((io ps).take n).any p=false/\Fr [] w w') (λi _=>((ps.length:Int)-i).toNat) ⟨0,rfl,yX _,rfl,.refl _ _⟩ ?_;rintro _ w1 ⟨n,rfl,hn,G,E⟩ X hX;apply cD<;>intro O;have h:n<ps.length:=oL;refine lf.get (hs.q9 E) n rfl h<|hf w1 ps[n] _ E (zW h) λw2 I=>?_;have J:(io ps)[n]?=some ps[n].2:=(by rw[zQ,zA h];rfl);apply eF<;>intro U
 have:=any_eq_true.2 ⟨ps[n].2,yF J,U⟩
 show K (decide (((n:Nat):Int)>=0)) w2;rw[yA (show ((n:Nat):Int)>=0 by omega)];rw[<- this];exact kk w2 I;rw[uZ oL];refine hX _ _ ⟨n+1,rfl,h,?_,I⟩ oL;rw[take_add_one,J,any_append,G];simpa using U;have V:n=ps.length:=oL;show K (decide ((-1:Int)>=0)) w1;rw[zU (show ¬(-1:Int)>=0 by decide)];have:(io ps).any p=false:=by rw[<- G,V,zS (by rw[zK];exact zM _)]
 rw[<- this];exact kk w1 E
def qtN{v:Me}{p:Int->Bool}(hs:Rd S w s l)(hl:l.length<=1000000)(hf:∀w1 (x:Int) (K':Bool->WP),Fr [] w w1->x∈l->(∀w2,Fr [] w w2->K' (p x) w2)->dU prog v [.u x] dk w1 K')(kk:∀w',Fr [] w w'->K (l.any p) w'): cW 196 [s.v,v] dk w K:=by
 refine qgt<|qjM ?_;have ad:=hs.1;refine lD (λi w'=>∃n:Nat,i=(n:Int)/\n<=l.length/\(l.take n).any p=false/\Fr [] w w') (λi _=>((l.length:Int)-i).toNat) ⟨0,rfl,yX _,rfl,.refl _ _⟩ ?_;rintro _ w1 ⟨n,rfl,hn,I,h⟩ X hX;apply cD<;>intro O;have E:n<l.length:=oL;have G:=zA E;refine eT.get (hs.q9 h) n rfl G rfl<|hf w1 l[n] _ h (zW E) λw2 J=>?_;apply eF<;>intro U
 have:=any_eq_true.2 ⟨l[n],yF G,U⟩
 show K (decide (((n:Nat):Int)>=0)) w2;rw[yA (show ((n:Nat):Int)>=0 by omega)];rw[<- this];exact kk w2 J;rw[uZ oL];refine hX _ _ ⟨n+1,rfl,E,?_,J⟩ oL;rw[take_add_one,G,any_append,I];simpa using U;have V:n=l.length:=oL;show K (decide ((-1:Int)>=0)) w1;rw[zU (show ¬(-1:Int)>=0 by decide)];have:l.any p=false:=by rw[<- I,V,zS (zM _)]
 rw[<- this];exact kk w1 h
def quN{m:Nat}(V:lf S w s ps)(hl:ps.length<=1000000)(kk:∀w',Fr [] w w'->K (decide (∀a∈io ps,a.length=m)) w'): cW 194 [s.v,.i m] dk w K:=by
 refine quS<|oD (oG [] w) λr1 w1 e1 O h=>?_;have E:=V.q9 O;refine qtM (p:=λa=>decide (a.length≠m)) E hl (λw2 x K' U hx G=>?_) λw' f'=>?_;refine nM rfl oM<|qpY<|Mi (h.q9 U) 0 (m:Int) ?_;have I:=(E.2 x hx).1;have e:(!((x.1.len:Int)==(m:Int)))=decide (x.2.length≠m):=by rw[I,LR];simp;omega
 rw[e];exact G w2 U;have e:(!((io ps).any λa=>decide (a.length≠m)))=decide (∀a∈io ps,a.length=m):=by
  rw[LR,yN,zT,any_eq_false];constructor;intro h a J;have:=h a J;simpa using this;intro h a J;simp[h a J]
 rw[e];exact kk w' (O.trans f')
def qAo(hs:lf S w s ps)(hB:∀a∈io ps,fj a)(hl:ps.length<=1000000)(kk:∀w',Fr [] w w'->K (decide (gQ (io ps))) w'): cW 195 [s.v] dk w K:=by
 refine qtn ?_;have ag:=hs.len;have G:∀(i:Nat) (hi:i<ps.length),(io ps)[i]?=some ps[i].2:=λi hi=>by rw[zQ,zA hi];rfl
 refine lD (λi w'=>∃n:Nat,i=(n:Int)/\1<=n/\(∀(j:Nat) a b,j+1<n->(io ps)[j]?=some a->(io ps)[j+1]?=some b->gX a b)/\Fr [] w w') (λi _=>((ps.length:Int)-i).toNat) ⟨1,rfl,zM _,λj a b h=>oL,.refl _ _⟩ ?_;rintro _ w1 ⟨n,rfl,hn,U,I⟩ X hX;apply cD<;>intro hc;have J:n<ps.length:=oL;have e1:wrap .i64 ((n:Int)-1)=((n-1:Nat):Int):=(by rw[gJ _ oL];omega);have O:=hs.q9 I.drew;rw[e1];refine lf.get O (n-1) rfl oL<|lf.get O n rfl J<|Hx (O.2 ps[n-1] (zW _)) (O.2 ps[n] (zW _)) (hB _ (yF (G (n-1) oL))) (hB _ (yF (G n J))) ?_;apply eF<;>intro V;have V:=zC V;have:¬gQ (io ps):=λhr=>by
  have:=Iy hr (show n-1<n by omega) (G (n-1) oL) (G n J);unfold gX at this;omega
 have E:=kk _ I.drew;rw[zU this] at E;exact E;have V:=zB V;rw[uZ oL];refine hX _ _ ⟨n+1,rfl,oL,λj a b hj ha hb=>?_,I.drew⟩ oL;by_cases hjn:j+1<n;exact U j a b hjn ha hb;obtain rfl:n=j+1:=by omega
 rw[G j oL] at ha;rw[G (j+1) J] at hb;cases ha;cases hb;show cmpL _ _<0;simp only[Nat.add_sub_cancel] at V;omega;have ak:¬n<ps.length:=by omega
 have:=qlJ λj a b ha hb=>U j a b (by
  have:=(zP.1 hb).1;rw[zK] at this;omega) ha hb
 have E:=kk w1 I;rw[yA this] at E;exact E
def qBW:ye (k:Int) (v:Int)=(((eG k v).1:Int),((eG k v).2:Int)):=by unfold ye eG;by_cases h:k<1\/k>24\/v>108;rw[iP h,iP];rfl;rw[iN h,iN];rfl
def Ls{K:Mo->WP}(h:∀w',Fr [] w w'->K (((eG k v).1:Int),((eG k v).2:Int)) w'):cW 76 [.i k,.i v] dv w K:=
 qDe λw' E=>by rw[qBW];exact h w' (.of_same E)
def qtV(hx:fe S w x n)(h1:n.J6.length<=1000000)(h2:n.Q0.length<=1000000)(h3:n.J9.length<=1000000)(kk:∀w',Fr [] w w'->K (decide (gp n k v)) w'): cW 139 [.agg (fB x),.i k,.i v] dk w K:=by
 obtain⟨h0,ak,⟨pk,ad,G⟩,⟨pv,af,V⟩,ab⟩:=hx;refine qtk<|oD (oG [] w) λr1 w1 e1 f1 h=>Ls λw2 f2=>?_;have h:=h.q9 f2;have l1:pk.length=n.J6.length:=(by rw[<- G,zK]);have l2:pv.length=n.Q0.length:=(by rw[<- V,zK]);have n1:x.2.1.len=n.J6.length:=(by rw[ad.len,l1]);have n2:x.2.2.1.len=n.Q0.length:=(by rw[af.len,l2]);have n3:=ab.1;refine jd (λb w'=>b=decide (¬((∀a∈n.J6,a.length=k)/\(∀a∈n.Q0,a.length=v)/\gQ n.J6))/\dY [] w w' [(r1,.cells (fB x) 119)]) ?_ ?_;refine Mi h 0 x.2.1<|quN (ad.q9 h.fr) oL λw3 f3=>?_;have h:=h.q9 f3;rw[G];refine eF (λJ=>⟨?_,h⟩) λJ=>?_;have:¬ ∀a∈n.J6,a.length=k:=zB (oS J);exact FF λU=>this U.1;have q1:∀a∈n.J6,a.length=k:=zC (oS J);refine Mi h 0 x.2.2.1<|quN (af.q9 h.fr) oL λw4 f4=>?_;have h:=h.q9 f4;rw[V];refine eF (λJ=>⟨?_,h⟩) λJ=>?_;have:¬ ∀a∈n.Q0,a.length=v:=zB (oS J);exact FF λU=>this U.2.1;have q2:∀a∈n.Q0,a.length=v:=zC (oS J);refine Mi h 0 x.2.1<|qAo (ad.q9 h.fr) (by rw[G];exact ak.1) oL λw5 f5=>?_;have h:=h.q9 f5;rw[G];refine⟨?_,h⟩;rw[LR,zT,L7,yN];exact⟨λU g=>U g.2.2,λU g=>U ⟨q1,q2,g⟩⟩;rintro b w3 ⟨rfl,h⟩;have no:∀ {w'},¬gp n k v->Fr [] w w'->K false w':=λhn f=>by
  have:=kk _ f;rw[zU hn] at this;exact this
 refine eF (λJ=>no (λI=>zC J ⟨I.1,I.2.1,I.2.2.1⟩) h.fr) λJ=>?_;have hq:=Classical.not_not.1 (zB J);have E:gp n k v↔(if n.Q4 then n.J9=[]/\1<=n.J6.length/\n.J6.length<=(eG k v).1/\n.Q0.length=n.J6.length
   else (∀x∈n.J9,2<=x)/\n.Q0=[]/\2<=n.J9.length/\n.J9.length<=(eG k v).2/\n.J6.length+1=n.J9.length):=⟨λI=>I.2.2.2,λU=>⟨hq.1,hq.2.1,hq.2.2,U⟩⟩
 refine Mi h 0 x.1 ?_;apply eF<;>intro J;rw[h0] at J;rw[iP J] at E;have ae:∀ {Q:Sl->Prop},Q x.2.1->ld .slice (dh r1 1) w3 Q:=λq=>Mi h 0 x.2.1 q;refine Mi h 0 x.2.2.2<|eF (λc1=>?_) λc1=>no (λI=>?_) h.fr;refine ae (eF (λc2=>?_) λc2=>no (λI=>?_) h.fr);refine ae (eF (λO=>?_) λO=>no (λI=>?_) h.fr);refine Mi h 0 x.2.2.1 (ae ?_);have c1:=yP.1 c1;have c2:=zC c2;have O:=zC O;have e:((x.2.2.1.len:Int)==(x.2.1.len:Int))=decide (gp n k v):=by rw[LR,yP,yN,E];dsimp only at O;constructor;intro U;exact⟨LX oL,oL,oL,oL⟩;intro U;omega
 rw[e];exact kk w3 h.fr;have:=(E.1 I).2.2.1;have O:=zB O;dsimp only at O;omega;have:=(E.1 I).2.1;have c2:=zB c2;omega;have:=(E.1 I).1;have c1:=zR.1 c1;rw[this] at n3;exact c1 (by rw[n3];rfl);rw[h0] at J;rw[iN (by rw[J];decide)] at E;have aa:∀ {w'} {Q:Sl->Prop},dY [] w w' [(r1,.cells (fB x) 119)]->Q x.2.2.2->ld .slice (dh r1 3) w' Q:=λh q=>Mi h 0 x.2.2.2 q;refine aa h<|qtN (p:=λy=>decide (y<2)) (ab.q9 h.fr) h3 (λw4 y K' f4 hy ap=>?_) λw4 f4=>?_;exact nM rfl oM<|qoA<|ap w4 f4;have h:=h.q9 f4;refine eF (λc0=>no (λI=>?_) h.fr) λc0=>?_;obtain⟨y,hy,aq⟩:=any_eq_true.1 c0
 have:=(E.1 I).1 y hy;have:=zC aq;omega;have ah:∀y∈n.J9,2<=y:=λy hy=>by
  have:=any_eq_false.1 c0 y hy;simp at this;exact this
 refine Mi h 0 x.2.2.1<|eF (λc1=>?_) λc1=>no (λI=>?_) h.fr;refine aa h (eF (λc2=>?_) λc2=>no (λI=>?_) h.fr);refine aa h (eF (λO=>?_) λO=>no (λI=>?_) h.fr);refine Mi h 0 x.2.1 (aa h ?_);have c1:=yP.1 c1;have c2:=zC c2;have O:=zC O;dsimp only at O;have ew:wrap .i64 ((x.2.2.2.len:Int)-1)=(x.2.2.2.len:Int)-1:=gJ _ oL;have e:((x.2.1.len:Int)==wrap .i64 ((x.2.2.2.len:Int)-1))=decide (gp n k v):=by rw[ew,LR,yP,yN,E];constructor;intro U;exact⟨ah,LX oL,oL,oL,oL⟩;intro U;omega
 rw[e];exact kk _ h.fr;have:=(E.1 I).2.2.2.1;have O:=zB O;dsimp only at O;omega;have:=(E.1 I).2.2.1;have c2:=zB c2;omega;have:=(E.1 I).2.1;have c1:=zR.1 c1;rw[this] at n2;exact c1 (by rw[n2];rfl)
variable {K:Sl->WP} {src:Sl} {w0:Md} {o:Nat}
def DK{ys:Ml}(h:ip w s l B)(O:eY S w src ys)(hl:l.length+ys.length<=1000000)(U:∀G B' w',ip w' G (l++ys) B'->Fr B w w'->(∀b∈B',b∈B\/w.z<=b)->K G w'): Pt.run di ((Builtin.append_ #[79,79] 79 #[s.v,src.v]).run prog w) K:=by obtain⟨i,V,hz,I,J⟩:=AF;have E:=O.1;exact eZ.j2 h mW oM V hz I rfl (yd (e':=5) O mW (λx u hu=>by rw[zE.1 hu];rfl) oM) E (by rw[J];omega) oL λG B' w' b' f' n' _=>U G B' w' b' f' n'
def qEJ(n:Int):be n 2=[wrap .u8 (Int.fdiv n (2^8)),wrap .u8 n]:=by show [iy n 1,iy n 0]=_;unfold iy;rw[show (min (8*1) 32:Nat)=8 from rfl,show (min (8*0) 32:Nat)=0 from rfl,Int.pow_zero,Int.fdiv_one]
def qFK(n:Int):be n 4=[wrap .u8 (Int.fdiv n (2^24)),wrap .u8 (Int.fdiv n (2^16)),wrap .u8 (Int.fdiv n (2^8)),wrap .u8 n]:=by show [iy n 3,iy n 2,iy n 1,iy n 0]=_;unfold iy;rw[show (min (8*3) 32:Nat)=24 from rfl,show (min (8*2) 32:Nat)=16 from rfl,show (min (8*1) 32:Nat)=8 from rfl,show (min (8*0) 32:Nat)=0 from rfl,Int.pow_zero,Int.fdiv_one]
def lf.get'(h:lf S w s ps)(n:Nat){i:Int}{K:Addr->Sl->Prop}(hi:i=n)(U:n<ps.length)(V:∀a,w.cell? a=some (.slice ps[n].1.a ps[n].1.len ps[n].1.cap)->(∀w',lf S w' s ps->w'.cell? a=some (.slice ps[n].1.a ps[n].1.len ps[n].1.cap))->K a ps[n].1):idx s i 1 λa=>ld .slice a w λx=>K a x:=by
 subst hi;have J:(jG ps)[n]?=some ps[n].1:=(by rw[zQ,zA U];rfl);obtain⟨hl,b,o,O,_,cs,T,fr,hb,hc⟩:=h.1.at n J;refine vD O ⟨oL,oL⟩ ?_;rw[zJ];have key:∀w',lf S w' s ps->w'.cell? ⟨b,o+n*1,none⟩=some (.slice ps[n].1.a ps[n].1.len ps[n].1.cap):=λw' h'=>by
  obtain⟨_,b',o',E,_,ab,T',ac,G,I⟩:=h'.1.at n J;rw[O] at E;cases E;rw[jI G]
  have:=Ma (·[0]?) I;simpa[ir] using this
 exact sU ps[n].1 (key w h) (V _ (key w h) key)
def Jv{b n:Nat}(E:w.heap[b]?=some (.c (l.map (Value.int .u8)).toArray T))(h:n=l.length):ip w ⟨pW b,n,n⟩ l [b]:=
 eZ.one (e:=Value.int .u8) (λ_=>rfl) E h (zM _) (by simp[h]) (by rw[<- zK (f:=Value.int .u8),xY])
def qD4{b:Nat}{n:Int}(E:w.heap[b]?=some (.c #[.b (wrap .u8 (Int.fdiv n (2^24))),.b (wrap .u8 (Int.fdiv n (2^16))),.b (wrap .u8 (Int.fdiv n (2^8))),.b (wrap .u8 n)] T)):eY [] w ⟨pW b,4,4⟩ (be n 4):=by rw[qFK];exact eZ.ju mW (Jv E rfl) λ_ _ h=>nomatch h
def qDj{n:Nat}(hn:n<=1000000)(V:∀E B w',ip w' E [] B->Fr [] w w'->(∀b∈B,w.z<=b)->K E w'): cW 90 [.slice none 0 0,.i n] di w K:=by obtain⟨aa,hi,hz,I,J⟩:=AF;refine qrv (s:=dN) ?_;have e0:wrap .i64 (((0:Nat):Int)-((0:Nat):Int))=0:=gJ _ oO;have e1:wrap .i64 ((n:Int)-0)=(n:Int):=(by rw[gJ _ oL];omega);refine jd (λ_ w'=>w=w') (LK (zU oL) rfl) ?_;rintro _ _ rfl;refine jd (λE w'=>∃B,ip w' E [] B/\Fr [] w w'/\∀b∈B,w.z<=b) ?_ λE w' ⟨B,b1,f1,n1⟩=>V E B w' b1 f1 n1;rw[e0,e1];refine eF (λU=>?_) λU=>⟨[],.nil _ _ _,.refl _ _,λ_ h=>nomatch h⟩;have G:0<n:=(by have:=zC U;omega);refine Dk ⟨oL,by dsimp only;omega⟩ ?_;rw[zJ];dsimp only;refine IL (kn:=.i64) oM oM hi hz I rfl rfl (λ_=>rfl) (λa ha=>nomatch ha) G oL (by rw[J];omega) oL λb cs c w2 e2 hb f2 h1 h2 h3=>Dk ⟨oL,by dsimp only;omega⟩ ?_;rw[zJ];exact⟨[b],eZ.fresh (cap:=c) mW hb rfl (yX _) oL rfl,f2,λb' O=>by rw[zE.1 O,e2];exact zM _⟩
def qk8(hi:i<ps.length):((io ps).take (i+1)).flatten=((io ps).take i).flatten++ps[i].2:=by rw[take_add_one,zQ,zA hi,flatten_append];simp
def Il(i:Nat):((io ps).take i).flatten.length<=(io ps).flatten.length:=by have:(io ps).flatten=((io ps).take i).flatten++((io ps).drop i).flatten:=(by rw[<- flatten_append,xD]);rw[this,zF];omega
def qrE(U:lf S w s ps)(hl:ps.length<=1000000)(ht:(io ps).flatten.length<=1000000)(kk:∀s' B w',ip w' s' (io ps).flatten B->Fr [] w w'->(∀b∈B,w.z<=b)->K s' w'): cW 54 [s.v] di w K:=by
 refine qoX ?_;have ah:=U.len;refine lD (λt w'=>∃i:Nat,t=((((io ps).take i).flatten.length:Int),(i:Int))/\i<=ps.length/\w'=w) (λt _=>((ps.length:Int)-t.2).toNat) ⟨0,rfl,yX _,rfl⟩ ?_;rintro t w' ⟨i,rfl,hi,rfl⟩ X hX;apply cD<;>intro J;have E:i<ps.length:=oL;have I:=Il (ps:=ps) (i+1);have G:=qk8 E;have ac:=(U.2 ps[i] (zW E)).1;have e:wrap .i64 ((((io ps).take i).flatten.length:Int)+(ps[i].1.len:Int))=(((io ps).take (i+1)).flatten.length:Int):=by rw[G,zF] at I⊢;rw[gJ _ oL,ac];rfl
 refine jd (λx w2=>x=(((io ps).take (i+1)).flatten.length:Int)/\w2=w') ?_ ?_;refine lf.get U i rfl E ?_;rw[e];exact LK (zU oL) ⟨rfl,rfl⟩;rintro x w2 ⟨rfl,rfl⟩;rw[uZ oL];exact hX _ _ ⟨i+1,rfl,E,rfl⟩ oP;refine qDj (zL (Il i) ht) λs1 B1 w1 b1 f1 n1=>lD (λt w2=>∃(j:Nat) (s2:Sl) (V:Mk),t=(s2,(j:Int))/\j<=ps.length/\ip w2 s2 ((io ps).take j).flatten V/\Fr [] w' w2/\∀b∈V,w'.z<=b) (λt _=>((ps.length:Int)-t.2).toNat) ⟨0,s1,B1,rfl,yX _,b1,f1,n1⟩ ?_;rintro t w2 ⟨j,s2,V,rfl,hj,b2,f2,n2⟩ X hX;apply cD<;>intro J;have E:j<ps.length:=oL;have I:=Il (ps:=ps) (j+1);have G:=qk8 E;have O:=U.q9 f2;refine lf.get O j rfl E<|DK b2 (O.2 ps[j] (zW E)) (by rw[G,zF] at I;omega) λs3 B3 w3 b3 f3 n3=>?_;rw[uZ oL];refine hX _ _ ⟨j+1,s3,B3,rfl,E,by rw[G];exact b3,f2.j8 f3 λi hi=>.inr (n2 i hi),λb hb=>?_⟩ oP;rcases n3 b hb with h|h;exact n2 b h;exact zL f2.size h;have af:j=ps.length:=oL;rw[af,zS (by rw[zK];exact zM _)] at b2;exact kk s2 V w2 b2 f2 n2
def qBK{K:Mx->WP}(hx:fe S w x n)(h1:n.J6.length<=1000000)(h2:n.Q0.length<=1000000)(h3:n.J9.length<=1000000)(kk:∀s w',(∀G:Mk,(∀b∈G,b<w.z)->eY G w' s (fu n k v).2.1)->Fr [] w w'->K ((fu n k v).1,s,(fu n k v).2.2) w'): cW 258 [.agg (fB x),.i k,.i v] du w K:=by
 have aW:=hx;obtain⟨h0,bi,⟨pk,ar,J⟩,⟨pv,au,ab⟩,ao⟩:=hx;refine qtl<|oD (oG [] w) λr1 w1 e1 f1 h=>Mj h 0 x<|qtV (aW.q9 f1) h1 h2 h3 λw2 f2=>?_;have h:=h.q9 f2;apply eF<;>intro I;have hn:¬gp n k v:=zB (oS I)
 have:=kk dN w2 (λG _=>by unfold fu;rw[iN hn];exact .nil _ _ _ _) h.fr;unfold fu at this;rw[iN hn] at this;exact this;have hR:gp n k v:=zC (oS I);have hW:fu n k v=(jQ n,ib n,0):=(by unfold fu;rw[iP hR]);rw[hW] at kk;have aH:=(GU hR).2;have l1:pk.length=n.J6.length:=(by rw[<- J,zK]);have l2:pv.length=n.Q0.length:=(by rw[<- ab,zK]);have n1:x.2.1.len=n.J6.length:=(by rw[ar.len,l1]);have n3:=ao.1;have aI:∀ {s' B w'},ip w' s' (ib n) B->(∀b∈B,w.z<=b)->Fr [] w w'->K (jQ n,s',0) w':=λb hB f=>kk _ _ (λG hG=>b.ju mW λc I hm=>by have:=hB c I;have:=hG c hm;omega) f;refine Mi h 0 x.1 ?_;apply eF<;>intro I;rw[h0] at I;have E:ib n=be n.J6.length 2++(n.J6.zip n.Q0).flatMap (λx=>x.1++x.2):=(by unfold ib;rw[iP I];rfl);have U:jQ n=3:=(by unfold jQ;rw[iP I]);have aJ:=hR.2.2.2;rw[iP I] at aJ;have aK:(n.J6.zip n.Q0).length=n.J6.length:=(by rw[length_zip,aJ.2.2.2,Nat.min_self]);refine Mi h 0 x.2.1<|Mi h 0 x.2.1<|oD h λr9 w3 e3 f3 h=>Mi h 1 x.2.1 ?_;have h9:=h.at (i:=0) rfl;have ax:=h.sub (L':=[(r1,.cells (fB x) 119)]) (L5 _ _);have ay:r1≠r9:=λe=>by have:=h.nodup;simp[e] at this
 have ac:=(h.own (r9,_) (LQ ..)).elim (λh=>nomatch h) id;refine lD (λt w'=>∃(i:Nat) (s2:Sl) (B2:Mk),t=(s2,(i:Int))/\i<=n.J6.length/\ip w' s2 (be n.J6.length 2++((n.J6.zip n.Q0).take i).flatMap λx=>x.1++x.2) B2/\dY [] w w' [(r1,.cells (fB x) 119)]/\r1∉B2/\∀b∈B2,w.z<=b) (λt _=>((n.J6.length:Int)-t.2).toNat)
  ⟨0,_,[r9],rfl,yX _,?_,ax,by simpa using ay,λb hb=>by rw[zE.1 hb];exact ac⟩ ?_
 rw[qEJ,take_zero,flatMap_nil,xG];refine Jv (T:=5) ?_ rfl;rw[n1] at h9;exact h9;rintro t w4 ⟨i,s2,B2,rfl,hi,b2,ho,ae,O⟩ X hX;apply eF<;>intro I;have ak:i<n.J6.length:=(by have:=zC I;omega);have aM:=ar.q9 ho.fr;refine lf.get aM i rfl oL ?_;have af:=ho.drew;refine Mi af 0 x.2.2.1 ?_;have a0:=au.q9 af.fr;have ag:i<pv.length:=oL;have ap:i<pk.length:=oL;refine lf.get' a0 i rfl ag λa ha hh=>?_;have al:n.J6[i]?=some pk[i].2:=(by rw[<- J,zQ,zA ap];rfl);have a1:n.Q0[i]?=some pv[i].2:=(by rw[<- ab,zQ,zA ag];rfl);have hz:(n.J6.zip n.Q0)[i]?=some (pk[i].2,pv[i].2):=List.getElem?_zip_eq_some.2 ⟨al,a1⟩;have V:((n.J6.zip n.Q0).take (i+1)).flatMap (λx=>x.1++x.2)=((n.J6.zip n.Q0).take i).flatMap (λx=>x.1++x.2)++(pk[i].2++pv[i].2):=by rw[take_add_one,hz,yQ];simp
 have an:(be n.J6.length 2++((n.J6.zip n.Q0).take (i+1)).flatMap λx=>x.1++x.2).length<=500:=(by refine zL ?_ aH;rw[E,zF,zF];have e:(n.J6.zip n.Q0).flatMap (λx=>x.1++x.2)=((n.J6.zip n.Q0).take (i+1)).flatMap (λx=>x.1++x.2)++((n.J6.zip n.Q0).drop (i+1)).flatMap (λx=>x.1++x.2):=(by rw[<- yQ,xD]);rw[e,zF];omega);rw[V,zF,zF,zF] at an;refine DK (b2.q9 (Fr.refl [] w4).drew) ((aM.2 pk[i] (zW ap)).q9 (Fr.refl [] w4).drew) (by rw[zF];omega) λs3 B3 w5 b3 f5 n5=>?_;have aa:=af.j0 f5 (λi hi=>.inr (O i hi)) (λp hp=>by rw[zE.1 hp];exact ae);have aO:∀b∈B3,w.z<=b:=λb hb=>by rcases n5 b hb with h|h;exact O b h;exact zL af.fr.size h
 refine jU (hh w5 (au.q9 aa.fr)) (aa.cell 0) ?_;have aP:r1∉B3:=λhm=>by
  rcases n5 r1 hm with h|h;exact ae h;have:=gg (af.at (i:=0) rfl);dsimp only at this;omega
 refine DK b3 ((au.q9 aa.fr).2 pv[i] (zW ag)) (by rw[zF,zF];omega) λs6 B6 w6 b6 f6 n6=>?_;have aC:=aa.j0 f6 (λi hi=>.inr (aO i hi)) (λp hp=>by rw[zE.1 hp];exact aP);rw[uZ oL];refine hX _ _ ⟨i+1,s6,B6,rfl,ak,by rw[V,<- zV,<- zV];exact b6,aC,λhm=>?_,λb hb=>?_⟩ oP;rcases n6 r1 hm with h|h;exact aP h;have:=gg (aa.at (i:=0) rfl);dsimp only at this;omega;rcases n6 b hb with h|h;exact aO b h;exact zL aa.fr.size h;have aD:i=n.J6.length:=(by have:=zB I;omega);rw[aD,<- aK,xY,aK,<- E] at b2;have:=aI b2 O ho.fr;rw[U] at this;exact this;rw[h0] at I;have aR:¬n.Q4=true:=(by rw[I];decide);have E:ib n=be n.J9.length 2++n.J9.flatMap (λx=>be x 4)++n.J6.flatten:=(by unfold ib;rw[iN aR]);have U:jQ n=4:=(by unfold jQ;rw[iN aR]);refine Mi h 0 x.2.2.2<|Mi h 0 x.2.2.2<|oD h λr9 w3 e3 f3 h=>Mi h 1 x.2.2.2 ?_;have h9:=h.at (i:=0) rfl;have ax:=h.sub (L':=[(r1,.cells (fB x) 119)]) (L5 _ _);have ay:r1≠r9:=λe=>by have:=h.nodup;simp[e] at this
 have ac:=(h.own (r9,_) (LQ ..)).elim (λh=>nomatch h) id;have a4:(be n.J9.length 2++n.J9.flatMap λx=>be x 4).length+n.J6.flatten.length<=500:=(by rw[<- zF,<- E];exact aH);refine lD (λt w'=>∃(i:Nat) (s2:Sl) (B2:Mk),t=(s2,(i:Int))/\i<=n.J9.length/\ip w' s2 (be n.J9.length 2++(n.J9.take i).flatMap λx=>be x 4) B2/\dY [] w w' [(r1,.cells (fB x) 119)]/\r1∉B2/\∀b∈B2,w.z<=b) (λt _=>((n.J9.length:Int)-t.2).toNat)
  ⟨0,_,[r9],rfl,yX _,?_,ax,by simpa using ay,λb hb=>by rw[zE.1 hb];exact ac⟩ ?_
 rw[qEJ,take_zero,flatMap_nil,xG];refine Jv (T:=5) ?_ rfl;rw[n3] at h9;exact h9;rintro t w4 ⟨i,s2,B2,rfl,hi,b2,ho,ae,O⟩ X hX;apply cD<;>intro I;have ak:i<n.J9.length:=oL;have al:=zA ak;refine eT.get (ao.q9 ho.fr) i rfl al rfl<|oD ho λr6 w5 e5 f5 h5=>?_;have a5:=h5.at (i:=0) rfl;have V:(n.J9.take (i+1)).flatMap (λx=>be x 4)=(n.J9.take i).flatMap (λx=>be x 4)++be n.J9[i] 4:=by rw[take_add_one,al,yQ];simp
 have an:(be n.J9.length 2++(n.J9.take (i+1)).flatMap λx=>be x 4).length<=500:=(by have e:n.J9.flatMap (λx=>be x 4)=(n.J9.take (i+1)).flatMap (λx=>be x 4)++(n.J9.drop (i+1)).flatMap (λx=>be x 4):=(by rw[<- yQ,xD]);rw[e,zF,zF] at a4;rw[zF];omega);rw[V,zF,zF] at an;have aq:=qD4 a5;have aE:=mw n.J9[i] 4;generalize be n.J9[i] 4=bc at V an aq aE;refine DK (src:=⟨pW r6,4,4⟩) (b2.q9 f5) aq (by rw[zF];omega) λs6 B6 w6 b6 f6 n6=>?_;have aF:=h5.sub (L':=[(r1,.cells (fB x) 119)]) (L5 _ _);have aC:=aF.j0 f6 (λi hi=>.inr (O i hi)) (λp hp=>by rw[zE.1 hp];exact ae);rw[uZ oL];refine hX _ _ ⟨i+1,s6,B6,rfl,ak,by rw[V,<- zV];exact b6,aC,λhm=>?_,λb hb=>?_⟩ oP;rcases n6 r1 hm with h|h;exact ae h;have:=gg (aF.at (i:=0) rfl);dsimp only at this;omega;rcases n6 b hb with h|h;exact O b h;exact zL aF.fr.size h;have aD:i=n.J9.length:=oL;rw[aD,xY] at b2;refine Mi ho 0 x.2.1<|qrE (ar.q9 ho.fr) oL (by rw[J];omega) λs5 B5 w5 b5 f5 n5=>?_;rw[J] at b5;refine DK (b2.q9 f5) (b5.ju mW (S:=[]) λ_ _ h=>nomatch h) oL λs6 B6 w6 b6 f6 n6=>?_;rw[<- E] at b6
 have:=aI b6 (λb hb=>by rcases n6 b hb with h|h;exact O b h;exact zL (zL ho.fr.size f5.size) h) ((ho.fr.trans f5).j8 f6 λi hi=>.inr (O i hi));rw[U] at this;exact this
abbrev ND:Mf:=119
def HB{k v:Nat}:∀(c:Nat) (b:Ml),(jZ k v c b).1.length=c/\(jZ k v c b).2.length=c
 | 0,_=>⟨rfl,rfl⟩
 | c+1,b=>by
  have:=HB (k:=k) (v:=v) c (b.drop (k+v));exact⟨by rw[jZ,yI,this.1],by rw[jZ,yI,this.2]⟩
def qpR{k v:Nat}:∀(c:Nat) (b:Ml),jZ k v (c+1) b=((jZ k v c b).1++[(b.drop (c*(k+v))).take k],(jZ k v c b).2++[((b.drop (c*(k+v))).drop k).take v])
 | 0,b=>by simp[jZ]
 | c+1,b=>by have ih:=qpR (k:=k) (v:=v) c (b.drop (k+v));have e:(k+v)+c*(k+v)=(c+1)*(k+v):=(by rw[xS];omega);rw[jZ,ih];simp only[xC,e];rfl
def qpQ:∀(c:Nat) (b:Ml),y8 (c+1) b=y8 c b++[jn ((b.drop (c*4)).take 4)]
 | 0,b=>by simp[y8]
 | c+1,b=>by have ih:=qpQ c (b.drop 4);have e:4+c*4=(c+1)*4:=oL;rw[y8,ih,xC,e];rfl
def qpP{k:Nat}:∀(c:Nat) (b:Ml),mS k (c+1) b=mS k c b++[(b.drop (c*k)).take k]
 | 0,b=>by simp[mS]
 | c+1,b=>by have ih:=qpP (k:=k) c (b.drop k);have e:k+c*k=(c+1)*k:=(by rw[xS];omega);rw[mS,ih,xC,e];rfl
def JU:∀(c:Nat) (b:Ml),(y8 c b).length=c
 | 0,_=>rfl
 | c+1,b=>by rw[y8,yI,JU c]
def JM{k:Nat}:∀(c:Nat) (b:Ml),(mS k c b).length=c
 | 0,_=>rfl
 | c+1,b=>by rw[mS,yI,JM c]
def te{x:Sl}{l:List Sl}(h:eZ ir 1 w s l B)(hl:l.length<=100000)(V:w.heap[vb]?=some (.c #[je x] T'))(kk:∀E B' w',eZ ir 1 w' E (l++[x]) B'->Fr B w w'->(∀b∈B',b∈B\/w.z<=b)->K E w'): Pt.run di ((Builtin.append_ #[116,116] 116 #[s.v,.slice (pW vb) 1 1]).run prog w) K:=by obtain⟨ab,G,hz,I,J⟩:=GZ;refine eZ.j2 h AZ oM G hz I rfl (.ofSlice w (e':=79) oM _ 1 1 _ rfl (λj u O=>?_) λu U=>?_) rfl (by rw[J];omega) oL λE B' w' b' f' n' _=>kk E B' w' b' f' n';rw[Addr.j1,jI V,xQ];rw[yH,flatMap_nil,xG] at O;simpa[ir] using O;rw[yH,flatMap_nil,xG] at U;rw[zE.1 U];rfl
def qwB{x:Int}(h:eZ jS 1 w s l B)(hl:l.length<=100000)(V:w.heap[vb]?=some (.c #[.u x] T'))(kk:∀E B' w',eZ jS 1 w' E (l++[x]) B'->Fr B w w'->(∀b∈B',b∈B\/w.z<=b)->K E w'): Pt.run di ((Builtin.append_ #[117,117] 117 #[s.v,.slice (pW vb) 1 1]).run prog w) K:=by obtain⟨ab,G,hz,I,J⟩:=Cb;refine eZ.j2 h wR oM G hz I rfl (.ofSlice w (e':=35) oM _ 1 1 _ rfl (λj u O=>?_) λu U=>?_) rfl (by rw[J];omega) oL λE B' w' b' f' n' _=>kk E B' w' b' f' n';rw[Addr.j1,jI V,xQ];rw[yH,flatMap_nil,xG] at O;simpa[jS] using O;rw[yH,flatMap_nil,xG] at U;rw[zE.1 U];rfl
abbrev vu (h:Nat):Me:=.func (.func 243) #[] #[dM h]
def qvr{L:Mq}{m:Nat}(h:dY [] w0 w L)(hi:L[i]?=some (E,.c #[je s] T))(I:eY [] w0 s b)(G:m<=b.length)(hl:b.length<=1000000)(kk:∀O B' U w',dY [] w0 w' (L.set i (E,.c #[je U] T))->ip w' O (b.take m) B'->(∀c∈B',w.z<=c)->eY [] w0 U (b.drop m)->Fr [E] w w'->K O w'): dU prog (vu E) [.i m] di w K:=by
 refine nM rfl oM<|qoB<|oB h i hi s rfl<|eT.part I 0 m rfl rfl (yX _) G λs1 _ V _=>?_;rw[xE] at V;refine Dd (V.q9 h.fr) (by rw[yL];omega) λs2 B2 w2 b2 f2 n2 _ _=>?_;have h2:=h.q9 f2;refine oB h2 i hi s rfl<|eT.part I m b.length rfl (by rw[xU,I.1]) G (zM _) λs3 _ h3 _=>?_;rw[xY] at h3;have aj:=gg (h.at hi);refine oI h2 i hi #[je s3] rfl rfl (zM _) λw3 J f3=>kk s2 B2 s3 w3 J (b2.j0 f3 λc hc G=>?_) n2 h3 ((f2.mono λ_ h _=>nomatch h).trans f3)
 have:=n2 c hc;rw[zE.1 G] at this;omega
def AE (x:mp) (o:Nat):Sl:=if o=1 then x.2.1 else x.2.2.1
def CG (x:mp) (o:Nat) (s:Sl):mp:=if o=1 then (x.1,s,x.2.2) else (x.1,x.2.1,s,x.2.2.2)
def IQ(h:o=1\/o=2):(fB x)[o]?=some (je (AE x o)):=by rcases h with rfl|rfl<;>rfl
def qD9(h:o=1\/o=2):d7 (fB x) o [je s]=fB (CG x o s):=by rcases h with rfl|rfl<;>rfl
def I8{L:Mq}{J U m:Nat}{s':Sl}{l:List Sl}{Bk:Mk}{K:WP}(ho:o=1\/o=2)(h:dY [] w0 w ((J,.c (fB x) ND)::(U,.c #[je s'] T)::L))(hr:eY [] w0 s' b)(I:m<=b.length)(aL:b.length<=1000000)(af:eZ ir 1 w (AE x o) l Bk)(ad:∀c∈Bk,w0.z<=c/\c∉J::U::L.map (·.1))(hl:l.length<=100000)(kk:∀sn sN V Bk' w',dY [] w0 w' ((J,.c (fB (CG x o V)) ND)::(U,.c #[je sN] T)::L)->eY [] w0 sN (b.drop m)->eZ ir 1 w' V (l++[sn]) Bk'-> (∀c∈Bk',c∈Bk\/w.z<=c)->(∀c∈Bk',c∉J::U::L.map (·.1))->Fr (J::U::Bk) w w'->(∀G:Mk,(∀c∈G,c<w.z\/c∈Bk')->eY G w' sn (b.take m))->K w'): (ld Cell.slice (dh J o) w.drew<|λ(E:Sl)=> dU prog (vu U) ([Value.int IntKind.i64 m]) (di) w.drew<|λ(aa:Sl) (ag:Md)=> held [λ(ar:Go.World)=>World.cell? ar (dh J o)=some (Value.slice E.a E.len E.cap)] ag<| new (.cells #[Value.slice aa.a aa.len aa.cap] 79) ag<|λ(au:Nat) (ah:Md)=> held [λ(av:Go.World)=>World.cell? av (dh J o)=some (Value.slice E.a E.len E.cap)] ah<| run di ((Builtin.append_ (#[116,116]) 116 (#[Value.slice E.a E.len E.cap,Value.slice (pW au) 1 1])).run prog ah)<|λ(ab:Sl) (aw:Md)=> st (dh J o) ([Value.slice ab.a ab.len ab.cap]) aw K):=by
 have hd:=h.drew;refine oB hd 0 rfl (AE x o) (IQ ho)<|qvr hd (i:=1) rfl hr I aL λaM aN sN ax ay aO aP hN aj=>gY (ay.cell 0 rfl (IQ ho))<|oD ay λa2 a3 a4 ak al=>gY (al.cell 1 rfl (IQ ho)) ?_;have an:eZ ir 1 w.drew (AE x o) l Bk:=af;have az:=an.j0 aj λc O I=>(ad c O).2 (by rw[zE.1 I];simp);have aA:=az.q9 ak;refine te aA hl (al.at (i:=0) rfl) λV Bk' a5 aQ aB aC=>?_;have aD:=al.sub (L':=(J,.c (fB x) ND)::(U,.c #[je sN] T)::L) (L5 _ _);have a6:w.z<=ax.z:=aj.size;have a7:=ak.size;have ac:∀c∈J::U::L.map (·.1),c<w.z:=λc O=>by obtain⟨p,hp,rfl⟩:=mem_map.1 (show c∈((J,Obj.cells (fB x) ND (0,0))::(U,.c #[je s'] T)::L).map (·.1) from O);exact gg (h.iX p hp)
 have ao:∀p∈((J,Obj.cells (fB x) ND (0,0))::(U,.c #[je sN] T)::L),p.1∉Bk:=λp hp I=>(ad p.1 I).2 (zY hp);have aT:=aD.j0 aB (λi hi=>.inr (ad i hi).1) ao;have ai:∀c∈Bk',c∈Bk\/w.z<=c:=λc O=>(aC c O).elim .inl λh=>.inr oL;have aE:∀c∈Bk',c∉J::U::L.map (·.1):=λc O I=>by
  rcases ai c O with h|h;exact (ad c h).2 I;have:=ac c I;omega
 refine oI aT 0 rfl (fB (CG x o V)) (qD9 ho) rfl (by rcases ho with rfl|rfl<;>exact zO rfl) λaF aU aG=>?_;have h5:∀c∈Bk',c∉[J]:=λc O I=>aE c O (by rw[zE.1 I];simp);have aH:Fr (J::U::Bk) ax aF:=((ak.mono λ_ h _=>nomatch h).trans (aB.mono λi hi _=>by simp[hi])).trans (aG.mono λi hi _=>by simp[zE.1 hi]);have aV:=((Fr.refl _ w).drew.trans (aj.mono λi hi _=>by simp[zE.1 hi])).trans aH;refine kk aM sN V Bk' aF aU hN (aQ.j0 aG h5) ai aE aV λG hG=>?_;have aI:∀c∈aN,c∉J::U::Bk++G.filter λc=>decide (c<w.z):=λc O I=>by
  have h1:w.z<=c:=aP c O;rcases zD.1 I with I|I;rcases zG.1 I with rfl|I;have:=ac c oN;omega;rcases zG.1 I with rfl|I;have:=ac c oN;omega;have:=af.lt c I;omega;have:=(mem_filter.1 I).2;simp at this;omega
 refine (aO.ju mW aI).j0 (aH.mono λi hi _=>zH _ hi) λc O=>?_;rcases hG c O with h1|h1;exact .inl (zI _ (mem_filter.2 ⟨O,by simpa using h1⟩));rcases aC c h1 with h2|h2;exact .inl (zH _ (by simp[h2]));exact .inr oL
def Hi{L:Mq}{L':Mq}(h:dY S w0 w L)(p:L.Perm L'):dY S w0 w L':=⟨λx E=>h.iX x (p.mem_iff.2 E),(p.map _).nodup_iff.1 h.nodup,h.fr,λx E=>h.own x (p.mem_iff.2 E)⟩
def DH{α:Type}{enc:α->List Me}{l:List α}(h:eZ enc k w s l B):B.Nodup:=by rcases h with ⟨_,_,rfl⟩|⟨b,_,_,_,rfl,_⟩<;>simp
def zt (w:Md) (ps:sP) (T:Mk):Prop:=∀p∈ps,eY T w p.1 p.2
variable {T X F1 F2:Mk} {pk pv:sP} {K:mp×Bool->WP} {kind:Int} {G:List (Int×mh)} {db:Option Addr} {pb fb defb mb:Nat} {sl sn:Sl}
def zt.j0{T':Mk}(h:zt w ps T)(f:Fr S w w')(E:∀b∈S,b∈T)(G:∀b∈T',b∈T\/w.z<=b):zt w' ps T':=λp I=>(h p I).j0 (f.mono λi J _=>E i J) G
def zt.snoc{a:Key}(h:zt w ps T)(g:eY T w s a):zt w (ps++[(s,a)]) T:=λp E=>by rcases zD.1 E with E|E;exact h p E;rw[zE.1 E];exact g
def qw6{G:Mk}{Bk h E:Mk}(h0:x.1=n.Q4)(hN:NB n)(V:eZ ir 1 w x.2.1 (jG pk) Bk)(e1:io pk=n.J6)(h2:eZ ir 1 w x.2.2.1 (jG pv) h)(e2:io pv=n.Q0)(h3:eZ jS 1 w x.2.2.2 n.J9 E)(d1:∀c∈Bk,c∉h/\c∉E)(d2:∀c∈h,c∉E)(g1:zt w pk T)(g2:zt w pv T)(hT:∀c∈G++(Bk++(h++E)),c∈T):gc (G++(Bk++(h++E))) w x n (Bk++(h++E)):=by refine⟨h0,hN,Bk,h,E,rfl,?_,⟨pk,V,e1,λp O=>(g1 p O).j6 λc U=>.inl (hT c U)⟩,⟨pv,h2,e2,λp O=>(g2 p O).j6 λc U=>.inl (hT c U)⟩,h3⟩;refine yM.2 ⟨DH V,yM.2 ⟨DH h2,DH h3,λa J b I e=>d2 a J (e▸I)⟩,λa J b I e=>?_⟩;rcases zD.1 I with I|I;exact (d1 a J).1 (e▸I);exact (d1 a J).2 (e▸I)
def qDZ{G:Nat}(hb:eY [] w s b)(hB:fj b)(hl:b.length<=1000)(hc:G<=100000)(hk:1<=k/\k<=1000)(hv:v<=1000)(kk:∀x B n w',(b.length=G*(k+v)->n=⟨true,(jZ k v G b).1,(jZ k v G b).2,[]⟩)->gc (List.range w.z++B) w' x n B->Fr [] w w'->(∀c∈B,w.z<=c)->K (x,decide (b.length=G*(k+v))) w'): cW 137 [s.v,.i G,.i k,.i v] [.agg eI,.one .bool] w K:=by
 refine quR<|oD (oG [] w) λr1 w1 e1 f1 h=>?_;have a6:G*(k+v)<=100000*2000:=Nat.mul_le_mul hc oL;have ew:wrap .i64 ((G:Int)*wrap .i64 ((k:Int)+(v:Int)))=((G*(k+v):Nat):Int):=by have e1:wrap .i64 ((k:Int)+(v:Int))=((k+v:Nat):Int):=(by rw[gJ _ oL];rfl);rw[e1,<- Int.natCast_mul,gJ _ oL]
 rw[ew];have ar:=hb.1;apply eF<;>intro ac;have au:b.length≠G*(k+v):=λe=>by rw[ar,e] at ac;simp at ac
 refine oF h 0 rfl (fB gG) λw2 h f2=>Mj h 0 gG ?_;have:=kk gG [] jx w2 (λe=>absurd e au) (.zero _ _) h.fr (λ_ h=>nomatch h);rw[zU au] at this;exact this;have aM:b.length=G*(k+v):=by
  have:((s.len:Int)==((G*(k+v):Nat):Int))=true:=by simpa using ac
  have:=yP.1 this;omega
 refine oD h λI w2 e2 f2 h=>oF h 0 rfl (fB (true,dN,dN,dN)) λw3 h f3=>qj5<|oD h λJ w4 e4 f4 h=>?_;have h:=Hi h (List.Perm.swap _ _ _);refine lD (λi w'=>∃(c:Nat) (sk sv sn:Sl) (pk pv:sP) (Bk U:Mk),i=(c:Int)/\c<=G/\dY [] w w' [(I,.c (fB (true,sk,sv,dN)) ND),(J,.c #[je sn] 79),(r1,.c (fB gG) ND)]/\
   eY [] w sn (b.drop (c*(k+v)))/\eZ ir 1 w' sk (jG pk) Bk/\io pk=(jZ k v c b).1/\eZ ir 1 w' sv (jG pv) U/\io pv=(jZ k v c b).2/\(∀c∈Bk,w.z<=c/\c∉[I,J,r1])/\(∀c∈U,w.z<=c/\c∉[I,J,r1])/\(∀c∈Bk,c∉U)/\
   zt w' pk (List.range w.z++I::J::r1::(Bk++U))/\zt w' pv (List.range w.z++I::J::r1::(Bk++U))) (λi _=>((G:Int)-i).toNat)
  ⟨0,dN,dN,s,[],[],[],[],rfl,yX _,h,by rw[Nat.zero_mul,xE];exact hb,.nil _ _ _,rfl,.nil _ _ _,rfl,λ_ h=>(nomatch h),λ_ h=>(nomatch h),λ_ h=>(nomatch h),λ_ h=>(nomatch h),λ_ h=>(nomatch h)⟩ ?_
 rintro _ w' ⟨c,sk,sv,sn,pk,pv,Bk,U,rfl,bc,h,aN,av,ek,ad,ev,nk,nv,aj,gk,gv⟩ X hX;have lk:pk.length=c:=(by rw[<- zK,show pk.map (·.2)=io pk from rfl,ek,(HB c b).1]);have lv:pv.length=c:=(by rw[<- zK,show pv.map (·.2)=io pv from rfl,ev,(HB c b).2]);have V:∀z∈[I,J,r1],z<w'.z:=λz E=>by simp only[zG,xW,or_false] at E;rcases E with rfl|rfl|rfl;exact gg (h.at (i:=0) rfl);exact gg (h.at (i:=1) rfl);exact gg (h.at (i:=2) rfl)
 apply cD<;>intro ak;have aw:c<G:=oL;have al:(c+1)*(k+v)<=G*(k+v):=L0 _ aw;rw[xS,Nat.one_mul] at al;have bf:(b.drop (c*(k+v))).length=b.length-c*(k+v):=yC;refine I8 (.inl rfl) h aN oL oL av (λz E=>nk z E) oQ λae sN ax Bk' w5 h5 aQ b5 n5 m5 f5 g5=>?_;have az:=ad.j0 f5 λz E O=>by simp only[zG] at O;rcases O with rfl|rfl|O;exact (nv _ E).2 oN;exact (nv _ E).2 oN;exact aj z O E
 have aA:∀z∈List.range w.z++I::J::r1::(Bk'++U),z∈List.range w.z++I::J::r1::(Bk++U)\/w'.z<=z:=λz E=>by simp only[zD,zG] at E⊢;rcases E with E|rfl|rfl|rfl|E|E;exact .inl (.inl E);simp;simp;simp;rcases n5 z E with h|h;simp[h];exact .inr h;simp[E]
 have aB:∀z∈I::J::Bk,z∈List.range w.z++I::J::r1::(Bk++U):=λz E=>by simp only[zD,zG] at E⊢;rcases E with rfl|rfl|E<;>simp[*]
 have aU:=(gk.j0 f5 aB aA).snoc (g5 _ λz E=>by
  simp only[zD,zG,mem_range] at E;have:=h.fr.size;rcases E with E|rfl|rfl|rfl|E|E;exact .inl oL;exact .inl (V _ oN);exact .inl (V _ oN);exact .inl (V _ oN);exact .inr E;exact .inl (ad.lt z E))
 have aV:=gv.j0 f5 aB aA;have an:∀z∈Bk',w.z<=z/\z∉[I,J,r1]:=λz E=>⟨by rcases n5 z E with h'|h';exact (nk z h').1;exact zL h.fr.size h',m5 z E⟩;have ag:∀z∈Bk',z∉U:=λz E O=>by
  rcases n5 z E with h'|h';exact aj z h' O;have:=ad.lt z O;omega
 have aW:eZ ir 1 w5 ax (jG (pk++[(ae,(b.drop (c*(k+v))).take k)])) Bk':=(by rw[show jG (pk++[(ae,(b.drop (c*(k+v))).take k)])=jG pk++[ae] by simp];exact b5);refine I8 (.inr rfl) h5 aQ (by rw[yC];omega) (by rw[yC];omega) az (λz E=>nv z E) oQ λao aX aY aC w6 h6 aD b6 n6 m6 f6 g6=>?_;have ab:∀z∈[I,J,r1],z<w5.z:=λz E=>yD (V z E) f5.size;have aE:=aW.j0 f6 λz E O=>by simp only[zG] at O;rcases O with rfl|rfl|O;exact (an _ E).2 oN;exact (an _ E).2 oN;exact ag z E O
 have aF:∀z∈List.range w.z++I::J::r1::(Bk'++aC),z∈List.range w.z++I::J::r1::(Bk'++U)\/w5.z<=z:=λz E=>by simp only[zD,zG] at E⊢;rcases E with E|rfl|rfl|rfl|E|E;exact .inl (.inl E);simp;simp;simp;simp[E];rcases n6 z E with h|h;simp[h];exact .inr h
 have aG:∀z∈I::J::U,z∈List.range w.z++I::J::r1::(Bk'++U):=λz E=>by simp only[zD,zG] at E⊢;rcases E with rfl|rfl|E<;>simp[*]
 have a1:=(aV.j0 f6 aG aF).snoc (g6 _ λz E=>by
  simp only[zD,zG,mem_range] at E;have:=h5.fr.size;rcases E with E|rfl|rfl|rfl|E|E;exact .inl oL;exact .inl (ab _ oN);exact .inl (ab _ oN);exact .inl (ab _ oN);exact .inl (b5.lt z E);exact .inr E)
 have a2:=aU.j0 f6 aG aF;rw[uZ oL];have aH:=qpR (k:=k) (v:=v) c b;refine hX _ _ ⟨c+1,ax,aY,aX,pk++[(ae,(b.drop (c*(k+v))).take k)],pv++[(ao,((b.drop (c*(k+v))).drop k).take v)],Bk',aC,rfl,aw,h6,?_,aE,?_,?_,?_,an,λz E=>⟨?_,m6 z E⟩,λz E O=>?_,a2,a1⟩ oL;rw[xC,xC] at aD;have e:c*(k+v)+(k+v)=(c+1)*(k+v):=(by rw[xS];omega);rw[<- e];exact aD;rw[aH];simp[ek];rw[show jG (pv++[(ao,((b.drop (c*(k+v))).drop k).take v)])=jG pv++[ao] by simp];exact b6;rw[aH];simp[ev];rcases n6 z E with h'|h';exact (nv z h').1;exact zL h5.fr.size h';rcases n6 z O with h'|h';exact ag z E h';have:=b5.lt z E;omega;have a3:c=G:=oL;subst a3;refine Mj h 0 (true,sk,sv,dN)<|oF h 2 rfl (fB (true,sk,sv,dN)) λw5 h5 f5=>Mj h5 2 (true,sk,sv,dN) ?_;have aI:∀ {B:Mk},(∀z∈B,w.z<=z/\z∉[I,J,r1])->∀z∈B,z∉[r1]:=λhB z E O=>(hB z E).2 (by rw[zE.1 O];simp);have aJ:∀z∈[r1],z∈List.range w.z++I::J::r1::(Bk++U):=λz E=>by rw[zE.1 E];simp
 have:=kk (true,sk,sv,dN) (Bk++(U++[])) ⟨true,(jZ k v c b).1,(jZ k v c b).2,[]⟩ w5 (λ_=>rfl)
  (qw6 rfl ⟨(JS c hB).1,(JS c hB).2,λ_ h=>(nomatch h)⟩ (av.j0 f5 (aI nk)) ek (ad.j0 f5 (aI nv)) ev (.nil _ _ _) (λz E=>⟨aj z E,λh=>nomatch h⟩) (λ_ _ h=>nomatch h)
   (gk.j0 f5 aJ λz E=>.inl E) (gv.j0 f5 aJ λz E=>.inl E) λz E=>by simp only[xG,zD,zG] at E⊢;rcases E with E|E|E<;>simp[*]) h5.fr (λz E=>by
   rw[xG] at E;rcases zD.1 E with E|E;exact (nk z E).1;exact (nv z E).1)
 rw[yA aM] at this;exact this
def qvS(E:fj l)(I:4<=l.length):gw (l.take 4)=jn (l.take 4):=by
 match l,I with
 | a::b::c::d::r,_=>
  have J:=E a oN;have O:=E b oN;have U:=E c oN;have V:=E d oN;show gw [a,b,c,d]=jn [a,b,c,d];show rC a b c d=_;rw[quu J O U V,FU (λv G=>E v (by simp at G⊢;rcases G with h|h|h|h<;>simp[h])) (zM _)];show _=(((0*256+a)*256+b)*256+c)*256+d;omega
def qCd(l:Ml):jf (jn l):=by
 unfold jn;have:∀(l:Ml) (r:Int),jf r->jf (l.foldl (λr x=>bits .or .u32 (wrap .u32 (r*2^8)) (wrap .u32 x)) r):=by
  intro l;induction l with|nil=>intro r h;exact h|cons x l ih=>intro r h;exact ih _ (Hj _ _ _)
 exact this l 0 ⟨oO,oO⟩
def qsi:∀(c:Nat) (b:Ml),∀x∈y8 c b,jf x
 | 0,_,_,h=>nomatch h
 | c+1,b,x,h=>by rcases zG.1 h with rfl|h;exact qCd _;exact qsi c _ x h
def qEf{L:Mq}{T:Mf}{O rt:Nat}{s':Sl}{Bi:Mk}{K:WP}(h:dY [] w0 w ((O,.c (fB x) ND)::(rt,.c #[je s'] T)::L))(hr:eY [] w0 s' b)(hB:fj b)(hm:4<=b.length)(aF:b.length<=1000000)(al:eZ jS 1 w x.2.2.2 l Bi)(ae:∀c∈Bi,w0.z<=c/\c∉O::rt::L.map (·.1))(hl:l.length<=100000)(kk:∀sN U V w',dY [] w0 w' ((O,.c (fB (x.1,x.2.1,x.2.2.1,U)) ND)::(rt,.c #[je sN] T)::L)->eY [] w0 sN (b.drop 4)->eZ jS 1 w' U (l++[jn (b.take 4)]) V-> (∀c∈V,w0.z<=c/\c∉O::rt::L.map (·.1))->K w'): (dU prog (vu rt) ([Value.int IntKind.i64 4]) (di) w<|λ(I:Sl) (E:Md)=> ld Cell.slice (dh O 3) E.drew<|λ(G:Sl)=> idx I 0 1<|λ(an:Addr)=> ld (Cell.int IntKind.u8) an E.drew<|λ(ao:Int)=> idx I 1 1<|λ(ap:Addr)=> ld (Cell.int IntKind.u8) ap E.drew<|λ(aq:Int)=> idx I 2 1<|λ(ar:Addr)=> ld (Cell.int IntKind.u8) ar E.drew<|λ(au:Int)=> idx I 3 1<|λ(av:Addr)=> ld (Cell.int IntKind.u8) av E.drew<|λ(aw:Int)=> new (.cells #[Value.int IntKind.u32 (bits .or .u32 (bits .or .u32 (bits .or .u32 (wrap IntKind.u32 (wrap IntKind.u32 ao*2^24)) (wrap IntKind.u32 (wrap IntKind.u32 aq*2^16))) (wrap IntKind.u32 (wrap IntKind.u32 au*2^8))) (wrap IntKind.u32 aw))] 35) E.drew<|λ(ax:Nat) (af:Md)=> held [λ(ay:Go.World)=>World.cell? ay (dh O 3)=some (Value.slice G.a G.len G.cap)] af<| run di ((Builtin.append_ (#[117,117]) 117 (#[Value.slice G.a G.len G.cap,Value.slice (pW ax) 1 1])).run prog af)<|λ(aa:Sl) (az:Md)=> st (dh O 3) ([Value.slice aa.a aa.len aa.cap]) az K):=by
 refine qvr h (i:=1) rfl hr hm aF λaG a2 sN ah aH aI a3 hN aJ=>?_;have hd:=oH aH;refine Mi hd 0 x.2.2.2 ?_;have J:eY [] ah.drew aG (b.take 4):=(aI.ju mW (S:=[]) λ_ _ h=>nomatch h).q9 (Fr.refl [] ah).drew;have h4:4<=(b.take 4).length:=(by rw[yL];omega);refine eY.at J 0 rfl (getD_some oL)<|eY.at J 1 rfl (getD_some oL)<|eY.at J 2 rfl (getD_some oL)<|eY.at J 3 rfl (getD_some oL) ?_;have e4:=qvS hB hm;unfold gw rC at e4;rw[e4];refine oD hd λa5 aK a6 aL ai=>gY (ai.cell 1) ?_;have aA:=al.j0 aJ λc hc hm=>(ae c hc).2 (by rw[zE.1 hm];simp);have aB:=(aA.q9 (Fr.refl [] ah).drew).q9 aL;refine qwB aB hl (ai.at (i:=0) rfl) λU V a7 aM aN aO=>?_;have ab:=ai.sub (L':=(O,.c (fB x) ND)::(rt,.c #[je sN] T)::L) (L5 _ _);have ak:∀p∈((O,Obj.cells (fB x) ND (0,0))::(rt,.c #[je sN] T)::L),p.1∉Bi:=λp hp hm=>(ae p.1 hm).2 (zY (f:=(·.1)) hp);have aQ:=ab.j0 aN (λi hi=>.inr (ae i hi).1) ak;have aC:∀c∈O::rt::L.map (·.1),c<aK.z:=λc hc=>by obtain⟨p,hp,rfl⟩:=mem_map.1 (show c∈((O,Obj.cells (fB x) ND (0,0))::(rt,.c #[je sN] T)::L).map (·.1) from hc);exact gg (ab.iX p hp)
 have aD:∀c∈V,w0.z<=c/\c∉O::rt::L.map (·.1):=λc hc=>by rcases aO c hc with h|h;exact ae c h;exact⟨zL ab.fr.size h,λhm=>by have:=aC c hm;omega⟩
 exact oF aQ 0 rfl (fB (x.1,x.2.1,x.2.2.1,U)) λaR aT aU=>kk sN U V aR aT hN (aM.j0 aU λc hc hm=>(aD c hc).2 (by rw[zE.1 hm];simp)) aD
def qz2(hb:eY [] w s b)(hB:fj b)(hl:b.length<=1000)(hc:E<=100000)(hk:1<=k/\k<=1000)(kk:∀x B n w',(1<=E/\b.length=E*4+(E-1)*k->n=⟨false,mS k (E-1) (b.drop (E*4)),[],y8 E b⟩)->gc (List.range w.z++B) w' x n B->Fr [] w w'->(∀c∈B,w.z<=c)->K (x,decide (1<=E/\b.length=E*4+(E-1)*k)) w'): cW 138 [s.v,.i E,.i k] [.agg eI,.one .bool] w K:=by
 refine qtm<|oD (oG [] w) λr1 w1 e1 f1 h=>?_;have aq:=hb.1;have ar:(E-1)*k<=100000*1000:=Nat.mul_le_mul oL hk.2;refine jd (λd w'=>d = !decide (1<=E/\b.length=E*4+(E-1)*k)/\w'=w1) ?_ ?_;apply eF<;>intro h1;have h1:=zC h1;refine⟨?_,rfl⟩;rw[zU λh=>oL];rfl;have h1:=zB h1;refine⟨?_,rfl⟩;have ea:wrap .i64 ((E:Int)-1)=((E-1:Nat):Int):=(by rw[gJ _ oL];omega);have ew:wrap .i64 (wrap .i64 ((E:Int)*4)+wrap .i64 (wrap .i64 ((E:Int)-1)*(k:Int)))=((E*4+(E-1)*k:Nat):Int):=by have e4:wrap .i64 ((E:Int)*4)=((E*4:Nat):Int):=(by rw[gJ _ oL];rfl);have e5:wrap .i64 (((E-1:Nat):Int)*(k:Int))=(((E-1)*k:Nat):Int):=(by rw[<- Int.natCast_mul,gJ _ oL]);rw[ea,e4,e5];generalize (E-1)*k=z at ar;rw[gJ _ oL];rfl
 rw[ew,aq];congr 1;rw[LR,yP,yN];generalize (E-1)*k=z;omega;rintro d a2 ⟨rfl,rfl⟩;apply eF<;>intro U;have av:¬(1<=E/\b.length=E*4+(E-1)*k):=(by rw[zT] at U;exact zB U);refine oF h 0 rfl (fB gG) λw2 h f2=>Mj h 0 gG ?_;have:=kk gG [] jx w2 (λe=>absurd e av) (.zero _ _) h.fr (λ_ h=>nomatch h);rw[zU av] at this;exact this;have aG:1<=E/\b.length=E*4+(E-1)*k:=(by rw[yE] at U;exact zC U);refine oD h λJ w2 e2 f2 h=>qj5<|oD h λO w4 e4 f4 h=>?_;have h:=Hi h (List.Perm.swap _ _ _);refine lD (λi w'=>∃(c:Nat) (si sn:Sl) (V:Mk),i=(c:Int)/\c<=E/\dY [] w w' [(J,.c (fB (false,dN,dN,si)) ND),(O,.c #[je sn] 79),(r1,.c (fB gG) ND)]/\
   eY [] w sn (b.drop (c*4))/\eZ jS 1 w' si (y8 c b) V/\(∀c∈V,w.z<=c/\c∉[J,O,r1])) (λi _=>((E:Int)-i).toNat)
  ⟨0,dN,s,[],rfl,yX _,h,by rw[Nat.zero_mul,xE];exact hb,.nil _ _ _,λ_ h=>(nomatch h)⟩ ?_
 rintro _ w' ⟨c,si,sn,V,rfl,a4,h,aw,I,ni⟩ X hX;apply cD<;>intro af;have ad:c<E:=oL;have aI:(b.drop (c*4)).length=b.length-c*4:=yC;refine qEf h aw (hB.drop _) oL oL I ni (by rw[JU];omega) λsN aK aL w5 h5 aa b5 n5=>?_;rw[uZ oL];refine hX _ _ ⟨c+1,aK,sN,aL,rfl,ad,h5,?_,by rw[qpQ];exact b5,n5⟩ oL;rw[xC] at aa;have e:c*4+4=(c+1)*4:=oL;rw[<- e];exact aa;have ag:c=E:=oL;subst ag;refine lD (λi w2=>∃(d:Nat) (sk sn:Sl) (pk:sP) (Bk:Mk),i=(d:Int)/\d<=c-1/\dY [] w w2 [(J,.c (fB (false,sk,dN,si)) ND),(O,.c #[je sn] 79),(r1,.c (fB gG) ND)]/\
   eY [] w sn ((b.drop (c*4)).drop (d*k))/\eZ jS 1 w2 si (y8 c b) V/\eZ ir 1 w2 sk (jG pk) Bk/\io pk=mS k d (b.drop (c*4))/\(∀c∈Bk,w.z<=c/\c∉[J,O,r1])/\(∀c∈Bk,c∉V)/\
   zt w2 pk (List.range w.z++J::O::r1::(Bk++V))) (λi _=>(((c-1:Nat):Int)-i).toNat)
  ⟨0,dN,sn,[],[],rfl,yX _,h,by rw[Nat.zero_mul,xE];exact aw,I,.nil _ _ _,rfl,λ_ h=>(nomatch h),λ_ h=>(nomatch h),λ_ h=>(nomatch h)⟩ ?_
 rintro _ w2 ⟨d,sk,a5,pk,Bk,rfl,a6,h,az,I,aA,ek,nk,ai,gk⟩ X hX;have lk:pk.length=d:=(by rw[<- zK,show pk.map (·.2)=io pk from rfl,ek,JM]);have ea:wrap .i64 ((c:Int)-1)=((c-1:Nat):Int):=(by rw[gJ _ oL];omega);have ab:∀z∈[J,O,r1],z<w2.z:=λz G=>by simp only[zG,xW,or_false] at G;rcases G with rfl|rfl|rfl;exact gg (h.at (i:=0) rfl);exact gg (h.at (i:=1) rfl);exact gg (h.at (i:=2) rfl)
 rw[ea];apply cD<;>intro aj;have ad:d<c-1:=oL;have ak:(d+1)*k<=(c-1)*k:=L0 _ ad;rw[xS,Nat.one_mul] at ak;have aI:((b.drop (c*4)).drop (d*k)).length=b.length-c*4-d*k:=(by rw[yC,yC]);refine I8 (.inl rfl) h az oL oL aA nk oQ λal sN aP Bk' w5 h5 aa b5 n5 m5 f5 g5=>?_;have aB:=I.j0 f5 λz G hm=>by simp only[zG] at hm;rcases hm with rfl|rfl|hm;exact (ni _ G).2 oN;exact (ni _ G).2 oN;exact ai z hm G
 have aQ:∀z∈List.range w.z++J::O::r1::(Bk'++V),z∈List.range w.z++J::O::r1::(Bk++V)\/w2.z<=z:=λz G=>by simp only[zD,zG] at G⊢;rcases G with G|rfl|rfl|rfl|G|G;exact .inl (.inl G);simp;simp;simp;rcases n5 z G with h|h;simp[h];exact .inr h;simp[G]
 have aR:∀z∈J::O::Bk,z∈List.range w.z++J::O::r1::(Bk++V):=λz G=>by simp only[zD,zG] at G⊢;rcases G with rfl|rfl|G<;>simp[*]
 have aT:=(gk.j0 f5 aR aQ).snoc (g5 _ λz G=>by
  simp only[zD,zG,mem_range] at G;have:=h.fr.size;rcases G with G|rfl|rfl|rfl|G|G;exact .inl oL;exact .inl (ab _ oN);exact .inl (ab _ oN);exact .inl (ab _ oN);exact .inr G;exact .inl (I.lt z G))
 rw[uZ oL];refine hX _ _ ⟨d+1,aP,sN,pk++[(al,((b.drop (c*4)).drop (d*k)).take k)],Bk',rfl,ad,h5,?_,aB,?_,?_,λz G=>⟨?_,m5 z G⟩,λz G hm=>?_,aT⟩ oL;rw[xC] at aa;have e:d*k+k=(d+1)*k:=(by rw[xS];omega);rw[<- e];exact aa;rw[show jG (pk++[(al,((b.drop (c*4)).drop (d*k)).take k)])=jG pk++[al] by simp];exact b5;rw[qpP];simp[ek];rcases n5 z G with h'|h';exact (nk z h').1;exact zL h.fr.size h';rcases n5 z G with h'|h';exact ai z h' hm;have:=I.lt z hm;omega;have ag:d=c-1:=oL;subst ag;refine Mj h 0 (false,sk,dN,si)<|oF h 2 rfl (fB (false,sk,dN,si)) λw5 h5 f5=>Mj h5 2 (false,sk,dN,si) ?_;have aC:∀ {B:Mk},(∀z∈B,w.z<=z/\z∉[J,O,r1])->∀z∈B,z∉[r1]:=λhB z G hm=>(hB z G).2 (by rw[zE.1 hm];simp);have aU:∀z∈[r1],z∈List.range w.z++J::O::r1::(Bk++V):=λz G=>by rw[zE.1 G];simp
 have:=kk (false,sk,dN,si) (Bk++([]++V)) ⟨false,mS k (c-1) (b.drop (c*4)),[],y8 c b⟩ w5 (λ_=>rfl)
  (qw6 (pv:=[]) rfl ⟨qsh _ (hB.drop _),λ_ h=>(nomatch h),qsi _ _⟩ (aA.j0 f5 (aC nk)) ek (.nil _ _ _) rfl (I.j0 f5 (aC ni)) (λz G=>⟨λh=>(nomatch h),ai z G⟩) (λ_ h=>nomatch h)
   (gk.j0 f5 aU λz G=>.inl G) (λ_ h=>nomatch h) λz G=>by simp only[xH,zD,zG] at G⊢;rcases G with G|G|G<;>simp[*]) h5.fr (λz G=>by
   rw[xH] at G;rcases zD.1 G with G|G;exact (nk z G).1;exact (ni z G).1)
 rw[yA aG] at this;exact this
def qvL(h:fj b)(I:2<=b.length):bits .or .i64 (wrap .i64 (wrap .i64 (b.getD 0 0)*2^8)) (wrap .i64 (b.getD 1 0))=(gu b:Int)/\gu b<=65535:=by have E:=h _ (yF (getD_some (n:=0) oL));have G:0<=b.getD 1 0/\b.getD 1 0<256:=h _ (yF (getD_some (l:=b) (n:=1) oL));unfold gu;generalize b.getD 0 0=x at E⊢;generalize b.getD 1 0=y at G⊢;rw[gJ x oL,gJ y oL,gJ (x*2^8) oL,quU 8 oL oL oL oL oL];omega
def qpl(h:(eG k v).1≠0):1<=k/\k<=24/\v<=108:=by unfold eG at h;split at h;exact absurd rfl h;omega
def qCK(h:(eG k v).1=0\/b.length<2\/b.length>500):jE kind b k v=(jx,2):=by unfold jE;rw[iP h]
def qAI(h:¬((eG k v).1=0\/b.length<2\/b.length>500)):jE 3 b k v=if (b.drop 2).length=gu b*(k+v)/\gp (pI k v b) k v then (pI k v b,0) else (jx,2):=by unfold jE;rw[iN h];by_cases h2:(b.drop 2).length=gu b*(k+v)/\gp (pI k v b) k v;rw[iP ⟨rfl,h2⟩,iP h2];rw[iN λh=>h2 h.2,iN h2,iN λh=>absurd h.1 oO]
def qyt(h:¬((eG k v).1=0\/b.length<2\/b.length>500)):jE 4 b k v=if (1<=gu b/\(b.drop 2).length=gu b*4+(gu b-1)*k)/\gp (m4 k b) k v then (m4 k b,0) else (jx,2):=by unfold jE;rw[iN h,iN λh=>absurd h.1 oO];by_cases h2:(1<=gu b/\(b.drop 2).length=gu b*4+(gu b-1)*k)/\gp (m4 k b) k v;rw[iP ⟨rfl,h2.1.1,h2.1.2,h2.2⟩,iP h2];rw[iN λh=>h2 ⟨⟨h.2.1,h.2.2.1⟩,h.2.2.2⟩,iN h2]
def qAH(E:kind≠3)(G:kind≠4):jE kind b k v=(jx,2):=by unfold jE;split;rfl;rw[iN λh=>E h.1,iN λh=>G h.1]
def Lh{K:mp×Int->WP}(hb:eY [] w s b)(hB:fj b)(kk:∀x B w',gc (List.range w.z++B) w' x (jE kind b k v).1 B->Fr [] w w'->(∀c∈B,w.z<=c)->K (x,(jE kind b k v).2) w'): cW 78 [.b kind,s.v,.i k,.i v] [.agg eI,.one .i] w K:=by
 refine quP ?_;have ai:=hb.1;refine oD (oG [] w) λr1 w1 e1 f1 h=>Ls λw4 f4=>?_;have h:=h.q9 f4;refine jd (λd w'=>d=decide ((eG k v).1=0\/b.length<2\/b.length>500)/\w'=w4) ?_ ?_;refine eF (λc1=>⟨?_,rfl⟩) λc1=>eF (λc2=>⟨?_,rfl⟩) λc2=>⟨?_,rfl⟩;have c1:=yP.1 c1;exact FF (.inl oL);have c2:=zC c2;exact FF (.inr (.inl oL));have c1:=zR.1 c1;have c2:=zB c2;rw[LR,yN,yN];constructor;intro h;exact .inr (.inr oL);rintro (h|h|h);omega;omega;omega;rintro d aI ⟨rfl,rfl⟩;have av:∀ {w'},jE kind b k v=(jx,2)->dY [] w w' [(r1,.c (fB gG) ND)]->
   st (dh r1) ([Value.bool false,Value.slice none 0 0,Value.slice none 0 0,Value.slice none 0 0]) w' λaw=>dP (eI) (dh r1) aw λaJ=>K ((aJ,2)) aw:=λhe h=>by
  refine oF h 0 rfl (fB gG) λw2 h f2=>Mj h 0 gG ?_;have:=kk gG [] w2 (by rw[he];exact .zero _ _) h.fr (λ_ h=>nomatch h);rw[he] at this;exact this
 refine eF (λE=>av (qCK (zC E)) h) λE=>?_;have ab:=zB E;have ax:(eG k v).1≠0:=λe=>ab (.inl e);have h2:2<=b.length/\b.length<=500:=by refine⟨?_,?_⟩;exact Nat.not_lt.1 λe=>ab (.inr (.inl e));exact Nat.not_lt.1 λe=>ab (.inr (.inr e))
 obtain⟨aZ,a0,a1⟩:=qpl ax;obtain⟨ay,a2⟩:=qvL hB h2.1;have az:=(hb.q9 h.fr).q9 (Fr.refl [] aI).drew;refine eY.at az 0 rfl (getD_some oL)<|eY.at az 1 rfl (getD_some oL) ?_;rw[ay];have h:=h.drew;refine oD h λag ak a3 a4 h=>?_;have aA:=gg (h.at (i:=0) rfl);have aL:=gg (h.at (i:=1) rfl);have aj:=hb.q9 h.fr;have aB:=h.fr.size;refine jd (λU w'=>∃x B n,dY [] w w' [(ag,.c (fB x) ND),(r1,.c (fB gG) ND)]/\gc (List.range ak.z++B) w' x n B/\(∀c∈B,ak.z<=c)/\
   U=decide ((kind=3/\(b.drop 2).length=gu b*(k+v))\/(kind=4/\1<=gu b/\(b.drop 2).length=gu b*4+(gu b-1)*k))/\
   (U=true->n=if kind=3 then pI k v b else m4 k b)) ?_ ?_
 refine eF (λc3=>?_) λc3=>eF (λc4=>?_) λc4=>?_;have c3:=yP.1 c3;refine eT.part aj 2 b.length rfl (by rw[xU,ai]) h2.1 (zM _) λaM _ J _=>?_;rw[xY] at J;refine qDZ J (hB.drop 2) (by rw[yC];omega) oL oL oL λx B n aN hn hN ao O=>?_;have ap:=h.q9 ao;refine oF ap 0 rfl (fB x) λaO aq ar=>?_;have ac:∀c∈B,c∉[ag]:=λc E hm=>by have:=O c E;rw[zE.1 hm] at this;omega
 refine⟨x,B,n,aq,hN.j0 ar ac (λc E=>.inl (by rw[zE.1 E];simp[aA])) λc E=>.inl E,O,?_,λG=>?_⟩;rw[LR,yN,yN];constructor;intro V;exact .inl ⟨c3,V⟩;rintro (V|V);exact V.2;have:=V.1;omega;rw[iP c3];exact hn (zC G);have c3:=zR.1 c3;have c4:=yP.1 c4;refine eT.part aj 2 b.length rfl (by rw[xU,ai]) h2.1 (zM _) λaM _ J _=>?_;rw[xY] at J;refine qz2 J (hB.drop 2) (by rw[yC];omega) oL oL λx B n aN hn hN ao O=>?_;have ap:=h.q9 ao;refine oF ap 0 rfl (fB x) λaO aq ar=>?_;have ac:∀c∈B,c∉[ag]:=λc E hm=>by have:=O c E;rw[zE.1 hm] at this;omega
 refine⟨x,B,n,aq,hN.j0 ar ac (λc E=>.inl (by rw[zE.1 E];simp[aA])) λc E=>.inl E,O,?_,λG=>?_⟩;rw[LR,yN,yN];constructor;intro V;exact .inr ⟨c4,V⟩;rintro (V|V);exact absurd V.1 c3;exact V.2;rw[iN c3];exact hn (zC G);have c3:=zR.1 c3;have c4:=zR.1 c4;refine⟨gG,[],jx,h,.zero _ _,λ_ h=>(nomatch h),?_,λG=>nomatch G⟩;rw[zU];rintro (V|V);exact c3 V.1;exact c4 V.1;rintro U aP ⟨x,B,n,h,hN,O,ad,hn⟩;have aD:U=true->n.J6.length<=1000000/\n.Q0.length<=1000000/\n.J9.length<=1000000:=λG=>by
  rw[hn G];split;have:=HB (k:=k) (v:=v) (gu b) (b.drop 2);unfold pI;rw[this.1,this.2];simp;omega;unfold m4;rw[JM,JU];simp;omega
 refine jd (λd w'=>d = !(U&&decide (gp n k v))/\dY [] w w' [(ag,.c (fB x) ND),(r1,.c (fB gG) ND)]/\gc (List.range ak.z++B) w' x n B) ?_ ?_;apply eF<;>intro c1;have c1:U=false:=(oS c1);exact⟨by rw[c1];rfl,h,hN⟩;have c1:U=true:=(oS c1);obtain⟨q1,q2,q3⟩:=aD c1;refine Mj h 0 x ?_;have aQ:fe [] aP x n:=hN.rd (λ_ _ h=>(nomatch h)) λ_ h=>nomatch h;exact qtV aQ q1 q2 q3 λa8 aE=>⟨by rw[c1,Bool.true_and],h.q9 aE,hN.q9 aE⟩;rintro d a9 ⟨rfl,h,hN⟩;have I:jE kind b k v=if (U&&decide (gp n k v))=true then (n,0) else (jx,2):=by
  by_cases k3:kind=3;subst k3;rw[qAI ab];have e:U=decide ((b.drop 2).length=gu b*(k+v)):=(by rw[ad];exact decide_eq_decide.2 ⟨λh=>h.elim (·.2) λh=>absurd h.1 oO,λh=>.inl ⟨rfl,h⟩⟩);by_cases G:U=true;have ae:=hn G;rw[iP rfl] at ae;rw[ae,G,Bool.true_and];have hl:(b.drop 2).length=gu b*(k+v):=zC (e▸G);by_cases hr:gp (pI k v b) k v;rw[iP ⟨hl,hr⟩,iP (yA hr)];rw[iN λh=>hr h.2,iN (by rw[zU hr];decide)];have af:U=false:=(oS G);rw[af,Bool.false_and,iN (show ¬(false=true) by decide)];have hl:¬(b.drop 2).length=gu b*(k+v):=zB (e▸af);rw[iN λh=>hl h.1];by_cases k4:kind=4;subst k4;rw[qyt ab];have e:U=decide (1<=gu b/\(b.drop 2).length=gu b*4+(gu b-1)*k):=(by rw[ad];exact decide_eq_decide.2 ⟨λh=>h.elim (λh=>absurd h.1 oO) (·.2),λh=>.inr ⟨rfl,h⟩⟩);by_cases G:U=true;have ae:=hn G;rw[iN k3] at ae;rw[ae,G,Bool.true_and];have hl:=zC (e▸G);by_cases hr:gp (m4 k b) k v;rw[iP ⟨hl,hr⟩,iP (yA hr)];rw[iN λh=>hr h.2,iN (by rw[zU hr];decide)];have af:U=false:=(oS G);rw[af,Bool.false_and,iN (show ¬(false=true) by decide)];have hl:=zB (e▸af);rw[iN λh=>hl h.1];rw[qAH k3 k4];have G:U=false:=by rw[ad,zU];rintro (h|h);exact k3 h.1;exact k4 h.1
  rw[G,Bool.false_and,iN (show ¬(false=true) by decide)]
 have aR:∀c∈B,c∉[r1]:=λc E hm=>by have:=O c E;rw[zE.1 hm] at this;omega
 apply eF<;>intro c1;refine av ?_ (h.sub (L5 _ _));rw[I,iN (by rw[zT] at c1;rw[c1];decide)];rw[yE] at c1;refine Mj h 0 x<|oF h 1 rfl (fB x) λaT aF aU=>Mj aF 1 x ?_;rw[iP c1] at I
 have:=kk x B aT (by rw[I];exact (hN.j0 aU aR (λc E=>.inl (by rw[zE.1 E];simp[aL])) λc E=>.inl E).j6 λc E=>.inl (by rcases zD.1 E with E|E;exact zH _ (mem_range.2 (yD (mem_range.1 E) aB));exact zI _ E)) aF.fr (λc E=>zL aB (O c E));rw[I] at this;exact this
def zo{cl:List Cell}{b off:Nat}{T:Mf}{h:Mu}{K:HL cl->Prop}(E:w.heap[b]?=some (.cells cs T h))(x:HL cl)(G:(cs.toList.drop off).take cl.length=HL.mk cl x)(k:K x):Pt.dP cl (dh b off) w K:=by unfold dP;exact⟨x,Aj E _ off 0 (by rw[HL.j3];exact G),k⟩
def qA.zq{Q2:Ml}(h:qA w X pb db M fb defb mb sl sn F1 F2 G)(I:Q2.length=24)(J:w'.heap[pb]?=some (.c (gA db M.j9 sl sn M.x6 M.Q3 fb defb mb Q2) v6))(f:Fr [pb] w w'):qA w' X pb db { M with Q2:=Q2 } fb defb mb sl sn F1 F2 G where
 cell:=J
 Q1:=h.Q1.j0 f λb E=>by simpa using (h.sep.2.1 b E).1
 J7:=h.J7.j0 f λb E=>by simpa using (h.sep.2.2 b E).1
 map:=h.map.j0 f (by simpa using λe=>h.sep.1 e.symm)
 J8:=h.J8
 rows:=h.rows.j0 (f.mono λi O _=>by rw[zE.1 O];simp) λb E=>.inl E
 rN:=λb E=>yD (h.rN b E) f.size
 oW:=h.oW
 sep:=h.sep
 Q8:=h.Q8
 x7:=I
def qyo{j9:rH}{x6:Int}{Q3:Bool}{Q2:Ml}(I:j9.2.length=27)(U:Q2.length=24){t:Nat}(V:t<8){h r1 E:Int}: d7 (gA db j9 sl sn x6 Q3 fb defb mb Q2) (36+3*t) [.u h,.u r1,.u E]=gA db j9 sl sn x6 Q3 fb defb mb (Q2.take (3*t)++[h,r1,E]++Q2.drop (3*t+3)):=by
 have G:Q2=Q2.take (3*t)++(Q2.drop (3*t)).take 3++Q2.drop (3*t+3):=by rw[zV,<- xC,xD,xD]
 have:=wM (A:=(.pointer db::gh j9.1 j9.2)++qc sl sn x6 Q3 fb defb mb++(Q2.take (3*t)).map (Value.int .u32)) (X:=((Q2.drop (3*t)).take 3).map (Value.int .u32)) (Y:=[.u h,.u r1,.u E]) (Z:=(Q2.drop (3*t+3)).map (Value.int .u32)) (by rw[zK,yL,yC];show min 3 _=3;omega);have J:((.pointer db::gh j9.1 j9.2)++qc sl sn x6 Q3 fb defb mb++(Q2.take (3*t)).map (Value.int .u32)).length=36+3*t:=(by rw[zF,zF,vv I,zK,yL];show 29+7+_=_;omega);rw[J] at this;unfold gA;have O:Q2.map (Value.int .u32)=(Q2.take (3*t)).map (Value.int .u32)++((Q2.drop (3*t)).take 3).map (Value.int .u32)++(Q2.drop (3*t+3)).map (Value.int .u32):=(by rw[<- xL,<- xL,<- G]);rw[O];simp only[xL,xM,map_nil];simp only[zV] at this⊢;exact this
variable {K:Int->WP} {t c:Int} {F FD Y F':Mk} {dbk:Nat} {P body:Ml} {q:eU}
def qvF{G r1 I:Int}(h:fY w X pb db F M)(hk:∀w',fY w' X pb db F (fQ M t G r1 I).2->Fr F w w'->K (fQ M t G r1 I).1 w'): cW 206 [dM pb,.i t,.agg #[.u G,.u r1,.u I]] dj w K:=by
 have h0:=h;obtain⟨fb,defb,mb,sl,sn,F1,F2,fs,rfl,O⟩:=h;refine qhz ?_;have J:∀ {e:Int} {w':Md},fQ M t G r1 I=(e,M)->Fr [] w w'->K e w':=by
  intro e w' he hf;have:=hk w' (by rw[he];exact h0.q9 hf) (hf.mono λb U=>by cases U);rw[he] at this;exact this
 refine oD (oG [] w) λr w1 e1 f1 ho=>?_;have V:=O.q9 f1;refine fH (iH V.cell M.Q3 (BY O.Q8) ?_);refine eF (λE=>J (by rw[fQ,iP E]) f1) λE=>?_;have aa:¬M.Q3=true:=(by rw[E];decide);refine jd (λb w'=>b=decide (t<0\/t>7)/\w'=w1) ?_ ?_;refine eF (λE=>⟨by rw[yA (Or.inl (zC E))],rfl⟩) (λE=>?_);have:=zB E;refine⟨decide_eq_decide.2 ⟨λh=>.inr oL,λh=>oL⟩,rfl⟩;rintro b w2 ⟨rfl,rfl⟩;refine eF (λE=>J (by rw[fQ,iN aa,iP (zC E)]) f1) λE=>?_;have hr:=zB E;obtain⟨n,rfl⟩:∃n:Nat,t=n:=⟨t.toNat,oL⟩;have ae:n<8:=oL;have ab:fQ M n G r1 I=(0,{ M with Q2:=M.Q2.take (3*n)++[G,r1,I]++M.Q2.drop (3*n+3) }):=(by rw[fQ,iN aa,iN hr,zJ]);have af:=ho.drew;have ac:=V.q9 (Fr.refl [] w2).drew;refine Mj af 0 (G,r1,I)<|fH<|nc oL ?_;simp only[Addr.j1,zJ];refine wU ac.cell (gA db M.j9 sl sn M.x6 M.Q3 fb defb mb (M.Q2.take (3*n)++[G,r1,I]++M.Q2.drop (3*n+3))) (by show d7 _ (0+33+3+n*3) _=_;rw[show 0+33+3+n*3=36+3*n by omega];exact qyo O.Q8 O.x7 ae) rfl (by rw[JQ O.Q8,O.x7];exact zL (show 0+33+3+n*3+3<=60 by omega) (zM 60)) λw3 ag f3=>?_;have hl:(M.Q2.take (3*n)++[G,r1,I]++M.Q2.drop (3*n+3)).length=24:=by
  have:=O.x7;simp only[zF,yL,yC,yI,xJ];omega
 have:=hk w3 (by rw[ab];exact⟨fb,defb,mb,sl,sn,F1,F2,fs,rfl,ac.zq hl ag f3⟩) ((f1.drew.mono λb U=>nomatch U).trans (f3.mono λb U _=>by rw[zE.1 U];simp));rw[ab] at this;exact this
def eS (M:eU) (t:Int):Mw:=if t<0\/t>7 then (0,0,0) else (M.Q2.getD (3*t.toNat) 0,M.Q2.getD (3*t.toNat+1) 0,M.Q2.getD (3*t.toNat+2) 0)
def qBA{K:Mw->WP}(h:fY w X pb db F M)(V:∀w',Fr [] w w'->K (eS M t) w'): cW 34 [dM pb,.i t] [.agg [.u,.u,.u]] w K:=by
 obtain⟨fb,defb,mb,sl,sn,F1,F2,fs,rfl,J⟩:=h;refine qkz<|oD (oG [] w) λr w1 e1 f1 ho=>?_;have O:=J.q9 f1;refine jd (λb w'=>b=decide (t<0\/t>7)/\w'=w1) ?_ ?_;refine eF (λG=>⟨by rw[yA (Or.inl (zC G))],rfl⟩) (λG=>?_)
 have:=zB G;refine⟨decide_eq_decide.2 ⟨λh=>.inr oL,λh=>oL⟩,rfl⟩;rintro b w2 ⟨rfl,rfl⟩;apply cD<;>intro G;refine oF ho 0 rfl #[.u 0,.u 0,.u 0] λU E f3=>Mj E 0 (0,0,0) ?_;have:=V U E.fr;rw[eS,iP (G)] at this;exact this;have hr:=G;obtain⟨n,rfl⟩:∃n:Nat,t=n:=⟨t.toNat,oL⟩;have ae:=J.x7;refine fH<|nc oL ?_;simp only[Addr.j1,zJ];have e3:((M.Q2.map (Value.int .u32)).drop (3*n)).take 3=[.u (M.Q2.getD (3*n) 0),.u (M.Q2.getD (3*n+1) 0),.u (M.Q2.getD (3*n+2) 0)]:=by rw[zX (by rw[zK];omega),zX (by rw[zK];omega),zX (by rw[zK];omega)];simp only[take_succ_cons,take_zero,getElem_map];rw[getElem_eq_getD 0,getElem_eq_getD 0,getElem_eq_getD 0]
 refine zo O.cell (M.Q2.getD (3*n) 0,M.Q2.getD (3*n+1) 0,M.Q2.getD (3*n+2) 0) ?_ ?_;have hd:=qCD (db:=db) (sl:=sl) (sn:=sn) (x6:=M.x6) (Q3:=M.Q3) (fb:=fb) (defb:=defb) (mb:=mb) J.Q8 J.x7;have I:(gA db M.j9 sl sn M.x6 M.Q3 fb defb mb M.Q2).toList.drop 36=M.Q2.map (Value.int .u32):=by
  rw[<- hd,zS];have:=JQ (db:=db) (sl:=sl) (sn:=sn) (x6:=M.x6) (Q3:=M.Q3) (fb:=fb) (defb:=defb) (mb:=mb) (Q2:=M.Q2) J.Q8;rw[yC,Mc];omega
 rw[show 0+33+3+n*3=36+3*n by omega,<- xC,I];exact e3;refine oF ho 0 rfl #[.u (M.Q2.getD (3*n) 0),.u (M.Q2.getD (3*n+1) 0),.u (M.Q2.getD (3*n+2) 0)] λU E f3=>Mj E 0 (M.Q2.getD (3*n) 0,M.Q2.getD (3*n+1) 0,M.Q2.getD (3*n+2) 0) ?_;have:=V U E.fr;rw[eS,iN hr,zJ] at this;exact this
def qza{n:Int}{K:Mx->WP}(ad:fO w dbk FD D)(aa:oV D k)(ab:fY w X pb (uQ dbk M) F M)(hv:Hv w)(hn:jf n)(hl:M.Q5.length<=1000000)(hb:∀e∈M.J8,e.2.2.length<=100000)(hk:∀s w',(∀G:Mk,(∀b∈G,b<w.z)->eY G w' s (dO D M n).2.1)->Fr [] w w'->K ((dO D M n).1,s,(dO D M n).2.2) w'): cW 77 [dM pb,.u n] du w K:=by
 have ae:=ab;obtain⟨fb,defb,mb,sl,sn,F1,F2,fs,rfl,hx⟩:=ab;refine qkx ?_;have af:∀ {a:Int} {e:Int} {w':Md},dO D M n=(a,[],e)->Fr [] w w'->K (a,dN,e) w':=λhe f=>by
  have:=hk dN _ (λG hG=>by rw[he];exact .nil _ _ _ _) f;rw[he] at this;exact this
 refine fH (iH hx.cell M.Q3 (BY hx.Q8) ?_);refine eF (λJ=>af (by rw[dO,iP J]) (.refl _ _)) λJ=>?_;have O:¬M.Q3=true:=(by rw[J];decide);have ar:uQ dbk M=pW dbk:=iN O;refine fH ?_;simp only[Addr.j1];refine iH hx.cell (some mb) (AD hx.Q8) ?_;have h:look n M.J8=(look n fs).map λq=>(q.1,q.2.1,q.2.2.2):=(by rw[hx.J8];exact CA (λe:mh=>(e.1,e.2.2)) n fs);refine Gw hx.map.at (λq hq=>?_) λhq=>?_;rw[hq] at h;have h:look n M.J8=some (q.1,q.2.1,q.2.2.2):=h;refine oD (oG [] w) λr w1 e1 f1 ho=>oF ho 0 rfl #[.b q.2.1,q.2.2.1.v] λw2 V f2=>?_;have U:=V.drew;refine y_<|Mi U 0 q.2.1<|Mi U 0 q.2.2.1 ?_;have av:=(ya hq).2;have aw:=hx.rows.y9 _ av;have ai:=(ya h).2;refine Dd (aw.q9 U.fr) (zL (hb _ ai) oO) λs2 B2 w3 b2 f3 n2 _ _=>?_;have aj:=U.q9 f3;refine gY (aj.cell 0) ?_;have E:dO D M n=(q.2.1,q.2.2.2,0):=by rw[dO,iN O,h]
 have:=hk s2 w3 (λG hG=>by rw[E];exact eZ.ju mW b2 λb hb hm=>by have:=n2 b hb;have:=hG b hm;have:=U.fr.size;omega) aj.fr;rw[E] at this;exact this;rw[hq] at h;have h:look n M.J8=none:=h;refine oD (oG [] w) λr w1 e1 f1 ho=>oF ho 0 rfl #[.b 0,.slice none 0 0] λw2 V f2=>x_<|qtU (ae.q9 V.fr) hl λw3 f3=>?_;have I:=V.fr.trans f3;have ak:=hx.q9 I;apply eF<;>intro J;have hu:iu M n=false:=(oS J);exact af (by rw[dO,iN O,h];exact iP hu) I;have hu:¬iu M n=false:=(oS J);rw[ar] at ak;refine fH (iH ak.cell (pW dbk) qFX ?_);rw[gJ n (by have:=hn.1;have:=hn.2;omega)];refine Hk (ad.q9 I) aa.ok λs5 B5 w5 b5 f5 n5=>?_;apply eF<;>intro J;have he:(eW D n).2≠0:=(oS J);exact af (by rw[dO,iN O,h];exact (iN hu).trans (iP he)) (I.trans f5);have he:¬(eW D n).2≠0:=(oS J);have az:=BL aa.ok n;refine KV (b5.ju mW (S:=[]) oN) (hv.q9 (I.trans f5)) az.1 oL λs6 B6 w6 b6 f6 n6=>?_;have E:dO D M n=fX n (eW D n).1:=by rw[dO,iN O,h];exact (iN hu).trans (iN he)
 have:=hk s6 w6 (λG hG=>by rw[E];exact eZ.ju mW b6 λb hb hm=>by have:=n6 b hb;have:=hG b hm;have:=(I.trans f5).size;omega) ((I.trans f5).trans f6);rw[E] at this;exact this
def oV.new{n:Nat}(h:n<=4096):oV (qb n) 0:=⟨qEa h,by simp[qb],by simp[qb]⟩
def xe (n:Nat):Ml:=(gy n).take (gM (gy n).length)
def qy (n:Nat):Ml:=(gy n).drop (gM (gy n).length)
def ng (n:Nat):eU:=mg (mZ n) (xe n) (qy n) 1 false (qy n)
def qD5{n:Nat}(h:8<=n)(E:n<=4096):(ng n).Wf:=by have e:(mZ n).2.getD 0 0=n:=(by show wrap .u32 (n:Int)=_;exact qj _ oL);exact qBU (by rw[e];exact qpG) (by rw[e];omega) (KM h E).u32
structure Made (D:dQ) (n:Nat):Prop where
 quiet:fK D
 size:D.size=n
 Q7:D.Q7=[]
 opens:rY D (mZ n) (xe n) (qy n)
 fmt:nP (qb n)=(D,0)
 zero:view D 0=zs 512
def mF (t:Int) (s:Mo×eU) (E h:Int):Int×eU:=if s.1.2≠0 then (s.1.2,s.2) else fQ s.2 t s.1.1 E h
noncomputable def vK (k v:Nat) (t:Int) (r:Mw) (x:(Grown×Int)×eU):Int×eU:=
 if x.1.2≠0 then (x.1.2,x.2)
 else if x.1.1.x4≠0 then mF t (ee k v x.2 0 ⟨false,[x.1.1.key],[],[x.1.1.x5,x.1.1.x4]⟩) (if x.1.1.J8 then wrap .u32 (r.2.1+1) else r.2.1) (wrap .u32 (r.2.2+1))
 else fQ x.2 t x.1.1.x5 (if x.1.1.J8 then wrap .u32 (r.2.1+1) else r.2.1) r.2.2
noncomputable def lF (D:dQ) (k v:Nat) (t:Int) (key val:Key) (f:Nat) (M:eU):Int×eU:=
 if (eS M t).1=0 then mF t (ee k v M 0 (fL [(key,val)])) 1 1 else vK k v t (eS M t) (jg D k v key val f M (eS M t).1)
noncomputable def pw (k v:Nat) (t:Int) (r:Mw) (x:(dX×Int)×eU):Int×eU:=
 if x.1.2≠0 then (x.1.2,x.2)
 else if x.1.1.Q4=true/\x.1.1.J6.length=0 then (if (gf x.2 r.1).1≠0 then ((gf x.2 r.1).1,(gf x.2 r.1).2) else fQ (gf x.2 r.1).2 t 0 0 0)
 else if x.1.1.Q4=false/\x.1.1.J9.length=1 then (if (gf x.2 r.1).1≠0 then ((gf x.2 r.1).1,(gf x.2 r.1).2) else fQ (gf x.2 r.1).2 t (x.1.1.J9.getD 0 0) (wrap .u32 (r.2.1-1)) (wrap .u32 (r.2.2-1)))
 else mF t (ee k v x.2 r.1 x.1.1) (wrap .u32 (r.2.1-1)) r.2.2
noncomputable def mO (D:dQ) (k v:Nat) (t:Int) (key:Key) (f:Nat) (M:eU):Int×eU:=pw k v t (eS M t) (jk D k v key f M (eS M t).1)
def gK (D:dQ) (M:eU) (k v:Nat) (t:Int) (L:iF) (P:Ml):Prop:=
 (eS M t=(0,0,0)/\L=[]/\P=[])\/∃h n p,p≠0/\eS M t=(p,(L.length:Int),((h+1:Nat):Int))/\Has D M k v h ⟨p,n,L,P⟩
structure qu (D:dQ) (M M':eU) (t:Int) (P P':Ml):Prop where
 step:Step D M { M' with Q2:=M.Q2 } P P'
 wf:M'.Wf
 len:M'.Q2.length=24
 others:∀ t':Int,t'≠t->eS M' t'=eS M t'
def qCO{a b:Int}(U:0<=t/\t<8)(I:M.Q3=false)(V:M.Q2.length=24):∃R,fQ M t a b c=(0,{ M with Q2:=R })/\R.length=24/\eS { M with Q2:=R } t=(a,b,c)/\(∀G:Int,G≠t->eS { M with Q2:=R } G=eS M G)/\∀x∈R,x∈M.Q2\/x=a\/x=b\/x=c:=by
 obtain⟨n,rfl⟩:∃n:Nat,t=n:=⟨t.toNat,oL⟩;have e:fQ M n a b c=(0,{ M with Q2:=M.Q2.take (3*n)++[a,b,c]++M.Q2.drop (3*n+3) }):=by rw[fQ,iN (by rw[I];decide),iN,zJ]
 have J:(M.Q2.take (3*n)).length=3*n:=(by rw[yL];omega);have h:∀i,(M.Q2.take (3*n)++[a,b,c]++M.Q2.drop (3*n+3)).getD i 0=if i=3*n then a else if i=3*n+1 then b else if i=3*n+2 then c else M.Q2.getD i 0:=λi=>by rw[zV,yR];by_cases h1:i<3*n;rw[yZ oL,xB,iP h1,iN,iN,iN,yR];rw[yY oL,J];by_cases h2:i=3*n;rw[iP h2,h2,Nat.sub_self];rfl;rw[iN h2];by_cases h3:i=3*n+1;rw[iP h3,h3,show 3*n+1-3*n=1 by omega];rfl;rw[iN h3];by_cases h4:i=3*n+2;rw[iP h4,h4,show 3*n+2-3*n=2 by omega];rfl;rw[iN h4,yY oQ,xA,yR];congr 2;simp;omega
 refine⟨_,e,?_,?_,λG O=>?_,λx E=>?_⟩;simp only[zF,yL,yC,yI,xJ];omega;rw[eS,iN,zJ];rw[h,h,h,iP rfl,iN,iP rfl,iN,iN,iP rfl];unfold eS;by_cases hr':G<0\/G>7;rw[iP hr',iP hr'];rw[iN hr',iN hr'];rw[h,h,h,iN,iN,iN,iN,iN,iN,iN,iN,iN];rcases zD.1 E with E|E;rcases zD.1 E with E|E;exact .inl (yV E);simp only[zG,xW,or_false] at E;exact .inr E;exact .inl (yU E)
def qvx(h:M.Wf)(E:∀x∈R,jf x):({ M with Q2:=R }:eU).Wf:=⟨h.n4,h.u32,E,h.cP,h.Q9,h.cX,h.uC,h.nodup,h.range,h.body⟩
def Has.Q2{s:jF}(E:Has D M k v h s):Has D { M with Q2:=R } k v h s:=E.j0 λx _=>rfl
def Step.J5{P':Ml}{a b:Int}(I:0<=t/\t<8)(J:M.Q2.length=24)(h:Step D M M' P P')(O:jf a)(U:jf b)(V:jf c): ∃R,fQ M' t a b c=(0,{ M' with Q2:=R })/\qu D M { M' with Q2:=R } t P P'/\eS { M' with Q2:=R } t=(a,b,c):=by obtain⟨R,e,hl,h1,h2,h3⟩:=qCO I h.Q3 (by rw[h.Q2];exact J);refine⟨R,e,⟨?_,qvx h.wf λx hx=>?_,hl,λt' G=>?_⟩,h1⟩;have e':({ M' with Q2:=M.Q2 }:eU)=M':=(by rw[<- h.Q2]);show Step D M { M' with Q2:=M.Q2 } P P';rw[e'];exact h;rcases h3 x hx with E|E|E|E;exact h.wf.Q2 x E;rw[E];exact O;rw[E];exact U;rw[E];exact V;rw[h2 t' G];unfold eS;rw[h.Q2]
def Has.counts:∀ {h:Nat} {s:jF},Has D M k v h s->h+1<=s.y5.length/\s.y6.length+1<=2*s.y5.length
 | 0,s,G=>by have O:=length_pos_iff.2 G.ne;rw[G.1];simp;omega
 | h+1,s,⟨I,h0,O,U,V,h4,h5,h6,h7⟩=>by
  have h8:=h4.right.x9.1;rw[U,V];have key:∀l:List lI,(∀e∈l,Has D M k v h e.2)->l.length*(h+1)<=(l.flatMap (·.2.y5)).length/\(l.flatMap (·.2.y6)).length+l.length<=2*(l.flatMap (·.2.y5)).length:=by
   intro l;induction l with
   | nil=>intro _;exact⟨oN,oN⟩
   | cons a l ih=>
    intro J;have i:=ih λe E=>J e (zN _ E);have j:=(J a oN).counts;rw[yH,yH,zF,zF,yI,xS];omega
  have:=key I λe E=>(h7 e E).1;have h9:2*(h+1)<=I.length*(h+1):=L0 _ h8;rw[yI];omega
def qz8(hc:jh k v)(ht:0<=t/\t<8)(hk:key.length=k/\fj key)(hv:val.length=v/\fj val)(hT:gK D M k v t L P)(hW:M.Wf)(ho:M.Q3=false)(hr:M.Q2.length=24)(hn:P.Nodup)(hL:L.length<=1000000)(hf:2*(eS M t).2.2.toNat+1<=M.Q1.length): ∃M' P',lF D k v t key val (eS M t).2.2.toNat M=(0,M')/\gK D M' k v t (gF key val L) P'/\qu D M M' t P P'/\M.Q1.length<=M'.Q1.length+(2*(eS M t).2.2.toNat+1):=by
 have a2:=Fw (k:=k) (v:=v);rcases hT with ⟨e0,rfl,rfl⟩|⟨h,n,p,aN,er,hs⟩;unfold lF;rw[e0,iP rfl];have aO:pg k v [(key,val)]:=λx hx=>by rw[zE.1 hx];exact⟨hk.1,hv.1,hk.2,hv.2⟩
 have hN:=EB aO (pairwise_singleton _ _) oN (by have:=hc.Q4;simp;omega);obtain⟨q,M1,e1,st,ad,hl,ae⟩:=JX (D:=D) hW ho hN (λe=>by rw[e] at hf;simp at hf);have hu:=st.has q oN;have hq:=Be st.wf hu;obtain⟨R,e2,rs,G⟩:=st.J5 (b:=1) (c:=1) ht hr ⟨oL,hq.2⟩ ⟨oO,oO⟩ ⟨oO,oO⟩;refine⟨{ M1 with Q2:=R },[q],?_,.inr ⟨0,1,q,ae,G,?_⟩,rs,by show M.Q1.length<=M1.Q1.length+_;omega⟩;unfold mF;rw[e1];rw[iN λh=>h rfl,e2];have:=Ea hN ad;exact this.Q2;rw[er] at hf;have ao:(((h+1:Nat):Int)).toNat=h+1:=zJ _;rw[ao] at hf;have ap:=hs.counts;dsimp only at ap;obtain⟨g,M1,eg,ok⟩:=qxf hc hk hv h M ⟨p,n,L,P⟩ hs hW ho hn (by
  have h9:=hs.load;obtain⟨N,R,_,hN,_⟩:=h9;show n<=1000;cases h with|zero=>have:=hN.2.2.2.2.2;dsimp only at this;omega|succ h=>obtain⟨_,_,_,_,_,_,_,_,h8,_⟩:=hN;dsimp only at h8;omega) oL
 have aq:=ok.Q1;have U:=ok.J8;have E:((gF key val L).length:Int)=if g.J8 then wrap .u32 ((L.length:Int)+1) else (L.length:Int):=by rw[U];by_cases hm:key∈eE L;rw[zU λh=>h hm,iN oO,HO hs.sort hm];rw[yA hm,iP rfl,HM hm,qj _ oL];omega
 have ar:jf (if g.J8 then wrap .u32 ((L.length:Int)+1) else (L.length:Int)):=by
  rw[<- E];have h1:(gF key val L).length<=L.length+1:=by by_cases hm:key∈eE L;rw[HO (show gq L from hs.sort) hm];omega;rw[HM hm];exact zM _
  exact⟨oL,oL⟩
 unfold lF;rw[er,iN (show ¬p=0 from aN)];rw[ao,eg];unfold vK;rw[iN λh=>h rfl];rcases ok.GH with ⟨ag,n',P',hH,st,_⟩|⟨ag,n1,L1,J,n2,L2,I,au,av,aw,aU,aV,ax,ay,aW,aX,st⟩;rw[iN λh=>h ag];have hu:=hH.J4 st.Q3 g.x5 hH.mem;have hq:=Be st.wf hu;obtain⟨R,e2,rs,G⟩:=st.J5 (c:=((h+1:Nat):Int)) ht hr ⟨oL,hq.2⟩ ar ⟨oL,oL⟩;rw[<- E] at G e2;refine⟨{ M1 with Q2:=R },P',?_,.inr ⟨h,n',g.x5,oL,G,hH.Q2⟩,rs,by show M.Q1.length<=M1.Q1.length+_;omega⟩;rw[<- E];exact e2;rw[iP ag];have az:=au.ne;have aA:=av.ne;have ac:gI [([],(⟨g.x5,n1,L1,J⟩:jF)),(g.key,⟨g.x4,n2,L2,I⟩)]:=
  (gI.CC (A:=[]) (s:=⟨0,0,L1++L2,[]⟩) (IS λx _=>ES _) rfl aU aV az aA)
 have hp:∀e∈[([],(⟨g.x5,n1,L1,J⟩:jF)),(g.key,⟨g.x4,n2,L2,I⟩)],Has D M1 k v h e.2/\minOf k v h<=e.2.size:=λe O=>by simp only[zG,xW,or_false] at O;rcases O with rfl|rfl;exact⟨au,aW⟩;exact⟨av,aX⟩
 have aY:iw k [([],(⟨g.x5,n1,L1,J⟩:jF)),(g.key,⟨g.x4,n2,L2,I⟩)]:=λe O=>by rw[zE.1 (show e∈[(g.key,(⟨g.x4,n2,L2,I⟩:jF))] from O)];exact⟨ax,ay⟩
 have hN:=Du st.wf st.Q3 aY ac oN (by have:=hc.inner;simp;omega) λe O=>(hp e O).1;obtain⟨q,M2,e1,V,ad,a8,ae⟩:=JX st.wf st.Q3 hN (λe=>by rw[e] at aq;simp at aq;omega);have aC:∀e∈[([],(⟨g.x5,n1,L1,J⟩:jF)),(g.key,⟨g.x4,n2,L2,I⟩)],Has D M2 k v h e.2/\minOf k v h<=e.2.size:=λe O=>
  ⟨(hp e O).1.j0 λx hx=>(V.rest x ((hp e O).1.J4 st.Q3 x hx) oN).1,(hp e O).2⟩
 have hI:=C9 rfl hN ad ac aC;have aD:Step D M1 M2 (J++I) (q::(J++I)):=by
  have:=V.beside st.has (oS st.nodup);exact this.perm oN perm_append_comm
 have aE:=st.trans aD;have hq:=Be V.wf (V.has q oN);obtain⟨R,e2,rs,G⟩:=aE.J5 (c:=((h+1+1:Nat):Int)) ht hr ⟨oL,hq.2⟩ ar ⟨oL,oL⟩;have e3:ee k v M1 0 ⟨false,[g.key],[],[g.x5,g.x4]⟩=((q,0),M2):=e1;have aZ:wrap .u32 ((((h+1:Nat):Int))+1)=((h+1+1:Nat):Int):=(by rw[qj _ oL];omega);rw[<- E] at G e2;refine⟨{ M2 with Q2:=R },q::(J++I),?_,.inr ⟨h+1,2,q,ae,G,?_⟩,rs,by show M.Q1.length<=M2.Q1.length+_;omega⟩;unfold mF;rw[e3,aZ,<- E];rw[iN λh=>h rfl,e2];have h9:=hI.Q2 (R:=R);have e5:[([],(⟨g.x5,n1,L1,J⟩:jF)),(g.key,⟨g.x4,n2,L2,I⟩)].flatMap (·.2.y5)=gF key val L:=(by rw[<- aw];simp);have e6:[([],(⟨g.x5,n1,L1,J⟩:jF)),(g.key,⟨g.x4,n2,L2,I⟩)].flatMap (·.2.y6)=J++I:=oN;rw[e5,e6] at h9;exact h9
def qAK(hc:jh k v)(ht:0<=t/\t<8)(hT:gK D M k v t L P)(O:key∈eE L)(hW:M.Wf)(ho:M.Q3=false)(hr:M.Q2.length=24)(hn:P.Nodup)(hL:L.length<=1000000)(hf:2*(eS M t).2.2.toNat+1<=M.Q1.length): ∃M' P',mO D k v t key (eS M t).2.2.toNat M=(0,M')/\gK D M' k v t (iG key L) P'/\qu D M M' t P P'/\M.Q1.length<=M'.Q1.length+(2*(eS M t).2.2.toNat+1):=by
 rcases hT with ⟨e0,rfl,rfl⟩|⟨h,n,p,a3,er,hs⟩;cases O;rw[er] at hf;have ar:(((h+1:Nat):Int)).toNat=h+1:=zJ _;rw[ar] at hf;have au:=hs.counts;dsimp only at au;obtain⟨N,m,M1,R,R',ec,hP,hN,st,aI,a4⟩:=IE hc h M ⟨p,n,L,P⟩ hs hW ho hn O oL;dsimp only at ec hP;subst hP;have J:=hs.sort;dsimp only at J;have aX:(iG key L).length+1=L.length:=by
  have hm:=(CO J).2 O;have hi:eh (eE L) key<L.length:=by
   have:=(zP.1 hm).1;simpa using this
  rw[qpy J O,zF,yL,yC];omega
 have aJ:wrap .u32 ((L.length:Int)-1)=((iG key L).length:Int):=(by rw[qj _ oL];omega);have aj:jf ((iG key L).length:Int):=⟨oL,oL⟩;have ak:=hs.J4 ho p oN;have av:=(nodup_cons.1 hn).1;have U:=(st.rest p ak av).2.1;have V:=(st.rest p ak av).2.2;have al:=st.beside (λx hx=>by rw[zE.1 hx];exact ak) (oS hn);unfold mO;rw[er];rw[ar,ec];unfold pw;rw[iN λh=>h rfl,aJ];have ah:∀ {a b c:Int},jf a->jf b->jf c->∃G RR,gf M1 p=(0,G)/\fQ G t a b c=(0,{ G with Q2:=RR })/\qu D M { G with Q2:=RR } t (p::R) R'/\eS { G with Q2:=RR } t=(a,b,c)/\M1.Q1.length<=G.Q1.length/\∀x∈R',dO D G x=dO D M1 x:=λha hb aK=>by
  obtain⟨G,e2,E,ab⟩:=qrX (D:=D) st.wf st.Q3 U;have h9:=E.beside (λx hx=>st.has x hx) (by
   have:=al.nodup;exact (LN p R').nodup_iff.2 this)
  rw[xG] at h9;have h8:=(al.perm (.refl _) (LN p R').symm).trans h9;obtain⟨RR,e3,rs,I⟩:=h8.J5 ht hr ha hb aK;exact⟨G,RR,e2,e3,rs,I,ab,λx hx=>(E.rest x (st.has x hx) λhm=>V (by rw[<- zE.1 hm];exact hx)).1⟩
 cases h with
 | zero=>
  have an:=hN;have aL:=(List.cons.inj (show p::R=[p] from hs.1)).2;subst aL;obtain⟨rfl,hm,rfl,a8,aM,aw⟩:=hN;dsimp only at hm;have ac:(fL (iG key L)).J6.length=(iG key L).length:=zK _;by_cases hz:(iG key L).length=0;rw[iP ⟨rfl,by rw[ac];exact hz⟩];have ax:=LX hz;obtain⟨G,RR,e2,e3,rs,I,ab,_⟩:=ah (a:=0) (b:=0) (c:=0) ⟨oO,oO⟩ ⟨oO,oO⟩ ⟨oO,oO⟩;rw[e2];rw[iN λh=>h rfl,e3];exact⟨_,[],rfl,.inl ⟨I,ax,rfl⟩,rs,by show M.Q1.length<=G.Q1.length+_;omega⟩;rw[iN (λh=>hz (by rw[<- ac];exact h.2)),iN λh=>nomatch h.1];obtain⟨q,G,e2,E,H2,ab⟩:=an.store st.wf st.Q3 (show 1<=m by omega) U V oL;have ao:=al.trans E;have hq:=Be E.wf (E.has q oN);obtain⟨RR,e3,rs,I⟩:=ao.J5 (c:=((0+1:Nat):Int)) ht hr ⟨oL,hq.2⟩ aj ⟨oO,oO⟩;refine⟨{ G with Q2:=RR },[q],?_,.inr ⟨0,m,q,oL,I,H2.Q2⟩,rs,by show M.Q1.length<=G.Q1.length+_;omega⟩;unfold mF;rw[e2];rw[iN λh=>h rfl,e3]
 | succ h=>
  have an:=hN;obtain⟨es,hh,rfl,hm,aO,rfl,hk,aM,aw,hp⟩:=hN;have ac:(eK es).J9.length=es.length:=(by show (es.map _).length=_;rw[zK]);have aZ:2<=n:=by
   obtain⟨a',_,g1,_,_,g4,_⟩:=hs;have:=g4.right.x9;dsimp only at g1;omega
  dsimp only at aI;rw[iN λh=>nomatch h.1];by_cases h1:es.length=1;rw[iP ⟨rfl,by rw[ac];exact h1⟩];obtain⟨e,rfl⟩:∃e,es=[e]:=by
   match es,h1 with|[e],_=>exact⟨e,rfl⟩
  have az:(eK [e]).J9.getD 0 0=e.2.x5:=rfl;rw[az];have he:=(hp e oN).1;have hq:=Be st.wf (he.J4 st.Q3 e.2.x5 he.mem);have aQ:wrap .u32 ((((h+1+1:Nat):Int))-1)=((h+1:Nat):Int):=(by rw[qj _ oL];omega);rw[aQ];obtain⟨G,RR,e2,e3,rs,I,ab,aR⟩:=ah (c:=((h+1:Nat):Int)) ⟨oL,hq.2⟩ aj ⟨oL,oL⟩;rw[e2];rw[iN λh=>h rfl,e3];have aA:iG key L=e.2.y5:=(by rw[aO];simp);have aB:[e].flatMap (·.2.y6)=e.2.y6:=oN;refine⟨_,_,rfl,.inr ⟨h,e.2.size,e.2.x5,oL,I,?_⟩,rs,by show M.Q1.length<=G.Q1.length+_;omega⟩;rw[aA,aB];exact (he.j0 λx hx=>aR x (by rw[aB];exact hx)).Q2;rw[iN λh=>h1 (by rw[<- ac];exact h.2)];have h2:2<=m:=oL;obtain⟨q,G,e2,E,H2,ab⟩:=an.store st.wf st.Q3 (show 2<=m from h2) U V oL;have ao:=Step.kid (hs.J4 ho) hn st E;have hq:=Be E.wf (E.has q oN);obtain⟨RR,e3,rs,I⟩:=ao.J5 (c:=((h+1+1:Nat):Int)) ht hr ⟨oL,hq.2⟩ aj ⟨oL,oL⟩;refine⟨{ G with Q2:=RR },[q]++es.flatMap (·.2.y6),?_,.inr ⟨h+1,m,q,oL,I,H2.Q2⟩,rs,by show M.Q1.length<=G.Q1.length+_;omega⟩;unfold mF;rw[e2];rw[iN λh=>h rfl,e3]
def qhf(G:gK D M k v t L P):(eS M t).2.2.toNat<=L.length/\P.length<=2*L.length/\(eS M t).2.1=L.length/\0<=(eS M t).2.2:=by
 rcases G with ⟨E,rfl,rfl⟩|⟨h,n,p,J,E,I⟩;rw[E];exact⟨zM _,zM _,rfl,Int.le_refl _⟩;have:=I.counts;dsimp only at this;rw[E];dsimp only;rw[zJ];omega
def gK.sort(G:gK D M k v t L P):gq L/\pg k v L:=by rcases G with ⟨_,rfl,_⟩|⟨h,n,p,J,O,E⟩;exact⟨.nil,λx I=>nomatch I⟩;exact⟨E.sort,E.BK⟩
def qEn(h:wy t):∃k v:Nat,vj t=((k:Int),(v:Int))/\jh k v/\1<=k/\k<=24/\1<=v/\v<=108:=by obtain⟨E,G⟩:=h;have:t=0\/t=1\/t=2\/t=3\/t=4\/t=5\/t=6\/t=7:=oL;rcases this with rfl|rfl|rfl|rfl|rfl|rfl|rfl|rfl;exact⟨16,88,rfl,⟨oO,oO⟩,oO,oO,oO,oO⟩;exact⟨16,108,rfl,⟨oO,oO⟩,oO,oO,oO,oO⟩;exact⟨16,1,rfl,⟨oO,oO⟩,oO,oO,oO,oO⟩;exact⟨16,16,rfl,⟨oO,oO⟩,oO,oO,oO,oO⟩;exact⟨24,16,rfl,⟨oO,oO⟩,oO,oO,oO,oO⟩;exact⟨24,16,rfl,⟨oO,oO⟩,oO,oO,oO,oO⟩;exact⟨24,65,rfl,⟨oO,oO⟩,oO,oO,oO,oO⟩;exact⟨1,8,rfl,⟨oO,oO⟩,oO,oO,oO,oO⟩
structure CV (D:dQ) (M:eU) (k v c:Nat) (t:Int) (L:iF) (P:Ml):Prop where
 J2:gK D M k v t L P
 wf:M.Wf
 Q3:M.Q3=false
 len:M.Q2.length=24
 nodup:P.Nodup
 Q9:M.z9
 many:M.Q9.length=c
 use:∀ x,eN M x->x∈P
def qsP{n:Nat}(ht:0<=t/\t<8)(h8:8<=n)(h4:n<=4096)(V:(ng n).Wf):CV D (ng n) k v ((n-2)-gM (n-2)) t [] []:=by
 have O:(ng n).Q2=zs 24:=rfl;have E:(zs 24).length=24:=(by simp[zs]);have I:∀i,(zs 24).getD i 0=0:=λi=>by rw[yR];unfold zs;rw[List.getElem?_replicate];split<;>rfl
 refine⟨.inl ⟨?_,rfl,rfl⟩,V,rfl,by rw[O];exact E,.nil,qvI _ _ _ _ _,?_,λx G=>?_⟩;unfold eS;split;rfl;rw[O,I,I,I];show (qy n).length=_;unfold qy;rw[yC,HR];rcases G with G|G;cases G;obtain⟨h1,U,h3,J,h5,_⟩:=vt.1 G;have e:(ng n).j9.2.getD 0 0=n:=(by show wrap .u32 (n:Int)=_;exact qj _ oL);rw[e] at U;have h:=GV.2 ⟨h1,U⟩;rw[<- xD (gM (gy n).length) (gy n)] at h;rcases zD.1 h with h|h;exact absurd h h3;exact absurd h J
def Has.uP(U:4<=(eG k v).1):∀ {h:Nat} {s:jF},Has D M k v h s->minOf k v h<=s.size->s.y6.length+1<=s.y5.length
 | 0,s,I,J=>by have O:(eG k v).1 / 2<=s.size:=J;rw[I.2.1] at O;rw[I.1,xK];omega
 | h+1,s,⟨V,h0,O,h2,h3,E,h5,h6,h7⟩,J=>by
  have h8:=E.right.x9.1;rw[h2,h3];have key:∀l:List lI,(∀e∈l,Has D M k v h e.2/\minOf k v h<=e.2.size)->(l.flatMap (·.2.y6)).length+l.length<=(l.flatMap (·.2.y5)).length:=by
   intro l;induction l with
   | nil=>intro _;simp
   | cons a l ih=>
    intro G;have i:=ih λe he=>G e (zN _ he);have j:=Has.uP U (G a oN).1 (G a oN).2;rw[yH,yH,zF,zF,yI];omega
  have:=key V h7;rw[yI];omega
def Has.cU(J:4<=(eG k v).1){s:jF}(E:Has D M k v h s):s.y6.length<=s.y5.length:=by
 cases h with
 | zero=>
  have:=length_pos_iff.2 E.ne;rw[E.1,xK];omega
 | succ h=>
  obtain⟨O,h0,h1,U,V,G,h5,h6,h7⟩:=E;have h8:=G.right.x9.1;rw[U,V];have key:∀l:List lI,(∀e∈l,Has D M k v h e.2/\minOf k v h<=e.2.size)->(l.flatMap (·.2.y6)).length+l.length<=(l.flatMap (·.2.y5)).length:=by
   intro l;induction l with
   | nil=>intro _;simp
   | cons a l ih=>
    intro I;have i:=ih λe he=>I e (zN _ he);have j:=Has.uP J (I a oN).1 (I a oN).2;rw[yH,yH,zF,zF,yI];omega
  have:=key O h7;rw[yI];omega
def gK.cU(E:4<=(eG k v).1)(G:gK D M k v t L P):P.length<=L.length:=by rcases G with ⟨I,rfl,rfl⟩|⟨h,n,p,O,I,J⟩;exact zM _;exact J.cU E
def Has.cH{D':dQ}:∀ {h:Nat} {s:jF},Has D M k v h s->(∀x∈s.y6,dO D' M' x=dO D M x)->Has D' M' k v h s
 | 0,s,⟨G,J,E,O⟩,I=>⟨G,J,E,by rw[I s.x5 (by rw[G];simp)];exact O⟩
 | h+1,s,⟨es,h0,G,J,E,O,h5,h6,V⟩,I=>⟨es,h0,G,J,E,O,by rw[I s.x5 (by rw[E];simp)];exact h5,h6,λe U=>⟨(V e U).1.cH λx hx=>I x (by rw[E];exact zN _ (yK.2 ⟨e,U,hx⟩)),(V e U).2⟩⟩
structure Calm (D:dQ) (M:eU) (b q:Nat):Prop where
 quiet:fK D
 Q7:D.Q7=[]
 size:D.size=b
 blocks:M.j9.2.getD 0 0=b
 b8:8<=b
 wf:M.Wf
 Q9:M.z9
 Q3:M.Q3=false
 len:M.Q2.length=24
 seq:0<=M.j9.1/\M.j9.1<=q
 x6:0<=M.x6/\M.x6<=q
structure Kept (D:dQ) (M:eU) (D':dQ) (M':eU):Prop where
 Q2:M'.Q2=M.Q2
 use:∀ x,eN M' x↔eN M x
 read:∀ x,eN M x->dO D' M' x=dO D M x
def qyi{a b:Nat}(h:a<=b):gM a<=gM b:=by unfold gM;split;exact yX _;rw[iN];omega
structure TW (dbk pb:Nat) (FD:Mk) (D:dQ) (j:Nat) (w:Md) (Y F:Mk) (M:eU):Prop where
 cR:fO w dbk FD D
 lim:oV D j
 x8:fY w (FD++HG::Y) pb (uQ dbk M) F M
 hv:Hv w
 wf:M.Wf
 sep:∀ b∈Y,b∉FD/\b≠HG
abbrev Zo (FD Y F:Mk):Mk:=(FD++HG::Y)++F
def TW.q9(h:TW dbk pb FD D j w Y F M)(f:Fr [] w w'):TW dbk pb FD D j w' Y F M:=⟨h.cR.q9 f,h.lim,h.x8.q9 f,h.hv.q9 f,h.wf,h.sep⟩
def TW.uU(h:TW dbk pb FD D j w Y F M):∀b∈Y,b<w.z:=λb E=>h.x8.rN b (by simp[E])
def TW.xu(h:TW dbk pb FD D j w Y F M):∀b∈Zo FD Y F,b<w.z:=λb E=>(zD.1 E).elim (h.x8.rN b) (h.x8.lt b)
def TW.yf(h:TW dbk pb FD D j w Y F M):∀b∈Y,b∉F:=λb E=>h.x8.sep b (by simp[E])
def TW.cQ{Y':Mk}(h:TW dbk pb FD D j w Y F M)(f:Fr Y w w')(U:∀b∈Y',b<w'.z)(J:∀b∈Y',b∈Y\/w.z<=b):TW dbk pb FD D j w' Y' F M where
 cR:=h.cR.j0 f λb E I=>(h.sep b I).1 E
 lim:=h.lim
 x8:=h.x8.Cc (f.mono λb E _=>by simp[E]) (λb E=>by
  rcases zD.1 E with E|E;exact yD (h.cR.lt b E) f.size;rcases zG.1 E with rfl|E;exact yD h.hv.lt f.size;exact U b E) λb E=>by
  rcases zD.1 E with E|E;exact .inl (zH _ E);rcases zG.1 E with rfl|E;exact .inl oN;rcases J b E with G|G;exact .inl (by simp[G]);exact .inr G
 hv:=h.hv.j0 f λI=>(h.sep _ I).2 rfl
 wf:=h.wf
 sep:=λb E=>by rcases J b E with G|G;exact h.sep b G;exact⟨λO=>by have:=h.cR.lt b O;omega,λO=>by have:=h.hv.lt;omega⟩
def TW.y4{Y':Mk}(h:TW dbk pb FD D j w Y F M)(G:∀b∈Y',b∈Y):TW dbk pb FD D j w Y' F M:=h.cQ (.refl _ _) (λb E=>h.uU b (G b E)) λb E=>.inl (G b E)
def TW.EJ(h:TW dbk pb FD D j w0 Y F M)(f:Fr Y w0 w)(G:∀b∈B,w0.z<=b/\b<w.z):TW dbk pb FD D j w (B++Y) F M:=
 h.cQ f (λb E=>(zD.1 E).elim (λE=>(G b E).2) λE=>yD (h.uU b E) f.size) λb E=>(zD.1 E).elim (λE=>.inr (G b E).1) .inl
def qAi(M:eU)(kd:Int)(b:Ml):(ij M kd b).2.Q3=M.Q3:=by unfold ij;split;rfl;split;rfl;split<;>rfl
def qCH(M:eU)(n kd:Int)(b:Ml):(kZ M n kd b).2.Q3=M.Q3:=by unfold kZ;split;rfl;split;rfl;split<;>rfl
def qzB(M:eU)(n:Int):(gf M n).2.Q3=M.Q3:=by unfold gf;split;rfl;split;rfl;split<;>rfl
def qAN(M:eU)(t a b c:Int):(fQ M t a b c).2.Q3=M.Q3:=by unfold fQ;split;rfl;split<;>rfl
def qzw(h:M'.Q3=M.Q3):uQ dbk M'=uQ dbk M:=by unfold uQ;rw[h]
def TW.next(h:TW dbk pb FD D j w Y F M)(E:M'.Q3=M.Q3)(G:M'.Wf)(I:fY w' (FD++HG::Y) pb (uQ dbk M) F' M')(f:Fr F w w'):TW dbk pb FD D j w' Y F' M' where
 cR:=h.cR.j0 f λb J=>h.x8.sep b (zH _ J)
 lim:=h.lim
 x8:=by rw[qzw E];exact I
 hv:=h.hv.j0 f (h.x8.sep HG oN)
 wf:=G
 sep:=h.sep
def TW.make{K:Mo->WP}(h:TW dbk pb FD D j w Y F M)(E:eY (Zo FD Y F) w s body)(G:body.length<=100000)(I:0<=kind/\kind<256)(J:fj body)(O:∀F' w',TW dbk pb FD D j w' Y F' (ij M kind body).2->Fr F w w'->(∀b∈F',b∈F\/w.z<=b)->K (ij M kind body).1 w'): cW 260 [dM pb,.b kind,s.v] dB w K:=
 qBy h.x8 E G (by have:=h.wf.all;omega) λF' w' U f V=>O F' w' (h.next (qAi M kind body) (qw4 h.wf I J).1 U f) f V
def TW.put{n:Int}(h:TW dbk pb FD D j w Y F M)(E:eY (Zo FD Y F) w s body)(G:body.length<=100000)(I:0<=kind/\kind<256)(J:fj body)(O:∀w',TW dbk pb FD D j w' Y F (kZ M n kind body).2->Fr F w w'->K (kZ M n kind body).1 w'): cW 259 [dM pb,.u n,.b kind,s.v] dj w K:=
 qDn h.x8 E G λw' U f=>O w' (h.next (qCH M n kind body) (qAC h.wf I J).1 U f) f
def TW.drop{n:Int}(h:TW dbk pb FD D j w Y F M)(E:∀F' w',TW dbk pb FD D j w' Y F' (gf M n).2->Fr F w w'->(∀b∈F',b∈F\/w.z<=b)->K (gf M n).1 w'): cW 261 [dM pb,.u n] dj w K:=
 qBv h.x8 (by have:=h.wf.all;omega) (by have:=h.wf.all;omega) (by have:=h.wf.all;omega) λF' w' G f I=>E F' w' (h.next (qzB M n) (qwK h.wf) G f) f I
def TW.read{n:Int}{K:Mx->WP}(h:TW dbk pb FD D j w Y F M)(E:jf n)(I:∀s w',(∀G:Mk,(∀b∈G,b<w.z)->eY G w' s (dO D M n).2.1)->Fr [] w w'->K ((dO D M n).1,s,(dO D M n).2.2) w'): cW 77 [dM pb,.u n] du w K:=
 qza h.cR h.lim h.x8 h.hv E (by have:=h.wf.all;omega) (λe J=>zL (h.wf.body e J).2.1 oO) I
def TW.J5{K:Mw->WP}(h:TW dbk pb FD D j w Y F M)(E:∀w',Fr [] w w'->K (eS M t) w'): cW 34 [dM pb,.i t] [.agg [.u,.u,.u]] w K:=qBA h.x8 E
def qyD{a b:Int}(E:M.Wf)(G:jf a)(I:jf b)(J:jf c):(fQ M t a b c).2.Wf:=by unfold fQ;split;exact E;split;exact E;refine qvx E λx h=>?_;simp only[zD,zG,xW,or_false] at h;rcases h with (h|rfl|rfl|rfl)|h;exact E.Q2 x (yV h);exact G;exact I;exact J;exact E.Q2 x (yU h)
def TW.t9{a b:Int}(h:TW dbk pb FD D j w Y F M)(E:jf a)(G:jf b)(I:jf c)(J:∀w',TW dbk pb FD D j w' Y F (fQ M t a b c).2->Fr F w w'->K (fQ M t a b c).1 w'): cW 206 [dM pb,.i t,.agg #[.u a,.u b,.u c]] dj w K:=
 qvF h.x8 λw' O f=>J w' (h.next (qAN M t a b c) (qyD h.wf E G I) O f) f
def TW.room(h:TW dbk pb FD D j w Y F M)(E:K M.Q1.length w):cW 204 [dM pb] dj w K:=qBz h.x8 E
def TW.AI(h:∀b∈F',b∈F\/w.z<=b):∀b∈Zo FD Y F',b∈Zo FD Y F\/w.z<=b:=Dw h
def GN(h:M.Wf)(t:Int):jf (eS M t).1/\jf (eS M t).2.1/\jf (eS M t).2.2:=by
 have key:∀n,jf (M.Q2.getD n 0):=λn=>by
  rw[yR];cases e:M.Q2[n]? with|none=>exact⟨oO,oO⟩|some x=>exact h.Q2 x (yF e)
 unfold eS;split;exact⟨⟨oO,oO⟩,⟨oO,oO⟩,⟨oO,oO⟩⟩;exact⟨key _,key _,key _⟩
def quL{g:List (Int×Me)}{K:Option Nat->WP}(h:kM lZ w mb g)(U:∀E w',E=w.z->kM lZ w' E g->Fr [] w w'->K (some E) w'): cW 266 [.map (some mb)] [.one .map] w K:=by
 refine qti<|x_ ?_;obtain⟨O,c,V,he,hs,hc⟩:=h;have G:(Extern.MapsClone.clone #[.iface Ff (.map (some mb))]).run prog w=.ok (.iface Ff (.map (some w.z))) (w.alloc (.map O c)):=by
  have e:Extern.MapsClone.clone #[.iface Ff (.map (some mb))]=(getObj mb >>=λo=>match o with|.map I J=>(newObj _ >>=λn=>pure _)|_=>stuck "maps.clone: a map expected"):=rfl
  rw[e];simp[L8 V]
 refine CE Tryz.func291 (by kernel_rfl) (by kernel_rfl) (by kernel_rfl) (by kernel_rfl) _ _ G<|tf (some w.z) ?_ ?_;simp[Instr.typeAssert];rfl;exact U _ _ rfl ⟨O,c,by rw[Dl,iP rfl],he,hs,hc⟩ ((Fr.refl [] w).alloc _)
def qta{P:Mg}{t d:Mf}(D:Nat)(h:P.underlying t=some (.pointer d))(hi:(P.info? d).isSome=true)(E:fv P d≠0)(w:Md): (Op.equalIn (D+1) t (.pointer (some a)) (.pointer (some a))).run P w=.ok true w:=by simp[Op.equalIn,run_underlying h,uk hi,sameAddr]
def qEe{P:Mg}{t d:Mf}{x y:Operand}{K:Bool->Prop}(E:P.underlying t=some (.pointer d))(hi:(P.info? d).isSome=true)(h:Nat.beq (fv P d) 0=false)(k:K false): eO [jV.one Cell.bool] (λw'=>(do eqGuard .neq t x y (.pointer (some a)) (.pointer (some a));binOp .neq t (.pointer (some a)) (.pointer (some a)):Sem Me).run P w') w K:=by have G:=qta (a:=a) 9999 E hi (λe=>by rw[e] at h;cases h) w;have I:(binOp .neq t _ _).run P w=.ok _ w:=wW true G oN oN oN oN;unfold eO;refine⟨false,?_,k⟩;simp[eqGuard,I];rfl
structure mT (w:Md) (S:Mk) (fb defb mb:Nat) (F1 F2:Mk) (fs:List (Int×mh)) (q:eU):Prop where
 Q1:ie w fb F1 q.Q1
 J7:ie w defb F2 q.J7
 map:kM lZ w mb (fs.map λe=>(e.1,pc e.2))
 J8:q.J8=fs.map λe=>(e.1,e.2.1,e.2.2.2)
 y9:∀ e∈fs,eY S w e.2.2.1 e.2.2.2
 out:∀ b∈mb::(F1++F2),b∉S
 J3:mb∉F1/\mb∉F2/\∀ b∈F1,b∉F2
 Q2:q.Q2.length=24
def mT.lt(h:mT w S fb defb mb F1 F2 G q):∀b∈mb::(F1++F2),b<w.z:=λb E=>by rcases zG.1 E with rfl|E;exact h.map.lt;exact (zD.1 E).elim (h.Q1.lt b) (h.J7.lt b)
def mT.j0(h:mT w S fb defb mb F1 F2 G q)(f:Fr S w w')(I:∀b∈S',b∈S\/w.z<=b):mT w' S' fb defb mb F1 F2 G q where
 Q1:=h.Q1.j0 f λb E=>h.out b (by simp[E])
 J7:=h.J7.j0 f λb E=>h.out b (by simp[E])
 map:=h.map.j0 f (h.out mb oN)
 J8:=h.J8
 y9:=λe J=>(h.y9 e J).j0 f I
 out:=λb E O=>(I b O).elim (h.out b E) λU=>by have:=h.lt b E;omega
 J3:=h.J3
 Q2:=h.Q2
def qs2(x y:Option Addr)(m:Option Nat)(Q2:Ml):(gR x y m Q2).all Value.oneCell'=true:=by rw[LY];intro v h;simp only[gR,zD,zG,mem_map,xW,or_false] at h;rcases h with (rfl|rfl|rfl)|⟨x,_,rfl⟩<;>rfl
def qFm:((prog.info? HH).bind (·.zero)).map (λz=>z.cells.toList)=some (gR none none none (zs 24)):=by kernel_rfl
def qrN{fs:List (Int×mh)}{K:List Me->WP}(h:mT w S fb defb mb F1 F2 fs q)(ak:q.Q1.length<=1000000)(al:q.J7.length<=1000000)(hk:∀O G I V aa w',mT w' S O G I V aa fs q->Fr [] w w'->(∀b∈I::(V++aa),w.z<=b)->K (gR (pW O) (pW G) (some I) q.Q2) w')(hS:∀b∈S,b<w.z): cW 208 [.agg (gR (pW fb) (pW defb) (some mb) q.Q2).toArray] dz w K:=by
 refine qju ?_;have hr:=h.Q2;refine oD (oG [] w) λr1 w1 e1 f1 an=>oK an qFm λr3 w2 e3 ao=>?_;have ho:=ao.drew;generalize World.drew w2=wd at ho;refine oB ho 1 rfl _ rfl<|oB ho 1 rfl _ rfl<|oB ho 1 rfl _ rfl<|qwt (h.Q1.j0 ho.fr λ_ _ h=>nomatch h) ak λO V w4 p1 f4 n1=>?_;have ac:=ho.q9 f4;refine jU (ac.cell 1) (ac.cell 1)<|qwt (h.J7.j0 (ho.fr.trans f4) λ_ _ h=>nomatch h) al λG aa w5 p2 f5 n2=>?_;have ad:=ac.q9 f5;refine gY (ad.cell 1)<|quL (h.map.j0 ad.fr λh=>nomatch h) λI w6 em p3 f6=>?_;have av:=ad.q9 f6;refine oI av 1 rfl (gR _ _ _ q.Q2).toArray rfl rfl (by rw[size_toArray,tB hr];exact zO rfl) λw7 aw f7=>oI aw 1 rfl (gR _ _ _ q.Q2).toArray rfl rfl (by rw[size_toArray,tB hr];exact zO rfl) λw8 ax f8=>oI ax 1 rfl (gR _ _ _ q.Q2).toArray rfl rfl (by rw[size_toArray,tB hr];exact zO rfl) λw9 ah f9=>?_;have hw:=tB (x:=pW O) (y:=pW G) (m:=some I) hr;refine lW (ah.at (i:=1) rfl) _ hw (by rw[xE,zS (Nat.le_of_eq hw)])<|nc hw<|oI ah 0 rfl (gR _ _ _ q.Q2).toArray (gS (by rw[size_toArray,hw,tB (rM 24)])) (qs2 _ _ _ _) (by rw[size_toArray,hw,tB (rM 24)];exact zO rfl) λai U ay=>lW (U.at (i:=0) rfl) _ hw (by rw[xE,zS (Nat.le_of_eq hw)]) ?_;have az:=gg (ho.at (i:=1) rfl);have aA:=gg (ho.at (i:=0) rfl);have g7:Fr [r1,r3] w6 ai:=(((f7.mono λb E _=>by rw[zE.1 E];simp).trans (f8.mono λb E _=>by rw[zE.1 E];simp)).trans (f9.mono λb E _=>by rw[zE.1 E];simp)).trans (ay.mono λb E _=>by rw[zE.1 E];simp);have s4:=f4.size;have s5:=f5.size;have af:∀b,b∈[r1,r3]->b<wd.z:=λb E=>by rcases zG.1 E with rfl|E;exact az;rw[zE.1 E];exact aA
 have l1:=p1.lt;have l2:=p2.lt;refine hk O G I V aa ai ?_ U.fr λb E=>?_;refine⟨(p1.j0 (f5.trans f6) λ_ _ h=>nomatch h).j0 g7 (λb E J=>by have:=n1 b E;have:=af b J;omega),(p2.j0 f6 λ_ _ h=>nomatch h).j0 g7 (λb E J=>by have:=n2 b E;have:=af b J;omega),p3.j0 g7 (λJ=>by have:=af _ J;omega),h.J8,λe he=>?_,λb E J=>?_,⟨λJ=>by have:=l1 _ J;omega,λJ=>by have:=l2 _ J;omega,λb E J=>by have:=l1 b E;have:=n2 b J;omega⟩,hr⟩;exact (h.y9 e he).j0 (U.fr.mono λb E=>nomatch E) λb E=>.inl E;have:=hS b J;rcases zG.1 E with rfl|E;omega;rcases zD.1 E with E|E;have:=n1 b E;omega;have:=n2 b E;omega;rcases zG.1 E with rfl|E;omega;rcases zD.1 E with E|E;have:=n1 b E;omega;have:=n2 b E;omega
abbrev Io:Mf:=325
def EW (pb:Nat) (x6:Int) (wk:List Me):List Me:=[dM pb,.i x6]++wk
def qO (w:Md) (S:Mk) (kb pb:Nat) (q:eU):Prop:=
 ∃fb defb mb h F2 E,w.heap[kb]?=some (.c (EW pb q.x6 (gR (pW fb) (pW defb) (some mb) q.Q2)).toArray Io)/\mT w S fb defb mb h F2 E q/\kb∉S
def qO.j0{kb:Nat}(h:qO w S kb pb q)(f:Fr S w w')(G:∀b∈S',b∈S\/w.z<=b):qO w' S' kb pb q:=by obtain⟨fb,defb,mb,J,F2,O,E,U,I⟩:=h;exact⟨fb,defb,mb,J,F2,O,by rw[f.block kb (gg E) I];exact E,U.j0 f G,λV=>(G kb V).elim I λh'=>by have:=gg E;omega⟩
def qFz:((prog.info? Io).bind (·.zero)).map (λz=>z.cells.toList)=some ([Value.pointer none,.i 0]++gR none none none (zs 24)):=by kernel_rfl
def qyh{p:Option Addr}{x y:Option Addr}{m:Option Nat}{Q2:Ml}(I:Q2.length=24)(w:Md): (Instr.build Io #[(0,.pointer p),(1,.i t),(2,.agg (gR x y m Q2).toArray)]).run prog w=.ok (.agg ([Value.pointer p,.i t]++gR x y m Q2).toArray) w:=by
 obtain⟨z,J,h⟩:=yT.1 qFz;have E:z.cells=([Value.pointer none,.i 0]++gR none none none (zs 24)).toArray:=(by rw[<- h]);have G:=tB (x:=x) (y:=y) (m:=m) I;refine F6 (parts:=[(0,.pointer p),(1,.i t),(2,.agg (gR x y m Q2).toArray)]) (offs:=#[(0,1),(1,1),(2,27)]) J oM (λw=>oM) ?_ w;have O:(Value.agg (gR x y m Q2).toArray).cells.size=27:=(by show (gR x y m Q2).toArray.size=27;rw[size_toArray,G]);rw[E,ww (o:=0) (s:=1) rfl rfl (zO rfl),ww (o:=1) (s:=1) rfl rfl (zO rfl),ww (o:=2) (s:=27) rfl O (zO rfl)];refine Ma some ?_;have:=wM (A:=[Value.pointer p,.i t]) (X:=gR none none none _) (Z:=[]) (Y:=gR x y m Q2) (by rw[G,tB (rM 24)]);rw[xG,xG] at this;exact this
def qCE{j9:rH}{x6:Int}{Q3:Bool}{Q2:Ml}(E:j9.2.length=27)(G:Q2.length=24):((gA db j9 sl sn x6 Q3 fb defb mb Q2).toList.drop 33).take 27=gR (pW fb) (pW defb) (some mb) Q2:=by have h:((Value.pointer db::gh j9.1 j9.2)++([sl.v,sn.v,.i x6,.bool Q3]:List Me)).length=33:=(by rw[zF,vv E];rfl);rw[<- GB];show (((Value.pointer db::gh j9.1 j9.2)++([sl.v,sn.v,.i x6,.bool Q3]:List Me)++gR _ _ _ Q2).drop 33).take 27=_;rw[<- h,drop_left,zS (by rw[tB G];exact zM _)]
def qA.work(E:qA w X pb db M fb defb mb sl sn F1 F2 G):mT w [] fb defb mb F1 F2 G M:=
 ⟨E.Q1,E.J7,E.map,E.J8,λe J=>(E.rows.y9 e J).j6 oN,λb I h=>(nomatch h),⟨λh=>(E.sep.2.1 mb h).2.1 rfl,λh=>(E.sep.2.2 mb h).2 rfl,λb I h=>(E.sep.2.1 b I).2.2 h⟩,E.x7⟩
def qBB{K:Option Addr->WP}(h:fY w X pb db F M)(ac:M.Q1.length<=1000000)(ad:M.J7.length<=1000000)(ae:M.Q3=true->K none w)(hk:M.Q3=false->∀kb w',qO w' (X++F) kb pb M->Fr [] w w'->K (pW kb) w'): cW 150 [dM pb] dp w K:=by
 have U:=h.lt;have G:∀b∈X,b<w.z:=by obtain⟨fb,defb,mb,sl,sn,F1,F2,fs,rfl,E⟩:=h;exact E.rN
 obtain⟨fb,defb,mb,sl,sn,F1,F2,fs,rfl,E⟩:=h;refine qkA<|fH (iH E.cell M.Q3 (BY E.Q8) ?_);refine eF (λho=>ae (oS ho)) λho=>?_;have V:=E.q9 (Fr.refl [] w).drew;have fd:Fr [] w w.drew:=(Fr.refl [] w).drew;generalize World.drew w=wd at V fd;refine fH (iH V.cell M.x6 (K9 E.Q8) ?_);refine fH<|lW V.cell _ (tB E.x7) (qCE E.Q8 E.x7)<|qrN V.work ac ad (λah I ai aj ak w2 O f2 n2=>?_) λb hb=>nomatch hb;have h2:=V.q9 f2;refine gY (by show _=_;rw[jI h2.cell];exact K9 E.Q8)<|tf (ts:=[jV.tg]) _ (qyh E.x7 w2)<|oD (oG [] w2) λkb w3 e3 f3 al=>?_;have J:=fd.trans f2;refine hk (oS ho) kb w3 ⟨ah,I,ai,aj,ak,fs,al.at (i:=0) rfl,?_,λhm=>?_⟩ (J.trans f3);have hb:∀b∈X++pb::mb::(F1++F2),b<w.z:=λb hb=>(zD.1 hb).elim (G b) (U b);refine⟨O.Q1.j0 f3 λ_ _ h=>(nomatch h),O.J7.j0 f3 λ_ _ h=>(nomatch h),O.map.j0 f3 λh=>(nomatch h),O.J8,λe he=>(E.rows.y9 e he).q9 (J.trans f3),λb ao hm=>?_,O.J3,O.Q2⟩
 have:=n2 b ao;have:=hb b hm;have:=fd.size;omega;have:kb<w.z:=(zD.1 hm).elim (G kb) (U kb);have:=J.size;omega
def qBu{m:Option Addr}(h:fY w X pb db F M)(hS:∀b∈X++F,b∈S)(hm:m≠none->∃kb,m=pW kb/\qO w S kb pb q/\q.Q1.length<=1000000/\q.J7.length<=1000000)(aB:M.Q3=true->K 7 w)(aC:M.Q3=false->(m=none\/q.x6≠M.x6)->K 10 w.drew)(hk:M.Q3=false->m≠none->q.x6=M.x6->∀F' w',fY w' X pb db F' { M with Q1:=q.Q1,J7:=q.J7,J8:=q.J8,Q2:=q.Q2 }->Fr F w w'->(∀b∈F',b∈F\/w.z<=b)->K 0 w'): cW 151 [dM pb,.p m] dj w K:=by
 obtain⟨fb,defb,mb,sl,sn,F1,F2,fs,rfl,I⟩:=h;refine qku<|fH (iH I.cell M.Q3 (BY I.Q8) ?_);refine eF (λho=>aB (oS ho)) λho=>jd (λb w'=>b=decide (m=none\/q.x6≠M.x6)/\w'=w.drew) ?_ ?_;cases m with
 | none=>exact y_ ⟨oN,rfl⟩
 | some a=>
  obtain⟨kb,e,hM,_⟩:=hm oN;obtain rfl:=yO e;obtain⟨ah,J,ai,al,an,aj,hc,hW,_⟩:=hM;refine x_<|fH (iH hc _ rfl ?_);refine qEe (d:=136) oM oM oM<|x_<|fH (iH hc q.x6 rfl ?_);refine fH (iH I.cell M.x6 (K9 I.Q8) ?_);refine⟨?_,rfl⟩;by_cases e:q.x6=M.x6;simp[e];simp[e]
 rintro b w1 ⟨rfl,rfl⟩;apply eF<;>intro hc;exact aC ho (zC hc);have hc:=zB hc;have ao:m≠none:=λe=>hc (.inl e);have aE:q.x6=M.x6:=Classical.byContradiction λe=>hc (.inr e);obtain⟨kb,rfl,hM,aF,aG⟩:=hm ao;obtain⟨ah,J,ai,al,an,aj,aH,hW,_⟩:=hM;have fd:Fr [] w w.drew:=(Fr.refl [] w).drew;have ap:=I.q9 fd;have aq:w.drew.heap[kb]?=some _:=aH;have G:=hW.j0 (S':=S) (fd.mono λb E=>nomatch E) λb E=>.inl E;have sd:w.drew.z=w.z:=rfl;generalize World.drew w=wd at ap aq G fd sd;refine fH ?_;have ar:=tB (x:=pW ah) (y:=pW J) (m:=some ai) hW.Q2;refine lW (off:=0+2) aq _ ar (by show (gR _ _ _ q.Q2).take 27=_;rw[zS (Nat.le_of_eq ar)]) ?_;have aI:mT wd [] ah J ai al an aj q:=⟨G.Q1,G.J7,G.map,G.J8,λe he=>(G.y9 e he).j6 oN,λb E h=>(nomatch h),G.J3,G.Q2⟩;refine qrN aI aF aG (λau ab O G1 G2 w2 U f2 n2=>?_) λb E=>nomatch E;have h2:=ap.q9 f2;refine fH (nc (tB hW.Q2) ?_);have aK:dY [pb] w2 w2 [(pb,.cells _ v6 _)]:=⟨by simpa using h2.cell,oN,.refl _ _,oN⟩;refine oI aK 0 rfl (gA db M.j9 sl sn M.x6 M.Q3 au ab O q.Q2) (by rw[<- GB,<- GB];exact qu6 I.Q8 (by rw[tB I.x7,tB hW.Q2])) (qs2 _ _ _ _) (by rw[JQ I.Q8,tB hW.Q2,I.x7];exact zO rfl) λw3 aM f3=>?_;have aN:=fd.trans f2;have V:∀b∈O::(G1++G2),w.z<=b:=λb E=>by have:=n2 b E;omega
 have aY:=gg I.cell;have aa:∀b∈O::(G1++G2),b∉[pb]:=λb E hm=>by have:=V b E;rw[zE.1 hm] at this;omega
 have ad:Fr [pb] w w3:=(aN.mono λb E=>nomatch E).trans f3;have av:∀b∈X,b<w.z:=I.rN;have ak:∀b∈X++pb::O::(G1++G2),b∈X++pb::mb::(F1++F2)\/w.z<=b:=λb E=>by rcases zD.1 E with E|E;exact .inl (zH _ E);rcases zG.1 E with rfl|E;exact .inl (zI _ oN);exact .inr (V b E)
 have ag:Fr (X++pb::mb::(F1++F2)) w w3:=ad.mono λb E _=>by rw[zE.1 E];exact zI _ oN
 refine hk ho ao aE _ w3 ⟨au,ab,O,sl,sn,G1,G2,aj,rfl,{
  cell:=aM.at (i:=0) rfl
  Q1:=U.Q1.j0 f3 λb E=>aa b (by simp[E])
  J7:=U.J7.j0 f3 λb E=>aa b (by simp[E])
  map:=U.map.j0 f3 (aa O oN)
  J8:=U.J8
  rows:=⟨I.rows.Q5.j0 ag ak,I.rows.Q9.j0 ag ak,λe he=>?_⟩
  rN:=λb E=>yD (av b E) ad.size
  oW:=λb E hm=>?_
  sep:=⟨λe=>aa O oN (by simp[e]),λb E=>⟨λe=>aa b (by simp[E]) (by simp[e]),λe=>U.J3.1 (e▸E),U.J3.2.2 b E⟩,λb E=>⟨λe=>aa b (by simp[E]) (by simp[e]),λe=>U.J3.2.1 (e▸E)⟩⟩
  Q8:=I.Q8
  x7:=hW.Q2 }⟩ (ad.mono λb E _=>by rw[zE.1 E];simp) λb E=>?_
 have aO:=hW.y9 e he;refine aO.j0 (ad.mono λb E _=>by rw[zE.1 E];exact hS pb (zI _ oN)) λb E=>?_;rcases ak b E with E|E;exact .inl (hS b E);exact .inr E;rcases zG.1 hm with rfl|hm;exact I.oW b E oN;have:=V b hm;have:=av b E;omega;rcases zG.1 E with rfl|E;exact .inl oN;exact .inr (V b E)
abbrev JF:=Ms
def lM (k v pb:Nat) (t:Int):JF:=((k:Int),(v:Int),((eG k v).1:Int),((eG k v).2:Int),pW pb,t)
def qH (x:JF):Array Me:=#[.i x.1,.i x.2.1,.i x.2.2.1,.i x.2.2.2.1,.pointer x.2.2.2.2.1,.i x.2.2.2.2.2]
abbrev WK:Mf:=113
def Fh (k v:Nat):MB:=((k:Int),(v:Int),((eG k v).1:Int),((eG k v).2:Int))
def JP (k v:Nat):Array Me:=#[.i k,.i v,.i (eG k v).1,.i (eG k v).2]
structure tF (x:mp) (n:dX):Prop where
 Q4:x.1=n.Q4
 J6:x.2.1.len=n.J6.length
 Q0:x.2.2.1.len=n.Q0.length
 J9:x.2.2.2.len=n.J9.length
def fe.lens(h:fe S w x n):tF x n:=by obtain⟨E,_,⟨pk,G,I⟩,⟨pv,J,O⟩,U⟩:=h;exact⟨E,by rw[G.len,<- I,zK],by rw[J.len,<- O,zK],U.1⟩
def KN{K:Mo->WP}(h:tF x n)(G:∀w',Fr [] w w'->K (((fC n k v).1:Int),((fC n k v).2:Int)) w'): cW 287 [.agg (JP k v),.agg (fB x)] dv w K:=by refine ql6<|oD (oG [] w) λr1 w1 e1 O J=>oD J λr3 w2 U V J=>Mi J 0 x.1 ?_;unfold fC at G;have E:=J.drew;apply eF<;>intro I;rw[h.Q4] at I;rw[iP I] at G;refine Mi E 0 x.2.1<|Mi E 1 ((eG k v).1:Int) ?_;rw[h.J6];exact G _ E.fr;rw[h.Q4] at I;rw[iN (by rw[I];decide)] at G;refine Mi E 0 x.2.2.2<|Mi E 1 ((eG k v).2:Int) ?_;rw[h.J9];exact G _ E.fr
def qr9:wrap .i64 (Int.tdiv ((fC n k v).2:Int) 2)=(((fC n k v).2 / 2:Nat):Int):=by have h:=Fw (k:=k) (v:=v);have E:(fC n k v).2<=498:=(by unfold fC;split<;>omega);rw[LZ oL,gJ _ oL];rfl
variable {K:Bool->WP}
def qEW(h:tF x n)(G:∀w',Fr [] w w'->K (decide (rG n k v)) w'): cW 297 [.agg (JP k v),.agg (fB x)] dk w K:=by refine qne<|oD (oG [] w) λr1 w1 e1 O E=>oD E λr3 w2 U V E=>Mj E 1 (Fh k v)<|Mj E 0 x<|KN h λI J=>?_;rw[qr9];have e:decide (((fC n k v).1:Int)<(((fC n k v).2 / 2:Nat):Int))=decide (rG n k v):=decide_eq_decide.2 (by unfold rG;omega);rw[e];exact G I (E.fr.trans J)
def qCT(h:tF x n)(G:∀w',Fr [] w w'->K (decide (kj n k v)) w'): cW 302 [.agg (JP k v),.agg (fB x)] dk w K:=by refine qkH<|oD (oG [] w) λr1 w1 e1 O E=>oD E λr3 w2 U V E=>Mj E 1 (Fh k v)<|Mj E 0 x<|KN h λI J=>?_;rw[qr9];have e:decide (((fC n k v).1:Int)>(((fC n k v).2 / 2:Nat):Int))=decide (kj n k v):=decide_eq_decide.2 (by unfold kj;omega);rw[e];exact G I (E.fr.trans J)
def GG{K:JF×Int->WP}(J:vj t=((k:Int),(v:Int)))(O:k=0->∀x w',Fr [] w w'->K (x,4) w')(U:k≠0->ks.len≠k->∀x w',Fr [] w w'->K (x,1) w')(V:k≠0->ks.len=k->∀w',Fr [] w w'->K (lM k v pb t,0) w'): cW 45 [dM pb,.i t,ks.v] [.agg jL,.one .i] w K:=by
 refine qtz<|oD (oG [] w) λr1 w1 e1 f1 h=>qtY ?_;rw[J];apply eF<;>intro G;have G:=yP.1 G;exact oF h 0 rfl (qH (0,0,0,0,none,0)) λw2 h I=>Mj h 0 (0,0,0,0,none,0)<|O oL _ _ h.fr;have G:=zR.1 G;apply eF<;>intro E;have E:¬((ks.len:Int)=(k:Int)):=zR.1 (oS E);exact oF h 0 rfl (qH (0,0,0,0,none,0)) λw2 h I=>Mj h 0 (0,0,0,0,none,0)<|U oL oL _ _ h.fr;have E:(ks.len:Int)=(k:Int):=by rw[yE] at E;exact yP.1 E
 refine Ls λw2 I=>?_;have h:=h.q9 I;exact oF h 0 rfl (qH (lM k v pb t)) λw3 h f3=>Mj h 0 (lM k v pb t)<|V oL oL _ h.fr
def Er{K:mp×Int->WP}(h:TW dbk pb FD D j w Y F M)(hp:jf p)(U:∀x B w',TW dbk pb FD D j w' (B++Y) F M->gc (Zo FD (B++Y) F) w' x (dR D M k v p).1 B->Fr [] w w'->(∀c∈B,w.z<=c)->K (x,(dR D M k v p).2) w'): cW 46 [.agg (qH (lM k v pb t)),.u p] [.agg eI,.one .i] w K:=by
 refine qnh<|oD (oG [] w) λr1 w1 e1 f1 G=>oD G λr3 w2 e2 f2 G=>Mi G 1 (pW pb) ?_;have h2:=h.q9 G.fr;refine TW.read h2 hp λs w7 hs f7=>?_;have G:=G.q9 f7;have ad:=hs [] λ_ h=>nomatch h;have hB:=qif h.lim.ok (λe he=>(h.wf.body e he).2.2) p;unfold dR at U;apply eF<;>intro E;have af:(dO D M p).2.2≠0:=λe=>by rw[e] at E;exact absurd E oO
 rw[iP af] at U;exact oF G 0 rfl (fB gG) λw8 G f8=>Mj G 0 gG<|U gG [] w8 (h.q9 G.fr) (.zero _ _) G.fr λ_ h=>nomatch h;have he:¬(dO D M p).2.2≠0:=λe=>by rw[yE,yP] at E;exact e E
 rw[iN he] at U;refine Mi G 1 (k:Int)<|Mi G 1 (v:Int)<|Lh ad hB λx B au hN ag O=>?_;have V:=G.q9 ag;have ah:=gg (G.at (i:=0) rfl);have hr:∀c∈B,c∉[r3]:=λc E hm=>by have:=O c E;rw[zE.1 hm] at this;omega
 refine oF V 0 rfl (fB x) λai I aj=>Mj I 0 x ?_;have J:=hN.j0 aj hr (λc E=>.inl (by rw[zE.1 E];simp[ah])) λc E=>.inl E;have aa:=G.fr.size;have ab:=h.EJ (I.fr.mono λ_ h=>nomatch h) λb hb=>⟨zL aa (O b hb),J.lt b hb⟩;refine U x B ai ab (J.j6 λc E=>.inl ?_) I.fr λc E=>zL aa (O c E);have zl:=h.xu;rcases zD.1 E with E|E;rcases zD.1 E with E|E;have:=zl c (by simp[E]);simp;omega;rcases zG.1 E with E|E;have:=zl c (by simp[E]);simp;omega;rcases zD.1 E with E|E;simp[E];have:=zl c (by simp[E]);simp;omega;have:=zl c (by simp[E]);simp;omega
def qyr{kd:Int}{n:Int}(h:(kZ M n kd b).1=10):(kZ M n kd b).2=M:=by unfold kZ at h⊢;split;rfl;rename_i E;rw[iN E] at h;split;rfl;rename_i q G;rw[G] at h;split;rfl;rename_i I;rw[iN I] at h;cases h
def An{K:Mo->WP}(h:TW dbk pb FD D j w Y F M)(hx:fe (Zo FD Y F) w x n)(h1:n.J6.length<=1000000)(h2:n.Q0.length<=1000000)(h3:n.J9.length<=1000000)(kk:∀F' w',TW dbk pb FD D j w' Y F' (ee k v M p n).2->Fr F w w'->(∀b∈F',b∈F\/w.z<=b)->K (ee k v M p n).1 w'): cW 205 [.agg (qH (lM k v pb t)),.u p,.agg (fB x)] dB w K:=by
 refine ql8<|oD (oG [] w) λr1 w1 e1 f1 O=>oD O λr3 w2 e2 f2 O=>Mj O 0 x<|Mi O 1 (k:Int)<|Mi O 1 (v:Int)<|qBK (hx.q9 O.fr) h1 h2 h3 λs w9 hs f9=>?_;have O:=O.q9 f9;have h9:=h.q9 O.fr;have aq:fj (fu n k v).2.1:=by unfold fu;split;exact qrK hx.2.1.1 hx.2.1.2.1;exact λ_ h=>nomatch h
 have ar:0<=(fu n k v).1/\(fu n k v).1<256:=(by unfold fu jQ;split;dsimp only;split<;>exact⟨oO,oO⟩;exact⟨oO,oO⟩);have au:(fu n k v).2.1.length<=100000:=(by unfold fu;split;rename_i hr;have:=(GU hr).2;dsimp only;omega;exact yX _);unfold ee at kk;apply eF<;>intro E;have aF:(fu n k v).2.2≠0:=λe=>by rw[e] at E;exact absurd E oO
 rw[iP aF] at kk;exact kk F w9 h9 (O.fr.mono λ_ h=>nomatch h) λb U=>.inl U;have he:¬(fu n k v).2.2≠0:=λe=>by rw[yE,yP] at E;exact e E
 rw[iN he] at kk;have a0:=gg (O.at (i:=1) rfl);have af:=h.xu;have ah:r1∉F:=λhm=>by have:=af r1 (by simp[hm]);omega
 have av:w.z<=r1:=oL;have aj:∀G:Mk,(∀b∈G,b<w.z)->eY G w9 s (fu n k v).2.1:=λG hG=>hs G λb U=>yD (hG b U) (zL f1.size f2.size);have ak:dY F w w9 [(r1,.c (qH (lM k v pb t)) WK)]:=⟨λq hq=>by rw[zE.1 hq];exact O.at (i:=1) rfl,oN,O.fr.mono (λ_ h=>nomatch h),λq hq=>by rw[zE.1 hq];exact .inr av⟩;generalize a3:(fu n k v).1=kd at *;generalize a4:(fu n k v).2.1=V at *;refine jd (λ_ w'=>(p=0\/(kZ M p kd V).1=10)/\TW dbk pb FD D j w' Y F M/\dY F w w' [(r1,.c (qH (lM k v pb t)) WK)]/\eY (Zo FD Y F) w' s V) ?_ ?_;apply eF<;>intro hp;have hp:p≠0:=by rw[zT] at hp;exact zR.1 hp
 refine Mi ak 0 (pW pb)<|TW.put h9 (aj _ af) au ar aq λaG an aw=>?_;have ai:=ak.j0 aw (λi hi=>.inl hi) (λq hq=>by rw[zE.1 hq];exact ah);apply eF<;>intro I;have I:(kZ M p kd V).1≠10:=by rw[zT] at I;exact zR.1 I
 rw[iP ⟨hp,I⟩] at kk;exact kk F aG an ai.fr λb U=>.inl U;have I:(kZ M p kd V).1=10:=by rw[yE] at I;exact yP.1 I
 rw[qyr I] at an;exact⟨.inr I,an,ai,(aj _ af).j0 (aw.mono λb U _=>by simp[U]) λb U=>.inl U⟩;have hp:p=0:=by rw[yE] at hp;exact yP.1 hp
 exact⟨.inl hp,h9,ak,aj _ af⟩;rintro _ a5 ⟨hp,aI,ad,ax⟩;rw[iN λhh=>hp.elim hh.1 hh.2] at kk;refine Mi ad 0 (pW pb)<|TW.make aI ax au ar aq λF' aJ ay aK aL=>?_;have J:=ad.j0 aK (λi hi=>.inl hi) (λq hq=>by rw[zE.1 hq];exact ah);have ao:=ad.fr.size;have ae:∀b∈F',b∈F\/w.z<=b:=λb U=>(aL b U).imp id λh=>zL ao h;refine jd (λe w'=>∃F2,e=(if (ij M kd V).1.2=0/\p≠0 then (gf (ij M kd V).2 p).1 else (ij M kd V).1.2)/\TW dbk pb FD D j w' Y F2 (if (ij M kd V).1.2=0/\p≠0 then (gf (ij M kd V).2 p).2 else (ij M kd V).2)/\Fr F w w'/\∀b∈F2,b∈F\/w.z<=b) ?_ ?_;refine jd (λd w'=>d=decide ((ij M kd V).1.2=0/\p≠0)/\w'=aJ) ?_ ?_;refine eF (λE=>⟨?_,rfl⟩) λE=>⟨?_,rfl⟩;have E:=yP.1 E;rw[LR,yN,zT,zR];exact⟨λh=>⟨E,h⟩,λh=>h.2⟩;have E:=zR.1 E;rw[zU λh=>E h.1];rintro d a6 ⟨rfl,rfl⟩;apply eF<;>intro E;have E:=zC E;rw[iP E,iP E];refine Mi J 0 (pW pb)<|TW.drop ay λF2 a7 aM aN aO=>?_;have ap:=J.fr.size;refine⟨F2,rfl,aM,J.fr.j8 aN ae,λb U=>?_⟩;rcases aO b U with h|h;exact ae b h;exact .inr (zL ap h);have E:=zB E;rw[iN E,iN E];exact⟨F',rfl,ay,J.fr,ae⟩;rintro e az ⟨F2,rfl,ag,aA,aB⟩;by_cases E:(ij M kd V).1.2=0/\p≠0;rw[iP E] at kk ag⊢;exact kk F2 az ag aA aB;rw[iN E] at kk ag⊢;exact kk F2 az ag aA aB
variable {K:Sl->Prop} {L:Mq} {S0:Mk} {wa:Md} {l:Key}
def lf.uF(h:lf S w s ps)(b:Nat)(G:hi=b)(J:b<=ps.length)(O:∀E,lf S w E (ps.take b)->K E):gi s none (some hi) (some hi) 1 K:=
 eT.BJ h.1 b G (by rw[zK];exact J) λE I=>O E ⟨by rw[<- xN] at I;exact I,λp U=>h.2 p (yV U)⟩
def lf.from(h:lf S w s ps)(a:Nat)(G:lo=a)(J:a<=ps.length)(O:∀E,lf S w E (ps.drop a)->K E):gi s (some lo) none none 1 K:=
 eT.part h.1 a ps.length G (by rw[xU,h.len]) J (by rw[zK];exact zM _) λE _ I _=>O E ⟨by have e:(jG ps).take ps.length=jG ps:=zS (by rw[zK];exact zM _);rw[e,<- xO] at I;exact I,λp U=>h.2 p (yU U)⟩
def lf.upto(h:lf S w s ps)(b:Nat)(G:hi=b)(J:b<=ps.length)(O:∀E,lf S w E (ps.take b)->K E):gi s none (some hi) none 1 K:=
 eT.part h.1 0 b rfl G (yX _) (by rw[zK];exact J) λE _ I _=>O E ⟨by rw[xE,<- xN] at I;exact I,λp U=>h.2 p (yV U)⟩
def Ds(ps:sP)(b:Nat):io (ps.take b)=(io ps).take b:=xN
def Ck(ps:sP)(b:Nat):io (ps.drop b)=(io ps).drop b:=xO
def Cy(hi:i<ps.length):(io ps).getD i []=ps[i].2:=by rw[yR,zQ,zA hi];rfl
def eT.Bt{α:Type}{enc:α->List Me}{l:List α}(h:eT enc 1 S w s l)(a:Nat)(G:lo=a)(J:a<=l.length)(O:∀E,eT enc 1 S w E (l.drop a)->K E):gi s (some lo) none none 1 K:=
 eT.part h a l.length G (by rw[xU,h.1]) J (zM _) λE _ I _=>O E (by rw[xY] at I;exact I)
def eT.EC{α:Type}{enc:α->List Me}{l:List α}(h:eT enc 1 S w s l)(b:Nat)(G:hi=b)(J:b<=l.length)(O:∀E,eT enc 1 S w E (l.take b)->K E):gi s none (some hi) none 1 K:=
 eT.part h 0 b rfl G (yX _) J λE _ I _=>O E (by rw[xE] at I;exact I)
def rA (n:dX) (mid:Nat):Prop:=if n.Q4 then mid<n.J6.length/\mid<=n.Q0.length else 1<=mid/\mid<=n.J6.length/\mid<=n.J9.length
def qzT{K:mp×mp×Sl->WP}(hx:fe S w x n)(hm:rA n mid)(hl:mid<=1000000)(kk:∀xl xr ks w',fe S w' xl (eP n mid).1->fe S w' xr (eP n mid).2.1->eY S w' ks (eP n mid).2.2->Fr [] w w'->K (xl,xr,ks) w'): cW 288 [.agg (fB x),.i mid] [.agg eI,.agg eI,.one .slice] w K:=by
 obtain⟨h0,G,⟨pk,I,E⟩,⟨pv,ae,J⟩,V⟩:=hx;have l1:pk.length=n.J6.length:=(by rw[<- E,zK]);have l2:pv.length=n.Q0.length:=(by rw[<- J,zK]);refine qrC ?_;have h:=oG [] w;refine oD h λr1 w2 _ f h=>oD h λr3 w4 _ f h=>oD h λr5 w6 _ f h=>?_;have h:=oH h;refine⟨?a,?b⟩;case' a=>
  refine Mj h 2 x<|Mj h 2 x<|oD h λr9 aA _ f h=>jU (h.cells 3) (h.cells 3)<|oD h λaB aC _ f h=>jU (h.cells 4) (h.cells 4)<|oF h 1 rfl (fB x) λaD h f=>gY (h.cells 4)<|oF h 0 rfl (fB x) λaE h f=>?_
 case' b=>
  refine Mj h 2 x<|Mj h 2 x<|oD h λaB aA _ f h=>jU (h.cells 3) (h.cells 3)<|oD h λr9 aC _ f h=>jU (h.cells 4) (h.cells 4)<|oF h 0 rfl (fB x) λaD h f=>gY (h.cells 4)<|oF h 1 rfl (fB x) λaE h f=>?_;have h:=Hi h (List.Perm.swap _ _ _)
 all_goals
  refine Mi h 4 x.1 ?_;apply eF<;>intro hc;rw[h0] at hc;unfold rA at hm;rw[iP hc] at hm;have hH:eP n mid=({ n with J6:=n.J6.take mid,Q0:=n.Q0.take mid },{ n with J6:=n.J6.drop mid,Q0:=n.Q0.drop mid },n.J6.getD mid []):=(by unfold eP;rw[iP hc]);rw[hH] at kk;have h:=oH h;refine Mi h 4 x.2.1<|lf.uF I mid rfl oL λaa al=>Mi h 4 x.2.2.1<|lf.uF ae mid rfl oL λaf an=>oF h 1 rfl (fB (x.1,aa,x.2.2.1,x.2.2.2)) λaL h f=>gY (h.cell 4)<|oF h 1 rfl (fB (x.1,aa,af,x.2.2.2)) λaM h f=>?_;have h:=oH h;refine Mi h 4 x.2.1<|lf.from I mid rfl oL λab ao=>Mi h 4 x.2.2.1<|lf.from ae mid rfl oL λag ap=>oF h 0 rfl (fB (x.1,ab,x.2.2.1,x.2.2.2)) λaN h f=>gY (h.cell 4)<|oF h 0 rfl (fB (x.1,ab,ag,x.2.2.2)) λaO h f=>?_;have h:=oH h;refine Mj h 1 (x.1,aa,af,x.2.2.2)<|Mj h 0 (x.1,ab,ag,x.2.2.2)<|Mi h 4 x.2.1 ?_;have O:mid<pk.length:=oL;refine lf.get' (I.q9 h.fr) mid rfl O λaP U hh=>oF h 3 rfl (fB (x.1,aa,af,x.2.2.2)) λaQ h f=>nh (hh _ (I.q9 h.fr)) (h.cell 4) (h.cells 0)<|oF h 2 rfl (fB (x.1,ab,ag,x.2.2.2)) λaG h f=>jU (hh _ (I.q9 h.fr)) (h.cell 4)<|Mj h 3 (x.1,aa,af,x.2.2.2)<|Mj h 2 (x.1,ab,ag,x.2.2.2)<|kk _ _ _ aG ⟨h0,⟨λa U=>G.1 a (yV U),λa U=>G.2.1 a (yV U),G.2.2⟩,⟨pk.take mid,al.q9 h.fr,by rw[Ds,E]⟩,⟨pv.take mid,an.q9 h.fr,by rw[Ds,J]⟩,V.q9 h.fr⟩
   ⟨h0,⟨λa U=>G.1 a (yU U),λa U=>G.2.1 a (yU U),G.2.2⟩,⟨pk.drop mid,ao.q9 h.fr,by rw[Ck,E]⟩,⟨pv.drop mid,ap.q9 h.fr,by rw[Ck,J]⟩,V.q9 h.fr⟩ ?_ h.fr
  rw[<- E,Cy O];exact (I.2 _ (zW O)).q9 h.fr;rw[h0] at hc;have ar:¬n.Q4=true:=(by rw[hc];decide);unfold rA at hm;rw[iN ar] at hm;have hH:eP n mid=({ n with J9:=n.J9.take mid,J6:=n.J6.take (mid-1) },{ n with J9:=n.J9.drop mid,J6:=n.J6.drop mid },n.J6.getD (mid-1) []):=(by unfold eP;rw[iN ar]);rw[hH] at kk;have em:wrap .i64 ((mid:Int)-1)=((mid-1:Nat):Int):=(by rw[gJ _ oL];omega);have h:=oH h;refine Mi h 4 x.2.2.2<|eT.BJ V mid rfl oL λac au=>Mi h 4 x.2.1<|lf.uF I (mid-1) em oL λah av=>oF h 1 rfl (fB (x.1,x.2.1,x.2.2.1,ac)) λaR h f=>gY (h.cell 4)<|oF h 1 rfl (fB (x.1,ah,x.2.2.1,ac)) λaT h f=>?_;have h:=oH h;refine Mi h 4 x.2.2.2<|eT.Bt V mid rfl oL λad aw=>Mi h 4 x.2.1<|lf.from I mid rfl oL λai ax=>oF h 0 rfl (fB (x.1,x.2.1,x.2.2.1,ad)) λaU h f=>gY (h.cell 4)<|oF h 0 rfl (fB (x.1,ai,x.2.2.1,ad)) λaV h f=>?_;have h:=oH h;refine Mj h 1 (x.1,ah,x.2.2.1,ac)<|Mj h 0 (x.1,ai,x.2.2.1,ad)<|Mi h 4 x.2.1 ?_;have O:mid-1<pk.length:=oL;refine lf.get' (I.q9 h.fr) (mid-1) em O λaW U hh=>oF h 3 rfl (fB (x.1,ah,x.2.2.1,ac)) λaX h f=>nh (hh _ (I.q9 h.fr)) (h.cell 4) (h.cells 0)<|oF h 2 rfl (fB (x.1,ai,x.2.2.1,ad)) λaH h f=>jU (hh _ (I.q9 h.fr)) (h.cell 4)<|Mj h 3 (x.1,ah,x.2.2.1,ac)<|Mj h 2 (x.1,ai,x.2.2.1,ad)<|kk _ _ _ aH ⟨h0,⟨λa U=>G.1 a (yV U),G.2.1,λa U=>G.2.2 a (yV U)⟩,⟨pk.take (mid-1),av.q9 h.fr,by rw[Ds,E]⟩,⟨pv,ae.q9 h.fr,J⟩,au.q9 h.fr⟩
   ⟨h0,⟨λa U=>G.1 a (yU U),G.2.1,λa U=>G.2.2 a (yU U)⟩,⟨pk.drop mid,ax.q9 h.fr,by rw[Ck,E]⟩,⟨pv,ae.q9 h.fr,J⟩,aw.q9 h.fr⟩ ?_ h.fr
  rw[<- E,Cy O];exact (I.2 _ (zW O)).q9 h.fr
structure Sg (S0:Mk) (w0 wa:Md) (F T:Mk):Prop where
 tJ:Fr S0 w0 wa
 new:∀ b∈F,b∈S0\/w0.z<=b
 own:∀ b∈T,b∈S0\/w0.z<=b
abbrev fU (L:Mq):Mk:=L.map (·.1)
def Sg.start(F:Mk)(w:Md):Sg F w w F []:=⟨.refl _ _,λb E=>.inl E,λ_ h=>nomatch h⟩
def Sg.fr(g:Sg S0 w0 wa F T)(h:dY T wa w L):Fr S0 w0 w:=g.tJ.j8 h.fr g.own
def Sg.fU(g:Sg S0 w0 wa F T)(h:dY T wa w L):∀b∈fU L,b∈S0\/w0.z<=b:=λb G=>by obtain⟨q,I,rfl⟩:=mem_map.1 G;rcases h.own q I with E|E;exact g.own _ E;exact .inr (zL g.tJ.size E)
def Dn(h:dY T wa w L):∀b∈fU L,b<w.z:=λb E=>by obtain⟨q,G,rfl⟩:=mem_map.1 E;exact gg (h.iX q G)
def TW.J0(G:TW dbk pb FD D j wa (T++Y) F M)(h:dY T wa w L):TW dbk pb FD D j w (fU L++Y) F M:=
 G.cQ (h.fr.mono λb E _=>by simp[E]) (λb E=>(zD.1 E).elim (Dn h b) λE=>yD (G.uU b (by simp[E])) h.fr.size) λb E=>(zD.1 E).elim (λE=>by obtain⟨q,I,rfl⟩:=mem_map.1 E;exact (h.own q I).imp (λh=>zH _ h) id) λE=>.inl (zI _ E)
def TW.cG(E:TW dbk pb FD D j wa Y F M)(h:dY [] wa w L):TW dbk pb FD D j w (fU L++Y) F M:=TW.J0 E h
def uy(h:dY T wa w L)(f:Fr S w w')(G:∀b∈fU L,b∉S):dY (fU L) w' w' L:=
 ⟨λq E=>by rw[f.block q.1 (gg (h.iX q E)) (G _ (zY E))];exact h.iX q E,h.nodup,.refl _ _,λq E=>.inl (zY E)⟩
def TW.own(E:TW dbk pb FD D j w (fU L++Y) F M)(h:dY T wa w L)(f:Fr F w w'):dY (fU L) w' w' L:=uy h f λb G=>E.yf b (by simp[G])
def Sg.next(g:Sg S0 w0 wa F T)(h:dY T wa w L)(f:Fr F w w')(n:∀b∈F',b∈F\/w.z<=b):Sg S0 w0 w' F' (Go.Proofs.YtcnddmfogfebiaaGreatDoor.fU L):=
 ⟨(g.fr h).j8 f g.new,λb E=>(n b E).elim (g.new b) λG=>.inr (zL (g.fr h).size G),g.fU h⟩
def Sg.cE(g:Sg S0 w0 wa F T)(h:dY T wa w L)(f:Fr [] w w'):Sg S0 w0 w' F (Go.Proofs.YtcnddmfogfebiaaGreatDoor.fU L):=
 ⟨(g.fr h).j8 f λ_ h=>(nomatch h),g.new,g.fU h⟩
def HF(h:dY T wa w L):∀b∈Zo FD (Go.Proofs.YtcnddmfogfebiaaGreatDoor.fU L++Y) F,b∈Zo FD (T++Y) F\/wa.z<=b:=λb E=>by rcases zD.1 E with E|E;rcases zD.1 E with E|E;exact .inl (by simp[E]);rcases zG.1 E with E|E;exact .inl (by simp[E]);rcases zD.1 E with E|E;obtain⟨q,G,rfl⟩:=mem_map.1 E;exact (h.own q G).imp (λh=>by simp[h]) id;exact .inl (by simp[E]);exact .inl (by simp[E])
def De:∀b∈Zo FD Y F,b∈Zo FD (S++Y) F:=λb h=>by simp only[Zo,zD,zG] at h⊢;rcases h with (h|h|h)|h<;>simp[h]
def AN{b:Nat}(h:b∈F):b∈Zo FD Y F:=zI _ h
def fe.J0(E:fe (Zo FD (T++Y) F) wa x n)(h:dY T wa w L):fe (Zo FD (fU L++Y) F) w x n:=E.j0 (h.fr.mono λb G _=>by simp[G]) (HF h)
def fe.cG(E:fe (Zo FD Y F) wa x n)(h:dY [] wa w L):fe (Zo FD (fU L++Y) F) w x n:=fe.J0 (T:=[]) E h
def fe.next(h:fe (Zo FD Y F) w x n)(f:Fr F w w')(E:∀b∈F',b∈F\/w.z<=b):fe (Zo FD Y F') w' x n:=h.j0 (f.mono λb G _=>AN G) (TW.AI E)
def ue(E:eY (Zo FD (T++Y) F) wa s l)(h:dY T wa w L):eY (Zo FD (fU L++Y) F) w s l:=E.j0 (h.fr.mono λb G _=>by simp[G]) (HF h)
def zy(E:eY (Zo FD Y F) wa s l)(h:dY [] wa w L):eY (Zo FD (fU L++Y) F) w s l:=ue (T:=[]) E h
def qu8(h:eY (Zo FD Y F) w s l)(f:Fr F w w')(E:∀b∈F',b∈F\/w.z<=b):eY (Zo FD Y F') w' s l:=h.j0 (f.mono λb G _=>AN G) (TW.AI E)
def Iz(h:eY (Zo FD (S++Y) F) w s l):eY (Zo FD Y F) w s l:=h.j0 (.refl _ _) λb E=>.inl (De b E)
def TW.j7(h:TW dbk pb FD D j w (T++Y) F M):TW dbk pb FD D j w Y F M:=h.y4 λb E=>zI _ E
abbrev GK:=Mt
def xn (g:Grown) (ks:Sl):GK:=(g.x5,g.J8,ks,g.x4)
abbrev GR:Mf:=320
def tl (x:GK):Array Me:=#[.u x.1,.bool x.2.1,x.2.2.1.v,.u x.2.2.2]
def Ab:jf 0:=⟨oO,oO⟩
def quK{k:Int}(h:M.Wf):jf (ij M k b).1.1:=by
 unfold ij;split;exact Ab;split;exact Ab;split;exact Ab;rename_i n r E;have:=h.range n (by rw[E];simp);have:=h.n4;exact⟨by dsimp only;omega,by dsimp only;omega⟩
def Aq(h:M.Wf)(E:jf p):jf (ee k v M p n).1.1:=by unfold ee;split;exact Ab;split;exact E;split;exact quK h;exact quK h
structure K7 (g:Grown):Prop where
 x5:jf g.x5
 x4:jf g.x4
 key:fj g.key
def fj.nil:fj []:=λ_ h=>nomatch h
def Kf:K7 ru:=⟨⟨oO,oO⟩,⟨oO,oO⟩,.nil⟩
variable {l:List Key} {B' N0:Mk} {K:Sl->WP}
def xm(h:∀a∈l,fj a)(i:Nat):fj (l.getD i []):=by
 rw[yR];cases e:l[i]? with|none=>exact .nil|some a=>exact h a (yF e)
def qsR{K:GK×Int->WP}(hT:TW dbk pb FD D j w0 Y F M)(hx:fe (Zo FD Y F) w0 x n)(h1:n.J6.length<=100000)(h2:n.Q0.length<=100000)(h3:n.J9.length<=100000)(hm:(fC n k v).1>(fC n k v).2->rA n ((fC n k v).1 / 2))(hp:jf p)(kk:∀ks F' w',K7 (gT k v M p n J8).1.1->TW dbk pb FD D j w' Y F' (gT k v M p n J8).2->eY (Zo FD Y F') w' ks (gT k v M p n J8).1.1.key->Fr F w0 w'->(∀b∈F',b∈F\/w0.z<=b)->K (xn (gT k v M p n J8).1.1 ks,(gT k v M p n J8).1.2) w'): cW 263 [.agg (qH (lM k v pb t)),.u p,.agg (fB x),.bool J8] [.agg tv,.one .i] w0 K:=by
 refine ql7 ?_;have h:=oG [] w0;have g:=Sg.start F w0;have hl:=hx.lens;have aI:(fC n k v).1<=100000:=(by unfold fC;split<;>assumption);refine oD h λr1 w2 _ f h=>oD h λr3 w4 _ f h=>oD h λr5 w6 _ f h=>oD h λr7 w8 _ f h=>oF h 0 rfl (tl (0,J8,dN,0)) λw9 h f=>Mj h 3 (Fh k v)<|Mj h 2 x<|KN hl λaL ap=>?_;have h:=h.q9 ap;refine jd (λ_ w'=>∃(x':mp) (n':dX) (ks:Sl) (key:Key) (o:Int) (F' T:Mk) (wa:Md) (M':eU),Sg F w0 wa F' T/\TW dbk pb FD D j wa (T++Y) F' M'/\dY T wa w' [(r7,.c (tl (0,J8,ks,o)) GR),(r5,.c (tl (0,false,dN,0)) GR),(r3,.c (fB x') ND),(r1,.c (qH (lM k v pb t)) WK)]/\
   fe (Zo FD (T++Y) F') wa x' n'/\eY (Zo FD (T++Y) F') wa ks key/\n'.J6.length<=100000/\n'.Q0.length<=100000/\n'.J9.length<=100000/\jf o/\fj key/\gT k v M p n J8=((⟨(ee k v M' p n').1.1,J8,key,o⟩,(ee k v M' p n').1.2),(ee k v M' p n').2)) ?_ ?_
 apply eF<;>intro J;have J:(fC n k v).1>(fC n k v).2:=(by have:=zC J;dsimp only at this;omega);have ai:=hm J;have U:wrap .i64 (Int.tdiv ((fC n k v).1:Int) 2)=(((fC n k v).1 / 2:Nat):Int):=(by rw[LZ oL,gJ _ oL];rfl);generalize aj:(fC n k v).1 / 2=E at ai U;refine Mj h 2 x ?_;rw[U];have G:=hT.cG h;refine qzT (hx.cG h) ai oL λxl xr ks aM aq ar ab ac=>?_;have V:=G.q9 ac;have g:=g.cE h ac;have h:=uy h ac λ_ _ h=>nomatch h;refine oD h λaN aO _ f h=>oD h λaP aQ _ f h=>oF h 1 rfl (fB xl) λaR h f=>oF h 0 rfl (fB xr) λaT h f=>Mj h 5 (lM k v pb t)<|Mj h 0 xr ?_;have hH:(eP n E).1.J6.length<=100000/\(eP n E).1.Q0.length<=100000/\(eP n E).1.J9.length<=100000/\(eP n E).2.1.J6.length<=100000/\(eP n E).2.1.Q0.length<=100000/\(eP n E).2.1.J9.length<=100000:=by unfold eP;split<;>simp only[yL,yC]<;>omega
 refine An (V.J0 h) (ar.J0 h) oL oL oL λF1 aw aa O ad=>?_;have ae:=(aq.J0 h).next O ad;have af:=qu8 (ue ab h) O ad;have g:=g.next h O ad;have h:=(V.J0 h).own h O;apply eF<;>intro I;have ax:(ee k v M 0 (eP n E).2.1).1.2≠0:=by rw[zT] at I;exact zR.1 I
 have e:gT k v M p n J8=((ru,(ee k v M 0 (eP n E).2.1).1.2),(ee k v M 0 (eP n E).2.1).2):=(by unfold gT;rw[iP J,aj,iP ax]);rw[e] at kk;exact oF h 3 rfl (tl (0,false,dN,0)) λay h f=>Mj h 3 (0,false,dN,0)<|kk dN F1 ay Kf (aa.J0 h).j7 (.nil _ _ _ _) (g.fr h) g.new;have he:¬(ee k v M 0 (eP n E).2.1).1.2≠0:=λe=>by rw[yE,yP] at I;exact e I
 refine Mj h 1 xl<|oF h 4 rfl (fB xl) λaV h f=>oI h 2 rfl (tl (0,J8,dN,(ee k v M 0 (eP n E).2.1).1.1)) rfl rfl (zO rfl) λaW h f=>oI h 2 rfl (tl (0,J8,ks,(ee k v M 0 (eP n E).2.1).1.1)) rfl rfl (zO rfl) λaX h f=>⟨xl,(eP n E).1,ks,(eP n E).2.2,_,F1,_,aw,_,g,aa,h.sub (.cons _ (.cons _ (.refl _))),ae,af,hH.1,hH.2.1,hH.2.2.1,Aq hT.wf ⟨oO,oO⟩,?_,?_⟩;unfold eP;split;exact xm hx.2.1.1 _;exact xm hx.2.1.1 _;unfold gT;rw[iP J,aj,iN he];have J:¬(fC n k v).1>(fC n k v).2:=(by have:=zB J;dsimp only at this;omega);refine⟨x,n,dN,[],0,F,[],w0,M,g,hT,h,hx,.nil _ _ _ _,h1,h2,h3,⟨oO,oO⟩,.nil,?_⟩;unfold gT;rw[iN J];rintro aY aZ ⟨x',n',ks,key,o,F1,T,wa,M',g,G,h,az,aA,l1,l2,l3,uo,bk,e⟩;rw[e] at kk;refine Mj h 3 (lM k v pb t)<|Mj h 2 x'<|An (G.J0 h) (az.J0 h) oL oL oL λF2 a2 ak ag al=>?_;have ab:=qu8 (ue aA h) ag al;have g:=g.next h ag al
 have h:=(G.J0 h).own h ag;exact oF h 0 rfl (tl ((ee k v M' p n').1.1,J8,ks,o)) λa3 h f=>Mj h 0 ((ee k v M' p n').1.1,J8,ks,o)<|oF h 1 rfl (tl ((ee k v M' p n').1.1,J8,ks,o)) λaB h f=>Mj h 1 ((ee k v M' p n').1.1,J8,ks,o)<|kk ks F2 aB ⟨Aq G.wf hp,uo,bk⟩ (ak.J0 h).j7 (Iz (ue ab h)) (g.fr h) g.new
def qsb{α β:Type}(f:α->β)(l:List α)(i:Nat)(x:α):(gz l i x).map f=gz (l.map f) i (f x):=by unfold gz;rw[xL,xL,xN,xO];rfl
def qrT{α β:Type}(f:α->β)(l:List α)(i:Nat):(iY l i).map f=iY (l.map f) i:=by unfold iY;rw[xL,xN,xO]
def G5{α:Type}{l:List α}{y:α}(h:y∈iY l i):y∈l:=by unfold iY at h;exact (zD.1 h).elim yV yU
abbrev pE (Z:Mk) (w:Md) (Z':Mk):Prop:=∀b∈Z',b∈Z\/w.z<=b
def Ej{pk':sP}{I:Sl}{l':List Key}(J:∀p∈pk,eY Z w p.1 p.2)(E:eZ ir 1 w' I (jG pk') B')(e:io pk'=l')(f:Fr B w w')(G:∀b∈B,b∈Z)(O:pE Z w Z')(U:∀p∈pk',p∈pk\/eY Z w p.1 p.2):kE Z' w' I l' B':=
 ⟨pk',E,e,λp h=>((U p h).elim (J p) id).j0 (f.mono λb E _=>G b E) O⟩
def kE.ins(h:kE Z w s l B)(G:∀b∈B,b∈Z)(hi:i<=l.length)(U:ii=i)(O:l.length<=100000)(V:w.heap[vb]?=some (.c #[je ks] T'))(I:vb∉B)(hk:eY Z w ks key)(kk:∀E B' w',(∀Z',pE Z w Z'->kE Z' w' E (gz l i key) B')->Fr B w w'->(∀b∈B',b∈B\/w.z<=b)->K E w'): cW 262 [s.v,.i ii,.slice (pW vb) 1 1] di w K:=by obtain⟨pk,hb,rfl,J⟩:=h;rw[zK] at hi O;refine qxq hb (by rw[zK];exact hi) U (by rw[zK];exact O) V I λE B' w' b' f n=>kk E B' w' (λZ' hZ=>Ej (pk':=gz pk i (ks,key)) J (by rw[show jG (gz pk i (ks,key))=gz (jG pk) i ks from qsb _ _ _ _];exact b') (qsb _ _ _ _) f G hZ λp J=>?_) f n;rcases GW J with rfl|h;exact .inr hk;exact .inl h
def kE.del(h:kE Z w s l B)(G:∀b∈B,b∈Z)(hi:i<l.length)(O:ii=i)(U:jj=((i+1:Nat):Int))(J:l.length<=100000)(V:∀E w',(∀Z',pE Z w Z'->kE Z' w' E (iY l i) B)->Fr B w w'->K E w'): cW 296 [s.v,.i ii,.i jj] di w K:=by obtain⟨pk,hb,rfl,I⟩:=h;rw[zK] at hi J;exact qxm hb (by rw[zK];exact hi) O U (by rw[zK];exact J) λE w' b' f=>V E w' (λZ' hZ=>Ej (pk':=iY pk i) I (by rw[show jG (iY pk i)=iY (jG pk) i from qrT _ _ _];exact b') (qrT _ _ _) f G hZ λp I=>.inl (G5 I)) f
def kE.set{K:WP}(h:kE Z w s l B)(E:∀b∈B,b∈Z)(hi:i<l.length)(J:ii=i)(O:eY Z w ks key)(U:∀w',(∀Z',pE Z w Z'->kE Z' w' s (l.set i key) B)->Fr B w w'->K w'):idx s ii 1 λa=>st a [ks.v] w K:=by obtain⟨pk,I,rfl,G⟩:=h;rw[zK] at hi;refine eZ.A3 I J (by rw[zK];exact hi) λb V=>?_;subst V;refine eZ.ET (λ_=>rfl) I (by rw[zK];exact hi) rfl rfl λw' b' f=>U w' (λZ' hZ=>Ej (pk':=pk.set i (ks,key)) G (by rw[show jG (pk.set i (ks,key))=(jG pk).set i ks from map_set];exact b') (map_set) f E hZ λp G=>?_) f;rcases mem_or_eq_of_mem_set G with h|rfl;exact .inl h;exact .inr O
def kE.Fk(h:kE Z w s l B)(G:∀b∈B,b∈Z)(J:l.length<=100000)(O:w.heap[vb]?=some (.c #[je ks] T'))(U:eY Z w ks key)(V:∀E B' w',(∀Z',pE Z w Z'->kE Z' w' E (l++[key]) B')->Fr B w w'->(∀b∈B',b∈B\/w.z<=b)->K E w'): Pt.run di ((Builtin.append_ #[116,116] 116 #[s.v,.slice (pW vb) 1 1]).run prog w) K:=by obtain⟨pk,hb,rfl,I⟩:=h;rw[zK] at J;refine te hb (by rw[zK];exact J) O λE B' w' b' f n=>V E B' w' (λZ' hZ=>Ej (pk':=pk++[(ks,key)]) I (by rw[show jG (pk++[(ks,key)])=jG pk++[ks] by simp];exact b') oN f G hZ λp I=>?_) f n;rcases zD.1 I with h|h;exact .inl h;rw[zE.1 h];exact .inr U
def kE.zu(h:kE Z w s l B)(I:∀b∈B,b∈Z)(hl:l.length+ps.length<=100000)(E:eT ir 1 S w src (jG ps))(J:∀p∈ps,eY Z w p.1 p.2)(kk:∀G B' w',(∀Z',pE Z w Z'->kE Z' w' G (l++io ps) B')->Fr B w w'->(∀b∈B',b∈B\/w.z<=b)->K G w'): Pt.run di ((Builtin.append_ #[116,116] 116 #[s.v,src.v]).run prog w) K:=by obtain⟨pk,hb,rfl,O⟩:=h;rw[zK] at hl;obtain⟨ae,U,hz,V,aa⟩:=GZ;refine eZ.j2 hb AZ oM U hz V rfl (yd (e':=79) E AZ qzH oM) E.1 (by rw[aa,zK,E.1,zK];omega) (by rw[zK,E.1,zK];omega) λG B' w' b' f n _=>kk G B' w' (λZ' hZ=>Ej (pk':=pk++ps) O (by rw[show jG (pk++ps)=jG pk++jG ps by simp];exact b') oN f I hZ λp O=>?_) f n;rcases zD.1 O with h|h;exact .inl h;exact .inr (J p h)
def qDw{l ys:Ml}(h:eZ jS 1 w s l B)(hl:l.length+ys.length<=100000)(E:eT jS 1 S w src ys)(U:∀G B' w',eZ jS 1 w' G (l++ys) B'->Fr B w w'->(∀b∈B',b∈B\/w.z<=b)->K G w'): Pt.run di ((Builtin.append_ #[117,117] 117 #[s.v,src.v]).run prog w) K:=by obtain⟨V,I,hz,J,O⟩:=Cb;exact eZ.j2 h wR oM I hz J rfl (yd (e':=35) E wR (λx u hu=>by rw[zE.1 hu];rfl) oM) E.1 (by rw[O,E.1];omega) (by rw[E.1];omega) λG B' w' b' f n _=>U G B' w' b' f n
def qFY{l:Ml}{x:Int}{K:WP}(h:eZ jS 1 w s l B)(hi:i<l.length)(E:ii=i)(G:∀w',eZ jS 1 w' s (l.set i x) B->Fr B w w'->K w'):idx s ii 1 λa=>st a [.u x] w K:=by refine eZ.A3 h E hi λb I=>?_;subst I;exact eZ.ET (λ_=>rfl) h hi rfl rfl G
def gc.uW(h:gc Z w x n B):∃Bk,kE Z w x.2.1 n.J6 Bk/\(∀b∈Bk,b∈B)/\∀J I Bk' w',Fr Bk w w'->(∀b∈Bk,b∈Z)->(∀b∈Bk',b∈Bk\/w.z<=b)->(∀a∈I,fj a)-> ∃B',(∀b∈B',b∈B\/w.z<=b)/\∀Z',pE Z w Z'->kE Z' w' J I Bk'->gc Z' w' (x.1,J,x.2.2) { n with J6:=I } B':=by
 obtain⟨h0,O,Bk,Bv,Bi,rfl,U,hk,hv,hi⟩:=h;obtain⟨n1,n2,V⟩:=yM.1 U;refine⟨Bk,hk,λb E=>by simp[E],λJ I Bk' w' f hz nk hl=>⟨Bk'++(Bv++Bi),λb E=>?_,λZ' hZ G=>⟨h0,⟨hl,O.2⟩,Bk',Bv,Bi,rfl,?_,G,hv.j0 f (λb E hm=>V b hm b (by simp[E]) rfl) (λb E=>.inl (hz b E)) hZ,hi.j0 f λb E hm=>V b hm b (by simp[E]) rfl⟩⟩⟩;rcases zD.1 E with E|E;exact (nk b E).imp (λh=>by simp[h]) id;exact .inl (zI _ E);have ab:Bk'.Nodup:=(by obtain⟨_,E,_⟩:=G;exact DH E);refine yM.2 ⟨ab,n2,λa ha b E e=>?_⟩;subst e;rcases nk a ha with h1|h1;exact V a h1 a E rfl;rcases zD.1 E with E|E;have:=hv.lt a E;omega;have:=hi.lt a E;omega
def gc.uM(h:gc Z w x n B):∃I,kE Z w x.2.2.1 n.Q0 I/\(∀b∈I,b∈B)/\∀s' l' G w',Fr I w w'->(∀b∈I,b∈Z)->(∀b∈G,b∈I\/w.z<=b)->(∀a∈l',fj a)-> ∃B',(∀b∈B',b∈B\/w.z<=b)/\∀Z',pE Z w Z'->kE Z' w' s' l' G->gc Z' w' (x.1,x.2.1,s',x.2.2.2) { n with Q0:=l' } B':=by
 obtain⟨h0,J,Bk,I,Bi,rfl,ac,hk,hv,hi⟩:=h;obtain⟨n1,n2,n3⟩:=yM.1 ac;obtain⟨m1,m2,m3⟩:=yM.1 n2;refine⟨I,hv,λb E=>by simp[E],λs' l' G w' f hz nv hl=>⟨Bk++(G++Bi),λb E=>?_,λZ' hZ O=>⟨h0,⟨J.1,hl,J.2.2⟩,Bk,G,Bi,rfl,?_,hk.j0 f (λb E hm=>n3 b E b (by simp[hm]) rfl) (λb E=>.inl (hz b E)) hZ,O,hi.j0 f λb E hm=>m3 b hm b E rfl⟩⟩⟩;simp only[zD] at E⊢;rcases E with E|E|E;exact .inl (.inl E);exact (nv b E).imp (λh=>.inr (.inl h)) id;exact .inl (.inr (.inr E));have ag:G.Nodup:=(by obtain⟨_,E,_⟩:=O;exact DH E);refine yM.2 ⟨n1,yM.2 ⟨ag,m2,λa U b E e=>?_⟩,λa U b E e=>?_⟩;subst e;rcases nv a U with V|V;exact m3 a V a E rfl;have:=hi.lt a E;omega;subst e;rcases zD.1 E with E|E;rcases nv a E with V|V;exact n3 a U a (by simp[V]) rfl;have:=hk.lt a U;omega;exact n3 a U a (by simp[E]) rfl
def gc.uN(h:gc Z w x n B):∃I,eZ jS 1 w x.2.2.2 n.J9 I/\(∀b∈I,b∈B)/\∀s' l' G w',Fr I w w'->(∀b∈I,b∈Z)->(∀b∈G,b∈I\/w.z<=b)->(∀a∈l',jf a)-> ∃B',(∀b∈B',b∈B\/w.z<=b)/\∀Z',pE Z w Z'->eZ jS 1 w' s' l' G->gc Z' w' (x.1,x.2.1,x.2.2.1,s') { n with J9:=l' } B':=by
 obtain⟨h0,O,Bk,Bv,I,rfl,ac,hk,hv,hi⟩:=h;obtain⟨n1,n2,n3⟩:=yM.1 ac;obtain⟨m1,m2,m3⟩:=yM.1 n2;refine⟨I,hi,λb E=>by simp[E],λs' l' G w' f hz ni hl=>⟨Bk++(Bv++G),λb E=>?_,λZ' hZ U=>⟨h0,⟨O.1,O.2.1,hl⟩,Bk,Bv,G,rfl,?_,hk.j0 f (λb E hm=>n3 b E b (by simp[hm]) rfl) (λb E=>.inl (hz b E)) hZ,hv.j0 f (λb E hm=>m3 b E b hm rfl) (λb E=>.inl (hz b E)) hZ,U⟩⟩⟩;simp only[zD] at E⊢;rcases E with E|E|E;exact .inl (.inl E);exact .inl (.inr (.inl E));exact (ni b E).imp (λh=>.inr (.inr h)) id;refine yM.2 ⟨n1,yM.2 ⟨m1,DH U,λa J b E e=>?_⟩,λa J b E e=>?_⟩;subst e;rcases ni a E with V|V;exact m3 a J a V rfl;have:=hv.lt a J;omega;subst e;rcases zD.1 E with E|E;exact n3 a J a (by simp[E]) rfl;rcases ni a E with V|V;exact n3 a J a (by simp[V]) rfl;have:=hk.lt a J;omega
structure Ed (dbk pb:Nat) (FD:Mk) (D:dQ) (j:Nat) (S0 N0:Mk) (w0 wa:Md) (T Y F:Mk) (M:eU) (x:mp) (n:dX) (B:Mk):Prop where
 sg:Sg S0 w0 wa F T
 tw:TW dbk pb FD D j wa (T++(B++Y)) F M
 node:gc (Zo FD (T++(B++Y)) F) wa x n B
 sep:∀ b∈T,b∉B
 cL:∀ b∈B,b∈N0\/w0.z<=b
 cV:∀ b∈N0,b∈S0
 cO:∀ b∈B,b∉Y
def Ed.J0(e:Ed dbk pb FD D j S0 N0 w0 wa T Y F M x n B)(h:dY T wa w L):Ed dbk pb FD D j S0 N0 w0 w (fU L) Y F M x n B where
 sg:=⟨e.sg.fr h,e.sg.new,e.sg.fU h⟩
 tw:=e.tw.J0 h
 node:=e.node.j0 h.fr (λb E G=>e.sep b G E) (λb E=>.inl (by simp[E])) (HF h)
 sep:=λb E G=>by
  obtain⟨q,J,rfl⟩:=mem_map.1 E;rcases h.own q J with I|I;exact e.sep _ I G;have:=e.node.lt _ G;omega
 cL:=e.cL
 cV:=e.cV
 cO:=e.cO
def Ed.rd(e:Ed dbk pb FD D j S0 N0 w0 wa T Y F M x n B):∀b∈B,b∈Zo FD (T++(B++Y)) F:=λb h=>by simp[h]
def Ed.qf{x':mp}{n':dX}{Bk:Mk}(e:Ed dbk pb FD D j S0 N0 w0 w (fU L) Y F M x n B)(h:dY T wa w L)(J:∀b∈Bk,b∈B)(f:Fr Bk w w')(U:gc (Zo FD (fU L++(B'++Y)) F) w' x' n' B')(I:∀b∈B',b∈B\/w.z<=b):Ed dbk pb FD D j S0 N0 w0 w' (fU L) Y F M x' n' B'/\dY (fU L) w' w' L:=by
 refine⟨⟨⟨e.sg.tJ.j8 f λb E=>(e.cL b (J b E)).imp (e.cV b) id,e.sg.new,e.sg.own⟩,e.tw.cQ (f.mono λb E _=>by simp[J b E]) (λb E=>?_) λb E=>?_,U,λb E O=>?_,λb E=>(I b E).elim (e.cL b) λG=>.inr (zL e.sg.tJ.size G),e.cV,λb E V=>?_⟩,uy h f λb E O=>e.sep b E (J b O)⟩;rcases zD.1 E with E|E;exact yD (e.tw.uU b (by simp[E])) f.size;rcases zD.1 E with E|E;exact U.lt b E;exact yD (e.tw.uU b (by simp[E])) f.size;rcases zD.1 E with E|E;exact .inl (by simp[E]);rcases zD.1 E with E|E;exact (I b E).imp (λh=>by simp[h]) id;exact .inl (by simp[E]);rcases I b O with G|G;exact e.sep b E G;have:=e.tw.uU b (by simp[E]);omega;rcases I b E with G|G;exact e.cO b G V;have:=e.tw.uU b (by simp[V]);omega
def Ed.eX(e:Ed dbk pb FD D j S0 N0 w0 w T Y F M x n B)(G:∀b∈B',b∈B\/w.z<=b):pE (Zo FD (T++(B++Y)) F) w (Zo FD (T++(B'++Y)) F):=λb E=>by simp only[Zo,zD,zG] at E⊢;rcases E with (E|E|E|E|E)|E;simp[E];simp[E];simp[E];exact (G b E).imp (λh=>by simp[h]) id;simp[E];simp[E]
def Ed.next(e:Ed dbk pb FD D j S0 N0 w0 w (fU L) Y F M x n B)(h:dY T wa w L)(I:TW dbk pb FD D j w' (fU L++(B++Y)) F' M')(f:Fr F w w')(G:∀b∈F',b∈F\/w.z<=b):Ed dbk pb FD D j S0 N0 w0 w' (fU L) Y F' M' x n B/\dY (fU L) w' w' L:=by have J:∀b∈fU L,b∉F:=λb E=>e.tw.yf b (by simp[E]);refine⟨⟨⟨e.sg.tJ.j8 f e.sg.new,λb E=>(G b E).elim (e.sg.new b) λO=>.inr (zL e.sg.tJ.size O),e.sg.own⟩,I,e.node.j0 f (λb E=>e.tw.yf b (by simp[E])) (λb E=>.inl (AN E)) (TW.AI G),e.sep,e.cL,e.cV,e.cO⟩,uy h f J⟩
def Ed.cE(e:Ed dbk pb FD D j S0 N0 w0 w (fU L) Y F M x n B)(h:dY T wa w L)(f:Fr [] w w'):Ed dbk pb FD D j S0 N0 w0 w' (fU L) Y F M x n B/\dY (fU L) w' w' L:=
 e.next h (e.tw.q9 f) (f.mono λ_ h=>nomatch h) λb E=>.inl E
def Ed.cD(e:Ed dbk pb FD D j S0 N0 w0 w T Y F M x n B):fe (Zo FD (T++Y) F) w x n:=
 e.node.rd (λb h E=>by
  simp only[Zo,zD,zG] at E;have G:=e.tw.sep b (by simp[h]);rcases E with (E|E|E|E)|E;exact G.1 E;exact G.2 E;exact e.sep b E h;exact e.cO b h E;exact e.tw.yf b (by simp[h]) E) λb h=>.inl (by
  simp only[Zo,zD,zG] at h⊢;rcases h with (h|h|h|h)|h<;>simp[h])
def Ed.uz(e:Ed dbk pb FD D j S0 N0 w0 w T Y F M x n B):TW dbk pb FD D j w (T++Y) F M:=e.tw.y4 λb E=>(zD.1 E).elim (λh=>by simp[h]) λh=>by simp[h]
variable {l:Key} {f:Nat} {Bl:Mk}
section
variable {dbk pb j:Nat} {FD S0 N0 Y F F' F0 T T1 B B' Bk Bk':Mk} {D:dQ} {w0 wa w w':Md} {M M':eU} {L:Mq} {x x':mp} {n n':dX} {i q:Nat} {ii jj:Int} {ks:Sl} {key:Key} {vb:Nat} {T':Mf}
structure pG (FD Y F B B':Mk) (T:Mk) (w w':Md):Prop where
 cY:∀ s l,eY (Zo FD (T++(B++Y)) F) w s l->eY (Zo FD (T++(B'++Y)) F) w' s l
 node:∀ x n,fe (Zo FD (T++(B++Y)) F) w x n->fe (Zo FD (T++(B'++Y)) F) w' x n
def Ed.ma(e:Ed dbk pb FD D j S0 N0 w0 w T Y F M x n B)(G:∀b∈Bk,b∈B)(f:Fr Bk w w')(I:∀b∈B',b∈B\/w.z<=b):pG FD Y F B B' T w w':=⟨λs l h=>h.j0 (f.mono λb E _=>by simp[G b E]) (e.eX I),λx n h=>h.j0 (f.mono λb E _=>by simp[G b E]) (e.eX I)⟩
def Ed.cY(e:Ed dbk pb FD D j F0 N0 w0 w T Y F M x n B)(G:eY (Zo FD Y F0) w0 s l):eY (Zo FD (T++(B++Y)) F) w s l:=
 G.j0 (e.sg.tJ.mono λb E _=>AN E) λb E=>by rcases zD.1 E with E|E;rcases zD.1 E with E|E;exact .inl (by simp[E]);rcases zG.1 E with E|E;exact .inl (by simp[E]);rcases zD.1 E with E|E;exact (e.sg.own b E).imp (λh=>AN h) id;rcases zD.1 E with E|E;exact (e.cL b E).imp (λh=>AN (e.cV b h)) id;exact .inl (by simp[E]);exact (e.sg.new b E).imp (λh=>AN h) id
def Ed.sub(e:Ed dbk pb FD D j S0 N0 w0 w T Y F M x n B)(G:∀b∈T1,b∈T):Ed dbk pb FD D j S0 N0 w0 w T1 Y F M x n B where
 sg:=⟨e.sg.tJ,e.sg.new,λb E=>e.sg.own b (G b E)⟩
 tw:=e.tw.y4 λb E=>(zD.1 E).elim (λh=>zH _ (G b h)) λh=>zI _ h
 node:=e.node.j6 λb E=>.inl (by simp only[Zo,zD,zG] at E⊢;rcases E with (E|E|E|E)|E;simp[E];simp[E];simp[G b E];simp[E];simp[E])
 sep:=λb E=>e.sep b (G b E)
 cL:=e.cL
 cV:=e.cV
 cO:=e.cO
def Ko{L:Mq}{q vb:Nat}{o:Obj}(h:L[q]?=some (vb,o)):vb∈fU L:=mem_map.2 ⟨_,yF h,rfl⟩
def Ed.cS(e:Ed dbk pb FD D j S0 N0 w0 w (fU L) Y F M x n B)(h:dY T wa w L)(hi:i<=n.J6.length)(V:ii=i)(hl:n.J6.length<=100000)(q:Nat)(U:L[q]?=some (vb,.c #[je ks] T'))(hk:eY (Zo FD (fU L++(B++Y)) F) w ks key)(hB:fj key)(kk:∀G B' w',Ed dbk pb FD D j S0 N0 w0 w' (fU L) Y F M (x.1,G,x.2.2) { n with J6:=gz n.J6 i key } B'->dY (fU L) w' w' L->pG FD Y F B B' (fU L) w w'->K G w'): cW 262 [x.2.1.v,.i ii,.slice (pW vb) 1 1] di w K:=by obtain⟨Bk,I,E,O⟩:=e.node.uW;refine I.ins (λb I=>e.rd b (E b I)) hi V hl (h.at U) (λhm=>e.sep vb (Ko U) (E vb hm)) hk λG Bk' w' hz f nk=>?_;obtain⟨B',J,hN⟩:=O G _ Bk' w' f (λb I=>e.rd b (E b I)) nk λa ha=>(GW ha).elim (λh=>by rw[h];exact hB) (e.node.2.1.1 a);obtain⟨e',h'⟩:=e.qf h E f (hN _ (e.eX J) (hz _ (e.eX J))) J;exact kk G B' w' e' h' (e.ma E f J)
def Ed.wK(e:Ed dbk pb FD D j S0 N0 w0 w (fU L) Y F M x n B)(h:dY T wa w L)(hi:i<=n.Q0.length)(V:ii=i)(hl:n.Q0.length<=100000)(q:Nat)(U:L[q]?=some (vb,.c #[je ks] T'))(hk:eY (Zo FD (fU L++(B++Y)) F) w ks key)(hB:fj key)(kk:∀G B' w',Ed dbk pb FD D j S0 N0 w0 w' (fU L) Y F M (x.1,x.2.1,G,x.2.2.2) { n with Q0:=gz n.Q0 i key } B'->dY (fU L) w' w' L->pG FD Y F B B' (fU L) w w'->K G w'): cW 262 [x.2.2.1.v,.i ii,.slice (pW vb) 1 1] di w K:=by obtain⟨Bk,I,E,O⟩:=e.node.uM;refine I.ins (λb I=>e.rd b (E b I)) hi V hl (h.at U) (λhm=>e.sep vb (Ko U) (E vb hm)) hk λG Bk' w' hz f nk=>?_;obtain⟨B',J,hN⟩:=O G _ Bk' w' f (λb I=>e.rd b (E b I)) nk λa ha=>(GW ha).elim (λh=>by rw[h];exact hB) (e.node.2.1.2.1 a);obtain⟨e',h'⟩:=e.qf h E f (hN _ (e.eX J) (hz _ (e.eX J))) J;exact kk G B' w' e' h' (e.ma E f J)
def Ed.wC{I:Int}(e:Ed dbk pb FD D j S0 N0 w0 w (fU L) Y F M x n B)(h:dY T wa w L)(hi:i<=n.J9.length)(he:ii=i)(hl:n.J9.length<=100000)(q:Nat)(V:L[q]?=some (vb,.c #[.u I] T'))(hB:jf I)(kk:∀G B' w',Ed dbk pb FD D j S0 N0 w0 w' (fU L) Y F M (x.1,x.2.1,x.2.2.1,G) { n with J9:=gz n.J9 i I } B'->dY (fU L) w' w' L->pG FD Y F B B' (fU L) w w'->K G w'): cW 264 [x.2.2.2.v,.i ii,.slice (pW vb) 1 1] di w K:=by obtain⟨Bk,J,E,O⟩:=e.node.uN;refine qxr J hi he hl (h.at V) (λhm=>e.sep vb (Ko V) (E vb hm)) λG Bk' w' hz f nk=>?_;obtain⟨B',U,hN⟩:=O G _ Bk' w' f (λb J=>e.rd b (E b J)) nk λa ha=>(GW ha).elim (λh=>by rw[h];exact hB) (e.node.2.1.2.2 a);obtain⟨e',h'⟩:=e.qf h E f (hN _ (e.eX U) hz) U;exact kk G B' w' e' h' (e.ma E f U)
def Ed.EE(e:Ed dbk pb FD D j S0 N0 w0 w (fU L) Y F M x n B)(h:dY T wa w L)(hi:i<n.J6.length)(U:ii=i)(V:jj=((i+1:Nat):Int))(hl:n.J6.length<=100000)(kk:∀I B' w',Ed dbk pb FD D j S0 N0 w0 w' (fU L) Y F M (x.1,I,x.2.2) { n with J6:=iY n.J6 i } B'->dY (fU L) w' w' L->pG FD Y F B B' (fU L) w w'->K I w'): cW 296 [x.2.1.v,.i ii,.i jj] di w K:=by obtain⟨Bk,G,E,O⟩:=e.node.uW;refine G.del (λb G=>e.rd b (E b G)) hi U V hl λI w' hz f=>?_;obtain⟨B',J,hN⟩:=O I _ Bk w' f (λb G=>e.rd b (E b G)) (λb G=>.inl G) λa ha=>e.node.2.1.1 a (G5 ha);obtain⟨e',h'⟩:=e.qf h E f (hN _ (e.eX J) (hz _ (e.eX J))) J;exact kk I B' w' e' h' (e.ma E f J)
def Ed.Iv(e:Ed dbk pb FD D j S0 N0 w0 w (fU L) Y F M x n B)(h:dY T wa w L)(hi:i<n.Q0.length)(U:ii=i)(V:jj=((i+1:Nat):Int))(hl:n.Q0.length<=100000)(kk:∀I B' w',Ed dbk pb FD D j S0 N0 w0 w' (fU L) Y F M (x.1,x.2.1,I,x.2.2.2) { n with Q0:=iY n.Q0 i } B'->dY (fU L) w' w' L->pG FD Y F B B' (fU L) w w'->K I w'): cW 296 [x.2.2.1.v,.i ii,.i jj] di w K:=by obtain⟨Bk,G,E,O⟩:=e.node.uM;refine G.del (λb G=>e.rd b (E b G)) hi U V hl λI w' hz f=>?_;obtain⟨B',J,hN⟩:=O I _ Bk w' f (λb G=>e.rd b (E b G)) (λb G=>.inl G) λa ha=>e.node.2.1.2.1 a (G5 ha);obtain⟨e',h'⟩:=e.qf h E f (hN _ (e.eX J) (hz _ (e.eX J))) J;exact kk I B' w' e' h' (e.ma E f J)
def Ed.KS(e:Ed dbk pb FD D j S0 N0 w0 w (fU L) Y F M x n B)(h:dY T wa w L)(hi:i<n.J9.length)(U:ii=i)(V:jj=((i+1:Nat):Int))(hl:n.J9.length<=100000)(kk:∀G B' w',Ed dbk pb FD D j S0 N0 w0 w' (fU L) Y F M (x.1,x.2.1,x.2.2.1,G) { n with J9:=iY n.J9 i } B'->dY (fU L) w' w' L->pG FD Y F B B' (fU L) w w'->K G w'): cW 309 [x.2.2.2.v,.i ii,.i jj] di w K:=by obtain⟨Bk,I,E,J⟩:=e.node.uN;refine qxn I hi U V hl λG w' hz f=>?_;obtain⟨B',O,hN⟩:=J G _ Bk w' f (λb I=>e.rd b (E b I)) (λb I=>.inl I) λa ha=>e.node.2.1.2.2 a (G5 ha);obtain⟨e',h'⟩:=e.qf h E f (hN _ (e.eX O) hz) O;exact kk G B' w' e' h' (e.ma E f O)
def Ed.Eg{K:WP}(e:Ed dbk pb FD D j S0 N0 w0 w (fU L) Y F M x n B)(h:dY T wa w L)(hi:i<n.J6.length)(O:ii=i)(U:eY (Zo FD (fU L++(B++Y)) F) w ks key)(V:fj key)(kk:∀B' w',Ed dbk pb FD D j S0 N0 w0 w' (fU L) Y F M (x.1,x.2.1,x.2.2) { n with J6:=n.J6.set i key } B'->dY (fU L) w' w' L->pG FD Y F B B' (fU L) w w'->K w'): idx x.2.1 ii 1 λa=>st a [ks.v] w K:=by
 obtain⟨Bk,G,E,J⟩:=e.node.uW;refine G.set (λb G=>e.rd b (E b G)) hi O U λw' hz f=>?_;obtain⟨B',I,hN⟩:=J x.2.1 _ Bk w' f (λb G=>e.rd b (E b G)) (λb G=>.inl G) λa ha=>(mem_or_eq_of_mem_set ha).elim (e.node.2.1.1 a) λh=>by rw[h];exact V
 obtain⟨e',h'⟩:=e.qf h E f (hN _ (e.eX I) (hz _ (e.eX I))) I;exact kk B' w' e' h' (e.ma E f I)
def Ed.Jh{K:WP}(e:Ed dbk pb FD D j S0 N0 w0 w (fU L) Y F M x n B)(h:dY T wa w L)(hi:i<n.Q0.length)(O:ii=i)(U:eY (Zo FD (fU L++(B++Y)) F) w ks key)(V:fj key)(kk:∀B' w',Ed dbk pb FD D j S0 N0 w0 w' (fU L) Y F M (x.1,x.2.1,x.2.2.1,x.2.2.2) { n with Q0:=n.Q0.set i key } B'->dY (fU L) w' w' L->pG FD Y F B B' (fU L) w w'->K w'): idx x.2.2.1 ii 1 λa=>st a [ks.v] w K:=by
 obtain⟨Bk,G,E,J⟩:=e.node.uM;refine G.set (λb G=>e.rd b (E b G)) hi O U λw' hz f=>?_;obtain⟨B',I,hN⟩:=J x.2.2.1 _ Bk w' f (λb G=>e.rd b (E b G)) (λb G=>.inl G) λa ha=>(mem_or_eq_of_mem_set ha).elim (e.node.2.1.2.1 a) λh=>by rw[h];exact V
 obtain⟨e',h'⟩:=e.qf h E f (hN _ (e.eX I) (hz _ (e.eX I))) I;exact kk B' w' e' h' (e.ma E f I)
def Ed.zp{I:Int}{K:WP}(e:Ed dbk pb FD D j S0 N0 w0 w (fU L) Y F M x n B)(h:dY T wa w L)(hi:i<n.J9.length)(U:ii=i)(V:jf I)(kk:∀B' w',Ed dbk pb FD D j S0 N0 w0 w' (fU L) Y F M (x.1,x.2.1,x.2.2.1,x.2.2.2) { n with J9:=n.J9.set i I } B'->dY (fU L) w' w' L->pG FD Y F B B' (fU L) w w'->K w'): idx x.2.2.2 ii 1 λa=>st a [.u I] w K:=by
 obtain⟨Bk,G,E,J⟩:=e.node.uN;refine qFY G hi U λw' hz f=>?_;obtain⟨B',O,hN⟩:=J x.2.2.2 _ Bk w' f (λb G=>e.rd b (E b G)) (λb G=>.inl G) λa ha=>(mem_or_eq_of_mem_set ha).elim (e.node.2.1.2.2 a) λh=>by rw[h];exact V
 obtain⟨e',h'⟩:=e.qf h E f (hN _ (e.eX O) hz) O;exact kk B' w' e' h' (e.ma E f O)
def Ed.te(e:Ed dbk pb FD D j S0 N0 w0 w (fU L) Y F M x n B)(h:dY T wa w L)(U:n.J6.length<=100000)(q:Nat)(V:L[q]?=some (vb,.c #[je ks] T'))(hk:eY (Zo FD (fU L++(B++Y)) F) w ks key)(hB:fj key)(kk:∀G B' w',Ed dbk pb FD D j S0 N0 w0 w' (fU L) Y F M (x.1,G,x.2.2) { n with J6:=n.J6++[key] } B'->dY (fU L) w' w' L->pG FD Y F B B' (fU L) w w'->K G w'): Pt.run di ((Builtin.append_ #[116,116] 116 #[x.2.1.v,.slice (pW vb) 1 1]).run prog w) K:=by
 obtain⟨Bk,I,E,O⟩:=e.node.uW;refine I.Fk (λb I=>e.rd b (E b I)) U (h.at V) hk λG Bk' w' hz f nk=>?_;obtain⟨B',J,hN⟩:=O G _ Bk' w' f (λb I=>e.rd b (E b I)) nk λa ha=>(zD.1 ha).elim (e.node.2.1.1 a) λh=>by rw[zE.1 h];exact hB
 obtain⟨e',h'⟩:=e.qf h E f (hN _ (e.eX J) (hz _ (e.eX J))) J;exact kk G B' w' e' h' (e.ma E f J)
def Ed.Cm(e:Ed dbk pb FD D j S0 N0 w0 w (fU L) Y F M x n B)(h:dY T wa w L)(U:n.Q0.length<=100000)(q:Nat)(V:L[q]?=some (vb,.c #[je ks] T'))(hk:eY (Zo FD (fU L++(B++Y)) F) w ks key)(hB:fj key)(kk:∀G B' w',Ed dbk pb FD D j S0 N0 w0 w' (fU L) Y F M (x.1,x.2.1,G,x.2.2.2) { n with Q0:=n.Q0++[key] } B'->dY (fU L) w' w' L->pG FD Y F B B' (fU L) w w'->K G w'): Pt.run di ((Builtin.append_ #[116,116] 116 #[x.2.2.1.v,.slice (pW vb) 1 1]).run prog w) K:=by
 obtain⟨Bk,I,E,O⟩:=e.node.uM;refine I.Fk (λb I=>e.rd b (E b I)) U (h.at V) hk λG Bk' w' hz f nk=>?_;obtain⟨B',J,hN⟩:=O G _ Bk' w' f (λb I=>e.rd b (E b I)) nk λa ha=>(zD.1 ha).elim (e.node.2.1.2.1 a) λh=>by rw[zE.1 h];exact hB
 obtain⟨e',h'⟩:=e.qf h E f (hN _ (e.eX J) (hz _ (e.eX J))) J;exact kk G B' w' e' h' (e.ma E f J)
def Ed.BV{I:Int}(e:Ed dbk pb FD D j S0 N0 w0 w (fU L) Y F M x n B)(h:dY T wa w L)(V:n.J9.length<=100000)(q:Nat)(hv:L[q]?=some (vb,.c #[.u I] T'))(hB:jf I)(kk:∀G B' w',Ed dbk pb FD D j S0 N0 w0 w' (fU L) Y F M (x.1,x.2.1,x.2.2.1,G) { n with J9:=n.J9++[I] } B'->dY (fU L) w' w' L->pG FD Y F B B' (fU L) w w'->K G w'): Pt.run di ((Builtin.append_ #[117,117] 117 #[x.2.2.2.v,.slice (pW vb) 1 1]).run prog w) K:=by
 obtain⟨Bk,J,E,O⟩:=e.node.uN;refine qwB J V (h.at hv) λG Bk' w' hz f nk=>?_;obtain⟨B',U,hN⟩:=O G _ Bk' w' f (λb J=>e.rd b (E b J)) nk λa ha=>(zD.1 ha).elim (e.node.2.1.2.2 a) λh=>by rw[zE.1 h];exact hB
 obtain⟨e',h'⟩:=e.qf h E f (hN _ (e.eX U) hz) U;exact kk G B' w' e' h' (e.ma E f U)
def Ed.AX(e:Ed dbk pb FD D j S0 N0 w0 w (fU L) Y F M x n B)(h:dY T wa w L)(V:n.J6.length+ps.length<=100000)(hs:eT ir 1 S w src (jG ps))(O:∀p∈ps,eY (Zo FD (fU L++(B++Y)) F) w p.1 p.2)(hB:∀a∈io ps,fj a)(kk:∀G B' w',Ed dbk pb FD D j S0 N0 w0 w' (fU L) Y F M (x.1,G,x.2.2) { n with J6:=n.J6++io ps } B'->dY (fU L) w' w' L->pG FD Y F B B' (fU L) w w'->K G w'): Pt.run di ((Builtin.append_ #[116,116] 116 #[x.2.1.v,src.v]).run prog w) K:=by obtain⟨Bk,I,E,U⟩:=e.node.uW;refine I.zu (λb I=>e.rd b (E b I)) V hs O λG Bk' w' hz f nk=>?_;obtain⟨B',J,hN⟩:=U G _ Bk' w' f (λb I=>e.rd b (E b I)) nk λa ha=>(zD.1 ha).elim (e.node.2.1.1 a) (hB a);obtain⟨e',h'⟩:=e.qf h E f (hN _ (e.eX J) (hz _ (e.eX J))) J;exact kk G B' w' e' h' (e.ma E f J)
def Ed.AC(e:Ed dbk pb FD D j S0 N0 w0 w (fU L) Y F M x n B)(h:dY T wa w L)(V:n.Q0.length+ps.length<=100000)(hs:eT ir 1 S w src (jG ps))(O:∀p∈ps,eY (Zo FD (fU L++(B++Y)) F) w p.1 p.2)(hB:∀a∈io ps,fj a)(kk:∀G B' w',Ed dbk pb FD D j S0 N0 w0 w' (fU L) Y F M (x.1,x.2.1,G,x.2.2.2) { n with Q0:=n.Q0++io ps } B'->dY (fU L) w' w' L->pG FD Y F B B' (fU L) w w'->K G w'): Pt.run di ((Builtin.append_ #[116,116] 116 #[x.2.2.1.v,src.v]).run prog w) K:=by obtain⟨Bk,I,E,U⟩:=e.node.uM;refine I.zu (λb I=>e.rd b (E b I)) V hs O λG Bk' w' hz f nk=>?_;obtain⟨B',J,hN⟩:=U G _ Bk' w' f (λb I=>e.rd b (E b I)) nk λa ha=>(zD.1 ha).elim (e.node.2.1.2.1 a) (hB a);obtain⟨e',h'⟩:=e.qf h E f (hN _ (e.eX J) (hz _ (e.eX J))) J;exact kk G B' w' e' h' (e.ma E f J)
def Ed.AJ{ys:Ml}(e:Ed dbk pb FD D j S0 N0 w0 w (fU L) Y F M x n B)(h:dY T wa w L)(U:n.J9.length+ys.length<=100000)(V:eT jS 1 S w src ys)(hB:∀y∈ys,jf y)(kk:∀G B' w',Ed dbk pb FD D j S0 N0 w0 w' (fU L) Y F M (x.1,x.2.1,x.2.2.1,G) { n with J9:=n.J9++ys } B'->dY (fU L) w' w' L->pG FD Y F B B' (fU L) w w'->K G w'): Pt.run di ((Builtin.append_ #[117,117] 117 #[x.2.2.2.v,src.v]).run prog w) K:=by obtain⟨Bk,I,E,J⟩:=e.node.uN;refine qDw I U V λG Bk' w' hz f nk=>?_;obtain⟨B',O,hN⟩:=J G _ Bk' w' f (λb I=>e.rd b (E b I)) nk λa ha=>(zD.1 ha).elim (e.node.2.1.2.2 a) (hB a);obtain⟨e',h'⟩:=e.qf h E f (hN _ (e.eX O) hz) O;exact kk G B' w' e' h' (e.ma E f O)
end
def Fm(h:dR D M k v p=(n,0)):gp n k v:=by
 unfold dR at h;split at h;rename_i E;exact absurd (Ma (·.2) h) E;have:=qu9 (by rw[h]);rw[h] at this;exact this
def AL(h:gp n k v):n.J6.length<=498/\n.Q0.length<=498/\n.J9.length<=498/\(n.Q4=true->n.Q0.length=n.J6.length/\n.J6.length<=(eG k v).1)/\(n.Q4=false->n.J6.length+1=n.J9.length/\n.J9.length<=(eG k v).2/\2<=n.J9.length):=by
 have V:=Fw (k:=k) (v:=v);obtain⟨_,_,_,E⟩:=h;cases O:n.Q4 with
 | true=>
  rw[O,iP rfl] at E;obtain⟨G,U,I,J⟩:=E;rw[G];exact⟨oL,oL,oN,λ_=>⟨J,I⟩,λh=>nomatch h⟩
 | false=>
  rw[O,iN oO] at E;obtain⟨_,G,U,I,J⟩:=E;rw[G];exact⟨oL,oN,oL,λh=>(nomatch h),λ_=>⟨J,I,U⟩⟩
def qCF{e0:Int}(h:dR D M k v p=(n,e0))(E:e0≠0):jg D k v key val (f+1) M p=((ru,e0),M):=by unfold jg;rw[h,iP E]
def qCG(h:dR D M k v p=(n,0))(E:n.Q4=true)(G:n.J6[eh n.J6 key]?=some key):jg D k v key val (f+1) M p=gT k v M p { n with Q0:=n.Q0.set (eh n.J6 key) val } false:=by unfold jg;rw[h,iN λh=>h rfl,iP E,iP G]
def qAy(h:dR D M k v p=(n,0))(E:n.Q4=true)(G:¬n.J6[eh n.J6 key]?=some key):jg D k v key val (f+1) M p=gT k v M p { n with J6:=gz n.J6 (eh n.J6 key) key,Q0:=gz n.Q0 (eh n.J6 key) val } true:=by unfold jg;rw[h,iN λh=>h rfl,iP E,iN G]
def qsD{e1:Int}(h:dR D M k v p=(n,0))(E:¬n.Q4=true)(G:jg D k v key val f M (n.J9.getD (ga n.J6 key) 0)=((g,e1),M1))(I:e1≠0):jg D k v key val (f+1) M p=((ru,e1),M1):=by unfold jg;rw[h,iN λh=>h rfl,iN E];dsimp only;rw[G,iP I]
def qAz(h:dR D M k v p=(n,0))(E:¬n.Q4=true)(G:jg D k v key val f M (n.J9.getD (ga n.J6 key) 0)=((g,0),M1))(I:g.x5=n.J9.getD (ga n.J6 key) 0/\g.x4=0):jg D k v key val (f+1) M p=((⟨p,g.J8,[],0⟩,0),M1):=by unfold jg;rw[h,iN λh=>h rfl,iN E];dsimp only;rw[G,iN λh=>h rfl,iP I]
def qEj(h:dR D M k v p=(n,0))(E:¬n.Q4=true)(G:jg D k v key val f M (n.J9.getD (ga n.J6 key) 0)=((g,0),M1))(I:¬(g.x5=n.J9.getD (ga n.J6 key) 0/\g.x4=0)):jg D k v key val (f+1) M p=gT k v M1 p (iz n (ga n.J6 key) g) g.J8:=by unfold jg;rw[h,iN λh=>h rfl,iN E];dsimp only;rw[G,iN λh=>h rfl,iN I]
def qCo(E:n.Q4=true)(G:n.Q0.length=n.J6.length):(fC n k v).1>(fC n k v).2->rA n ((fC n k v).1 / 2):=λh=>by unfold rA;have e:(fC n k v).1=n.J6.length:=(by unfold fC;rw[iP E]);rw[iP E,G];rw[e] at h⊢;omega
def qAk(E:¬n.Q4=true)(G:n.J6.length+1=n.J9.length)(I:2<=n.J9.length):(fC n k v).1>(fC n k v).2->rA n ((fC n k v).1 / 2):=λh=>by unfold rA;have e:(fC n k v).1=n.J9.length:=(by unfold fC;rw[iN E]);rw[iN E];rw[e] at h⊢;omega
def Eo{α:Type}{l:List α}{x:α}(h:i<=l.length):(gz l i x).length=l.length+1:=by unfold gz;simp;omega
def eT.cT{l:Ml}{i:Int}{K:Addr->Int->Prop}(h:eT jS 1 S w s l)(n:Nat)(hi:i=n)(U:n<l.length)(V:∀a,(∀S' w',eT jS 1 S' w' s l->w'.cell? a=some (.u l[n]))->K a l[n]):idx s i 1 λa=>ld .u a w λy=>K a y:=by
 subst hi;have J:=zA U;obtain⟨hl,b,o,O,_,cs,T,fr,hb,hc⟩:=h.at n J;refine vD O ⟨oL,oL⟩ ?_;rw[zJ];have key:∀S' w',eT jS 1 S' w' s l->w'.cell? ⟨b,o+n*1,none⟩=some (.u l[n]):=λS' w' h'=>by
  obtain⟨_,b',o',E,_,ab,T',ac,G,I⟩:=h'.at n J;rw[O] at E;cases E;rw[jI G]
  have:=Ma (·[0]?) I;simpa[jS] using this
 exact sU l[n] (key S w h) (V _ key)
def Ed.load{w7:Md}(G:∀b∈N0,b∈S0)(g:Sg S0 w0 wa F T)(h:dY T wa w L)(J:TW dbk pb FD D j w7 (B++(fU L++Y)) F M)(O:gc (Zo FD (B++(fU L++Y)) F) w7 x n B)(f:Fr [] w w7)(I:∀c∈B,w.z<=c)(U:∀b∈Y,b<w.z): Ed dbk pb FD D j S0 N0 w0 w7 (fU L) Y F M x n B/\dY (fU L) w7 w7 L:=by
 refine⟨⟨g.cE h f,J.y4 λb E=>?_,O.j6 λb E=>.inl ?_,λb E V=>?_,λb E=>.inr (zL (g.fr h).size (I b E)),G,λb E hy=>?_⟩,uy h f λ_ _ h=>nomatch h⟩;simp only[zD] at E⊢;rcases E with E|E|E<;>simp[E];simp only[Zo,zD,zG] at E⊢;rcases E with (E|E|E|E|E)|E<;>simp[E];have:=Dn h b E;have:=I b V;omega;have:=U b hy;have:=I b E;omega
def Ed.y8(e:Ed dbk pb FD D j S0 N0 w0 w T Y F M x n B):eT jS 1 (Zo FD (T++Y) F) w x.2.2.2 n.J9:=e.cD.2.2.2.2
def Ed.fr(e:Ed dbk pb FD D j S0 N0 w0 w T Y F M x n B):Fr S0 w0 w:=e.sg.tJ
def po{L':Mq}(h:dY T wa w L)(E:L'.Sublist L):dY (fU L') w w L':=(h.sub E).nI
def I5{ks vs:Sl}{key val:Key}(ag:fj key)(aj:fj val):∀(f:Nat) {Y F:Mk} {w0:Md} {M:eU} {p:Int} {K:GK×Int->WP} (hT:TW dbk pb FD D j w0 Y F M) (hp:jf p) (hk:eY (Zo FD Y F) w0 ks key) (hv:eY (Zo FD Y F) w0 vs val) (ao:(jg D k v key val f M p).1.2≠-1) (kk:∀gs F' w',K7 (jg D k v key val f M p).1.1->TW dbk pb FD D j w' Y F' (jg D k v key val f M p).2->eY (Zo FD Y F') w' gs (jg D k v key val f M p).1.1.key->Fr F w0 w'->(∀b∈F',b∈F\/w0.z<=b)->K (xn (jg D k v key val f M p).1.1 gs,(jg D k v key val f M p).1.2) w'), cW 207 [.agg (qH (lM k v pb t)),.u p,ks.v,vs.v] [.agg tv,.one .i] w0 K
 | 0,_,_,_,_,_,_,_,_,_,_,ao,_=>absurd rfl ao
 | f+1,Y,F,w0,M,p,K,hT,hp,hk,hv,ao,kk=>by
  refine qoZ ?_;unfold Hl Iq GJ;have h:=oG [] w0;have g:=Sg.start F w0;refine oD h λr1 w2 _ _ h=>oD h λr3 w4 _ _ h=>Mj h 1 (lM k v pb t) ?_;rcases U:dR D M k v p with ⟨n,e0⟩;refine Er (hT.cG h) hp λx B w7 bh aK f7 bi=>?_;rw[U] at aK⊢;dsimp only at aK;obtain⟨e,h⟩:=Ed.load (N0:=[]) (λ_ h=>nomatch h) g h bh aK f7 bi λb hb=>yD (hT.uU b hb) h.fr.size;refine oD h λr8 w9 _ _ h=>oF h 0 rfl (fB x) λbS h _=>eF (λhc=>?_) λhc=>?_;have aW:e0≠0:=by rw[zT] at hc;exact zR.1 hc
  rw[qCF U aW] at kk;exact oF h 1 rfl (tl (0,false,dN,0)) λbj h _=>Mj h 1 (0,false,dN,0)<|kk dN F bj Kf (e.J0 h).uz.j7 (.nil _ _ _ _) (e.J0 h).fr (e.J0 h).sg.new;have bk:e0=0:=by rw[yE] at hc;exact yP.1 hc
  subst bk;have hr:=Fm U;obtain⟨l1,l2,l3,l4,l5⟩:=AL hr;have e:=e.J0 h;have aX:=e.node.1;refine Mi h 0 x.1<|eF (λhc=>?_) λhc=>?_;rw[aX] at hc;obtain⟨l6,l7⟩:=l4 hc;refine Mj h 0 x<|GP e.cD (e.cY hk) ag hr.2.2.1 oL λbW bn=>?_;obtain⟨e,h⟩:=e.cE h bn;have aq:=qAu n.J6 key;refine jd (λ_ w'=>∃x' n' B',dY [r8,r3,r1] w' w' [(r8,.c (fB x') ND),(r3,.c (tl (0,false,dN,0)) GR),(r1,.c (qH (lM k v pb t)) WK)]/\Ed dbk pb FD D j F [] w0 w' [r8,r3,r1] Y F M x' n' B'/\
   jg D k v key val (f+1) M p=gT k v M p n' (!decide (n.J6[eh n.J6 key]?=some key))/\n'.Q4=true/\n'.Q0.length=n'.J6.length/\n'.J6.length<=1000/\n'.J9.length<=1000) ?_ ?_
  refine eF (λV=>?_) λV=>?_;have aM:=zC V;have bX:=(zP.1 aM).1;refine Mi h 0 x.2.2.1<|e.Jh h oL rfl (e.cY hv) aj λB' bY e h _=>⟨x,_,B',h,e,?_,hc,by dsimp only;rw[xF];exact l6,by dsimp only;omega,by dsimp only;omega⟩;rw[qCG U hc aM,yA aM];rfl;have aB:=zB V;have J:jg D k v key val (f+1) M p=gT k v M p { n with J6:=gz n.J6 (eh n.J6 key) key,Q0:=gz n.Q0 (eh n.J6 key) val } (!decide (n.J6[eh n.J6 key]?=some key)):=by rw[qAy U hc aB,zU aB];rfl
  have ar:(gz n.Q0 (eh n.J6 key) val).length=(gz n.J6 (eh n.J6 key) key).length:=(by rw[Eo oL,Eo aq,l6]);have au:(gz n.J6 (eh n.J6 key) key).length<=1000:=(by rw[Eo aq];omega);refine⟨?_,?_,?_⟩;have h:=oH h;refine Mi h 0 x.2.1<|Mi h 0 x.2.2.1<|oD h λbZ b0 _ _ h=>jU (h.cell 1) (h.cell 1) ?_;have e:=e.J0 h;refine e.cS h aq rfl oL 0 rfl (e.cY hk) ag λac B1 aY e h _=>gY (h.cell 1)<|oD h λb1 b2 _ _ h=>jU (h.cell 2) (h.cell 2) ?_;have e:=e.J0 h;exact e.wK h oP rfl oP 0 rfl (e.cY hv) aj λav B2 aZ e h _=>oF h 2 rfl (fB (x.1,ac,x.2.2.1,x.2.2.2)) λa0 h _=>oF h 2 rfl (fB (x.1,ac,av,x.2.2.2)) λa1 h _=>⟨_,_,B2,po h (.cons _ (.cons _ (.refl _))),(e.J0 h).sub oN,J,hc,ar,au,by dsimp only;omega⟩;have h:=oH h;refine Mi h 0 x.2.1<|Mi h 0 x.2.2.1<|oD h λb3 b4 _ _ h=>jU (h.cell 1) (h.cell 1)<|oD h λb5 b6 _ _ h=>jU (h.cell 2) (h.cell 2) ?_;have e:=e.J0 h;exact e.cS h aq rfl oL 1 rfl (e.cY hk) ag λac B1 aY e h _=>gY (h.cell 2)<|e.wK h oP rfl oP 0 rfl (e.cY hv) aj λav B2 aZ e h _=>oF h 2 rfl (fB (x.1,ac,x.2.2.1,x.2.2.2)) λa0 h _=>oF h 2 rfl (fB (x.1,ac,av,x.2.2.2)) λa1 h _=>⟨_,_,B2,po h (.cons _ (.cons _ (.refl _))),(e.J0 h).sub oN,J,hc,ar,au,by dsimp only;omega⟩;have h:=oH h;refine Mi h 0 x.2.1<|Mi h 0 x.2.2.1<|oD h λb7 b8 _ _ h=>jU (h.cell 1) (h.cell 1)<|oD h λb9 ca _ _ h=>jU (h.cell 2) (h.cell 2) ?_;have e:=e.J0 h;exact e.cS h aq rfl oL 0 rfl (e.cY hk) ag λac B1 aY e h _=>gY (h.cell 2)<|e.wK h oP rfl oP 1 rfl (e.cY hv) aj λav B2 aZ e h _=>oF h 2 rfl (fB (x.1,ac,x.2.2.1,x.2.2.2)) λa0 h _=>oF h 2 rfl (fB (x.1,ac,av,x.2.2.2)) λa1 h _=>⟨_,_,B2,po h (.cons _ (.cons _ (.refl _))),(e.J0 h).sub oN,J,hc,ar,au,by dsimp only;omega⟩;rintro _ cc ⟨x',n',B',h,e,J,m0,m1,m2,m3⟩;rw[J] at kk;refine Mj h 2 (lM k v pb t)<|Mj h 0 x'<|qsR e.uz e.cD oL oL oL (qCo m0 m1) hp λgs F' cf hG a2 E a3 bo=>?_;have g:=e.sg.next h a3 bo
  have h:=uy h a3 λb hb=>e.uz.yf b (by simp at hb⊢;rcases hb with h|h|h<;>simp[h]);exact oI h 1 rfl (tl (xn (gT k v M p n' (!decide (n.J6[eh n.J6 key]?=some key))).1.1 gs)) rfl rfl (zO rfl) λbp h _=>oE h 1 rfl (xn (gT k v M p n' (!decide (n.J6[eh n.J6 key]?=some key))).1.1 gs) rfl<|kk gs F' bp hG (a2.J0 h).j7 (Iz (ue E h)) (g.fr h) g.new
  ·rw[aX] at hc;have ak:¬n.Q4=true:=(by rw[hc];decide);obtain⟨l6,l7,l8⟩:=l5 hc;refine Mj h 0 x<|HY e.cD (e.cY hk) ag hr.2.2.1 oL λcg bq=>?_;obtain⟨e,h⟩:=e.cE h bq;have aw:=FN n.J6 key;generalize ay:ga n.J6 key=c at aw⊢;have al:c<n.J9.length:=oL;have aN:n.J9.getD c 0=n.J9[c]:=(by rw[yR,zA al];rfl);have hu:=e.node.2.1.2.2 _ (zW al);rcases ax:jg D k v key val f M n.J9[c] with ⟨⟨G,e1⟩,M1⟩;have ad:jg D k v key val f M (n.J9.getD (ga n.J6 key) 0)=((G,e1),M1):=(by rw[ay,aN];exact ax);have aD:e1≠-1:=λh1=>by rw[h1] at ad;rw[qsD U ak ad oO] at ao;exact ao rfl
   refine⟨?a,?b⟩;case' a=>
    have h:=oH h;have e:=e.J0 h;refine Mj h 2 (lM k v pb t)<|Mi h 0 x.2.2.2<|eT.cT e.y8 c rfl al λbr hh=>I5 ag aj f e.tw hu (e.cY hk) (e.cY hv) (by rw[ax];exact aD) λgs F1 bs hG ae E aO aP=>?_;rw[ax] at hG ae E⊢;obtain⟨e,h⟩:=e.next h ae aO aP
    refine oD h λaz bt _ _ h=>nh (hh _ _ (e.J0 h).y8) (h.cell 1) (h.cells 3)<|oF h 0 rfl (tl (xn G gs)) λa5 h _=>?_;have E:=ue E h;have e:=e.J0 h;have h:=po h (.refl _)
   case' b=>
    have h:=oH h;have e:=e.J0 h;have h:=po h (.refl _);refine Mj h 2 (lM k v pb t)<|Mi h 0 x.2.2.2<|eT.cT e.y8 c rfl al λbr hh=>oD h λaz bt _ _ h=>?_;have e:=e.J0 h;refine nh (hh _ _ e.y8) (h.cell 1) (h.cells 3)<|I5 ag aj f e.tw hu (e.cY hk) (e.cY hv) (by rw[ax];exact aD) λgs F1 bs hG ae E aO aP=>?_;rw[ax] at hG ae E⊢;obtain⟨e,h⟩:=e.next h ae aO aP
    refine oF h 0 rfl (tl (xn G gs)) λa5 h _=>?_;have E:=ue E h;have e:=e.J0 h;have h:=po h (.refl _)
   all_goals
    refine eF (λV=>?_) λV=>?_;have a6:e1≠0:=by rw[zT] at V;exact zR.1 V
    rw[qsD U ak ad a6] at kk;exact oF h 2 rfl (tl (0,false,dN,0)) λbu h _=>Mj h 2 (0,false,dN,0)<|kk dN F1 bu Kf (e.J0 h).uz.j7 (.nil _ _ _ _) (e.J0 h).fr (e.J0 h).sg.new;have bv:e1=0:=by rw[yE] at V;exact yP.1 V
    subst bv;refine jd (λb w'=>b=decide (G.x5=n.J9[c]/\G.x4=0)/\w'=a5.drew) ?_ ?_;have h:=oH h;refine Mi h 0 G.x5<|Mi h 1 x.2.2.2<|eT.get (e.J0 h).y8 c rfl (zA al) rfl<|eF (λI=>?_) λI=>?_;have I:=yP.1 I;refine Mi h 0 G.x4 ⟨?_,rfl⟩;rw[LR,yP,yN];exact⟨λh=>⟨I,h⟩,λh=>h.2⟩;have I:=zR.1 I;exact⟨(zU λh=>I h.1).symm,rfl⟩;rintro bA bB ⟨rfl,rfl⟩;have h:=oH h;have e:=e.J0 h;have h:=po h (.refl _);refine eF (λI=>?_) λI=>?_;have I:=zC I;rw[<- aN,<- ay] at I;rw[qAz U ak ad I] at kk;exact Mi h 0 G.J8<|oF h 2 rfl (tl (p,G.J8,dN,0)) λa7 h _=>Mj h 2 (p,G.J8,dN,0)<|kk dN F1 a7 ⟨hp,Ab,.nil⟩ (e.J0 h).uz.j7 (.nil _ _ _ _) (e.J0 h).fr (e.J0 h).sg.new;have I:=zB I;rw[<- aN,<- ay] at I;have J:=qEj U ak ad I;rw[ay] at J;rw[J] at kk;refine Mi h 1 x.2.2.2<|Mi h 0 G.x5<|e.zp h al rfl hG.x5 λB1 bC e h kp=>?_;have E:=kp.cY _ _ E;refine jd (λ_ w'=>∃x' B',dY [az,r8,r3,r1] w' w' [(az,.c (tl (xn G gs)) GR),(r8,.c (fB x') ND),(r3,.c (tl (0,false,dN,0)) GR),(r1,.c (qH (lM k v pb t)) WK)]/\Ed dbk pb FD D j F [] w0 w' [az,r8,r3,r1] Y F1 M1 x' (iz n c G) B'/\
     ¬(iz n c G).Q4=true/\(iz n c G).J6.length+1=(iz n c G).J9.length/\2<=(iz n c G).J9.length/\(iz n c G).J9.length<=1000/\(iz n c G).Q0.length<=1000) ?_ ?_
    refine Mi h 0 G.x4<|eF (λaa=>?_) λaa=>?_;have aa:G.x4≠0:=by rw[zT] at aa;exact zR.1 aa
    have eg:iz n c G={ n with J9:=gz (n.J9.set c G.x5) (c+1) G.x4,J6:=gz n.J6 c G.key }:=(by unfold iz;rw[iP aa]);have ai:¬(iz n c G).Q4=true/\(iz n c G).J6.length+1=(iz n c G).J9.length/\2<=(iz n c G).J9.length/\(iz n c G).J9.length<=1000/\(iz n c G).Q0.length<=1000:=(by rw[eg];dsimp only;rw[Eo aw,Eo (by rw[xF];omega),xF];exact⟨ak,oL,oL,oL,oL⟩);rw[eg] at ai⊢;have ew:wrap .i64 ((c:Int)+1)=((c+1:Nat):Int):=uZ oL;rw[ew];refine⟨?_,?_,?_⟩;have h:=oH h;refine Mi h 1 x.2.2.2<|Mi h 0 G.x4<|Mi h 1 x.2.1<|Mi h 0 gs<|oD h λbD bE _ _ h=>nh (h.cell 1) (h.cell 2) (h.cell 2) ?_;have E:=ue E h;have e:=e.J0 h;refine e.wC h (by dsimp only;rw[xF];omega) rfl (by dsimp only;rw[xF];omega) 0 rfl hG.x4 λO B2 aE e h kp=>?_;have E:=kp.cY _ _ E;refine jU (h.cell 1) (h.cell 2)<|oD h λbF bG _ _ h=>nh (h.cell 3) (h.cell 2) (h.cell 3) ?_;have E:=ue E h;have e:=e.J0 h;exact e.cS h aw rfl oP 0 rfl E hG.key λaf B3 aF e h _=>oF h 3 rfl (fB (x.1,x.2.1,x.2.2.1,O)) λaG h _=>oF h 3 rfl (fB (x.1,af,x.2.2.1,O)) λaH h _=>⟨_,B3,po h (.cons _ (.cons _ (.refl _))),(e.J0 h).sub oN,ai⟩;have h:=oH h;refine Mi h 1 x.2.2.2<|Mi h 0 G.x4<|Mi h 1 x.2.1<|Mi h 0 gs<|oD h λbH bI _ _ h=>nh (h.cell 1) (h.cell 2) (h.cell 2)<|oD h λbJ bK _ _ h=>nh (h.cell 3) (h.cell 2) (h.cell 3) ?_;have E:=ue E h;have e:=e.J0 h;refine e.wC h (by dsimp only;rw[xF];omega) rfl (by dsimp only;rw[xF];omega) 1 rfl hG.x4 λO B2 aE e h kp=>?_;have E:=kp.cY _ _ E;exact jU (h.cell 2) (h.cell 3)<|e.cS h aw rfl oP 0 rfl E hG.key λaf B3 aF e h _=>oF h 3 rfl (fB (x.1,x.2.1,x.2.2.1,O)) λaG h _=>oF h 3 rfl (fB (x.1,af,x.2.2.1,O)) λaH h _=>⟨_,B3,po h (.cons _ (.cons _ (.refl _))),(e.J0 h).sub oN,ai⟩;have h:=oH h;refine Mi h 1 x.2.2.2<|Mi h 0 G.x4<|Mi h 1 x.2.1<|Mi h 0 gs<|oD h λbL bM _ _ h=>nh (h.cell 2) (h.cell 1) (h.cell 2)<|oD h λbN bO _ _ h=>nh (h.cell 2) (h.cell 3) (h.cell 3) ?_;have E:=ue E h;have e:=e.J0 h;refine e.wC h (by dsimp only;rw[xF];omega) rfl (by dsimp only;rw[xF];omega) 0 rfl hG.x4 λO B2 aE e h kp=>?_;have E:=kp.cY _ _ E;exact jU (h.cell 2) (h.cell 3)<|e.cS h aw rfl oP 1 rfl E hG.key λaf B3 aF e h _=>oF h 3 rfl (fB (x.1,x.2.1,x.2.2.1,O)) λaG h _=>oF h 3 rfl (fB (x.1,af,x.2.2.1,O)) λaH h _=>⟨_,B3,po h (.cons _ (.cons _ (.refl _))),(e.J0 h).sub oN,ai⟩;have aa:¬G.x4≠0:=(by rw[yE] at aa;exact λhh=>hh (yP.1 aa));have eg:iz n c G={ n with J9:=n.J9.set c G.x5 }:=(by unfold iz;rw[iN aa]);rw[eg];exact⟨x,B1,h,e,ak,by dsimp only;rw[xF];omega,by dsimp only;rw[xF];omega,by dsimp only;rw[xF];omega,by dsimp only;omega⟩;rintro _ bP ⟨x',B',h,e,q1,q2,q3,q4,q5⟩;refine Mj h 3 (lM k v pb t)<|Mj h 1 x'<|Mi h 0 G.J8<|qsR e.uz e.cD oL oL oL (qAk q1 q2 q3) hp λaR F2 bQ bx aT a9 aI a'=>?_;have g:=e.sg.next h aI a'
    have h:=uy h aI λb hb=>e.uz.yf b (by simp at hb⊢;rcases hb with h|h|h|h<;>simp[h]);exact oI h 2 rfl (tl (xn (gT k v M1 p (iz n c G) G.J8).1.1 aR)) rfl rfl (zO rfl) λba h _=>oE h 2 rfl (xn (gT k v M1 p (iz n c G) G.J8).1.1 aR) rfl<|kk aR F2 ba bx (aT.J0 h).j7 (Iz (ue a9 h)) (g.fr h) g.new
def uv{H E G I:WP}{K:Prop}(h:H w)(J:E w)(O:G w)(U:I w)(k:K):held [H,E,G,I] w K:=by unfold held;exact⟨⟨h,J,O,U⟩,k⟩
structure tz (S0 Z:Mk) (w:Md) (x:mp) (n:dX) (pk pv:sP):Prop where
 lens:tF x n
 nb:NB n
 J6:io pk=n.J6
 Q0:io pv=n.Q0
 rk:eT ir 1 S0 w x.2.1 (jG pk)
 rv:eT ir 1 S0 w x.2.2.1 (jG pv)
 ri:eT jS 1 S0 w x.2.2.2 n.J9
 ek:∀ p∈pk,eY Z w p.1 p.2
 ev:∀ p∈pv,eY Z w p.1 p.2
def gc.EG(h:gc Z w x n B)(G:∀b∈B,b∉S0):∃pk pv,tz S0 Z w x n pk pv:=by have J:fe [] w x n:=h.rd (λ_ _ h=>(nomatch h)) λ_ h=>nomatch h;have O:=J.lens;obtain⟨h0,I,Bk,Bv,Bi,rfl,U,⟨pk,k1,k2,V⟩,⟨pv,v1,v2,v3⟩,hi⟩:=h;exact⟨pk,pv,O,I,k2,v2,k1.ju AZ λb E=>G b (by simp[E]),v1.ju AZ λb E=>G b (by simp[E]),hi.ju wR λb E=>G b (by simp[E]),V,v3⟩
def tz.j0{S0':Mk}(h:tz S0 Z w x n pk pv)(f:Fr S w w')(J:∀b∈S,b∈S0)(I:∀b∈S,b∈Z)(G:pE S0 w S0')(U:pE Z w Z'):tz S0' Z' w' x n pk pv where
 lens:=h.lens
 nb:=h.nb
 J6:=h.J6
 Q0:=h.Q0
 rk:=h.rk.j0 (f.mono λb E _=>J b E) G
 rv:=h.rv.j0 (f.mono λb E _=>J b E) G
 ri:=h.ri.j0 (f.mono λb E _=>J b E) G
 ek:=λp O=>(h.ek p O).j0 (f.mono λb E _=>I b E) U
 ev:=λp O=>(h.ev p O).j0 (f.mono λb E _=>I b E) U
def tz.yc(h:tz S0 Z w x n pk pv):pk.length=n.J6.length:=by rw[<- h.J6,zK]
def tz.Co(h:tz S0 Z w x n pk pv):pv.length=n.Q0.length:=by rw[<- h.Q0,zK]
def tz.rdK(h:tz S0 Z w x n pk pv)(E:∀b∈S0,b∈Z):lf S0 w x.2.1 pk:=⟨h.rk,λp G=>(h.ek p G).j0 (.refl _ _) λb I=>.inl (E b I)⟩
def tz.rdV(h:tz S0 Z w x n pk pv)(E:∀b∈S0,b∈Z):lf S0 w x.2.2.1 pv:=⟨h.rv,λp G=>(h.ev p G).j0 (.refl _ _) λb I=>.inl (E b I)⟩
def eT.cM{i:Int}{K:Addr->Sl->Prop}(h:eT ir 1 S w s (jG ps))(n:Nat)(hi:i=n)(U:n<ps.length)(V:∀a,(∀S' w',eT ir 1 S' w' s (jG ps)->w'.cell? a=some (.slice ps[n].1.a ps[n].1.len ps[n].1.cap))->K a ps[n].1):idx s i 1 λa=>ld .slice a w λy=>K a y:=by
 subst hi;have J:(jG ps)[n]?=some ps[n].1:=(by rw[zQ,zA U];rfl);obtain⟨hl,b,o,O,_,cs,T,fr,hb,hc⟩:=h.at n J;refine vD O ⟨oL,oL⟩ ?_;rw[zJ];have key:∀S' w',eT ir 1 S' w' s (jG ps)->w'.cell? ⟨b,o+n*1,none⟩=some (.slice ps[n].1.a ps[n].1.len ps[n].1.cap):=λS' w' h'=>by
  obtain⟨_,b',o',E,_,ab,T',ac,G,I⟩:=h'.at n J;rw[O] at E;cases E;rw[jI G]
  have:=Ma (·[0]?) I;simpa[ir] using this
 exact sU ps[n].1 (key S w h) (V _ key)
def tz.pO(h:tz S0 Z w x n pk pv)(hi:i<pk.length):n.J6.getD i []=pk[i].2:=by rw[<- h.J6,Cy hi]
def tz.vN(h:tz S0 Z w x n pk pv)(hi:i<pv.length):n.Q0.getD i []=pv[i].2:=by rw[<- h.Q0,Cy hi]
def Ae(hi:i<n.J9.length):n.J9.getD i 0=n.J9[i]:=by rw[yR,zA hi];rfl
structure iL (n:dX):Prop where
 Q4:n.Q4=true->n.Q0.length=n.J6.length
 inner:n.Q4=false->n.J9.length=n.J6.length+1
 J6:n.J6.length<=2000
 Q0:n.Q0.length<=2000
 J9:n.J9.length<=2000
def zoT{b:Nat}(h:b∈T):b∈Zo FD (T++Y) F:=by simp[h]
def Fb:∀b∈Zo FD Y F,b∈Zo FD (T++(Bl++Y)) F:=λb h=>by simp only[Zo,zD,zG] at h⊢;rcases h with (h|h|h)|h<;>simp[h]
def C2{α:Type}(l:List α)(x:α):gz l 0 x=x::l:=by unfold gz;simp
variable {K:mp×mp×Sl->WP}
def qCe{Br:Mk}{xl xr:mp}{nl nr:dX}(hT:TW dbk pb FD D j w0 (Br++(Bl++Y)) F M)(hl:gc (Zo FD (Br++(Bl++Y)) F) w0 xl nl Bl)(hr:gc (Zo FD (Br++(Bl++Y)) F) w0 xr nr Br)(d1:∀b∈Br,b∉Bl)(d2:∀b∈Br,b∉Y)(d3:∀b∈Bl,b∉Y)(hk:eY (Zo FD (Br++(Bl++Y)) F) w0 ks key)(az:fj key)(bk:nl.Q4=nr.Q4)(h1:1<=nl.J6.length)(sl:iL nl)(sr:iL nr)(kk:∀yl yr aF w',TW dbk pb FD D j w' Y F M->fe (Zo FD Y F) w' yl (kr nl nr key).1->fe (Zo FD Y F) w' yr (kr nl nr key).2.1->eY (Zo FD Y F) w' aF (kr nl nr key).2.2->Fr (Br++F) w0 w'->K (yl,yr,aF) w'): cW 304 [.agg (fB xl),.agg (fB xr),ks.v] [.agg eI,.agg eI,.one .slice] w0 K:=by
 refine qvt ?_;unfold GQ G6;obtain⟨pk,pv,o⟩:=hl.EG (S0:=Br++Zo FD Y F) λb E hm=>by rcases zD.1 hm with hm|hm;exact d1 b hm E;have h0:=hT.sep b (by simp[E]);simp only[Zo,zD,zG] at hm;rcases hm with (hm|hm|hm)|hm;exact h0.1 hm;exact h0.2 hm;exact d3 b E hm;exact hT.yf b (by simp[E]) hm
 have e0:Ed dbk pb FD D j (Br++F) Br w0 w0 [] (Bl++Y) F M xr nr Br:=⟨⟨.refl _ _,λb E=>.inl (by simp[E]),λ_ h=>nomatch h⟩,hT,hr,λ_ h=>(nomatch h),λb E=>.inl E,λb E=>by simp[E],λb E hm=>(zD.1 hm).elim (d1 b E) (d2 b E)⟩;have af:∀b∈Br++Zo FD Y F,b∈Zo FD (Br++(Bl++Y)) F:=λb E=>by simp only[Zo,zD,zG] at E⊢;rcases E with E|(E|E|E)|E<;>simp[E]
 have ag:∀b∈Br++F,b∈Br++Zo FD Y F:=λb E=>by simp only[Zo,zD,zG] at E⊢;rcases E with E|E<;>simp[E]
 have nZ:∀ {w' T x' n' B'},Ed dbk pb FD D j (Br++F) Br w0 w' T (Bl++Y) F M x' n' B'->pE (Zo FD (Br++(Bl++Y)) F) w0 (Zo FD (T++(B'++(Bl++Y))) F):=λe b E=>by simp only[Zo,zD,zG] at E;rcases E with (E|E|E|E|E|E)|E;exact .inl (by simp[E]);exact .inl (by simp[E]);exact (e.sg.own b E).imp (λh=>af b (ag b h)) id;exact (e.cL b E).imp (λh=>af b (ag b (e.cV b h))) id;exact .inl (by simp[E]);exact .inl (by simp[E]);exact .inl (by simp[E])
 have V:∀ {w' T x' n' B'},Ed dbk pb FD D j (Br++F) Br w0 w' T (Bl++Y) F M x' n' B'->tz (Br++Zo FD Y F) (Zo FD (T++(B'++(Bl++Y))) F) w' xl nl pk pv:=λe=>o.j0 e.fr ag (λb E=>af b (ag b E)) (λb E=>.inl E) (nZ e);have aG:=o.rdK af;have aH:=o.rdV af;have ah:∀ {w' T x' n' B'},Ed dbk pb FD D j (Br++F) Br w0 w' T (Bl++Y) F M x' n' B'->Fr (Br++Zo FD Y F) w0 w':=λe=>e.fr.mono λb E _=>ag b E;have ai:∀b∈Zo FD Y F,b∈Br++Zo FD Y F\/w0.z<=b:=λb E=>.inl (zI _ E);have aa:=o.lens;have kl:=o.yc;have vl:=o.Co;have sk:=sl.J6;have bl:=sr.J6;have bm:=sr.Q0;have bn:=sr.J9;have aR:wrap .i64 ((xl.2.1.len:Int)-1)=((nl.J6.length-1:Nat):Int):=(by rw[aa.J6,gJ _ oL];omega);have h:=oG [] w0;refine oD h λr1 w2 _ _ h=>oD h λr3 w4 _ _ h=>oD h λr5 w6 _ _ h=>oD h λr7 w8 _ _ h=>Mi h 3 xl.2.1<|Mi h 3 xl.1 ?_;rw[aR];apply eF<;>intro hc
 ·rw[aa.Q4] at hc;have bo:=sl.Q4 hc;have hG:kr nl nr key=({ nl with J6:=nl.J6.take (nl.J6.length-1),Q0:=nl.Q0.take (nl.J6.length-1) },{ nr with J6:=nl.J6.getD (nl.J6.length-1) []::nr.J6,Q0:=nl.Q0.getD (nl.J6.length-1) []::nr.Q0 },nl.J6.getD (nl.J6.length-1) []):=(by unfold kr;rw[iP hc]);have hi:nl.J6.length-1<pk.length:=oL;have ab:nl.J6.length-1<pv.length:=oL;rw[hG,o.pO hi,o.vN ab] at kk;have ae:fj pk[nl.J6.length-1].2:=(by rw[<- o.pO hi];exact xm o.nb.1 _);have aB:fj pv[nl.J6.length-1].2:=(by rw[<- o.vN ab];exact xm o.nb.2.1 _);refine⟨?a1,?a2,?a3⟩;case' a1=>
   have h:=oH h;refine Mi h 2 xr.2.1<|Mi h 3 xl.2.1<|eT.cM ((o.rk).q9 h.fr) (nl.J6.length-1) rfl hi λak J=>Mi h 2 xr.2.2.1<|Mi h 3 xl.2.2.1<|eT.cM ((o.rv).q9 h.fr) (nl.J6.length-1) rfl ab λaI ac=>oD h λal an _ _ h=>?_;have e:=e0.J0 h;refine uv (ac _ _ (V e).rv) (h.cell 4) (h.cell 3) (h.cell 3)<|e.cS h (yX _) rfl oL 0 rfl ((V e).ek _ (zW hi)) ae λG B1 ao e h _=>nh (ac _ _ (V e).rv) (h.cell 4) (h.cell 3)<|oD h λap aq _ _ h=>?_;have e:=e.J0 h;refine uv (h.cell 4) (J _ _ (V e).rk) (h.cell 5) (h.cell 4)<|e.wK h (yX _) rfl oP 0 rfl ((V e).ev _ (zW ab)) aB λI B2 ar e h _=>?_
  case' a2=>
   have h:=oH h;refine Mi h 2 xr.2.1<|Mi h 3 xl.2.1<|eT.cM ((o.rk).q9 h.fr) (nl.J6.length-1) rfl hi λak J=>Mi h 2 xr.2.2.1<|Mi h 3 xl.2.2.1<|eT.cM ((o.rv).q9 h.fr) (nl.J6.length-1) rfl ab λaI ac=>oD h λal an _ _ h=>uv (ac _ _ (V (e0.J0 h)).rv) (h.cell 4) (h.cell 3) (h.cell 3)<|oD h λap aq _ _ h=>?_;have e:=e0.J0 h;refine uv (h.cell 4) (J _ _ (V e).rk) (h.cell 5) (h.cell 4)<|e.cS h (yX _) rfl oL 1 rfl ((V e).ek _ (zW hi)) ae λG B1 ao e h _=>nh (ac _ _ (V e).rv) (h.cell 5) (h.cell 4)<|e.wK h (yX _) rfl oP 0 rfl ((V e).ev _ (zW ab)) aB λI B2 ar e h _=>?_
  case' a3=>
   have h:=oH h;refine Mi h 2 xr.2.1<|Mi h 3 xl.2.1<|eT.cM ((o.rk).q9 h.fr) (nl.J6.length-1) rfl hi λak J=>Mi h 2 xr.2.2.1<|Mi h 3 xl.2.2.1<|eT.cM ((o.rv).q9 h.fr) (nl.J6.length-1) rfl ab λaI ac=>oD h λal an _ _ h=>uv (h.cell 3) (J _ _ (V (e0.J0 h)).rk) (h.cell 4) (h.cell 3)<|oD h λap aq _ _ h=>?_;have e:=e0.J0 h;refine uv (ac _ _ (V e).rv) (h.cell 5) (h.cell 4) (h.cell 4)<|e.cS h (yX _) rfl oL 0 rfl ((V e).ek _ (zW hi)) ae λG B1 ao e h _=>nh (ac _ _ (V e).rv) (h.cell 5) (h.cell 4)<|e.wK h (yX _) rfl oP 1 rfl ((V e).ev _ (zW ab)) aB λI B2 ar e h _=>?_
  all_goals
   refine oF h 4 rfl (fB (xr.1,G,xr.2.2.1,xr.2.2.2)) λaU h _=>oF h 4 rfl (fB (xr.1,G,I,xr.2.2.2)) λaV h _=>?_;have h:=oH h;refine Mi h 5 xl.2.1<|lf.upto aG (nl.J6.length-1) rfl oL λO au=>Mi h 5 xl.2.2.1<|lf.upto aH (nl.J6.length-1) rfl oL λU av=>oF h 5 rfl (fB (xl.1,O,xl.2.2.1,xl.2.2.2)) λaW h _=>oF h 5 rfl (fB (xl.1,O,U,xl.2.2.2)) λaX h _=>?_;have h:=oH h;refine Mj h 5 (xl.1,O,U,xl.2.2.2)<|Mj h 4 (xr.1,G,I,xr.2.2.2)<|Mi h 4 G ?_;have e:=e.J0 h;have h:=po h (.refl _);obtain⟨q0,qN,⟨qk,ax,aL⟩,q4,q5⟩:=e.cD;have aC:0<qk.length:=by
    have:=Ma List.length aL;rw[C2,zK,yI] at this;omega
   have aY:qk[0].2=pk[nl.J6.length-1].2:=(by rw[<- Cy aC,aL];rw[C2];rfl);refine eT.cM ax.1 0 rfl aC λbp aM=>oF h 3 rfl (fB (xl.1,O,U,xl.2.2.2)) λaZ h _=>nh (aM [] _ (ax.1.j0 (h.fr.mono λb E _=>zoT E) λ_ h=>nomatch h)) (h.cell 4) (h.cells 4)<|oF h 2 rfl (fB (xr.1,G,I,xr.2.2.2)) λaD h _=>jU (aM [] _ (ax.1.j0 (h.fr.mono λb E _=>zoT E) λ_ h=>nomatch h)) (h.cell 4)<|Mj h 3 (xl.1,O,U,xl.2.2.2)<|Mj h 2 (xr.1,G,I,xr.2.2.2) ?_;have ay:=ue (ax.2 _ (zW aC)) h;rw[aY] at ay;have e:=e.J0 h;have hR:=e.cD.j6 (S':=Zo FD Y F) λb E=>.inl (Fb b E);rw[C2,C2] at hR;exact kk (xl.1,O,U,xl.2.2.2) (xr.1,G,I,xr.2.2.2) _ aD (e.uz.y4 λb E=>by simp[E]) ⟨aa.Q4,⟨λa ha=>o.nb.1 a (yV ha),λa ha=>o.nb.2.1 a (yV ha),o.nb.2.2⟩,⟨_,au.j0 (ah e) ai,by rw[Ds,o.J6]⟩,⟨_,av.j0 (ah e) ai,by rw[Ds,o.Q0]⟩,o.ri.j0 (ah e) ai⟩
    hR (ay.j0 (.refl _ _) λb E=>.inl (Fb b E)) e.fr
 ·rw[aa.Q4] at hc;have a0:¬nl.Q4=true:=(by rw[hc];decide);have il:=sl.inner hc;have hG:kr nl nr key=({ nl with J6:=nl.J6.take (nl.J6.length-1),J9:=nl.J9.take (nl.J6.length-1+1) },{ nr with J6:=key::nr.J6,J9:=nl.J9.getD (nl.J6.length-1+1) 0::nr.J9 },nl.J6.getD (nl.J6.length-1) []):=(by unfold kr;rw[iN a0]);have hi:nl.J6.length-1<pk.length:=oL;have aw:nl.J6.length-1+1<nl.J9.length:=oL;rw[hG,o.pO hi,Ae aw] at kk;have ae:=o.nb.2.2 _ (zW aw);have a4:wrap .i64 (((nl.J6.length-1:Nat):Int)+1)=((nl.J6.length-1+1:Nat):Int):=uZ oL;rw[a4];have kw:∀ {w' T x' n' B'},Ed dbk pb FD D j (Br++F) Br w0 w' T (Bl++Y) F M x' n' B'->eY (Zo FD (T++(B'++(Bl++Y))) F) w' ks key:=λe=>hk.j0 (e.fr.mono λb E _=>af b (ag b E)) (nZ e);refine Mi h 3 xl.2.1<|eT.cM ((o.rk).q9 h.fr) (nl.J6.length-1) rfl hi λbc bd=>⟨?b1,?b2,?b3⟩;case' b1=>
   have h:=oH h;refine Mi h 2 xr.2.1<|Mi h 2 xr.2.2.2<|Mi h 3 xl.2.2.2<|eT.cT ((o.ri).q9 h.fr) (nl.J6.length-1+1) rfl aw λak J=>oD h λal an _ _ h=>?_;have e:=e0.J0 h;refine uv (J _ _ (V e).ri) (h.cell 4) (h.cell 3) (h.cell 3)<|e.cS h (yX _) rfl oL 0 rfl (kw e) az λG B1 ao e h _=>nh (J _ _ (V e).ri) (h.cell 4) (h.cell 3)<|oD h λap aq _ _ h=>?_;have e:=e.J0 h;refine jU (h.cell 4) (h.cell 4)<|e.wC h (yX _) rfl oP 0 rfl ae λI B2 ar e h _=>?_
  case' b2=>
   have h:=oH h;refine Mi h 2 xr.2.1<|Mi h 2 xr.2.2.2<|Mi h 3 xl.2.2.2<|eT.cT ((o.ri).q9 h.fr) (nl.J6.length-1+1) rfl aw λak J=>oD h λal an _ _ h=>uv (J _ _ (V (e0.J0 h)).ri) (h.cell 4) (h.cell 3) (h.cell 3)<|oD h λap aq _ _ h=>?_;have e:=e0.J0 h;refine jU (h.cell 4) (h.cell 4)<|e.cS h (yX _) rfl oL 1 rfl (kw e) az λG B1 ao e h _=>nh (J _ _ (V e).ri) (h.cell 5) (h.cell 4)<|e.wC h (yX _) rfl oP 0 rfl ae λI B2 ar e h _=>?_
  case' b3=>
   have h:=oH h;refine Mi h 2 xr.2.1<|Mi h 2 xr.2.2.2<|Mi h 3 xl.2.2.2<|eT.cT ((o.ri).q9 h.fr) (nl.J6.length-1+1) rfl aw λak J=>oD h λal an _ _ h=>jU (h.cell 3) (h.cell 3)<|oD h λap aq _ _ h=>?_;have e:=e0.J0 h;refine uv (J _ _ (V e).ri) (h.cell 5) (h.cell 4) (h.cell 4)<|e.cS h (yX _) rfl oL 0 rfl (kw e) az λG B1 ao e h _=>nh (J _ _ (V e).ri) (h.cell 5) (h.cell 4)<|e.wC h (yX _) rfl oP 1 rfl ae λI B2 ar e h _=>?_
  all_goals
   refine oF h 4 rfl (fB (xr.1,G,xr.2.2.1,xr.2.2.2)) λaU h _=>oF h 4 rfl (fB (xr.1,G,xr.2.2.1,I)) λaV h _=>?_;have h:=oH h;refine Mi h 5 xl.2.1<|lf.upto aG (nl.J6.length-1) rfl oL λO au=>Mi h 5 xl.2.2.2<|eT.EC o.ri (nl.J6.length-1+1) rfl oL λU av=>oF h 5 rfl (fB (xl.1,O,xl.2.2.1,xl.2.2.2)) λaW h _=>oF h 5 rfl (fB (xl.1,O,xl.2.2.1,U)) λaX h _=>?_;have h:=oH h;refine Mj h 5 (xl.1,O,xl.2.2.1,U)<|Mj h 4 (xr.1,G,xr.2.2.1,I)<|oF h 3 rfl (fB (xl.1,O,xl.2.2.1,U)) λaZ h _=>gY (h.cells 4)<|oF h 2 rfl (fB (xr.1,G,xr.2.2.1,I)) λaD h _=>Mj h 3 (xl.1,O,xl.2.2.1,U)<|Mj h 2 (xr.1,G,xr.2.2.1,I) ?_;have e:=e.J0 h;have hR:=e.cD.j6 (S':=Zo FD Y F) λb E=>.inl (Fb b E);rw[C2,C2] at hR;exact kk (xl.1,O,xl.2.2.1,U) (xr.1,G,xr.2.2.1,I) _ aD (e.uz.y4 λb E=>by simp[E]) ⟨aa.Q4,⟨λa ha=>o.nb.1 a (yV ha),o.nb.2.1,λa ha=>o.nb.2.2 a (yV ha)⟩,⟨_,au.j0 (ah e) ai,by rw[Ds,o.J6]⟩,⟨_,aH.j0 (ah e) ai,o.Q0⟩,av.j0 (ah e) ai⟩
    hR (((V e).ek _ (zW hi)).j0 (.refl _ _) λb E=>.inl (by simp only[Zo,zD,zG] at E⊢;rcases E with (E|E|E)|E<;>simp[E])) e.fr
def qCW{Br:Mk}{xl xr:mp}{nl nr:dX}(hT:TW dbk pb FD D j w0 (Bl++(Br++Y)) F M)(hl:gc (Zo FD (Bl++(Br++Y)) F) w0 xl nl Bl)(hr:gc (Zo FD (Bl++(Br++Y)) F) w0 xr nr Br)(d1:∀b∈Bl,b∉Br)(d2:∀b∈Bl,b∉Y)(d3:∀b∈Br,b∉Y)(hk:eY (Zo FD (Bl++(Br++Y)) F) w0 ks key)(ax:fj key)(aD:nl.Q4=nr.Q4)(h1:1<=nr.J6.length)(h2:nr.Q4=true->2<=nr.J6.length)(sl:iL nl)(sr:iL nr)(kk:∀yl yr aE w',TW dbk pb FD D j w' Y F M->fe (Zo FD Y F) w' yl (takeN nl nr key).1->fe (Zo FD Y F) w' yr (takeN nl nr key).2.1->eY (Zo FD Y F) w' aE (takeN nl nr key).2.2->Fr (Bl++F) w0 w'->K (yl,yr,aE) w'): cW 305 [.agg (fB xl),.agg (fB xr),ks.v] [.agg eI,.agg eI,.one .slice] w0 K:=by
 refine qvu ?_;unfold Gv Gc;obtain⟨pk,pv,o⟩:=hr.EG (S0:=Bl++Zo FD Y F) λb E hm=>by rcases zD.1 hm with hm|hm;exact d1 b hm E;have h0:=hT.sep b (by simp[E]);simp only[Zo,zD,zG] at hm;rcases hm with (hm|hm|hm)|hm;exact h0.1 hm;exact h0.2 hm;exact d3 b E hm;exact hT.yf b (by simp[E]) hm
 have e0:Ed dbk pb FD D j (Bl++F) Bl w0 w0 [] (Br++Y) F M xl nl Bl:=⟨⟨.refl _ _,λb E=>.inl (by simp[E]),λ_ h=>nomatch h⟩,hT,hl,λ_ h=>(nomatch h),λb E=>.inl E,λb E=>by simp[E],λb E hm=>(zD.1 hm).elim (d1 b E) (d2 b E)⟩;have ag:∀b∈Bl++Zo FD Y F,b∈Zo FD (Bl++(Br++Y)) F:=λb E=>by simp only[Zo,zD,zG] at E⊢;rcases E with E|(E|E|E)|E<;>simp[E]
 have ah:∀b∈Bl++F,b∈Bl++Zo FD Y F:=λb E=>by simp only[Zo,zD,zG] at E⊢;rcases E with E|E<;>simp[E]
 have nZ:∀ {w' T x' n' B'},Ed dbk pb FD D j (Bl++F) Bl w0 w' T (Br++Y) F M x' n' B'->pE (Zo FD (Bl++(Br++Y)) F) w0 (Zo FD (T++(B'++(Br++Y))) F):=λe b E=>by simp only[Zo,zD,zG] at E;rcases E with (E|E|E|E|E|E)|E;exact .inl (by simp[E]);exact .inl (by simp[E]);exact (e.sg.own b E).imp (λh=>ag b (ah b h)) id;exact (e.cL b E).imp (λh=>ag b (ah b (e.cV b h))) id;exact .inl (by simp[E]);exact .inl (by simp[E]);exact .inl (by simp[E])
 have U:∀ {w' T x' n' B'},Ed dbk pb FD D j (Bl++F) Bl w0 w' T (Br++Y) F M x' n' B'->tz (Bl++Zo FD Y F) (Zo FD (T++(B'++(Br++Y))) F) w' xr nr pk pv:=λe=>o.j0 e.fr ah (λb E=>ag b (ah b E)) (λb E=>.inl E) (nZ e);have aF:=o.rdK ag;have aG:=o.rdV ag;have aa:∀ {w' T x' n' B'},Ed dbk pb FD D j (Bl++F) Bl w0 w' T (Br++Y) F M x' n' B'->Fr (Bl++Zo FD Y F) w0 w':=λe=>e.fr.mono λb E _=>ah b E;have ai:∀b∈Zo FD Y F,b∈Bl++Zo FD Y F\/w0.z<=b:=λb E=>.inl (zI _ E);have aq:=o.lens;have kl:=o.yc;have vl:=o.Co;have bp:=sl.J6;have bq:=sl.Q0;have br:=sl.J9;have h:=oG [] w0;refine oD h λr1 w2 _ _ h=>oD h λr3 w4 _ _ h=>oD h λr5 w6 _ _ h=>oD h λr7 w8 _ _ h=>Mi h 3 xl.1 ?_;apply eF<;>intro hc
 ·rw[hl.1] at hc;have aH:nr.Q4=true:=(by rw[<- aD];exact hc);have h2:=h2 aH;have bs:=sr.Q4 aH;have hG:takeN nl nr key=({ nl with J6:=nl.J6++[nr.J6.getD 0 []],Q0:=nl.Q0++[nr.Q0.getD 0 []] },{ nr with J6:=nr.J6.drop 1,Q0:=nr.Q0.drop 1 },(nr.J6.drop 1).getD 0 []):=(by unfold takeN;rw[iP hc]);have hi:0<pk.length:=oL;have ab:0<pv.length:=oL;have az:0<(pk.drop 1).length:=(by rw[yC];omega);have a0:(nr.J6.drop 1).getD 0 []=(pk.drop 1)[0].2:=(by rw[<- o.J6,<- Ck,Cy az]);rw[hG,o.pO hi,o.vN ab,a0] at kk;have af:fj pk[0].2:=(by rw[<- o.pO hi];exact xm o.nb.1 _);have aA:fj pv[0].2:=(by rw[<- o.vN ab];exact xm o.nb.2.1 _);refine⟨?a1,?a2,?a3⟩;case' a1=>
   have h:=oH h;refine Mi h 3 xl.2.1<|Mi h 2 xr.2.1<|eT.cM ((o.rk).q9 h.fr) 0 rfl hi λaI ak=>Mi h 3 xl.2.2.1<|Mi h 2 xr.2.2.1<|eT.cM ((o.rv).q9 h.fr) 0 rfl ab λaJ ac=>oD h λaK aL _ _ h=>?_;have e:=e0.J0 h;refine uv (ac _ _ (U e).rv) (h.cell 3) (h.cell 4) (h.cell 4)<|e.te h oL 0 rfl ((U e).ek _ (zW hi)) af λG B1 aN e h _=>nh (ac _ _ (U e).rv) (h.cell 3) (h.cell 4)<|oD h λaO aP _ _ h=>?_;have e:=e.J0 h;refine uv (h.cell 5) (ak _ _ (U e).rk) (h.cell 4) (h.cell 5)<|e.Cm h oP 0 rfl ((U e).ev _ (zW ab)) aA λI B2 aR e h _=>?_
  case' a2=>
   have h:=oH h;refine Mi h 3 xl.2.1<|Mi h 2 xr.2.1<|eT.cM ((o.rk).q9 h.fr) 0 rfl hi λaI ak=>Mi h 3 xl.2.2.1<|Mi h 2 xr.2.2.1<|eT.cM ((o.rv).q9 h.fr) 0 rfl ab λaJ ac=>oD h λaK aL _ _ h=>uv (ac _ _ (U (e0.J0 h)).rv) (h.cell 3) (h.cell 4) (h.cell 4)<|oD h λaO aP _ _ h=>?_;have e:=e0.J0 h;refine uv (h.cell 5) (ak _ _ (U e).rk) (h.cell 4) (h.cell 5)<|e.te h oL 1 rfl ((U e).ek _ (zW hi)) af λG B1 aN e h _=>nh (ac _ _ (U e).rv) (h.cell 4) (h.cell 5)<|e.Cm h oP 0 rfl ((U e).ev _ (zW ab)) aA λI B2 aR e h _=>?_
  case' a3=>
   have h:=oH h;refine Mi h 3 xl.2.1<|Mi h 2 xr.2.1<|eT.cM ((o.rk).q9 h.fr) 0 rfl hi λaI ak=>Mi h 3 xl.2.2.1<|Mi h 2 xr.2.2.1<|eT.cM ((o.rv).q9 h.fr) 0 rfl ab λaJ ac=>oD h λaK aL _ _ h=>uv (h.cell 4) (ak _ _ (U (e0.J0 h)).rk) (h.cell 3) (h.cell 4)<|oD h λaO aP _ _ h=>?_;have e:=e0.J0 h;refine uv (ac _ _ (U e).rv) (h.cell 4) (h.cell 5) (h.cell 5)<|e.te h oL 0 rfl ((U e).ek _ (zW hi)) af λG B1 aN e h _=>nh (ac _ _ (U e).rv) (h.cell 4) (h.cell 5)<|e.Cm h oP 1 rfl ((U e).ev _ (zW ab)) aA λI B2 aR e h _=>?_
  all_goals
   refine oF h 5 rfl (fB (xl.1,G,xl.2.2.1,xl.2.2.2)) λap h _=>oF h 5 rfl (fB (xl.1,G,I,xl.2.2.2)) λa4 h _=>?_;have h:=oH h;refine Mi h 4 xr.2.1<|lf.from aF 1 rfl oL λJ V=>Mi h 4 xr.2.2.1<|lf.from aG 1 rfl oL λO al=>oF h 4 rfl (fB (xr.1,J,xr.2.2.1,xr.2.2.2)) λa5 h _=>oF h 4 rfl (fB (xr.1,J,O,xr.2.2.2)) λa6 h _=>?_;have h:=oH h;refine Mj h 5 (xl.1,G,I,xl.2.2.2)<|Mj h 4 (xr.1,J,O,xr.2.2.2)<|Mi h 4 J<|eT.cM (V.j0 (aa (e.J0 h)) λb E=>.inl E).1 0 rfl az λbt aT=>oF h 3 rfl (fB (xl.1,G,I,xl.2.2.2)) λa7 h _=>nh (aT _ _ (V.j0 (aa (e.J0 h)) λb E=>.inl E).1) (h.cell 4) (h.cells 4)<|oF h 2 rfl (fB (xr.1,J,O,xr.2.2.2)) λaB h _=>jU (aT _ _ (V.j0 (aa (e.J0 h)) λb E=>.inl E).1) (h.cell 4)<|Mj h 3 (xl.1,G,I,xl.2.2.2)<|Mj h 2 (xr.1,J,O,xr.2.2.2) ?_;have e:=e.J0 h;have hR:=e.cD.j6 (S':=Zo FD Y F) λb E=>.inl (Fb b E);have an:=V.j0 (aa e) ai;exact kk (xl.1,G,I,xl.2.2.2) (xr.1,J,O,xr.2.2.2) _ aB (e.uz.y4 λb E=>by simp[E]) hR ⟨aq.Q4,⟨λa ha=>o.nb.1 a (yU ha),λa ha=>o.nb.2.1 a (yU ha),o.nb.2.2⟩,⟨_,an,by rw[Ck,o.J6]⟩,⟨_,al.j0 (aa e) ai,by rw[Ck,o.Q0]⟩,o.ri.j0 (aa e) ai⟩
    (an.2 _ (zW az)) e.fr
 ·rw[hl.1] at hc;have a9:¬nl.Q4=true:=(by rw[hc];decide);have il:=sr.inner (by rw[<- aD];exact hc);have hG:takeN nl nr key=({ nl with J6:=nl.J6++[key],J9:=nl.J9++[nr.J9.getD 0 0] },{ nr with J6:=nr.J6.drop 1,J9:=nr.J9.drop 1 },nr.J6.getD 0 []):=(by unfold takeN;rw[iN a9]);have hi:0<pk.length:=oL;have ao:0<nr.J9.length:=oL;rw[hG,o.pO hi,Ae ao] at kk;have af:=o.nb.2.2 _ (zW ao);have kw:∀ {w' T x' n' B'},Ed dbk pb FD D j (Bl++F) Bl w0 w' T (Br++Y) F M x' n' B'->eY (Zo FD (T++(B'++(Br++Y))) F) w' ks key:=λe=>hk.j0 (e.fr.mono λb E _=>ag b (ah b E)) (nZ e);refine Mi h 2 xr.2.1<|eT.cM ((o.rk).q9 h.fr) 0 rfl hi λbj bk=>⟨?b1,?b2,?b3⟩;case' b1=>
   have h:=oH h;refine Mi h 3 xl.2.1<|Mi h 3 xl.2.2.2<|Mi h 2 xr.2.2.2<|eT.cT ((o.ri).q9 h.fr) 0 rfl ao λaU ad=>oD h λar au _ _ h=>?_;have e:=e0.J0 h;refine uv (ad _ _ (U e).ri) (h.cell 3) (h.cell 4) (h.cell 4)<|e.te h oL 0 rfl (kw e) ax λG B1 aV e h _=>nh (ad _ _ (U e).ri) (h.cell 3) (h.cell 4)<|oD h λav aw _ _ h=>?_;have e:=e.J0 h;refine jU (h.cell 5) (h.cell 5)<|e.BV h oP 0 rfl af λI B2 ap e h _=>?_
  case' b2=>
   have h:=oH h;refine Mi h 3 xl.2.1<|Mi h 3 xl.2.2.2<|Mi h 2 xr.2.2.2<|eT.cT ((o.ri).q9 h.fr) 0 rfl ao λaU ad=>oD h λar au _ _ h=>uv (ad _ _ (U (e0.J0 h)).ri) (h.cell 3) (h.cell 4) (h.cell 4)<|oD h λav aw _ _ h=>?_;have e:=e0.J0 h;refine jU (h.cell 5) (h.cell 5)<|e.te h oL 1 rfl (kw e) ax λG B1 aV e h _=>nh (ad _ _ (U e).ri) (h.cell 4) (h.cell 5)<|e.BV h oP 0 rfl af λI B2 ap e h _=>?_
  case' b3=>
   have h:=oH h;refine Mi h 3 xl.2.1<|Mi h 3 xl.2.2.2<|Mi h 2 xr.2.2.2<|eT.cT ((o.ri).q9 h.fr) 0 rfl ao λaU ad=>oD h λar au _ _ h=>jU (h.cell 4) (h.cell 4)<|oD h λav aw _ _ h=>?_;have e:=e0.J0 h;refine uv (ad _ _ (U e).ri) (h.cell 4) (h.cell 5) (h.cell 5)<|e.te h oL 0 rfl (kw e) ax λG B1 aV e h _=>nh (ad _ _ (U e).ri) (h.cell 4) (h.cell 5)<|e.BV h oP 1 rfl af λI B2 ap e h _=>?_
  all_goals
   refine oF h 5 rfl (fB (xl.1,G,xl.2.2.1,xl.2.2.2)) λap h _=>oF h 5 rfl (fB (xl.1,G,xl.2.2.1,I)) λa4 h _=>?_;have h:=oH h;refine Mi h 4 xr.2.1<|lf.from aF 1 rfl oL λJ V=>Mi h 4 xr.2.2.2<|eT.Bt o.ri 1 rfl oL λO al=>oF h 4 rfl (fB (xr.1,J,xr.2.2.1,xr.2.2.2)) λa5 h _=>oF h 4 rfl (fB (xr.1,J,xr.2.2.1,O)) λa6 h _=>?_;have h:=oH h;refine Mj h 5 (xl.1,G,xl.2.2.1,I)<|Mj h 4 (xr.1,J,xr.2.2.1,O)<|oF h 3 rfl (fB (xl.1,G,xl.2.2.1,I)) λa7 h _=>gY (h.cells 4)<|oF h 2 rfl (fB (xr.1,J,xr.2.2.1,O)) λaB h _=>Mj h 3 (xl.1,G,xl.2.2.1,I)<|Mj h 2 (xr.1,J,xr.2.2.1,O) ?_;have e:=e.J0 h;have hR:=e.cD.j6 (S':=Zo FD Y F) λb E=>.inl (Fb b E);exact kk (xl.1,G,xl.2.2.1,I) (xr.1,J,xr.2.2.1,O) _ aB (e.uz.y4 λb E=>by simp[E]) hR ⟨aq.Q4,⟨λa ha=>o.nb.1 a (yU ha),o.nb.2.1,λa ha=>o.nb.2.2 a (yU ha)⟩,⟨_,V.j0 (aa e) ai,by rw[Ck,o.J6]⟩,⟨_,aG.j0 (aa e) ai,o.Q0⟩,al.j0 (aa e) ai⟩
    (((U e).ek _ (zW hi)).j0 (.refl _ _) λb E=>.inl (by simp only[Zo,zD,zG] at E⊢;rcases E with (E|E|E)|E<;>simp[E])) e.fr
end Go.Proofs.YtcnddmfogfebiaaGreatDoor
