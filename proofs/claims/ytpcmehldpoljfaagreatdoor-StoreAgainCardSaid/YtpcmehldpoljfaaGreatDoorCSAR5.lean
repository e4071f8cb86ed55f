/- Conditions: those that stand in each line. -/
import Derived.Test.YtpcmehldpoljfaaGreatDoorCSAR4
import Derived.Test.YtpcmehldpoljfaaGreatDoorCSAR1
import Derived.Test.YtpcmehldpoljfaaGreatDoorCSAR3
set_option linter.unusedVariables false
set_option linter.unusedSimpArgs false
set_option linter.defProp false
namespace Go.Proofs.YtpcmehldpoljfaaGreatDoor
open Go.Proofs.Tryz (prog)
section
open Go Go.Pt List
open Go.IntKind (wrap)
open Classical
section
variable {D:dJ} {M M':dV} {k v:Nat}
def qqd{n:Int}(E:M.Wf)(G:M.Q3=false)(I:dU M n):∃M',fq M n=(0,M')/\Step D M M' [n] []/\M.Q1.length<=M'.Q1.length:=by
 obtain⟨M',e,t,J,R,U⟩:=qmd (D:=D) (q:=n+1) E G I oJ;have C:∀x,x≠n->dI D M' x=dI D M x/\(dU M' x↔dU M x):=λx u=>by by_cases hq':x=n+1;rw[hq'];exact⟨J,R⟩;exact⟨t.rest x hq' u,t.use x hq' u⟩
 refine⟨M',e,⟨t.wf,t.Q3,t.Q2,t.j9,t.Q5,t.Q9,t.z9,t.x6,λx u h=>?_,λx u=>?_,λx u=>(nomatch u),λx u=>(nomatch u),.nil,t.pJ⟩,U⟩;have h:x≠n:=(oP h);exact⟨(C x h).1,(C x h).2.2 u,oL⟩;by_cases h:x=n;subst h;exact absurd u (t.left oJ);exact .inr ⟨(C x h).2.1 u,by simpa using h⟩
def qqt(hc:gY k v){h:Nat}{A B:List gJ}{e1 E:gJ}{Nl Nr:dM}{n1 n2:Nat}{L1 L2:fP}{G I:Il}(H:sG D M k v h A B e1 E Nl Nr n1 n2 L1 L2 G I)(h1:n1+n2<=(if h=0 then (dY k v).1 else (dY k v).2))(h2:minOf k v h<=n1+n2)(hf:1<=M.Q1.length): ∃N M' R,lI k v M (dN (A++e1::E::B)) A.length Nl Nr=((N,0),M')/\ji D M' k v (h+1) N (A.length+B.length+1) (A.flatMap (·.2.y3)++((L1++L2)++B.flatMap (·.2.y3))) R/\ Step D M M' (A.flatMap (·.2.y4)++(((e1.2.x5::G)++(E.2.x5::I))++B.flatMap (·.2.y4))) R/\M.Q1.length<=M'.Q1.length+1:=by
 obtain⟨aB,aC,aD,aE⟩:=H.wC;have hJ:=qz6 H.left H.right h1 aB aC ⟨aD,aE⟩;have a1:=hc.min h;have U:=H.use;have ak:=H.nodup;have pm:(((e1.2.x5::G)++(E.2.x5::I))).Perm (e1.2.x5::E.2.x5::(G++I)):=by rw[xI];exact (perm_middle).cons _
 have V:∀x,x∈e1.2.x5::E.2.x5::(G++I)->x∈A.flatMap (·.2.y4)++(((e1.2.x5::G)++(E.2.x5::I))++B.flatMap (·.2.y4)):=λx C=>zI _ (zH _ (pm.mem_iff.2 C));have aj:(e1.2.x5::E.2.x5::(G++I)).Nodup:=pm.nodup_iff.1 (yL.1 (yL.1 ak).2.1).1;have aa:=nodup_cons.1 aj;have ap:=nodup_cons.1 aa.2;have aF:=U _ (V e1.2.x5 oL);have aq:=U _ (V E.2.x5 oL);obtain⟨q,M1,s1,ab,H1,a3⟩:=hJ.store H.wf H.Q3 oJ aF (λhm=>aa.1 (zN _ hm)) hf;have ac:E.2.x5≠e1.2.x5:=λe=>aa.1 (by rw[e];simp);have J:∀x,dU M x->x≠e1.2.x5->dI D M1 x=dI D M x/\dU M1 x/\x≠q:=λx C al=>by
  have:=ab.rest x C (oP al);exact⟨this.1,this.2.1,by simpa using this.2.2⟩
 obtain⟨M2,s2,ar,a6⟩:=qqd (D:=D) ab.wf ab.Q3 (J _ aq ac).2.1;have ad:∀x,dU M1 x->x≠E.2.x5->dI D M2 x=dI D M1 x/\dU M2 x:=λx C al=>by
  have:=ar.rest x C (oP al);exact⟨this.1,this.2.1⟩
 have aG:Has D M2 k v h ⟨q,n1+n2,L1++L2,q::(G++I)⟩:=H1.q8 λx C=>(ad x (H1.J4 ab.Q3 x C) λe=>by rcases zG.1 C with e'|C;exact (J _ aq ac).2.2 (by rw[<- e,e']);exact ap.1 (e▸C)).1;have aH:∀b,b∈A\/b∈B->∀x∈b.2.y4,dU M x/\x≠e1.2.x5/\x≠E.2.x5:=λb u x C=>by
  have hd:=yL.1 ak;have aI:=yL.1 hd.2.1;have au:∀z,z=e1.2.x5\/z=E.2.x5->z∈(e1.2.x5::G)++(E.2.x5::I):=λz hz=>pm.mem_iff.2 (by rcases hz with rfl|rfl<;>simp);have key:∀z,z=e1.2.x5\/z=E.2.x5->x≠z:=λz hz e=>by rcases u with u|u;exact hd.2.2 x (yJ.2 ⟨b,u,C⟩) z (zH _ (au z hz)) e;exact aI.2.2 z (au z hz) x (yJ.2 ⟨b,u,C⟩) e.symm
  refine⟨U x ?_,key _ (.inl rfl),key _ (.inr rfl)⟩;rcases u with u|u;exact zH _ (yJ.2 ⟨b,u,C⟩);exact zI _ (zI _ (yJ.2 ⟨b,u,C⟩))
 have ae:∀b,b∈A\/b∈B->Has D M2 k v h b.2/\minOf k v h<=b.2.size:=λb u=>⟨(H.rest b u).1.q8 λx C=>by have h9:=aH b u x C;have h8:=J x h9.1 h9.2.1;exact ((ad x h8.2.1 h9.2.2).1).trans h8.1,(H.rest b u).2⟩;have hS:=H.sep;have hp:=pairwise_append.1 hS.pair;have ai:=yI.1 hp.2.1;have aw:=yI.1 ai.2;have ax:fM (A++(e1.1,(⟨q,n1+n2,L1++L2,q::(G++I)⟩:ia))::B):=by refine⟨pairwise_append.2 ⟨hp.1,yI.2 ⟨λb u=>⟨(ai.1 b (by simp[u])).1,λx C=>?_⟩,aw.2⟩,λa ha b u=>?_⟩,λb u x C=>?_⟩;rcases zD.1 C with C|C;exact (ai.1 b (by simp[u])).2 x C;exact (aw.1 b u).2 x C;rcases zG.1 u with rfl|u;exact hp.2.2 a ha (e1.1,⟨0,0,L1,[]⟩) oL;exact hp.2.2 a ha b (by simp[u]);rcases zD.1 u with u|u;exact hS.low b (by simp[u]) x C;rcases zG.1 u with rfl|u;rcases zD.1 C with C|C;exact hS.low (e1.1,⟨0,0,L1,[]⟩) oL x C;have h9:=hS.low (E.1,⟨0,0,L2,[]⟩) oL x C;exact zw (sO (ai.1 (E.1,⟨0,0,L2,[]⟩) oL).1) h9;exact hS.low b (by simp[u]) x C
 have am:gu k (A++(e1.1,(⟨q,n1+n2,L1++L2,q::(G++I)⟩:ia))::B):=by
  have h9:gu k (A++e1::B):=λb u=>H.J6 b (by
   cases A with
   | nil=>exact zN _ u
   | cons a A=>
    rcases zD.1 (show b∈A++e1::B from u) with u|u;exact zH (e1::E::B) u;exact zI A ((zG.1 u).elim (λe=>by rw[e];simp) λu=>by simp[u]))
  exact Gx h9
 have an:((A++(e1.1,(⟨q,n1+n2,L1++L2,q::(G++I)⟩:ia))::B).map (·.1)).head?=some []:=by
  have h9:=H.head;cases A with
  | nil=>exact h9
  | cons a A=>exact h9
 have aU:=H.len;refine⟨dN (A++(e1.1,(⟨q,n1+n2,L1++L2,q::(G++I)⟩:ia))::B),M2,_,?_,⟨_,an,rfl,by simp;omega,by rw[qt],rfl,am,ax,oJ,λb u=>?_⟩,?_,oJ⟩;have aJ:(dN (A++e1::E::B)).J9.getD A.length 0=e1.2.x5:=zj.1;have aK:(dN (A++e1::E::B)).J9.getD (A.length+1) 0=E.2.x5:=zj.2;have aL:(dN (A++e1::E::B)).J6.getD A.length []=E.1:=FS;unfold lI;rw[aJ,aK,aL,s1];dsimp only;rw[iN λh=>h rfl,s2];dsimp only;rw[iN λh=>h rfl];exact H9 (λN=>((N,(0:Int)),M2)) (qzR (s:=⟨q,n1+n2,L1++L2,q::(G++I)⟩));rcases zD.1 u with u|u;exact ae b (.inl u);rcases zG.1 u with rfl|u;exact⟨aG,h2⟩;exact ae b (.inr u);have t1:Step D M M1 (e1.2.x5::E.2.x5::(G++I)) ([q]++E.2.x5::(G++I)):=by
  have:=ab.beside (Z:=E.2.x5::(G++I)) (λx C=>U x (V x (zN _ C))) (by have p9:(e1.2.x5::E.2.x5::(G++I)).Perm ((E.2.x5::(G++I))++[e1.2.x5]):=(HO _ _).symm;exact p9.nodup_iff.1 aj);exact this.perm (HO _ _) perm_append_comm
 have p8:([q]++E.2.x5::(G++I)).Perm (([q]++(G++I))++[E.2.x5]):=(by exact perm_middle.trans<|(HO _ _).symm);have t2:=ar.beside (Z:=[q]++(G++I)) (λx C=>t1.has x (by rcases zD.1 C with C|C;exact zH _ C;exact zI _ (zN _ C))) (p8.nodup_iff.1 t1.nodup);have t3:=(t1.perm (.refl _) p8).trans t2;rw[xG] at t3;have t4:=Step.part (D:=D) (a:=A.flatMap (·.2.y4)) (b:=B.flatMap (·.2.y4)) U ak (t3.perm pm.symm (.refl _));rw[qt];exact t4
def fM.swap{A B:List gJ}{e:gJ}{s:ia}(h:fM (A++e::B))(u:∀x∈s.y3,x∈e.2.y3):fM (A++(e.1,s)::B):=
 h.put (key:=e.1) qS (λb C=>(h.mid.2 b C).1) λx E=>.inr (u x E)
def DZ(hc:gY k v){key:Key}:∀(h:Nat) (M:dV) (s:ia),Has D M k v h s->M.Wf->M.Q3=false->s.y4.Nodup->key∈dQ s.y3->2*h<=M.Q1.length-> ∃N n M' R R',hU D k v key (h+1) M s.x5=((N,0),M')/\s.y4=s.x5::R/\ji D M' k v h N n (gj key s.y3) R'/\Step D M M' R R'/\s.size<=n+1/\M.Q1.length<=M'.Q1.length+2*h
 | 0,M,s,hs,hW,ho,aL,al,hf=>by
  obtain⟨N,R,hl,hN,hp,bU,_⟩:=hs.load;have bV:=hN;obtain⟨rfl,hn,rfl,hL,aM,bc⟩:=hN;have am:=qnV aM al;have hm:=(wu aM).2 al;have hi:dO (dQ s.y3) key<s.y3.length:=by
   have:=(zP.1 hm).1;simpa using this
  have bL:(gj key s.y3).length+1=s.y3.length:=(by rw[am,zF,yK,yB];omega);refine⟨eh (gj key s.y3),(gj key s.y3).length,M,[],[],?_,hp,⟨rfl,rfl,rfl,λx u=>hL x (GG.1 u).1,qp8 aM,oJ⟩,Step.refl hW ho (λx u=>nomatch u) .nil,oJ,oJ⟩;unfold hU;rw[hl];dsimp only;rw[iN λh=>h rfl,iP (show (eh s.y3).Q4=true from rfl),iP (show (eh s.y3).J6[dO (eh s.y3).J6 key]?=some key from hm)];refine H9 (λN=>((N,(0:Int)),M)) ?_;rw[am];unfold eh gN;simp only[xM,xO,xP]
 | h+1,M,⟨p,n,L,P⟩,⟨es,h0,h1,h2,h3,h4,h5,h6,h7⟩,hW,ho,aL,al,hf=>by
  dsimp only at h1 h2 h3 h5 aL al;subst h1 h2 h3;have hl:dK D M k v p=(dN es,0):=h4.load h5;have an:=h4.right.x9;obtain⟨A,e,B,aa,hA,bv,bx,aO⟩:=uF (key:=key) h0 h6;have aP:(dN es).J9.getD (eu (dN es).J6 key) 0=e.2.x5:=aO;have bz:eu (dN es).J6 key=A.length:=hA.symm;have bA:e∈es:=(by rw[aa];simp);obtain⟨bB,bC⟩:=h7 e bA;have ai:es.flatMap (·.2.y4)=A.flatMap (·.2.y4)++(e.2.y4++B.flatMap (·.2.y4)):=(by rw[aa,qt]);have av:es.flatMap (·.2.y3)=A.flatMap (·.2.y3)++(e.2.y3++B.flatMap (·.2.y3)):=(by rw[aa,qt]);have ay:∀z∈A.flatMap (·.2.y4)++(e.2.y4++B.flatMap (·.2.y4)),dU M z:=λz hz=>by rw[<- ai] at hz;obtain⟨b,E,hz⟩:=yJ.1 hz;exact (h7 b E).1.J4 ho z hz
  have ah:(A.flatMap (·.2.y4)++(e.2.y4++B.flatMap (·.2.y4))).Nodup:=(by rw[<- ai];exact (nodup_cons.1 aL).2);have ao:e.2.y4.Nodup:=(yL.1 (yL.1 ah).2.1).1;have aw:=h6;rw[aa] at aw;have az:=aw.mid;have bf:∀x∈A.flatMap (·.2.y3),fK x.1 key:=λx u=>by obtain⟨a,ha,u⟩:=yJ.1 u;exact rg (az.1 a ha x u) bv
  have bg:∀x∈B.flatMap (·.2.y3),fK key x.1:=λx u=>by obtain⟨b,E,u⟩:=yJ.1 u;exact rg (bx b E) ((az.2 b E).2.2 x u)
  have am:gj key (es.flatMap (·.2.y3))=A.flatMap (·.2.y3)++(gj key e.2.y3++B.flatMap (·.2.y3)):=(by rw[av,qnU bf,qmb bg]);have aQ:key∈dQ e.2.y3:=by obtain⟨x,u,rfl⟩:=mem_map.1 al;rw[av] at u;rcases zD.1 u with u|u;exact absurd (bf x u) qS;rcases zD.1 u with u|u;exact zY u;exact absurd (bg x u) qS
  obtain⟨N1,n1,M1,Re,J,ec,aR,ap,st,b0,b1⟩:=DZ hc h M e.2 bB hW ho ao aQ oJ;rw[aR] at ay ah ao;have ab:=gu.of h4;have aJ:e.2.x5∉Re:=(nodup_cons.1 ao).1;have aT:dU M e.2.x5:=ay _ oL;have bE:Step D M M1 (e.2.x5::Re) (e.2.x5::J):=st.beside (Z:=[e.2.x5]) (λx u=>by rw[zE.1 u];exact aT) (oP ao);have aU:=Step.part ay ah bE;have bh:dU M1 e.2.x5:=(st.rest _ aT aJ).2.1;have aV:e.2.x5∉J:=(st.rest _ aT aJ).2.2;have G:∀b,b∈A\/b∈B->Has D M1 k v h b.2/\minOf k v h<=b.2.size:=λb E=>by
   have aW:b∈es:=by rw[aa];rcases E with E|E<;>simp[E]
   refine⟨(h7 b aW).1.q8 λx u=>?_,(h7 b aW).2⟩;have hd:=yL.1 ah;refine (st.rest x ((h7 b aW).1.J4 ho x u) λhm=>?_).1;rcases E with E|E;exact hd.2.2 x (yJ.2 ⟨b,E,u⟩) x (zH _ (zN _ hm)) rfl;exact (yL.1 hd.2.1).2.2 x (zN _ hm) x (yJ.2 ⟨b,E,u⟩) rfl
  have bc:n1<=(if h=0 then (dY k v).1 else (dY k v).2):=by
   cases h with
   | zero=>exact ap.2.2.2.2.2
   | succ h=>obtain⟨_,_,_,_,_,_,_,_,h9,_⟩:=ap;exact h9
  have b2:=hc.min h;have ar:minOf k v h=(if h=0 then (dY k v).1 else (dY k v).2) / 2:=(by unfold minOf;split<;>rfl);have aA:fM (A++(e.1,(⟨0,0,gj key e.2.y3,[]⟩:ia))::B):=aw.swap λx u=>(GG.1 u).1;have C:es.length=A.length+B.length+1:=(by rw[aa];simp;omega);have aE:∀ {N:dM} {M2:dV} {n R':_},ji D M2 k v (h+1) N n (A.flatMap (·.2.y3)++(gj key e.2.y3++B.flatMap (·.2.y3))) R'->ji D M2 k v (h+1) N n (gj key (es.flatMap (·.2.y3))) R':=λh9=>by rw[am];exact h9
  have ax:∀ {M2:dV} {R':Il},Step D M1 M2 (A.flatMap (·.2.y4)++((e.2.x5::J)++B.flatMap (·.2.y4))) R'->Step D M M2 (es.flatMap (·.2.y4)) R':=λh9=>by rw[ai,aR];exact aU.trans h9
  have aK:oU N1 k v↔n1<minOf k v h:=(by unfold oU;rw[ap.size,ar]);unfold hU;rw[hl];dsimp only;rw[iN λh=>h rfl,iN (show ¬(dN es).Q4=true from λe=>nomatch e),aP,ec];dsimp only;rw[iN λh=>h rfl,bz];by_cases hlw:oU N1 k v;rw[iN λh=>h hlw];have b3:=aK.1 hlw;have bj:n1+1=minOf k v h:=oJ;by_cases hA0:A.length>0;rw[iP hA0];obtain⟨A',f,rfl⟩:∃A' f,A=A'++[f]:=(by have bk:A≠[]:=length_pos_iff.1 hA0;exact⟨A.dropLast,A.getLast bk,(xZ bk).symm⟩);have bF:(A'++[f]).length-1=A'.length:=oL;rw[bF];have aB:=G f (.inl oL);obtain⟨Ny,Ry,aY,au,aZ,_,_⟩:=aB.1.load;have I:es=A'++f::e::B:=(by rw[aa];simp);have bG:(A'++[f]).flatMap (·.2.y4)=A'.flatMap (·.2.y4)++f.2.y4:=(by simp[yP]);have bm:(A'++[f]).flatMap (·.2.y3)=A'.flatMap (·.2.y3)++f.2.y3:=(by simp[yP]);have ac:(A'++[f]).flatMap (·.2.y4)++((e.2.x5::J)++B.flatMap (·.2.y4))=A'.flatMap (·.2.y4)++(((f.2.x5::Ry)++(e.2.x5::J))++B.flatMap (·.2.y4)):=(by rw[bG,aZ];simp only[zV]);have aq:(A'++[f]).flatMap (·.2.y3)++(gj key e.2.y3++B.flatMap (·.2.y3))=A'.flatMap (·.2.y3)++((f.2.y3++gj key e.2.y3)++B.flatMap (·.2.y3)):=(by rw[bm];simp only[zV]);have aC:fM (A'++(f.1,(⟨0,0,f.2.y3,[]⟩:ia))::(e.1,⟨0,0,gj key e.2.y3,[]⟩)::B):=(by have h9:fM (A'++f::((e.1,(⟨0,0,gj key e.2.y3,[]⟩:ia))::B)):=(oP aA);exact h9.swap (s:=⟨0,0,f.2.y3,[]⟩) λx u=>u);have ad:=aU;rw[ac] at ad;have Hn:sG D M1 k v h A' B f e Ny N1 f.2.size n1 f.2.y3 (gj key e.2.y3) Ry J:=
   ⟨st.wf,st.Q3,by rw[<- I];exact h0,by rw[<- I];exact ab,aC,by have:=an.2;rw[C] at this;simp at this;omega,λb E=>G b (E.imp (λE=>by simp[E]) id),au,ap,ad.has,ad.nodup⟩
  have a1:(dN es).J9.getD A'.length 0=f.2.x5:=(by rw[I];exact zj.1);have U:iT Ny k v↔minOf k v h<f.2.size:=(by unfold iT;rw[au.size,ar]);unfold jF;rw[a1,aY];dsimp only;rw[iN λh=>h rfl,iP (show A'.length<(A'++[f]).length by simp),I];by_cases hsq:iT Ny k v;rw[iN λh=>h hsq];obtain⟨a2,a3,a4,a5⟩:=Hn.wC;have a6:(dN (A'++f::e::B)).J6.getD A'.length []=e.1:=FS;rw[a6];obtain⟨N,M2,R,e2,ae,V,aG⟩:=quh hc Hn (qzX hc au ap (U.1 hsq) bj a2 a3 ⟨a4,a5⟩) oJ;rw[<- aq] at ae;rw[<- ac] at V;rw[<- I];exact⟨N,_,M2,_,R,by rw[I];exact e2,rfl,aE ae,ax V,by rw[C];simp;omega,oJ⟩;rw[iP hsq];have bH:f.2.size<=minOf k v h:=Nat.le_of_not_lt λh9=>hsq (U.2 h9);have a7:=aB.2;obtain⟨N,M2,R,e2,ae,V,aG⟩:=qqt hc Hn oJ oJ oJ;rw[<- aq] at ae;rw[<- ac] at V;rw[<- I];exact⟨N,_,M2,_,R,by rw[I];exact e2,rfl,aE ae,ax V,by rw[C];simp;omega,oJ⟩;rw[iN hA0];obtain rfl:A=[]:=HW oJ;obtain⟨f,B',rfl⟩:∃f B',B=f::B':=by
   cases B with
   | nil=>rw[C] at an;simp at an
   | cons f B'=>exact⟨f,B',rfl⟩
  have aB:=G f (.inr oL);obtain⟨Ny,Ry,aY,au,aZ,_,_⟩:=aB.1.load;have I:es=[]++e::f::B':=aa;have ac:([]:List gJ).flatMap (·.2.y4)++((e.2.x5::J)++(f::B').flatMap (·.2.y4))=([]:List gJ).flatMap (·.2.y4)++(((e.2.x5::J)++(f.2.x5::Ry))++B'.flatMap (·.2.y4)):=by rw[yG,aZ];simp only[zV]
  have aq:([]:List gJ).flatMap (·.2.y3)++(gj key e.2.y3++(f::B').flatMap (·.2.y3))=([]:List gJ).flatMap (·.2.y3)++((gj key e.2.y3++f.2.y3)++B'.flatMap (·.2.y3)):=(by rw[yG];simp only[zV]);have aC:fM ([]++(e.1,(⟨0,0,gj key e.2.y3,[]⟩:ia))::(f.1,⟨0,0,f.2.y3,[]⟩)::B'):=(by have h9:fM ([(e.1,(⟨0,0,gj key e.2.y3,[]⟩:ia))]++f::B'):=aA;exact h9.swap (s:=⟨0,0,f.2.y3,[]⟩) λx u=>u);have ad:=aU;rw[ac] at ad;have Hn:sG D M1 k v h [] B' e f N1 Ny n1 f.2.size (gj key e.2.y3) f.2.y3 J Ry:=
   ⟨st.wf,st.Q3,by rw[<- I];exact h0,by rw[<- I];exact ab,aC,by have:=an.2;rw[C] at this;simp at this⊢;omega,λb E=>G b (E.imp id λE=>by simp[E]),ap,au,ad.has,ad.nodup⟩
  have a1:(dN es).J9.getD (([]:List gJ).length+1) 0=f.2.x5:=(by rw[I];exact zj.2);have U:iT Ny k v↔minOf k v h<f.2.size:=(by unfold iT;rw[au.size,ar]);unfold jF;rw[a1,aY];dsimp only;rw[iN λh=>h rfl,iN (show ¬([]:List gJ).length+1<([]:List gJ).length by simp),I];by_cases hsq:iT Ny k v;rw[iN λh=>h hsq];obtain⟨a2,a3,a4,a5⟩:=Hn.wC;have a6:(dN ([]++e::f::B')).J6.getD ([]:List gJ).length []=f.1:=FS (A:=[]) (B:=B') (e1:=e);rw[a6];obtain⟨N,M2,R,e2,ae,V,aG⟩:=quh hc Hn (qAy hc ap au bj (U.1 hsq) a2 a3 ⟨a4,a5⟩) oJ;rw[<- aq] at ae;rw[<- ac] at V;rw[<- I];exact⟨N,_,M2,_,R,by rw[I];exact e2,rfl,aE ae,ax V,by rw[C];simp,oJ⟩;rw[iP hsq];have bH:f.2.size<=minOf k v h:=Nat.le_of_not_lt λh9=>hsq (U.2 h9);have a7:=aB.2;obtain⟨N,M2,R,e2,ae,V,aG⟩:=qqt hc Hn oJ oJ oJ;rw[<- aq] at ae;rw[<- ac] at V;rw[<- I];exact⟨N,_,M2,_,R,by rw[I];exact e2,rfl,aE ae,ax V,by rw[C];simp,oJ⟩;rw[iP hlw];have a7:minOf k v h<=n1:=Nat.le_of_not_lt λh9=>hlw (aK.2 h9);obtain⟨q,M2,e2,V,H2,aG⟩:=ap.store st.wf st.Q3 oJ bh aV oJ;rw[e2];have bI:Step D M M2 (e.2.x5::Re) (q::J):=Step.kid (Q:=[q]) (λz hz=>ay z (zI _ (zH _ hz))) ao st V;have bJ:=Step.part ay ah bI;have a8:fM (A++(e.1,(⟨q,n1,gj key e.2.y3,q::J⟩:ia))::B):=aw.swap λx u=>(GG.1 u).1;have a9:((A++(e.1,(⟨q,n1,gj key e.2.y3,q::J⟩:ia))::B).map (·.1)).head?=some []:=(by rw[aa] at h0;rw[xM,xN] at h0⊢;exact h0);refine⟨dN (A++(e.1,(⟨q,n1,gj key e.2.y3,q::J⟩:ia))::B),es.length,M2,_,A.flatMap (·.2.y4)++((q::J)++B.flatMap (·.2.y4)),?_,rfl,⟨_,a9,rfl,by rw[aa];simp,by rw[qt,am],by rw[qt],Gx (by rw[<- aa];exact ab),a8,an.2,λb E=>?_⟩,by rw[ai,aR];exact bJ,by show es.length<=es.length+1;omega,oJ⟩;rw[aa];exact H9 (λN=>((N,(0:Int)),M2)) (qAt (s:=⟨q,n1,gj key e.2.y3,q::J⟩));have bn:∀b,b∈A\/b∈B->Has D M2 k v h b.2/\minOf k v h<=b.2.size:=λb E=>by have h9:=G b E;refine⟨h9.1.q8 λx u=>(V.rest x (h9.1.J4 st.Q3 x u) λhm=>?_).1,h9.2⟩;have hd:=yL.1 ah;have bo:=zE.1 hm;rcases E with E|E;exact hd.2.2 x (yJ.2 ⟨b,E,u⟩) x (by rw[bo];simp) rfl;exact (yL.1 hd.2.1).2.2 x (by rw[bo];simp) x (yJ.2 ⟨b,E,u⟩) rfl
  rcases zD.1 E with E|E;exact bn b (.inl E);rcases zG.1 E with rfl|E;exact⟨H2,a7⟩;exact bn b (.inr E)
end
end
section
open Go Go.Pt List
open Go.IntKind (wrap)
attribute [local irreducible] ld dL gZ mP i3 fc st new idx i4 jg fB jk iO lS gB nn call dZ inv run eW iC join loop held ext jU eH mv mp mA IntKind.wrap
variable {B:Ik} {K:Sl->WP} {cs:Array Ie} {i:Nat} {ii:Int} {l:List Key} {s:Sl} {w:Ic}
def D3{α:Type}{p:α->Bool}:∀ {l:List α} {r:Nat},r<=l.length->(∀(i:Nat) a,i<r->l[i]?=some a->p a=true)->(∀a,l[r]?=some a->p a=false)->(l.takeWhile p).length=r
 | [],r,h,_,_=>by simp at h;simp[h]
 | x::l,0,h,_,u=>by
  have:=u x rfl;rw[takeWhile_cons,this];rfl
 | x::l,r+1,h,E,u=>by
  have G:=E 0 x (Nat.succ_pos r) rfl;have:=D3 (p:=p) (l:=l) (r:=r) (oP h) (λi a I C=>E (i+1) a oJ (oP C)) (λa C=>u a (oP C));rw[takeWhile_cons,G];simp[this]
def qz7{k:Key}{r:Nat}(C:r<=l.length)(E:∀(i:Nat) a,i<r->l[i]?=some a->lO a k)(G:∀a,l[r]?=some a->fK k a):eu l k=r:=
 D3 C (λi a I u=>zZ (E i a I u)) λa u=>zU λh=>h (G a u)
def qxC{k:Key}{r:Nat}(u:r<=l.length)(C:∀(i:Nat) a,i<r->l[i]?=some a->fK a k)(E:∀a,l[r]?=some a->lO k a):dO l k=r:=
 D3 u (λi a G h=>zZ (C i a G h)) λa h=>zU (E a h)
def ET(h:fL l){j:Nat}{a b:Key}(u:i<j)(C:l[i]?=some a)(E:l[j]?=some b):fK a b:=by obtain⟨G,rfl⟩:=zP.1 C;obtain⟨I,rfl⟩:=zP.1 E;exact pairwise_iff_getElem.1 h i j G I u
abbrev kz:=Im
def eN (x:kz):Array Ie:=#[.bool x.1,x.2.1.v,x.2.2.1.v,x.2.2.2.v]
def fD:kz:=(false,dH,dH,dH)
def NB (n:dM):Prop:=(∀a∈n.J6,eI a)/\(∀a∈n.Q0,eI a)/\∀x∈n.J9,gE x
def eF (S:Ik) (w:Ic) (x:kz) (n:dM):Prop:=
 x.1=n.Q4/\NB n/\(∃pk,jq S w x.2.1 pk/\ga pk=n.J6)/\(∃pv,jq S w x.2.2.1 pv/\ga pv=n.Q0)/\ee iw 1 S w x.2.2.2 n.J9
def iZ (Z:Ik) (w:Ic) (s:Sl) (l:List Key) (B:Ik):Prop:=∃pk:ph,eU gq 1 w s (iv pk) B/\ga pk=l/\∀p∈pk,en Z w p.1 p.2
def fh (Z:Ik) (w:Ic) (x:kz) (n:dM) (B:Ik):Prop:=
 x.1=n.Q4/\NB n/\∃Bk h u,B=Bk++(h++u)/\B.Nodup/\iZ Z w x.2.1 n.J6 Bk/\iZ Z w x.2.2.1 n.Q0 h/\eU iw 1 w x.2.2.2 n.J9 u
def iZ.nil(Z:Ik)(w:Ic):iZ Z w dH [] []:=⟨[],.nil _ _ _,rfl,λp h=>nomatch h⟩
def fh.zero(Z:Ik)(w:Ic):fh Z w fD ir []:=⟨rfl,⟨λ_ h=>(nomatch h),λ_ h=>(nomatch h),λ_ h=>(nomatch h)⟩,[],[],[],rfl,nodup_nil,.nil _ _,.nil _ _,.nil _ _ _⟩
section
variable {Z Z' S:Ik} {w w':Ic} {s:Sl} {l:List Key} {B:Ik} {x:kz} {n:dM}
def iZ.lt(h:iZ Z w s l B):∀b∈B,b<w.heap.size:=by obtain⟨pk,u,rfl,_⟩:=h;exact u.lt
def iZ.q8(h:iZ Z w s l B)(f:Fr S w w')(u:∀b∈B,b∉S)(C:∀b∈S,b∈Z\/w.heap.size<=b)(E:∀b∈Z',b∈Z\/w.heap.size<=b):iZ Z' w' s l B:=by obtain⟨pk,G,I,J⟩:=h;exact⟨pk,G.q8 f u,I,λp R=>(J p R).q8 (f.mono λi U V=>(C i U).elim id λh=>absurd V oJ) E⟩
def iZ.q7(h:iZ Z w s l B)(f:Fr [] w w'):iZ Z w' s l B:=h.q8 f (λ_ _ h=>nomatch h) (λ_ h=>nomatch h) λ_ h=>.inl h
def fh.lt(h:fh Z w x n B):∀b∈B,b<w.heap.size:=by obtain⟨_,_,Bk,I,J,rfl,_,C,E,G⟩:=h;intro b u;rcases zD.1 u with u|u;exact C.lt b u;rcases zD.1 u with u|u;exact E.lt b u;exact G.lt b u
def fh.q8(h:fh Z w x n B)(f:Fr S w w')(C:∀b∈B,b∉S)(E:∀b∈S,b∈Z\/w.heap.size<=b)(G:∀b∈Z',b∈Z\/w.heap.size<=b):fh Z' w' x n B:=by obtain⟨I,u,Bk,J,R,rfl,U,V,h2,h3⟩:=h;exact⟨I,u,Bk,J,R,rfl,U,V.q8 f (λb u=>C b (by simp[u])) E G,h2.q8 f (λb u=>C b (by simp[u])) E G,h3.q8 f λb u=>C b (by simp[u])⟩
def fh.q7(h:fh Z w x n B)(f:Fr [] w w'):fh Z w' x n B:=h.q8 f (λ_ _ h=>nomatch h) (λ_ h=>nomatch h) λ_ h=>.inl h
def fh.j6(h:fh Z w x n B)(u:∀b∈Z',b∈Z\/w.heap.size<=b):fh Z' w x n B:=h.q8 (.refl [] _) (λ_ _ h=>nomatch h) (λ_ h=>nomatch h) u
def iZ.rd(h:iZ Z w s l B)(u:∀b∈B,b∉S)(C:∀b∈S,b∈Z\/w.heap.size<=b):∃pk,jq S w s pk/\ga pk=l:=by obtain⟨pk,E,G,I⟩:=h;exact⟨pk,⟨E.jz vQ u,λp J=>(I p J).q8 (.refl _ _) C⟩,G⟩
def fh.rd(h:fh Z w x n B)(C:∀b∈B,b∉S)(E:∀b∈S,b∈Z\/w.heap.size<=b):eF S w x n:=by obtain⟨G,u,Bk,U,V,rfl,hn,I,J,R⟩:=h;exact⟨G,u,I.rd (λb u=>C b (by simp[u])) E,J.rd (λb u=>C b (by simp[u])) E,R.jz (λ_=>rfl) λb u=>C b (by simp[u])⟩
def eF.q8{S':Ik}(h:eF S w x n)(f:Fr S w w')(u:∀b∈S',b∈S\/w.heap.size<=b):eF S' w' x n:=by obtain⟨C,E,⟨pk,G,I⟩,⟨pv,J,R⟩,U⟩:=h;exact⟨C,E,⟨pk,G.q8 f u,I⟩,⟨pv,J.q8 f u,R⟩,U.q8 f u⟩
def eF.q7(h:eF S w x n)(f:Fr [] w w'):eF S w' x n:=h.q8 (f.mono λb u=>nomatch u) λb u=>.inl u
def eF.j6{S':Ik}(h:eF S w x n)(u:∀b∈S',b∈S\/w.heap.size<=b):eF S' w x n:=h.q8 (.refl _ _) u
end
def qk3:∀ {l:List Key},(∀(i:Nat) a b,l[i]?=some a->l[i+1]?=some b->fK a b)->fL l
 | [],_=>.nil
 | [x],_=>pairwise_singleton _ _
 | x::y::r,h=>by have ih:fL (y::r):=qk3 λi a b u E=>h (i+1) a b (oP u) (oP E);have C:fK x y:=h 0 x y rfl rfl;refine yI.2 ⟨λa u=>?_,ih⟩;rcases zG.1 u with rfl|u;exact C;exact pw C (wq ih a u)
def CE{α:Type}{l:List α}{x y:α}(h:y∈fI l i x):y=x\/y∈l:=by unfold fI at h;simp only[zD,zE] at h;rcases h with (h|h)|h;exact .inr (yU h);exact .inl h;exact .inr (yT h)
def Hr{k v:Nat}:∀(c:Nat) {b:Il},eI b->(∀a∈(iQ k v c b).1,eI a)/\∀a∈(iQ k v c b).2,eI a
 | 0,_,_=>⟨λ_ h=>(nomatch h),λ_ h=>(nomatch h)⟩
 | c+1,b,h=>by have ih:=Hr (k:=k) (v:=v) c (b:=b.drop (k+v)) (h.drop _);refine⟨λa u=>?_,λa u=>?_⟩;rcases zG.1 u with rfl|u;exact h.take _;exact ih.1 a u;rcases zG.1 u with rfl|u;exact (h.drop _).take _;exact ih.2 a u
def qqv{k:Nat}:∀(c:Nat) {b:Il},eI b->∀a∈kZ k c b,eI a
 | 0,_,_=>λ_ h=>(nomatch h)
 | c+1,b,h=>λa u=>by rcases zG.1 u with rfl|u;exact h.take _;exact qqv c (h.drop _) a u
def CP:∃i,prog.info? 101=some i/\i.zero=some (.slice none 0 0)/\i.size=1/\i.bytes=24:=sV oK
abbrev fT (s:Sl):Ie:=s.v
abbrev na (n:Int):Ie:=.u n
def CQ{α:Type}(e:α->Ie)(l:List α)(i:Nat)(x:α):(l.take i++[x]++l.drop i).map e=(l.map e).take i++[e x]++(l.map e).drop i:=by rw[xM,xM,xO,xP];rfl
def qum{α:Type}(e:α->Ie)(l:List α)(i:Nat):(l.take i++l.drop (i+1)).map e=(l.map e).take i++(l.map e).drop (i+1):=by rw[xM,xO,xP]
def Ap{a:Addr}{len cap:Nat}{hi:Int}{u:Nat}{K:Sl->Prop}(n:Nat)(C:hi=n)(h:n<=cap)(k:K ⟨some a,n,cap⟩):fB ⟨some a,len,cap⟩ none (some hi) none u K:=by subst C;refine zv ⟨oJ,by dsimp only;omega⟩ ?_;rw[zJ];exact k
def rO{b len cap:Nat}{lo:Int}{K:Sl->Prop}(n:Nat)(h:lo=n)(C:n<=len)(u:len<=cap)(E:n<cap)(k:K ⟨some (dg b n),len-n,cap-n⟩):fB ⟨pW b,len,cap⟩ (some lo) none none 1 K:=by subst h;refine Cv oJ oJ u oJ ?_;rw[zJ,xS,xR];exact k
def qxW{lo hi mx:Int}{u:Nat}{K:Sl->Prop}(h:0<=lo/\lo<=hi/\hi<=mx/\mx<=s.cap)(k:∀C,K C):fB s (some lo) (some hi) (some mx) u K:=by unfold fB;exact⟨by simpa using h,k _⟩
def zd{α:Type}{e:α->Ie}{b:Nat}{T:If}{E:Iu}{l:List α}(G:w.heap[b]?=some (.cells cs T E))(I:cs.toList.take l.length=l.map e)(i:Nat):∀(j:Nat) u,((l.map e).drop i)[j]?=some u->w.cell? (Addr.add (dg b i) j)=some u:=λj u C=>by rw[Addr.q9,jp G];rw[yZ] at C;have h:=(zP.1 C).1;rw[zK] at h;rw[<- I,xA,iP h] at C;simpa using C
def qmp{α:Type}{e:α->Ie}{l:List α}(h:cs.toList.take l.length=l.map e)(hi:i<=l.length):cs.toList.take i=(l.map e).take i:=by rw[<- h,take_take,xQ hi]
def Dp{α:Type}{enc:α->List Ie}{e:α->Ie}(u:∀x,enc x=[e x]){l:List α}(h:cs.toList.take l.length=l.flatMap enc):cs.toList.take l.length=l.map e:=by rw[h,Ac u]
def quZ{l:List Sl}{x:Sl}{vb:Nat}{T':If}(h:eU gq 1 w s l B)(hi:i<=l.length)(he:ii=i)(hl:l.length<=100000)(hv:w.heap[vb]?=some (.c #[fT x] T'))(ak:vb∉B)(kk:∀s' B' w',eU gq 1 w' s' (fI l i x) B'->Fr B w w'->(∀b∈B',b∈B\/w.heap.size<=b)->K s' w'): cW 165 [s.v,.i ii,.slice (pW vb) 1 1] dh w K:=by
 obtain⟨aG,ab,hz,al,am⟩:=CP;refine qlW (s:=s) (i:=ii) (v:=⟨pW vb,1,1⟩) ?_;subst he;have an:=h.len;have ac:∀w',Fr B w w'->∀(j:Nat) u,([fT x]:List Ie)[j]?=some u->w'.cell? (Addr.add (dg vb) j)=some u:=λw' f j u hj=>by rw[Addr.q9,jp (by rw[f.block vb (eX hv) ak];exact hv),xR];simpa using hj
 refine ee.part (S:=[]) (eU.jz (enc:=gq) (k:=1) (λ_=>rfl) h λ_ _ h=>nomatch h) (lo:=some (i:Int)) (hi:=none) i l.length rfl (by rw[xV,an]) hi (zM _) λs1 _ _ _=>HM rfl ?_;apply dX<;>intro hc;have J:i=l.length:=(by have:=yO.1 hc;omega);have ao:Src prog 1 171 (.slice (pW vb) 1 1) 1 ([x].flatMap gq) w:=.ofSlice w (e':=101) oK _ 1 1 _ rfl (ac w (.refl _ _)) (λu hu=>by rw[yG,flatMap_nil,xG] at hu;rw[zE.1 hu];rfl);refine eU.j1 (ys:=[x]) (e:=101) h (λ_=>rfl) oK ab hz al rfl ao rfl (by rw[am];omega) oJ λs' B' w' b' f' n' _=>kk s' B' w' ?_ f' n';have e:fI l i x=l++[x]:=(by unfold fI;rw[J,xY,drop_length,xG]);rw[e];exact b';have J:i<l.length:=by
  have:=(zR.1 hc)
  omega
 have aH:l≠[]:=λe=>by rw[e] at J;exact absurd J (xX _)
 obtain⟨b,cs,T,rfl,ha,hb,hn,ap,aq,aI⟩:=h.ptr aH;have hM:=Dp (e:=fT) (λ_=>rfl) aI;obtain⟨sa,sn,sc⟩:=s;dsimp only at ha hn ap aq;subst ha hn;have aJ:vb≠b:=(oP ak);have E:(l.map fT).length=l.length:=zK ..;have ar:∀v∈(l.map fT).drop i,Value.oneCell' v=true:=λv I=>by obtain⟨y,_,rfl⟩:=mem_map.1 (yT I);rfl
 have R:((l.map fT).drop i).length=l.length-i:=(by rw[yB,E]);have U:wrap .i64 ((l.length:Int)+1)=((l.length+1:Nat):Int):=(by rw[gi _ oJ];rfl);have au:wrap .i64 ((i:Int)+1)=((i+1:Nat):Int):=(by rw[gi _ oJ];rfl);have aK:wrap .i64 (((l.length+1:Nat):Int)-(i:Int))=((l.length+1-i:Nat):Int):=(by rw[gi _ oJ];omega);apply cD<;>intro hc;have hg:sc<l.length+1:=by
  have:=hc;dsimp only at this;rw[show (((1:Nat):Int))=1 from rfl,U] at this;omega
 refine Ap i rfl oJ ?_;dsimp only;rw[show (((1:Nat):Int))=1 from rfl,U,aK,au];have av:i+(l.length+1-i)=l.length+1:=oJ;refine FR (e:=101) (i:=aG) (kn:=.i64) (olds:=(l.map fT).take i) oK oK ab hz al rfl (by rw[yK,E];omega) (λh=>nomatch h) (λa ha j u hj=>?_) oJ oJ (by rw[av,am];omega) oJ λb2 aM c w2 e2 af f2 V aN aO=>?_;cases ha;have aw:=zd hb hM 0 j u;rw[xE] at aw;rw[xA] at hj;split at hj;exact aw hj;cases hj;rw[av] at V⊢;have ax:=eX hb;have aZ:Fr [b2] w w2:=f2.mono λ_ h _=>nomatch h;refine rO i rfl oJ V oJ<|vt (vs:=[fT x]) (src:=⟨pW vb,1,1⟩) af (el:=101) oK oK ?_ (λ_=>⟨_,rfl,ac w2 (f2.mono λ_ h _=>nomatch h)⟩) (λv I=>by rw[zE.1 I];rfl) oO λw3 ag f3=>?_;show 1=min 1 (l.length+1-i);omega;refine rO (i+1) rfl oJ V oJ<|rO i rfl oJ oJ oJ ?_;have aP:w3.heap[b]?=some (.c cs T):=by rw[f3.block b (yC ax f2.size) oO,f2.block b ax λh=>nomatch h];exact hb
 refine vt (w:=w3.drew) (vs:=(l.map fT).drop i) (src:=⟨some (dg b i),l.length-i,sc-i⟩) ag (el:=101) oK oK ?_ (λ_=>⟨_,rfl,zd (w:=w3.drew) aP hM i⟩) ar (by rw[mY,R];omega) λw4 aQ f4=>?_;rw[R];show l.length-i=min (l.length-i) (l.length+1-(i+1));omega;have G:=qxd (cs:=aM) (M:=l.map fT) (i:=i) (v:=fT x) (by rw[E];omega) (by rw[E];omega) aO;have C:(fI l i x).length=l.length+1:=(by unfold fI;simp;omega);refine kk _ [b2] w4 (eU.one (e:=fT) (λ_=>rfl) aQ C.symm V (by rw[mY,mY];exact aN) ?_) ?_ λb' ah=>?_;rw[C];rw[E] at G;rw[G];exact (CQ fT l i x).symm;refine Fr.j8 (S:=[b]) (T:=[b2]) (f2.mono λ_ h _=>nomatch h) (f3.drew.trans f4) λi hi=>.inr ?_;rw[zE.1 hi,e2];exact zM _;rw[zE.1 ah,e2];exact .inr (zM _);have hg:l.length+1<=sc:=by
  have:=hc;dsimp only at this;rw[show (((1:Nat):Int))=1 from rfl,U] at this;omega
 dsimp only;rw[show (((1:Nat):Int))=1 from rfl,U,au];refine Ap (l.length+1) rfl hg<|rO (i+1) rfl oJ hg oJ<|A6 (e:=Extern.SlicesOverlaps.overlaps #[171,171] #[4]) Tryz.func196 oK oK oK oK false w (qot oK ab hv hb aJ oJ)<|HK rfl<|rO (i+1) rfl oJ hg oJ<|rO i rfl oJ hg oJ<|vt (w:=w.drew) (vs:=(l.map fT).drop i) (src:=⟨some (dg b i),l.length+1-i,sc-i⟩) hb (el:=101) oK oK ?_ (λ_=>⟨_,rfl,zd (w:=w.drew) hb hM i⟩) ar (by rw[R];omega) λw2 af f2=>?_;rw[R];show l.length-i=min (l.length+1-i) (l.length+1-(i+1));omega;refine rO i rfl oJ hg oJ<|vt (vs:=[fT x]) (src:=⟨pW vb,1,1⟩) af (el:=101) oK oK ?_ (λ_=>⟨_,rfl,ac w2 ((Fr.refl [b] w).drew.trans f2)⟩) (λv I=>by rw[zE.1 I];rfl) (by rw[mY];simp;omega) λw3 ag f3=>?_;show 1=min 1 (l.length+1-i);omega;have G:=qxf (cs:=cs) (M:=l.map fT) (i:=i) (v:=fT x) (by rw[E];omega) (by rw[E];omega) (qmp hM oJ);have C:(fI l i x).length=l.length+1:=(by unfold fI;simp;omega);refine kk _ [b] w3 (eU.one (e:=fT) (λ_=>rfl) ag C.symm hg (by rw[mY,mY];exact aq) ?_) (((Fr.refl [b] w).drew.trans f2).trans f3) λb' ah=>.inl ah;rw[C];rw[E] at G;rw[G];exact (CQ fT l i x).symm
def quW{l:List Sl}{jj:Int}(h:eU gq 1 w s l B)(hi:i<l.length)(he:ii=i)(hj:jj=((i+1:Nat):Int))(hl:l.length<=100000)(kk:∀s' w',eU gq 1 w' s' (gN l i) B->Fr B w w'->K s' w'): cW 168 [s.v,.i ii,.i jj] dh w K:=by
 obtain⟨aw,ac,hz,ad,ax⟩:=CP;refine qlU ?_;subst he hj;have ae:l≠[]:=λe=>by rw[e] at hi;exact absurd hi (xX _)
 obtain⟨b,cs,T,rfl,ha,hb,hn,U,G,af⟩:=h.ptr ae;have hM:=Dp (e:=fT) (λ_=>rfl) af;obtain⟨sa,sn,sc⟩:=s;dsimp only at ha hn U G;subst ha hn;have C:(l.map fT).length=l.length:=zK ..;have aA:∀v∈(l.map fT).drop (i+1),Value.oneCell' v=true:=λv ag=>by obtain⟨y,_,rfl⟩:=mem_map.1 (yT ag);rfl
 have aB:((l.map fT).drop (i+1)).length=l.length-(i+1):=(by rw[yB,C]);refine qxW oN λ_=>HM (zR.2 oJ)<|Ap i rfl oJ ?_;have ah:∀R,R.heap[b]?=some (.c (dS cs i ((l.map fT).drop (i+1))) T)->Fr [b] w R->fB ⟨pW b,l.length-1,sc⟩ (some (((l.length-1:Nat)):Int)) (some ((l.length:Nat):Int)) none 1 λ(I:Sl)=>
  run [] ((Builtin.clear_ #[171] 0 (#[Value.slice I.a I.len I.cap])).run prog R)<|
  λ(aC:PUnit) (ai:Ic)=>
  K ⟨pW b,l.length-1,sc⟩ ai:=λR J f5=>by
  refine CD oJ oJ oJ oJ ?_;rw[zJ,zJ,xS,xR];have h1:l.length-(l.length-1)=1:=oJ;rw[h1];dsimp only;refine quj (e:=101) (z:=(Value.slice none 0 0)) J oK oK rfl rfl oJ (by rw[mY];omega) λw6 ak f6=>?_;have E:=qwT (cs:=cs) (M:=l.map fT) (i:=i) (z:=(Value.slice none 0 0)) (by rw[C];omega) (by rw[C];exact hM);have V:(gN l i).length=l.length-1:=(by unfold gN;simp;omega);refine kk _ w6 (eU.one (e:=fT) (λ_=>rfl) ak V.symm oJ (by rw[mY,mY];exact G) ?_) (f5.trans f6);rw[V];rw[C] at E;rw[show List.replicate 1 ((Value.slice none 0 0))=[(Value.slice none 0 0)] from rfl,E];exact (qum fT l i).symm
 refine ee.part (S:=[]) (eU.jz (enc:=gq) (k:=1) (λ_=>rfl) h λ_ _ h=>nomatch h) (lo:=some ((i+1:Nat):Int)) (hi:=none) (i+1) l.length rfl rfl oJ (zM _) λs3 aa h3 aH=>?_;have ab:Src prog 1 171 s3.v s3.len ((l.map fT).drop (i+1)) w.drew:=by
  have:=ui (P:=prog) (tx:=171) (e':=101) (h3.same (nt.refl w).drew) (λ_=>rfl) (λx u hu=>by rw[zE.1 hu];rfl) oK;rw[Ac (enc:=gq) (e:=fT) λ_=>rfl,xY,xP] at this;exact this
 dsimp only;refine qud (w:=w.drew) (e:=101) hb oK ac ad ab (by rw[aa];omega) G λR J f5=>?_;have e:i+s3.len=l.length-1:=(by rw[aa];omega);rw[e];exact ah R J ((Fr.refl [b] w).drew.trans f5)
def qu0{l:Il}{x:Int}{vb:Nat}{T':If}(h:eU iw 1 w s l B)(hi:i<=l.length)(he:ii=i)(hl:l.length<=100000)(hv:w.heap[vb]?=some (.c #[na x] T'))(ak:vb∉B)(kk:∀s' B' w',eU iw 1 w' s' (fI l i x) B'->Fr B w w'->(∀b∈B',b∈B\/w.heap.size<=b)->K s' w'): cW 167 [s.v,.i ii,.slice (pW vb) 1 1] dh w K:=by
 obtain⟨aG,ab,hz,al,am⟩:=vF;refine qlX (s:=s) (i:=ii) (v:=⟨pW vb,1,1⟩) ?_;subst he;have an:=h.len;have ac:∀w',Fr B w w'->∀(j:Nat) u,([na x]:List Ie)[j]?=some u->w'.cell? (Addr.add (dg vb) j)=some u:=λw' f j u hj=>by rw[Addr.q9,jp (by rw[f.block vb (eX hv) ak];exact hv),xR];simpa using hj
 refine ee.part (S:=[]) (eU.jz (enc:=iw) (k:=1) (λ_=>rfl) h λ_ _ h=>nomatch h) (lo:=some (i:Int)) (hi:=none) i l.length rfl (by rw[xV,an]) hi (zM _) λs1 _ _ _=>HM rfl ?_;apply dX<;>intro hc;have J:i=l.length:=(by have:=yO.1 hc;omega);have ao:Src prog 1 172 (.slice (pW vb) 1 1) 1 ([x].flatMap iw) w:=.ofSlice w (e':=63) oK _ 1 1 _ rfl (ac w (.refl _ _)) (λu hu=>by rw[yG,flatMap_nil,xG] at hu;rw[zE.1 hu];rfl);refine eU.j1 (ys:=[x]) (e:=63) h (λ_=>rfl) oK ab hz al rfl ao rfl (by rw[am];omega) oJ λs' B' w' b' f' n' _=>kk s' B' w' ?_ f' n';have e:fI l i x=l++[x]:=(by unfold fI;rw[J,xY,drop_length,xG]);rw[e];exact b';have J:i<l.length:=by
  have:=(zR.1 hc)
  omega
 have aH:l≠[]:=λe=>by rw[e] at J;exact absurd J (xX _)
 obtain⟨b,cs,T,rfl,ha,hb,hn,ap,aq,aI⟩:=h.ptr aH;have hM:=Dp (e:=na) (λ_=>rfl) aI;obtain⟨sa,sn,sc⟩:=s;dsimp only at ha hn ap aq;subst ha hn;have aJ:vb≠b:=(oP ak);have E:(l.map na).length=l.length:=zK ..;have ar:∀v∈(l.map na).drop i,Value.oneCell' v=true:=λv I=>by obtain⟨y,_,rfl⟩:=mem_map.1 (yT I);rfl
 have R:((l.map na).drop i).length=l.length-i:=(by rw[yB,E]);have U:wrap .i64 ((l.length:Int)+1)=((l.length+1:Nat):Int):=(by rw[gi _ oJ];rfl);have au:wrap .i64 ((i:Int)+1)=((i+1:Nat):Int):=(by rw[gi _ oJ];rfl);have aK:wrap .i64 (((l.length+1:Nat):Int)-(i:Int))=((l.length+1-i:Nat):Int):=(by rw[gi _ oJ];omega);apply cD<;>intro hc;have hg:sc<l.length+1:=by
  have:=hc;dsimp only at this;rw[show (((1:Nat):Int))=1 from rfl,U] at this;omega
 refine Ap i rfl oJ ?_;dsimp only;rw[show (((1:Nat):Int))=1 from rfl,U,aK,au];have av:i+(l.length+1-i)=l.length+1:=oJ;refine FR (e:=63) (i:=aG) (kn:=.i64) (olds:=(l.map na).take i) oK oK ab hz al rfl (by rw[yK,E];omega) (λh=>nomatch h) (λa ha j u hj=>?_) oJ oJ (by rw[av,am];omega) oJ λb2 aM c w2 e2 af f2 V aN aO=>?_;cases ha;have aw:=zd hb hM 0 j u;rw[xE] at aw;rw[xA] at hj;split at hj;exact aw hj;cases hj;rw[av] at V⊢;have ax:=eX hb;have aZ:Fr [b2] w w2:=f2.mono λ_ h _=>nomatch h;refine rO i rfl oJ V oJ<|vt (vs:=[na x]) (src:=⟨pW vb,1,1⟩) af (el:=63) oK oK ?_ (λ_=>⟨_,rfl,ac w2 (f2.mono λ_ h _=>nomatch h)⟩) (λv I=>by rw[zE.1 I];rfl) oO λw3 ag f3=>?_;show 1=min 1 (l.length+1-i);omega;refine rO (i+1) rfl oJ V oJ<|rO i rfl oJ oJ oJ ?_;have aP:w3.heap[b]?=some (.c cs T):=by rw[f3.block b (yC ax f2.size) oO,f2.block b ax λh=>nomatch h];exact hb
 refine vt (w:=w3.drew) (vs:=(l.map na).drop i) (src:=⟨some (dg b i),l.length-i,sc-i⟩) ag (el:=63) oK oK ?_ (λ_=>⟨_,rfl,zd (w:=w3.drew) aP hM i⟩) ar (by rw[mY,R];omega) λw4 aQ f4=>?_;rw[R];show l.length-i=min (l.length-i) (l.length+1-(i+1));omega;have G:=qxd (cs:=aM) (M:=l.map na) (i:=i) (v:=na x) (by rw[E];omega) (by rw[E];omega) aO;have C:(fI l i x).length=l.length+1:=(by unfold fI;simp;omega);refine kk _ [b2] w4 (eU.one (e:=na) (λ_=>rfl) aQ C.symm V (by rw[mY,mY];exact aN) ?_) ?_ λb' ah=>?_;rw[C];rw[E] at G;rw[G];exact (CQ na l i x).symm;refine Fr.j8 (S:=[b]) (T:=[b2]) (f2.mono λ_ h _=>nomatch h) (f3.drew.trans f4) λi hi=>.inr ?_;rw[zE.1 hi,e2];exact zM _;rw[zE.1 ah,e2];exact .inr (zM _);have hg:l.length+1<=sc:=by
  have:=hc;dsimp only at this;rw[show (((1:Nat):Int))=1 from rfl,U] at this;omega
 dsimp only;rw[show (((1:Nat):Int))=1 from rfl,U,au];refine Ap (l.length+1) rfl hg<|rO (i+1) rfl oJ hg oJ<|A6 (e:=Extern.SlicesOverlaps.overlaps #[172,172] #[4]) Tryz.func200 oK oK oK oK false w (qot oK ab hv hb aJ oJ)<|HK rfl<|rO (i+1) rfl oJ hg oJ<|rO i rfl oJ hg oJ<|vt (w:=w.drew) (vs:=(l.map na).drop i) (src:=⟨some (dg b i),l.length+1-i,sc-i⟩) hb (el:=63) oK oK ?_ (λ_=>⟨_,rfl,zd (w:=w.drew) hb hM i⟩) ar (by rw[R];omega) λw2 af f2=>?_;rw[R];show l.length-i=min (l.length+1-i) (l.length+1-(i+1));omega;refine rO i rfl oJ hg oJ<|vt (vs:=[na x]) (src:=⟨pW vb,1,1⟩) af (el:=63) oK oK ?_ (λ_=>⟨_,rfl,ac w2 ((Fr.refl [b] w).drew.trans f2)⟩) (λv I=>by rw[zE.1 I];rfl) (by rw[mY];simp;omega) λw3 ag f3=>?_;show 1=min 1 (l.length+1-i);omega;have G:=qxf (cs:=cs) (M:=l.map na) (i:=i) (v:=na x) (by rw[E];omega) (by rw[E];omega) (qmp hM oJ);have C:(fI l i x).length=l.length+1:=(by unfold fI;simp;omega);refine kk _ [b] w3 (eU.one (e:=na) (λ_=>rfl) ag C.symm hg (by rw[mY,mY];exact aq) ?_) (((Fr.refl [b] w).drew.trans f2).trans f3) λb' ah=>.inl ah;rw[C];rw[E] at G;rw[G];exact (CQ na l i x).symm
def quX{l:Il}{jj:Int}(h:eU iw 1 w s l B)(hi:i<l.length)(he:ii=i)(hj:jj=((i+1:Nat):Int))(hl:l.length<=100000)(kk:∀s' w',eU iw 1 w' s' (gN l i) B->Fr B w w'->K s' w'): cW 239 [s.v,.i ii,.i jj] dh w K:=by
 obtain⟨aw,ac,hz,ad,ax⟩:=vF;refine qlV ?_;subst he hj;have ae:l≠[]:=λe=>by rw[e] at hi;exact absurd hi (xX _)
 obtain⟨b,cs,T,rfl,ha,hb,hn,U,G,af⟩:=h.ptr ae;have hM:=Dp (e:=na) (λ_=>rfl) af;obtain⟨sa,sn,sc⟩:=s;dsimp only at ha hn U G;subst ha hn;have C:(l.map na).length=l.length:=zK ..;have aA:∀v∈(l.map na).drop (i+1),Value.oneCell' v=true:=λv ag=>by obtain⟨y,_,rfl⟩:=mem_map.1 (yT ag);rfl
 have aB:((l.map na).drop (i+1)).length=l.length-(i+1):=(by rw[yB,C]);refine qxW oN λ_=>HM (zR.2 oJ)<|Ap i rfl oJ ?_;have ah:∀R,R.heap[b]?=some (.c (dS cs i ((l.map na).drop (i+1))) T)->Fr [b] w R->fB ⟨pW b,l.length-1,sc⟩ (some (((l.length-1:Nat)):Int)) (some ((l.length:Nat):Int)) none 1 λ(I:Sl)=>
  run [] ((Builtin.clear_ #[172] 0 (#[Value.slice I.a I.len I.cap])).run prog R)<|
  λ(aC:PUnit) (ai:Ic)=>
  K ⟨pW b,l.length-1,sc⟩ ai:=λR J f5=>by
  refine CD oJ oJ oJ oJ ?_;rw[zJ,zJ,xS,xR];have h1:l.length-(l.length-1)=1:=oJ;rw[h1];dsimp only;refine quj (e:=63) (z:=(Value.int .u32 0)) J oK oK rfl rfl oJ (by rw[mY];omega) λw6 ak f6=>?_;have E:=qwT (cs:=cs) (M:=l.map na) (i:=i) (z:=(Value.int .u32 0)) (by rw[C];omega) (by rw[C];exact hM);have V:(gN l i).length=l.length-1:=(by unfold gN;simp;omega);refine kk _ w6 (eU.one (e:=na) (λ_=>rfl) ak V.symm oJ (by rw[mY,mY];exact G) ?_) (f5.trans f6);rw[V];rw[C] at E;rw[show List.replicate 1 ((Value.int .u32 0))=[(Value.int .u32 0)] from rfl,E];exact (qum na l i).symm
 refine ee.part (S:=[]) (eU.jz (enc:=iw) (k:=1) (λ_=>rfl) h λ_ _ h=>nomatch h) (lo:=some ((i+1:Nat):Int)) (hi:=none) (i+1) l.length rfl rfl oJ (zM _) λs3 aa h3 aH=>?_;have ab:Src prog 1 172 s3.v s3.len ((l.map na).drop (i+1)) w.drew:=by
  have:=ui (P:=prog) (tx:=172) (e':=63) (h3.same (nt.refl w).drew) (λ_=>rfl) (λx u hu=>by rw[zE.1 hu];rfl) oK;rw[Ac (enc:=iw) (e:=na) λ_=>rfl,xY,xP] at this;exact this
 dsimp only;refine qud (w:=w.drew) (e:=63) hb oK ac ad ab (by rw[aa];omega) G λR J f5=>?_;have e:i+s3.len=l.length-1:=(by rw[aa];omega);rw[e];exact ah R J ((Fr.refl [b] w).drew.trans f5)
end
section
open Go Go.Pt List
open Go.IntKind (wrap)
open Classical
attribute [local irreducible] ld dL gZ mP i3 fc st new idx i4 jg fB jk iO lS gB nn call dZ inv run eW iC join loop held ext jU eH mv mp mA IntKind.wrap
variable {B S:Ik} {K:Sl->WP} {L:Ip} {T:If} {b l:Il} {e:IA} {k v:Nat} {kind:Int} {n:dM} {ps:ph} {s:Sl} {w w0:Ic} {x:kz}
def quu{i j:Nat}(h:i+j<=10000000):wrap .i64 (Int.fdiv (wrap .u64 (wrap .i64 ((i:Int)+(j:Int)))) (2^1))=(((i+j) / 2:Nat):Int):=by have e1:wrap .i64 ((i:Int)+(j:Int))=(i:Int)+(j:Int):=gi _ oJ;have u:wrap .u64 ((i:Int)+(j:Int))=(i:Int)+(j:Int):=IntWalk.u64_in _ oJ;rw[e1,u,Int.fdiv_eq_ediv_of_nonneg _ oM];have e:((i:Int)+(j:Int)) / 2^1=(((i+j) / 2:Nat):Int):=oJ;rw[e,gi _ oJ]
def qwC{n:Nat}{v:Ie}{p:Nat->Bool}{K:Int->WP}(E:n<=1000000)(hf:∀w1 (i:Nat) (K':Bool->WP),Fr [] w w1->i<n->(∀w2,Fr [] w w2->K' (p i) w2)->dZ prog v [.i i] dj w1 K')(u:∀i j,i<=j->j<n->p i=true->p j=true)(hk:∀(r:Nat) w',r<=n->(∀i,i<r->p i=false)->(∀i,r<=i->i<n->p i=true)->Fr [] w w'->K r w'): cW 123 [.i n,v] di w K:=by
 refine qpJ<|iX (λs w'=>∃i j:Nat,s=((i:Int),(j:Int))/\i<=j/\j<=n/\(∀a,a<i->p a=false)/\(∀a,j<=a->a<n->p a=true)/\Fr [] w w') (λs _=>(s.2-s.1).toNat) ⟨0,n,rfl,oJ,oJ,λ_ h=>absurd h (xX _),λa G I=>oJ,.refl _ _⟩ ?_;rintro s w1 ⟨i,j,rfl,ag,J,G,I,hs⟩ X hX;dsimp only;apply cD<;>intro R;have ah:i<j:=oJ;rw[quu oJ];refine hf w1 ((i+j) / 2) _ hs oJ λw2 C=>?_;cases hp:p ((i+j) / 2);refine HK rfl ?_;have e:wrap .i64 ((((i+j) / 2:Nat):Int)+1)=(((i+j) / 2+1:Nat):Int):=(by rw[gi _ oJ];rfl);rw[e];refine hX _ _ ⟨(i+j) / 2+1,j,rfl,oJ,J,λa U=>?_,I,C⟩ oN;cases V:p a;rfl
 have:=u a ((i+j) / 2) oJ oJ V;rw[hp] at this;exact this.symm;exact HM rfl<|hX _ _ ⟨i,(i+j) / 2,rfl,oJ,oJ,G,λa U E=>u _ a U E hp,C⟩ oN;have ai:¬i<j:=oJ;exact hk i w1 oJ G (λa U E=>I a oJ E) hs
def qzC{n:Nat}{v:Ie}{c:Nat->Int}{K:Iy->WP}(R:n<=1000000)(hf:∀w1 (i:Nat) (K':Int->WP),Fr [] w w1->i<n->(∀w2,Fr [] w w2->K' (c i) w2)->dZ prog v [.i i] di w1 K')(u:∀i j,i<=j->j<n->c j>0->c i>0)(hk:∀(r:Nat) w',r<=n->(∀i,i<r->c i>0)->(∀i,r<=i->i<n->¬c i>0)->Fr [] w w'->K (r,decide (r<n/\c r=0)) w'): cW 125 [.i n,v] dx w K:=by
 refine qta<|iX (λs w'=>∃i j:Nat,s=((i:Int),(j:Int))/\i<=j/\j<=n/\(∀a,a<i->c a>0)/\(∀a,j<=a->a<n->¬c a>0)/\Fr [] w w') (λs _=>(s.2-s.1).toNat) ⟨0,n,rfl,oJ,oJ,λ_ h=>absurd h (xX _),λa U V=>oJ,.refl _ _⟩ ?_;rintro s w1 ⟨i,j,rfl,ai,aa,U,V,hs⟩ X hX;dsimp only;apply cD<;>intro G;have aj:i<j:=oJ;rw[quu oJ];refine hf w1 ((i+j) / 2) _ hs oJ λw2 C=>?_;apply dX<;>intro I;have I:=zC I;have e:wrap .i64 ((((i+j) / 2:Nat):Int)+1)=(((i+j) / 2+1:Nat):Int):=(by rw[gi _ oJ];rfl);rw[e];exact hX _ _ ⟨(i+j) / 2+1,j,rfl,oJ,aa,λa ha=>u a _ oJ oJ I,V,C⟩ oN;have I:=zB I;exact hX _ _ ⟨i,(i+j) / 2,rfl,oJ,oJ,U,λa ha R ad=>I (u _ a ha R ad),C⟩ oN;have ak:¬i<j:=oJ;have J:=λw'=>hk i w' oJ U λa ha R=>V a oJ R;apply cD<;>intro G;have E:i<n:=oJ;refine hf w1 i _ hs E λw2 C=>?_;have e:(c i==0)=decide (i<n/\c i=0):=by rw[HR,yO,yM];exact⟨λh=>⟨E,h⟩,λh=>h.2⟩
 rw[e];exact J w2 C;have E:¬i<n:=by omega
 have:=J w1 hs;rw[zU λh=>E h.1] at this;exact this
section
variable {S S':Ik} {w:Ic} {x:kz} {n:dM} {ks:Sl} {key:Key}
def CO{K:Iy->WP}(hx:eF S w x n)(hk:en S' w ks key)(hB:eI key)(hr:fL n.J6)(hl:n.J6.length<=1000000)(kk:∀w',Fr [] w w'->K (dO n.J6 key,decide (n.J6[dO n.J6 key]?=some key)) w'): cW 92 [.agg (eN x),ks.v] dx w K:=by
 obtain⟨h0,ab,⟨pk,I,E⟩,_⟩:=hx;refine qrk<|oB (oE [] w) λr1 w1 e1 f1 h=>oB h λr3 w2 e2 f2 h=>Ii h 1 rfl x.2.1 ?_;have R:x.2.1.len=pk.length:=I.len;have ao:n.J6.length=pk.length:=(by rw[<- E,zK]);have u:∀(i:Nat) (C:i<pk.length),n.J6[i]?=some pk[i].2:=λi C=>by rw[<- E,zQ,zA C];rfl
 rw[R];refine qzC (c:=λi=>cmpL key (n.J6.getD i [])) oJ (λw3 i K' f3 C ac=>?_) (λi j aq hj hc=>?_) λr w' au ad ae f'=>?_;refine rZ (lb:=[dG r3,dG r1]) rfl oK ?_;have J:=h.q7 f3;refine qnd ?_;have J:=J.drew;refine Ii J 0 rfl ks<|Ii J 1 rfl x.2.1<|jq.get (I.q7 J.fr) i rfl C<|Az (hk.q7 J.fr) ((I.q7 J.fr).2 pk[i] (zW C)) hB (ab.1 _ (yE (u i C))) ?_;have e:n.J6.getD i []=pk[i].2:=by rw[yQ,u i C];rfl
 have:=ac w3.drew f3.drew;rw[e] at this;exact this;by_cases hij':i=j;rw[hij'];exact hc;have C:=u i oJ;have U:=u j hj;rw[yQ,U,xU] at hc;rw[yQ,C,xU];have h1:fK pk[j].2 key:=(by unfold fK;rw[uu];omega);have V:=pw (ET hr oJ C U) h1;unfold fK at V;rw[uu] at V;omega;have hp:dO n.J6 key=r:=qxC oJ (λi a C ha=>by
  have:=ad i C;rw[yQ,ha,xU,uu] at this;show cmpL a key<0;omega) λa ha=>by
  have ay:=(zP.1 ha).1;have:=ae r (zM _) oJ;rw[yQ,ha,xU,uu] at this;show ¬cmpL a key<0;omega
 have G:=kk w' (h.fr.trans f');rw[hp] at G;have e:decide (n.J6[r]?=some key)=decide (r<pk.length/\cmpL key (n.J6.getD r [])=0):=by refine decide_eq_decide.2 ⟨λh=>?_,λh=>?_⟩;refine⟨by have:=(zP.1 h).1;omega,?_⟩;rw[yQ,h,xU,G5];have V:=h.2;rw[yQ,u r h.1,xU] at V;exact (u r h.1).trans (H9 some (Fh V).symm)
 rw[e] at G;exact G
def BD{K:Int->WP}(hx:eF S w x n)(hk:en S' w ks key)(hB:eI key)(hr:fL n.J6)(hl:n.J6.length<=1000000)(kk:∀w',Fr [] w w'->K (eu n.J6 key) w'): cW 91 [.agg (eN x),ks.v] di w K:=by
 obtain⟨h0,ab,⟨pk,I,C⟩,_⟩:=hx;refine qtR<|oB (oE [] w) λr1 w1 e1 f1 h=>oB h λr3 w2 e2 f2 h=>Ii h 1 rfl x.2.1 ?_;have R:x.2.1.len=pk.length:=I.len;have ao:n.J6.length=pk.length:=(by rw[<- C,zK]);have E:∀(i:Nat) (u:i<pk.length),n.J6[i]?=some pk[i].2:=λi u=>by rw[<- C,zQ,zA u];rfl
 rw[R];refine qwC (p:=λi=>decide (cmpL key (n.J6.getD i [])<0)) oJ (λw3 i K' f3 u ac=>?_) (λi j aq hj U=>?_) λr w' au ad ae f'=>?_;refine rZ (lb:=[dG r3,dG r1]) rfl oK ?_;have J:=h.q7 f3;refine qpr ?_;have J:=J.drew;refine Ii J 0 rfl ks<|Ii J 1 rfl x.2.1<|jq.get (I.q7 J.fr) i rfl u<|Az (hk.q7 J.fr) ((I.q7 J.fr).2 pk[i] (zW u)) hB (ab.1 _ (yE (E i u))) ?_;have e:n.J6.getD i []=pk[i].2:=(by rw[yQ,E i u];rfl);have e2:decide (cmpL key (n.J6.getD i [])<0)=decide (cmpL key pk[i].2<0):=decide_eq_decide.2 (by rw[e]);rw[<- e2];exact ac w3.drew f3.drew;by_cases hij':i=j;rw[<- hij'];exact U;have u:=E i oJ;have V:=E j hj;have U:=zC U;rw[yQ,u,xU] at U;refine zZ ?_;rw[yQ,V,xU];exact pw U (ET hr oJ u V);have hp:eu n.J6 key=r:=qz7 oJ (λi a u ha=>by
  have:=zB (ad i u);rw[yQ,ha,xU] at this;exact this) λa ha=>by
  have ax:=(zP.1 ha).1;have:=zC (ae r (zM _) oJ);rw[yQ,ha,xU] at this;exact this
 have G:=kk w' (h.fr.trans f');rw[hp] at G;exact G
end
section
def Cf{p:Prop}{i:Decidable p}(h:p):true=decide p:=by simp[h]
def rj{i:Nat}(h:i<=100000000):wrap .i64 ((i:Int)+1)=((i+1:Nat):Int):=by rw[gi _ oJ];rfl
section
variable {S:Ik} {w:Ic} {s:Sl}
def qrE{v:Ie}{p:Key->Bool}{K:Bool->WP}(U:jq S w s ps)(hl:ps.length<=1000000)(hf:∀w1 (x:Sl×Key) (V:Bool->WP),Fr [] w w1->x∈ps->(∀w2,Fr [] w w2->V (p x.2) w2)->dZ prog v [x.1.v] dj w1 V)(kk:∀w',Fr [] w w'->K ((ga ps).any p) w'): cW 233 [s.v,v] dj w K:=by
 refine qgB<|qjk ?_;have ab:=U.len;refine iX (λi w'=>∃n:Nat,i=(n:Int)/\n<=ps.length/\((ga ps).take n).any p=false/\Fr [] w w') (λi _=>((ps.length:Int)-i).toNat) ⟨0,rfl,yW _,rfl,.refl _ _⟩ ?_;rintro _ w1 ⟨n,rfl,hn,C,u⟩ X hX;apply cD<;>intro I;have h:n<ps.length:=oJ;refine jq.get (U.q7 u) n rfl h<|hf w1 ps[n] _ u (zW h) λw2 E=>?_;have G:(ga ps)[n]?=some ps[n].2:=(by rw[zQ,zA h];rfl);apply dX<;>intro J;have:(ga ps).any p=true:=any_eq_true.2 ⟨ps[n].2,yE G,J⟩;show K (decide (((n:Nat):Int)>=0)) w2;rw[zZ (show ((n:Nat):Int)>=0 by omega)];rw[<- this];exact kk w2 E;rw[rj oJ];refine hX _ _ ⟨n+1,rfl,h,?_,E⟩ oJ;rw[take_add_one,G,any_append,C];simpa using J;have R:n=ps.length:=oJ;show K (decide ((-1:Int)>=0)) w1;rw[zU (show ¬(-1:Int)>=0 by decide)];have:(ga ps).any p=false:=by rw[<- C,R,zS (by rw[zK];exact zM _)]
 rw[<- this];exact kk w1 u
def qrF{v:Ie}{p:Int->Bool}{K:Bool->WP}(V:Rd S w s l)(hl:l.length<=1000000)(hf:∀w1 (x:Int) (K':Bool->WP),Fr [] w w1->x∈l->(∀w2,Fr [] w w2->K' (p x) w2)->dZ prog v [.u x] dj w1 K')(kk:∀w',Fr [] w w'->K (l.any p) w'): cW 193 [s.v,v] dj w K:=by
 refine qgC<|qjl ?_;have ac:=V.1;refine iX (λi w'=>∃n:Nat,i=(n:Int)/\n<=l.length/\(l.take n).any p=false/\Fr [] w w') (λi _=>((l.length:Int)-i).toNat) ⟨0,rfl,yW _,rfl,.refl _ _⟩ ?_;rintro _ w1 ⟨n,rfl,hn,G,h⟩ X hX;apply cD<;>intro J;have C:n<l.length:=oJ;have E:l[n]?=some l[n]:=zA C;refine ee.get (V.q7 h) n rfl E (y:=l[n]) rfl<|hf w1 l[n] _ h (zW C) λw2 I=>?_;apply dX<;>intro R;have:l.any p=true:=any_eq_true.2 ⟨l[n],yE E,R⟩;show K (decide (((n:Nat):Int)>=0)) w2;rw[zZ (show ((n:Nat):Int)>=0 by omega)];rw[<- this];exact kk w2 I;rw[rj oJ];refine hX _ _ ⟨n+1,rfl,C,?_,I⟩ oJ;rw[take_add_one,E,any_append,G];simpa using R;have U:n=l.length:=oJ;show K (decide ((-1:Int)>=0)) w1;rw[zU (show ¬(-1:Int)>=0 by decide)];have:l.any p=false:=by rw[<- G,U,zS (zM _)]
 rw[<- this];exact kk w1 h
def qsF{m:Nat}{K:Bool->WP}(R:jq S w s ps)(U:ps.length<=1000000)(V:∀w',Fr [] w w'->K (decide (∀a∈ga ps,a.length=m)) w'): cW 191 [s.v,.i m] dj w K:=by
 refine qsK<|oB (oE [] w) λr1 w1 e1 I h=>?_;have u:=R.q7 I;refine qrE (p:=λa=>decide (a.length≠m)) u U (λw2 x K' J hx C=>?_) λw' f'=>?_;refine rZ (lb:=[dG r1]) rfl oK<|qop<|Ii (h.q7 J) 0 rfl (m:Int) ?_;have E:=(u.2 x hx).1;have e:(!((x.1.len:Int)==(m:Int)))=decide (x.2.length≠m):=by rw[E,HR];simp;omega
 rw[e];exact C w2 J;have e:(!((ga ps).any λa=>decide (a.length≠m)))=decide (∀a∈ga ps,a.length=m):=by
  rw[HR,yM,zT,any_eq_false];constructor;intro h a G;have:=h a G;simpa using this;intro h a G;simp[h a G]
 rw[e];exact V w' (I.trans f')
def qxx{K:Bool->WP}(hs:jq S w s ps)(hB:∀a∈ga ps,eI a)(hl:ps.length<=1000000)(kk:∀w',Fr [] w w'->K (decide (fL (ga ps))) w'): cW 192 [s.v] dj w K:=by
 refine qro ?_;have ae:=hs.len;have C:∀(i:Nat) (hi:i<ps.length),(ga ps)[i]?=some ps[i].2:=λi hi=>by rw[zQ,zA hi];rfl
 refine iX (λi w'=>∃n:Nat,i=(n:Int)/\1<=n/\(∀(j:Nat) a b,j+1<n->(ga ps)[j]?=some a->(ga ps)[j+1]?=some b->fK a b)/\Fr [] w w') (λi _=>((ps.length:Int)-i).toNat) ⟨1,rfl,zM _,λj a b h=>oJ,.refl _ _⟩ ?_;rintro _ w1 ⟨n,rfl,hn,J,E⟩ X hX;apply cD<;>intro hc;have G:n<ps.length:=oJ;have e1:wrap .i64 ((n:Int)-1)=((n-1:Nat):Int):=(by rw[gi _ oJ];omega);have I:=hs.q7 E.drew;rw[e1];refine jq.get I (n-1) rfl oJ<|jq.get I n rfl G<|Az (I.2 ps[n-1] (zW _)) (I.2 ps[n] (zW _)) (hB _ (yE (C (n-1) oJ))) (hB _ (yE (C n G))) ?_;apply dX<;>intro R;have R:=zC R;have:¬fL (ga ps):=λhr=>by
  have:=ET hr (show n-1<n by omega) (C (n-1) oJ) (C n G);unfold fK at this;omega
 have u:=kk _ E.drew;rw[zU this] at u;exact u;have R:=zB R;rw[rj oJ];refine hX _ _ ⟨n+1,rfl,oJ,λj a b hj V U=>?_,E.drew⟩ oJ;by_cases hjn:j+1<n;exact J j a b hjn V U;obtain rfl:n=j+1:=by omega
 rw[C j oJ] at V;rw[C (j+1) G] at U;cases V;cases U;show cmpL _ _<0;simp only[Nat.add_sub_cancel] at R;omega;have ai:¬n<ps.length:=oJ;have:fL (ga ps):=qk3 λj a b V U=>J j a b (by
  have:=(zP.1 U).1;rw[zK] at this;omega) V U
 have u:=kk w1 E;rw[zZ this] at u;exact u
def qyy:tp (k:Int) (v:Int)=(((dY k v).1:Int),((dY k v).2:Int)):=by unfold tp dY;by_cases h:k<1\/k>24\/v>108;rw[iP h,iP];rfl;rw[iN h,iN];rfl
def Ga{w:Ic}{K:Io->WP}(h:∀w',Fr [] w w'->K (((dY k v).1:Int),((dY k v).2:Int)) w'):cW 122 [.i k,.i v] dp w K:=
 qzy λw' u=>by rw[qyy];exact h w' (.of_same u)
def qrP{K:Bool->WP}(hx:eF S w x n)(h1:n.J6.length<=1000000)(h2:n.Q0.length<=1000000)(h3:n.J9.length<=1000000)(kk:∀w',Fr [] w w'->K (decide (fH n k v)) w'): cW 160 [.agg (eN x),.i k,.i v] dj w K:=by
 obtain⟨h0,al,⟨pk,ad,C⟩,⟨pv,af,U⟩,ab⟩:=hx;refine qrl<|oB (oE [] w) λr1 w1 e1 f1 h=>Ga λw2 f2=>?_;have h:=h.q7 f2;have l1:pk.length=n.J6.length:=(by rw[<- C,zK]);have l2:pv.length=n.Q0.length:=(by rw[<- U,zK]);have n1:x.2.1.len=n.J6.length:=(by rw[ad.len,l1]);have n2:x.2.2.1.len=n.Q0.length:=(by rw[af.len,l2]);have n3:x.2.2.2.len=n.J9.length:=ab.1;refine gP (λb w'=>b=decide (¬((∀a∈n.J6,a.length=k)/\(∀a∈n.Q0,a.length=v)/\fL n.J6))/\dR [] w w' [(r1,.cells (eN x) 174)]) ?_ ?_;refine Ii h 0 rfl x.2.1<|qsF (m:=k) (ad.q7 h.fr) oJ λw3 f3=>?_;have h:=h.q7 f3;rw[C];refine dX (λG=>⟨?_,h⟩) λG=>?_;have:¬ ∀a∈n.J6,a.length=k:=zB (oP G);exact Cf λJ=>this J.1;have q1:∀a∈n.J6,a.length=k:=zC (oP G);refine Ii h 0 rfl x.2.2.1<|qsF (m:=v) (af.q7 h.fr) oJ λw4 f4=>?_;have h:=h.q7 f4;rw[U];refine dX (λG=>⟨?_,h⟩) λG=>?_;have:¬ ∀a∈n.Q0,a.length=v:=zB (oP G);exact Cf λJ=>this J.2.1;have q2:∀a∈n.Q0,a.length=v:=zC (oP G);refine Ii h 0 rfl x.2.1<|qxx (ad.q7 h.fr) (by rw[C];exact al.1) oJ λw5 f5=>?_;have h:=h.q7 f5;rw[C];refine⟨?_,h⟩;rw[HR,zT,H6,yM];exact⟨λJ g=>J g.2.2,λJ g=>J ⟨q1,q2,g⟩⟩;rintro b w3 ⟨rfl,h⟩;have no:∀ {w'},¬fH n k v->Fr [] w w'->K false w':=λhn f=>by
  have:=kk _ f;rw[zU hn] at this;exact this
 refine dX (λG=>no (λE=>zC G ⟨E.1,E.2.1,E.2.2.1⟩) h.fr) λG=>?_;have hq:=Classical.not_not.1 (zB G);have u:fH n k v↔(if n.Q4 then n.J9=[]/\1<=n.J6.length/\n.J6.length<=(dY k v).1/\n.Q0.length=n.J6.length
   else (∀x∈n.J9,2<=x)/\n.Q0=[]/\2<=n.J9.length/\n.J9.length<=(dY k v).2/\n.J6.length+1=n.J9.length):=⟨λE=>E.2.2.2,λJ=>⟨hq.1,hq.2.1,hq.2.2,J⟩⟩
 refine Ii h 0 rfl x.1 ?_;apply dX<;>intro G;rw[h0] at G;rw[iP G] at u;have ae:∀ {Q:Sl->Prop},Q x.2.1->ld .slice (dg r1 1) w3 Q:=λq=>Ii h 0 rfl x.2.1 q;refine Ii h 0 rfl x.2.2.2<|dX (λR=>?_) λR=>no (λE=>?_) h.fr;refine ae (dX (λV=>?_) λV=>no (λE=>?_) h.fr);refine ae (dX (λI=>?_) λI=>no (λE=>?_) h.fr);refine Ii h 0 rfl x.2.2.1 (ae ?_);have R:=yO.1 R;have V:=zC V;have I:=zC I;have e:((x.2.2.1.len:Int)==(x.2.1.len:Int))=decide (fH n k v):=by rw[HR,yO,yM,u];dsimp only at I;constructor;intro J;exact⟨HW oJ,oJ,oJ,oJ⟩;intro J;omega
 rw[e];exact kk w3 h.fr;have:=(u.1 E).2.2.1;have I:=zB I;dsimp only at I;omega;have:=(u.1 E).2.1;have V:=zB V;omega;have:=(u.1 E).1;have R:=zR.1 R;rw[this] at n3;exact R (by rw[n3];rfl);rw[h0] at G;rw[iN (by rw[G];decide)] at u;have aa:∀ {w'} {Q:Sl->Prop},dR [] w w' [(r1,.cells (eN x) 174)]->Q x.2.2.2->ld .slice (dg r1 3) w' Q:=λh q=>Ii h 0 rfl x.2.2.2 q;refine aa h<|qrF (p:=λy=>decide (y<2)) (ab.q7 h.fr) h3 (λw4 y K' f4 hy ap=>?_) λw4 f4=>?_;exact rZ (lb:=[]) rfl oK<|qne<|ap w4 f4;have h:=h.q7 f4;refine dX (λc0=>no (λE=>?_) h.fr) λc0=>?_;obtain⟨y,hy,ar⟩:=any_eq_true.1 c0
 have:=(u.1 E).1 y hy;have:=zC ar;omega;have ah:∀y∈n.J9,2<=y:=λy hy=>by
  have:=any_eq_false.1 c0 y hy;simp at this;exact this
 refine Ii h 0 rfl x.2.2.1<|dX (λR=>?_) λR=>no (λE=>?_) h.fr;refine aa h (dX (λV=>?_) λV=>no (λE=>?_) h.fr);refine aa h (dX (λI=>?_) λI=>no (λE=>?_) h.fr);refine Ii h 0 rfl x.2.1 (aa h ?_);have R:=yO.1 R;have V:=zC V;have I:=zC I;dsimp only at I;have ew:wrap .i64 ((x.2.2.2.len:Int)-1)=(x.2.2.2.len:Int)-1:=gi _ oJ;have e:((x.2.1.len:Int)==wrap .i64 ((x.2.2.2.len:Int)-1))=decide (fH n k v):=by rw[ew,HR,yO,yM,u];constructor;intro J;exact⟨ah,HW oJ,oJ,oJ,oJ⟩;intro J;omega
 rw[e];exact kk _ h.fr;have:=(u.1 E).2.2.2.1;have I:=zB I;dsimp only at I;omega;have:=(u.1 E).2.2.1;have V:=zB V;omega;have:=(u.1 E).2.1;have R:=zR.1 R;rw[this] at n2;exact R (by rw[n2];rfl)
end
end
section
def Ar{src:Sl}{ys:Il}(h:fR w s l B)(J:en S w src ys)(hl:l.length+ys.length<=1000000)(R:∀E B' w',fR w' E (l++ys) B'->Fr B w w'->(∀b∈B',b∈B\/w.heap.size<=b)->K E w'): Pt.run dh ((Builtin.append_ #[101,101] 101 #[s.v,src.v]).run prog w) K:=by obtain⟨i,U,V,G,I⟩:=uE;have C:=J.1;exact eU.j1 (e:=5) h lc oK U V G rfl (ui (e':=5) J lc (λx u hu=>by rw[zE.1 hu];rfl) oK) C (by rw[I];omega) oJ λE B' w' b' f' n' _=>R E B' w' b' f' n'
def qAK(n:Int):be n 2=[wrap .u8 (Int.fdiv n (2^8)),wrap .u8 n]:=by show [gw n 1,gw n 0]=_;unfold gw;rw[show (min (8*1) 32:Nat)=8 from rfl,show (min (8*0) 32:Nat)=0 from rfl,Int.pow_zero,Int.fdiv_one]
def qBz(n:Int):be n 4=[wrap .u8 (Int.fdiv n (2^24)),wrap .u8 (Int.fdiv n (2^16)),wrap .u8 (Int.fdiv n (2^8)),wrap .u8 n]:=by show [gw n 3,gw n 2,gw n 1,gw n 0]=_;unfold gw;rw[show (min (8*3) 32:Nat)=24 from rfl,show (min (8*2) 32:Nat)=16 from rfl,show (min (8*1) 32:Nat)=8 from rfl,show (min (8*0) 32:Nat)=0 from rfl,Int.pow_zero,Int.fdiv_one]
def jq.get'(h:jq S w s ps)(n:Nat){i:Int}{K:Addr->Sl->Prop}(hi:i=n)(J:n<ps.length)(R:∀a,w.cell? a=some (.slice ps[n].1.a ps[n].1.len ps[n].1.cap)->(∀w',jq S w' s ps->w'.cell? a=some (.slice ps[n].1.a ps[n].1.len ps[n].1.cap))->K a ps[n].1):idx s i 1 λa=>ld .slice a w λx=>K a x:=by
 subst hi;have G:(iv ps)[n]?=some ps[n].1:=(by rw[zQ,zA J];rfl);obtain⟨hl,b,o,I,_,cs,T,fr,hb,hc⟩:=h.1.at n G;refine qs I ⟨oJ,oJ⟩ ?_;rw[zJ];have key:∀w',jq S w' s ps->w'.cell? ⟨b,o+n*1,none⟩=some (.slice ps[n].1.a ps[n].1.len ps[n].1.cap):=λw' U=>by
  obtain⟨_,b',o',u,_,V,T',aa,C,E⟩:=U.1.at n G;rw[I] at u;cases u;rw[jp C]
  have:=H9 (·[0]?) E;simpa[gq] using this
 exact pB ps[n].1 (key w h) (R _ (key w h) key)
def EX{b n:Nat}(u:w.heap[b]?=some (.c (l.map (Value.int .u8)).toArray T))(h:n=l.length):fR w ⟨pW b,n,n⟩ l [b]:=
 eU.one (e:=Value.int .u8) (λ_=>rfl) u h (zM _) (by simp[h]) (by rw[<- zK (f:=Value.int .u8),xY])
def qAe{b:Nat}{n:Int}(u:w.heap[b]?=some (.c #[.b (wrap .u8 (Int.fdiv n (2^24))),.b (wrap .u8 (Int.fdiv n (2^16))),.b (wrap .u8 (Int.fdiv n (2^8))),.b (wrap .u8 n)] T)):en [] w ⟨pW b,4,4⟩ (be n 4):=by rw[qBz];exact eU.jz lc (EX (n:=4) u rfl) λ_ _ h=>nomatch h
section
variable {S:Ik} {w:Ic} {s:Sl}
def qzD{n:Nat}(hn:n<=1000000)(U:∀u B w',fR w' u [] B->Fr [] w w'->(∀b∈B,w.heap.size<=b)->K u w'): cW 121 [.slice none 0 0,.i n] dh w K:=by obtain⟨E,V,hz,G,I⟩:=uE;refine qpI (s:=dH) (n:=n) ?_;have e0:wrap .i64 (((0:Nat):Int)-((0:Nat):Int))=0:=gi _ oM;have e1:wrap .i64 ((n:Int)-0)=(n:Int):=(by rw[gi _ oJ];omega);refine gP (λ_ w'=>w=w') (HM (zU oJ) rfl) ?_;rintro _ _ rfl;refine gP (λu w'=>∃B,fR w' u [] B/\Fr [] w w'/\∀b∈B,w.heap.size<=b) ?_ λu w' ⟨B,b1,f1,n1⟩=>U u B w' b1 f1 n1;dsimp only;rw[e0,e1];refine dX (λR=>?_) λR=>⟨[],.nil _ _ _,.refl _ _,λ_ h=>nomatch h⟩;have C:0<n:=(by have:=zC R;omega);refine zv ⟨oJ,by dsimp only;omega⟩ ?_;rw[zJ];dsimp only;refine FR (e:=5) (i:=E) (kn:=.i64) (olds:=[]) oK oK V hz G rfl rfl (λ_=>rfl) (λa ha=>nomatch ha) C oJ (by rw[I];omega) oJ λb cs c w2 e2 hb f2 h1 h2 h3=>zv ⟨oJ,by dsimp only;omega⟩ ?_;rw[zJ];exact⟨[b],eU.fresh (cap:=c) lc hb rfl (yW _) oJ rfl,f2,λb' J=>by rw[zE.1 J,e2];exact zM _⟩
def qkv{i:Nat}(hi:i<ps.length):((ga ps).take (i+1)).flatten=((ga ps).take i).flatten++ps[i].2:=by rw[take_add_one,zQ,zA hi,flatten_append];simp
def FZ(i:Nat):((ga ps).take i).flatten.length<=(ga ps).flatten.length:=by have:(ga ps).flatten=((ga ps).take i).flatten++((ga ps).drop i).flatten:=(by rw[<- flatten_append,xD]);rw[this,zF];omega
def qpU(R:jq S w s ps)(hl:ps.length<=1000000)(ht:(ga ps).flatten.length<=1000000)(kk:∀s' B w',fR w' s' (ga ps).flatten B->Fr [] w w'->(∀b∈B,w.heap.size<=b)->K s' w'): cW 88 [s.v] dh w K:=by
 refine qnw ?_;have ag:=R.len;refine iX (λt w'=>∃i:Nat,t=((((ga ps).take i).flatten.length:Int),(i:Int))/\i<=ps.length/\w'=w) (λt _=>((ps.length:Int)-t.2).toNat) ⟨0,rfl,yW _,rfl⟩ ?_;rintro t w' ⟨i,rfl,hi,rfl⟩ X hX;dsimp only;apply cD<;>intro E;have u:i<ps.length:=oJ;have G:=FZ (ps:=ps) (i+1);have C:=qkv u;have ac:=(R.2 ps[i] (zW u)).1;have e:wrap .i64 ((((ga ps).take i).flatten.length:Int)+(ps[i].1.len:Int))=(((ga ps).take (i+1)).flatten.length:Int):=by rw[C,zF] at G⊢;rw[gi _ oJ,ac];rfl
 refine gP (λx w2=>x=(((ga ps).take (i+1)).flatten.length:Int)/\w2=w') ?_ ?_;refine jq.get R i rfl u ?_;rw[e];exact HM (zU oJ) ⟨rfl,rfl⟩;rintro x w2 ⟨rfl,rfl⟩;rw[rj oJ];exact hX _ _ ⟨i+1,rfl,u,rfl⟩ oN;have I:i=ps.length:=oJ;refine qzD (zL (FZ (ps:=ps) i) ht) λs1 B1 w1 b1 f1 n1=>iX (λt w2=>∃(j:Nat) (U:Sl) (V:Ik),t=(U,(j:Int))/\j<=ps.length/\fR w2 U ((ga ps).take j).flatten V/\Fr [] w' w2/\∀b∈V,w'.heap.size<=b) (λt _=>((ps.length:Int)-t.2).toNat) ⟨0,s1,B1,rfl,yW _,b1,f1,n1⟩ ?_;rintro t w2 ⟨j,U,V,rfl,hj,b2,f2,n2⟩ X hX;dsimp only;apply cD<;>intro E;have u:j<ps.length:=oJ;have G:=FZ (ps:=ps) (j+1);have C:=qkv u;have J:=R.q7 f2;refine jq.get J j rfl u<|Ar b2 (J.2 ps[j] (zW u)) (by rw[C,zF] at G;omega) λs3 B3 w3 b3 f3 n3=>?_;rw[rj oJ];refine hX _ _ ⟨j+1,s3,B3,rfl,u,by rw[C];exact b3,f2.j8 f3 λi hi=>.inr (n2 i hi),λb hb=>?_⟩ oN;rcases n3 b hb with h|h;exact n2 b h;exact zL f2.size h;have I:j=ps.length:=oJ;rw[I,zS (by rw[zK];exact zM _)] at b2;exact kk U V w2 b2 f2 n2
def qyp{K:Ix->WP}(hx:eF S w x n)(h1:n.J6.length<=1000000)(h2:n.Q0.length<=1000000)(h3:n.J9.length<=1000000)(kk:∀s w',(∀G:Ik,(∀b∈G,b<w.heap.size)->en G w' s (eO n k v).2.1)->Fr [] w w'->K ((eO n k v).1,s,(eO n k v).2.2) w'): cW 162 [.agg (eN x),.i k,.i v] dq w K:=by
 have aY:=hx;obtain⟨h0,bh,⟨pk,aq,E⟩,⟨pv,ar,aa⟩,an⟩:=hx;refine qrm<|oB (oE [] w) λR w1 e1 f1 h=>Ij h 0 rfl x<|qrP (x:=x) (aY.q7 f1) h1 h2 h3 λw2 f2=>?_;have h:=h.q7 f2;apply dX<;>intro C;have hn:¬fH n k v:=zB (oP C)
 have:=kk dH w2 (λG _=>by unfold eO;rw[iN hn];exact .nil _ _ _ _) h.fr;unfold eO at this;rw[iN hn] at this;exact this;have hR:fH n k v:=zC (oP C);have hW:eO n k v=(iE n,gd n,0):=(by unfold eO;rw[iP hR]);rw[hW] at kk;have aG:=(CA hR).2;have l1:pk.length=n.J6.length:=(by rw[<- E,zK]);have l2:pv.length=n.Q0.length:=(by rw[<- aa,zK]);have n1:x.2.1.len=n.J6.length:=(by rw[aq.len,l1]);have n3:x.2.2.2.len=n.J9.length:=an.1;have aH:∀ {s' B w'},fR w' s' (gd n) B->(∀b∈B,w.heap.size<=b)->Fr [] w w'->K (iE n,s',0) w':=λb hB f=>kk _ _ (λG hG=>b.jz lc λc C hm=>by have:=hB c C;have:=hG c hm;omega) f;refine Ii h 0 rfl x.1 ?_;apply dX<;>intro C;rw[h0] at C;have u:gd n=be n.J6.length 2++(n.J6.zip n.Q0).flatMap (λx=>x.1++x.2):=(by unfold gd;rw[iP C];rfl);have J:iE n=3:=(by unfold iE;rw[iP C]);have aI:=hR.2.2.2;rw[iP C] at aI;have aJ:(n.J6.zip n.Q0).length=n.J6.length:=(by rw[length_zip,aI.2.2.2,Nat.min_self]);refine Ii h 0 rfl x.2.1<|Ii h 0 rfl x.2.1<|oB h λr9 w3 e3 f3 h=>Ii h 1 rfl x.2.1 ?_;have h9:=h.at (i:=0) rfl;have av:=h.sub (L':=[(R,.cells (eN x) 174)]) (H0 _ _);have aw:R≠r9:=λe=>by have:=h.nodup;simp[e] at this
 have ab:w.heap.size<=r9:=(h.own (r9,_) (HQ ..)).elim (λh=>nomatch h) id;refine iX (λt w'=>∃(i:Nat) (s2:Sl) (B2:Ik),t=(s2,(i:Int))/\i<=n.J6.length/\fR w' s2 (be n.J6.length 2++((n.J6.zip n.Q0).take i).flatMap λx=>x.1++x.2) B2/\dR [] w w' [(R,.cells (eN x) 174)]/\R∉B2/\∀b∈B2,w.heap.size<=b) (λt _=>((n.J6.length:Int)-t.2).toNat)
  ⟨0,_,[r9],rfl,yW _,?_,av,by simpa using aw,λb hb=>by rw[zE.1 hb];exact ab⟩ ?_
 rw[qAK,take_zero,flatMap_nil,xG];refine EX (T:=5) ?_ rfl;rw[n1] at h9;exact h9;rintro t w4 ⟨i,s2,B2,rfl,hi,b2,ho,ae,I⟩ X hX;dsimp only;apply dX<;>intro C;have ak:i<n.J6.length:=(by have:=zC C;omega);have bv:i<n.Q0.length:=oJ;have aL:=aq.q7 ho.fr;refine jq.get aL i rfl oJ ?_;have af:=ho.drew;refine Ii af 0 rfl x.2.2.1 ?_;have a1:=ar.q7 af.fr;have ag:i<pv.length:=oJ;have ao:i<pk.length:=oJ;refine jq.get' a1 i rfl ag λa ha hh=>?_;have al:n.J6[i]?=some pk[i].2:=(by rw[<- E,zQ,zA ao];rfl);have a2:n.Q0[i]?=some pv[i].2:=(by rw[<- aa,zQ,zA ag];rfl);have hz:(n.J6.zip n.Q0)[i]?=some (pk[i].2,pv[i].2):=List.getElem?_zip_eq_some.2 ⟨al,a2⟩;have U:((n.J6.zip n.Q0).take (i+1)).flatMap (λx=>x.1++x.2)=((n.J6.zip n.Q0).take i).flatMap (λx=>x.1++x.2)++(pk[i].2++pv[i].2):=by rw[take_add_one,hz,yP];simp
 have am:(be n.J6.length 2++((n.J6.zip n.Q0).take (i+1)).flatMap λx=>x.1++x.2).length<=500:=(by refine zL ?_ aG;rw[u,zF,zF];have e:(n.J6.zip n.Q0).flatMap (λx=>x.1++x.2)=((n.J6.zip n.Q0).take (i+1)).flatMap (λx=>x.1++x.2)++((n.J6.zip n.Q0).drop (i+1)).flatMap (λx=>x.1++x.2):=(by rw[<- yP,xD]);rw[e,zF];omega);rw[U,zF,zF,zF] at am;have bA:=ho.drew;refine Ar (w:=w4.drew) (b2.q7 (Fr.refl [] w4).drew) ((aL.2 pk[i] (zW ao)).q7 (Fr.refl [] w4).drew) (by rw[zF];omega) λs3 B3 w5 b3 f5 n5=>?_;have V:=af.q8 f5 (λi hi=>.inr (I i hi)) (λp hp=>by rw[zE.1 hp];exact ae);have aN:∀b∈B3,w.heap.size<=b:=λb hb=>by rcases n5 b hb with h|h;exact I b h;exact zL af.fr.size h
 refine ky (hh w5 (ar.q7 V.fr)) (V.cell 0) ?_;have aO:R∉B3:=λhm=>by
  rcases n5 R hm with h|h;exact ae h;have:=eX (af.at (i:=0) rfl);dsimp only at this;omega
 refine Ar b3 ((ar.q7 V.fr).2 pv[i] (zW ag)) (by rw[zF,zF];omega) λs6 B6 w6 b6 f6 n6=>?_;have aB:=V.q8 f6 (λi hi=>.inr (aN i hi)) (λp hp=>by rw[zE.1 hp];exact aO);rw[rj oJ];refine hX _ _ ⟨i+1,s6,B6,rfl,ak,by rw[U,<- zV,<- zV];exact b6,aB,λhm=>?_,λb hb=>?_⟩ oN;rcases n6 R hm with h|h;exact aO h;have:=eX (V.at (i:=0) rfl);dsimp only at this;omega;rcases n6 b hb with h|h;exact aN b h;exact zL V.fr.size h;have aC:i=n.J6.length:=(by have:=zB C;omega);rw[aC,<- aJ,xY,aJ,<- u] at b2;have:=aH b2 I ho.fr;rw[J] at this;exact this;rw[h0] at C;have aQ:¬n.Q4=true:=(by rw[C];decide);have u:gd n=be n.J9.length 2++n.J9.flatMap (λx=>be x 4)++n.J6.flatten:=(by unfold gd;rw[iN aQ]);have J:iE n=4:=(by unfold iE;rw[iN aQ]);refine Ii h 0 rfl x.2.2.2<|Ii h 0 rfl x.2.2.2<|oB h λr9 w3 e3 f3 h=>Ii h 1 rfl x.2.2.2 ?_;have h9:=h.at (i:=0) rfl;have av:=h.sub (L':=[(R,.cells (eN x) 174)]) (H0 _ _);have aw:R≠r9:=λe=>by have:=h.nodup;simp[e] at this
 have ab:w.heap.size<=r9:=(h.own (r9,_) (HQ ..)).elim (λh=>nomatch h) id;have a4:(be n.J9.length 2++n.J9.flatMap λx=>be x 4).length+n.J6.flatten.length<=500:=(by rw[<- zF,<- u];exact aG);refine iX (λt w'=>∃(i:Nat) (s2:Sl) (B2:Ik),t=(s2,(i:Int))/\i<=n.J9.length/\fR w' s2 (be n.J9.length 2++(n.J9.take i).flatMap λx=>be x 4) B2/\dR [] w w' [(R,.cells (eN x) 174)]/\R∉B2/\∀b∈B2,w.heap.size<=b) (λt _=>((n.J9.length:Int)-t.2).toNat)
  ⟨0,_,[r9],rfl,yW _,?_,av,by simpa using aw,λb hb=>by rw[zE.1 hb];exact ab⟩ ?_
 rw[qAK,take_zero,flatMap_nil,xG];refine EX (T:=5) ?_ rfl;rw[n3] at h9;exact h9;rintro t w4 ⟨i,s2,B2,rfl,hi,b2,ho,ae,I⟩ X hX;dsimp only;apply cD<;>intro C;have ak:i<n.J9.length:=oJ;have al:n.J9[i]?=some n.J9[i]:=zA ak;refine ee.get (an.q7 ho.fr) i rfl al (y:=n.J9[i]) rfl<|oB ho λr6 w5 e5 f5 h5=>?_;have a5:=h5.at (i:=0) rfl;have U:(n.J9.take (i+1)).flatMap (λx=>be x 4)=(n.J9.take i).flatMap (λx=>be x 4)++be n.J9[i] 4:=by rw[take_add_one,al,yP];simp
 have am:(be n.J9.length 2++(n.J9.take (i+1)).flatMap λx=>be x 4).length<=500:=(by have e:n.J9.flatMap (λx=>be x 4)=(n.J9.take (i+1)).flatMap (λx=>be x 4)++(n.J9.drop (i+1)).flatMap (λx=>be x 4):=(by rw[<- yP,xD]);rw[e,zF,zF] at a4;rw[zF];omega);rw[U,zF,zF] at am;have ap:en [] w5 ⟨pW r6,4,4⟩ (be n.J9[i] 4):=qAe (T:=5) a5;have aD:=ko n.J9[i] 4;generalize be n.J9[i] 4=aR at U am ap aD;refine Ar (src:=⟨pW r6,4,4⟩) (ys:=aR) (b2.q7 f5) ap (by rw[zF];omega) λs6 B6 w6 b6 f6 n6=>?_;have aE:=h5.sub (L':=[(R,.cells (eN x) 174)]) (H0 _ _);have aB:=aE.q8 f6 (λi hi=>.inr (I i hi)) (λp hp=>by rw[zE.1 hp];exact ae);rw[rj oJ];refine hX _ _ ⟨i+1,s6,B6,rfl,ak,by rw[U,<- zV];exact b6,aB,λhm=>?_,λb hb=>?_⟩ oN;rcases n6 R hm with h|h;exact ae h;have:=eX (aE.at (i:=0) rfl);dsimp only at this;omega;rcases n6 b hb with h|h;exact I b h;exact zL aE.fr.size h;have aC:i=n.J9.length:=oJ;rw[aC,xY] at b2;refine Ii ho 0 rfl x.2.1<|qpU (aq.q7 ho.fr) oJ (by rw[E];omega) λs5 B5 w5 b5 f5 n5=>?_;rw[E] at b5;refine Ar (b2.q7 f5) (b5.jz lc (S:=[]) λ_ _ h=>nomatch h) oJ λs6 B6 w6 b6 f6 n6=>?_;rw[<- u] at b6
 have:=aH b6 (λb hb=>by rcases n6 b hb with h|h;exact I b h;exact zL (zL ho.fr.size f5.size) h) ((ho.fr.trans f5).j8 f6 λi hi=>.inr (I i hi));rw[J] at this;exact this
end
end
abbrev ND:If:=174
def CZ{k v:Nat}:∀(c:Nat) (b:Il),(iQ k v c b).1.length=c/\(iQ k v c b).2.length=c
 | 0,_=>⟨rfl,rfl⟩
 | c+1,b=>by
  have:=CZ (k:=k) (v:=v) c (b.drop (k+v));exact⟨by rw[iQ,yH,this.1],by rw[iQ,yH,this.2]⟩
def qoh{k v:Nat}:∀(c:Nat) (b:Il),iQ k v (c+1) b=((iQ k v c b).1++[(b.drop (c*(k+v))).take k],(iQ k v c b).2++[((b.drop (c*(k+v))).drop k).take v])
 | 0,b=>by simp[iQ]
 | c+1,b=>by have ih:=qoh (k:=k) (v:=v) c (b.drop (k+v));have e:(k+v)+c*(k+v)=(c+1)*(k+v):=(by rw[xT];omega);rw[iQ,ih];simp only[xC,e];rfl
def qog:∀(c:Nat) (b:Il),y6 (c+1) b=y6 c b++[gW ((b.drop (c*4)).take 4)]
 | 0,b=>by simp[y6]
 | c+1,b=>by have ih:=qog c (b.drop 4);have e:4+c*4=(c+1)*4:=oJ;rw[y6,ih,xC,e];rfl
def qoe{k:Nat}:∀(c:Nat) (b:Il),kZ k (c+1) b=kZ k c b++[(b.drop (c*k)).take k]
 | 0,b=>by simp[kZ]
 | c+1,b=>by have ih:=qoe (k:=k) c (b.drop k);have e:k+c*k=(c+1)*k:=(by rw[xT];omega);rw[kZ,ih,xC,e];rfl
def D9:∀(c:Nat) (b:Il),(y6 c b).length=c
 | 0,_=>rfl
 | c+1,b=>by rw[y6,yH,D9 c]
def Gq{k:Nat}:∀(c:Nat) (b:Il),(kZ k c b).length=c
 | 0,_=>rfl
 | c+1,b=>by rw[kZ,yH,Gq c]
def pF{x:Sl}{l:List Sl}{vb:Nat}{T':If}(h:eU gq 1 w s l B)(hl:l.length<=100000)(U:w.heap[vb]?=some (.c #[fT x] T'))(V:∀C B' w',eU gq 1 w' C (l++[x]) B'->Fr B w w'->(∀b∈B',b∈B\/w.heap.size<=b)->K C w'): Pt.run dh ((Builtin.append_ #[171,171] 171 #[s.v,.slice (pW vb) 1 1]).run prog w) K:=by obtain⟨aa,E,hz,G,I⟩:=CP;refine eU.j1 (ys:=[x]) (e:=101) h vQ oK E hz G rfl (.ofSlice w (e':=101) oK _ 1 1 _ rfl (λj u J=>?_) λu R=>?_) rfl (by rw[I];omega) oJ λC B' w' b' f' n' _=>V C B' w' b' f' n';rw[Addr.q9,jp U,xR];rw[yG,flatMap_nil,xG] at J;simpa[gq] using J;rw[yG,flatMap_nil,xG] at R;rw[zE.1 R];rfl
def que{x:Int}{vb:Nat}{T':If}(h:eU iw 1 w s l B)(hl:l.length<=100000)(U:w.heap[vb]?=some (.c #[.u x] T'))(V:∀C B' w',eU iw 1 w' C (l++[x]) B'->Fr B w w'->(∀b∈B',b∈B\/w.heap.size<=b)->K C w'): Pt.run dh ((Builtin.append_ #[172,172] 172 #[s.v,.slice (pW vb) 1 1]).run prog w) K:=by obtain⟨aa,E,hz,G,I⟩:=vF;refine eU.j1 (ys:=[x]) (e:=63) h qZ oK E hz G rfl (.ofSlice w (e':=63) oK _ 1 1 _ rfl (λj u J=>?_) λu R=>?_) rfl (by rw[I];omega) oJ λC B' w' b' f' n' _=>V C B' w' b' f' n';rw[Addr.q9,jp U,xR];rw[yG,flatMap_nil,xG] at J;simpa[iw] using J;rw[yG,flatMap_nil,xG] at R;rw[zE.1 R];rfl
abbrev rF (h:Nat):Ie:=.func (.func 232) #[] #[dG h]
def qtf{u i m:Nat}(h:dR [] w0 w L)(hi:L[i]?=some (u,.c #[fT s] T))(E:en [] w0 s b)(C:m<=b.length)(hl:b.length<=1000000)(kk:∀J B' R w',dR [] w0 w' (L.set i (u,.c #[fT R] T))->fR w' J (b.take m) B'->(∀c∈B',w.heap.size<=c)->en [] w0 R (b.drop m)->Fr [u] w w'->K J w'): dZ prog (rF u) [.i m] dh w K:=by
 refine rZ (lb:=[dG u]) rfl oK<|qnf<|oA h i hi s rfl<|ee.part (S:=[]) E (lo:=none) (hi:=some (m:Int)) 0 m rfl rfl (yW _) C λs1 _ U _=>?_;rw[xE] at U;refine An (U.q7 h.fr) (by rw[yK];omega) λs2 B2 w2 b2 V n2 _ _=>?_;have h2:=h.q7 V;refine oA h2 i hi s rfl<|ee.part (S:=[]) E (lo:=some (m:Int)) (hi:=none) m b.length rfl (by rw[xV,E.1]) C (zM _) λs3 _ h3 _=>?_;rw[xY] at h3;have G:=eX (h.at hi);refine oG h2 i hi #[fT s3] rfl rfl (zM _) λw3 I f3=>kk s2 B2 s3 w3 I (b2.q8 f3 λc hc C=>?_) n2 h3 ((V.mono λ_ h _=>nomatch h).trans f3)
 have:=n2 c hc;rw[zE.1 C] at this;dsimp only at G;omega
def uP (x:kz) (o:Nat):Sl:=if o=1 then x.2.1 else x.2.2.1
def wV (x:kz) (o:Nat) (s:Sl):kz:=if o=1 then (x.1,s,x.2.2) else (x.1,x.2.1,s,x.2.2.2)
def E5{o:Nat}(h:o=1\/o=2):(eN x)[o]?=some (fT (uP x o)):=by rcases h with rfl|rfl<;>rfl
def qAh{o:Nat}(h:o=1\/o=2):dS (eN x) o [fT s]=eN (wV x o s):=by rcases h with rfl|rfl<;>rfl
def EN{E I m o:Nat}{s':Sl}{l:List Sl}{Bk:Ik}{K:WP}(ho:o=1\/o=2)(h:dR [] w0 w ((E,.c (eN x) ND)::(I,.c #[fT s'] T)::L))(hr:en [] w0 s' b)(C:m<=b.length)(aI:b.length<=1000000)(ae:eU gq 1 w (uP x o) l Bk)(ab:∀c∈Bk,w0.heap.size<=c/\c∉E::I::L.map (·.1))(hl:l.length<=100000)(kk:∀sn sN R Bk' w',dR [] w0 w' ((E,.c (eN (wV x o R)) ND)::(I,.c #[fT sN] T)::L)->en [] w0 sN (b.drop m)->eU gq 1 w' R (l++[sn]) Bk'-> (∀c∈Bk',c∈Bk\/w.heap.size<=c)->(∀c∈Bk',c∉E::I::L.map (·.1))->Fr (E::I::Bk) w w'->(∀G:Ik,(∀c∈G,c<w.heap.size\/c∈Bk')->en G w' sn (b.take m))->K w'): (ld Cell.slice (dg E o) w.drew<|λ(u:Sl)=> dZ prog (rF I) ([Value.int IntKind.i64 m]) (dh) w.drew<|λ(U:Sl) (af:Ic)=> held [λ(au:Go.World)=>World.cell? au (dg E o)=some (Value.slice u.a u.len u.cap)] af<| new (.cells #[Value.slice U.a U.len U.cap] 101) af<|λ(av:Nat) (ag:Ic)=> held [λ(aw:Go.World)=>World.cell? aw (dg E o)=some (Value.slice u.a u.len u.cap)] ag<| run dh ((Builtin.append_ (#[171,171]) 171 (#[Value.slice u.a u.len u.cap,Value.slice (pW av) 1 1])).run prog ag)<|λ(V:Sl) (ax:Ic)=> st (dg E o) ([Value.slice V.a V.len V.cap]) ax K):=by
 have hd:=h.drew;refine oA hd 0 rfl (uP x o) (E5 ho)<|qtf hd (i:=1) rfl hr C aI λaJ aK sN aj ac aL aM hN ak=>?_;have ac:dR [] w0 aj ((E,.c (eN x) ND)::(I,.c #[fT sN] T)::L):=ac;refine ik (ac.cell 0 rfl (E5 ho))<|oB ac λaZ a0 a1 al am=>ik (am.cell 1 rfl (E5 ho)) ?_;have an:eU gq 1 w.drew (uP x o) l Bk:=ae;have ay:=an.q8 ak λc J C=>(ab c J).2 (by rw[zE.1 C];simp);have az:=ay.q7 al;refine pF az hl (am.at (i:=0) rfl) λR Bk' a2 aN ao aA=>?_;have aB:=am.sub (L':=(E,.c (eN x) ND)::(I,.c #[fT sN] T)::L) (H0 _ _);have a3:w.heap.size<=aj.heap.size:=ak.size;have a4:=al.size;have a5:=ao.size;have aa:∀c∈E::I::L.map (·.1),c<w.heap.size:=λc J=>by obtain⟨p,hp,rfl⟩:=mem_map.1 (show c∈((E,Obj.cells (eN x) ND (0,0))::(I,.c #[fT s'] T)::L).map (·.1) from J);exact eX (h.eJ p hp)
 have ap:∀p∈((E,Obj.cells (eN x) ND (0,0))::(I,.c #[fT sN] T)::L),p.1∉Bk:=λp hp C=>(ab p.1 C).2 (zY (f:=(·.1)) hp);have aP:=aB.q8 ao (λi hi=>.inr (ab i hi).1) ap;have ah:∀c∈Bk',c∈Bk\/w.heap.size<=c:=λc J=>(aA c J).elim .inl λh=>.inr oJ;have aC:∀c∈Bk',c∉E::I::L.map (·.1):=λc J C=>by
  rcases ah c J with h|h;exact (ab c h).2 C;have:=aa c C;omega
 refine oG aP 0 rfl (eN (wV x o R)) (qAh ho) rfl (by rcases ho with rfl|rfl<;>exact zO rfl) λaq aQ aD=>?_;have h5:∀c∈Bk',c∉[E]:=λc J C=>aC c J (by rw[zE.1 C];simp);have aE:Fr (E::I::Bk) aj aq:=((al.mono λ_ h _=>nomatch h).trans (ao.mono λi hi _=>by simp[hi])).trans (aD.mono λi hi _=>by simp[zE.1 hi]);have aR:Fr (E::I::Bk) w aq:=((Fr.refl _ w).drew.trans (ak.mono λi hi _=>by simp[zE.1 hi])).trans aE;refine kk aJ sN R Bk' aq aQ hN (aN.q8 aD h5) ah aC aR λG hG=>?_;have aF:∀c∈aK,c∉E::I::Bk++G.filter λc=>decide (c<w.heap.size):=λc J C=>by
  have h1:w.heap.size<=c:=aM c J;rcases zD.1 C with C|C;rcases zG.1 C with rfl|C;have:=aa c oL;omega;rcases zG.1 C with rfl|C;have:=aa c oL;omega;have:=ae.lt c C;omega;have:=(mem_filter.1 C).2;simp at this;omega
 refine (aL.jz lc aF).q8 (aE.mono λi hi _=>zH _ hi) λc J=>?_;rcases hG c J with h1|h1;exact .inl (zI _ (mem_filter.2 ⟨J,by simpa using h1⟩));rcases aA c h1 with h2|h2;exact .inl (zH _ (by simp[h2]));exact .inr oJ
section
def Du{L':Ip}(h:dR S w0 w L)(p:L.Perm L'):dR S w0 w L':=⟨λx u=>h.eJ x (p.mem_iff.2 u),(p.map _).nodup_iff.1 h.nodup,h.fr,λx u=>h.own x (p.mem_iff.2 u)⟩
def yd{α:Type}{enc:α->List Ie}{l:List α}(h:eU enc k w s l B):B.Nodup:=by rcases h with ⟨_,_,rfl⟩|⟨b,_,_,_,rfl,_⟩<;>simp
def t7 (w:Ic) (ps:ph) (T:Ik):Prop:=∀p∈ps,en T w p.1 p.2
def t7.q8{w w':Ic}{ps:ph}{T T' S:Ik}(h:t7 w ps T)(f:Fr S w w')(u:∀b∈S,b∈T)(C:∀b∈T',b∈T\/w.heap.size<=b):t7 w' ps T':=λp E=>(h p E).q8 (f.mono λi G _=>u i G) C
def t7.snoc{T:Ik}{a:Key}(h:t7 w ps T)(g:en T w s a):t7 w (ps++[(s,a)]) T:=λp u=>by rcases zD.1 u with u|u;exact h p u;rw[zE.1 u];exact g
def quK{G:Ik}{pk pv:ph}{Bk h u T:Ik}(h0:x.1=n.Q4)(hN:NB n)(R:eU gq 1 w x.2.1 (iv pk) Bk)(e1:ga pk=n.J6)(U:eU gq 1 w x.2.2.1 (iv pv) h)(e2:ga pv=n.Q0)(V:eU iw 1 w x.2.2.2 n.J9 u)(d1:∀c∈Bk,c∉h/\c∉u)(d2:∀c∈h,c∉u)(g1:t7 w pk T)(g2:t7 w pv T)(hT:∀c∈G++(Bk++(h++u)),c∈T):fh (G++(Bk++(h++u))) w x n (Bk++(h++u)):=by refine⟨h0,hN,Bk,h,u,rfl,?_,⟨pk,R,e1,λp I=>(g1 p I).j6 λc J=>.inl (hT c J)⟩,⟨pv,U,e2,λp I=>(g2 p I).j6 λc J=>.inl (hT c J)⟩,V⟩;refine yL.2 ⟨yd R,yL.2 ⟨yd U,yd V,λa E b C e=>d2 a E (e▸C)⟩,λa E b C e=>?_⟩;rcases zD.1 C with C|C;exact (d1 a E).1 (e▸C);exact (d1 a E).2 (e▸C)
section
variable {w:Ic} {s:Sl} {b:Il}
def qz9{count:Nat}{K:kz×Bool->WP}(hb:en [] w s b)(hB:eI b)(hl:b.length<=1000)(hc:count<=100000)(hk:1<=k/\k<=1000)(hv:v<=1000)(kk:∀x B n w',(b.length=count*(k+v)->n=⟨true,(iQ k v count b).1,(iQ k v count b).2,[]⟩)->fh (List.range w.heap.size++B) w' x n B->Fr [] w w'->(∀c∈B,w.heap.size<=c)->K (x,decide (b.length=count*(k+v))) w'): cW 158 [s.v,.i count,.i k,.i v] [.agg ed,.one .bool] w K:=by
 refine qsJ<|oB (oE [] w) λC w1 e1 f1 h=>?_;have a4:count*(k+v)<=100000*2000:=Nat.mul_le_mul hc oJ;have ew:wrap .i64 ((count:Int)*wrap .i64 ((k:Int)+(v:Int)))=((count*(k+v):Nat):Int):=by have e1:wrap .i64 ((k:Int)+(v:Int))=((k+v:Nat):Int):=(by rw[gi _ oJ];rfl);rw[e1,<- Int.natCast_mul,gi _ oJ]
 rw[ew];have aq:=hb.1;apply dX<;>intro ad;have ar:b.length≠count*(k+v):=λe=>by rw[aq,e] at ad;simp at ad
 refine oD h 0 rfl (eN fD) λw2 h f2=>Ij h 0 rfl fD ?_;have:=kk fD [] ir w2 (λe=>absurd e ar) (.zero _ _) h.fr (λ_ h=>nomatch h);rw[zU ar] at this;exact this;have aL:b.length=count*(k+v):=by
  have:((s.len:Int)==((count*(k+v):Nat):Int))=true:=by simpa using ad
  have:=yO.1 this;omega
 have a':count<=1000:=(by have:count*1<=count*(k+v):=Nat.mul_le_mul_left _ oJ;omega);refine oB h λE w2 e2 f2 h=>oD h 0 rfl (eN (true,dH,dH,dH)) λw3 h f3=>qjA<|oB h λG w4 e4 f4 h=>?_;have h:=Du h (List.Perm.swap _ _ _);have ba:=h.nodup;have bb:=λp hp=>(h.own p hp).elim (λh=>(nomatch h:False).elim) (id:w.heap.size<=p.1->_);refine iX (λi w'=>∃(c:Nat) (sk sv sn:Sl) (pk pv:ph) (Bk I:Ik),i=(c:Int)/\c<=count/\dR [] w w' [(E,.c (eN (true,sk,sv,dH)) ND),(G,.c #[fT sn] 101),(C,.c (eN fD) ND)]/\
   en [] w sn (b.drop (c*(k+v)))/\eU gq 1 w' sk (iv pk) Bk/\ga pk=(iQ k v c b).1/\eU gq 1 w' sv (iv pv) I/\ga pv=(iQ k v c b).2/\(∀c∈Bk,w.heap.size<=c/\c∉[E,G,C])/\(∀c∈I,w.heap.size<=c/\c∉[E,G,C])/\(∀c∈Bk,c∉I)/\
   t7 w' pk (List.range w.heap.size++E::G::C::(Bk++I))/\t7 w' pv (List.range w.heap.size++E::G::C::(Bk++I))) (λi _=>((count:Int)-i).toNat)
  ⟨0,dH,dH,s,[],[],[],[],rfl,yW _,h,by rw[Nat.zero_mul,xE];exact hb,.nil _ _ _,rfl,.nil _ _ _,rfl,λ_ h=>(nomatch h),λ_ h=>(nomatch h),λ_ h=>(nomatch h),λ_ h=>(nomatch h),λ_ h=>(nomatch h)⟩ ?_
 rintro _ w' ⟨c,sk,sv,sn,pk,pv,Bk,I,rfl,bd,h,aM,au,ek,ae,ev,nk,nv,ak,gk,gv⟩ X hX;have lk:pk.length=c:=(by rw[<- zK (f:=(·.2)),show pk.map (·.2)=ga pk from rfl,ek,(CZ c b).1]);have lv:pv.length=c:=(by rw[<- zK (f:=(·.2)),show pv.map (·.2)=ga pv from rfl,ev,(CZ c b).2]);have R:∀z∈[E,G,C],z<w'.heap.size:=λz u=>by simp only[zG,xW,or_false] at u;rcases u with rfl|rfl|rfl;exact eX (h.at (i:=0) rfl);exact eX (h.at (i:=1) rfl);exact eX (h.at (i:=2) rfl)
 apply cD<;>intro al;have av:c<count:=oJ;have am:(c+1)*(k+v)<=count*(k+v):=HZ _ av;rw[xT,Nat.one_mul] at am;have bg:(b.drop (c*(k+v))).length=b.length-c*(k+v):=yB;refine EN (o:=1) (m:=k) (.inl rfl) h aM oJ oJ (x:=(true,sk,sv,dH)) au (λz u=>nk z u) oO λV sN aa Bk' w5 h5 aP b5 n5 m5 f5 g5=>?_;have h5:dR [] w w5 [(E,.c (eN (true,aa,sv,dH)) ND),(G,.c #[fT sN] 101),(C,.c (eN fD) ND)]:=h5;have aw:=ae.q8 f5 λz u J=>by simp only[zG] at J;rcases J with rfl|rfl|J;exact (nv _ u).2 oL;exact (nv _ u).2 oL;exact ak z J u
 have ax:∀z∈List.range w.heap.size++E::G::C::(Bk'++I),z∈List.range w.heap.size++E::G::C::(Bk++I)\/w'.heap.size<=z:=λz u=>by simp only[zD,zG] at u⊢;rcases u with u|rfl|rfl|rfl|u|u;exact .inl (.inl u);simp;simp;simp;rcases n5 z u with h|h;simp[h];exact .inr h;simp[u]
 have ay:∀z∈E::G::Bk,z∈List.range w.heap.size++E::G::C::(Bk++I):=λz u=>by simp only[zD,zG] at u⊢;rcases u with rfl|rfl|u<;>simp[*]
 have aT:=(gk.q8 f5 ay ax).snoc (s:=V) (a:=(b.drop (c*(k+v))).take k) (g5 _ λz u=>by
  simp only[zD,zG,mem_range] at u;have:=h.fr.size;rcases u with u|rfl|rfl|rfl|u|u;exact .inl oJ;exact .inl (R _ oL);exact .inl (R _ oL);exact .inl (R _ oL);exact .inr u;exact .inl (ae.lt z u))
 have aU:=gv.q8 f5 ay ax;have an:∀z∈Bk',w.heap.size<=z/\z∉[E,G,C]:=λz u=>⟨by rcases n5 z u with U|U;exact (nk z U).1;exact zL h.fr.size U,m5 z u⟩;have aj:∀z∈Bk',z∉I:=λz u J=>by
  rcases n5 z u with U|U;exact ak z U J;have:=ae.lt z J;omega
 have aV:eU gq 1 w5 aa (iv (pk++[(V,(b.drop (c*(k+v))).take k)])) Bk':=(by rw[show iv (pk++[(V,(b.drop (c*(k+v))).take k)])=iv pk++[V] by simp];exact b5);refine EN (o:=2) (m:=v) (.inr rfl) h5 aP (by rw[yB];omega) (by rw[yB];omega) (x:=(true,aa,sv,dH)) aw (λz u=>nv z u) oO λag az aA aB w6 h6 aC b6 n6 m6 f6 g6=>?_;have h6:dR [] w w6 [(E,.c (eN (true,aa,aA,dH)) ND),(G,.c #[fT az] 101),(C,.c (eN fD) ND)]:=h6;have ab:∀z∈[E,G,C],z<w5.heap.size:=λz u=>yC (R z u) f5.size;have aD:=aV.q8 f6 λz u J=>by simp only[zG] at J;rcases J with rfl|rfl|J;exact (an _ u).2 oL;exact (an _ u).2 oL;exact aj z u J
 have aE:∀z∈List.range w.heap.size++E::G::C::(Bk'++aB),z∈List.range w.heap.size++E::G::C::(Bk'++I)\/w5.heap.size<=z:=λz u=>by simp only[zD,zG] at u⊢;rcases u with u|rfl|rfl|rfl|u|u;exact .inl (.inl u);simp;simp;simp;simp[u];rcases n6 z u with h|h;simp[h];exact .inr h
 have aF:∀z∈E::G::I,z∈List.range w.heap.size++E::G::C::(Bk'++I):=λz u=>by simp only[zD,zG] at u⊢;rcases u with rfl|rfl|u<;>simp[*]
 have aZ:=(aU.q8 f6 aF aE).snoc (s:=ag) (a:=((b.drop (c*(k+v))).drop k).take v) (g6 _ λz u=>by
  simp only[zD,zG,mem_range] at u;have:=h5.fr.size;rcases u with u|rfl|rfl|rfl|u|u;exact .inl oJ;exact .inl (ab _ oL);exact .inl (ab _ oL);exact .inl (ab _ oL);exact .inl (b5.lt z u);exact .inr u)
 have a0:=aT.q8 f6 aF aE;rw[rj oJ];have aG:=qoh (k:=k) (v:=v) c b;refine hX _ _ ⟨c+1,aa,aA,az,pk++[(V,(b.drop (c*(k+v))).take k)],pv++[(ag,((b.drop (c*(k+v))).drop k).take v)],Bk',aB,rfl,av,h6,?_,aD,?_,?_,?_,an,λz u=>⟨?_,m6 z u⟩,λz u J=>?_,a0,aZ⟩ oJ;rw[xC,xC] at aC;have e:c*(k+v)+(k+v)=(c+1)*(k+v):=(by rw[xT];omega);rw[<- e];exact aC;rw[aG];simp[ek];rw[show iv (pv++[(ag,((b.drop (c*(k+v))).drop k).take v)])=iv pv++[ag] by simp];exact b6;rw[aG];simp[ev];rcases n6 z u with U|U;exact (nv z U).1;exact zL h5.fr.size U;rcases n6 z J with U|U;exact aj z u U;have:=b5.lt z u;omega;have a1:c=count:=oJ;subst a1;refine Ij h 0 rfl (true,sk,sv,dH)<|oD h 2 rfl (eN (true,sk,sv,dH)) λw5 h5 f5=>Ij h5 2 rfl (true,sk,sv,dH) ?_;have aH:∀ {B:Ik},(∀z∈B,w.heap.size<=z/\z∉[E,G,C])->∀z∈B,z∉[C]:=λhB z u J=>(hB z u).2 (by rw[zE.1 J];simp);have aI:∀z∈[C],z∈List.range w.heap.size++E::G::C::(Bk++I):=λz u=>by rw[zE.1 u];simp
 have:=kk (true,sk,sv,dH) (Bk++(I++[])) ⟨true,(iQ k v c b).1,(iQ k v c b).2,[]⟩ w5 (λ_=>rfl)
  (quK (T:=List.range w.heap.size++E::G::C::(Bk++I)) rfl ⟨(Hr c hB).1,(Hr c hB).2,λ_ h=>(nomatch h)⟩ (au.q8 f5 (aH nk)) ek (ae.q8 f5 (aH nv)) ev (.nil _ _ _) (λz u=>⟨ak z u,λh=>nomatch h⟩) (λ_ _ h=>nomatch h)
   (gk.q8 f5 aI λz u=>.inl u) (gv.q8 f5 aI λz u=>.inl u) λz u=>by simp only[xG,zD,zG] at u⊢;rcases u with u|u|u<;>simp[*]) h5.fr (λz u=>by
   rw[xG] at u;rcases zD.1 u with u|u;exact (nk z u).1;exact (nv z u).1)
 rw[zZ aL] at this;exact this
end
end
section
def qtD(u:eI l)(E:4<=l.length):fv (l.take 4)=gW (l.take 4):=by
 match l,E with
 | a::b::c::d::r,_=>
  have G:=u a oL;have I:=u b oL;have J:=u c oL;have R:=u d oL;show fv [a,b,c,d]=gW [a,b,c,d];show oS a b c d=_;rw[qsm G I J R,CS (λv C=>u v (by simp at C⊢;rcases C with h|h|h|h<;>simp[h])) (zM _)];show _=(((0*256+a)*256+b)*256+c)*256+d;omega
def qyM(l:Il):gE (gW l):=by
 unfold gW;have:∀(l:Il) (r:Int),gE r->gE (l.foldl (λr x=>bits .or .u32 (wrap .u32 (r*2^8)) (wrap .u32 x)) r):=by
  intro l;induction l with
  | nil=>intro r h;exact h
  | cons x l ih=>intro r h;exact ih _ (CX _ _ _)
 exact this l 0 ⟨oM,oM⟩
def qqx:∀(c:Nat) (b:Il),∀x∈y6 c b,gE x
 | 0,_,_,h=>nomatch h
 | c+1,b,x,h=>by rcases zG.1 h with rfl|h;exact qyM _;exact qqx c _ x h
def qAn{I J:Nat}{s':Sl}{Bi:Ik}{K:WP}(h:dR [] w0 w ((I,.c (eN x) ND)::(J,.c #[fT s'] T)::L))(hr:en [] w0 s' b)(hB:eI b)(hm:4<=b.length)(aC:b.length<=1000000)(aj:eU iw 1 w x.2.2.2 l Bi)(ac:∀c∈Bi,w0.heap.size<=c/\c∉I::J::L.map (·.1))(hl:l.length<=100000)(kk:∀sN R U w',dR [] w0 w' ((I,.c (eN (x.1,x.2.1,x.2.2.1,R)) ND)::(J,.c #[fT sN] T)::L)->en [] w0 sN (b.drop 4)->eU iw 1 w' R (l++[gW (b.take 4)]) U-> (∀c∈U,w0.heap.size<=c/\c∉I::J::L.map (·.1))->K w'): (dZ prog (rF J) ([Value.int IntKind.i64 4]) (dh) w<|λ(E:Sl) (u:Ic)=> ld Cell.slice (dg I 3) u.drew<|λ(C:Sl)=> idx E 0 1<|λ(ak:Addr)=> ld (Cell.int IntKind.u8) ak u.drew<|λ(al:Int)=> idx E 1 1<|λ(am:Addr)=> ld (Cell.int IntKind.u8) am u.drew<|λ(an:Int)=> idx E 2 1<|λ(ao:Addr)=> ld (Cell.int IntKind.u8) ao u.drew<|λ(ap:Int)=> idx E 3 1<|λ(aq:Addr)=> ld (Cell.int IntKind.u8) aq u.drew<|λ(ar:Int)=> new (.cells #[Value.int IntKind.u32 (bits .or .u32 (bits .or .u32 (bits .or .u32 (wrap IntKind.u32 (wrap IntKind.u32 al*2^24)) (wrap IntKind.u32 (wrap IntKind.u32 an*2^16))) (wrap IntKind.u32 (wrap IntKind.u32 ap*2^8))) (wrap IntKind.u32 ar))] 63) u.drew<|λ(au:Nat) (af:Ic)=> held [λ(av:Go.World)=>World.cell? av (dg I 3)=some (Value.slice C.a C.len C.cap)] af<| run dh ((Builtin.append_ (#[172,172]) 172 (#[Value.slice C.a C.len C.cap,Value.slice (pW au) 1 1])).run prog af)<|λ(V:Sl) (aw:Ic)=> st (dg I 3) ([Value.slice V.a V.len V.cap]) aw K):=by
 refine qtf (m:=4) h (i:=1) rfl hr hm aC λaD aZ sN ad aE aF a0 hN aG=>?_;have hd:dR [] w0 ad.drew ((I,.c (eN x) ND)::(J,.c #[fT sN] T)::L):=oF aE;refine Ii hd 0 rfl x.2.2.2 ?_;have G:en [] ad.drew aD (b.take 4):=(aF.jz lc (S:=[]) λ_ _ h=>nomatch h).q7 (Fr.refl [] ad).drew;have h4:4<=(b.take 4).length:=(by rw[yK];omega);refine en.at G 0 rfl (getD_some oJ)<|en.at G 1 rfl (getD_some oJ)<|en.at G 2 rfl (getD_some oJ)<|en.at G 3 rfl (getD_some oJ) ?_;have e4:=qtD hB hm;unfold fv oS at e4;rw[e4];refine oB hd λa2 aH a3 aI ag=>ik (ag.cell 1) ?_;have ax:=aj.q8 aG λc hc hm=>(ac c hc).2 (by rw[zE.1 hm];simp);have ay:=(ax.q7 (Fr.refl [] ad).drew).q7 aI;refine que ay hl (ag.at (i:=0) rfl) λR U a4 aJ aK aL=>?_;have aa:=ag.sub (L':=(I,.c (eN x) ND)::(J,.c #[fT sN] T)::L) (H0 _ _);have ai:∀p∈((I,Obj.cells (eN x) ND (0,0))::(J,.c #[fT sN] T)::L),p.1∉Bi:=λp hp hm=>(ac p.1 hm).2 (zY (f:=(·.1)) hp);have aN:=aa.q8 aK (λi hi=>.inr (ac i hi).1) ai;have az:∀c∈I::J::L.map (·.1),c<aH.heap.size:=λc hc=>by obtain⟨p,hp,rfl⟩:=mem_map.1 (show c∈((I,Obj.cells (eN x) ND (0,0))::(J,.c #[fT sN] T)::L).map (·.1) from hc);exact eX (aa.eJ p hp)
 have aA:∀c∈U,w0.heap.size<=c/\c∉I::J::L.map (·.1):=λc hc=>by rcases aL c hc with h|h;exact ac c h;exact⟨zL aa.fr.size h,λhm=>by have:=az c hm;omega⟩
 exact oD aN 0 rfl (eN (x.1,x.2.1,x.2.2.1,R)) λaO aP aQ=>kk sN R U aO aP hN (aJ.q8 aQ λc hc hm=>(aA c hc).2 (by rw[zE.1 hm];simp)) aA
section
variable {w:Ic} {s:Sl} {b:Il}
def qxb{count:Nat}{K:kz×Bool->WP}(hb:en [] w s b)(hB:eI b)(hl:b.length<=1000)(hc:count<=100000)(hk:1<=k/\k<=1000)(kk:∀x B n w',(1<=count/\b.length=count*4+(count-1)*k->n=⟨false,kZ k (count-1) (b.drop (count*4)),[],y6 count b⟩)->fh (List.range w.heap.size++B) w' x n B->Fr [] w w'->(∀c∈B,w.heap.size<=c)->K (x,decide (1<=count/\b.length=count*4+(count-1)*k)) w'): cW 159 [s.v,.i count,.i k] [.agg ed,.one .bool] w K:=by
 refine qrn<|oB (oE [] w) λC w1 e1 f1 h=>?_;have ao:=hb.1;have ap:(count-1)*k<=100000*1000:=Nat.mul_le_mul oJ hk.2;refine gP (λd w'=>d = !decide (1<=count/\b.length=count*4+(count-1)*k)/\w'=w1) ?_ ?_;apply dX<;>intro h1;have h1:=zC h1;refine⟨?_,rfl⟩;rw[zU λh=>oJ];rfl;have h1:=zB h1;refine⟨?_,rfl⟩;have ea:wrap .i64 ((count:Int)-1)=((count-1:Nat):Int):=(by rw[gi _ oJ];omega);have ew:wrap .i64 (wrap .i64 ((count:Int)*4)+wrap .i64 (wrap .i64 ((count:Int)-1)*(k:Int)))=((count*4+(count-1)*k:Nat):Int):=by have e4:wrap .i64 ((count:Int)*4)=((count*4:Nat):Int):=(by rw[gi _ oJ];rfl);have e5:wrap .i64 (((count-1:Nat):Int)*(k:Int))=(((count-1)*k:Nat):Int):=(by rw[<- Int.natCast_mul,gi _ oJ]);rw[ea,e4,e5];generalize (count-1)*k=z at ap;rw[gi _ oJ];rfl
 rw[ew,ao];congr 1;rw[HR,yO,yM];generalize (count-1)*k=z;omega;rintro d a0 ⟨rfl,rfl⟩;apply dX<;>intro U;have ar:¬(1<=count/\b.length=count*4+(count-1)*k):=(by rw[zT] at U;exact zB U);refine oD h 0 rfl (eN fD) λw2 h f2=>Ij h 0 rfl fD ?_;have:=kk fD [] ir w2 (λe=>absurd e ar) (.zero _ _) h.fr (λ_ h=>nomatch h);rw[zU ar] at this;exact this;have aG:1<=count/\b.length=count*4+(count-1)*k:=(by rw[yD] at U;exact zC U);refine oB h λG w2 e2 f2 h=>qjA<|oB h λI w4 e4 f4 h=>?_;have h:=Du h (List.Perm.swap _ _ _);refine iX (λi w'=>∃(c:Nat) (R sn:Sl) (J:Ik),i=(c:Int)/\c<=count/\dR [] w w' [(G,.c (eN (false,dH,dH,R)) ND),(I,.c #[fT sn] 101),(C,.c (eN fD) ND)]/\
   en [] w sn (b.drop (c*4))/\eU iw 1 w' R (y6 c b) J/\(∀c∈J,w.heap.size<=c/\c∉[G,I,C])) (λi _=>((count:Int)-i).toNat)
  ⟨0,dH,s,[],rfl,yW _,h,by rw[Nat.zero_mul,xE];exact hb,.nil _ _ _,λ_ h=>(nomatch h)⟩ ?_
 rintro _ w' ⟨c,R,sn,J,rfl,a2,h,au,E,ni⟩ X hX;apply cD<;>intro ag;have ab:c<count:=oJ;have aI:(b.drop (c*4)).length=b.length-c*4:=yB;refine qAn h au (hB.drop _) oJ oJ (x:=(false,dH,dH,R)) E ni (by rw[D9];omega) λsN aJ aK w5 h5 V b5 n5=>?_;rw[rj oJ];refine hX _ _ ⟨c+1,aJ,sN,aK,rfl,ab,h5,?_,by rw[qog];exact b5,n5⟩ oJ;rw[xC] at V;have e:c*4+4=(c+1)*4:=oJ;rw[<- e];exact V;have ah:c=count:=oJ;subst ah;have aV:∀z∈J,w.heap.size<=z:=λz u=>(ni z u).1;refine iX (λi w2=>∃(d:Nat) (sk sn:Sl) (pk:ph) (Bk:Ik),i=(d:Int)/\d<=c-1/\dR [] w w2 [(G,.c (eN (false,sk,dH,R)) ND),(I,.c #[fT sn] 101),(C,.c (eN fD) ND)]/\
   en [] w sn ((b.drop (c*4)).drop (d*k))/\eU iw 1 w2 R (y6 c b) J/\eU gq 1 w2 sk (iv pk) Bk/\ga pk=kZ k d (b.drop (c*4))/\(∀c∈Bk,w.heap.size<=c/\c∉[G,I,C])/\(∀c∈Bk,c∉J)/\
   t7 w2 pk (List.range w.heap.size++G::I::C::(Bk++J))) (λi _=>(((c-1:Nat):Int)-i).toNat)
  ⟨0,dH,sn,[],[],rfl,yW _,h,by rw[Nat.zero_mul,xE];exact au,E,.nil _ _ _,rfl,λ_ h=>(nomatch h),λ_ h=>(nomatch h),λ_ h=>(nomatch h)⟩ ?_
 rintro _ w2 ⟨d,sk,a3,pk,Bk,rfl,a4,h,aw,E,ax,ek,nk,ai,gk⟩ X hX;have lk:pk.length=d:=(by rw[<- zK (f:=(·.2)),show pk.map (·.2)=ga pk from rfl,ek,Gq]);have ea:wrap .i64 ((c:Int)-1)=((c-1:Nat):Int):=(by rw[gi _ oJ];omega);have aa:∀z∈[G,I,C],z<w2.heap.size:=λz u=>by simp only[zG,xW,or_false] at u;rcases u with rfl|rfl|rfl;exact eX (h.at (i:=0) rfl);exact eX (h.at (i:=1) rfl);exact eX (h.at (i:=2) rfl)
 rw[ea];apply cD<;>intro aj;have ab:d<c-1:=oJ;have ak:(d+1)*k<=(c-1)*k:=HZ _ ab;rw[xT,Nat.one_mul] at ak;have aI:((b.drop (c*4)).drop (d*k)).length=b.length-c*4-d*k:=(by rw[yB,yB]);refine EN (o:=1) (m:=k) (.inl rfl) h aw oJ oJ (x:=(false,sk,dH,R)) ax nk oO λac sN ay Bk' w5 h5 V b5 n5 m5 f5 g5=>?_;have h5:dR [] w w5 [(G,.c (eN (false,ay,dH,R)) ND),(I,.c #[fT sN] 101),(C,.c (eN fD) ND)]:=h5;have az:=E.q8 f5 λz u hm=>by simp only[zG] at hm;rcases hm with rfl|rfl|hm;exact (ni _ u).2 oL;exact (ni _ u).2 oL;exact ai z hm u
 have aN:∀z∈List.range w.heap.size++G::I::C::(Bk'++J),z∈List.range w.heap.size++G::I::C::(Bk++J)\/w2.heap.size<=z:=λz u=>by simp only[zD,zG] at u⊢;rcases u with u|rfl|rfl|rfl|u|u;exact .inl (.inl u);simp;simp;simp;rcases n5 z u with h|h;simp[h];exact .inr h;simp[u]
 have aO:∀z∈G::I::Bk,z∈List.range w.heap.size++G::I::C::(Bk++J):=λz u=>by simp only[zD,zG] at u⊢;rcases u with rfl|rfl|u<;>simp[*]
 have aP:=(gk.q8 f5 aO aN).snoc (s:=ac) (a:=((b.drop (c*4)).drop (d*k)).take k) (g5 _ λz u=>by
  simp only[zD,zG,mem_range] at u;have:=h.fr.size;rcases u with u|rfl|rfl|rfl|u|u;exact .inl oJ;exact .inl (aa _ oL);exact .inl (aa _ oL);exact .inl (aa _ oL);exact .inr u;exact .inl (E.lt z u))
 rw[rj oJ];refine hX _ _ ⟨d+1,ay,sN,pk++[(ac,((b.drop (c*4)).drop (d*k)).take k)],Bk',rfl,ab,h5,?_,az,?_,?_,λz u=>⟨?_,m5 z u⟩,λz u hm=>?_,aP⟩ oJ;rw[xC] at V;have e:d*k+k=(d+1)*k:=(by rw[xT];omega);rw[<- e];exact V;rw[show iv (pk++[(ac,((b.drop (c*4)).drop (d*k)).take k)])=iv pk++[ac] by simp];exact b5;rw[qoe];simp[ek];rcases n5 z u with h'|h';exact (nk z h').1;exact zL h.fr.size h';rcases n5 z u with h'|h';exact ai z h' hm;have:=E.lt z hm;omega;have ah:d=c-1:=oJ;subst ah;refine Ij h 0 rfl (false,sk,dH,R)<|oD h 2 rfl (eN (false,sk,dH,R)) λw5 h5 f5=>Ij h5 2 rfl (false,sk,dH,R) ?_;have aA:∀ {B:Ik},(∀z∈B,w.heap.size<=z/\z∉[G,I,C])->∀z∈B,z∉[C]:=λhB z u hm=>(hB z u).2 (by rw[zE.1 hm];simp);have aQ:∀z∈[C],z∈List.range w.heap.size++G::I::C::(Bk++J):=λz u=>by rw[zE.1 u];simp
 have:=kk (false,sk,dH,R) (Bk++([]++J)) ⟨false,kZ k (c-1) (b.drop (c*4)),[],y6 c b⟩ w5 (λ_=>rfl)
  (quK (pv:=[]) (T:=List.range w.heap.size++G::I::C::(Bk++J)) rfl ⟨qqv _ (hB.drop _),λ_ h=>(nomatch h),qqx _ _⟩ (ax.q8 f5 (aA nk)) ek (.nil _ _ _) rfl (E.q8 f5 (aA ni)) (λz u=>⟨λh=>(nomatch h),ai z u⟩) (λ_ h=>nomatch h)
   (gk.q8 f5 aQ λz u=>.inl u) (λ_ h=>nomatch h) λz u=>by simp only[xH,zD,zG] at u⊢;rcases u with u|u|u<;>simp[*]) h5.fr (λz u=>by
   rw[xH] at u;rcases zD.1 u with u|u;exact (nk z u).1;exact (ni z u).1)
 rw[zZ aG] at this;exact this
end
end
section
def qty(h:eI b)(E:2<=b.length):bits .or .i64 (wrap .i64 (wrap .i64 (b.getD 0 0)*2^8)) (wrap .i64 (b.getD 1 0))=(fG b:Int)/\fG b<=65535:=by have u:0<=b.getD 0 0/\b.getD 0 0<256:=h _ (yE (getD_some (l:=b) (n:=0) oJ));have C:0<=b.getD 1 0/\b.getD 1 0<256:=h _ (yE (getD_some (l:=b) (n:=1) oJ));unfold fG;generalize b.getD 0 0=x at u⊢;generalize b.getD 1 0=y at C⊢;rw[gi x oJ,gi y oJ,gi (x*2^8) oJ,qsM 8 oJ oJ oJ oJ oJ];omega
def qnN(h:(dY k v).1≠0):1<=k/\k<=24/\v<=108:=by unfold dY at h;split at h;exact absurd rfl h;omega
def qzc(h:(dY k v).1=0\/b.length<2\/b.length>500):iy kind b k v=(ir,2):=by unfold iy;rw[iP h]
def qxM(h:¬((dY k v).1=0\/b.length<2\/b.length>500)):iy 3 b k v=if (b.drop 2).length=fG b*(k+v)/\fH (mF k v b) k v then (mF k v b,0) else (ir,2):=by unfold iy;rw[iN h];by_cases h2:(b.drop 2).length=fG b*(k+v)/\fH (mF k v b) k v;rw[iP ⟨rfl,h2⟩,iP h2];rw[iN λh=>h2 h.2,iN h2,iN λh=>absurd h.1 oM]
def qv3(h:¬((dY k v).1=0\/b.length<2\/b.length>500)):iy 4 b k v=if (1<=fG b/\(b.drop 2).length=fG b*4+(fG b-1)*k)/\fH (lh k b) k v then (lh k b,0) else (ir,2):=by unfold iy;rw[iN h,iN λh=>absurd h.1 oM];by_cases h2:(1<=fG b/\(b.drop 2).length=fG b*4+(fG b-1)*k)/\fH (lh k b) k v;rw[iP ⟨rfl,h2.1.1,h2.1.2,h2.2⟩,iP h2];rw[iN λh=>h2 ⟨⟨h.2.1,h.2.2.1⟩,h.2.2.2⟩,iN h2]
def qxL(u:kind≠3)(C:kind≠4):iy kind b k v=(ir,2):=by unfold iy;split;rfl;rw[iN λh=>u h.1,iN λh=>C h.1]
section
variable {w:Ic} {s:Sl} {b:Il}
def G7{K:kz×Int->WP}(hb:en [] w s b)(hB:eI b)(kk:∀x B w',fh (List.range w.heap.size++B) w' x (iy kind b k v).1 B->Fr [] w w'->(∀c∈B,w.heap.size<=c)->K (x,(iy kind b k v).2) w'): cW 118 [.b kind,s.v,.i k,.i v] [.agg ed,.one .i] w K:=by
 refine qsH ?_;have ah:=hb.1;refine oB (oE [] w) λr1 w1 e1 f1 h=>Ga λw4 f4=>?_;have h:=h.q7 f4;refine gP (λd w'=>d=decide ((dY k v).1=0\/b.length<2\/b.length>500)/\w'=w4) ?_ ?_;dsimp only;refine dX (λC=>⟨?_,rfl⟩) λC=>dX (λc2=>⟨?_,rfl⟩) λc2=>⟨?_,rfl⟩;have C:=yO.1 C;exact Cf (.inl oJ);have c2:=zC c2;exact Cf (.inr (.inl oJ));have C:=zR.1 C;have c2:=zB c2;rw[HR,yM,yM];constructor;intro h;exact .inr (.inr oJ);rintro (h|h|h);omega;omega;omega;rintro d aJ ⟨rfl,rfl⟩;have aw:∀ {w'},iy kind b k v=(ir,2)->dR [] w w' [(r1,.c (eN fD) ND)]->
   st (dg r1) ([Value.bool false,Value.slice none 0 0,Value.slice none 0 0,Value.slice none 0 0]) w' λax=>dL (ed) (dg r1) ax λaK=>K ((aK,2)) ax:=λhe h=>by
  refine oD h 0 rfl (eN fD) λw2 h f2=>Ij h 0 rfl fD ?_;have:=kk fD [] w2 (by rw[he];exact .zero _ _) h.fr (λ_ h=>nomatch h);rw[he] at this;exact this
 refine dX (λu=>aw (qzc (zC u)) h) λu=>?_;have aa:=zB u;have ay:(dY k v).1≠0:=λe=>aa (.inl e);have h2:2<=b.length/\b.length<=500:=by refine⟨?_,?_⟩;exact Nat.not_lt.1 λe=>aa (.inr (.inl e));exact Nat.not_lt.1 λe=>aa (.inr (.inr e))
 obtain⟨aZ,a0,a1⟩:=qnN ay;obtain⟨az,a2⟩:=qty hB h2.1;have aA:=(hb.q7 h.fr).q7 (Fr.refl [] aJ).drew;refine en.at aA 0 rfl (getD_some oJ)<|en.at aA 1 rfl (getD_some oJ) ?_;rw[az];have h:=h.drew;refine oB h λaf aj a3 a4 h=>?_;have ak:=eX (h.at (i:=0) rfl);have aB:=eX (h.at (i:=1) rfl);dsimp only at ak aB;have ai:=hb.q7 h.fr;have aC:=h.fr.size;refine gP (λR w'=>∃x B n,dR [] w w' [(af,.c (eN x) ND),(r1,.c (eN fD) ND)]/\fh (List.range aj.heap.size++B) w' x n B/\(∀c∈B,aj.heap.size<=c)/\
   R=decide ((kind=3/\(b.drop 2).length=fG b*(k+v))\/(kind=4/\1<=fG b/\(b.drop 2).length=fG b*4+(fG b-1)*k))/\
   (R=true->n=if kind=3 then mF k v b else lh k b)) ?_ ?_
 refine dX (λV=>?_) λV=>dX (λc4=>?_) λc4=>?_;have V:=yO.1 V;refine ee.part (S:=[]) ai (lo:=some 2) (hi:=none) 2 b.length rfl (by rw[xV,ah]) h2.1 (zM _) λaM _ I _=>?_;rw[xY] at I;refine qz9 I (hB.drop 2) (by rw[yB];omega) oJ oJ oJ λx B n aN hn hN an J=>?_;have ao:=h.q7 an;refine oD ao 0 rfl (eN x) λaO ap aq=>?_;have ab:∀c∈B,c∉[af]:=λc u hm=>by have:=J c u;rw[zE.1 hm] at this;omega
 refine⟨x,B,n,ap,hN.q8 aq ab (λc u=>.inl (by rw[zE.1 u];simp[ak])) λc u=>.inl u,J,?_,λE=>?_⟩;rw[HR,yM,yM];constructor;intro U;exact .inl ⟨V,U⟩;rintro (U|U);exact U.2;have:=U.1;omega;rw[iP V];exact hn (zC E);have V:=zR.1 V;have c4:=yO.1 c4;refine ee.part (S:=[]) ai (lo:=some 2) (hi:=none) 2 b.length rfl (by rw[xV,ah]) h2.1 (zM _) λaM _ I _=>?_;rw[xY] at I;refine qxb I (hB.drop 2) (by rw[yB];omega) oJ oJ λx B n aN hn hN an J=>?_;have ao:=h.q7 an;refine oD ao 0 rfl (eN x) λaO ap aq=>?_;have ab:∀c∈B,c∉[af]:=λc u hm=>by have:=J c u;rw[zE.1 hm] at this;omega
 refine⟨x,B,n,ap,hN.q8 aq ab (λc u=>.inl (by rw[zE.1 u];simp[ak])) λc u=>.inl u,J,?_,λE=>?_⟩;rw[HR,yM,yM];constructor;intro U;exact .inr ⟨c4,U⟩;rintro (U|U);exact absurd U.1 V;exact U.2;rw[iN V];exact hn (zC E);have V:=zR.1 V;have c4:=zR.1 c4;refine⟨fD,[],ir,h,.zero _ _,λ_ h=>(nomatch h),?_,λE=>nomatch E⟩;rw[zU];rintro (U|U);exact V U.1;exact c4 U.1;rintro R aP ⟨x,B,n,h,hN,J,ac,hn⟩;have aE:R=true->n.J6.length<=1000000/\n.Q0.length<=1000000/\n.J9.length<=1000000:=λE=>by
  rw[hn E];split;have:=CZ (k:=k) (v:=v) (fG b) (b.drop 2);unfold mF;dsimp only;rw[this.1,this.2];simp;omega;unfold lh;dsimp only;rw[Gq,D9];simp;omega
 refine gP (λd w'=>d = !(R&&decide (fH n k v))/\dR [] w w' [(af,.c (eN x) ND),(r1,.c (eN fD) ND)]/\fh (List.range aj.heap.size++B) w' x n B) ?_ ?_;apply dX<;>intro C;have C:R=false:=(oP C);exact⟨by rw[C];rfl,h,hN⟩;have C:R=true:=(oP C);obtain⟨q1,q2,q3⟩:=aE C;refine Ij h 0 rfl x ?_;have aQ:eF [] aP x n:=hN.rd (λ_ _ h=>(nomatch h)) λ_ h=>nomatch h;exact qrP (x:=x) aQ q1 q2 q3 λa8 aF=>⟨by rw[C,Bool.true_and],h.q7 aF,hN.q7 aF⟩;rintro d a9 ⟨rfl,h,hN⟩;have G:iy kind b k v=if (R&&decide (fH n k v))=true then (n,0) else (ir,2):=by
  by_cases k3:kind=3;subst k3;rw[qxM aa];have e:R=decide ((b.drop 2).length=fG b*(k+v)):=(by rw[ac];exact decide_eq_decide.2 ⟨λh=>h.elim (·.2) λh=>absurd h.1 oM,λh=>.inl ⟨rfl,h⟩⟩);by_cases E:R=true;have ad:=hn E;rw[iP rfl] at ad;rw[ad,E,Bool.true_and];have hl:(b.drop 2).length=fG b*(k+v):=zC (e▸E);by_cases hr:fH (mF k v b) k v;rw[iP ⟨hl,hr⟩,iP (zZ hr)];rw[iN λh=>hr h.2,iN (by rw[zU hr];decide)];have ae:R=false:=(oP E);rw[ae,Bool.false_and,iN (show ¬(false=true) by decide)];have hl:¬(b.drop 2).length=fG b*(k+v):=zB (e▸ae);rw[iN λh=>hl h.1];by_cases k4:kind=4;subst k4;rw[qv3 aa];have e:R=decide (1<=fG b/\(b.drop 2).length=fG b*4+(fG b-1)*k):=(by rw[ac];exact decide_eq_decide.2 ⟨λh=>h.elim (λh=>absurd h.1 oM) (·.2),λh=>.inr ⟨rfl,h⟩⟩);by_cases E:R=true;have ad:=hn E;rw[iN k3] at ad;rw[ad,E,Bool.true_and];have hl:=zC (e▸E);by_cases hr:fH (lh k b) k v;rw[iP ⟨hl,hr⟩,iP (zZ hr)];rw[iN λh=>hr h.2,iN (by rw[zU hr];decide)];have ae:R=false:=(oP E);rw[ae,Bool.false_and,iN (show ¬(false=true) by decide)];have hl:=zB (e▸ae);rw[iN λh=>hl h.1];rw[qxL k3 k4];have E:R=false:=by rw[ac,zU];rintro (h|h);exact k3 h.1;exact k4 h.1
  rw[E,Bool.false_and,iN (show ¬(false=true) by decide)]
 have aR:∀c∈B,c∉[r1]:=λc u hm=>by have:=J c u;rw[zE.1 hm] at this;omega
 apply dX<;>intro C;refine aw ?_ (h.sub (H0 _ _));rw[G,iN (by rw[zT] at C;rw[C];decide)];rw[yD] at C;refine Ij h 0 rfl x<|oD h 1 rfl (eN x) λaT aG aU=>Ij aG 1 rfl x ?_;rw[iP C] at G
 have:=kk x B aT (by rw[G];exact (hN.q8 aU aR (λc u=>.inl (by rw[zE.1 u];simp[aB])) λc u=>.inl u).j6 λc u=>.inl (by rcases zD.1 u with u|u;exact zH _ (mem_range.2 (yC (mem_range.1 u) aC));exact zI _ u)) aG.fr (λc u=>zL aC (J c u));rw[G] at this;exact this
end
end
section
def qBI{M:dV}(u:M.z9)(x:Int):x∈M.all↔x∈M.Q9\/x∈M.J7\/x∈M.Q5:=by rw[u.mem x];simp only[dV.all,zD];constructor;rintro (h|h|h|h);exact .inl (.inl h);exact .inr (.inl h);exact .inr (.inr h);exact .inl (.inr h);rintro ((h|h)|h|h);exact .inl h;exact .inr (.inr (.inr h));exact .inr (.inl h);exact .inr (.inr (.inl h))
def Hj{M:dV}{y4 Q9:Il}(u:jv M=some (y4,Q9))(x:Int):x∈y4\/x∈Q9↔x∈M.Q1\/x∈M.J7\/x∈M.Q5:=by
 obtain⟨k,E,C,rfl,rfl⟩:=Di u;rw[wR];have e:x∈M.Q1↔x∈M.Q1.take k\/x∈M.Q1.drop k:=by
  conv=>lhs;rw[<- xD k M.Q1]
  exact zD
 simp only[zD,e];constructor;rintro (h|(h|h)|h);exact .inl (.inl h);exact .inr (.inl h);exact .inr (.inr h);exact .inl (.inr h);rintro ((h|h)|h|h);exact .inl h;exact .inr (.inr h);exact .inr (.inl (.inl h));exact .inr (.inl (.inr h))
section
variable {D D':dJ} {M:dV} {y4 Q9:Il} {t:Int} {ov:Bool}
def qtH(h:M.Wf)(C:∀e∈M.J8,view D' e.1=eG e.1 e.2.1 e.2.2)(u:e∈M.J8):eV e.1 (view D' e.1)=(e.2.1,e.2.2,0):=by have E:=h.J6 e.1 (zY u);have G:=h.n4;rw[C e u];exact Fm ⟨oJ,oJ⟩ (h.body e u).2.1
def qqV{x:Int}(C:M.Q3=false)(E:D.down=false)(u:2<=x/\x<D.size)(G:M.j9.2.getD 0 0=D.size)(h:x∉M.all):dI D M x=eV x (view D x):=by have I:look x M.J8=none:=uv.2 λJ=>h (zI _ (zI _ (zI _ J)));have R:gc M x=true:=xo.2 ⟨⟨u.1,by rw[G];exact u.2⟩,h⟩;have U:=Cw E (n:=x) ⟨oJ,u.2⟩;unfold dI;rw[iN (by rw[C];decide),I];dsimp only;rw[iN (by rw[R];decide),U,iN oL]
def qv2(h:M.Q3=false)(u:M.Wf)(C:e∈M.J8):dI D M e.1=(e.2.1,e.2.2,0):=by obtain⟨i,E⟩:=Dd u.y8 C;unfold dI;rw[iN (by rw[h];decide),E]
end
end
end
section
open Go Go.Pt List
open Go.IntKind (wrap)
open Classical
attribute [local irreducible] ld dL gZ mP i3 fc st new idx i4 jg fB jk iO lS gB nn call dZ inv run eW iC join loop held ext jU eH mv mp mA IntKind.wrap
end
section
open Go Go.Pt List
open Go.IntKind (wrap)
variable {db:Option Addr} {w:Ic}
def DH{cl:List Cell}{b off:Nat}{cs:Array Ie}{T:If}{h:Iu}{K:HL cl->Prop}(u:w.heap[b]?=some (.cells cs T h))(x:HL cl)(C:(cs.toList.drop off).take cl.length=HL.mk cl x)(k:K x):Pt.dL cl (dg b off) w K:=
 ⟨x,vv u _ off 0 (by rw[HL.j3];exact C),k⟩
attribute [local irreducible] ld dL gZ mP i3 fc st new idx i4 jg fB jk iO lS gB nn call dZ inv run eW iC join loop held ext jU eH mv mp mA IntKind.wrap
def nA.tZ{w':Ic}{X:Ik}{pb:Nat}{M:dV}{fb defb mb:Nat}{sl sn:Sl}{F1 F2:Ik}{C:List (Int×jR)}{Q2:Il}(h:nA w X pb db M fb defb mb sl sn F1 F2 C)(E:Q2.length=24)(G:w'.heap[pb]?=some (.c (fw db M.j9 sl sn M.x6 M.Q3 fb defb mb Q2) rh))(f:Fr [pb] w w'):nA w' X pb db { M with Q2:=Q2 } fb defb mb sl sn F1 F2 C where
 cell:=G
 Q1:=h.Q1.q8 f λb u=>by simpa using (h.sep.2.1 b u).1
 J7:=h.J7.q8 f λb u=>by simpa using (h.sep.2.2 b u).1
 map:=h.map.q8 f (by simpa using λe=>h.sep.1 e.symm)
 J8:=h.J8
 rows:=h.rows.q8 (f.mono λi I _=>by rw[zE.1 I];simp) λb u=>.inl u
 nH:=λb u=>yC (h.nH b u) f.size
 lQ:=h.lQ
 sep:=h.sep
 Q8:=h.Q8
 x7:=E
def qvU{j9:nI}{sl sn:Sl}{x6:Int}{Q3:Bool}{fb defb mb:Nat}{Q2:Il}(I:j9.2.length=27)(U:Q2.length=24){t:Nat}(V:t<8){h C E:Int}: dS (fw db j9 sl sn x6 Q3 fb defb mb Q2) (36+3*t) [.u h,.u C,.u E]=fw db j9 sl sn x6 Q3 fb defb mb (Q2.take (3*t)++[h,C,E]++Q2.drop (3*t+3)):=by
 have G:Q2=Q2.take (3*t)++(Q2.drop (3*t)).take 3++Q2.drop (3*t+3):=by rw[zV,<- xC,xD,xD]
 have:=se (A:=(.pointer db::eS j9.1 j9.2)++mT sl sn x6 Q3 fb defb mb++(Q2.take (3*t)).map (Value.int .u32)) (X:=((Q2.drop (3*t)).take 3).map (Value.int .u32)) (Y:=[.u h,.u C,.u E]) (Z:=(Q2.drop (3*t+3)).map (Value.int .u32)) (by rw[zK,yK,yB];show min 3 _=3;omega);have J:((.pointer db::eS j9.1 j9.2)++mT sl sn x6 Q3 fb defb mb++(Q2.take (3*t)).map (Value.int .u32)).length=36+3*t:=(by rw[zF,zF,rL I,zK,yK];show 29+7+_=_;omega);rw[J] at this;unfold fw;have R:Q2.map (Value.int .u32)=(Q2.take (3*t)).map (Value.int .u32)++((Q2.drop (3*t)).take 3).map (Value.int .u32)++(Q2.drop (3*t+3)).map (Value.int .u32):=(by rw[<- xM,<- xM,<- G]);rw[R];simp only[xM,xN,map_nil];simp only[zV] at this⊢;exact this
section
variable {w:Ic} {X:Ik} {pb:Nat} {db:Option Addr} {F:Ik} {M:dV}
def qtt{t E G I:Int}{K:Int->WP}(h:eB w X pb db F M)(hk:∀w',eB w' X pb db F (eY M t E G I).2->Fr F w w'->K (eY M t E G I).1 w'): cW 131 [dG pb,.i t,.agg #[.u E,.u G,.u I]] di w K:=by
 have h0:=h;obtain⟨fb,defb,mb,sl,sn,F1,F2,fs,rfl,R⟩:=h;refine qhA ?_;have J:∀ {e:Int} {w':Ic},eY M t E G I=(e,M)->Fr [] w w'->K e w':=by
  intro e w' he hf;have:=hk w' (by rw[he];exact h0.q7 hf) (hf.mono λb U=>by cases U);rw[he] at this;exact this
 refine oB (oE [] w) λr w1 e1 f1 ho=>?_;have V:=R.q7 f1;refine fu (io V.cell M.Q3 (vw R.Q8) ?_);refine dX (λC=>J (by rw[eY,iP C]) f1) λC=>?_;have aa:¬M.Q3=true:=(by rw[C];decide);refine gP (λb w'=>b=decide (t<0\/t>7)/\w'=w1) ?_ ?_;refine dX (λC=>⟨by rw[zZ (Or.inl (zC C))],rfl⟩) (λC=>?_);have:=zB C;refine⟨decide_eq_decide.2 ⟨λh=>.inr oJ,λh=>oJ⟩,rfl⟩;rintro b w2 ⟨rfl,rfl⟩;refine dX (λC=>J (by rw[eY,iN aa,iP (zC C)]) f1) λC=>?_;have hr:=zB C;obtain⟨n,rfl⟩:∃n:Nat,t=n:=⟨t.toNat,oJ⟩;have ae:n<8:=oJ;have ab:eY M n E G I=(0,{ M with Q2:=M.Q2.take (3*n)++[E,G,I]++M.Q2.drop (3*n+3) }):=(by rw[eY,iN aa,iN hr,zJ]);have af:=ho.drew;have ac:=V.q7 (Fr.refl [] w2).drew;refine Ij af 0 rfl (E,G,I)<|fu<|m8 oJ ?_;simp only[Addr.q9,zJ];refine qY ac.cell (fw db M.j9 sl sn M.x6 M.Q3 fb defb mb (M.Q2.take (3*n)++[E,G,I]++M.Q2.drop (3*n+3))) (by show dS _ (0+33+3+n*3) _=_;rw[show 0+33+3+n*3=36+3*n by omega];exact qvU R.Q8 R.x7 ae) rfl (by rw[Gk R.Q8,R.x7];exact zL (show 0+33+3+n*3+3<=60 by omega) (zM 60)) λw3 ag f3=>?_;have hl:(M.Q2.take (3*n)++[E,G,I]++M.Q2.drop (3*n+3)).length=24:=by
  have:=R.x7;simp only[zF,yK,yB,yH,xJ];omega
 have:=hk w3 (by rw[ab];exact⟨fb,defb,mb,sl,sn,F1,F2,fs,rfl,ac.tZ hl ag f3⟩) ((f1.drew.mono λb U=>nomatch U).trans (f3.mono λb U _=>by rw[zE.1 U];simp));rw[ab] at this;exact this
def dW (M:dV) (t:Int):Iw:=if t<0\/t>7 then (0,0,0) else (M.Q2.getD (3*t.toNat) 0,M.Q2.getD (3*t.toNat+1) 0,M.Q2.getD (3*t.toNat+2) 0)
def qyh{t:Int}{K:Iw->WP}(h:eB w X pb db F M)(U:∀w',Fr [] w w'->K (dW M t) w'): cW 46 [dG pb,.i t] [.agg [.u,.u,.u]] w K:=by
 obtain⟨fb,defb,mb,sl,sn,F1,F2,fs,rfl,I⟩:=h;refine qjW<|oB (oE [] w) λr w1 e1 f1 V=>?_;have J:=I.q7 f1;refine gP (λb w'=>b=decide (t<0\/t>7)/\w'=w1) ?_ ?_;refine dX (λE=>⟨by rw[zZ (Or.inl (zC E))],rfl⟩) (λE=>?_)
 have:=zB E;refine⟨decide_eq_decide.2 ⟨λh=>.inr oJ,λh=>oJ⟩,rfl⟩;rintro b w2 ⟨rfl,rfl⟩;apply cD<;>intro E;refine oD V 0 rfl #[.u 0,.u 0,.u 0] λR C f3=>Ij C 0 rfl (0,0,0) ?_;have:=U R C.fr;rw[dW,iP (E)] at this;exact this;have hr:=E;obtain⟨n,rfl⟩:∃n:Nat,t=n:=⟨t.toNat,oJ⟩;have ad:n<8:=oJ;have ae:=I.x7;refine fu<|m8 oJ ?_;simp only[Addr.q9,zJ];have e3:((M.Q2.map (Value.int .u32)).drop (3*n)).take 3=[.u (M.Q2.getD (3*n) 0),.u (M.Q2.getD (3*n+1) 0),.u (M.Q2.getD (3*n+2) 0)]:=by rw[zX (by rw[zK];omega),zX (by rw[zK];omega),zX (by rw[zK];omega)];simp only[take_succ_cons,take_zero,getElem_map];rw[getElem_eq_getD 0,getElem_eq_getD 0,getElem_eq_getD 0]
 refine DH J.cell (M.Q2.getD (3*n) 0,M.Q2.getD (3*n+1) 0,M.Q2.getD (3*n+2) 0) ?_ ?_;have hd:=Cj (db:=db) (j9:=M.j9) (sl:=sl) (sn:=sn) (x6:=M.x6) (Q3:=M.Q3) (fb:=fb) (defb:=defb) (mb:=mb) (Q2:=M.Q2) I.Q8 I.x7;have G:(fw db M.j9 sl sn M.x6 M.Q3 fb defb mb M.Q2).toList.drop 36=M.Q2.map (Value.int .u32):=by
  rw[<- hd,zS];have:=Gk (db:=db) (j9:=M.j9) (sl:=sl) (sn:=sn) (x6:=M.x6) (Q3:=M.Q3) (fb:=fb) (defb:=defb) (mb:=mb) (Q2:=M.Q2) I.Q8;rw[yB,Ib];omega
 rw[show 0+33+3+n*3=36+3*n by omega,<- xC,G];exact e3;refine oD V 0 rfl #[.u (M.Q2.getD (3*n) 0),.u (M.Q2.getD (3*n+1) 0),.u (M.Q2.getD (3*n+2) 0)] λR C f3=>Ij C 0 rfl (M.Q2.getD (3*n) 0,M.Q2.getD (3*n+1) 0,M.Q2.getD (3*n+2) 0) ?_;have:=U R C.fr;rw[dW,iN hr,zJ] at this;exact this
end
def qwu{dbk pb:Nat}{X FD F:Ik}{D:dJ}{M:dV}{k:Nat}{n:Int}{K:Ix->WP}(ac:eQ w dbk FD D)(V:lK D k)(aa:eB w X pb (pr dbk M) F M)(hv:Hv w)(hn:gE n)(hl:M.Q5.length<=1000000)(hb:∀e∈M.J8,e.2.2.length<=100000)(hk:∀s w',(∀G:Ik,(∀b∈G,b<w.heap.size)->en G w' s (dI D M n).2.1)->Fr [] w w'->K ((dI D M n).1,s,(dI D M n).2.2) w'): cW 117 [dG pb,.u n] dq w K:=by
 have ad:=aa;obtain⟨fb,defb,mb,sl,sn,F1,F2,fs,rfl,hx⟩:=aa;refine qjU ?_;have ae:∀ {a:Int} {e:Int} {w':Ic},dI D M n=(a,[],e)->Fr [] w w'->K (a,dH,e) w':=λhe f=>by
  have:=hk dH _ (λG hG=>by rw[he];exact .nil _ _ _ _) f;rw[he] at this;exact this
 refine fu (io hx.cell M.Q3 (vw hx.Q8) ?_);refine dX (λI=>ae (by rw[dI,iP I]) (.refl _ _)) λI=>?_;have J:¬M.Q3=true:=(by rw[I];decide);have ap:pr dbk M=pW dbk:=iN J;refine fu ?_;simp only[Addr.q9];refine io hx.cell (some mb) (sS hx.Q8) ?_;have h:look n M.J8=(look n fs).map λq=>(q.1,q.2.1,q.2.2.2):=(by rw[hx.J8];exact vz (λe:jR=>(e.1,e.2.2)) n fs);refine C4 hx.map.at (λq hq=>?_) λhq=>?_;rw[hq] at h;have h:look n M.J8=some (q.1,q.2.1,q.2.2.2):=h;refine oB (oE [] w) λr w1 e1 f1 ho=>oD ho 0 rfl #[.b q.2.1,q.2.2.1.v] λw2 U f2=>?_;have R:=U.drew;refine HK rfl<|Ii R 0 rfl q.2.1<|Ii R 0 rfl q.2.2.1 ?_;have ar:=(tg hq).2;have au:=hx.rows.y7 _ ar;have ah:=(tg h).2;refine An (au.q7 R.fr) (zL (hb _ ah) oM) λs2 B2 w3 b2 f3 n2 _ _=>?_;have ai:=R.q7 f3;refine ik (ai.cell 0) ?_;have C:dI D M n=(q.2.1,q.2.2.2,0):=by rw[dI,iN J,h]
 have:=hk s2 w3 (λG hG=>by rw[C];exact eU.jz lc b2 λb hb hm=>by have:=n2 b hb;have:=hG b hm;have:=R.fr.size;omega) ai.fr;rw[C] at this;exact this;rw[hq] at h;have h:look n M.J8=none:=h;refine oB (oE [] w) λr w1 e1 f1 ho=>oD ho 0 rfl #[.b 0,.slice none 0 0] λw2 U f2=>HM rfl<|qrN (ad.q7 U.fr) hl λw3 f3=>?_;have E:=U.fr.trans f3;have aj:=hx.q7 E;apply dX<;>intro I;have hu:gc M n=false:=(oP I);exact ae (by rw[dI,iN J,h];exact iP hu) E;have hu:¬gc M n=false:=(oP I);rw[ap] at aj;refine fu (io aj.cell (pW dbk) DK ?_);rw[gi n (by have:=hn.1;have:=hn.2;omega)];refine Dn (ac.q7 E) V.ok λs5 B5 w5 b5 f5 n5=>?_;apply dX<;>intro I;have he:(eE D n).2≠0:=(oP I);exact ae (by rw[dI,iN J,h];exact (iN hu).trans (iP he)) (E.trans f5);have he:¬(eE D n).2≠0:=(oP I);have ax:=vi V.ok n;refine Fe (b5.jz lc (S:=[]) oL) (hv.q7 (E.trans f5)) ax.1 oJ λs6 B6 w6 b6 f6 n6=>?_;have C:dI D M n=eV n (eE D n).1:=by rw[dI,iN J,h];exact (iN hu).trans (iN he)
 have:=hk s6 w6 (λG hG=>by rw[C];exact eU.jz lc b6 λb hb hm=>by have:=n6 b hb;have:=hG b hm;have:=(E.trans f5).size;omega) ((E.trans f5).trans f6);rw[C] at this;exact this
end
section
open Go Go.Pt List
open Go.IntKind (wrap)
def lK.new{n:Nat}(h:n<=4096):lK (mS n) 0:=⟨qAi h,by simp[mS],by simp[mS]⟩
def rq (n:Nat):Il:=(fy n).take (eK (fy n).length)
def nu (n:Nat):Il:=(fy n).drop (eK (fy n).length)
def ki (n:Nat):dV:=ij (kH n) (rq n) (nu n) 1 false (nu n)
def qAf{n:Nat}(h:8<=n)(u:n<=4096):(ki n).Wf:=by have e:(kH n).2.getD 0 0=n:=(by show wrap .u32 (n:Int)=_;exact nD _ oJ);exact FA (by rw[e];exact qn3) (by rw[e];omega) (DW h u).u32
structure Made (D:dJ) (n:Nat):Prop where
 quiet:eP D
 size:D.size=n
 Q7:D.Q7=[]
 opens:pf D (kH n) (rq n) (nu n)
 fmt:lC (mS n)=(D,0)
 zero:view D 0=zs 512
end
section
open Go Go.Pt List
open Go.IntKind (wrap)
open Classical
variable {P:Il} {t:Int}
def kJ (t:Int) (s:Io×dV) (u h:Int):Int×dV:=if s.1.2≠0 then (s.1.2,s.2) else eY s.2 t s.1.1 u h
noncomputable def rN (k v:Nat) (t:Int) (r:Iw) (x:(Grown×Int)×dV):Int×dV:=
 if x.1.2≠0 then (x.1.2,x.2)
 else if x.1.1.x4≠0 then kJ t (dP k v x.2 0 ⟨false,[x.1.1.key],[],[x.1.1.x5,x.1.1.x4]⟩) (if x.1.1.J8 then wrap .u32 (r.2.1+1) else r.2.1) (wrap .u32 (r.2.2+1))
 else eY x.2 t x.1.1.x5 (if x.1.1.J8 then wrap .u32 (r.2.1+1) else r.2.1) r.2.2
noncomputable def jy (D:dJ) (k v:Nat) (t:Int) (key val:Key) (f:Nat) (M:dV):Int×dV:=
 if (dW M t).1=0 then kJ t (dP k v M 0 (eh [(key,val)])) 1 1 else rN k v t (dW M t) (gV D k v key val f M (dW M t).1)
noncomputable def mn (k v:Nat) (t:Int) (r:Iw) (x:(dM×Int)×dV):Int×dV:=
 if x.1.2≠0 then (x.1.2,x.2)
 else if x.1.1.Q4=true/\x.1.1.J6.length=0 then (if (fq x.2 r.1).1≠0 then ((fq x.2 r.1).1,(fq x.2 r.1).2) else eY (fq x.2 r.1).2 t 0 0 0)
 else if x.1.1.Q4=false/\x.1.1.J9.length=1 then (if (fq x.2 r.1).1≠0 then ((fq x.2 r.1).1,(fq x.2 r.1).2) else eY (fq x.2 r.1).2 t (x.1.1.J9.getD 0 0) (wrap .u32 (r.2.1-1)) (wrap .u32 (r.2.2-1)))
 else kJ t (dP k v x.2 r.1 x.1.1) (wrap .u32 (r.2.1-1)) r.2.2
noncomputable def kU (D:dJ) (k v:Nat) (t:Int) (key:Key) (f:Nat) (M:dV):Int×dV:=mn k v t (dW M t) (hU D k v key f M (dW M t).1)
def fQ (D:dJ) (M:dV) (k v:Nat) (t:Int) (L:fP) (P:Il):Prop:=
 (dW M t=(0,0,0)/\L=[]/\P=[])\/∃h n p,p≠0/\dW M t=(p,(L.length:Int),((h+1:Nat):Int))/\Has D M k v h ⟨p,n,L,P⟩
structure nh (D:dJ) (M M':dV) (t:Int) (P P':Il):Prop where
 step:Step D M { M' with Q2:=M.Q2 } P P'
 wf:M'.Wf
 len:M'.Q2.length=24
 others:∀ t':Int,t'≠t->dW M' t'=dW M t'
section
variable {D:dJ} {M M':dV} {k v:Nat}
def qzf{a b c:Int}(U:0<=t/\t<8)(G:M.Q3=false)(V:M.Q2.length=24):∃R,eY M t a b c=(0,{ M with Q2:=R })/\R.length=24/\dW { M with Q2:=R } t=(a,b,c)/\(∀C:Int,C≠t->dW { M with Q2:=R } C=dW M C)/\∀x∈R,x∈M.Q2\/x=a\/x=b\/x=c:=by
 obtain⟨n,rfl⟩:∃n:Nat,t=n:=⟨t.toNat,oJ⟩;have hn:n<8:=oJ;have e:eY M n a b c=(0,{ M with Q2:=M.Q2.take (3*n)++[a,b,c]++M.Q2.drop (3*n+3) }):=by rw[eY,iN (by rw[G];decide),iN,zJ]
 have I:(M.Q2.take (3*n)).length=3*n:=(by rw[yK];omega);have h:∀i,(M.Q2.take (3*n)++[a,b,c]++M.Q2.drop (3*n+3)).getD i 0=if i=3*n then a else if i=3*n+1 then b else if i=3*n+2 then c else M.Q2.getD i 0:=λi=>by rw[zV,yQ];by_cases h1:i<3*n;rw[yY oJ,xA,iP h1,iN,iN,iN,yQ];rw[yX oJ,I];by_cases h2:i=3*n;rw[iP h2,h2,Nat.sub_self];rfl;rw[iN h2];by_cases h3:i=3*n+1;rw[iP h3,h3,show 3*n+1-3*n=1 by omega];rfl;rw[iN h3];by_cases h4:i=3*n+2;rw[iP h4,h4,show 3*n+2-3*n=2 by omega];rfl;rw[iN h4,yX oO,yZ,yQ];congr 2;simp;omega
 refine⟨_,e,?_,?_,λC E=>?_,λx u=>?_⟩;simp only[zF,yK,yB,yH,xJ];omega;rw[dW,iN,zJ];dsimp only;rw[h,h,h,iP rfl,iN,iP rfl,iN,iN,iP rfl];unfold dW;by_cases hr':C<0\/C>7;rw[iP hr',iP hr'];rw[iN hr',iN hr'];dsimp only;have J:C.toNat≠n:=λe=>E oJ;rw[h,h,h,iN,iN,iN,iN,iN,iN,iN,iN,iN];rcases zD.1 u with u|u;rcases zD.1 u with u|u;exact .inl (yU u);simp only[zG,xW,or_false] at u;exact .inr u;exact .inl (yT u)
def qtm{R:Il}(h:M.Wf)(u:∀x∈R,gE x):({ M with Q2:=R }:dV).Wf:=⟨h.n4,h.u32,u,h.cL,h.Q9,h.cS,h.qA,h.nodup,h.range,h.body⟩
def Has.Q2{h:Nat}{s:ia}{R:Il}(u:Has D M k v h s):Has D { M with Q2:=R } k v h s:=u.q8 λx _=>rfl
def Step.J5{P':Il}{a b c:Int}(E:0<=t/\t<8)(G:M.Q2.length=24)(h:Step D M M' P P')(I:gE a)(J:gE b)(U:gE c): ∃R,eY M' t a b c=(0,{ M' with Q2:=R })/\nh D M { M' with Q2:=R } t P P'/\dW { M' with Q2:=R } t=(a,b,c):=by obtain⟨R,e,V,h1,h2,h3⟩:=qzf (a:=a) (b:=b) (c:=c) E h.Q3 (by rw[h.Q2];exact G);refine⟨R,e,⟨?_,qtm h.wf λx hx=>?_,V,λt' C=>?_⟩,h1⟩;have e':({ M' with Q2:=M.Q2 }:dV)=M':=(by rw[<- h.Q2]);show Step D M { M' with Q2:=M.Q2 } P P';rw[e'];exact h;rcases h3 x hx with u|u|u|u;exact h.wf.Q2 x u;rw[u];exact I;rw[u];exact J;rw[u];exact U;rw[h2 t' C];unfold dW;rw[h.Q2]
def Has.counts:∀ {h:Nat} {s:ia},Has D M k v h s->h+1<=s.y3.length/\s.y4.length+1<=2*s.y3.length
 | 0,s,C=>by have I:=length_pos_iff.2 C.ne;rw[C.1];simp;omega
 | h+1,s,⟨E,h0,I,J,R,U,h5,h6,V⟩=>by
  have h8:=U.right.x9.1;rw[J,R];have key:∀l:List gJ,(∀e∈l,Has D M k v h e.2)->l.length*(h+1)<=(l.flatMap (·.2.y3)).length/\(l.flatMap (·.2.y4)).length+l.length<=2*(l.flatMap (·.2.y3)).length:=by
   intro l;induction l with
   | nil=>intro _;exact⟨oL,oL⟩
   | cons a l ih=>
    intro G;have i:=ih λe u=>G e (zN _ u);have j:=(G a oL).counts;rw[yG,yG,zF,zF,yH,xT];omega
  have:=key E λe u=>(V e u).1;have h9:2*(h+1)<=E.length*(h+1):=HZ _ h8;rw[yH];omega
def qxg(hc:gY k v){key val:Key}{L:fP}(ht:0<=t/\t<8)(hk:key.length=k/\eI key)(hv:val.length=v/\eI val)(hT:fQ D M k v t L P)(hW:M.Wf)(ho:M.Q3=false)(hr:M.Q2.length=24)(hn:P.Nodup)(hL:L.length<=1000000)(hf:2*(dW M t).2.2.toNat+1<=M.Q1.length): ∃M' P',jy D k v t key val (dW M t).2.2.toNat M=(0,M')/\fQ D M' k v t (fJ key val L) P'/\nh D M M' t P P'/\M.Q1.length<=M'.Q1.length+(2*(dW M t).2.2.toNat+1):=by
 have a0:=Cd (k:=k) (v:=v);rcases hT with ⟨e0,rfl,rfl⟩|⟨h,n,p,aL,er,hs⟩;unfold jy;rw[e0,iP rfl];have aM:me k v [(key,val)]:=λx hx=>by rw[zE.1 hx];exact⟨hk.1,hv.1,hk.2,hv.2⟩
 have hN:=BB (k:=k) (v:=v) aM (pairwise_singleton _ _) oL (by have:=hc.Q4;simp;omega);obtain⟨q,M1,e1,st,ag,hl,ah⟩:=EE (D:=D) hW ho hN (λe=>by rw[e] at hf;simp at hf);have hu:=st.has q oL;have hq:=ud st.wf hu;obtain⟨R,e2,rs,C⟩:=st.J5 (a:=q) (b:=1) (c:=1) ht hr ⟨oJ,hq.2⟩ ⟨oM,oM⟩ ⟨oM,oM⟩;refine⟨{ M1 with Q2:=R },[q],?_,.inr ⟨0,1,q,ah,C,?_⟩,rs,by show M.Q1.length<=M1.Q1.length+_;omega⟩;unfold kJ;rw[e1];dsimp only;rw[iN λh=>h rfl,e2];have:=AF hN ag;exact this.Q2;rw[er] at hf;have ap:(((h+1:Nat):Int)).toNat=h+1:=zJ _;dsimp only at hf;rw[ap] at hf;have aq:=hs.counts;dsimp only at aq;obtain⟨g,M1,eg,ok⟩:=quR hc hk hv h M ⟨p,n,L,P⟩ hs hW ho hn (by
  have h9:=hs.load;obtain⟨N,R,_,hN,_⟩:=h9;show n<=1000;cases h with
  | zero=>have:=hN.2.2.2.2.2;dsimp only at this;omega
  | succ h=>obtain⟨_,_,_,_,_,_,_,_,h8,_⟩:=hN;dsimp only at h8;omega) oJ
 have ar:=ok.Q1;have E:=ok.J8;dsimp only at eg E;have u:((fJ key val L).length:Int)=if g.J8 then wrap .u32 ((L.length:Int)+1) else (L.length:Int):=by rw[E];by_cases hm:key∈dQ L;rw[zU λh=>h hm,iN oM,CC hs.sort hm];rw[zZ hm,iP rfl,DQ hm,nD _ oJ];omega
 have au:gE (if g.J8 then wrap .u32 ((L.length:Int)+1) else (L.length:Int)):=by
  rw[<- u];have h1:(fJ key val L).length<=L.length+1:=by by_cases hm:key∈dQ L;rw[CC (show fg L from hs.sort) hm];omega;rw[DQ hm];exact zM _
  exact⟨oJ,oJ⟩
 unfold jy;rw[er,iN (show ¬p=0 from aL)];dsimp only;rw[ap,eg];unfold rN;dsimp only;rw[iN λh=>h rfl];rcases ok.C1 with ⟨aj,n',P',hH,st,_⟩|⟨aj,n1,V,I,n2,J,G,aa,ab,av,aR,aT,aw,ax,aU,aV,st⟩;rw[iN λh=>h aj];have hu:=hH.J4 st.Q3 g.x5 hH.mem;have hq:=ud st.wf hu;obtain⟨R,e2,rs,C⟩:=st.J5 (a:=g.x5) (b:=if g.J8 then wrap .u32 ((L.length:Int)+1) else (L.length:Int)) (c:=((h+1:Nat):Int)) ht hr ⟨oJ,hq.2⟩ au ⟨oJ,oJ⟩;rw[<- u] at C e2;refine⟨{ M1 with Q2:=R },P',?_,.inr ⟨h,n',g.x5,oJ,C,hH.Q2⟩,rs,by show M.Q1.length<=M1.Q1.length+_;omega⟩;rw[<- u];exact e2;rw[iP aj];have a6:=ud st.wf (aa.J4 st.Q3 g.x5 aa.mem);have a7:=ud st.wf (ab.J4 st.Q3 g.x4 ab.mem);have ay:V≠[]:=aa.ne;have az:J≠[]:=ab.ne;have af:fM [([],(⟨g.x5,n1,V,I⟩:ia)),(g.key,⟨g.x4,n2,J,G⟩)]:=
  (fM.wv (A:=[]) (B:=[]) (lo:=[]) (s:=⟨0,0,V++J,[]⟩) (s1:=⟨g.x5,n1,V,I⟩) (s2:=⟨g.x4,n2,J,G⟩) (m:=g.key) (Fv λx _=>AZ _) rfl aR aT ay az)
 have hp:∀e∈[([],(⟨g.x5,n1,V,I⟩:ia)),(g.key,⟨g.x4,n2,J,G⟩)],Has D M1 k v h e.2/\minOf k v h<=e.2.size:=λe U=>by simp only[zG,xW,or_false] at U;rcases U with rfl|rfl;exact⟨aa,aU⟩;exact⟨ab,aV⟩
 have aW:gu k [([],(⟨g.x5,n1,V,I⟩:ia)),(g.key,⟨g.x4,n2,J,G⟩)]:=λe U=>by rw[zE.1 (show e∈[(g.key,(⟨g.x4,n2,J,G⟩:ia))] from U)];exact⟨aw,ax⟩
 have hN:=Am st.wf st.Q3 aW af oL (by have:=hc.inner;simp;omega) λe U=>(hp e U).1;obtain⟨q,M2,e1,ac,ag,a8,ah⟩:=EE (D:=D) st.wf st.Q3 hN (λe=>by rw[e] at ar;simp at ar;omega);have aB:∀e∈[([],(⟨g.x5,n1,V,I⟩:ia)),(g.key,⟨g.x4,n2,J,G⟩)],Has D M2 k v h e.2/\minOf k v h<=e.2.size:=λe U=>
  ⟨(hp e U).1.q8 λx hx=>(ac.rest x ((hp e U).1.J4 st.Q3 x hx) oL).1,(hp e U).2⟩
 have hI:=zh (h:=h) rfl hN ag af aB;have aC:Step D M1 M2 (I++G) (q::(I++G)):=by
  have:=ac.beside (Z:=I++G) st.has (oP st.nodup);exact this.perm oL perm_append_comm
 have aD:=st.trans aC;have hq:=ud ac.wf (ac.has q oL);obtain⟨R,e2,rs,C⟩:=aD.J5 (a:=q) (b:=if g.J8 then wrap .u32 ((L.length:Int)+1) else (L.length:Int)) (c:=((h+1+1:Nat):Int)) ht hr ⟨oJ,hq.2⟩ au ⟨oJ,oJ⟩;have e3:dP k v M1 0 ⟨false,[g.key],[],[g.x5,g.x4]⟩=((q,0),M2):=e1;have aX:wrap .u32 ((((h+1:Nat):Int))+1)=((h+1+1:Nat):Int):=(by rw[nD _ oJ];omega);rw[<- u] at C e2;refine⟨{ M2 with Q2:=R },q::(I++G),?_,.inr ⟨h+1,2,q,ah,C,?_⟩,rs,by show M.Q1.length<=M2.Q1.length+_;omega⟩;unfold kJ;rw[e3,aX,<- u];dsimp only;rw[iN λh=>h rfl,e2];have h9:=hI.Q2 (R:=R);have e5:[([],(⟨g.x5,n1,V,I⟩:ia)),(g.key,⟨g.x4,n2,J,G⟩)].flatMap (·.2.y3)=fJ key val L:=(by rw[<- av];simp);have e6:[([],(⟨g.x5,n1,V,I⟩:ia)),(g.key,⟨g.x4,n2,J,G⟩)].flatMap (·.2.y4)=I++G:=oL;rw[e5,e6] at h9;exact h9
def qxO(hc:gY k v){key:Key}{L:fP}(ht:0<=t/\t<8)(hT:fQ D M k v t L P)(I:key∈dQ L)(hW:M.Wf)(ho:M.Q3=false)(hr:M.Q2.length=24)(hn:P.Nodup)(hL:L.length<=1000000)(hf:2*(dW M t).2.2.toNat+1<=M.Q1.length): ∃M' P',kU D k v t key (dW M t).2.2.toNat M=(0,M')/\fQ D M' k v t (gj key L) P'/\nh D M M' t P P'/\M.Q1.length<=M'.Q1.length+(2*(dW M t).2.2.toNat+1):=by
 rcases hT with ⟨e0,rfl,rfl⟩|⟨h,n,p,a1,er,hs⟩;cases I;rw[er] at hf;have aq:(((h+1:Nat):Int)).toNat=h+1:=zJ _;dsimp only at hf;rw[aq] at hf;have ar:=hs.counts;dsimp only at ar;obtain⟨N,m,M1,R,R',ec,hP,hN,st,aH,a2⟩:=DZ hc h M ⟨p,n,L,P⟩ hs hW ho hn I oJ;dsimp only at ec hP;subst hP;have G:=hs.sort;dsimp only at G;have aV:(gj key L).length+1=L.length:=by
  have hm:=(wu G).2 I;have hi:dO (dQ L) key<L.length:=by
   have:=(zP.1 hm).1;simpa using this
  rw[qnV G I,zF,yK,yB];omega
 have aI:wrap .u32 ((L.length:Int)-1)=((gj key L).length:Int):=(by rw[nD _ oJ];omega);have aj:gE ((gj key L).length:Int):=⟨oJ,oJ⟩;have ak:dU M p:=hs.J4 ho p oL;have au:p∉R:=(nodup_cons.1 hn).1;have J:=(st.rest p ak au).2.1;have U:=(st.rest p ak au).2.2;have al:Step D M M1 (p::R) (p::R'):=st.beside (Z:=[p]) (λx hx=>by rw[zE.1 hx];exact ak) (oP hn);unfold kU;rw[er];dsimp only;rw[aq,ec];unfold mn;dsimp only;rw[iN λh=>h rfl,aI];have ag:∀ {a b c:Int},gE a->gE b->gE c->∃u V,fq M1 p=(0,u)/\eY u t a b c=(0,{ u with Q2:=V })/\nh D M { u with Q2:=V } t (p::R) R'/\dW { u with Q2:=V } t=(a,b,c)/\M1.Q1.length<=u.Q1.length/\∀x∈R',dI D u x=dI D M1 x:=λha hb aJ=>by
  obtain⟨u,e2,C,aa⟩:=qqd (D:=D) st.wf st.Q3 J;have h9:=C.beside (Z:=R') (λx hx=>st.has x hx) (by
   have:=al.nodup;exact (HO p R').nodup_iff.2 this)
  rw[xG] at h9;have h8:=(al.perm (.refl _) (HO p R').symm).trans h9;obtain⟨V,e3,rs,E⟩:=h8.J5 (t:=t) ht hr ha hb aJ;exact⟨u,V,e2,e3,rs,E,aa,λx hx=>(C.rest x (st.has x hx) λhm=>U (by rw[<- zE.1 hm];exact hx)).1⟩
 cases h with
 | zero=>
  have am:=hN;have aK:R=[]:=(vB (show p::R=[p] from hs.1)).2;subst aK;obtain⟨rfl,hm,rfl,a6,aL,av⟩:=hN;dsimp only at hm;have ab:(eh (gj key L)).J6.length=(gj key L).length:=zK _;by_cases hz:(gj key L).length=0;rw[iP ⟨rfl,by rw[ab];exact hz⟩];have aw:gj key L=[]:=HW hz;obtain⟨u,V,e2,e3,rs,E,aa,_⟩:=ag (a:=0) (b:=0) (c:=0) ⟨oM,oM⟩ ⟨oM,oM⟩ ⟨oM,oM⟩;rw[e2];dsimp only;rw[iN λh=>h rfl,e3];exact⟨_,[],rfl,.inl ⟨E,aw,rfl⟩,rs,by show M.Q1.length<=u.Q1.length+_;omega⟩;rw[iN (λh=>hz (by rw[<- ab];exact h.2)),iN λh=>nomatch h.1];obtain⟨q,u,e2,C,H2,aa⟩:=am.store st.wf st.Q3 (show 1<=m by omega) J U oJ;have an:Step D M u [p] [q]:=al.trans C;have hq:=ud C.wf (C.has q oL);obtain⟨V,e3,rs,E⟩:=an.J5 (a:=q) (b:=((gj key L).length:Int)) (c:=((0+1:Nat):Int)) ht hr ⟨oJ,hq.2⟩ aj ⟨oM,oM⟩;refine⟨{ u with Q2:=V },[q],?_,.inr ⟨0,m,q,oJ,E,H2.Q2⟩,rs,by show M.Q1.length<=u.Q1.length+_;omega⟩;unfold kJ;rw[e2];dsimp only;rw[iN λh=>h rfl,e3]
 | succ h=>
  have am:=hN;obtain⟨es,hh,rfl,hm,aN,rfl,hk,aL,av,hp⟩:=hN;have ab:(dN es).J9.length=es.length:=(by show (es.map _).length=_;rw[zK]);have aX:2<=n:=by
   obtain⟨a8,_,g1,_,_,g4,_⟩:=hs;have:=g4.right.x9;dsimp only at g1;omega
  dsimp only at aH;rw[iN λh=>nomatch h.1];by_cases h1:es.length=1;rw[iP ⟨rfl,by rw[ab];exact h1⟩];obtain⟨e,rfl⟩:∃e,es=[e]:=by
   match es,h1 with
   | [e],_=>exact⟨e,rfl⟩
  have ay:(dN [e]).J9.getD 0 0=e.2.x5:=rfl;rw[ay];have he:=(hp e oL).1;have hq:=ud st.wf (he.J4 st.Q3 e.2.x5 he.mem);have aP:wrap .u32 ((((h+1+1:Nat):Int))-1)=((h+1:Nat):Int):=(by rw[nD _ oJ];omega);rw[aP];obtain⟨u,V,e2,e3,rs,E,aa,aQ⟩:=ag (a:=e.2.x5) (b:=((gj key L).length:Int)) (c:=((h+1:Nat):Int)) ⟨oJ,hq.2⟩ aj ⟨oJ,oJ⟩;rw[e2];dsimp only;rw[iN λh=>h rfl,e3];have az:gj key L=e.2.y3:=(by rw[aN];simp);have aA:[e].flatMap (·.2.y4)=e.2.y4:=oL;refine⟨_,_,rfl,.inr ⟨h,e.2.size,e.2.x5,oJ,E,?_⟩,rs,by show M.Q1.length<=u.Q1.length+_;omega⟩;rw[az,aA];exact (he.q8 λx hx=>aQ x (by rw[aA];exact hx)).Q2;rw[iN λh=>h1 (by rw[<- ab];exact h.2)];have h2:2<=m:=oJ;obtain⟨q,u,e2,C,H2,aa⟩:=am.store st.wf st.Q3 (show 2<=m from h2) J U oJ;have an:Step D M u (p::R) ([q]++es.flatMap (·.2.y4)):=Step.kid (Q:=[q]) (hs.J4 ho) hn st C;have hq:=ud C.wf (C.has q oL);obtain⟨V,e3,rs,E⟩:=an.J5 (a:=q) (b:=((gj key L).length:Int)) (c:=((h+1+1:Nat):Int)) ht hr ⟨oJ,hq.2⟩ aj ⟨oJ,oJ⟩;refine⟨{ u with Q2:=V },[q]++es.flatMap (·.2.y4),?_,.inr ⟨h+1,m,q,oJ,E,H2.Q2⟩,rs,by show M.Q1.length<=u.Q1.length+_;omega⟩;unfold kJ;rw[e2];dsimp only;rw[iN λh=>h rfl,e3]
end
section
def qhk{D:dJ}{M:dV}{k v:Nat}{L:fP}(C:fQ D M k v t L P):(dW M t).2.2.toNat<=L.length/\P.length<=2*L.length/\(dW M t).2.1=L.length/\0<=(dW M t).2.2:=by
 rcases C with ⟨u,rfl,rfl⟩|⟨h,n,p,G,u,E⟩;rw[u];exact⟨zM _,zM _,rfl,Int.le_refl _⟩;have:=E.counts;dsimp only at this;rw[u];dsimp only;rw[zJ];omega
def fQ.sort{D:dJ}{M:dV}{k v:Nat}{t:Int}{L:fP}{P:Il}(C:fQ D M k v t L P):fg L/\me k v L:=by rcases C with ⟨_,rfl,_⟩|⟨h,n,p,G,I,u⟩;exact⟨.nil,λx E=>nomatch E⟩;exact⟨u.sort,u.vU⟩
def qAw(h:AC t):∃k v:Nat,rz t=((k:Int),(v:Int))/\gY k v/\1<=k/\k<=24/\1<=v/\v<=108:=by obtain⟨u,C⟩:=h;have:t=0\/t=1\/t=2\/t=3\/t=4\/t=5\/t=6\/t=7:=oJ;rcases this with rfl|rfl|rfl|rfl|rfl|rfl|rfl|rfl;exact⟨16,88,rfl,⟨oM,oM⟩,oM,oM,oM,oM⟩;exact⟨16,108,rfl,⟨oM,oM⟩,oM,oM,oM,oM⟩;exact⟨16,1,rfl,⟨oM,oM⟩,oM,oM,oM,oM⟩;exact⟨16,16,rfl,⟨oM,oM⟩,oM,oM,oM,oM⟩;exact⟨24,16,rfl,⟨oM,oM⟩,oM,oM,oM,oM⟩;exact⟨24,16,rfl,⟨oM,oM⟩,oM,oM,oM,oM⟩;exact⟨24,65,rfl,⟨oM,oM⟩,oM,oM,oM,oM⟩;exact⟨1,8,rfl,⟨oM,oM⟩,oM,oM,oM,oM⟩
structure xn (D:dJ) (M:dV) (k v c:Nat) (t:Int) (L:fP) (P:Il):Prop where
 J2:fQ D M k v t L P
 wf:M.Wf
 Q3:M.Q3=false
 len:M.Q2.length=24
 nodup:P.Nodup
 Q9:M.z9
 many:M.Q9.length=c
 use:∀ x,dU M x->x∈P
section
variable {D:dJ} {M M':dV} {k v c:Nat} {t:Int} {L L':fP} {P P':Il}
end
def qq3{D:dJ}{n k v:Nat}(ht:0<=t/\t<8)(h8:8<=n)(h4:n<=4096)(R:(ki n).Wf):xn D (ki n) k v ((n-2)-eK (n-2)) t [] []:=by
 have I:(ki n).Q2=zs 24:=rfl;have u:(zs 24).length=24:=(by simp[zs]);have E:∀i,(zs 24).getD i 0=0:=λi=>by rw[yQ];unfold zs;rw[List.getElem?_replicate];split<;>rfl
 refine⟨.inl ⟨?_,rfl,rfl⟩,R,rfl,by rw[I];exact u,.nil,ql6 _ _ _ _ _,?_,λx C=>?_⟩;unfold dW;split;rfl;rw[I,E,E,E];show (nu n).length=_;unfold nu;rw[yB,yv];rcases C with C|C;cases C;obtain⟨U,J,V,G,h5,_⟩:=rC.1 C;have e:(ki n).j9.2.getD 0 0=n:=(by show wrap .u32 (n:Int)=_;exact nD _ oJ);rw[e] at J;have h:=yj.2 ⟨U,J⟩;rw[<- xD (eK (fy n).length) (fy n)] at h;rcases zD.1 h with h|h;exact absurd h V;exact absurd h G
end
section
section
variable {D:dJ} {M M':dV} {k v c:Nat} {t:Int} {L L':fP} {P P':Il}
def Has.qT(J:4<=(dY k v).1):∀ {h:Nat} {s:ia},Has D M k v h s->minOf k v h<=s.size->s.y4.length+1<=s.y3.length
 | 0,s,E,G=>by have I:(dY k v).1 / 2<=s.size:=G;rw[E.2.1] at I;rw[E.1,xL];omega
 | h+1,s,⟨R,h0,I,U,V,u,h5,h6,h7⟩,G=>by
  have h8:=u.right.x9.1;rw[U,V];have key:∀l:List gJ,(∀e∈l,Has D M k v h e.2/\minOf k v h<=e.2.size)->(l.flatMap (·.2.y4)).length+l.length<=(l.flatMap (·.2.y3)).length:=by
   intro l;induction l with
   | nil=>intro _;simp
   | cons a l ih=>
    intro C;have i:=ih λe he=>C e (zN _ he);have j:=Has.qT J (C a oL).1 (C a oL).2;rw[yG,yG,zF,zF,yH];omega
  have:=key R h7;rw[yH];omega
def Has.cQ(G:4<=(dY k v).1){h:Nat}{s:ia}(u:Has D M k v h s):s.y4.length<=s.y3.length:=by
 cases h with
 | zero=>
  have:=length_pos_iff.2 u.ne;rw[u.1,xL];omega
 | succ h=>
  obtain⟨I,h0,h1,J,R,C,h5,h6,U⟩:=u;have h8:=C.right.x9.1;rw[J,R];have key:∀l:List gJ,(∀e∈l,Has D M k v h e.2/\minOf k v h<=e.2.size)->(l.flatMap (·.2.y4)).length+l.length<=(l.flatMap (·.2.y3)).length:=by
   intro l;induction l with
   | nil=>intro _;simp
   | cons a l ih=>
    intro E;have i:=ih λe V=>E e (zN _ V);have j:=Has.qT G (E a oL).1 (E a oL).2;rw[yG,yG,zF,zF,yH];omega
  have:=key I U;rw[yH];omega
def fQ.cQ(u:4<=(dY k v).1)(C:fQ D M k v t L P):P.length<=L.length:=by rcases C with ⟨E,rfl,rfl⟩|⟨h,n,p,I,E,G⟩;exact zM _;exact G.cQ u
end
end
section
section
variable {D D':dJ} {M M':dV} {k v:Nat} {t:Int} {L:fP} {P:Il}
def Has.cC:∀ {h:Nat} {s:ia},Has D M k v h s->(∀x∈s.y4,dI D' M' x=dI D M x)->Has D' M' k v h s
 | 0,s,⟨C,G,u,I⟩,E=>⟨C,G,u,by rw[E s.x5 (by rw[C];simp)];exact I⟩
 | h+1,s,⟨U,V,C,G,u,I,h5,h6,R⟩,E=>⟨U,V,C,G,u,I,by rw[E s.x5 (by rw[u];simp)];exact h5,h6,λe J=>⟨(R e J).1.cC λx hx=>E x (by rw[u];exact zN _ (yJ.2 ⟨e,J,hx⟩)),(R e J).2⟩⟩
structure Calm (D:dJ) (M:dV) (b q:Nat):Prop where
 quiet:eP D
 Q7:D.Q7=[]
 size:D.size=b
 blocks:M.j9.2.getD 0 0=b
 b8:8<=b
 wf:M.Wf
 Q9:M.z9
 Q3:M.Q3=false
 len:M.Q2.length=24
 seq:0<=M.j9.1/\M.j9.1<=q
 x6:0<=M.x6/\M.x6<=q
structure Kept (D:dJ) (M:dV) (D':dJ) (M':dV):Prop where
 Q2:M'.Q2=M.Q2
 use:∀ x,dU M' x↔dU M x
 read:∀ x,dU M x->dI D' M' x=dI D M x
def fQ.kept(h:fQ D M k v t L P)(E:M.Q3=false)(u:Kept D M D' M'):fQ D' M' k v t L P:=by have e:dW M' t=dW M t:=(by unfold dW;rw[u.Q2]);rcases h with ⟨G,I,J⟩|⟨h,n,p,R,U,C⟩;exact .inl ⟨e.trans G,I,J⟩;exact .inr ⟨h,n,p,R,e.trans U,C.cC λx V=>u.read x (C.J4 E x V)⟩
def Calm.count{b q:Nat}(h:Calm D M b q)(E:∀x,dU M x->x∈P):b-2<=M.Q1.length+(M.J7.length+M.Q5.length)+P.length:=by
 have:(fy b).length<=(M.Q1++(M.J7++(M.Q5++P))).length:=by refine List.Nodup.length_le_of_subset (wo (Dl b)) λx C=>?_;have C:=yj.1 C;by_cases hm:x∈M.all;simp only[dV.all,zD] at hm⊢;rcases hm with u|u|u|u;exact .inl u;exact .inr (.inl u);exact .inr (.inr (.inl u));exact .inr (.inr (.inr (E x (.inl u))));simp only[zD];exact .inr (.inr (.inr (E x (.inr (xo.2 ⟨by rw[h.blocks];exact C,hm⟩)))))
 rw[yv,zF,zF,zF] at this;omega
def qok{a b:Nat}(h:a<=b):eK a<=eK b:=by unfold eK;split;exact yW _;rw[iN];have:(a-1) / 124<=(b-1) / 124:=Nat.div_le_div_right oJ;omega
def qr3{b q:Nat}(h:Calm D M b q)(hq:q<=1000000)(hu:∀x,dU M x->x∈P)(hf:eK b<=M.Q1.length): ∃D' M',gC D M=((D',M'),0)/\Calm D' M' b (q+1)/\Kept D M D' M'/\(M'=M\/b-2<=M'.Q9.length+P.length+eK b):=by
 have aa:M.Q1.length+(M.J7++M.Q5).length<=b:=by
  have:(M.Q1++(M.J7++M.Q5)).length<=(fy b).length:=by
   refine List.Nodup.length_le_of_subset ?_ λx hx=>?_;have hn:=h.wf.nodup;refine hn.sublist ((List.Sublist.refl _).append ?_);rw[<- zV];exact sublist_append_left _ _;have:=h.wf.range x (by simp only[zD] at hx⊢;rcases hx with I|I|I;exact .inl I;exact .inr (.inl I);exact .inr (.inr (.inl I)));rw[h.blocks] at this;exact yj.2 this
  rw[yv,zF] at this;omega
 have hk:=qok aa;have ai:=h.count hu;unfold gC;rw[iN (by rw[h.Q3];decide)];split;exact⟨D,M,rfl,⟨h.quiet,h.Q7,h.size,h.blocks,h.b8,h.wf,h.Q9,h.Q3,h.len,by have:=h.seq;omega,by have:=h.x6;omega⟩,⟨rfl,λ_=>.rfl,λ_ _=>rfl⟩,.inl rfl⟩;cases G:jv M with
 | none=>
  unfold jv at G;rw[iN] at G;cases G
 | some y=>
  obtain⟨y4,Q9⟩:=y;dsimp only;have ab:=h.seq;have V:=qy1 (y4:=y4) (Q9:=Q9) h.wf G h.len ⟨ab.1,oJ⟩;have U:M.j9.2.getD 0 0=D.size:=(by rw[h.blocks,h.size]);have J:=h.quiet.uB h.wf U (by have:=h.size;have:=h.b8;omega) G V.1;rw[iN (by rw[J.1];simp)];have hv:=qtG (qug h.Q7) h.quiet.down h.wf G V.1 J.1;have ad:=J.2.1;have hz:=J.2.2;clear J;generalize (gF D M.J8 y4 Q9 (fO M y4 Q9)).1=D' at hv ad hz⊢;have C:∀x,x∈(ij (fO M y4 Q9) y4 Q9 (M.x6+1) false Q9).all↔x∈M.Q1\/x∈M.J7\/x∈M.Q5:=λx=>by rw[<- Hj G x];show x∈Q9++([]++(y4++[]))↔_;simp only[xH,xG,zD];exact Or.comm
  have ae:∀x,gc (ij (fO M y4 Q9) y4 Q9 (M.x6+1) false Q9) x=true↔dU M x:=λx=>by
   rw[xo,C];show (2<=x/\x<M.j9.2.getD 0 0)/\_↔_;unfold dU;rw[xo];constructor;rintro⟨I,h2⟩;by_cases hm:x∈M.J8.map (·.1);exact .inl hm;refine .inr ⟨I,λu=>?_⟩;simp only[dV.all,zD] at u;rcases u with u|u|u|u;exact h2 (.inl u);exact h2 (.inr (.inl u));exact h2 (.inr (.inr u));exact hm u;rintro (I|⟨I,h2⟩);refine⟨h.wf.J6 x I,λu=>?_⟩;have:=qoA h.wf G x I;rcases (Hj G x).2 u with h3|h3;exact this.1 h3;exact this.2 h3;refine⟨I,λu=>h2 ?_⟩;simp only[dV.all,zD];rcases u with u|u|u;exact .inl u;exact .inr (.inl u);exact .inr (.inr (.inl u))
  refine⟨D',ij (fO M y4 Q9) y4 Q9 (M.x6+1) false Q9,rfl,⟨ad,hv.Q7,hz.trans h.size,h.blocks,h.b8,quM h.wf G rfl (GZ h.wf G),ql6 _ _ _ _ _,rfl,h.len,?_,?_⟩,⟨rfl,λx=>?_,λx hx=>?_⟩,.inr ?_⟩;show 0<=(fO M y4 Q9).1/\(fO M y4 Q9).1<=_;rw[V.2];omega;show 0<=M.x6+1/\M.x6+1<=_;have:=h.x6;omega;rw[<- ae x];exact⟨λh=>h.resolve_left (by simp[ij]),.inr⟩;have ag:=(ae x).2 hx;have al:=(xo.1 ag).1;have R:=(xo.1 ag).2;have E:2<=x/\x<M.j9.2.getD 0 0:=al;rw[U] at E;rw[qqV rfl hv.down ⟨E.1,by rw[hz];exact E.2⟩ (by rw[hz];exact U) R];by_cases hm:x∈M.J8.map (·.1);obtain⟨e,he,rfl⟩:=mem_map.1 hm;rw[qv2 h.Q3 h.wf he,qtH h.wf hv.J8 he];have am:x∉y4:=λan=>R ((C x).2 ((Hj G x).1 (.inl an)));rw[hv.rest x oJ hm am oJ,qqV h.Q3 h.quiet.down E U λu=>?_];simp only[dV.all,zD] at u;rcases u with u|u|u|u;exact R ((C x).2 (.inl u));exact R ((C x).2 (.inr (.inl u)));exact R ((C x).2 (.inr (.inr u)));exact hm u;show b-2<=Q9.length+P.length+eK b;obtain⟨k,ar,au,_,e⟩:=Di G;have av:Q9.length=(M.J7.length+M.Q5.length)+(M.Q1.length-k):=by rw[e,(Gl (yL.1 (h.wf.pL k)).2.1).length_eq,zF,zF,yB]
  omega
end
end
end
section
open Go Go.Pt List
open Go.IntKind (wrap)
attribute [local irreducible] ld dL gZ mP i3 fc st new idx i4 jg fB jk iO lS gB nn call dZ inv run eW iC join loop held ext jU eH mv mp mA IntKind.wrap
variable {F':Ik} {K:Int->WP} {body:Il}
structure TW (dbk pb:Nat) (FD:Ik) (D:dJ) (j:Nat) (w:Ic) (Y F:Ik) (M:dV):Prop where
 cN:eQ w dbk FD D
 lim:lK D j
 x8:eB w (FD++HG::Y) pb (pr dbk M) F M
 hv:Hv w
 wf:M.Wf
 sep:∀ b∈Y,b∉FD/\b≠HG
abbrev Zo (FD Y F:Ik):Ik:=(FD++HG::Y)++F
section
variable {dbk pb j:Nat} {FD Y Y' F:Ik} {D:dJ} {w w':Ic} {M:dV}
def TW.q7(h:TW dbk pb FD D j w Y F M)(f:Fr [] w w'):TW dbk pb FD D j w' Y F M:=⟨h.cN.q7 f,h.lim,h.x8.q7 f,h.hv.q7 f,h.wf,h.sep⟩
def TW.qw(h:TW dbk pb FD D j w Y F M):∀b∈Y,b<w.heap.size:=λb u=>h.x8.nH b (by simp[u])
def TW.sP(h:TW dbk pb FD D j w Y F M):∀b∈Zo FD Y F,b<w.heap.size:=λb u=>(zD.1 u).elim (h.x8.nH b) (h.x8.lt b)
def TW.yf(h:TW dbk pb FD D j w Y F M):∀b∈Y,b∉F:=λb u=>h.x8.sep b (by simp[u])
def TW.cM(h:TW dbk pb FD D j w Y F M)(f:Fr Y w w')(J:∀b∈Y',b<w'.heap.size)(G:∀b∈Y',b∈Y\/w.heap.size<=b):TW dbk pb FD D j w' Y' F M where
 cN:=h.cN.q8 f λb u E=>(h.sep b E).1 u
 lim:=h.lim
 x8:=h.x8.pd (f.mono λb u _=>by simp[u]) (λb u=>by
  rcases zD.1 u with u|u;exact yC (h.cN.lt b u) f.size;rcases zG.1 u with rfl|u;exact yC h.hv.lt f.size;exact J b u) λb u=>by
  rcases zD.1 u with u|u;exact .inl (zH _ u);rcases zG.1 u with rfl|u;exact .inl oL;rcases G b u with C|C;exact .inl (by simp[C]);exact .inr C
 hv:=h.hv.q8 f λE=>(h.sep _ E).2 rfl
 wf:=h.wf
 sep:=λb u=>by rcases G b u with C|C;exact h.sep b C;exact⟨λI=>by have:=h.cN.lt b I;omega,λI=>by have:=h.hv.lt;omega⟩
def TW.y0(h:TW dbk pb FD D j w Y F M)(C:∀b∈Y',b∈Y):TW dbk pb FD D j w Y' F M:=h.cM (.refl _ _) (λb u=>h.qw b (C b u)) λb u=>.inl (C b u)
def TW.Bh{B:Ik}{w0:Ic}(h:TW dbk pb FD D j w0 Y F M)(f:Fr Y w0 w)(C:∀b∈B,w0.heap.size<=b/\b<w.heap.size):TW dbk pb FD D j w (B++Y) F M:=
 h.cM f (λb u=>(zD.1 u).elim (λu=>(C b u).2) λu=>yC (h.qw b u) f.size) λb u=>(zD.1 u).elim (λu=>.inr (C b u).1) .inl
def qxr(M:dV)(kd:Int)(b:Il):(fZ M kd b).2.Q3=M.Q3:=by unfold fZ;split;rfl;split;rfl;split<;>rfl
def qy9(M:dV)(n kd:Int)(b:Il):(jl M n kd b).2.Q3=M.Q3:=by unfold jl;split;rfl;split;rfl;split<;>rfl
def qwU(M:dV)(n:Int):(fq M n).2.Q3=M.Q3:=by unfold fq;split;rfl;split;rfl;split<;>rfl
def qxR(M:dV)(t a b c:Int):(eY M t a b c).2.Q3=M.Q3:=by unfold eY;split;rfl;split<;>rfl
def qwR{M M':dV}(h:M'.Q3=M.Q3):pr dbk M'=pr dbk M:=by unfold pr;rw[h]
def TW.next{M':dV}(h:TW dbk pb FD D j w Y F M)(u:M'.Q3=M.Q3)(C:M'.Wf)(E:eB w' (FD++HG::Y) pb (pr dbk M) F' M')(f:Fr F w w'):TW dbk pb FD D j w' Y F' M' where
 cN:=h.cN.q8 f λb G=>h.x8.sep b (zH _ G)
 lim:=h.lim
 x8:=by rw[qwR u];exact E
 hv:=h.hv.q8 f (h.x8.sep HG oL)
 wf:=C
 sep:=h.sep
def TW.make{kind:Int}{s:Sl}{K:Io->WP}(h:TW dbk pb FD D j w Y F M)(C:en (Zo FD Y F) w s body)(E:body.length<=100000)(G:0<=kind/\kind<256)(I:eI body)(J:∀F' w',TW dbk pb FD D j w' Y F' (fZ M kind body).2->Fr F w w'->(∀b∈F',b∈F\/w.heap.size<=b)->K (fZ M kind body).1 w'): cW 164 [dG pb,.b kind,s.v] du w K:=
 qye h.x8 C E (by have:=h.wf.all;omega) λF' w' R f U=>J F' w' (h.next (qxr M kind body) (quI h.wf G I).1 R f) f U
def TW.put{n kind:Int}{s:Sl}(h:TW dbk pb FD D j w Y F M)(C:en (Zo FD Y F) w s body)(E:body.length<=100000)(G:0<=kind/\kind<256)(I:eI body)(J:∀w',TW dbk pb FD D j w' Y F (jl M n kind body).2->Fr F w w'->K (jl M n kind body).1 w'): cW 163 [dG pb,.u n,.b kind,s.v] di w K:=
 qzH h.x8 C E λw' R f=>J w' (h.next (qy9 M n kind body) (qxI h.wf G I).1 R f) f
def TW.drop{n:Int}(h:TW dbk pb FD D j w Y F M)(C:∀F' w',TW dbk pb FD D j w' Y F' (fq M n).2->Fr F w w'->(∀b∈F',b∈F\/w.heap.size<=b)->K (fq M n).1 w'): cW 137 [dG pb,.u n] di w K:=
 qyc h.x8 (by have:=h.wf.all;omega) (by have:=h.wf.all;omega) (by have:=h.wf.all;omega) λF' w' E f G=>C F' w' (h.next (qwU M n) (qup h.wf) E f) f G
def TW.read{n:Int}{K:Ix->WP}(h:TW dbk pb FD D j w Y F M)(C:gE n)(E:∀s w',(∀G:Ik,(∀b∈G,b<w.heap.size)->en G w' s (dI D M n).2.1)->Fr [] w w'->K ((dI D M n).1,s,(dI D M n).2.2) w'): cW 117 [dG pb,.u n] dq w K:=
 qwu h.cN h.lim h.x8 h.hv C (by have:=h.wf.all;omega) (λe I=>zL (h.wf.body e I).2.1 oM) E
def TW.J5{t:Int}{K:Iw->WP}(h:TW dbk pb FD D j w Y F M)(C:∀w',Fr [] w w'->K (dW M t) w'): cW 46 [dG pb,.i t] [.agg [.u,.u,.u]] w K:=qyh h.x8 C
def qwd{t a b c:Int}(u:M.Wf)(C:gE a)(E:gE b)(G:gE c):(eY M t a b c).2.Wf:=by unfold eY;split;exact u;split;exact u;refine qtm u λx h=>?_;simp only[zD,zG,xW,or_false] at h;rcases h with (h|rfl|rfl|rfl)|h;exact u.Q2 x (yU h);exact C;exact E;exact G;exact u.Q2 x (yT h)
def TW.qe{t a b c:Int}(h:TW dbk pb FD D j w Y F M)(C:gE a)(E:gE b)(G:gE c)(I:∀w',TW dbk pb FD D j w' Y F (eY M t a b c).2->Fr F w w'->K (eY M t a b c).1 w'): cW 131 [dG pb,.i t,.agg #[.u a,.u b,.u c]] di w K:=
 qtt h.x8 λw' J f=>I w' (h.next (qxR M t a b c) (qwd h.wf C E G) J f) f
def TW.room(h:TW dbk pb FD D j w Y F M)(u:K M.Q1.length w):cW 129 [dG pb] di w K:=qyg h.x8 u
def TW.uS(h:∀b∈F',b∈F\/w.heap.size<=b):∀b∈Zo FD Y F',b∈Zo FD Y F\/w.heap.size<=b:=yk h
def Cq(h:M.Wf)(t:Int):gE (dW M t).1/\gE (dW M t).2.1/\gE (dW M t).2.2:=by
 have key:∀n,gE (M.Q2.getD n 0):=λn=>by
  rw[yQ];cases e:M.Q2[n]? with
  | none=>exact⟨oM,oM⟩
  | some x=>exact h.Q2 x (yE e)
 unfold dW;split;exact⟨⟨oM,oM⟩,⟨oM,oM⟩,⟨oM,oM⟩⟩;exact⟨key _,key _,key _⟩
end
section
def qsC{w:Ic}{mb:Nat}{g:List (Int×Ie)}{K:Option Nat->WP}(h:iG i8 w mb g)(J:∀C w',C=w.heap.size->iG i8 w' C g->Fr [] w w'->K (some C) w'): cW 128 [.map (some mb)] [.one .map] w K:=by
 refine qrj<|HM rfl ?_;obtain⟨I,c,R,U,V,hc⟩:=h;have G:(Extern.MapsClone.clone #[.iface tN (.map (some mb))]).run prog w=.ok (.iface tN (.map (some w.heap.size))) (w.alloc (.map I c)):=by
  have e:Extern.MapsClone.clone #[.iface tN (.map (some mb))]=(getObj mb >>=λo=>match o with
    | .map u E=>(newObj (.map u E) >>=λn=>pure (.iface tN (.map (some n))))
    | _=>stuck "maps.clone: a map expected"):=rfl
  rw[e];simp[H7 R,Result.andThen,go_sem]
 refine A6 (e:=Extern.MapsClone.clone) Tryz.func161 (by kernel_rfl) (by kernel_rfl) (by kernel_rfl) (by kernel_rfl) (.iface tN (.map (some w.heap.size))) (w.alloc (.map I c)) G<|qu (ts:=[gU.one .map]) (some w.heap.size) ?_ ?_;simp[Instr.typeAssert,run_underlying (show prog.underlying tN=some (.map 63 247) by kernel_rfl),go_sem,Result.andThen];rfl;exact J _ _ rfl ⟨I,c,by rw[vL,iP rfl],U,V,hc⟩ ((Fr.refl [] w).alloc _)
def qrg{P:Ig}{t d:If}{a:Addr}(D:Nat)(h:P.underlying t=some (.pointer d))(hi:(P.info? d).isSome=true)(u:eM P d≠0)(w:Ic): (Op.equalIn (D+1) t (.pointer (some a)) (.pointer (some a))).run P w=.ok true w:=by simp[Op.equalIn,run_underlying h,qg hi,sameAddr,u]
def qAm{P:Ig}{t d:If}{x y:Operand}{a:Addr}{w:Ic}{K:Bool->Prop}(u:P.underlying t=some (.pointer d))(hi:(P.info? d).isSome=true)(h:Nat.beq (eM P d) 0=false)(k:K false): eW [gU.one Cell.bool] (λw'=>(do eqGuard .neq t x y (.pointer (some a)) (.pointer (some a));binOp .neq t (.pointer (some a)) (.pointer (some a)):Sem Ie).run P w') w K:=by have C:=qrg (P:=P) (a:=a) 9999 u hi (λe=>by rw[e] at h;cases h) w;have E:(binOp .neq t (.pointer (some a)) (.pointer (some a))).run P w=.ok (.bool false) w:=td (P:=P) true C oL oL oL oL;unfold eW;refine⟨false,?_,k⟩;simp[eqGuard,E];rfl
section
variable {w:Ic} {S:Ik}
structure k8 (w:Ic) (S:Ik) (fb defb mb:Nat) (F1 F2:Ik) (fs:List (Int×jR)) (q:dV):Prop where
 Q1:fY w fb F1 q.Q1
 J7:fY w defb F2 q.J7
 map:iG i8 w mb (fs.map λe=>(e.1,kX e.2))
 J8:q.J8=fs.map λe=>(e.1,e.2.1,e.2.2.2)
 y7:∀ e∈fs,en S w e.2.2.1 e.2.2.2
 out:∀ b∈mb::(F1++F2),b∉S
 J3:mb∉F1/\mb∉F2/\∀ b∈F1,b∉F2
 Q2:q.Q2.length=24
def k8.lt{fb defb mb:Nat}{F1 F2:Ik}{C:List (Int×jR)}{q:dV}(h:k8 w S fb defb mb F1 F2 C q):∀b∈mb::(F1++F2),b<w.heap.size:=λb u=>by rcases zG.1 u with rfl|u;exact h.map.lt;exact (zD.1 u).elim (h.Q1.lt b) (h.J7.lt b)
def k8.q8{fb defb mb:Nat}{F1 F2:Ik}{C:List (Int×jR)}{q:dV}{S':Ik}{w':Ic}(h:k8 w S fb defb mb F1 F2 C q)(f:Fr S w w')(E:∀b∈S',b∈S\/w.heap.size<=b):k8 w' S' fb defb mb F1 F2 C q where
 Q1:=h.Q1.q8 f λb u=>h.out b (by simp[u])
 J7:=h.J7.q8 f λb u=>h.out b (by simp[u])
 map:=h.map.q8 f (h.out mb oL)
 J8:=h.J8
 y7:=λe G=>(h.y7 e G).q8 f E
 out:=λb u I=>(E b I).elim (h.out b u) λJ=>by have:=h.lt b u;omega
 J3:=h.J3
 Q2:=h.Q2
def qrb(x y:Option Addr)(m:Option Nat)(Q2:Il):(e9 x y m Q2).all Value.oneCell'=true:=by rw[HX];intro v h;simp only[e9,zD,zG,mem_map,xW,or_false] at h;rcases h with (rfl|rfl|rfl)|⟨x,_,rfl⟩<;>rfl
def qBf:((prog.info? DI).bind (·.zero)).map (λz=>z.cells.toList)=some (e9 none none none (zs 24)):=by kernel_rfl
def qp2{fb defb mb:Nat}{F1 F2:Ik}{fs:List (Int×jR)}{q:dV}{K:List Ie->WP}(h:k8 w S fb defb mb F1 F2 fs q)(ai:q.Q1.length<=1000000)(aj:q.J7.length<=1000000)(hk:∀E u G U V w',k8 w' S E u G U V fs q->Fr [] w w'->(∀b∈G::(U++V),w.heap.size<=b)->K (e9 (pW E) (pW u) (some G) q.Q2) w')(hS:∀b∈S,b<w.heap.size): cW 93 [.agg (e9 (pW fb) (pW defb) (some mb) q.Q2).toArray] [.jX] w K:=by
 refine qi5 ?_;have hr:=h.Q2;refine oB (oE [] w) λr1 w1 e1 f1 ak=>oI ak qBf λr3 w2 e3 al=>?_;have R:=al.drew;generalize World.drew w2=wd at R;refine Ii R 1 rfl (pW fb)<|Ii R 1 rfl (pW defb)<|Ii R 1 rfl (some mb)<|qt3 (h.Q1.q8 R.fr λ_ _ h=>nomatch h) ai λE U w4 p1 f4 n1=>?_;have aa:=R.q7 f4;refine ky (aa.cell 1) (aa.cell 1)<|qt3 (h.J7.q8 (R.fr.trans f4) λ_ _ h=>nomatch h) aj λu V w5 p2 f5 n2=>?_;have ab:=aa.q7 f5;refine ik (ab.cell 1)<|qsC (h.map.q8 ab.fr λh=>nomatch h) λG w6 em p3 f6=>?_;have aq:=ab.q7 f6;refine oG aq 1 rfl (e9 (pW E) (pW defb) (some mb) q.Q2).toArray rfl rfl (by rw[size_toArray,py hr];exact zO rfl) λw7 ar f7=>oG ar 1 rfl (e9 (pW E) (pW u) (some mb) q.Q2).toArray rfl rfl (by rw[size_toArray,py hr];exact zO rfl) λw8 au f8=>oG au 1 rfl (e9 (pW E) (pW u) (some G) q.Q2).toArray rfl rfl (by rw[size_toArray,py hr];exact zO rfl) λw9 af f9=>?_;have hw:=py (x:=pW E) (y:=pW u) (m:=some G) hr;refine nP (af.at (i:=1) rfl) (e9 (pW E) (pW u) (some G) q.Q2) hw (by rw[xE,zS (Nat.le_of_eq hw)])<|m8 hw<|oG af 0 rfl (e9 (pW E) (pW u) (some G) q.Q2).toArray (k7 (by rw[size_toArray,hw,py (ot 24)])) (qrb _ _ _ _) (by rw[size_toArray,hw,py (ot 24)];exact zO rfl) λag J av=>nP (J.at (i:=0) rfl) (e9 (pW E) (pW u) (some G) q.Q2) hw (by rw[xE,zS (Nat.le_of_eq hw)]) ?_;have aw:=eX (R.at (i:=1) rfl);have ax:=eX (R.at (i:=0) rfl);have g7:Fr [r1,r3] w6 ag:=(((f7.mono λb C _=>by rw[zE.1 C];simp).trans (f8.mono λb C _=>by rw[zE.1 C];simp)).trans (f9.mono λb C _=>by rw[zE.1 C];simp)).trans (av.mono λb C _=>by rw[zE.1 C];simp);have s4:=f4.size;have s5:=f5.size;have s0:=R.fr.size;have ad:∀b,b∈[r1,r3]->b<wd.heap.size:=λb C=>by rcases zG.1 C with rfl|C;exact aw;rw[zE.1 C];exact ax
 have l1:=p1.lt;have l2:=p2.lt;refine hk E u G U V ag ?_ J.fr λb C=>?_;refine⟨(p1.q8 (f5.trans f6) λ_ _ h=>nomatch h).q8 g7 (λb C I=>by have:=n1 b C;have:=ad b I;omega),(p2.q8 f6 λ_ _ h=>nomatch h).q8 g7 (λb C I=>by have:=n2 b C;have:=ad b I;omega),p3.q8 g7 (λI=>by have:=ad _ I;omega),h.J8,λe he=>?_,λb C I=>?_,⟨λI=>by have:=l1 _ I;omega,λI=>by have:=l2 _ I;omega,λb C I=>by have:=l1 b C;have:=n2 b I;omega⟩,hr⟩;exact (h.y7 e he).q8 (J.fr.mono λb C=>nomatch C) λb C=>.inl C;have:=hS b I;rcases zG.1 C with rfl|C;omega;rcases zD.1 C with C|C;have:=n1 b C;omega;have:=n2 b C;omega;rcases zG.1 C with rfl|C;omega;rcases zD.1 C with C|C;have:=n1 b C;omega;have:=n2 b C;omega
end
abbrev Co:If:=205
def tG (pb:Nat) (x6:Int) (wk:List Ie):List Ie:=[dG pb,.i x6]++wk
def nS (w:Ic) (S:Ik) (kb pb:Nat) (q:dV):Prop:=
 ∃fb defb mb h F2 u,w.heap[kb]?=some (.c (tG pb q.x6 (e9 (pW fb) (pW defb) (some mb) q.Q2)).toArray Co)/\k8 w S fb defb mb h F2 u q/\kb∉S
def nS.q8{w w':Ic}{S S':Ik}{kb pb:Nat}{q:dV}(h:nS w S kb pb q)(f:Fr S w w')(C:∀b∈S',b∈S\/w.heap.size<=b):nS w' S' kb pb q:=by obtain⟨fb,defb,mb,G,F2,I,u,J,E⟩:=h;exact⟨fb,defb,mb,G,F2,I,by rw[f.block kb (eX u) E];exact u,J.q8 f C,λR=>(C kb R).elim E λU=>by have:=eX u;omega⟩
def qBq:((prog.info? Co).bind (·.zero)).map (λz=>z.cells.toList)=some ([Value.pointer none,.i 0]++e9 none none none (zs 24)):=by kernel_rfl
def qvN{p:Option Addr}{t:Int}{x y:Option Addr}{m:Option Nat}{Q2:Il}(E:Q2.length=24)(w:Ic): (Instr.build Co #[(0,.pointer p),(1,.i t),(2,.agg (e9 x y m Q2).toArray)]).run prog w=.ok (.agg ([Value.pointer p,.i t]++e9 x y m Q2).toArray) w:=by
 obtain⟨z,G,h⟩:=yS.1 qBq;have u:z.cells=([Value.pointer none,.i 0]++e9 none none none (zs 24)).toArray:=(by rw[<- h]);have C:=py (x:=x) (y:=y) (m:=m) E;refine xv (parts:=[(0,.pointer p),(1,.i t),(2,.agg (e9 x y m Q2).toArray)]) (offs:=#[(0,1),(1,1),(2,27)]) G oK (λw=>oK) ?_ w;have I:(Value.agg (e9 x y m Q2).toArray).cells.size=27:=(by show (e9 x y m Q2).toArray.size=27;rw[size_toArray,C]);rw[u,qo (o:=0) (s:=1) rfl rfl (zO rfl),qo (o:=1) (s:=1) rfl rfl (zO rfl),qo (o:=2) (s:=27) rfl I (zO rfl)];refine H9 some ?_;have:=se (A:=[Value.pointer p,.i t]) (X:=e9 none none none (zs 24)) (Z:=[]) (Y:=e9 x y m Q2) (by rw[C,py (ot 24)]);rw[xG,xG] at this;exact this
section
variable {w:Ic} {X:Ik} {pb:Nat} {db:Option Addr} {F:Ik} {M:dV}
def qy6{j9:nI}{sl sn:Sl}{x6:Int}{Q3:Bool}{fb defb mb:Nat}{Q2:Il}(u:j9.2.length=27)(C:Q2.length=24):((fw db j9 sl sn x6 Q3 fb defb mb Q2).toList.drop 33).take 27=e9 (pW fb) (pW defb) (some mb) Q2:=by have h:((Value.pointer db::eS j9.1 j9.2)++([sl.v,sn.v,.i x6,.bool Q3]:List Ie)).length=33:=(by rw[zF,rL u];rfl);rw[<- Ai];show (((Value.pointer db::eS j9.1 j9.2)++([sl.v,sn.v,.i x6,.bool Q3]:List Ie)++e9 (pW fb) (pW defb) (some mb) Q2).drop 33).take 27=_;rw[<- h,drop_left,zS (by rw[py C];exact zM _)]
def nA.work{fb defb mb:Nat}{sl sn:Sl}{F1 F2:Ik}{C:List (Int×jR)}(u:nA w X pb db M fb defb mb sl sn F1 F2 C):k8 w [] fb defb mb F1 F2 C M:=
 ⟨u.Q1,u.J7,u.map,u.J8,λe G=>(u.rows.y7 e G).j6 oL,λb E h=>(nomatch h),⟨λh=>(u.sep.2.1 mb h).2.1 rfl,λh=>(u.sep.2.2 mb h).2 rfl,λb E h=>(u.sep.2.1 b E).2.2 h⟩,u.x7⟩
def qyi{K:Option Addr->WP}(h:eB w X pb db F M)(ac:M.Q1.length<=1000000)(ad:M.J7.length<=1000000)(ae:M.Q3=true->K none w)(hk:M.Q3=false->∀kb w',nS w' (X++F) kb pb M->Fr [] w w'->K (pW kb) w'): cW 49 [dG pb] dt w K:=by
 have J:=h.lt;have E:∀b∈X,b<w.heap.size:=by obtain⟨fb,defb,mb,sl,sn,F1,F2,fs,rfl,u⟩:=h;exact u.nH
 obtain⟨fb,defb,mb,sl,sn,F1,F2,fs,rfl,u⟩:=h;refine qjX<|fu (io u.cell M.Q3 (vw u.Q8) ?_);refine dX (λho=>ae (oP ho)) λho=>?_;have R:=u.q7 (Fr.refl [] w).drew;have fd:Fr [] w w.drew:=(Fr.refl [] w).drew;generalize World.drew w=wd at R fd;refine fu (io R.cell M.x6 (Gp u.Q8) ?_);refine fu ?_;(try simp only[xR]);refine nP R.cell (e9 (pW fb) (pW defb) (some mb) M.Q2) (py u.x7) (qy6 u.Q8 u.x7)<|qp2 R.work ac ad (λU C V ah ai w2 I f2 n2=>?_) λb hb=>nomatch hb;have h2:=R.q7 f2;refine ik (by show _=_;rw[jp h2.cell];exact Gp u.Q8)<|qu (ts:=[gU.jX]) (tG pb M.x6 (e9 (pW U) (pW C) (some V) M.Q2)) (qvN u.x7 w2)<|oB (oE [] w2) λkb w3 e3 f3 aj=>?_;have G:=fd.trans f2;refine hk (oP ho) kb w3 ⟨U,C,V,ah,ai,fs,aj.at (i:=0) rfl,?_,λhm=>?_⟩ (G.trans f3);have hb:∀b∈X++pb::mb::(F1++F2),b<w.heap.size:=λb hb=>(zD.1 hb).elim (E b) (J b);refine⟨I.Q1.q8 f3 λ_ _ h=>(nomatch h),I.J7.q8 f3 λ_ _ h=>(nomatch h),I.map.q8 f3 λh=>(nomatch h),I.J8,λe he=>(u.rows.y7 e he).q7 (G.trans f3),λb al hm=>?_,I.J3,I.Q2⟩
 have:=n2 b al;have:=hb b hm;have:=fd.size;omega;have:kb<w.heap.size:=(zD.1 hm).elim (E kb) (J kb);have:=G.size;omega
def qyb{S:Ik}{m:Option Addr}{q:dV}(h:eB w X pb db F M)(hS:∀b∈X++F,b∈S)(hm:m≠none->∃kb,m=pW kb/\nS w S kb pb q/\q.Q1.length<=1000000/\q.J7.length<=1000000)(ay:M.Q3=true->K 7 w)(az:M.Q3=false->(m=none\/q.x6≠M.x6)->K 10 w.drew)(hk:M.Q3=false->m≠none->q.x6=M.x6->∀F' w',eB w' X pb db F' { M with Q1:=q.Q1,J7:=q.J7,J8:=q.J8,Q2:=q.Q2 }->Fr F w w'->(∀b∈F',b∈F\/w.heap.size<=b)->K 0 w'): cW 53 [dG pb,.p m] di w K:=by
 obtain⟨fb,defb,mb,sl,sn,F1,F2,fs,rfl,I⟩:=h;refine qjR<|fu (io I.cell M.Q3 (vw I.Q8) ?_);refine dX (λho=>ay (oP ho)) λho=>?_;have ho:M.Q3=false:=(oP ho);refine gP (λb w'=>b=decide (m=none\/q.x6≠M.x6)/\w'=w.drew) ?_ ?_;cases m with
 | none=>exact HK rfl ⟨oL,rfl⟩
 | some a=>
  obtain⟨kb,e,hM,_⟩:=hm oL;obtain rfl:=yN e;obtain⟨U,C,V,ak,al,ah,hc,hW,_⟩:=hM;refine HM rfl<|fu (io (w:=w.drew) (c:=.ptr) hc (pW pb) rfl ?_);refine qAm (d:=191) oK oK oK<|HM rfl<|fu (io (w:=w.drew) (c:=.i) hc q.x6 rfl ?_);refine fu (io (w:=w.drew) (c:=.i) I.cell M.x6 (Gp I.Q8) ?_);refine⟨?_,rfl⟩;by_cases e:q.x6=M.x6;simp[e];simp[e]
 rintro b w1 ⟨rfl,rfl⟩;apply dX<;>intro hc;exact az ho (zC hc);have hc:=zB hc;have am:m≠none:=λe=>hc (.inl e);have aB:q.x6=M.x6:=Classical.byContradiction λe=>hc (.inr e);obtain⟨kb,rfl,hM,aC,aD⟩:=hm am;obtain⟨U,C,V,ak,al,ah,aE,hW,_⟩:=hM;have fd:Fr [] w w.drew:=(Fr.refl [] w).drew;have an:=I.q7 fd;have ao:w.drew.heap[kb]?=some (.c (tG pb q.x6 (e9 (pW U) (pW C) (some V) q.Q2)).toArray Co):=aE;have E:=hW.q8 (S':=S) (fd.mono λb u=>nomatch u) λb u=>.inl u;have sd:w.drew.heap.size=w.heap.size:=rfl;generalize World.drew w=wd at an ao E fd sd;refine fu ?_;have ap:=py (x:=pW U) (y:=pW C) (m:=some V) hW.Q2;refine nP (off:=0+2) ao (e9 (pW U) (pW C) (some V) q.Q2) ap (by show (e9 (pW U) (pW C) (some V) q.Q2).take 27=_;rw[zS (Nat.le_of_eq ap)]) ?_;have aF:k8 wd [] U C V ak al ah q:=⟨E.Q1,E.J7,E.map,E.J8,λe he=>(E.y7 e he).j6 oL,λb u h=>(nomatch h),E.J3,E.Q2⟩;refine qp2 aF aC aD (λaq ab G G1 G2 w2 J f2 n2=>?_) λb u=>nomatch u;have h2:=an.q7 f2;refine fu (m8 (py hW.Q2) ?_);have aH:dR [pb] w2 w2 [(pb,.c (fw db M.j9 sl sn M.x6 M.Q3 fb defb mb M.Q2) rh)]:=⟨by simpa using h2.cell,oL,.refl _ _,oL⟩;refine oG aH 0 rfl (fw db M.j9 sl sn M.x6 M.Q3 aq ab G q.Q2) (by rw[<- Ai,<- Ai];exact qsW I.Q8 (by rw[py I.x7,py hW.Q2])) (qrb _ _ _ _) (by rw[Gk I.Q8,py hW.Q2,I.x7];exact zO rfl) λw3 aJ f3=>?_;have aK:=fd.trans f2;have R:∀b∈G::(G1++G2),w.heap.size<=b:=λb u=>by have:=n2 b u;omega
 have aV:=eX I.cell;have aa:∀b∈G::(G1++G2),b∉[pb]:=λb u hm=>by have:=R b u;rw[zE.1 hm] at this;omega
 have ad:Fr [pb] w w3:=(aK.mono λb u=>nomatch u).trans f3;have av:∀b∈X,b<w.heap.size:=I.nH;have ai:∀b∈X++pb::G::(G1++G2),b∈X++pb::mb::(F1++F2)\/w.heap.size<=b:=λb u=>by rcases zD.1 u with u|u;exact .inl (zH _ u);rcases zG.1 u with rfl|u;exact .inl (zI _ oL);exact .inr (R b u)
 have ag:Fr (X++pb::mb::(F1++F2)) w w3:=ad.mono λb u _=>by rw[zE.1 u];exact zI _ oL
 refine hk ho am aB (pb::G::(G1++G2)) w3 ⟨aq,ab,G,sl,sn,G1,G2,ah,rfl,{
  cell:=aJ.at (i:=0) rfl
  Q1:=J.Q1.q8 f3 λb u=>aa b (by simp[u])
  J7:=J.J7.q8 f3 λb u=>aa b (by simp[u])
  map:=J.map.q8 f3 (aa G oL)
  J8:=J.J8
  rows:=⟨I.rows.Q5.q8 ag ai,I.rows.Q9.q8 ag ai,λe he=>?_⟩
  nH:=λb u=>yC (av b u) ad.size
  lQ:=λb u hm=>?_
  sep:=⟨λe=>aa G oL (by simp[e]),λb u=>⟨λe=>aa b (by simp[u]) (by simp[e]),λe=>J.J3.1 (e▸u),J.J3.2.2 b u⟩,λb u=>⟨λe=>aa b (by simp[u]) (by simp[e]),λe=>J.J3.2.1 (e▸u)⟩⟩
  Q8:=I.Q8
  x7:=hW.Q2 }⟩ (ad.mono λb u _=>by rw[zE.1 u];simp) λb u=>?_
 have aL:=hW.y7 e he;refine aL.q8 (ad.mono λb u _=>by rw[zE.1 u];exact hS pb (zI _ oL)) λb u=>?_;rcases ai b u with u|u;exact .inl (hS b u);exact .inr u;rcases zG.1 hm with rfl|hm;exact I.lQ b u oL;have:=R b hm;have:=av b u;omega;rcases zG.1 u with rfl|u;exact .inl oL;exact .inr (R b u)
end
end
end
section
open Go Go.Pt List
open Go.IntKind (wrap)
open Classical
attribute [local irreducible] ld dL gZ mP i3 fc st new idx i4 jg fB jk iO lS gB nn call dZ inv run eW iC join loop held ext jU eH mv mp mA IntKind.wrap
variable {K:Sl->WP} {S:Ik} {b:Il} {hi p:Int} {i k v:Nat} {l:Key} {n:dM} {ps:ph} {s src:Sl} {x:kz}
abbrev FE:=Iq
def jC (k v pb:Nat) (t:Int):FE:=((k:Int),(v:Int),((dY k v).1:Int),((dY k v).2:Int),pW pb,t)
def np (x:FE):Array Ie:=#[.i x.1,.i x.2.1,.i x.2.2.1,.i x.2.2.2.1,.pointer x.2.2.2.2.1,.i x.2.2.2.2.2]
abbrev WK:If:=195
def BT (k v:Nat):IB:=((k:Int),(v:Int),((dY k v).1:Int),((dY k v).2:Int))
def FU (k v:Nat):Array Ie:=#[.i k,.i v,.i (dY k v).1,.i (dY k v).2]
section
variable {S:Ik} {w:Ic} {x:kz} {n:dM} {k v:Nat}
structure oh (x:kz) (n:dM):Prop where
 Q4:x.1=n.Q4
 J6:x.2.1.len=n.J6.length
 Q0:x.2.2.1.len=n.Q0.length
 J9:x.2.2.2.len=n.J9.length
def eF.lens(h:eF S w x n):oh x n:=by obtain⟨u,_,⟨pk,C,E⟩,⟨pv,G,I⟩,J⟩:=h;exact⟨u,by rw[C.len,<- E,zK],by rw[G.len,<- I,zK],J.1⟩
def GV{K:Io->WP}(h:oh x n)(C:∀w',Fr [] w w'->K (((eT n k v).1:Int),((eT n k v).2:Int)) w'): cW 198 [.agg (FU k v),.agg (eN x)] dp w K:=by refine qli<|oB (oE [] w) λI w1 e1 J G=>oB G λR w2 U V G=>Ii G 0 rfl x.1 ?_;unfold eT at C;have u:=G.drew;apply dX<;>intro E;rw[h.Q4] at E;rw[iP E] at C;refine Ii u 0 rfl x.2.1<|Ii u 1 rfl ((dY k v).1:Int) ?_;rw[h.J6];exact C _ u.fr;rw[h.Q4] at E;rw[iN (by rw[E];decide)] at C;refine Ii u 0 rfl x.2.2.2<|Ii u 1 rfl ((dY k v).2:Int) ?_;rw[h.J9];exact C _ u.fr
def qql{n:dM}:wrap .i64 (Int.tdiv ((eT n k v).2:Int) 2)=(((eT n k v).2 / 2:Nat):Int):=by have h:=Cd (k:=k) (v:=v);have u:(eT n k v).2<=498:=(by unfold eT;split<;>omega);rw[HY oJ,gi _ oJ];rfl
def qA0{K:Bool->WP}(h:oh x n)(C:∀w',Fr [] w w'->K (decide (oU n k v)) w'): cW 169 [.agg (FU k v),.agg (eN x)] dj w K:=by refine qlZ<|oB (oE [] w) λI w1 e1 J u=>oB u λR w2 U V u=>Ij u 1 rfl (BT k v)<|Ij u 0 rfl x<|GV (k:=k) (v:=v) h λE G=>?_;dsimp only;rw[qql];have e:decide (((eT n k v).1:Int)<(((eT n k v).2 / 2:Nat):Int))=decide (oU n k v):=decide_eq_decide.2 (by unfold oU;omega);rw[e];exact C E (u.fr.trans G)
def qzk{K:Bool->WP}(h:oh x n)(C:∀w',Fr [] w w'->K (decide (iT n k v)) w'): cW 202 [.agg (FU k v),.agg (eN x)] dj w K:=by refine qj5<|oB (oE [] w) λI w1 e1 J u=>oB u λR w2 U V u=>Ij u 1 rfl (BT k v)<|Ij u 0 rfl x<|GV (k:=k) (v:=v) h λE G=>?_;dsimp only;rw[qql];have e:decide (((eT n k v).1:Int)>(((eT n k v).2 / 2:Nat):Int))=decide (iT n k v):=decide_eq_decide.2 (by unfold iT;omega);rw[e];exact C E (u.fr.trans G)
end
def C0{t:Int}{ks:Sl}{pb:Nat}{w:Ic}{K:FE×Int->WP}(G:rz t=((k:Int),(v:Int)))(I:k=0->∀x w',Fr [] w w'->K (x,4) w')(J:k≠0->ks.len≠k->∀x w',Fr [] w w'->K (x,1) w')(R:k≠0->ks.len=k->∀w',Fr [] w w'->K (jC k v pb t,0) w'): cW 89 [dG pb,.i t,ks.v] [.agg iB,.one .i] w K:=by
 refine qrw<|oB (oE [] w) λU w1 e1 V h=>qrS ?_;rw[G];apply dX<;>intro C;have C:((k:Nat):Int)=0:=yO.1 C;exact oD h 0 rfl (np (0,0,0,0,none,0)) λw2 h E=>Ij h 0 rfl (0,0,0,0,none,0)<|I oJ _ _ h.fr;have C:¬((k:Nat):Int)=0:=zR.1 C;apply dX<;>intro u;have u:¬((ks.len:Int)=(k:Int)):=zR.1 (oP u);exact oD h 0 rfl (np (0,0,0,0,none,0)) λw2 h E=>Ij h 0 rfl (0,0,0,0,none,0)<|J oJ oJ _ _ h.fr;have u:(ks.len:Int)=(k:Int):=by rw[yD] at u;exact yO.1 u
 refine Ga λw2 E=>?_;have h:=h.q7 E;exact oD h 0 rfl (np (jC k v pb t)) λw3 h f3=>Ij h 0 rfl (jC k v pb t)<|R oJ oJ _ h.fr
section
variable {dbk pb j:Nat} {FD Y F:Ik} {D:dJ} {w:Ic} {M:dV} {k v:Nat} {t:Int}
def AB{K:kz×Int->WP}(h:TW dbk pb FD D j w Y F M)(hp:gE p)(R:∀x B w',TW dbk pb FD D j w' (B++Y) F M->fh (Zo FD (B++Y) F) w' x (dK D M k v p).1 B->Fr [] w w'->(∀c∈B,w.heap.size<=c)->K (x,(dK D M k v p).2) w'): cW 90 [.agg (np (jC k v pb t)),.u p] [.agg ed,.one .i] w K:=by
 refine ql2<|oB (oE [] w) λr1 w1 e1 f1 E=>oB E λr3 w2 e2 f2 E=>Ii E 1 rfl (pW pb) ?_;have h2:=h.q7 E.fr;refine TW.read h2 hp λs w7 hs f7=>?_;have E:=E.q7 f7;have ae:=hs [] λ_ h=>nomatch h;have hB:eI (dI D M p).2.1:=qh5 h.lim.ok (λe he=>(h.wf.body e he).2.2) p;unfold dK at R;apply dX<;>intro C;have ag:(dI D M p).2.2≠0:=λe=>by dsimp only at C;rw[e] at C;exact absurd C oM
 rw[iP ag] at R;exact oD E 0 rfl (eN fD) λw8 E f8=>Ij E 0 rfl fD<|R fD [] w8 (h.q7 E.fr) (.zero _ _) E.fr λ_ h=>nomatch h;have he:¬(dI D M p).2.2≠0:=λe=>by dsimp only at C;rw[yD,yO] at C;exact e C
 rw[iN he] at R;refine Ii E 1 rfl (k:Int)<|Ii E 1 rfl (v:Int)<|G7 (k:=k) (v:=v) ae hB λx B ar hN ah J=>?_;have U:=E.q7 ah;have V:=eX (E.at (i:=0) rfl);dsimp only at V;have hr:∀c∈B,c∉[r3]:=λc C hm=>by have:=J c C;rw[zE.1 hm] at this;omega
 refine oD U 0 rfl (eN x) λaa G ai=>Ij G 0 rfl x ?_;have I:=hN.q8 ai hr (λc C=>.inl (by rw[zE.1 C];simp[V])) λc C=>.inl C;have ax:=h.q7 G.fr;have ab:=E.fr.size;have ac:TW dbk pb FD D j aa (B++Y) F M:=h.Bh (G.fr.mono λ_ h=>nomatch h) λb hb=>⟨zL ab (J b hb),I.lt b hb⟩;refine R x B aa ac (I.j6 λc C=>.inl ?_) G.fr λc C=>zL ab (J c C);have zl:=h.sP;rcases zD.1 C with C|C;rcases zD.1 C with C|C;have:=zl c (by simp[C]);simp;omega;rcases zG.1 C with C|C;have:=zl c (by simp[C]);simp;omega;rcases zD.1 C with C|C;simp[C];have:=zl c (by simp[C]);simp;omega;have:=zl c (by simp[C]);simp;omega
def qvY{kd:Int}{n:Int}(h:(jl M n kd b).1=10):(jl M n kd b).2=M:=by unfold jl at h⊢;split;rfl;rename_i u;rw[iN u] at h;split;rfl;rename_i q C;rw[C] at h;dsimp only at h;split;rfl;rename_i E;rw[iN E] at h;cases h
def uY{K:Io->WP}(h:TW dbk pb FD D j w Y F M)(hx:eF (Zo FD Y F) w x n)(h1:n.J6.length<=1000000)(h2:n.Q0.length<=1000000)(h3:n.J9.length<=1000000)(kk:∀F' w',TW dbk pb FD D j w' Y F' (dP k v M p n).2->Fr F w w'->(∀b∈F',b∈F\/w.heap.size<=b)->K (dP k v M p n).1 w'): cW 130 [.agg (np (jC k v pb t)),.u p,.agg (eN x)] du w K:=by
 refine qlk<|oB (oE [] w) λr1 w1 e1 f1 I=>oB I λr3 w2 e2 f2 I=>Ij I 0 rfl x<|Ii I 1 rfl (k:Int)<|Ii I 1 rfl (v:Int)<|qyp (x:=x) (k:=k) (v:=v) (hx.q7 I.fr) h1 h2 h3 λs w9 hs f9=>?_;have I:=I.q7 f9;have h9:=h.q7 I.fr;have ap:eI (eO n k v).2.1:=by unfold eO;split;exact qpZ hx.2.1.1 hx.2.1.2.1;exact λ_ h=>nomatch h
 have aq:0<=(eO n k v).1/\(eO n k v).1<256:=(by unfold eO iE;split;dsimp only;split<;>exact⟨oM,oM⟩;exact⟨oM,oM⟩);have ar:(eO n k v).2.1.length<=100000:=(by unfold eO;split;rename_i hr;have:=(CA hr).2;dsimp only;omega;exact yW _);unfold dP at kk;apply dX<;>intro C;have aE:(eO n k v).2.2≠0:=λe=>by dsimp only at C;rw[e] at C;exact absurd C oM
 rw[iP aE] at kk;exact kk F w9 h9 (I.fr.mono λ_ h=>nomatch h) λb U=>.inl U;have he:¬(eO n k v).2.2≠0:=λe=>by dsimp only at C;rw[yD,yO] at C;exact e C
 rw[iN he] at kk;have aF:=eX (I.at (i:=1) rfl);dsimp only at aF;have ae:=h.sP;have ag:r1∉F:=λhm=>by have:=ae r1 (by simp[hm]);omega
 have au:w.heap.size<=r1:=oJ;have aP:=I.fr.size;have ai:∀G:Ik,(∀b∈G,b<w.heap.size)->en G w9 s (eO n k v).2.1:=λG hG=>hs G λb U=>yC (hG b U) (zL f1.size f2.size);have aj:dR F w w9 [(r1,.c (np (jC k v pb t)) WK)]:=⟨λq hq=>by rw[zE.1 hq];exact I.at (i:=1) rfl,oL,I.fr.mono (λ_ h=>nomatch h),λq hq=>by rw[zE.1 hq];exact .inr au⟩;generalize a3:(eO n k v).1=V at *;generalize a4:(eO n k v).2.1=J at *;refine gP (λ_ w'=>(p=0\/(jl M p V J).1=10)/\TW dbk pb FD D j w' Y F M/\dR F w w' [(r1,.c (np (jC k v pb t)) WK)]/\en (Zo FD Y F) w' s J) ?_ ?_;apply dX<;>intro hp;have hp:p≠0:=by rw[zT] at hp;exact zR.1 hp
 refine Ii aj 0 rfl (pW pb)<|TW.put h9 (ai _ ae) ar aq ap λaG al av=>?_;have ah:=aj.q8 av (λi hi=>.inl hi) (λq hq=>by rw[zE.1 hq];exact ag);apply dX<;>intro E;have E:(jl M p V J).1≠10:=by rw[zT] at E;exact zR.1 E
 rw[iP ⟨hp,E⟩] at kk;exact kk F aG al ah.fr λb U=>.inl U;have E:(jl M p V J).1=10:=by rw[yD] at E;exact yO.1 E
 rw[qvY E] at al;exact⟨.inr E,al,ah,(ai _ ae).q8 (av.mono λb U _=>by simp[U]) λb U=>.inl U⟩;have hp:p=0:=by rw[yD] at hp;exact yO.1 hp
 exact⟨.inl hp,h9,aj,ai _ ae⟩;rintro _ a5 ⟨hp,aI,ac,aw⟩;rw[iN λhh=>hp.elim hh.1 hh.2] at kk;refine Ii ac 0 rfl (pW pb)<|TW.make aI aw ar aq ap λF' aJ ax aK aL=>?_;have R:=ac.q8 aK (λi hi=>.inl hi) (λq hq=>by rw[zE.1 hq];exact ag);have am:=ac.fr.size;have ad:∀b∈F',b∈F\/w.heap.size<=b:=λb U=>(aL b U).imp id λh=>zL am h;refine gP (λe w'=>∃F2,e=(if (fZ M V J).1.2=0/\p≠0 then (fq (fZ M V J).2 p).1 else (fZ M V J).1.2)/\TW dbk pb FD D j w' Y F2 (if (fZ M V J).1.2=0/\p≠0 then (fq (fZ M V J).2 p).2 else (fZ M V J).2)/\Fr F w w'/\∀b∈F2,b∈F\/w.heap.size<=b) ?_ ?_;refine gP (λd w'=>d=decide ((fZ M V J).1.2=0/\p≠0)/\w'=aJ) ?_ ?_;refine dX (λC=>⟨?_,rfl⟩) λC=>⟨?_,rfl⟩;have C:(fZ M V J).1.2=0:=yO.1 C;rw[HR,yM,zT,zR];exact⟨λh=>⟨C,h⟩,λh=>h.2⟩;have C:¬(fZ M V J).1.2=0:=zR.1 C;rw[zU λh=>C h.1];rintro d a6 ⟨rfl,rfl⟩;apply dX<;>intro C;have C:=zC C;rw[iP C,iP C];refine Ii R 0 rfl (pW pb)<|TW.drop ax λF2 a7 aM aN aO=>?_;have an:=R.fr.size;refine⟨F2,rfl,aM,R.fr.j8 aN ad,λb U=>?_⟩;rcases aO b U with h|h;exact ad b h;exact .inr (zL an h);have C:=zB C;rw[iN C,iN C];exact⟨F',rfl,ax,R.fr,ad⟩;rintro e ay ⟨F2,rfl,af,az,aA⟩;by_cases C:(fZ M V J).1.2=0/\p≠0;rw[iP C] at kk af⊢;exact kk F2 ay af az aA;rw[iN C] at kk af⊢;exact kk F2 ay af az aA
end
section
section
variable {S:Ik} {w:Ic} {s:Sl} {ps:ph}
def jq.qE(h:jq S w s ps)(b:Nat){K:Sl->Prop}(C:hi=b)(G:b<=ps.length)(I:∀u,jq S w u (ps.take b)->K u):fB s none (some hi) (some hi) 1 K:=
 ee.tO h.1 b C (by rw[zK];exact G) λu E=>I u ⟨by rw[<- xO] at E;exact E,λp J=>h.2 p (yU J)⟩
def jq.from(h:jq S w s ps){lo:Int}(a:Nat){K:Sl->Prop}(C:lo=a)(G:a<=ps.length)(I:∀u,jq S w u (ps.drop a)->K u):fB s (some lo) none none 1 K:=
 ee.part h.1 a ps.length C (by rw[xV,h.len]) G (by rw[zK];exact zM _) λu _ E _=>I u ⟨by have e:(iv ps).take ps.length=iv ps:=zS (by rw[zK];exact zM _);rw[e,<- xP] at E;exact E,λp J=>h.2 p (yT J)⟩
def jq.upto(h:jq S w s ps)(b:Nat){K:Sl->Prop}(C:hi=b)(G:b<=ps.length)(I:∀u,jq S w u (ps.take b)->K u):fB s none (some hi) none 1 K:=
 ee.part h.1 0 b rfl C (yW _) (by rw[zK];exact G) λu _ E _=>I u ⟨by rw[xE,<- xO] at E;exact E,λp J=>h.2 p (yU J)⟩
def zk(ps:ph)(b:Nat):ga (ps.take b)=(ga ps).take b:=xO
def xf(ps:ph)(b:Nat):ga (ps.drop b)=(ga ps).drop b:=xP
def wW{ps:ph}(hi:i<ps.length):(ga ps).getD i []=ps[i].2:=by rw[yQ,zQ,zA hi];rfl
def ee.vJ{α:Type}{enc:α->List Ie}{l:List α}(h:ee enc 1 S w s l){lo:Int}(a:Nat){K:Sl->Prop}(C:lo=a)(G:a<=l.length)(I:∀u,ee enc 1 S w u (l.drop a)->K u):fB s (some lo) none none 1 K:=
 ee.part h a l.length C (by rw[xV,h.1]) G (zM _) λu _ E _=>I u (by rw[xY] at E;exact E)
def ee.A5{α:Type}{enc:α->List Ie}{l:List α}(h:ee enc 1 S w s l)(b:Nat){K:Sl->Prop}(C:hi=b)(G:b<=l.length)(I:∀u,ee enc 1 S w u (l.take b)->K u):fB s none (some hi) none 1 K:=
 ee.part h 0 b rfl C (yW _) G λu _ E _=>I u (by rw[xE] at E;exact E)
end
section
variable {S:Ik} {w:Ic} {x:kz} {n:dM} {k v:Nat}
def oQ (n:dM) (mid:Nat):Prop:=if n.Q4 then mid<n.J6.length/\mid<=n.Q0.length else 1<=mid/\mid<=n.J6.length/\mid<=n.J9.length
def qw7{mid:Nat}{K:kz×kz×Sl->WP}(hx:eF S w x n)(hm:oQ n mid)(hl:mid<=1000000)(kk:∀xl xr ks w',eF S w' xl (ef n mid).1->eF S w' xr (ef n mid).2.1->en S w' ks (ef n mid).2.2->Fr [] w w'->K (xl,xr,ks) w'): cW 199 [.agg (eN x),.i mid] [.agg ed,.agg ed,.one .slice] w K:=by
 have aH:=hx;obtain⟨h0,C,⟨pk,E,u⟩,⟨pv,ac,G⟩,R⟩:=hx;have l1:pk.length=n.J6.length:=(by rw[<- u,zK]);have l2:pv.length=n.Q0.length:=(by rw[<- G,zK]);refine qpR ?_;have h:=oE [] w;refine oB h λr1 w2 _ f h=>oB h λr3 w4 _ f h=>oB h λr5 w6 _ f h=>?_;have h:=oF h;refine⟨?a,?b⟩;case' a=>
  refine Ij h 2 rfl x<|Ij h 2 rfl x<|oB h λr9 ax _ f h=>ky (h.cells 3) (h.cells 3)<|oB h λay az _ f h=>ky (h.cells 4) (h.cells 4)<|oD h 1 rfl (eN x) λaA h f=>ik (h.cells 4)<|oD h 0 rfl (eN x) λaB h f=>?_
 case' b=>
  refine Ij h 2 rfl x<|Ij h 2 rfl x<|oB h λay ax _ f h=>ky (h.cells 3) (h.cells 3)<|oB h λr9 az _ f h=>ky (h.cells 4) (h.cells 4)<|oD h 0 rfl (eN x) λaA h f=>ik (h.cells 4)<|oD h 1 rfl (eN x) λaB h f=>?_;have h:=Du h (List.Perm.swap _ _ _)
 all_goals
  refine Ii h 4 rfl x.1 ?_;apply dX<;>intro hc;rw[h0] at hc;unfold oQ at hm;rw[iP hc] at hm;have hH:ef n mid=({ n with J6:=n.J6.take mid,Q0:=n.Q0.take mid },{ n with J6:=n.J6.drop mid,Q0:=n.Q0.drop mid },n.J6.getD mid []):=(by unfold ef;rw[iP hc]);rw[hH] at kk;have h:=oF h;refine Ii h 4 rfl x.2.1<|jq.qE E mid rfl oJ λU aj=>Ii h 4 rfl x.2.2.1<|jq.qE ac mid rfl oJ λad ak=>oD h 1 rfl (eN (x.1,U,x.2.2.1,x.2.2.2)) λaJ h f=>ik (h.cell 4)<|oD h 1 rfl (eN (x.1,U,ad,x.2.2.2)) λaK h f=>?_;have h:=oF h;refine Ii h 4 rfl x.2.1<|jq.from E mid rfl oJ λV al=>Ii h 4 rfl x.2.2.1<|jq.from ac mid rfl oJ λae am=>oD h 0 rfl (eN (x.1,V,x.2.2.1,x.2.2.2)) λaL h f=>ik (h.cell 4)<|oD h 0 rfl (eN (x.1,V,ae,x.2.2.2)) λaM h f=>?_;have h:=oF h;refine Ij h 1 rfl (x.1,U,ad,x.2.2.2)<|Ij h 0 rfl (x.1,V,ae,x.2.2.2)<|Ii h 4 rfl x.2.1 ?_;have I:mid<pk.length:=oJ;refine jq.get' (E.q7 h.fr) mid rfl I λaN J hh=>oD h 3 rfl (eN (x.1,U,ad,x.2.2.2)) λaO h f=>mQ (hh _ (E.q7 h.fr)) (h.cell 4) (h.cells 0)<|oD h 2 rfl (eN (x.1,V,ae,x.2.2.2)) λaD h f=>ky (hh _ (E.q7 h.fr)) (h.cell 4)<|Ij h 3 rfl (x.1,U,ad,x.2.2.2)<|Ij h 2 rfl (x.1,V,ae,x.2.2.2)<|kk _ _ _ aD ⟨h0,⟨λa J=>C.1 a (yU J),λa J=>C.2.1 a (yU J),C.2.2⟩,⟨pk.take mid,aj.q7 h.fr,by rw[zk,u]⟩,⟨pv.take mid,ak.q7 h.fr,by rw[zk,G]⟩,R.q7 h.fr⟩
   ⟨h0,⟨λa J=>C.1 a (yT J),λa J=>C.2.1 a (yT J),C.2.2⟩,⟨pk.drop mid,al.q7 h.fr,by rw[xf,u]⟩,⟨pv.drop mid,am.q7 h.fr,by rw[xf,G]⟩,R.q7 h.fr⟩ ?_ h.fr
  rw[<- u,wW I];exact (E.2 _ (zW I)).q7 h.fr;rw[h0] at hc;have ao:¬n.Q4=true:=(by rw[hc];decide);unfold oQ at hm;rw[iN ao] at hm;have hH:ef n mid=({ n with J9:=n.J9.take mid,J6:=n.J6.take (mid-1) },{ n with J9:=n.J9.drop mid,J6:=n.J6.drop mid },n.J6.getD (mid-1) []):=(by unfold ef;rw[iN ao]);rw[hH] at kk;have em:wrap .i64 ((mid:Int)-1)=((mid-1:Nat):Int):=(by rw[gi _ oJ];omega);have h:=oF h;refine Ii h 4 rfl x.2.2.2<|ee.tO R mid rfl oJ λaa ap=>Ii h 4 rfl x.2.1<|jq.qE E (mid-1) em oJ λaf aq=>oD h 1 rfl (eN (x.1,x.2.1,x.2.2.1,aa)) λaP h f=>ik (h.cell 4)<|oD h 1 rfl (eN (x.1,af,x.2.2.1,aa)) λaQ h f=>?_;have h:=oF h;refine Ii h 4 rfl x.2.2.2<|ee.vJ R mid rfl oJ λab ar=>Ii h 4 rfl x.2.1<|jq.from E mid rfl oJ λag au=>oD h 0 rfl (eN (x.1,x.2.1,x.2.2.1,ab)) λaR h f=>ik (h.cell 4)<|oD h 0 rfl (eN (x.1,ag,x.2.2.1,ab)) λaT h f=>?_;have h:=oF h;refine Ij h 1 rfl (x.1,af,x.2.2.1,aa)<|Ij h 0 rfl (x.1,ag,x.2.2.1,ab)<|Ii h 4 rfl x.2.1 ?_;have I:mid-1<pk.length:=oJ;refine jq.get' (E.q7 h.fr) (mid-1) em I λaU J hh=>oD h 3 rfl (eN (x.1,af,x.2.2.1,aa)) λaV h f=>mQ (hh _ (E.q7 h.fr)) (h.cell 4) (h.cells 0)<|oD h 2 rfl (eN (x.1,ag,x.2.2.1,ab)) λaE h f=>ky (hh _ (E.q7 h.fr)) (h.cell 4)<|Ij h 3 rfl (x.1,af,x.2.2.1,aa)<|Ij h 2 rfl (x.1,ag,x.2.2.1,ab)<|kk _ _ _ aE ⟨h0,⟨λa J=>C.1 a (yU J),C.2.1,λa J=>C.2.2 a (yU J)⟩,⟨pk.take (mid-1),aq.q7 h.fr,by rw[zk,u]⟩,⟨pv,ac.q7 h.fr,G⟩,ap.q7 h.fr⟩
   ⟨h0,⟨λa J=>C.1 a (yT J),C.2.1,λa J=>C.2.2 a (yT J)⟩,⟨pk.drop mid,au.q7 h.fr,by rw[xf,u]⟩,⟨pv,ac.q7 h.fr,G⟩,ar.q7 h.fr⟩ ?_ h.fr
  rw[<- u,wW I];exact (E.2 _ (zW I)).q7 h.fr
end
end
section
structure Sg (S0:Ik) (w0 wa:Ic) (F T:Ik):Prop where
 pY:Fr S0 w0 wa
 new:∀ b∈F,b∈S0\/w0.heap.size<=b
 own:∀ b∈T,b∈S0\/w0.heap.size<=b
abbrev fk (L:Ip):Ik:=L.map (·.1)
section
variable {dbk pb j:Nat} {FD S0 Y Y0 F0 F F' T:Ik} {D:dJ} {w0 wa w w':Ic} {M M':dV} {L:Ip}
def Sg.start(F:Ik)(w:Ic):Sg F w w F []:=⟨.refl _ _,λb u=>.inl u,λ_ h=>nomatch h⟩
def Sg.fr(g:Sg S0 w0 wa F T)(h:dR T wa w L):Fr S0 w0 w:=g.pY.j8 h.fr g.own
def Sg.fk(g:Sg S0 w0 wa F T)(h:dR T wa w L):∀b∈fk L,b∈S0\/w0.heap.size<=b:=λb C=>by obtain⟨q,E,rfl⟩:=mem_map.1 C;rcases h.own q E with u|u;exact g.own _ u;exact .inr (zL g.pY.size u)
def xj(h:dR T wa w L):∀b∈fk L,b<w.heap.size:=λb u=>by obtain⟨q,C,rfl⟩:=mem_map.1 u;exact eX (h.eJ q C)
def TW.J0(C:TW dbk pb FD D j wa (T++Y) F M)(h:dR T wa w L):TW dbk pb FD D j w (fk L++Y) F M:=
 C.cM (h.fr.mono λb u _=>by simp[u]) (λb u=>(zD.1 u).elim (xj h b) λu=>yC (C.qw b (by simp[u])) h.fr.size) λb u=>(zD.1 u).elim (λu=>by obtain⟨q,E,rfl⟩:=mem_map.1 u;exact (h.own q E).imp (λh=>zH _ h) id) λu=>.inl (zI _ u)
def TW.cB(u:TW dbk pb FD D j wa Y F M)(h:dR [] wa w L):TW dbk pb FD D j w (fk L++Y) F M:=TW.J0 (T:=[]) u h
def qv(h:dR T wa w L)(f:Fr S w w')(C:∀b∈fk L,b∉S):dR (fk L) w' w' L:=
 ⟨λq u=>by rw[f.block q.1 (eX (h.eJ q u)) (C _ (zY u))];exact h.eJ q u,h.nodup,.refl _ _,λq u=>.inl (zY u)⟩
def TW.own(u:TW dbk pb FD D j w (fk L++Y) F M)(h:dR T wa w L)(f:Fr F w w'):dR (fk L) w' w' L:=qv h f λb C=>u.yf b (by simp[C])
def Sg.next(g:Sg S0 w0 wa F T)(h:dR T wa w L)(f:Fr F w w')(n:∀b∈F',b∈F\/w.heap.size<=b):Sg S0 w0 w' F' (Go.Proofs.YtpcmehldpoljfaaGreatDoor.fk L):=
 ⟨(g.fr h).j8 f g.new,λb u=>(n b u).elim (g.new b) λC=>.inr (zL (g.fr h).size C),g.fk h⟩
def Sg.cA(g:Sg S0 w0 wa F T)(h:dR T wa w L)(f:Fr [] w w'):Sg S0 w0 w' F (Go.Proofs.YtpcmehldpoljfaaGreatDoor.fk L):=
 ⟨(g.fr h).j8 f λ_ h=>(nomatch h),g.new,g.fk h⟩
def Dw(h:dR T wa w L):∀b∈Zo FD (Go.Proofs.YtpcmehldpoljfaaGreatDoor.fk L++Y) F,b∈Zo FD (T++Y) F\/wa.heap.size<=b:=λb u=>by rcases zD.1 u with u|u;rcases zD.1 u with u|u;exact .inl (by simp[u]);rcases zG.1 u with u|u;exact .inl (by simp[u]);rcases zD.1 u with u|u;obtain⟨q,C,rfl⟩:=mem_map.1 u;exact (h.own q C).imp (λh=>by simp[h]) id;exact .inl (by simp[u]);exact .inl (by simp[u])
def yc:∀b∈Zo FD Y F,b∈Zo FD (S++Y) F:=λb h=>by simp only[Zo,zD,zG] at h⊢;rcases h with (h|h|h)|h<;>simp[h]
def uX{b:Nat}(h:b∈F):b∈Zo FD Y F:=zI _ h
def eF.J0(u:eF (Zo FD (T++Y) F) wa x n)(h:dR T wa w L):eF (Zo FD (fk L++Y) F) w x n:=u.q8 (h.fr.mono λb C _=>by simp[C]) (Dw h)
def eF.cB(u:eF (Zo FD Y F) wa x n)(h:dR [] wa w L):eF (Zo FD (fk L++Y) F) w x n:=eF.J0 (T:=[]) u h
def eF.next(h:eF (Zo FD Y F) w x n)(f:Fr F w w')(u:∀b∈F',b∈F\/w.heap.size<=b):eF (Zo FD Y F') w' x n:=h.q8 (f.mono λb C _=>uX C) (TW.uS u)
def pT(u:en (Zo FD (T++Y) F) wa s l)(h:dR T wa w L):en (Zo FD (fk L++Y) F) w s l:=u.q8 (h.fr.mono λb C _=>by simp[C]) (Dw h)
def uh(u:en (Zo FD Y F) wa s l)(h:dR [] wa w L):en (Zo FD (fk L++Y) F) w s l:=pT (T:=[]) u h
def qsY(h:en (Zo FD Y F) w s l)(f:Fr F w w')(u:∀b∈F',b∈F\/w.heap.size<=b):en (Zo FD Y F') w' s l:=h.q8 (f.mono λb C _=>uX C) (TW.uS u)
def EQ(h:en (Zo FD (S++Y) F) w s l):en (Zo FD Y F) w s l:=h.q8 (.refl _ _) λb u=>.inl (yc b u)
def TW.j7(h:TW dbk pb FD D j w (T++Y) F M):TW dbk pb FD D j w Y F M:=h.y0 λb u=>zI _ u
abbrev C3:=Iv
def tc (g:Grown) (ks:Sl):C3:=(g.x5,g.J8,ks,g.x4)
abbrev GR:If:=252
def pK (x:C3):Array Ie:=#[.u x.1,.bool x.2.1,x.2.2.1.v,.u x.2.2.2]
def uq:gE 0:=⟨oM,oM⟩
def qsB{k:Int}(h:M.Wf):gE (fZ M k b).1.1:=by
 unfold fZ;split;exact uq;split;exact uq;split;exact uq;rename_i n r u;have:=h.range n (by rw[u];simp);have:=h.n4;exact⟨by dsimp only;omega,by dsimp only;omega⟩
def uT(h:M.Wf)(u:gE p):gE (dP k v M p n).1.1:=by unfold dP;split;exact uq;split;exact u;split;exact qsB h;exact qsB h
structure G9 (g:Grown):Prop where
 x5:gE g.x5
 x4:gE g.x4
 key:eI g.key
def eI.nil:eI []:=λ_ h=>nomatch h
def Fg:G9 oq:=⟨⟨oM,oM⟩,⟨oM,oM⟩,.nil⟩
def sX{l:List Key}(h:∀a∈l,eI a)(i:Nat):eI (l.getD i []):=by
 rw[yQ];cases e:l[i]? with
 | none=>exact .nil
 | some a=>exact h a (yE e)
def qq5{t:Int}{J8:Bool}{K:C3×Int->WP}(hT:TW dbk pb FD D j w0 Y F M)(hx:eF (Zo FD Y F) w0 x n)(h1:n.J6.length<=100000)(h2:n.Q0.length<=100000)(h3:n.J9.length<=100000)(hm:(eT n k v).1>(eT n k v).2->oQ n ((eT n k v).1 / 2))(hp:gE p)(kk:∀ks F' w',G9 (fX k v M p n J8).1.1->TW dbk pb FD D j w' Y F' (fX k v M p n J8).2->en (Zo FD Y F') w' ks (fX k v M p n J8).1.1.key->Fr F w0 w'->(∀b∈F',b∈F\/w0.heap.size<=b)->K (tc (fX k v M p n J8).1.1 ks,(fX k v M p n J8).1.2) w'): cW 166 [.agg (np (jC k v pb t)),.u p,.agg (eN x),.bool J8] [.agg pN,.one .i] w0 K:=by
 refine qlj ?_;have h:=oE [] w0;have g:=Sg.start F w0;have hl:=hx.lens;have aG:(eT n k v).1<=100000:=(by unfold eT;split<;>assumption);refine oB h λr1 w2 _ f h=>oB h λr3 w4 _ f h=>oB h λr5 w6 _ f h=>oB h λr7 w8 _ f h=>oD h 0 rfl (pK (0,J8,dH,0)) λw9 h f=>Ij h 3 rfl (BT k v)<|Ij h 2 rfl x<|GV (k:=k) (v:=v) hl λaL an=>?_;have h:=h.q7 an;refine gP (λ_ w'=>∃(x':kz) (n':dM) (ks:Sl) (key:Key) (o:Int) (F' T:Ik) (wa:Ic) (M':dV),Sg F w0 wa F' T/\TW dbk pb FD D j wa (T++Y) F' M'/\dR T wa w' [(r7,.c (pK (0,J8,ks,o)) GR),(r5,.c (pK (0,false,dH,0)) GR),(r3,.c (eN x') ND),(r1,.c (np (jC k v pb t)) WK)]/\
   eF (Zo FD (T++Y) F') wa x' n'/\en (Zo FD (T++Y) F') wa ks key/\n'.J6.length<=100000/\n'.Q0.length<=100000/\n'.J9.length<=100000/\gE o/\eI key/\fX k v M p n J8=((⟨(dP k v M' p n').1.1,J8,key,o⟩,(dP k v M' p n').1.2),(dP k v M' p n').2)) ?_ ?_
 apply dX<;>intro I;have I:(eT n k v).1>(eT n k v).2:=(by have:=zC I;dsimp only at this;omega);have ah:=hm I;have R:wrap .i64 (Int.tdiv ((eT n k v).1:Int) 2)=(((eT n k v).1 / 2:Nat):Int):=(by rw[HY oJ,gi _ oJ];rfl);generalize ai:(eT n k v).1 / 2=C at ah R;refine Ij h 2 rfl x ?_;dsimp only;rw[R];have E:=hT.cB h;refine qw7 (hx.cB h) ah oJ λxl xr ks aM ao ap aa ab=>?_;have U:=E.q7 ab;have g:=g.cA h ab;have h:=qv h ab λ_ _ h=>nomatch h;refine oB h λaN aO _ f h=>oB h λaP aQ _ f h=>oD h 1 rfl (eN xl) λaR h f=>oD h 0 rfl (eN xr) λaT h f=>Ij h 5 rfl (jC k v pb t)<|Ij h 0 rfl xr ?_;have hH:(ef n C).1.J6.length<=100000/\(ef n C).1.Q0.length<=100000/\(ef n C).1.J9.length<=100000/\(ef n C).2.1.J6.length<=100000/\(ef n C).2.1.Q0.length<=100000/\(ef n C).2.1.J9.length<=100000:=by unfold ef;split<;>simp only[yK,yB]<;>omega
 refine uY (U.J0 h) (ap.J0 h) oJ oJ oJ λF1 au V J ac=>?_;have ad:=(ao.J0 h).next J ac;have ae:=qsY (pT aa h) J ac;have g:=g.next h J ac;have h:=(U.J0 h).own h J;apply dX<;>intro G;have av:(dP k v M 0 (ef n C).2.1).1.2≠0:=by rw[zT] at G;exact zR.1 G
 have e:fX k v M p n J8=((oq,(dP k v M 0 (ef n C).2.1).1.2),(dP k v M 0 (ef n C).2.1).2):=(by unfold fX;rw[iP I,ai,iP av]);rw[e] at kk;exact oD h 3 rfl (pK (0,false,dH,0)) λaw h f=>Ij h 3 rfl (0,false,dH,0)<|kk dH F1 aw Fg (V.J0 h).j7 (.nil _ _ _ _) (g.fr h) g.new;have he:¬(dP k v M 0 (ef n C).2.1).1.2≠0:=λe=>by rw[yD,yO] at G;exact e G
 refine Ij h 1 rfl xl<|oD h 4 rfl (eN xl) λaV h f=>oG h 2 rfl (pK (0,J8,dH,(dP k v M 0 (ef n C).2.1).1.1)) rfl rfl (zO rfl) λaW h f=>oG h 2 rfl (pK (0,J8,ks,(dP k v M 0 (ef n C).2.1).1.1)) rfl rfl (zO rfl) λaX h f=>⟨xl,(ef n C).1,ks,(ef n C).2.2,_,F1,_,au,_,g,V,h.sub (.cons _ (.cons _ (.refl _))),ad,ae,hH.1,hH.2.1,hH.2.2.1,uT hT.wf ⟨oM,oM⟩,?_,?_⟩;unfold ef;split;exact sX hx.2.1.1 _;exact sX hx.2.1.1 _;unfold fX;rw[iP I,ai,iN he];have I:¬(eT n k v).1>(eT n k v).2:=(by have:=zB I;dsimp only at this;omega);refine⟨x,n,dH,[],0,F,[],w0,M,g,hT,h,hx,.nil _ _ _ _,h1,h2,h3,⟨oM,oM⟩,.nil,?_⟩;unfold fX;rw[iN I];rintro aY aZ ⟨x',n',ks,key,o,F1,T,wa,M',g,E,h,ax,ay,l1,l2,l3,uo,bk,e⟩;rw[e] at kk;refine Ij h 3 rfl (jC k v pb t)<|Ij h 2 rfl x'<|uY (E.J0 h) (ax.J0 h) oJ oJ oJ λF2 a2 aj af ak=>?_;have aa:=qsY (pT ay h) af ak;have g:=g.next h af ak
 have h:=(E.J0 h).own h af;exact oD h 0 rfl (pK ((dP k v M' p n').1.1,J8,ks,o)) λa3 h f=>Ij h 0 rfl ((dP k v M' p n').1.1,J8,ks,o)<|oD h 1 rfl (pK ((dP k v M' p n').1.1,J8,ks,o)) λaz h f=>Ij h 1 rfl ((dP k v M' p n').1.1,J8,ks,o)<|kk ks F2 az ⟨uT E.wf hp,uo,bk⟩ (aj.J0 h).j7 (EQ (pT aa h)) (g.fr h) g.new
end
end
section
section
variable {Z:Ik} {w w':Ic} {s:Sl} {l:List Key} {B:Ik}
def qqo{α β:Type}(f:α->β)(l:List α)(i:Nat)(x:α):(fI l i x).map f=fI (l.map f) i (f x):=by unfold fI;rw[xM,xM,xO,xP];rfl
def qqa{α β:Type}(f:α->β)(l:List α)(i:Nat):(gN l i).map f=gN (l.map f) i:=by unfold gN;rw[xM,xO,xP]
def DG{α:Type}{l:List α}{y:α}(h:y∈gN l i):y∈l:=by unfold gN at h;exact (zD.1 h).elim yU yT
abbrev mu (Z:Ik) (w:Ic) (Z':Ik):Prop:=∀b∈Z',b∈Z\/w.heap.size<=b
def BS{pk pk':ph}{Z':Ik}{E:Sl}{B':Ik}{l':List Key}(G:∀p∈pk,en Z w p.1 p.2)(u:eU gq 1 w' E (iv pk') B')(e:ga pk'=l')(f:Fr B w w')(C:∀b∈B,b∈Z)(I:mu Z w Z')(J:∀p∈pk',p∈pk\/en Z w p.1 p.2):iZ Z' w' E l' B':=
 ⟨pk',u,e,λp h=>((J p h).elim (G p) id).q8 (f.mono λb u _=>C b u) I⟩
def iZ.ins{ii:Int}{ks:Sl}{key:Key}{vb:Nat}{T':If}(h:iZ Z w s l B)(C:∀b∈B,b∈Z)(hi:i<=l.length)(J:ii=i)(I:l.length<=100000)(R:w.heap[vb]?=some (.c #[fT ks] T'))(E:vb∉B)(U:en Z w ks key)(V:∀u B' w',(∀Z',mu Z w Z'->iZ Z' w' u (fI l i key) B')->Fr B w w'->(∀b∈B',b∈B\/w.heap.size<=b)->K u w'): cW 165 [s.v,.i ii,.slice (pW vb) 1 1] dh w K:=by obtain⟨pk,hb,rfl,G⟩:=h;rw[zK] at hi I;refine quZ hb (by rw[zK];exact hi) J (by rw[zK];exact I) R E λu B' w' b' f n=>V u B' w' (λZ' hZ=>BS (pk':=fI pk i (ks,key)) G (by rw[show iv (fI pk i (ks,key))=fI (iv pk) i ks from qqo _ _ _ _];exact b') (qqo _ _ _ _) f C hZ λp G=>?_) f n;rcases CE G with rfl|h;exact .inr U;exact .inl h
def iZ.del{ii jj:Int}(h:iZ Z w s l B)(C:∀b∈B,b∈Z)(hi:i<l.length)(I:ii=i)(J:jj=((i+1:Nat):Int))(G:l.length<=100000)(R:∀u w',(∀Z',mu Z w Z'->iZ Z' w' u (gN l i) B)->Fr B w w'->K u w'): cW 168 [s.v,.i ii,.i jj] dh w K:=by obtain⟨pk,U,rfl,E⟩:=h;rw[zK] at hi G;exact quW U (by rw[zK];exact hi) I J (by rw[zK];exact G) λu w' b' f=>R u w' (λZ' V=>BS (pk':=gN pk i) E (by rw[show iv (gN pk i)=gN (iv pk) i from qqa _ _ _];exact b') (qqa _ _ _) f C V λp E=>.inl (DG E)) f
def iZ.set{i:Nat}{ii:Int}{ks:Sl}{key:Key}{K:WP}(h:iZ Z w s l B)(u:∀b∈B,b∈Z)(hi:i<l.length)(G:ii=i)(I:en Z w ks key)(J:∀w',(∀Z',mu Z w Z'->iZ Z' w' s (l.set i key) B)->Fr B w w'->K w'):idx s ii 1 λa=>st a [ks.v] w K:=by obtain⟨pk,E,rfl,C⟩:=h;rw[zK] at hi;refine eU.vn E G (by rw[zK];exact hi) λb R=>?_;subst R;refine eU.BC (e:=fT) (x:=ks) (λ_=>rfl) E (by rw[zK];exact hi) rfl rfl λw' b' f=>J w' (λZ' U=>BS (pk':=pk.set i (ks,key)) C (by rw[show iv (pk.set i (ks,key))=(iv pk).set i ks from map_set];exact b') (map_set) f u U λp C=>?_) f;rcases mem_or_eq_of_mem_set C with h|rfl;exact .inl h;exact .inr I
def iZ.B0{ks:Sl}{key:Key}{vb:Nat}{T':If}(h:iZ Z w s l B)(C:∀b∈B,b∈Z)(G:l.length<=100000)(I:w.heap[vb]?=some (.c #[fT ks] T'))(J:en Z w ks key)(R:∀u B' w',(∀Z',mu Z w Z'->iZ Z' w' u (l++[key]) B')->Fr B w w'->(∀b∈B',b∈B\/w.heap.size<=b)->K u w'): Pt.run dh ((Builtin.append_ #[171,171] 171 #[s.v,.slice (pW vb) 1 1]).run prog w) K:=by obtain⟨pk,U,rfl,E⟩:=h;rw[zK] at G;refine pF U (by rw[zK];exact G) I λu B' w' b' f n=>R u B' w' (λZ' V=>BS (pk':=pk++[(ks,key)]) E (by rw[show iv (pk++[(ks,key)])=iv pk++[ks] by simp];exact b') oL f C V λp E=>?_) f n;rcases zD.1 E with h|h;exact .inl h;rw[zE.1 h];exact .inr J
def iZ.t8(h:iZ Z w s l B)(E:∀b∈B,b∈Z)(V:l.length+ps.length<=100000)(u:ee gq 1 S w src (iv ps))(G:∀p∈ps,en Z w p.1 p.2)(kk:∀C B' w',(∀Z',mu Z w Z'->iZ Z' w' C (l++ga ps) B')->Fr B w w'->(∀b∈B',b∈B\/w.heap.size<=b)->K C w'): Pt.run dh ((Builtin.append_ #[171,171] 171 #[s.v,src.v]).run prog w) K:=by obtain⟨pk,hb,rfl,I⟩:=h;rw[zK] at V;obtain⟨ac,J,hz,R,U⟩:=CP;refine eU.j1 (ys:=iv ps) (e:=101) hb vQ oK J hz R rfl (ui (e':=101) u vQ qwZ oK) u.1 (by rw[U,zK,u.1,zK];omega) (by rw[zK,u.1,zK];omega) λC B' w' b' f n _=>kk C B' w' (λZ' hZ=>BS (pk':=pk++ps) I (by rw[show iv (pk++ps)=iv pk++iv ps by simp];exact b') oL f E hZ λp I=>?_) f n;rcases zD.1 I with h|h;exact .inl h;exact .inr (G p h)
def qzO{l ys:Il}(h:eU iw 1 w s l B)(hl:l.length+ys.length<=100000)(C:ee iw 1 S w src ys)(R:∀E B' w',eU iw 1 w' E (l++ys) B'->Fr B w w'->(∀b∈B',b∈B\/w.heap.size<=b)->K E w'): Pt.run dh ((Builtin.append_ #[172,172] 172 #[s.v,src.v]).run prog w) K:=by obtain⟨U,G,V,I,J⟩:=vF;exact eU.j1 (ys:=ys) (e:=63) h qZ oK G V I rfl (ui (e':=63) C qZ (λx u hu=>by rw[zE.1 hu];rfl) oK) C.1 (by rw[J,C.1];omega) (by rw[C.1];omega) λE B' w' b' f n _=>R E B' w' b' f n
def qBG{l:Il}{ii x:Int}{K:WP}(h:eU iw 1 w s l B)(hi:i<l.length)(C:ii=i)(E:∀w',eU iw 1 w' s (l.set i x) B->Fr B w w'->K w'):idx s ii 1 λa=>st a [.u x] w K:=by refine eU.vn h C hi λb G=>?_;subst G;exact eU.BC (e:=na) (x:=x) (λ_=>rfl) h hi rfl rfl E
end
section
variable {Z:Ik} {w:Ic} {x:kz} {n:dM} {B:Ik}
def fh.re(h:fh Z w x n B):∃Bk,iZ Z w x.2.1 n.J6 Bk/\(∀b∈Bk,b∈B)/\∀G E Bk' w',Fr Bk w w'->(∀b∈Bk,b∈Z)->(∀b∈Bk',b∈Bk\/w.heap.size<=b)->(∀a∈E,eI a)-> ∃B',(∀b∈B',b∈B\/w.heap.size<=b)/\∀Z',mu Z w Z'->iZ Z' w' G E Bk'->fh Z' w' (x.1,G,x.2.2) { n with J6:=E } B':=by
 obtain⟨h0,I,Bk,Bv,Bi,rfl,J,hk,hv,hi⟩:=h;obtain⟨n1,n2,R⟩:=yL.1 J;refine⟨Bk,hk,λb u=>by simp[u],λG E Bk' w' f hz nk hl=>⟨Bk'++(Bv++Bi),λb u=>?_,λZ' hZ C=>⟨h0,⟨hl,I.2⟩,Bk',Bv,Bi,rfl,?_,C,hv.q8 f (λb u U=>R b U b (by simp[u]) rfl) (λb u=>.inl (hz b u)) hZ,hi.q8 f λb u U=>R b U b (by simp[u]) rfl⟩⟩⟩;rcases zD.1 u with u|u;exact (nk b u).imp (λh=>by simp[h]) id;exact .inl (zI _ u);have V:Bk'.Nodup:=(by obtain⟨_,u,_⟩:=C;exact yd u);refine yL.2 ⟨V,n2,λa ha b u e=>?_⟩;subst e;rcases nk a ha with h1|h1;exact R a h1 a u rfl;rcases zD.1 u with u|u;have:=hv.lt a u;omega;have:=hi.lt a u;omega
def fh.qQ(h:fh Z w x n B):∃E,iZ Z w x.2.2.1 n.Q0 E/\(∀b∈E,b∈B)/\∀V U C w',Fr E w w'->(∀b∈E,b∈Z)->(∀b∈C,b∈E\/w.heap.size<=b)->(∀a∈U,eI a)-> ∃B',(∀b∈B',b∈B\/w.heap.size<=b)/\∀Z',mu Z w Z'->iZ Z' w' V U C->fh Z' w' (x.1,x.2.1,V,x.2.2.2) { n with Q0:=U } B':=by
 obtain⟨h0,G,Bk,E,Bi,rfl,aa,hk,hv,hi⟩:=h;obtain⟨n1,n2,n3⟩:=yL.1 aa;obtain⟨m1,m2,m3⟩:=yL.1 n2;refine⟨E,hv,λb u=>by simp[u],λV U C w' f hz nv hl=>⟨Bk++(C++Bi),λb u=>?_,λZ' hZ I=>⟨h0,⟨G.1,hl,G.2.2⟩,Bk,C,Bi,rfl,?_,hk.q8 f (λb u hm=>n3 b u b (by simp[hm]) rfl) (λb u=>.inl (hz b u)) hZ,I,hi.q8 f λb u hm=>m3 b hm b u rfl⟩⟩⟩;simp only[zD] at u⊢;rcases u with u|u|u;exact .inl (.inl u);exact (nv b u).imp (λh=>.inr (.inl h)) id;exact .inl (.inr (.inr u));have ae:C.Nodup:=(by obtain⟨_,u,_⟩:=I;exact yd u);refine yL.2 ⟨n1,yL.2 ⟨ae,m2,λa J b u e=>?_⟩,λa J b u e=>?_⟩;subst e;rcases nv a J with R|R;exact m3 a R a u rfl;have:=hi.lt a u;omega;subst e;rcases zD.1 u with u|u;rcases nv a u with R|R;exact n3 a J a (by simp[R]) rfl;have:=hk.lt a J;omega;exact n3 a J a (by simp[u]) rfl
def fh.qR(h:fh Z w x n B):∃E,eU iw 1 w x.2.2.2 n.J9 E/\(∀b∈E,b∈B)/\∀V U C w',Fr E w w'->(∀b∈E,b∈Z)->(∀b∈C,b∈E\/w.heap.size<=b)->(∀a∈U,gE a)-> ∃B',(∀b∈B',b∈B\/w.heap.size<=b)/\∀Z',mu Z w Z'->eU iw 1 w' V U C->fh Z' w' (x.1,x.2.1,x.2.2.1,V) { n with J9:=U } B':=by
 obtain⟨h0,I,Bk,Bv,E,rfl,aa,hk,hv,hi⟩:=h;obtain⟨n1,n2,n3⟩:=yL.1 aa;obtain⟨m1,m2,m3⟩:=yL.1 n2;refine⟨E,hi,λb u=>by simp[u],λV U C w' f hz ni hl=>⟨Bk++(Bv++C),λb u=>?_,λZ' hZ J=>⟨h0,⟨I.1,I.2.1,hl⟩,Bk,Bv,C,rfl,?_,hk.q8 f (λb u hm=>n3 b u b (by simp[hm]) rfl) (λb u=>.inl (hz b u)) hZ,hv.q8 f (λb u hm=>m3 b u b hm rfl) (λb u=>.inl (hz b u)) hZ,J⟩⟩⟩;simp only[zD] at u⊢;rcases u with u|u|u;exact .inl (.inl u);exact .inl (.inr (.inl u));exact (ni b u).imp (λh=>.inr (.inr h)) id;refine yL.2 ⟨n1,yL.2 ⟨m1,yd J,λa G b u e=>?_⟩,λa G b u e=>?_⟩;subst e;rcases ni a u with R|R;exact m3 a G a R rfl;have:=hv.lt a G;omega;subst e;rcases zD.1 u with u|u;exact n3 a G a (by simp[u]) rfl;rcases ni a u with R|R;exact n3 a G a (by simp[R]) rfl;have:=hk.lt a G;omega
end
structure Ed (dbk pb:Nat) (FD:Ik) (D:dJ) (j:Nat) (S0 N0:Ik) (w0 wa:Ic) (T Y F:Ik) (M:dV) (x:kz) (n:dM) (B:Ik):Prop where
 sg:Sg S0 w0 wa F T
 tw:TW dbk pb FD D j wa (T++(B++Y)) F M
 node:fh (Zo FD (T++(B++Y)) F) wa x n B
 sep:∀ b∈T,b∉B
 cE:∀ b∈B,b∈N0\/w0.heap.size<=b
 cR:∀ b∈N0,b∈S0
 cK:∀ b∈B,b∉Y
section
variable {dbk pb j:Nat} {FD S0 N0 Y F F' T B B':Ik} {D:dJ} {w0 wa w w':Ic} {M M':dV} {L:Ip} {x x':kz} {n n':dM}
def Ed.J0(e:Ed dbk pb FD D j S0 N0 w0 wa T Y F M x n B)(h:dR T wa w L):Ed dbk pb FD D j S0 N0 w0 w (fk L) Y F M x n B where
 sg:=⟨e.sg.fr h,e.sg.new,e.sg.fk h⟩
 tw:=e.tw.J0 h
 node:=e.node.q8 h.fr (λb u C=>e.sep b C u) (λb u=>.inl (by simp[u])) (Dw h)
 sep:=λb u C=>by
  obtain⟨q,G,rfl⟩:=mem_map.1 u;rcases h.own q G with E|E;exact e.sep _ E C;have:=e.node.lt _ C;omega
 cE:=e.cE
 cR:=e.cR
 cK:=e.cK
def Ed.rd(e:Ed dbk pb FD D j S0 N0 w0 wa T Y F M x n B):∀b∈B,b∈Zo FD (T++(B++Y)) F:=λb h=>by simp[h]
def Ed.mV{Bk:Ik}(e:Ed dbk pb FD D j S0 N0 w0 w (fk L) Y F M x n B)(h:dR T wa w L)(G:∀b∈Bk,b∈B)(f:Fr Bk w w')(J:fh (Zo FD (fk L++(B'++Y)) F) w' x' n' B')(E:∀b∈B',b∈B\/w.heap.size<=b):Ed dbk pb FD D j S0 N0 w0 w' (fk L) Y F M x' n' B'/\dR (fk L) w' w' L:=by
 refine⟨⟨⟨e.sg.pY.j8 f λb u=>(e.cE b (G b u)).imp (e.cR b) id,e.sg.new,e.sg.own⟩,e.tw.cM (f.mono λb u _=>by simp[G b u]) (λb u=>?_) λb u=>?_,J,λb u I=>?_,λb u=>(E b u).elim (e.cE b) λC=>.inr (zL e.sg.pY.size C),e.cR,λb u R=>?_⟩,qv h f λb u I=>e.sep b u (G b I)⟩;rcases zD.1 u with u|u;exact yC (e.tw.qw b (by simp[u])) f.size;rcases zD.1 u with u|u;exact J.lt b u;exact yC (e.tw.qw b (by simp[u])) f.size;rcases zD.1 u with u|u;exact .inl (by simp[u]);rcases zD.1 u with u|u;exact (E b u).imp (λh=>by simp[h]) id;exact .inl (by simp[u]);rcases E b I with C|C;exact e.sep b u C;have:=e.tw.qw b (by simp[u]);omega;rcases E b u with C|C;exact e.cK b C R;have:=e.tw.qw b (by simp[R]);omega
def Ed.fc(e:Ed dbk pb FD D j S0 N0 w0 w T Y F M x n B)(C:∀b∈B',b∈B\/w.heap.size<=b):mu (Zo FD (T++(B++Y)) F) w (Zo FD (T++(B'++Y)) F):=λb u=>by simp only[Zo,zD,zG] at u⊢;rcases u with (u|u|u|u|u)|u;simp[u];simp[u];simp[u];exact (C b u).imp (λh=>by simp[h]) id;simp[u];simp[u]
def Ed.next(e:Ed dbk pb FD D j S0 N0 w0 w (fk L) Y F M x n B)(h:dR T wa w L)(E:TW dbk pb FD D j w' (fk L++(B++Y)) F' M')(f:Fr F w w')(C:∀b∈F',b∈F\/w.heap.size<=b):Ed dbk pb FD D j S0 N0 w0 w' (fk L) Y F' M' x n B/\dR (fk L) w' w' L:=by have G:∀b∈fk L,b∉F:=λb u=>e.tw.yf b (by simp[u]);refine⟨⟨⟨e.sg.pY.j8 f e.sg.new,λb u=>(C b u).elim (e.sg.new b) λI=>.inr (zL e.sg.pY.size I),e.sg.own⟩,E,e.node.q8 f (λb u=>e.tw.yf b (by simp[u])) (λb u=>.inl (uX u)) (TW.uS C),e.sep,e.cE,e.cR,e.cK⟩,qv h f G⟩
def Ed.cA(e:Ed dbk pb FD D j S0 N0 w0 w (fk L) Y F M x n B)(h:dR T wa w L)(f:Fr [] w w'):Ed dbk pb FD D j S0 N0 w0 w' (fk L) Y F M x n B/\dR (fk L) w' w' L:=
 e.next h (e.tw.q7 f) (f.mono λ_ h=>nomatch h) λb u=>.inl u
def Ed.y9(e:Ed dbk pb FD D j S0 N0 w0 w T Y F M x n B):eF (Zo FD (T++Y) F) w x n:=
 e.node.rd (λb h u=>by
  simp only[Zo,zD,zG] at u;have C:=e.tw.sep b (by simp[h]);rcases u with (u|u|u|u)|u;exact C.1 u;exact C.2 u;exact e.sep b u h;exact e.cK b h u;exact e.tw.yf b (by simp[h]) u) λb h=>.inl (by
  simp only[Zo,zD,zG] at h⊢;rcases h with (h|h|h|h)|h<;>simp[h])
def Ed.qz(e:Ed dbk pb FD D j S0 N0 w0 w T Y F M x n B):TW dbk pb FD D j w (T++Y) F M:=e.tw.y0 λb u=>(zD.1 u).elim (λh=>by simp[h]) λh=>by simp[h]
end
end
section
section
variable {dbk pb j:Nat} {FD S0 N0 Y F F' F0 T T1 B B' Bk Bk':Ik} {D:dJ} {w0 wa w w':Ic} {M M':dV} {L:Ip} {x x':kz} {n n':dM} {i q:Nat} {ii jj:Int} {ks:Sl} {key:Key} {vb:Nat} {T':If}
structure mz (FD Y F B B':Ik) (T:Ik) (w w':Ic):Prop where
 cT:∀ s l,en (Zo FD (T++(B++Y)) F) w s l->en (Zo FD (T++(B'++Y)) F) w' s l
 node:∀ x n,eF (Zo FD (T++(B++Y)) F) w x n->eF (Zo FD (T++(B'++Y)) F) w' x n
def Ed.jV(e:Ed dbk pb FD D j S0 N0 w0 w T Y F M x n B)(C:∀b∈Bk,b∈B)(f:Fr Bk w w')(E:∀b∈B',b∈B\/w.heap.size<=b):mz FD Y F B B' T w w':=⟨λs l h=>h.q8 (f.mono λb u _=>by simp[C b u]) (e.fc E),λx n h=>h.q8 (f.mono λb u _=>by simp[C b u]) (e.fc E)⟩
def Ed.cT(e:Ed dbk pb FD D j F0 N0 w0 w T Y F M x n B)(C:en (Zo FD Y F0) w0 s l):en (Zo FD (T++(B++Y)) F) w s l:=
 C.q8 (e.sg.pY.mono λb u _=>uX u) λb u=>by rcases zD.1 u with u|u;rcases zD.1 u with u|u;exact .inl (by simp[u]);rcases zG.1 u with u|u;exact .inl (by simp[u]);rcases zD.1 u with u|u;exact (e.sg.own b u).imp (λh=>uX h) id;rcases zD.1 u with u|u;exact (e.cE b u).imp (λh=>uX (e.cR b h)) id;exact .inl (by simp[u]);exact (e.sg.new b u).imp (λh=>uX h) id
def Ed.sub(e:Ed dbk pb FD D j S0 N0 w0 w T Y F M x n B)(C:∀b∈T1,b∈T):Ed dbk pb FD D j S0 N0 w0 w T1 Y F M x n B where
 sg:=⟨e.sg.pY,e.sg.new,λb u=>e.sg.own b (C b u)⟩
 tw:=e.tw.y0 λb u=>(zD.1 u).elim (λh=>zH _ (C b h)) λh=>zI _ h
 node:=e.node.j6 λb u=>.inl (by simp only[Zo,zD,zG] at u⊢;rcases u with (u|u|u|u)|u;simp[u];simp[u];simp[C b u];simp[u];simp[u])
 sep:=λb u=>e.sep b (C b u)
 cE:=e.cE
 cR:=e.cR
 cK:=e.cK
def D6{L:Ip}{q vb:Nat}{o:Obj}(h:L[q]?=some (vb,o)):vb∈fk L:=mem_map.2 ⟨_,yE h,rfl⟩
def Ed.cO(e:Ed dbk pb FD D j S0 N0 w0 w (fk L) Y F M x n B)(h:dR T wa w L)(hi:i<=n.J6.length)(R:ii=i)(U:n.J6.length<=100000)(q:Nat)(J:L[q]?=some (vb,.c #[fT ks] T'))(V:en (Zo FD (fk L++(B++Y)) F) w ks key)(hB:eI key)(kk:∀C B' w',Ed dbk pb FD D j S0 N0 w0 w' (fk L) Y F M (x.1,C,x.2.2) { n with J6:=fI n.J6 i key } B'->dR (fk L) w' w' L->mz FD Y F B B' (fk L) w w'->K C w'): cW 165 [x.2.1.v,.i ii,.slice (pW vb) 1 1] dh w K:=by obtain⟨Bk,E,u,I⟩:=e.node.re;refine E.ins (λb E=>e.rd b (u b E)) hi R U (h.at J) (λhm=>e.sep vb (D6 J) (u vb hm)) V λC Bk' w' hz f nk=>?_;obtain⟨B',G,hN⟩:=I C _ Bk' w' f (λb E=>e.rd b (u b E)) nk λa ha=>(CE ha).elim (λh=>by rw[h];exact hB) (e.node.2.1.1 a);obtain⟨e',h'⟩:=e.mV h u f (hN _ (e.fc G) (hz _ (e.fc G))) G;exact kk C B' w' e' h' (e.jV u f G)
def Ed.sH(e:Ed dbk pb FD D j S0 N0 w0 w (fk L) Y F M x n B)(h:dR T wa w L)(hi:i<=n.Q0.length)(R:ii=i)(U:n.Q0.length<=100000)(q:Nat)(J:L[q]?=some (vb,.c #[fT ks] T'))(V:en (Zo FD (fk L++(B++Y)) F) w ks key)(hB:eI key)(kk:∀C B' w',Ed dbk pb FD D j S0 N0 w0 w' (fk L) Y F M (x.1,x.2.1,C,x.2.2.2) { n with Q0:=fI n.Q0 i key } B'->dR (fk L) w' w' L->mz FD Y F B B' (fk L) w w'->K C w'): cW 165 [x.2.2.1.v,.i ii,.slice (pW vb) 1 1] dh w K:=by obtain⟨Bk,E,u,I⟩:=e.node.qQ;refine E.ins (λb E=>e.rd b (u b E)) hi R U (h.at J) (λhm=>e.sep vb (D6 J) (u vb hm)) V λC Bk' w' hz f nk=>?_;obtain⟨B',G,hN⟩:=I C _ Bk' w' f (λb E=>e.rd b (u b E)) nk λa ha=>(CE ha).elim (λh=>by rw[h];exact hB) (e.node.2.1.2.1 a);obtain⟨e',h'⟩:=e.mV h u f (hN _ (e.fc G) (hz _ (e.fc G))) G;exact kk C B' w' e' h' (e.jV u f G)
def Ed.sE{G:Int}(e:Ed dbk pb FD D j S0 N0 w0 w (fk L) Y F M x n B)(h:dR T wa w L)(hi:i<=n.J9.length)(V:ii=i)(hl:n.J9.length<=100000)(q:Nat)(U:L[q]?=some (vb,.c #[.u G] T'))(hB:gE G)(kk:∀E B' w',Ed dbk pb FD D j S0 N0 w0 w' (fk L) Y F M (x.1,x.2.1,x.2.2.1,E) { n with J9:=fI n.J9 i G } B'->dR (fk L) w' w' L->mz FD Y F B B' (fk L) w w'->K E w'): cW 167 [x.2.2.2.v,.i ii,.slice (pW vb) 1 1] dh w K:=by obtain⟨Bk,I,C,J⟩:=e.node.qR;refine qu0 I hi V hl (h.at U) (λhm=>e.sep vb (D6 U) (C vb hm)) λE Bk' w' hz f nk=>?_;obtain⟨B',R,hN⟩:=J E _ Bk' w' f (λb I=>e.rd b (C b I)) nk λa ha=>(CE ha).elim (λh=>by rw[h];exact hB) (e.node.2.1.2.2 a);obtain⟨e',h'⟩:=e.mV h C f (hN _ (e.fc R) hz) R;exact kk E B' w' e' h' (e.jV C f R)
def Ed.A7(e:Ed dbk pb FD D j S0 N0 w0 w (fk L) Y F M x n B)(h:dR T wa w L)(hi:i<n.J6.length)(J:ii=i)(R:jj=((i+1:Nat):Int))(U:n.J6.length<=100000)(V:∀E B' w',Ed dbk pb FD D j S0 N0 w0 w' (fk L) Y F M (x.1,E,x.2.2) { n with J6:=gN n.J6 i } B'->dR (fk L) w' w' L->mz FD Y F B B' (fk L) w w'->K E w'): cW 168 [x.2.1.v,.i ii,.i jj] dh w K:=by obtain⟨Bk,C,u,I⟩:=e.node.re;refine C.del (λb C=>e.rd b (u b C)) hi J R U λE w' hz f=>?_;obtain⟨B',G,hN⟩:=I E _ Bk w' f (λb C=>e.rd b (u b C)) (λb C=>.inl C) λa ha=>e.node.2.1.1 a (DG ha);obtain⟨e',h'⟩:=e.mV h u f (hN _ (e.fc G) (hz _ (e.fc G))) G;exact V E B' w' e' h' (e.jV u f G)
def Ed.Eu(e:Ed dbk pb FD D j S0 N0 w0 w (fk L) Y F M x n B)(h:dR T wa w L)(hi:i<n.Q0.length)(J:ii=i)(R:jj=((i+1:Nat):Int))(U:n.Q0.length<=100000)(V:∀E B' w',Ed dbk pb FD D j S0 N0 w0 w' (fk L) Y F M (x.1,x.2.1,E,x.2.2.2) { n with Q0:=gN n.Q0 i } B'->dR (fk L) w' w' L->mz FD Y F B B' (fk L) w w'->K E w'): cW 168 [x.2.2.1.v,.i ii,.i jj] dh w K:=by obtain⟨Bk,C,u,I⟩:=e.node.qQ;refine C.del (λb C=>e.rd b (u b C)) hi J R U λE w' hz f=>?_;obtain⟨B',G,hN⟩:=I E _ Bk w' f (λb C=>e.rd b (u b C)) (λb C=>.inl C) λa ha=>e.node.2.1.2.1 a (DG ha);obtain⟨e',h'⟩:=e.mV h u f (hN _ (e.fc G) (hz _ (e.fc G))) G;exact V E B' w' e' h' (e.jV u f G)
def Ed.GU(e:Ed dbk pb FD D j S0 N0 w0 w (fk L) Y F M x n B)(h:dR T wa w L)(hi:i<n.J9.length)(J:ii=i)(R:jj=((i+1:Nat):Int))(U:n.J9.length<=100000)(V:∀C B' w',Ed dbk pb FD D j S0 N0 w0 w' (fk L) Y F M (x.1,x.2.1,x.2.2.1,C) { n with J9:=gN n.J9 i } B'->dR (fk L) w' w' L->mz FD Y F B B' (fk L) w w'->K C w'): cW 239 [x.2.2.2.v,.i ii,.i jj] dh w K:=by obtain⟨Bk,E,u,G⟩:=e.node.qR;refine quX E hi J R U λC w' hz f=>?_;obtain⟨B',I,hN⟩:=G C _ Bk w' f (λb E=>e.rd b (u b E)) (λb E=>.inl E) λa ha=>e.node.2.1.2.2 a (DG ha);obtain⟨e',h'⟩:=e.mV h u f (hN _ (e.fc I) hz) I;exact V C B' w' e' h' (e.jV u f I)
def Ed.AG{K:WP}(e:Ed dbk pb FD D j S0 N0 w0 w (fk L) Y F M x n B)(h:dR T wa w L)(hi:i<n.J6.length)(I:ii=i)(J:en (Zo FD (fk L++(B++Y)) F) w ks key)(R:eI key)(U:∀B' w',Ed dbk pb FD D j S0 N0 w0 w' (fk L) Y F M (x.1,x.2.1,x.2.2) { n with J6:=n.J6.set i key } B'->dR (fk L) w' w' L->mz FD Y F B B' (fk L) w w'->K w'): idx x.2.1 ii 1 λa=>st a [ks.v] w K:=by
 obtain⟨Bk,C,u,G⟩:=e.node.re;refine C.set (λb C=>e.rd b (u b C)) hi I J λw' V f=>?_;obtain⟨B',E,hN⟩:=G x.2.1 _ Bk w' f (λb C=>e.rd b (u b C)) (λb C=>.inl C) λa ha=>(mem_or_eq_of_mem_set ha).elim (e.node.2.1.1 a) λh=>by rw[h];exact R
 obtain⟨e',h'⟩:=e.mV h u f (hN _ (e.fc E) (V _ (e.fc E))) E;exact U B' w' e' h' (e.jV u f E)
def Ed.Fd{K:WP}(e:Ed dbk pb FD D j S0 N0 w0 w (fk L) Y F M x n B)(h:dR T wa w L)(hi:i<n.Q0.length)(I:ii=i)(J:en (Zo FD (fk L++(B++Y)) F) w ks key)(R:eI key)(U:∀B' w',Ed dbk pb FD D j S0 N0 w0 w' (fk L) Y F M (x.1,x.2.1,x.2.2.1,x.2.2.2) { n with Q0:=n.Q0.set i key } B'->dR (fk L) w' w' L->mz FD Y F B B' (fk L) w w'->K w'): idx x.2.2.1 ii 1 λa=>st a [ks.v] w K:=by
 obtain⟨Bk,C,u,G⟩:=e.node.qQ;refine C.set (λb C=>e.rd b (u b C)) hi I J λw' V f=>?_;obtain⟨B',E,hN⟩:=G x.2.2.1 _ Bk w' f (λb C=>e.rd b (u b C)) (λb C=>.inl C) λa ha=>(mem_or_eq_of_mem_set ha).elim (e.node.2.1.2.1 a) λh=>by rw[h];exact R
 obtain⟨e',h'⟩:=e.mV h u f (hN _ (e.fc E) (V _ (e.fc E))) E;exact U B' w' e' h' (e.jV u f E)
def Ed.tY{G:Int}{K:WP}(e:Ed dbk pb FD D j S0 N0 w0 w (fk L) Y F M x n B)(h:dR T wa w L)(hi:i<n.J9.length)(R:ii=i)(U:gE G)(V:∀B' w',Ed dbk pb FD D j S0 N0 w0 w' (fk L) Y F M (x.1,x.2.1,x.2.2.1,x.2.2.2) { n with J9:=n.J9.set i G } B'->dR (fk L) w' w' L->mz FD Y F B B' (fk L) w w'->K w'): idx x.2.2.2 ii 1 λa=>st a [.u G] w K:=by
 obtain⟨Bk,E,C,I⟩:=e.node.qR;refine qBG E hi R λw' hz f=>?_;obtain⟨B',J,hN⟩:=I x.2.2.2 _ Bk w' f (λb E=>e.rd b (C b E)) (λb E=>.inl E) λa ha=>(mem_or_eq_of_mem_set ha).elim (e.node.2.1.2.2 a) λh=>by rw[h];exact U
 obtain⟨e',h'⟩:=e.mV h C f (hN _ (e.fc J) hz) J;exact V B' w' e' h' (e.jV C f J)
def Ed.pF(e:Ed dbk pb FD D j S0 N0 w0 w (fk L) Y F M x n B)(h:dR T wa w L)(J:n.J6.length<=100000)(q:Nat)(R:L[q]?=some (vb,.c #[fT ks] T'))(U:en (Zo FD (fk L++(B++Y)) F) w ks key)(V:eI key)(kk:∀C B' w',Ed dbk pb FD D j S0 N0 w0 w' (fk L) Y F M (x.1,C,x.2.2) { n with J6:=n.J6++[key] } B'->dR (fk L) w' w' L->mz FD Y F B B' (fk L) w w'->K C w'): Pt.run dh ((Builtin.append_ #[171,171] 171 #[x.2.1.v,.slice (pW vb) 1 1]).run prog w) K:=by
 obtain⟨Bk,E,u,I⟩:=e.node.re;refine E.B0 (λb E=>e.rd b (u b E)) J (h.at R) U λC Bk' w' hz f nk=>?_;obtain⟨B',G,hN⟩:=I C _ Bk' w' f (λb E=>e.rd b (u b E)) nk λa ha=>(zD.1 ha).elim (e.node.2.1.1 a) λh=>by rw[zE.1 h];exact V
 obtain⟨e',h'⟩:=e.mV h u f (hN _ (e.fc G) (hz _ (e.fc G))) G;exact kk C B' w' e' h' (e.jV u f G)
def Ed.wH(e:Ed dbk pb FD D j S0 N0 w0 w (fk L) Y F M x n B)(h:dR T wa w L)(J:n.Q0.length<=100000)(q:Nat)(R:L[q]?=some (vb,.c #[fT ks] T'))(U:en (Zo FD (fk L++(B++Y)) F) w ks key)(V:eI key)(kk:∀C B' w',Ed dbk pb FD D j S0 N0 w0 w' (fk L) Y F M (x.1,x.2.1,C,x.2.2.2) { n with Q0:=n.Q0++[key] } B'->dR (fk L) w' w' L->mz FD Y F B B' (fk L) w w'->K C w'): Pt.run dh ((Builtin.append_ #[171,171] 171 #[x.2.2.1.v,.slice (pW vb) 1 1]).run prog w) K:=by
 obtain⟨Bk,E,u,I⟩:=e.node.qQ;refine E.B0 (λb E=>e.rd b (u b E)) J (h.at R) U λC Bk' w' hz f nk=>?_;obtain⟨B',G,hN⟩:=I C _ Bk' w' f (λb E=>e.rd b (u b E)) nk λa ha=>(zD.1 ha).elim (e.node.2.1.2.1 a) λh=>by rw[zE.1 h];exact V
 obtain⟨e',h'⟩:=e.mV h u f (hN _ (e.fc G) (hz _ (e.fc G))) G;exact kk C B' w' e' h' (e.jV u f G)
def Ed.wj{G:Int}(e:Ed dbk pb FD D j S0 N0 w0 w (fk L) Y F M x n B)(h:dR T wa w L)(U:n.J9.length<=100000)(q:Nat)(V:L[q]?=some (vb,.c #[.u G] T'))(hB:gE G)(kk:∀E B' w',Ed dbk pb FD D j S0 N0 w0 w' (fk L) Y F M (x.1,x.2.1,x.2.2.1,E) { n with J9:=n.J9++[G] } B'->dR (fk L) w' w' L->mz FD Y F B B' (fk L) w w'->K E w'): Pt.run dh ((Builtin.append_ #[172,172] 172 #[x.2.2.2.v,.slice (pW vb) 1 1]).run prog w) K:=by
 obtain⟨Bk,I,C,J⟩:=e.node.qR;refine que I U (h.at V) λE Bk' w' hz f nk=>?_;obtain⟨B',R,hN⟩:=J E _ Bk' w' f (λb I=>e.rd b (C b I)) nk λa ha=>(zD.1 ha).elim (e.node.2.1.2.2 a) λh=>by rw[zE.1 h];exact hB
 obtain⟨e',h'⟩:=e.mV h C f (hN _ (e.fc R) hz) R;exact kk E B' w' e' h' (e.jV C f R)
def Ed.vh(e:Ed dbk pb FD D j S0 N0 w0 w (fk L) Y F M x n B)(h:dR T wa w L)(R:n.J6.length+ps.length<=100000)(U:ee gq 1 S w src (iv ps))(I:∀p∈ps,en (Zo FD (fk L++(B++Y)) F) w p.1 p.2)(V:∀a∈ga ps,eI a)(kk:∀C B' w',Ed dbk pb FD D j S0 N0 w0 w' (fk L) Y F M (x.1,C,x.2.2) { n with J6:=n.J6++ga ps } B'->dR (fk L) w' w' L->mz FD Y F B B' (fk L) w w'->K C w'): Pt.run dh ((Builtin.append_ #[171,171] 171 #[x.2.1.v,src.v]).run prog w) K:=by obtain⟨Bk,E,u,J⟩:=e.node.re;refine E.t8 (λb E=>e.rd b (u b E)) R U I λC Bk' w' hz f nk=>?_;obtain⟨B',G,hN⟩:=J C _ Bk' w' f (λb E=>e.rd b (u b E)) nk λa ha=>(zD.1 ha).elim (e.node.2.1.1 a) (V a);obtain⟨e',h'⟩:=e.mV h u f (hN _ (e.fc G) (hz _ (e.fc G))) G;exact kk C B' w' e' h' (e.jV u f G)
def Ed.uO(e:Ed dbk pb FD D j S0 N0 w0 w (fk L) Y F M x n B)(h:dR T wa w L)(R:n.Q0.length+ps.length<=100000)(U:ee gq 1 S w src (iv ps))(I:∀p∈ps,en (Zo FD (fk L++(B++Y)) F) w p.1 p.2)(V:∀a∈ga ps,eI a)(kk:∀C B' w',Ed dbk pb FD D j S0 N0 w0 w' (fk L) Y F M (x.1,x.2.1,C,x.2.2.2) { n with Q0:=n.Q0++ga ps } B'->dR (fk L) w' w' L->mz FD Y F B B' (fk L) w w'->K C w'): Pt.run dh ((Builtin.append_ #[171,171] 171 #[x.2.2.1.v,src.v]).run prog w) K:=by obtain⟨Bk,E,u,J⟩:=e.node.qQ;refine E.t8 (λb E=>e.rd b (u b E)) R U I λC Bk' w' hz f nk=>?_;obtain⟨B',G,hN⟩:=J C _ Bk' w' f (λb E=>e.rd b (u b E)) nk λa ha=>(zD.1 ha).elim (e.node.2.1.2.1 a) (V a);obtain⟨e',h'⟩:=e.mV h u f (hN _ (e.fc G) (hz _ (e.fc G))) G;exact kk C B' w' e' h' (e.jV u f G)
def Ed.uU{ys:Il}(e:Ed dbk pb FD D j S0 N0 w0 w (fk L) Y F M x n B)(h:dR T wa w L)(J:n.J9.length+ys.length<=100000)(R:ee iw 1 S w src ys)(U:∀y∈ys,gE y)(V:∀C B' w',Ed dbk pb FD D j S0 N0 w0 w' (fk L) Y F M (x.1,x.2.1,x.2.2.1,C) { n with J9:=n.J9++ys } B'->dR (fk L) w' w' L->mz FD Y F B B' (fk L) w w'->K C w'): Pt.run dh ((Builtin.append_ #[172,172] 172 #[x.2.2.2.v,src.v]).run prog w) K:=by obtain⟨Bk,E,u,G⟩:=e.node.qR;refine qzO E J R λC Bk' w' hz f nk=>?_;obtain⟨B',I,hN⟩:=G C _ Bk' w' f (λb E=>e.rd b (u b E)) nk λa ha=>(zD.1 ha).elim (e.node.2.1.2.2 a) (U a);obtain⟨e',h'⟩:=e.mV h u f (hN _ (e.fc I) hz) I;exact V C B' w' e' h' (e.jV u f I)
end
end
section
def AL{D:dJ}{M:dV}(h:dK D M k v p=(n,0)):fH n k v:=by
 unfold dK at h;split at h;rename_i u;exact absurd (H9 (·.2) h) u;have:=qsZ (kind:=(dI D M p).1) (b:=(dI D M p).2.1) (k:=k) (v:=v) (by rw[h]);rw[h] at this;exact this
def uQ(h:fH n k v):n.J6.length<=498/\n.Q0.length<=498/\n.J9.length<=498/\(n.Q4=true->n.Q0.length=n.J6.length/\n.J6.length<=(dY k v).1)/\(n.Q4=false->n.J6.length+1=n.J9.length/\n.J9.length<=(dY k v).2/\2<=n.J9.length):=by
 have R:=Cd (k:=k) (v:=v);obtain⟨_,_,_,u⟩:=h;cases I:n.Q4 with
 | true=>
  rw[I,iP rfl] at u;obtain⟨C,J,E,G⟩:=u;rw[C];exact⟨oJ,oJ,oL,λ_=>⟨G,E⟩,λh=>nomatch h⟩
 | false=>
  rw[I,iN oM] at u;obtain⟨_,C,J,E,G⟩:=u;rw[C];exact⟨oJ,oL,oJ,λh=>(nomatch h),λ_=>⟨G,E,J⟩⟩
section
variable {D:dJ} {M M1:dV} {k v f:Nat} {key val:Key} {p e0 e1:Int} {n:dM} {g:Grown}
def qy7(h:dK D M k v p=(n,e0))(u:e0≠0):gV D k v key val (f+1) M p=((oq,e0),M):=by unfold gV;rw[h,iP u]
def qy8(h:dK D M k v p=(n,0))(u:n.Q4=true)(C:n.J6[dO n.J6 key]?=some key):gV D k v key val (f+1) M p=fX k v M p { n with Q0:=n.Q0.set (dO n.J6 key) val } false:=by unfold gV;rw[h,iN λh=>h rfl,iP u,iP C]
def qxE(h:dK D M k v p=(n,0))(u:n.Q4=true)(C:¬n.J6[dO n.J6 key]?=some key):gV D k v key val (f+1) M p=fX k v M p { n with J6:=fI n.J6 (dO n.J6 key) key,Q0:=fI n.Q0 (dO n.J6 key) val } true:=by unfold gV;rw[h,iN λh=>h rfl,iP u,iN C]
def qqS(h:dK D M k v p=(n,0))(u:¬n.Q4=true)(C:gV D k v key val f M (n.J9.getD (eu n.J6 key) 0)=((g,e1),M1))(E:e1≠0):gV D k v key val (f+1) M p=((oq,e1),M1):=by unfold gV;rw[h,iN λh=>h rfl,iN u];dsimp only;rw[C,iP E]
def qxF(h:dK D M k v p=(n,0))(u:¬n.Q4=true)(C:gV D k v key val f M (n.J9.getD (eu n.J6 key) 0)=((g,0),M1))(E:g.x5=n.J9.getD (eu n.J6 key) 0/\g.x4=0):gV D k v key val (f+1) M p=((⟨p,g.J8,[],0⟩,0),M1):=by unfold gV;rw[h,iN λh=>h rfl,iN u];dsimp only;rw[C,iN λh=>h rfl,iP E]
def qAr(h:dK D M k v p=(n,0))(u:¬n.Q4=true)(C:gV D k v key val f M (n.J9.getD (eu n.J6 key) 0)=((g,0),M1))(E:¬(g.x5=n.J9.getD (eu n.J6 key) 0/\g.x4=0)):gV D k v key val (f+1) M p=fX k v M1 p (gx n (eu n.J6 key) g) g.J8:=by unfold gV;rw[h,iN λh=>h rfl,iN u];dsimp only;rw[C,iN λh=>h rfl,iN E]
end
def qyY(u:n.Q4=true)(C:n.Q0.length=n.J6.length):(eT n k v).1>(eT n k v).2->oQ n ((eT n k v).1 / 2):=λh=>by unfold oQ;have e:(eT n k v).1=n.J6.length:=(by unfold eT;rw[iP u]);rw[iP u,C];rw[e] at h⊢;omega
def qxu(u:¬n.Q4=true)(C:n.J6.length+1=n.J9.length)(E:2<=n.J9.length):(eT n k v).1>(eT n k v).2->oQ n ((eT n k v).1 / 2):=λh=>by unfold oQ;have e:(eT n k v).1=n.J9.length:=(by unfold eT;rw[iN u]);rw[iN u];rw[e] at h⊢;omega
def AX{α:Type}{l:List α}{x:α}(h:i<=l.length):(fI l i x).length=l.length+1:=by unfold fI;simp;omega
def ee.cP{w:Ic}{l:Il}{i:Int}{K:Addr->Int->Prop}(h:ee iw 1 S w s l)(n:Nat)(hi:i=n)(R:n<l.length)(U:∀a,(∀S' w',ee iw 1 S' w' s l->w'.cell? a=some (.u l[n]))->K a l[n]):idx s i 1 λa=>ld .u a w λy=>K a y:=by
 subst hi;have I:l[n]?=some l[n]:=zA R;obtain⟨hl,b,o,J,_,cs,T,fr,hb,hc⟩:=h.at n I;refine qs J ⟨oJ,oJ⟩ ?_;rw[zJ];have key:∀S' w',ee iw 1 S' w' s l->w'.cell? ⟨b,o+n*1,none⟩=some (.u l[n]):=λS' w' V=>by
  obtain⟨_,b',o',C,_,aa,T',ab,E,G⟩:=V.at n I;rw[J] at C;cases C;rw[jp E]
  have:=H9 (·[0]?) G;simpa[iw] using this
 exact pB l[n] (key S w h) (U _ key)
section
variable {dbk pb j:Nat} {FD S0 N0 Y F F' F0 T B:Ik} {D:dJ} {w0 wa w w':Ic} {M M':dV} {L:Ip} {x:kz} {n:dM} {k v:Nat} {t:Int}
def Ed.load{w7:Ic}(C:∀b∈N0,b∈S0)(g:Sg S0 w0 wa F T)(h:dR T wa w L)(G:TW dbk pb FD D j w7 (B++(fk L++Y)) F M)(I:fh (Zo FD (B++(fk L++Y)) F) w7 x n B)(f:Fr [] w w7)(E:∀c∈B,w.heap.size<=c)(J:∀b∈Y,b<w.heap.size): Ed dbk pb FD D j S0 N0 w0 w7 (fk L) Y F M x n B/\dR (fk L) w7 w7 L:=by
 refine⟨⟨g.cA h f,G.y0 λb u=>?_,I.j6 λb u=>.inl ?_,λb u R=>?_,λb u=>.inr (zL (g.fr h).size (E b u)),C,λb u U=>?_⟩,qv h f λ_ _ h=>nomatch h⟩;simp only[zD] at u⊢;rcases u with u|u|u<;>simp[u];simp only[Zo,zD,zG] at u⊢;rcases u with (u|u|u|u|u)|u<;>simp[u];have:=xj h b u;have:=E b R;omega;have:=J b U;have:=E b u;omega
def Ed.y6(e:Ed dbk pb FD D j S0 N0 w0 w T Y F M x n B):ee iw 1 (Zo FD (T++Y) F) w x.2.2.2 n.J9:=e.y9.2.2.2.2
def Ed.fr(e:Ed dbk pb FD D j S0 N0 w0 w T Y F M x n B):Fr S0 w0 w:=e.sg.pY
def lM{L':Ip}(h:dR T wa w L)(u:L'.Sublist L):dR (fk L') w w L':=(h.sub u).lz
def Hl{ks vs:Sl}{key val:Key}(af:eI key)(ai:eI val):∀(f:Nat) {Y F:Ik} {w0:Ic} {M:dV} {p:Int} {K:C3×Int->WP} (hT:TW dbk pb FD D j w0 Y F M) (hp:gE p) (hk:en (Zo FD Y F) w0 ks key) (hv:en (Zo FD Y F) w0 vs val) (am:(gV D k v key val f M p).1.2≠-1) (kk:∀gs F' w',G9 (gV D k v key val f M p).1.1->TW dbk pb FD D j w' Y F' (gV D k v key val f M p).2->en (Zo FD Y F') w' gs (gV D k v key val f M p).1.1.key->Fr F w0 w'->(∀b∈F',b∈F\/w0.heap.size<=b)->K (tc (gV D k v key val f M p).1.1 gs,(gV D k v key val f M p).1.2) w'), cW 132 [.agg (np (jC k v pb t)),.u p,ks.v,vs.v] [.agg pN,.one .i] w0 K
 | 0,_,_,_,_,_,_,_,_,_,_,am,_=>absurd rfl am
 | f+1,Y,F,w0,M,p,K,hT,hp,hk,hv,am,kk=>by
  refine qnz ?_;unfold C2 ES CM;have h:=oE [] w0;have g:=Sg.start F w0;refine oB h λr1 w2 _ _ h=>oB h λr3 w4 _ _ h=>Ij h 1 rfl (jC k v pb t) ?_;rcases R:dK D M k v p with ⟨n,e0⟩;refine AB (k:=k) (v:=v) (hT.cB h) hp λx B w7 bg aL f7 bh=>?_;rw[R] at aL⊢;dsimp only at aL;obtain⟨e,h⟩:=Ed.load (N0:=[]) (λ_ h=>nomatch h) g h bg aL f7 bh λb hb=>yC (hT.qw b hb) h.fr.size;refine oB h λr8 w9 _ _ h=>oD h 0 rfl (eN x) λbT h _=>dX (λhc=>?_) λhc=>?_;have aW:e0≠0:=by rw[zT] at hc;exact zR.1 hc
  rw[qy7 R aW] at kk;exact oD h 1 rfl (pK (0,false,dH,0)) λbi h _=>Ij h 1 rfl (0,false,dH,0)<|kk dH F bi Fg (e.J0 h).qz.j7 (.nil _ _ _ _) (e.J0 h).fr (e.J0 h).sg.new;have bj:e0=0:=by rw[yD] at hc;exact yO.1 hc
  subst bj;have hr:=AL R;obtain⟨l1,l2,l3,l4,l5⟩:=uQ hr;have e:=e.J0 h;have h:=lM h (.refl _);have aX:x.1=n.Q4:=e.node.1;refine Ii h 0 rfl x.1<|dX (λhc=>?_) λhc=>?_;rw[aX] at hc;obtain⟨l6,l7⟩:=l4 hc;refine Ij h 0 rfl x<|CO e.y9 (e.cT hk) af hr.2.2.1 oJ λbX bm=>?_;obtain⟨e,h⟩:=e.cA h bm;have ao:=Gf n.J6 key;refine gP (λ_ w'=>∃x' n' B',dR [r8,r3,r1] w' w' [(r8,.c (eN x') ND),(r3,.c (pK (0,false,dH,0)) GR),(r1,.c (np (jC k v pb t)) WK)]/\Ed dbk pb FD D j F [] w0 w' [r8,r3,r1] Y F M x' n' B'/\
   gV D k v key val (f+1) M p=fX k v M p n' (!decide (n.J6[dO n.J6 key]?=some key))/\n'.Q4=true/\n'.Q0.length=n'.J6.length/\n'.J6.length<=1000/\n'.J9.length<=1000) ?_ ?_
  refine dX (λU=>?_) λU=>?_;have aN:=zC U;have bY:=(zP.1 aN).1;refine Ii h 0 rfl x.2.2.1<|e.Fd h (i:=dO n.J6 key) oJ rfl (e.cT hv) ai λB' bZ e h _=>⟨x,_,B',h,e,?_,hc,by dsimp only;rw[xF];exact l6,by dsimp only;omega,by dsimp only;omega⟩;rw[qy8 R hc aN,zZ aN];rfl;have aC:=zB U;have I:gV D k v key val (f+1) M p=fX k v M p { n with J6:=fI n.J6 (dO n.J6 key) key,Q0:=fI n.Q0 (dO n.J6 key) val } (!decide (n.J6[dO n.J6 key]?=some key)):=by rw[qxE R hc aC,zU aC];rfl
  have ap:(fI n.Q0 (dO n.J6 key) val).length=(fI n.J6 (dO n.J6 key) key).length:=(by rw[AX oJ,AX ao,l6]);have aq:(fI n.J6 (dO n.J6 key) key).length<=1000:=(by rw[AX ao];omega);refine⟨?_,?_,?_⟩;have h:=oF h;refine Ii h 0 rfl x.2.1<|Ii h 0 rfl x.2.2.1<|oB h λb0 b1 _ _ h=>ky (h.cell 1) (h.cell 1) ?_;have e:=e.J0 h;refine e.cO h (i:=dO n.J6 key) ao rfl oJ 0 rfl (e.cT hk) af λab B1 aY e h _=>ik (h.cell 1)<|oB h λb2 b3 _ _ h=>ky (h.cell 2) (h.cell 2) ?_;have e:=e.J0 h;exact e.sH h (i:=dO n.J6 key) oN rfl oN 0 rfl (e.cT hv) ai λar B2 aZ e h _=>oD h 2 rfl (eN (x.1,ab,x.2.2.1,x.2.2.2)) λa0 h _=>oD h 2 rfl (eN (x.1,ab,ar,x.2.2.2)) λa1 h _=>⟨_,_,B2,lM h (.cons _ (.cons _ (.refl _))),(e.J0 h).sub oL,I,hc,ap,aq,by dsimp only;omega⟩;have h:=oF h;refine Ii h 0 rfl x.2.1<|Ii h 0 rfl x.2.2.1<|oB h λb4 b5 _ _ h=>ky (h.cell 1) (h.cell 1)<|oB h λb6 b7 _ _ h=>ky (h.cell 2) (h.cell 2) ?_;have e:=e.J0 h;exact e.cO h (i:=dO n.J6 key) ao rfl oJ 1 rfl (e.cT hk) af λab B1 aY e h _=>ik (h.cell 2)<|e.sH h (i:=dO n.J6 key) oN rfl oN 0 rfl (e.cT hv) ai λar B2 aZ e h _=>oD h 2 rfl (eN (x.1,ab,x.2.2.1,x.2.2.2)) λa0 h _=>oD h 2 rfl (eN (x.1,ab,ar,x.2.2.2)) λa1 h _=>⟨_,_,B2,lM h (.cons _ (.cons _ (.refl _))),(e.J0 h).sub oL,I,hc,ap,aq,by dsimp only;omega⟩;have h:=oF h;refine Ii h 0 rfl x.2.1<|Ii h 0 rfl x.2.2.1<|oB h λb8 b9 _ _ h=>ky (h.cell 1) (h.cell 1)<|oB h λca cc _ _ h=>ky (h.cell 2) (h.cell 2) ?_;have e:=e.J0 h;exact e.cO h (i:=dO n.J6 key) ao rfl oJ 0 rfl (e.cT hk) af λab B1 aY e h _=>ik (h.cell 2)<|e.sH h (i:=dO n.J6 key) oN rfl oN 1 rfl (e.cT hv) ai λar B2 aZ e h _=>oD h 2 rfl (eN (x.1,ab,x.2.2.1,x.2.2.2)) λa0 h _=>oD h 2 rfl (eN (x.1,ab,ar,x.2.2.2)) λa1 h _=>⟨_,_,B2,lM h (.cons _ (.cons _ (.refl _))),(e.J0 h).sub oL,I,hc,ap,aq,by dsimp only;omega⟩;rintro _ cd ⟨x',n',B',h,e,I,m0,m1,m2,m3⟩;rw[I] at kk;refine Ij h 2 rfl (jC k v pb t)<|Ij h 0 rfl x'<|qq5 (Y:=[r8,r3,r1]++Y) e.qz e.y9 oJ oJ oJ (qyY m0 m1) hp λgs F' cg hG a2 C a3 bn=>?_;have g:=e.sg.next h a3 bn
  have h:=qv h a3 λb hb=>e.qz.yf b (by simp at hb⊢;rcases hb with h|h|h<;>simp[h]);exact oG h 1 rfl (pK (tc (fX k v M p n' (!decide (n.J6[dO n.J6 key]?=some key))).1.1 gs)) rfl rfl (zO rfl) λbo h _=>oC h 1 rfl (tc (fX k v M p n' (!decide (n.J6[dO n.J6 key]?=some key))).1.1 gs) rfl<|kk gs F' bo hG (a2.J0 h).j7 (EQ (pT C h)) (g.fr h) g.new
  ·rw[aX] at hc;have aj:¬n.Q4=true:=(by rw[hc];decide);obtain⟨l6,l7,l8⟩:=l5 hc;refine Ij h 0 rfl x<|BD e.y9 (e.cT hk) af hr.2.2.1 oJ λch bp=>?_;obtain⟨e,h⟩:=e.cA h bp;have au:=zo n.J6 key;generalize ax:eu n.J6 key=c at au⊢;have ak:c<n.J9.length:=oJ;have aO:n.J9.getD c 0=n.J9[c]:=(by rw[yQ,zA ak];rfl);have hu:gE n.J9[c]:=e.node.2.1.2.2 _ (zW ak);rcases av:gV D k v key val f M n.J9[c] with ⟨⟨E,e1⟩,M1⟩;have ac:gV D k v key val f M (n.J9.getD (eu n.J6 key) 0)=((E,e1),M1):=(by rw[ax,aO];exact av);have aE:e1≠-1:=λh1=>by rw[h1] at ac;rw[qqS R aj ac oM] at am;exact am rfl
   refine⟨?a,?b⟩;case' a=>
    have h:=oF h;have e:=e.J0 h;refine Ij h 2 rfl (jC k v pb t)<|Ii h 0 rfl x.2.2.2<|ee.cP e.y6 c rfl ak λbq hh=>Hl af ai f e.tw hu (e.cT hk) (e.cT hv) (by rw[av];exact aE) λgs F1 bt hG ad C aP aQ=>?_;rw[av] at hG ad C⊢;obtain⟨e,h⟩:=e.next h ad aP aQ
    refine oB h λaw bu _ _ h=>mQ (hh _ _ (e.J0 h).y6) (h.cell 1) (h.cells 3)<|oD h 0 rfl (pK (tc E gs)) λa5 h _=>?_;have C:=pT C h;have e:=e.J0 h;have h:=lM h (.refl _)
   case' b=>
    have h:=oF h;have e:=e.J0 h;have h:=lM h (.refl _);refine Ij h 2 rfl (jC k v pb t)<|Ii h 0 rfl x.2.2.2<|ee.cP e.y6 c rfl ak λbq hh=>oB h λaw bu _ _ h=>?_;have e:=e.J0 h;refine mQ (hh _ _ e.y6) (h.cell 1) (h.cells 3)<|Hl af ai f e.tw hu (e.cT hk) (e.cT hv) (by rw[av];exact aE) λgs F1 bt hG ad C aP aQ=>?_;rw[av] at hG ad C⊢;obtain⟨e,h⟩:=e.next h ad aP aQ
    refine oD h 0 rfl (pK (tc E gs)) λa5 h _=>?_;have C:=pT C h;have e:=e.J0 h;have h:=lM h (.refl _)
   all_goals
    refine dX (λU=>?_) λU=>?_;have a6:e1≠0:=by rw[zT] at U;exact zR.1 U
    rw[qqS R aj ac a6] at kk;exact oD h 2 rfl (pK (0,false,dH,0)) λbv h _=>Ij h 2 rfl (0,false,dH,0)<|kk dH F1 bv Fg (e.J0 h).qz.j7 (.nil _ _ _ _) (e.J0 h).fr (e.J0 h).sg.new;have bx:e1=0:=by rw[yD] at U;exact yO.1 U
    subst bx;refine gP (λb w'=>b=decide (E.x5=n.J9[c]/\E.x4=0)/\w'=a5.drew) ?_ ?_;have h:=oF h;refine Ii h 0 rfl E.x5<|Ii h 1 rfl x.2.2.2<|ee.get (e.J0 h).y6 c rfl (zA ak) (y:=n.J9[c]) rfl<|dX (λG=>?_) λG=>?_;have G:E.x5=n.J9[c]:=yO.1 G;refine Ii h 0 rfl E.x4 ⟨?_,rfl⟩;rw[HR,yO,yM];exact⟨λh=>⟨G,h⟩,λh=>h.2⟩;have G:E.x5≠n.J9[c]:=zR.1 G;exact⟨(zU λh=>G h.1).symm,rfl⟩;rintro bB bC ⟨rfl,rfl⟩;have h:=oF h;have C:=pT C h;have e:=e.J0 h;have h:=lM h (.refl _);refine dX (λG=>?_) λG=>?_;have G:=zC G;rw[<- aO,<- ax] at G;rw[qxF R aj ac G] at kk;exact Ii h 0 rfl E.J8<|oD h 2 rfl (pK (p,E.J8,dH,0)) λa7 h _=>Ij h 2 rfl (p,E.J8,dH,0)<|kk dH F1 a7 ⟨hp,uq,.nil⟩ (e.J0 h).qz.j7 (.nil _ _ _ _) (e.J0 h).fr (e.J0 h).sg.new;have G:=zB G;rw[<- aO,<- ax] at G;have I:=qAr R aj ac G;rw[ax] at I;rw[I] at kk;refine Ii h 1 rfl x.2.2.2<|Ii h 0 rfl E.x5<|e.tY h (i:=c) ak rfl hG.x5 λB1 bD e h kp=>?_;have C:=kp.cT _ _ C;refine gP (λ_ w'=>∃x' B',dR [aw,r8,r3,r1] w' w' [(aw,.c (pK (tc E gs)) GR),(r8,.c (eN x') ND),(r3,.c (pK (0,false,dH,0)) GR),(r1,.c (np (jC k v pb t)) WK)]/\Ed dbk pb FD D j F [] w0 w' [aw,r8,r3,r1] Y F1 M1 x' (gx n c E) B'/\
     ¬(gx n c E).Q4=true/\(gx n c E).J6.length+1=(gx n c E).J9.length/\2<=(gx n c E).J9.length/\(gx n c E).J9.length<=1000/\(gx n c E).Q0.length<=1000) ?_ ?_
    refine Ii h 0 rfl E.x4<|dX (λV=>?_) λV=>?_;have V:E.x4≠0:=by rw[zT] at V;exact zR.1 V
    have eg:gx n c E={ n with J9:=fI (n.J9.set c E.x5) (c+1) E.x4,J6:=fI n.J6 c E.key }:=(by unfold gx;rw[iP V]);have ah:¬(gx n c E).Q4=true/\(gx n c E).J6.length+1=(gx n c E).J9.length/\2<=(gx n c E).J9.length/\(gx n c E).J9.length<=1000/\(gx n c E).Q0.length<=1000:=(by rw[eg];dsimp only;rw[AX au,AX (l:=n.J9.set c E.x5) (by rw[xF];omega),xF];exact⟨aj,oJ,oJ,oJ,oJ⟩);rw[eg] at ah⊢;have ew:wrap .i64 ((c:Int)+1)=((c+1:Nat):Int):=rj oJ;rw[ew];refine⟨?_,?_,?_⟩;have h:=oF h;refine Ii h 1 rfl x.2.2.2<|Ii h 0 rfl E.x4<|Ii h 1 rfl x.2.1<|Ii h 0 rfl gs<|oB h λbE bF _ _ h=>mQ (h.cell 1) (h.cell 2) (h.cell 2) ?_;have C:=pT C h;have e:=e.J0 h;refine e.sE h (i:=c+1) (by dsimp only;rw[xF];omega) rfl (by dsimp only;rw[xF];omega) 0 rfl hG.x4 λJ B2 aF e h kp=>?_;have C:=kp.cT _ _ C;refine ky (h.cell 1) (h.cell 2)<|oB h λbG bH _ _ h=>mQ (h.cell 3) (h.cell 2) (h.cell 3) ?_;have C:=pT C h;have e:=e.J0 h;exact e.cO h (i:=c) au rfl oN 0 rfl C hG.key λae B3 aG e h _=>oD h 3 rfl (eN (x.1,x.2.1,x.2.2.1,J)) λaH h _=>oD h 3 rfl (eN (x.1,ae,x.2.2.1,J)) λaI h _=>⟨_,B3,lM h (.cons _ (.cons _ (.refl _))),(e.J0 h).sub oL,ah⟩;have h:=oF h;refine Ii h 1 rfl x.2.2.2<|Ii h 0 rfl E.x4<|Ii h 1 rfl x.2.1<|Ii h 0 rfl gs<|oB h λbI bJ _ _ h=>mQ (h.cell 1) (h.cell 2) (h.cell 2)<|oB h λbK bL _ _ h=>mQ (h.cell 3) (h.cell 2) (h.cell 3) ?_;have C:=pT C h;have e:=e.J0 h;refine e.sE h (i:=c+1) (by dsimp only;rw[xF];omega) rfl (by dsimp only;rw[xF];omega) 1 rfl hG.x4 λJ B2 aF e h kp=>?_;have C:=kp.cT _ _ C;exact ky (h.cell 2) (h.cell 3)<|e.cO h (i:=c) au rfl oN 0 rfl C hG.key λae B3 aG e h _=>oD h 3 rfl (eN (x.1,x.2.1,x.2.2.1,J)) λaH h _=>oD h 3 rfl (eN (x.1,ae,x.2.2.1,J)) λaI h _=>⟨_,B3,lM h (.cons _ (.cons _ (.refl _))),(e.J0 h).sub oL,ah⟩;have h:=oF h;refine Ii h 1 rfl x.2.2.2<|Ii h 0 rfl E.x4<|Ii h 1 rfl x.2.1<|Ii h 0 rfl gs<|oB h λbM bN _ _ h=>mQ (h.cell 2) (h.cell 1) (h.cell 2)<|oB h λbO bP _ _ h=>mQ (h.cell 2) (h.cell 3) (h.cell 3) ?_;have C:=pT C h;have e:=e.J0 h;refine e.sE h (i:=c+1) (by dsimp only;rw[xF];omega) rfl (by dsimp only;rw[xF];omega) 0 rfl hG.x4 λJ B2 aF e h kp=>?_;have C:=kp.cT _ _ C;exact ky (h.cell 2) (h.cell 3)<|e.cO h (i:=c) au rfl oN 1 rfl C hG.key λae B3 aG e h _=>oD h 3 rfl (eN (x.1,x.2.1,x.2.2.1,J)) λaH h _=>oD h 3 rfl (eN (x.1,ae,x.2.2.1,J)) λaI h _=>⟨_,B3,lM h (.cons _ (.cons _ (.refl _))),(e.J0 h).sub oL,ah⟩;have V:¬E.x4≠0:=(by rw[yD] at V;exact λhh=>hh (yO.1 V));have eg:gx n c E={ n with J9:=n.J9.set c E.x5 }:=(by unfold gx;rw[iN V]);rw[eg];exact⟨x,B1,h,e,aj,by dsimp only;rw[xF];omega,by dsimp only;rw[xF];omega,by dsimp only;rw[xF];omega,by dsimp only;omega⟩;rintro _ bQ ⟨x',B',h,e,q1,q2,q3,q4,q5⟩;refine Ij h 3 rfl (jC k v pb t)<|Ij h 1 rfl x'<|Ii h 0 rfl E.J8<|qq5 (Y:=[aw,r8,r3,r1]++Y) e.qz e.y9 oJ oJ oJ (qxu q1 q2 q3) hp λaT F2 bR bz aU a9 aJ a'=>?_;have g:=e.sg.next h aJ a'
    have h:=qv h aJ λb hb=>e.qz.yf b (by simp at hb⊢;rcases hb with h|h|h|h<;>simp[h]);exact oG h 2 rfl (pK (tc (fX k v M1 p (gx n c E) E.J8).1.1 aT)) rfl rfl (zO rfl) λba h _=>oC h 2 rfl (tc (fX k v M1 p (gx n c E) E.J8).1.1 aT) rfl<|kk aT F2 ba bz (aU.J0 h).j7 (EQ (pT a9 h)) (g.fr h) g.new
end
end
end
end Go.Proofs.YtpcmehldpoljfaaGreatDoor
