/- Conditions: those that stand in each line. -/
import Derived.Test.YtpcmehldpoljfaaGreatDoorCSKQ4
import Derived.Test.YtpcmehldpoljfaaGreatDoorCSKQ1
import Derived.Test.YtpcmehldpoljfaaGreatDoorCSKQ3
set_option linter.unusedVariables false
set_option linter.unusedSimpArgs false
set_option linter.defProp false
namespace Go.Proofs.YtpcmehldpoljfaaGreatDoor
open Go.Proofs.Tryz (prog)
section
open Go Go.Pt List
open Go.IntKind (wrap)
open Classical
section
variable {D:dI} {M M':dY} {k v:Nat}
def qpW{n:Int}(E:M.Wf)(G:M.Q3=false)(I:dT M n):∃M',fk M n=(0,M')/\Step D M M' [n] []/\M.Q1.length<=M'.Q1.length:=by
 obtain⟨M',e,t,J,R,U⟩:=ql4 (D:=D) (q:=n+1) E G I oJ;have C:∀x,x≠n->dH D M' x=dH D M x/\(dT M' x↔dT M x):=fun x u=>by by_cases hq':x=n+1;rw[hq'];exact⟨J,R⟩;exact⟨t.rest x hq' u,t.use x hq' u⟩
 refine⟨M',e,⟨t.wf,t.Q3,t.Q2,t.j9,t.Q5,t.Q9,t.z9,t.x6,fun x u h=>?_,fun x u=>?_,fun x u=>(nomatch u),fun x u=>(nomatch u),.nil,t.pC⟩,U⟩;have h:x≠n:=(oP h);exact⟨(C x h).1,(C x h).2.2 u,oL⟩;by_cases h:x=n;subst h;exact absurd u (t.left oJ);exact .inr ⟨(C x h).2.1 u,by simpa using h⟩
def qqb(hc:gU k v){h:Nat}{A B:List gH}{e1 E:gH}{Nl Nr:dL}{n1 n2:Nat}{L1 L2:fN}{G I:List Int}(H:sA D M k v h A B e1 E Nl Nr n1 n2 L1 L2 G I)(h1:n1+n2<=(if h=0 then (dV k v).1 else (dV k v).2))(h2:minOf k v h<=n1+n2)(hf:1<=M.Q1.length): ∃N M' R,lD k v M (dM (A++e1::E::B)) A.length Nl Nr=((N,0),M')/\je D M' k v (h+1) N (A.length+B.length+1) (A.flatMap (·.2.y3)++((L1++L2)++B.flatMap (·.2.y3))) R/\ Step D M M' (A.flatMap (·.2.y4)++(((e1.2.x5::G)++(E.2.x5::I))++B.flatMap (·.2.y4))) R/\M.Q1.length<=M'.Q1.length+1:=by
 obtain⟨aB,aC,aD,aE⟩:=H.wh;have hJ:=qzO H.left H.right h1 aB aC ⟨aD,aE⟩;have a1:=hc.min h;have U:=H.use;have ak:=H.nodup;have pm:(((e1.2.x5::G)++(E.2.x5::I))).Perm (e1.2.x5::E.2.x5::(G++I)):=by rw[xJ];exact (perm_middle).cons _
 have V:∀x,x∈e1.2.x5::E.2.x5::(G++I)->x∈A.flatMap (·.2.y4)++(((e1.2.x5::G)++(E.2.x5::I))++B.flatMap (·.2.y4)):=fun x C=>zI _ (zH _ (pm.mem_iff.2 C));have aj:(e1.2.x5::E.2.x5::(G++I)).Nodup:=pm.nodup_iff.1 (yM.1 (yM.1 ak).2.1).1;have aa:=nodup_cons.1 aj;have ap:=nodup_cons.1 aa.2;have aF:=U _ (V e1.2.x5 oL);have aq:=U _ (V E.2.x5 oL);obtain⟨q,M1,s1,ab,H1,a3⟩:=hJ.store H.wf H.Q3 oJ aF (fun hm=>aa.1 (zN _ hm)) hf;have ac:E.2.x5≠e1.2.x5:=fun e=>aa.1 (by rw[e];simp);have J:∀x,dT M x->x≠e1.2.x5->dH D M1 x=dH D M x/\dT M1 x/\x≠q:=fun x C al=>by
  have:=ab.rest x C (oP al)
  exact⟨this.1,this.2.1,by simpa using this.2.2⟩
 obtain⟨M2,s2,ar,a6⟩:=qpW (D:=D) ab.wf ab.Q3 (J _ aq ac).2.1;have ad:∀x,dT M1 x->x≠E.2.x5->dH D M2 x=dH D M1 x/\dT M2 x:=fun x C al=>by
  have:=ar.rest x C (oP al)
  exact⟨this.1,this.2.1⟩
 have aG:Has D M2 k v h ⟨q,n1+n2,L1++L2,q::(G++I)⟩:=H1.q8 fun x C=>(ad x (H1.J4 ab.Q3 x C) (fun e=>by rcases zG.1 C with e'|C;exact (J _ aq ac).2.2 (by rw[<- e,e']);exact ap.1 (e▸C))).1;have aH:∀b,b∈A\/b∈B->∀x∈b.2.y4,dT M x/\x≠e1.2.x5/\x≠E.2.x5:=fun b u x C=>by
  have hd:=yM.1 ak;have aI:=yM.1 hd.2.1;have au:∀z,z=e1.2.x5\/z=E.2.x5->z∈(e1.2.x5::G)++(E.2.x5::I):=fun z hz=>pm.mem_iff.2 (by rcases hz with rfl|rfl<;>simp);have key:∀z,z=e1.2.x5\/z=E.2.x5->x≠z:=fun z hz e=>by rcases u with u|u;exact hd.2.2 x (yK.2 ⟨b,u,C⟩) z (zH _ (au z hz)) e;exact aI.2.2 z (au z hz) x (yK.2 ⟨b,u,C⟩) e.symm
  refine⟨U x ?_,key _ (.inl rfl),key _ (.inr rfl)⟩;rcases u with u|u;exact zH _ (yK.2 ⟨b,u,C⟩);exact zI _ (zI _ (yK.2 ⟨b,u,C⟩))
 have ae:∀b,b∈A\/b∈B->Has D M2 k v h b.2/\minOf k v h<=b.2.size:=fun b u=>⟨(H.rest b u).1.q8 fun x C=>by have h9:=aH b u x C;have h8:=J x h9.1 h9.2.1;exact ((ad x h8.2.1 h9.2.2).1).trans h8.1,(H.rest b u).2⟩;have hS:=H.sep;have hp:=pairwise_append.1 hS.pair;have ai:=yJ.1 hp.2.1;have aw:=yJ.1 ai.2;have ax:fK (A++(e1.1,(⟨q,n1+n2,L1++L2,q::(G++I)⟩:gY))::B):=by refine⟨pairwise_append.2 ⟨hp.1,yJ.2 ⟨fun b u=>⟨(ai.1 b (by simp[u])).1,fun x C=>?_⟩,aw.2⟩,fun a ha b u=>?_⟩,fun b u x C=>?_⟩;rcases zD.1 C with C|C;exact (ai.1 b (by simp[u])).2 x C;exact (aw.1 b u).2 x C;rcases zG.1 u with rfl|u;exact hp.2.2 a ha (e1.1,⟨0,0,L1,[]⟩) oL;exact hp.2.2 a ha b (by simp[u]);rcases zD.1 u with u|u;exact hS.low b (by simp[u]) x C;rcases zG.1 u with rfl|u;rcases zD.1 C with C|C;exact hS.low (e1.1,⟨0,0,L1,[]⟩) oL x C;have h9:=hS.low (E.1,⟨0,0,L2,[]⟩) oL x C;exact zt (sE (ai.1 (E.1,⟨0,0,L2,[]⟩) oL).1) h9;exact hS.low b (by simp[u]) x C
 have am:gr k (A++(e1.1,(⟨q,n1+n2,L1++L2,q::(G++I)⟩:gY))::B):=by
  have h9:gr k (A++e1::B):=fun b u=>H.J6 b (by
   cases A with
   | nil=>exact zN _ u
   | cons a A=>
    rcases zD.1 (show b∈A++e1::B from u) with u|u;exact zH (e1::E::B) u;exact zI A ((zG.1 u).elim (fun e=>by rw[e];simp) fun u=>by simp[u]))
  exact Fk h9
 have an:((A++(e1.1,(⟨q,n1+n2,L1++L2,q::(G++I)⟩:gY))::B).map (·.1)).head?=some []:=by
  have h9:=H.head;cases A with
  | nil=>exact h9
  | cons a A=>exact h9
 have aU:=H.len;refine⟨dM (A++(e1.1,(⟨q,n1+n2,L1++L2,q::(G++I)⟩:gY))::B),M2,_,?_,⟨_,an,rfl,by simp;omega,by rw[qn],rfl,am,ax,oJ,fun b u=>?_⟩,?_,oJ⟩;have aJ:(dM (A++e1::E::B)).J9.getD A.length 0=e1.2.x5:=xb.1;have aK:(dM (A++e1::E::B)).J9.getD (A.length+1) 0=E.2.x5:=xb.2;have aL:(dM (A++e1::E::B)).J6.getD A.length []=E.1:=DY;unfold lD;rw[aJ,aK,aL,s1];dsimp only;rw[if_neg (fun h=>h rfl),s2];dsimp only;rw[if_neg (fun h=>h rfl)];exact congrArg (fun N=>((N,(0:Int)),M2)) (qzz (s:=⟨q,n1+n2,L1++L2,q::(G++I)⟩));rcases zD.1 u with u|u;exact ae b (.inl u);rcases zG.1 u with rfl|u;exact⟨aG,h2⟩;exact ae b (.inr u);have t1:Step D M M1 (e1.2.x5::E.2.x5::(G++I)) ([q]++E.2.x5::(G++I)):=by
  have:=ab.beside (Z:=E.2.x5::(G++I)) (fun x C=>U x (V x (zN _ C))) (by have p9:(e1.2.x5::E.2.x5::(G++I)).Perm ((E.2.x5::(G++I))++[e1.2.x5]):=(perm_append_singleton _ _).symm;exact p9.nodup_iff.1 aj)
  exact this.perm (perm_append_singleton _ _) perm_append_comm
 have p8:([q]++E.2.x5::(G++I)).Perm (([q]++(G++I))++[E.2.x5]):=(by exact perm_middle.trans<|(perm_append_singleton _ _).symm);have t2:=ar.beside (Z:=[q]++(G++I)) (fun x C=>t1.has x (by rcases zD.1 C with C|C;exact zH _ C;exact zI _ (zN _ C))) (p8.nodup_iff.1 t1.nodup);have t3:=(t1.perm (.refl _) p8).trans t2;rw[xH] at t3;have t4:=Step.part (D:=D) (a:=A.flatMap (·.2.y4)) (b:=B.flatMap (·.2.y4)) U ak (t3.perm pm.symm (.refl _));rw[qn];exact t4
def fK.swap{A B:List gH}{e:gH}{s:gY}(h:fK (A++e::B))(u:∀x∈s.y3,x∈e.2.y3):fK (A++(e.1,s)::B):=
 h.put (key:=e.1) qC (fun b C=>(h.mid.2 b C).1) fun x E=>.inr (u x E)
def Gc(hc:gU k v){key:Key}:∀(h:Nat) (M:dY) (s:gY),Has D M k v h s->M.Wf->M.Q3=false->s.y4.Nodup->key∈dP s.y3->2*h<=M.Q1.length-> ∃N n M' R R',gX D k v key (h+1) M s.x5=((N,0),M')/\s.y4=s.x5::R/\je D M' k v h N n (gi key s.y3) R'/\Step D M M' R R'/\s.size<=n+1/\M.Q1.length<=M'.Q1.length+2*h
 | 0,M,s,hs,hW,ho,aL,al,hf=>by
  obtain⟨N,R,hl,hN,hp,bU,_⟩:=hs.load;have bV:=hN;obtain⟨rfl,hn,rfl,hL,aM,bc⟩:=hN;have am:=qnG aM al;have hm:=(vZ aM).2 al;have hi:dN (dP s.y3) key<s.y3.length:=by
   have:=(zP.1 hm).1
   simpa using this
  have bL:(gi key s.y3).length+1=s.y3.length:=(by rw[am,zF,yL,yC];omega);refine⟨ef (gi key s.y3),(gi key s.y3).length,M,[],[],?_,hp,⟨rfl,rfl,rfl,fun x u=>hL x (DX.1 u).1,qpR aM,oJ⟩,Step.refl hW ho (fun x u=>nomatch u) .nil,oJ,oJ⟩;unfold gX;rw[hl];dsimp only;rw[if_neg (fun h=>h rfl),if_pos (show (ef s.y3).Q4=true from rfl),if_pos (show (ef s.y3).J6[dN (ef s.y3).J6 key]?=some key from hm)];refine congrArg (fun N=>((N,(0:Int)),M)) ?_;rw[am];unfold ef gM;simp only[xN,xP,xQ]
 | h+1,M,⟨p,n,L,P⟩,⟨es,h0,h1,h2,h3,h4,h5,h6,h7⟩,hW,ho,aL,al,hf=>by
  dsimp only at h1 h2 h3 h5 aL al;subst h1 h2 h3;have hl:dJ D M k v p=(dM es,0):=h4.load h5;have an:=h4.right.x9;obtain⟨A,e,B,aa,hA,bv,bx,aO⟩:=uv (key:=key) h0 h6;have aP:(dM es).J9.getD (en (dM es).J6 key) 0=e.2.x5:=aO;have bz:en (dM es).J6 key=A.length:=hA.symm;have bA:e∈es:=(by rw[aa];simp);obtain⟨bB,bC⟩:=h7 e bA;have ai:es.flatMap (·.2.y4)=A.flatMap (·.2.y4)++(e.2.y4++B.flatMap (·.2.y4)):=(by rw[aa,qn]);have av:es.flatMap (·.2.y3)=A.flatMap (·.2.y3)++(e.2.y3++B.flatMap (·.2.y3)):=(by rw[aa,qn]);have ay:∀z∈A.flatMap (·.2.y4)++(e.2.y4++B.flatMap (·.2.y4)),dT M z:=fun z hz=>by rw[<- ai] at hz;obtain⟨b,E,hz⟩:=yK.1 hz;exact (h7 b E).1.J4 ho z hz
  have ah:(A.flatMap (·.2.y4)++(e.2.y4++B.flatMap (·.2.y4))).Nodup:=(by rw[<- ai];exact (nodup_cons.1 aL).2);have ao:e.2.y4.Nodup:=(yM.1 (yM.1 ah).2.1).1;have aw:=h6;rw[aa] at aw;have az:=aw.mid;have bf:∀x∈A.flatMap (·.2.y3),fI x.1 key:=fun x u=>by obtain⟨a,ha,u⟩:=yK.1 u;exact qY (az.1 a ha x u) bv
  have bg:∀x∈B.flatMap (·.2.y3),fI key x.1:=fun x u=>by obtain⟨b,E,u⟩:=yK.1 u;exact qY (bx b E) ((az.2 b E).2.2 x u)
  have am:gi key (es.flatMap (·.2.y3))=A.flatMap (·.2.y3)++(gi key e.2.y3++B.flatMap (·.2.y3)):=(by rw[av,qnF bf,ql2 bg]);have aQ:key∈dP e.2.y3:=by obtain⟨x,u,rfl⟩:=mem_map.1 al;rw[av] at u;rcases zD.1 u with u|u;exact absurd (bf x u) qC;rcases zD.1 u with u|u;exact zZ u;exact absurd (bg x u) qC
  obtain⟨N1,n1,M1,Re,J,ec,aR,ap,st,b0,b1⟩:=Gc hc h M e.2 bB hW ho ao aQ oJ;rw[aR] at ay ah ao;have ab:=gr.of h4;have aJ:e.2.x5∉Re:=(nodup_cons.1 ao).1;have aT:dT M e.2.x5:=ay _ oL;have bE:Step D M M1 (e.2.x5::Re) (e.2.x5::J):=st.beside (Z:=[e.2.x5]) (fun x u=>by rw[zE.1 u];exact aT) (oP ao);have aU:=Step.part ay ah bE;have bh:dT M1 e.2.x5:=(st.rest _ aT aJ).2.1;have aV:e.2.x5∉J:=(st.rest _ aT aJ).2.2;have G:∀b,b∈A\/b∈B->Has D M1 k v h b.2/\minOf k v h<=b.2.size:=fun b E=>by
   have aW:b∈es:=by rw[aa];rcases E with E|E<;>simp[E]
   refine⟨(h7 b aW).1.q8 fun x u=>?_,(h7 b aW).2⟩;have hd:=yM.1 ah;refine (st.rest x ((h7 b aW).1.J4 ho x u) fun hm=>?_).1;rcases E with E|E;exact hd.2.2 x (yK.2 ⟨b,E,u⟩) x (zH _ (zN _ hm)) rfl;exact (yM.1 hd.2.1).2.2 x (zN _ hm) x (yK.2 ⟨b,E,u⟩) rfl
  have bc:n1<=(if h=0 then (dV k v).1 else (dV k v).2):=by
   cases h with
   | zero=>exact ap.2.2.2.2.2
   | succ h=>obtain⟨_,_,_,_,_,_,_,_,h9,_⟩:=ap;exact h9
  have b2:=hc.min h;have ar:minOf k v h=(if h=0 then (dV k v).1 else (dV k v).2) / 2:=(by unfold minOf;split<;>rfl);have aA:fK (A++(e.1,(⟨0,0,gi key e.2.y3,[]⟩:gY))::B):=aw.swap fun x u=>(DX.1 u).1;have C:es.length=A.length+B.length+1:=(by rw[aa];simp;omega);have aE:∀ {N:dL} {M2:dY} {n R':_},je D M2 k v (h+1) N n (A.flatMap (·.2.y3)++(gi key e.2.y3++B.flatMap (·.2.y3))) R'->je D M2 k v (h+1) N n (gi key (es.flatMap (·.2.y3))) R':=fun h9=>by rw[am];exact h9
  have ax:∀ {M2:dY} {R':List Int},Step D M1 M2 (A.flatMap (·.2.y4)++((e.2.x5::J)++B.flatMap (·.2.y4))) R'->Step D M M2 (es.flatMap (·.2.y4)) R':=fun h9=>by rw[ai,aR];exact aU.trans h9
  have aK:oi N1 k v↔n1<minOf k v h:=(by unfold oi;rw[ap.size,ar]);unfold gX;rw[hl];dsimp only;rw[if_neg (fun h=>h rfl),if_neg (show ¬(dM es).Q4=true from fun e=>nomatch e),aP,ec];dsimp only;rw[if_neg (fun h=>h rfl),bz];by_cases hlw:oi N1 k v;rw[if_neg (fun h=>h hlw)];have b3:=aK.1 hlw;have bj:n1+1=minOf k v h:=oJ;by_cases hA0:A.length>0;rw[if_pos hA0];obtain⟨A',f,rfl⟩:∃A' f,A=A'++[f]:=(by have bk:A≠[]:=length_pos_iff.1 hA0;exact⟨A.dropLast,A.getLast bk,(vA bk).symm⟩);have bF:(A'++[f]).length-1=A'.length:=oL;rw[bF];have aB:=G f (.inl oL);obtain⟨Ny,Ry,aY,au,aZ,_,_⟩:=aB.1.load;have I:es=A'++f::e::B:=(by rw[aa];simp);have bG:(A'++[f]).flatMap (·.2.y4)=A'.flatMap (·.2.y4)++f.2.y4:=(by simp[yQ]);have bm:(A'++[f]).flatMap (·.2.y3)=A'.flatMap (·.2.y3)++f.2.y3:=(by simp[yQ]);have ac:(A'++[f]).flatMap (·.2.y4)++((e.2.x5::J)++B.flatMap (·.2.y4))=A'.flatMap (·.2.y4)++(((f.2.x5::Ry)++(e.2.x5::J))++B.flatMap (·.2.y4)):=(by rw[bG,aZ];simp only[zV]);have aq:(A'++[f]).flatMap (·.2.y3)++(gi key e.2.y3++B.flatMap (·.2.y3))=A'.flatMap (·.2.y3)++((f.2.y3++gi key e.2.y3)++B.flatMap (·.2.y3)):=(by rw[bm];simp only[zV]);have aC:fK (A'++(f.1,(⟨0,0,f.2.y3,[]⟩:gY))::(e.1,⟨0,0,gi key e.2.y3,[]⟩)::B):=(by have h9:fK (A'++f::((e.1,(⟨0,0,gi key e.2.y3,[]⟩:gY))::B)):=(oP aA);exact h9.swap (s:=⟨0,0,f.2.y3,[]⟩) fun x u=>u);have ad:=aU;rw[ac] at ad;have Hn:sA D M1 k v h A' B f e Ny N1 f.2.size n1 f.2.y3 (gi key e.2.y3) Ry J:=
   ⟨st.wf,st.Q3,by rw[<- I];exact h0,by rw[<- I];exact ab,aC,by have:=an.2;rw[C] at this;simp at this;omega,fun b E=>G b (E.imp (fun E=>by simp[E]) id),au,ap,ad.has,ad.nodup⟩
  have a1:(dM es).J9.getD A'.length 0=f.2.x5:=(by rw[I];exact xb.1);have U:iO Ny k v↔minOf k v h<f.2.size:=(by unfold iO;rw[au.size,ar]);unfold jB;rw[a1,aY];dsimp only;rw[if_neg (fun h=>h rfl),if_pos (show A'.length<(A'++[f]).length by simp),I];by_cases hsq:iO Ny k v;rw[if_neg (fun h=>h hsq)];obtain⟨a2,a3,a4,a5⟩:=Hn.wh;have a6:(dM (A'++f::e::B)).J6.getD A'.length []=e.1:=DY;rw[a6];obtain⟨N,M2,R,e2,ae,V,aG⟩:=qtV hc Hn (qzF hc au ap (U.1 hsq) bj a2 a3 ⟨a4,a5⟩) oJ;rw[<- aq] at ae;rw[<- ac] at V;rw[<- I];exact⟨N,_,M2,_,R,by rw[I];exact e2,rfl,aE ae,ax V,by rw[C];simp;omega,oJ⟩;rw[if_pos hsq];have bH:f.2.size<=minOf k v h:=Nat.le_of_not_lt fun h9=>hsq (U.2 h9);have a7:=aB.2;obtain⟨N,M2,R,e2,ae,V,aG⟩:=qqb hc Hn oJ oJ oJ;rw[<- aq] at ae;rw[<- ac] at V;rw[<- I];exact⟨N,_,M2,_,R,by rw[I];exact e2,rfl,aE ae,ax V,by rw[C];simp;omega,oJ⟩;rw[if_neg hA0];obtain rfl:A=[]:=eq_nil_of_length_eq_zero oJ;obtain⟨f,B',rfl⟩:∃f B',B=f::B':=by
   cases B with
   | nil=>rw[C] at an;simp at an
   | cons f B'=>exact⟨f,B',rfl⟩
  have aB:=G f (.inr oL);obtain⟨Ny,Ry,aY,au,aZ,_,_⟩:=aB.1.load;have I:es=[]++e::f::B':=aa;have ac:([]:List gH).flatMap (·.2.y4)++((e.2.x5::J)++(f::B').flatMap (·.2.y4))=([]:List gH).flatMap (·.2.y4)++(((e.2.x5::J)++(f.2.x5::Ry))++B'.flatMap (·.2.y4)):=by rw[yH,aZ];simp only[zV]
  have aq:([]:List gH).flatMap (·.2.y3)++(gi key e.2.y3++(f::B').flatMap (·.2.y3))=([]:List gH).flatMap (·.2.y3)++((gi key e.2.y3++f.2.y3)++B'.flatMap (·.2.y3)):=(by rw[yH];simp only[zV]);have aC:fK ([]++(e.1,(⟨0,0,gi key e.2.y3,[]⟩:gY))::(f.1,⟨0,0,f.2.y3,[]⟩)::B'):=(by have h9:fK ([(e.1,(⟨0,0,gi key e.2.y3,[]⟩:gY))]++f::B'):=aA;exact h9.swap (s:=⟨0,0,f.2.y3,[]⟩) fun x u=>u);have ad:=aU;rw[ac] at ad;have Hn:sA D M1 k v h [] B' e f N1 Ny n1 f.2.size (gi key e.2.y3) f.2.y3 J Ry:=
   ⟨st.wf,st.Q3,by rw[<- I];exact h0,by rw[<- I];exact ab,aC,by have:=an.2;rw[C] at this;simp at this⊢;omega,fun b E=>G b (E.imp id fun E=>by simp[E]),ap,au,ad.has,ad.nodup⟩
  have a1:(dM es).J9.getD (([]:List gH).length+1) 0=f.2.x5:=(by rw[I];exact xb.2);have U:iO Ny k v↔minOf k v h<f.2.size:=(by unfold iO;rw[au.size,ar]);unfold jB;rw[a1,aY];dsimp only;rw[if_neg (fun h=>h rfl),if_neg (show ¬([]:List gH).length+1<([]:List gH).length by simp),I];by_cases hsq:iO Ny k v;rw[if_neg (fun h=>h hsq)];obtain⟨a2,a3,a4,a5⟩:=Hn.wh;have a6:(dM ([]++e::f::B')).J6.getD ([]:List gH).length []=f.1:=DY (A:=[]) (B:=B') (e1:=e);rw[a6];obtain⟨N,M2,R,e2,ae,V,aG⟩:=qtV hc Hn (qAf hc ap au bj (U.1 hsq) a2 a3 ⟨a4,a5⟩) oJ;rw[<- aq] at ae;rw[<- ac] at V;rw[<- I];exact⟨N,_,M2,_,R,by rw[I];exact e2,rfl,aE ae,ax V,by rw[C];simp,oJ⟩;rw[if_pos hsq];have bH:f.2.size<=minOf k v h:=Nat.le_of_not_lt fun h9=>hsq (U.2 h9);have a7:=aB.2;obtain⟨N,M2,R,e2,ae,V,aG⟩:=qqb hc Hn oJ oJ oJ;rw[<- aq] at ae;rw[<- ac] at V;rw[<- I];exact⟨N,_,M2,_,R,by rw[I];exact e2,rfl,aE ae,ax V,by rw[C];simp,oJ⟩;rw[if_pos hlw];have a7:minOf k v h<=n1:=Nat.le_of_not_lt fun h9=>hlw (aK.2 h9);obtain⟨q,M2,e2,V,H2,aG⟩:=ap.store st.wf st.Q3 oJ bh aV oJ;rw[e2];have bI:Step D M M2 (e.2.x5::Re) (q::J):=Step.kid (Q:=[q]) (fun z hz=>ay z (zI _ (zH _ hz))) ao st V;have bJ:=Step.part ay ah bI;have a8:fK (A++(e.1,(⟨q,n1,gi key e.2.y3,q::J⟩:gY))::B):=aw.swap fun x u=>(DX.1 u).1;have a9:((A++(e.1,(⟨q,n1,gi key e.2.y3,q::J⟩:gY))::B).map (·.1)).head?=some []:=(by rw[aa] at h0;rw[xN,xO] at h0⊢;exact h0);refine⟨dM (A++(e.1,(⟨q,n1,gi key e.2.y3,q::J⟩:gY))::B),es.length,M2,_,A.flatMap (·.2.y4)++((q::J)++B.flatMap (·.2.y4)),?_,rfl,⟨_,a9,rfl,by rw[aa];simp,by rw[qn,am],by rw[qn],Fk (by rw[<- aa];exact ab),a8,an.2,fun b E=>?_⟩,by rw[ai,aR];exact bJ,by show es.length<=es.length+1;omega,oJ⟩;rw[aa];exact congrArg (fun N=>((N,(0:Int)),M2)) (qAa (s:=⟨q,n1,gi key e.2.y3,q::J⟩));have bn:∀b,b∈A\/b∈B->Has D M2 k v h b.2/\minOf k v h<=b.2.size:=fun b E=>by have h9:=G b E;refine⟨h9.1.q8 fun x u=>(V.rest x (h9.1.J4 st.Q3 x u) fun hm=>?_).1,h9.2⟩;have hd:=yM.1 ah;have bo:=zE.1 hm;rcases E with E|E;exact hd.2.2 x (yK.2 ⟨b,E,u⟩) x (by rw[bo];simp) rfl;exact (yM.1 hd.2.1).2.2 x (by rw[bo];simp) x (yK.2 ⟨b,E,u⟩) rfl
  rcases zD.1 E with E|E;exact bn b (.inl E);rcases zG.1 E with rfl|E;exact⟨H2,a7⟩;exact bn b (.inr E)
end
end
section
open Go Go.Pt List
open Go.IntKind (wrap)
attribute [local irreducible] ld dK ij nM jv fg st new idx jw jL fD jO jl mF gF nn call ed inv run eW i9 join loop held ext kH eS nf mY ng IntKind.wrap
variable {B:List Nat} {K:Sl->WP} {cs:Array Value} {i:Nat} {ii:Int} {l:List Key} {s:Sl} {w:World}
def FO{α:Type}{p:α->Bool}:∀ {l:List α} {r:Nat},r<=l.length->(∀(i:Nat) a,i<r->l[i]?=some a->p a=true)->(∀a,l[r]?=some a->p a=false)->(l.takeWhile p).length=r
 | [],r,h,_,_=>by simp at h;simp[h]
 | x::l,0,h,_,u=>by
  have:=u x rfl
  rw[takeWhile_cons,this];rfl
 | x::l,r+1,h,E,u=>by
  have G:=E 0 x (Nat.succ_pos r) rfl
  have:=FO (p:=p) (l:=l) (r:=r) (oP h) (fun i a I C=>E (i+1) a oJ (oP C)) (fun a C=>u a (oP C))
  rw[takeWhile_cons,G];simp[this]
def qzP{k:Key}{r:Nat}(C:r<=l.length)(E:∀(i:Nat) a,i<r->l[i]?=some a->lJ a k)(G:∀a,l[r]?=some a->fI k a):en l k=r:=
 FO C (fun i a I u=>yA (E i a I u)) fun a u=>zU fun h=>h (G a u)
def qxh{k:Key}{r:Nat}(u:r<=l.length)(C:∀(i:Nat) a,i<r->l[i]?=some a->fI a k)(E:∀a,l[r]?=some a->lJ k a):dN l k=r:=
 FO u (fun i a G h=>yA (C i a G h)) fun a h=>zU (E a h)
def EN(h:fJ l){j:Nat}{a b:Key}(u:i<j)(C:l[i]?=some a)(E:l[j]?=some b):fI a b:=by obtain⟨G,rfl⟩:=zP.1 C;obtain⟨I,rfl⟩:=zP.1 E;exact pairwise_iff_getElem.1 h i j G I u
abbrev ka:=Bool×Sl×Sl×Sl
def eJ (x:ka):Array Value:=#[.bool x.1,x.2.1.v,x.2.2.1.v,x.2.2.2.v]
def fx:ka:=(false,dG,dG,dG)
def NB (n:dL):Prop:=(∀a∈n.J6,eF a)/\(∀a∈n.Q0,eF a)/\∀x∈n.J9,gC x
def eC (S:List Nat) (w:World) (x:ka) (n:dL):Prop:=
 x.1=n.Q4/\NB n/\(∃pk,jg S w x.2.1 pk/\ga pk=n.J6)/\(∃pv,jg S w x.2.2.1 pv/\ga pv=n.Q0)/\dZ iu 1 S w x.2.2.2 n.J9
def iX (Z:List Nat) (w:World) (s:Sl) (l:List Key) (B:List Nat):Prop:=∃pk:pj,eQ gp 1 w s (ir pk) B/\ga pk=l/\∀p∈pk,eh Z w p.1 p.2
def fc (Z:List Nat) (w:World) (x:ka) (n:dL) (B:List Nat):Prop:=
 x.1=n.Q4/\NB n/\∃Bk h u,B=Bk++(h++u)/\B.Nodup/\iX Z w x.2.1 n.J6 Bk/\iX Z w x.2.2.1 n.Q0 h/\eQ iu 1 w x.2.2.2 n.J9 u
def iX.nil(Z:List Nat)(w:World):iX Z w dG [] []:=⟨[],.nil _ _ _,rfl,fun p h=>nomatch h⟩
def fc.zero(Z:List Nat)(w:World):fc Z w fx ip []:=⟨rfl,⟨fun _ h=>(nomatch h),fun _ h=>(nomatch h),fun _ h=>(nomatch h)⟩,[],[],[],rfl,nodup_nil,.nil _ _,.nil _ _,.nil _ _ _⟩
section
variable {Z Z' S:List Nat} {w w':World} {s:Sl} {l:List Key} {B:List Nat} {x:ka} {n:dL}
def iX.lt(h:iX Z w s l B):∀b∈B,b<w.heap.size:=by obtain⟨pk,u,rfl,_⟩:=h;exact u.lt
def iX.q8(h:iX Z w s l B)(f:Fr S w w')(u:∀b∈B,b∉S)(C:∀b∈S,b∈Z\/w.heap.size<=b)(E:∀b∈Z',b∈Z\/w.heap.size<=b):iX Z' w' s l B:=by obtain⟨pk,G,I,J⟩:=h;exact⟨pk,G.q8 f u,I,fun p R=>(J p R).q8 (f.mono fun i U V=>(C i U).elim id fun h=>absurd V oJ) E⟩
def iX.q7(h:iX Z w s l B)(f:Fr [] w w'):iX Z w' s l B:=h.q8 f (fun _ _ h=>nomatch h) (fun _ h=>nomatch h) fun _ h=>.inl h
def fc.lt(h:fc Z w x n B):∀b∈B,b<w.heap.size:=by obtain⟨_,_,Bk,I,J,rfl,_,C,E,G⟩:=h;intro b u;rcases zD.1 u with u|u;exact C.lt b u;rcases zD.1 u with u|u;exact E.lt b u;exact G.lt b u
def fc.q8(h:fc Z w x n B)(f:Fr S w w')(C:∀b∈B,b∉S)(E:∀b∈S,b∈Z\/w.heap.size<=b)(G:∀b∈Z',b∈Z\/w.heap.size<=b):fc Z' w' x n B:=by obtain⟨I,u,Bk,J,R,rfl,U,V,h2,h3⟩:=h;exact⟨I,u,Bk,J,R,rfl,U,V.q8 f (fun b u=>C b (by simp[u])) E G,h2.q8 f (fun b u=>C b (by simp[u])) E G,h3.q8 f fun b u=>C b (by simp[u])⟩
def fc.q7(h:fc Z w x n B)(f:Fr [] w w'):fc Z w' x n B:=h.q8 f (fun _ _ h=>nomatch h) (fun _ h=>nomatch h) fun _ h=>.inl h
def fc.j6(h:fc Z w x n B)(u:∀b∈Z',b∈Z\/w.heap.size<=b):fc Z' w x n B:=h.q8 (.refl [] _) (fun _ _ h=>nomatch h) (fun _ h=>nomatch h) u
def iX.rd(h:iX Z w s l B)(u:∀b∈B,b∉S)(C:∀b∈S,b∈Z\/w.heap.size<=b):∃pk,jg S w s pk/\ga pk=l:=by obtain⟨pk,E,G,I⟩:=h;exact⟨pk,⟨E.jo u9 u,fun p J=>(I p J).q8 (.refl _ _) C⟩,G⟩
def fc.rd(h:fc Z w x n B)(C:∀b∈B,b∉S)(E:∀b∈S,b∈Z\/w.heap.size<=b):eC S w x n:=by obtain⟨G,u,Bk,U,V,rfl,hn,I,J,R⟩:=h;exact⟨G,u,I.rd (fun b u=>C b (by simp[u])) E,J.rd (fun b u=>C b (by simp[u])) E,R.jo (fun _=>rfl) fun b u=>C b (by simp[u])⟩
def eC.q8{S':List Nat}(h:eC S w x n)(f:Fr S w w')(u:∀b∈S',b∈S\/w.heap.size<=b):eC S' w' x n:=by obtain⟨C,E,⟨pk,G,I⟩,⟨pv,J,R⟩,U⟩:=h;exact⟨C,E,⟨pk,G.q8 f u,I⟩,⟨pv,J.q8 f u,R⟩,U.q8 f u⟩
def eC.q7(h:eC S w x n)(f:Fr [] w w'):eC S w' x n:=h.q8 (f.mono fun b u=>nomatch u) fun b u=>.inl u
def eC.j6{S':List Nat}(h:eC S w x n)(u:∀b∈S',b∈S\/w.heap.size<=b):eC S' w x n:=h.q8 (.refl _ _) u
end
def qkU:∀ {l:List Key},(∀(i:Nat) a b,l[i]?=some a->l[i+1]?=some b->fI a b)->fJ l
 | [],_=>.nil
 | [x],_=>pairwise_singleton _ _
 | x::y::r,h=>by have ih:fJ (y::r):=qkU fun i a b u E=>h (i+1) a b (oP u) (oP E);have C:fI x y:=h 0 x y rfl rfl;refine yJ.2 ⟨fun a u=>?_,ih⟩;rcases zG.1 u with rfl|u;exact C;exact pf C (wn ih a u)
def C0{α:Type}{l:List α}{x y:α}(h:y∈fE l i x):y=x\/y∈l:=by unfold fE at h;simp only[zD,zE] at h;rcases h with (h|h)|h;exact .inr (yV h);exact .inl h;exact .inr (yU h)
def Gi{k v:Nat}:∀(c:Nat) {b:List Int},eF b->(∀a∈(iK k v c b).1,eF a)/\∀a∈(iK k v c b).2,eF a
 | 0,_,_=>⟨fun _ h=>(nomatch h),fun _ h=>(nomatch h)⟩
 | c+1,b,h=>by have ih:=Gi (k:=k) (v:=v) c (b:=b.drop (k+v)) (h.drop _);refine⟨fun a u=>?_,fun a u=>?_⟩;rcases zG.1 u with rfl|u;exact h.take _;exact ih.1 a u;rcases zG.1 u with rfl|u;exact (h.drop _).take _;exact ih.2 a u
def qqd{k:Nat}:∀(c:Nat) {b:List Int},eF b->∀a∈kV k c b,eF a
 | 0,_,_=>fun _ h=>(nomatch h)
 | c+1,b,h=>fun a u=>by rcases zG.1 u with rfl|u;exact h.take _;exact qqd c (h.drop _) a u
def BU:∃i,prog.info? 101=some i/\i.zero=some (.slice none 0 0)/\i.size=1/\i.bytes=24:=sK oK
abbrev fS (s:Sl):Value:=s.v
abbrev mT (n:Int):Value:=.u n
def CX{α:Type}(e:α->Value)(l:List α)(i:Nat)(x:α):(l.take i++[x]++l.drop i).map e=(l.map e).take i++[e x]++(l.map e).drop i:=by rw[xN,xN,xP,xQ];rfl
def qt0{α:Type}(e:α->Value)(l:List α)(i:Nat):(l.take i++l.drop (i+1)).map e=(l.map e).take i++(l.map e).drop (i+1):=by rw[xN,xP,xQ]
def yz{a:Addr}{len cap:Nat}{hi:Int}{u:Nat}{K:Sl->Prop}(n:Nat)(C:hi=n)(h:n<=cap)(k:K ⟨some a,n,cap⟩):fD ⟨some a,len,cap⟩ none (some hi) none u K:=by subst C;refine zj ⟨oJ,by dsimp only;omega⟩ ?_;rw[zJ];exact k
def rT{b len cap:Nat}{lo:Int}{K:Sl->Prop}(n:Nat)(h:lo=n)(C:n<=len)(u:len<=cap)(E:n<cap)(k:K ⟨some (dg b n),len-n,cap-n⟩):fD ⟨pW b,len,cap⟩ (some lo) none none 1 K:=by subst h;refine Ce oJ oJ u oJ ?_;rw[zJ,xT,xS];exact k
def qxC{lo hi mx:Int}{u:Nat}{K:Sl->Prop}(h:0<=lo/\lo<=hi/\hi<=mx/\mx<=s.cap)(k:∀C,K C):fD s (some lo) (some hi) (some mx) u K:=by unfold fD;exact⟨by simpa using h,k _⟩
def ym{α:Type}{e:α->Value}{b:Nat}{T:TypeId}{E:Nat×Nat}{l:List α}(G:w.heap[b]?=some (.cells cs T E))(I:cs.toList.take l.length=l.map e)(i:Nat):∀(j:Nat) u,((l.map e).drop i)[j]?=some u->w.cell? (Addr.add (dg b i) j)=some u:=fun j u C=>by rw[Addr.q9,ji G];rw[xA] at C;have h:=(zP.1 C).1;rw[zK] at h;rw[<- I,xB,if_pos h] at C;simpa using C
def qmg{α:Type}{e:α->Value}{l:List α}(h:cs.toList.take l.length=l.map e)(hi:i<=l.length):cs.toList.take i=(l.map e).take i:=by rw[<- h,take_take,xR hi]
def C1{α:Type}{enc:α->List Value}{e:α->Value}(u:∀x,enc x=[e x]){l:List α}(h:cs.toList.take l.length=l.flatMap enc):cs.toList.take l.length=l.map e:=by rw[h,zk u]
def quD{l:List Sl}{x:Sl}{vb:Nat}{T':TypeId}(h:eQ gp 1 w s l B)(hi:i<=l.length)(he:ii=i)(hl:l.length<=100000)(hv:w.heap[vb]?=some (.cells #[fS x] T' (0,0)))(ak:vb∉B)(kk:∀s' B' w',eQ gp 1 w' s' (fE l i x) B'->Fr B w w'->(∀b∈B',b∈B\/w.heap.size<=b)->K s' w'): cW 165 [s.v,.i ii,.slice (pW vb) 1 1] dh w K:=by
 obtain⟨aG,ab,hz,al,am⟩:=BU;refine qlP (s:=s) (i:=ii) (v:=⟨pW vb,1,1⟩) ?_;subst he;have an:=h.len;have ac:∀w',Fr B w w'->∀(j:Nat) u,([fS x]:List Value)[j]?=some u->w'.cell? (Addr.add (dg vb) j)=some u:=fun w' f j u hj=>by rw[Addr.q9,ji (by rw[f.block vb (eZ hv) ak];exact hv),xS];simpa using hj
 refine dZ.part (S:=[]) (eQ.jo (enc:=gp) (k:=1) (fun _=>rfl) h (fun _ _ h=>nomatch h)) (lo:=some (i:Int)) (hi:=none) i l.length rfl (by rw[xW,an]) hi (zM _) fun s1 _ _ _=>cond_false rfl ?_;apply dW<;>intro hc;have J:i=l.length:=(by have:=yP.1 hc;omega);have ao:Src prog 1 171 (.slice (pW vb) 1 1) 1 ([x].flatMap gp) w:=.ofSlice w (e':=101) oK _ 1 1 _ rfl (ac w (.refl _ _)) (fun u hu=>by rw[yH,flatMap_nil,xH] at hu;rw[zE.1 hu];rfl);refine eQ.j1 (ys:=[x]) (e:=101) h (fun _=>rfl) oK ab hz al rfl ao rfl (by rw[am];omega) oJ fun s' B' w' b' f' n' _=>kk s' B' w' ?_ f' n';have e:fE l i x=l++[x]:=(by unfold fE;rw[J,xZ,drop_length,xH]);rw[e];exact b';have J:i<l.length:=by
  have:=(zR.1 hc)
  omega
 have aH:l≠[]:=fun e=>by rw[e] at J;exact absurd J (xY _)
 obtain⟨b,cs,T,rfl,ha,hb,hn,ap,aq,aI⟩:=h.ptr aH;have hM:=C1 (e:=fS) (fun _=>rfl) aI;obtain⟨sa,sn,sc⟩:=s;dsimp only at ha hn ap aq;subst ha hn;have aJ:vb≠b:=(oP ak);have E:(l.map fS).length=l.length:=zK ..;have ar:∀v∈(l.map fS).drop i,Value.oneCell' v=true:=fun v I=>by obtain⟨y,_,rfl⟩:=mem_map.1 (yU I);rfl
 have R:((l.map fS).drop i).length=l.length-i:=(by rw[yC,E]);have U:wrap .i64 ((l.length:Int)+1)=((l.length+1:Nat):Int):=(by rw[gg _ oJ];rfl);have au:wrap .i64 ((i:Int)+1)=((i+1:Nat):Int):=(by rw[gg _ oJ];rfl);have aK:wrap .i64 (((l.length+1:Nat):Int)-(i:Int))=((l.length+1-i:Nat):Int):=(by rw[gg _ oJ];omega);apply cD<;>intro hc;have hg:sc<l.length+1:=by
  have:=hc
  dsimp only at this;rw[show (((1:Nat):Int))=1 from rfl,U] at this;omega
 refine yz i rfl oJ ?_;dsimp only;rw[show (((1:Nat):Int))=1 from rfl,U,aK,au];have av:i+(l.length+1-i)=l.length+1:=oJ;refine FB (e:=101) (i:=aG) (kn:=.i64) (olds:=(l.map fS).take i) oK oK ab hz al rfl (by rw[yL,E];omega) (fun h=>nomatch h) (fun a ha j u hj=>?_) oJ oJ (by rw[av,am];omega) oJ fun b2 aM c w2 e2 af f2 V aN aO=>?_;cases ha;have aw:=ym hb hM 0 j u;rw[xF] at aw;rw[xB] at hj;split at hj;exact aw hj;cases hj;rw[av] at V⊢;have ax:=eZ hb;have aZ:Fr [b2] w w2:=f2.mono fun _ h _=>nomatch h;refine rT i rfl oJ V oJ<|vR (vs:=[fS x]) (src:=⟨pW vb,1,1⟩) af (el:=101) oK oK ?_ (fun _=>⟨_,rfl,ac w2 (f2.mono fun _ h _=>nomatch h)⟩) (fun v I=>by rw[zE.1 I];rfl) oO fun w3 ag f3=>?_;show 1=min 1 (l.length+1-i);omega;refine rT (i+1) rfl oJ V oJ<|rT i rfl oJ oJ oJ ?_;have aP:w3.heap[b]?=some (.cells cs T (0,0)):=by rw[f3.block b (yD ax f2.size) oO,f2.block b ax (fun h=>nomatch h)];exact hb
 refine vR (w:=w3.drew) (vs:=(l.map fS).drop i) (src:=⟨some (dg b i),l.length-i,sc-i⟩) ag (el:=101) oK oK ?_ (fun _=>⟨_,rfl,ym (w:=w3.drew) aP hM i⟩) ar (by rw[mR,R];omega) fun w4 aQ f4=>?_;rw[R];show l.length-i=min (l.length-i) (l.length+1-(i+1));omega;have G:=qwS (cs:=aM) (M:=l.map fS) (i:=i) (v:=fS x) (by rw[E];omega) (by rw[E];omega) aO;have C:(fE l i x).length=l.length+1:=(by unfold fE;simp;omega);refine kk _ [b2] w4 (eQ.one (e:=fS) (fun _=>rfl) aQ C.symm V (by rw[mR,mR];exact aN) ?_) ?_ (fun b' ah=>?_);rw[C];rw[E] at G;rw[G];exact (CX fS l i x).symm;refine Fr.j8 (S:=[b]) (T:=[b2]) (f2.mono fun _ h _=>nomatch h) (f3.drew.trans f4) fun i hi=>.inr ?_;rw[zE.1 hi,e2];exact zM _;rw[zE.1 ah,e2];exact .inr (zM _);have hg:l.length+1<=sc:=by
  have:=hc
  dsimp only at this;rw[show (((1:Nat):Int))=1 from rfl,U] at this;omega
 dsimp only;rw[show (((1:Nat):Int))=1 from rfl,U,au];refine yz (l.length+1) rfl hg<|rT (i+1) rfl oJ hg oJ<|CR (e:=Extern.SlicesOverlaps.overlaps #[171,171] #[4]) Tryz.func196 oK oK oK oK false w (qog oK ab hv hb aJ oJ)<|cond_true rfl<|rT (i+1) rfl oJ hg oJ<|rT i rfl oJ hg oJ<|vR (w:=w.drew) (vs:=(l.map fS).drop i) (src:=⟨some (dg b i),l.length+1-i,sc-i⟩) hb (el:=101) oK oK ?_ (fun _=>⟨_,rfl,ym (w:=w.drew) hb hM i⟩) ar (by rw[R];omega) fun w2 af f2=>?_;rw[R];show l.length-i=min (l.length+1-i) (l.length+1-(i+1));omega;refine rT i rfl oJ hg oJ<|vR (vs:=[fS x]) (src:=⟨pW vb,1,1⟩) af (el:=101) oK oK ?_ (fun _=>⟨_,rfl,ac w2 ((Fr.refl [b] w).drew.trans f2)⟩) (fun v I=>by rw[zE.1 I];rfl) (by rw[mR];simp;omega) fun w3 ag f3=>?_;show 1=min 1 (l.length+1-i);omega;have G:=qwU (cs:=cs) (M:=l.map fS) (i:=i) (v:=fS x) (by rw[E];omega) (by rw[E];omega) (qmg hM oJ);have C:(fE l i x).length=l.length+1:=(by unfold fE;simp;omega);refine kk _ [b] w3 (eQ.one (e:=fS) (fun _=>rfl) ag C.symm hg (by rw[mR,mR];exact aq) ?_) (((Fr.refl [b] w).drew.trans f2).trans f3) (fun b' ah=>.inl ah);rw[C];rw[E] at G;rw[G];exact (CX fS l i x).symm
def quA{l:List Sl}{jj:Int}(h:eQ gp 1 w s l B)(hi:i<l.length)(he:ii=i)(hj:jj=((i+1:Nat):Int))(hl:l.length<=100000)(kk:∀s' w',eQ gp 1 w' s' (gM l i) B->Fr B w w'->K s' w'): cW 168 [s.v,.i ii,.i jj] dh w K:=by
 obtain⟨aw,ac,hz,ad,ax⟩:=BU;refine qlN ?_;subst he hj;have ae:l≠[]:=fun e=>by rw[e] at hi;exact absurd hi (xY _)
 obtain⟨b,cs,T,rfl,ha,hb,hn,U,G,af⟩:=h.ptr ae;have hM:=C1 (e:=fS) (fun _=>rfl) af;obtain⟨sa,sn,sc⟩:=s;dsimp only at ha hn U G;subst ha hn;have C:(l.map fS).length=l.length:=zK ..;have aA:∀v∈(l.map fS).drop (i+1),Value.oneCell' v=true:=fun v ag=>by obtain⟨y,_,rfl⟩:=mem_map.1 (yU ag);rfl
 have aB:((l.map fS).drop (i+1)).length=l.length-(i+1):=(by rw[yC,C]);refine qxC oN fun _=>cond_false (zR.2 oJ)<|yz i rfl oJ ?_;have ah:∀R,R.heap[b]?=some (.cells (dR cs i ((l.map fS).drop (i+1))) T (0,0))->Fr [b] w R->fD ⟨pW b,l.length-1,sc⟩ (some (((l.length-1:Nat)):Int)) (some ((l.length:Nat):Int)) none 1 fun (I:Sl)=>
  run [] ((Builtin.clear_ #[171] 0 (#[Value.slice I.a I.len I.cap])).run prog R)<|
  fun (aC:PUnit) (ai:World)=>
  K ⟨pW b,l.length-1,sc⟩ ai:=fun R J f5=>by
  refine Cy oJ oJ oJ oJ ?_;rw[zJ,zJ,xT,xS];have h1:l.length-(l.length-1)=1:=oJ;rw[h1];dsimp only;refine qtX (e:=101) (z:=(Value.slice none 0 0)) J oK oK rfl rfl oJ (by rw[mR];omega) fun w6 ak f6=>?_;have E:=qwx (cs:=cs) (M:=l.map fS) (i:=i) (z:=(Value.slice none 0 0)) (by rw[C];omega) (by rw[C];exact hM);have V:(gM l i).length=l.length-1:=(by unfold gM;simp;omega);refine kk _ w6 (eQ.one (e:=fS) (fun _=>rfl) ak V.symm oJ (by rw[mR,mR];exact G) ?_) (f5.trans f6);rw[V];rw[C] at E;rw[show List.replicate 1 ((Value.slice none 0 0))=[(Value.slice none 0 0)] from rfl,E];exact (qt0 fS l i).symm
 refine dZ.part (S:=[]) (eQ.jo (enc:=gp) (k:=1) (fun _=>rfl) h (fun _ _ h=>nomatch h)) (lo:=some ((i+1:Nat):Int)) (hi:=none) (i+1) l.length rfl rfl oJ (zM _) fun s3 aa h3 aH=>?_;have ab:Src prog 1 171 s3.v s3.len ((l.map fS).drop (i+1)) w.drew:=by
  have:=tg (P:=prog) (tx:=171) (e':=101) (h3.same (m7.refl w).drew) (fun _=>rfl) (fun x u hu=>by rw[zE.1 hu];rfl) oK
  rw[zk (enc:=gp) (e:=fS) (fun _=>rfl),xZ,xQ] at this;exact this
 dsimp only;refine qtR (w:=w.drew) (e:=101) hb oK ac ad ab (by rw[aa];omega) G fun R J f5=>?_;have e:i+s3.len=l.length-1:=(by rw[aa];omega);rw[e];exact ah R J ((Fr.refl [b] w).drew.trans f5)
def quE{l:List Int}{x:Int}{vb:Nat}{T':TypeId}(h:eQ iu 1 w s l B)(hi:i<=l.length)(he:ii=i)(hl:l.length<=100000)(hv:w.heap[vb]?=some (.cells #[mT x] T' (0,0)))(ak:vb∉B)(kk:∀s' B' w',eQ iu 1 w' s' (fE l i x) B'->Fr B w w'->(∀b∈B',b∈B\/w.heap.size<=b)->K s' w'): cW 167 [s.v,.i ii,.slice (pW vb) 1 1] dh w K:=by
 obtain⟨aG,ab,hz,al,am⟩:=vI;refine qlQ (s:=s) (i:=ii) (v:=⟨pW vb,1,1⟩) ?_;subst he;have an:=h.len;have ac:∀w',Fr B w w'->∀(j:Nat) u,([mT x]:List Value)[j]?=some u->w'.cell? (Addr.add (dg vb) j)=some u:=fun w' f j u hj=>by rw[Addr.q9,ji (by rw[f.block vb (eZ hv) ak];exact hv),xS];simpa using hj
 refine dZ.part (S:=[]) (eQ.jo (enc:=iu) (k:=1) (fun _=>rfl) h (fun _ _ h=>nomatch h)) (lo:=some (i:Int)) (hi:=none) i l.length rfl (by rw[xW,an]) hi (zM _) fun s1 _ _ _=>cond_false rfl ?_;apply dW<;>intro hc;have J:i=l.length:=(by have:=yP.1 hc;omega);have ao:Src prog 1 172 (.slice (pW vb) 1 1) 1 ([x].flatMap iu) w:=.ofSlice w (e':=63) oK _ 1 1 _ rfl (ac w (.refl _ _)) (fun u hu=>by rw[yH,flatMap_nil,xH] at hu;rw[zE.1 hu];rfl);refine eQ.j1 (ys:=[x]) (e:=63) h (fun _=>rfl) oK ab hz al rfl ao rfl (by rw[am];omega) oJ fun s' B' w' b' f' n' _=>kk s' B' w' ?_ f' n';have e:fE l i x=l++[x]:=(by unfold fE;rw[J,xZ,drop_length,xH]);rw[e];exact b';have J:i<l.length:=by
  have:=(zR.1 hc)
  omega
 have aH:l≠[]:=fun e=>by rw[e] at J;exact absurd J (xY _)
 obtain⟨b,cs,T,rfl,ha,hb,hn,ap,aq,aI⟩:=h.ptr aH;have hM:=C1 (e:=mT) (fun _=>rfl) aI;obtain⟨sa,sn,sc⟩:=s;dsimp only at ha hn ap aq;subst ha hn;have aJ:vb≠b:=(oP ak);have E:(l.map mT).length=l.length:=zK ..;have ar:∀v∈(l.map mT).drop i,Value.oneCell' v=true:=fun v I=>by obtain⟨y,_,rfl⟩:=mem_map.1 (yU I);rfl
 have R:((l.map mT).drop i).length=l.length-i:=(by rw[yC,E]);have U:wrap .i64 ((l.length:Int)+1)=((l.length+1:Nat):Int):=(by rw[gg _ oJ];rfl);have au:wrap .i64 ((i:Int)+1)=((i+1:Nat):Int):=(by rw[gg _ oJ];rfl);have aK:wrap .i64 (((l.length+1:Nat):Int)-(i:Int))=((l.length+1-i:Nat):Int):=(by rw[gg _ oJ];omega);apply cD<;>intro hc;have hg:sc<l.length+1:=by
  have:=hc
  dsimp only at this;rw[show (((1:Nat):Int))=1 from rfl,U] at this;omega
 refine yz i rfl oJ ?_;dsimp only;rw[show (((1:Nat):Int))=1 from rfl,U,aK,au];have av:i+(l.length+1-i)=l.length+1:=oJ;refine FB (e:=63) (i:=aG) (kn:=.i64) (olds:=(l.map mT).take i) oK oK ab hz al rfl (by rw[yL,E];omega) (fun h=>nomatch h) (fun a ha j u hj=>?_) oJ oJ (by rw[av,am];omega) oJ fun b2 aM c w2 e2 af f2 V aN aO=>?_;cases ha;have aw:=ym hb hM 0 j u;rw[xF] at aw;rw[xB] at hj;split at hj;exact aw hj;cases hj;rw[av] at V⊢;have ax:=eZ hb;have aZ:Fr [b2] w w2:=f2.mono fun _ h _=>nomatch h;refine rT i rfl oJ V oJ<|vR (vs:=[mT x]) (src:=⟨pW vb,1,1⟩) af (el:=63) oK oK ?_ (fun _=>⟨_,rfl,ac w2 (f2.mono fun _ h _=>nomatch h)⟩) (fun v I=>by rw[zE.1 I];rfl) oO fun w3 ag f3=>?_;show 1=min 1 (l.length+1-i);omega;refine rT (i+1) rfl oJ V oJ<|rT i rfl oJ oJ oJ ?_;have aP:w3.heap[b]?=some (.cells cs T (0,0)):=by rw[f3.block b (yD ax f2.size) oO,f2.block b ax (fun h=>nomatch h)];exact hb
 refine vR (w:=w3.drew) (vs:=(l.map mT).drop i) (src:=⟨some (dg b i),l.length-i,sc-i⟩) ag (el:=63) oK oK ?_ (fun _=>⟨_,rfl,ym (w:=w3.drew) aP hM i⟩) ar (by rw[mR,R];omega) fun w4 aQ f4=>?_;rw[R];show l.length-i=min (l.length-i) (l.length+1-(i+1));omega;have G:=qwS (cs:=aM) (M:=l.map mT) (i:=i) (v:=mT x) (by rw[E];omega) (by rw[E];omega) aO;have C:(fE l i x).length=l.length+1:=(by unfold fE;simp;omega);refine kk _ [b2] w4 (eQ.one (e:=mT) (fun _=>rfl) aQ C.symm V (by rw[mR,mR];exact aN) ?_) ?_ (fun b' ah=>?_);rw[C];rw[E] at G;rw[G];exact (CX mT l i x).symm;refine Fr.j8 (S:=[b]) (T:=[b2]) (f2.mono fun _ h _=>nomatch h) (f3.drew.trans f4) fun i hi=>.inr ?_;rw[zE.1 hi,e2];exact zM _;rw[zE.1 ah,e2];exact .inr (zM _);have hg:l.length+1<=sc:=by
  have:=hc
  dsimp only at this;rw[show (((1:Nat):Int))=1 from rfl,U] at this;omega
 dsimp only;rw[show (((1:Nat):Int))=1 from rfl,U,au];refine yz (l.length+1) rfl hg<|rT (i+1) rfl oJ hg oJ<|CR (e:=Extern.SlicesOverlaps.overlaps #[172,172] #[4]) Tryz.func200 oK oK oK oK false w (qog oK ab hv hb aJ oJ)<|cond_true rfl<|rT (i+1) rfl oJ hg oJ<|rT i rfl oJ hg oJ<|vR (w:=w.drew) (vs:=(l.map mT).drop i) (src:=⟨some (dg b i),l.length+1-i,sc-i⟩) hb (el:=63) oK oK ?_ (fun _=>⟨_,rfl,ym (w:=w.drew) hb hM i⟩) ar (by rw[R];omega) fun w2 af f2=>?_;rw[R];show l.length-i=min (l.length+1-i) (l.length+1-(i+1));omega;refine rT i rfl oJ hg oJ<|vR (vs:=[mT x]) (src:=⟨pW vb,1,1⟩) af (el:=63) oK oK ?_ (fun _=>⟨_,rfl,ac w2 ((Fr.refl [b] w).drew.trans f2)⟩) (fun v I=>by rw[zE.1 I];rfl) (by rw[mR];simp;omega) fun w3 ag f3=>?_;show 1=min 1 (l.length+1-i);omega;have G:=qwU (cs:=cs) (M:=l.map mT) (i:=i) (v:=mT x) (by rw[E];omega) (by rw[E];omega) (qmg hM oJ);have C:(fE l i x).length=l.length+1:=(by unfold fE;simp;omega);refine kk _ [b] w3 (eQ.one (e:=mT) (fun _=>rfl) ag C.symm hg (by rw[mR,mR];exact aq) ?_) (((Fr.refl [b] w).drew.trans f2).trans f3) (fun b' ah=>.inl ah);rw[C];rw[E] at G;rw[G];exact (CX mT l i x).symm
def quB{l:List Int}{jj:Int}(h:eQ iu 1 w s l B)(hi:i<l.length)(he:ii=i)(hj:jj=((i+1:Nat):Int))(hl:l.length<=100000)(kk:∀s' w',eQ iu 1 w' s' (gM l i) B->Fr B w w'->K s' w'): cW 239 [s.v,.i ii,.i jj] dh w K:=by
 obtain⟨aw,ac,hz,ad,ax⟩:=vI;refine qlO ?_;subst he hj;have ae:l≠[]:=fun e=>by rw[e] at hi;exact absurd hi (xY _)
 obtain⟨b,cs,T,rfl,ha,hb,hn,U,G,af⟩:=h.ptr ae;have hM:=C1 (e:=mT) (fun _=>rfl) af;obtain⟨sa,sn,sc⟩:=s;dsimp only at ha hn U G;subst ha hn;have C:(l.map mT).length=l.length:=zK ..;have aA:∀v∈(l.map mT).drop (i+1),Value.oneCell' v=true:=fun v ag=>by obtain⟨y,_,rfl⟩:=mem_map.1 (yU ag);rfl
 have aB:((l.map mT).drop (i+1)).length=l.length-(i+1):=(by rw[yC,C]);refine qxC oN fun _=>cond_false (zR.2 oJ)<|yz i rfl oJ ?_;have ah:∀R,R.heap[b]?=some (.cells (dR cs i ((l.map mT).drop (i+1))) T (0,0))->Fr [b] w R->fD ⟨pW b,l.length-1,sc⟩ (some (((l.length-1:Nat)):Int)) (some ((l.length:Nat):Int)) none 1 fun (I:Sl)=>
  run [] ((Builtin.clear_ #[172] 0 (#[Value.slice I.a I.len I.cap])).run prog R)<|
  fun (aC:PUnit) (ai:World)=>
  K ⟨pW b,l.length-1,sc⟩ ai:=fun R J f5=>by
  refine Cy oJ oJ oJ oJ ?_;rw[zJ,zJ,xT,xS];have h1:l.length-(l.length-1)=1:=oJ;rw[h1];dsimp only;refine qtX (e:=63) (z:=(Value.int .u32 0)) J oK oK rfl rfl oJ (by rw[mR];omega) fun w6 ak f6=>?_;have E:=qwx (cs:=cs) (M:=l.map mT) (i:=i) (z:=(Value.int .u32 0)) (by rw[C];omega) (by rw[C];exact hM);have V:(gM l i).length=l.length-1:=(by unfold gM;simp;omega);refine kk _ w6 (eQ.one (e:=mT) (fun _=>rfl) ak V.symm oJ (by rw[mR,mR];exact G) ?_) (f5.trans f6);rw[V];rw[C] at E;rw[show List.replicate 1 ((Value.int .u32 0))=[(Value.int .u32 0)] from rfl,E];exact (qt0 mT l i).symm
 refine dZ.part (S:=[]) (eQ.jo (enc:=iu) (k:=1) (fun _=>rfl) h (fun _ _ h=>nomatch h)) (lo:=some ((i+1:Nat):Int)) (hi:=none) (i+1) l.length rfl rfl oJ (zM _) fun s3 aa h3 aH=>?_;have ab:Src prog 1 172 s3.v s3.len ((l.map mT).drop (i+1)) w.drew:=by
  have:=tg (P:=prog) (tx:=172) (e':=63) (h3.same (m7.refl w).drew) (fun _=>rfl) (fun x u hu=>by rw[zE.1 hu];rfl) oK
  rw[zk (enc:=iu) (e:=mT) (fun _=>rfl),xZ,xQ] at this;exact this
 dsimp only;refine qtR (w:=w.drew) (e:=63) hb oK ac ad ab (by rw[aa];omega) G fun R J f5=>?_;have e:i+s3.len=l.length-1:=(by rw[aa];omega);rw[e];exact ah R J ((Fr.refl [b] w).drew.trans f5)
end
section
open Go Go.Pt List
open Go.IntKind (wrap)
open Classical
attribute [local irreducible] ld dK ij nM jv fg st new idx jw jL fD jO jl mF gF nn call ed inv run eW i9 join loop held ext kH eS nf mY ng IntKind.wrap
variable {B S:List Nat} {K:Sl->WP} {L:List (Nat×Obj)} {T:TypeId} {b l:List Int} {e:Int×Int×List Int} {k v:Nat} {kind:Int} {n:dL} {ps:pj} {s:Sl} {w w0:World} {x:ka}
def qt7{i j:Nat}(h:i+j<=10000000):wrap .i64 (Int.fdiv (wrap .u64 (wrap .i64 ((i:Int)+(j:Int)))) (2^1))=(((i+j) / 2:Nat):Int):=by have e1:wrap .i64 ((i:Int)+(j:Int))=(i:Int)+(j:Int):=gg _ oJ;have u:wrap .u64 ((i:Int)+(j:Int))=(i:Int)+(j:Int):=IntWalk.u64_in _ oJ;rw[e1,u,Int.fdiv_eq_ediv_of_nonneg _ oM];have e:((i:Int)+(j:Int)) / 2^1=(((i+j) / 2:Nat):Int):=oJ;rw[e,gg _ oJ]
def qwj{n:Nat}{v:Value}{p:Nat->Bool}{K:Int->WP}(E:n<=1000000)(hf:∀w1 (i:Nat) (K':Bool->WP),Fr [] w w1->i<n->(∀w2,Fr [] w w2->K' (p i) w2)->ed prog v [.i i] dj w1 K')(u:∀i j,i<=j->j<n->p i=true->p j=true)(hk:∀(r:Nat) w',r<=n->(∀i,i<r->p i=false)->(∀i,r<=i->i<n->p i=true)->Fr [] w w'->K r w'): cW 123 [.i n,v] di w K:=by
 refine qpt<|iU (fun s w'=>∃i j:Nat,s=((i:Int),(j:Int))/\i<=j/\j<=n/\(∀a,a<i->p a=false)/\(∀a,j<=a->a<n->p a=true)/\Fr [] w w') (fun s _=>(s.2-s.1).toNat) ⟨0,n,rfl,oJ,oJ,fun _ h=>absurd h (xY _),fun a G I=>oJ,.refl _ _⟩ ?_;rintro s w1 ⟨i,j,rfl,ag,J,G,I,hs⟩ X hX;dsimp only;apply cD<;>intro R;have ah:i<j:=oJ;rw[qt7 oJ];refine hf w1 ((i+j) / 2) _ hs oJ fun w2 C=>?_;cases hp:p ((i+j) / 2);refine cond_true rfl ?_;have e:wrap .i64 ((((i+j) / 2:Nat):Int)+1)=(((i+j) / 2+1:Nat):Int):=(by rw[gg _ oJ];rfl);rw[e];refine hX _ _ ⟨(i+j) / 2+1,j,rfl,oJ,J,fun a U=>?_,I,C⟩ oN;cases V:p a;rfl
 have:=u a ((i+j) / 2) oJ oJ V
 rw[hp] at this;exact this.symm;exact cond_false rfl<|hX _ _ ⟨i,(i+j) / 2,rfl,oJ,oJ,G,fun a U E=>u _ a U E hp,C⟩ oN;have ai:¬i<j:=oJ;exact hk i w1 oJ G (fun a U E=>I a oJ E) hs
def qzf{n:Nat}{v:Value}{c:Nat->Int}{K:Int×Bool->WP}(R:n<=1000000)(hf:∀w1 (i:Nat) (K':Int->WP),Fr [] w w1->i<n->(∀w2,Fr [] w w2->K' (c i) w2)->ed prog v [.i i] di w1 K')(u:∀i j,i<=j->j<n->c j>0->c i>0)(hk:∀(r:Nat) w',r<=n->(∀i,i<r->c i>0)->(∀i,r<=i->i<n->¬c i>0)->Fr [] w w'->K (r,decide (r<n/\c r=0)) w'): cW 125 [.i n,v] du w K:=by
 refine qsO<|iU (fun s w'=>∃i j:Nat,s=((i:Int),(j:Int))/\i<=j/\j<=n/\(∀a,a<i->c a>0)/\(∀a,j<=a->a<n->¬c a>0)/\Fr [] w w') (fun s _=>(s.2-s.1).toNat) ⟨0,n,rfl,oJ,oJ,fun _ h=>absurd h (xY _),fun a U V=>oJ,.refl _ _⟩ ?_;rintro s w1 ⟨i,j,rfl,ai,aa,U,V,hs⟩ X hX;dsimp only;apply cD<;>intro G;have aj:i<j:=oJ;rw[qt7 oJ];refine hf w1 ((i+j) / 2) _ hs oJ fun w2 C=>?_;apply dW<;>intro I;have I:=zC I;have e:wrap .i64 ((((i+j) / 2:Nat):Int)+1)=(((i+j) / 2+1:Nat):Int):=(by rw[gg _ oJ];rfl);rw[e];exact hX _ _ ⟨(i+j) / 2+1,j,rfl,oJ,aa,fun a ha=>u a _ oJ oJ I,V,C⟩ oN;have I:=zB I;exact hX _ _ ⟨i,(i+j) / 2,rfl,oJ,oJ,U,fun a ha R ad=>I (u _ a ha R ad),C⟩ oN;have ak:¬i<j:=oJ;have J:=fun w'=>hk i w' oJ U (fun a ha R=>V a oJ R);apply cD<;>intro G;have E:i<n:=oJ;refine hf w1 i _ hs E fun w2 C=>?_;have e:(c i==0)=decide (i<n/\c i=0):=by rw[Bool.eq_iff_iff,yP,yN];exact⟨fun h=>⟨E,h⟩,fun h=>h.2⟩
 rw[e];exact J w2 C;have E:¬i<n:=by omega
 have:=J w1 hs
 rw[zU (fun h=>E h.1)] at this;exact this
section
variable {S S':List Nat} {w:World} {x:ka} {n:dL} {ks:Sl} {key:Key}
def Ds{K:Int×Bool->WP}(hx:eC S w x n)(hk:eh S' w ks key)(hB:eF key)(hr:fJ n.J6)(hl:n.J6.length<=1000000)(kk:∀w',Fr [] w w'->K (dN n.J6 key,decide (n.J6[dN n.J6 key]?=some key)) w'): cW 92 [.agg (eJ x),ks.v] du w K:=by
 obtain⟨h0,ab,⟨pk,I,E⟩,_⟩:=hx;refine qqY<|oB (oE [] w) fun r1 w1 e1 f1 h=>oB h fun r3 w2 e2 f2 h=>oA h 1 rfl x.2.1 rfl ?_;have R:x.2.1.len=pk.length:=I.len;have ao:n.J6.length=pk.length:=(by rw[<- E,zK]);have u:∀(i:Nat) (C:i<pk.length),n.J6[i]?=some pk[i].2:=fun i C=>by rw[<- E,zQ,zA C];rfl
 rw[R];refine qzf (c:=fun i=>cmpL key (n.J6.getD i [])) oJ (fun w3 i K' f3 C ac=>?_) (fun i j aq hj hc=>?_) fun r w' au ad ae f'=>?_;refine rS (lb:=[dF r3,dF r1]) rfl oK ?_;have J:=h.q7 f3;refine qm2 ?_;have J:=J.drew;refine oA J 0 rfl ks rfl<|oA J 1 rfl x.2.1 rfl<|jg.get (I.q7 J.fr) i rfl C<|BC (hk.q7 J.fr) ((I.q7 J.fr).2 pk[i] (zX C)) hB (ab.1 _ (yF (u i C))) ?_;have e:n.J6.getD i []=pk[i].2:=by rw[yR,u i C];rfl
 have:=ac w3.drew f3.drew
 rw[e] at this;exact this;by_cases hij':i=j;rw[hij'];exact hc;have C:=u i oJ;have U:=u j hj;rw[yR,U,xV] at hc;rw[yR,C,xV];have h1:fI pk[j].2 key:=(by unfold fI;rw[um];omega);have V:=pf (EN hr oJ C U) h1;unfold fI at V;rw[um] at V;omega;have hp:dN n.J6 key=r:=qxh oJ (fun i a C ha=>by
  have:=ad i C
  rw[yR,ha,xV,um] at this;show cmpL a key<0;omega) fun a ha=>by
  have ay:=(zP.1 ha).1
  have:=ae r (zM _) oJ
  rw[yR,ha,xV,um] at this;show ¬cmpL a key<0;omega
 have G:=kk w' (h.fr.trans f');rw[hp] at G;have e:decide (n.J6[r]?=some key)=decide (r<pk.length/\cmpL key (n.J6.getD r [])=0):=by refine decide_eq_decide.2 ⟨fun h=>?_,fun h=>?_⟩;refine⟨by have:=(zP.1 h).1;omega,?_⟩;rw[yR,h,xV,Fe];have V:=h.2;rw[yR,u r h.1,xV] at V;exact (u r h.1).trans (congrArg some (En V).symm)
 rw[e] at G;exact G
def Bm{K:Int->WP}(hx:eC S w x n)(hk:eh S' w ks key)(hB:eF key)(hr:fJ n.J6)(hl:n.J6.length<=1000000)(kk:∀w',Fr [] w w'->K (en n.J6 key) w'): cW 91 [.agg (eJ x),ks.v] di w K:=by
 obtain⟨h0,ab,⟨pk,I,C⟩,_⟩:=hx;refine qtx<|oB (oE [] w) fun r1 w1 e1 f1 h=>oB h fun r3 w2 e2 f2 h=>oA h 1 rfl x.2.1 rfl ?_;have R:x.2.1.len=pk.length:=I.len;have ao:n.J6.length=pk.length:=(by rw[<- C,zK]);have E:∀(i:Nat) (u:i<pk.length),n.J6[i]?=some pk[i].2:=fun i u=>by rw[<- C,zQ,zA u];rfl
 rw[R];refine qwj (p:=fun i=>decide (cmpL key (n.J6.getD i [])<0)) oJ (fun w3 i K' f3 u ac=>?_) (fun i j aq hj U=>?_) fun r w' au ad ae f'=>?_;refine rS (lb:=[dF r3,dF r1]) rfl oK ?_;have J:=h.q7 f3;refine qpd ?_;have J:=J.drew;refine oA J 0 rfl ks rfl<|oA J 1 rfl x.2.1 rfl<|jg.get (I.q7 J.fr) i rfl u<|BC (hk.q7 J.fr) ((I.q7 J.fr).2 pk[i] (zX u)) hB (ab.1 _ (yF (E i u))) ?_;have e:n.J6.getD i []=pk[i].2:=(by rw[yR,E i u];rfl);have e2:decide (cmpL key (n.J6.getD i [])<0)=decide (cmpL key pk[i].2<0):=decide_eq_decide.2 (by rw[e]);rw[<- e2];exact ac w3.drew f3.drew;by_cases hij':i=j;rw[<- hij'];exact U;have u:=E i oJ;have V:=E j hj;have U:=zC U;rw[yR,u,xV] at U;refine yA ?_;rw[yR,V,xV];exact pf U (EN hr oJ u V);have hp:en n.J6 key=r:=qzP oJ (fun i a u ha=>by
  have:=zB (ad i u)
  rw[yR,ha,xV] at this;exact this) fun a ha=>by
  have ax:=(zP.1 ha).1
  have:=zC (ae r (zM _) oJ)
  rw[yR,ha,xV] at this;exact this
 have G:=kk w' (h.fr.trans f');rw[hp] at G;exact G
end
section
def Du{p:Prop}{i:Decidable p}(h:p):true=decide p:=by simp[h]
def qZ{i:Nat}(h:i<=100000000):wrap .i64 ((i:Int)+1)=((i+1:Nat):Int):=by rw[gg _ oJ];rfl
section
variable {S:List Nat} {w:World} {s:Sl}
def qri{v:Value}{p:Key->Bool}{K:Bool->WP}(U:jg S w s ps)(hl:ps.length<=1000000)(hf:∀w1 (x:Sl×Key) (V:Bool->WP),Fr [] w w1->x∈ps->(∀w2,Fr [] w w2->V (p x.2) w2)->ed prog v [x.1.v] dj w1 V)(kk:∀w',Fr [] w w'->K ((ga ps).any p) w'): cW 233 [s.v,v] dj w K:=by
 refine qgx<|qjj ?_;have ab:=U.len;refine iU (fun i w'=>∃n:Nat,i=(n:Int)/\n<=ps.length/\((ga ps).take n).any p=false/\Fr [] w w') (fun i _=>((ps.length:Int)-i).toNat) ⟨0,rfl,yX _,rfl,.refl _ _⟩ ?_;rintro _ w1 ⟨n,rfl,hn,C,u⟩ X hX;apply cD<;>intro I;have h:n<ps.length:=oJ;refine jg.get (U.q7 u) n rfl h<|hf w1 ps[n] _ u (zX h) fun w2 E=>?_;have G:(ga ps)[n]?=some ps[n].2:=(by rw[zQ,zA h];rfl);apply dW<;>intro J;have:(ga ps).any p=true:=any_eq_true.2 ⟨ps[n].2,yF G,J⟩;show K (decide (((n:Nat):Int)>=0)) w2;rw[yA (show ((n:Nat):Int)>=0 by omega)];rw[<- this];exact kk w2 E;rw[qZ oJ];refine hX _ _ ⟨n+1,rfl,h,?_,E⟩ oJ;rw[take_add_one,G,any_append,C];simpa using J;have R:n=ps.length:=oJ;show K (decide ((-1:Int)>=0)) w1;rw[zU (show ¬(-1:Int)>=0 by decide)];have:(ga ps).any p=false:=by rw[<- C,R,zS (by rw[zK];exact zM _)]
 rw[<- this];exact kk w1 u
def qrj{v:Value}{p:Int->Bool}{K:Bool->WP}(V:Rd S w s l)(hl:l.length<=1000000)(hf:∀w1 (x:Int) (K':Bool->WP),Fr [] w w1->x∈l->(∀w2,Fr [] w w2->K' (p x) w2)->ed prog v [.u x] dj w1 K')(kk:∀w',Fr [] w w'->K (l.any p) w'): cW 193 [s.v,v] dj w K:=by
 refine qgy<|qjk ?_;have ac:=V.1;refine iU (fun i w'=>∃n:Nat,i=(n:Int)/\n<=l.length/\(l.take n).any p=false/\Fr [] w w') (fun i _=>((l.length:Int)-i).toNat) ⟨0,rfl,yX _,rfl,.refl _ _⟩ ?_;rintro _ w1 ⟨n,rfl,hn,G,h⟩ X hX;apply cD<;>intro J;have C:n<l.length:=oJ;have E:l[n]?=some l[n]:=zA C;refine dZ.get (V.q7 h) n rfl E (y:=l[n]) rfl<|hf w1 l[n] _ h (zX C) fun w2 I=>?_;apply dW<;>intro R;have:l.any p=true:=any_eq_true.2 ⟨l[n],yF E,R⟩;show K (decide (((n:Nat):Int)>=0)) w2;rw[yA (show ((n:Nat):Int)>=0 by omega)];rw[<- this];exact kk w2 I;rw[qZ oJ];refine hX _ _ ⟨n+1,rfl,C,?_,I⟩ oJ;rw[take_add_one,E,any_append,G];simpa using R;have U:n=l.length:=oJ;show K (decide ((-1:Int)>=0)) w1;rw[zU (show ¬(-1:Int)>=0 by decide)];have:l.any p=false:=by rw[<- G,U,zS (zM _)]
 rw[<- this];exact kk w1 h
def qsj{m:Nat}{K:Bool->WP}(R:jg S w s ps)(U:ps.length<=1000000)(V:∀w',Fr [] w w'->K (decide (∀a∈ga ps,a.length=m)) w'): cW 191 [s.v,.i m] dj w K:=by
 refine qso<|oB (oE [] w) fun r1 w1 e1 I h=>?_;have u:=R.q7 I;refine qri (p:=fun a=>decide (a.length≠m)) u U (fun w2 x K' J hx C=>?_) fun w' f'=>?_;refine rS (lb:=[dF r1]) rfl oK<|qoc<|oA (h.q7 J) 0 rfl (m:Int) rfl ?_;have E:=(u.2 x hx).1;have e:(!((x.1.len:Int)==(m:Int)))=decide (x.2.length≠m):=by rw[E,Bool.eq_iff_iff];simp;omega
 rw[e];exact C w2 J;have e:(!((ga ps).any fun a=>decide (a.length≠m)))=decide (∀a∈ga ps,a.length=m):=by
  rw[Bool.eq_iff_iff,yN,zT,any_eq_false];constructor;intro h a G
  have:=h a G
  simpa using this;intro h a G;simp[h a G]
 rw[e];exact V w' (I.trans f')
def qxc{K:Bool->WP}(hs:jg S w s ps)(hB:∀a∈ga ps,eF a)(hl:ps.length<=1000000)(kk:∀w',Fr [] w w'->K (decide (fJ (ga ps))) w'): cW 192 [s.v] dj w K:=by
 refine qq2 ?_;have ae:=hs.len;have C:∀(i:Nat) (hi:i<ps.length),(ga ps)[i]?=some ps[i].2:=fun i hi=>by rw[zQ,zA hi];rfl
 refine iU (fun i w'=>∃n:Nat,i=(n:Int)/\1<=n/\(∀(j:Nat) a b,j+1<n->(ga ps)[j]?=some a->(ga ps)[j+1]?=some b->fI a b)/\Fr [] w w') (fun i _=>((ps.length:Int)-i).toNat) ⟨1,rfl,zM _,fun j a b h=>oJ,.refl _ _⟩ ?_;rintro _ w1 ⟨n,rfl,hn,J,E⟩ X hX;apply cD<;>intro hc;have G:n<ps.length:=oJ;have e1:wrap .i64 ((n:Int)-1)=((n-1:Nat):Int):=(by rw[gg _ oJ];omega);have I:=hs.q7 E.drew;rw[e1];refine jg.get I (n-1) rfl oJ<|jg.get I n rfl G<|BC (I.2 ps[n-1] (zX _)) (I.2 ps[n] (zX _)) (hB _ (yF (C (n-1) oJ))) (hB _ (yF (C n G))) ?_;apply dW<;>intro R;have R:=zC R;have:¬fJ (ga ps):=fun hr=>by
  have:=EN hr (show n-1<n by omega) (C (n-1) oJ) (C n G)
  unfold fI at this;omega
 have u:=kk _ E.drew;rw[zU this] at u;exact u;have R:=zB R;rw[qZ oJ];refine hX _ _ ⟨n+1,rfl,oJ,fun j a b hj V U=>?_,E.drew⟩ oJ;by_cases hjn:j+1<n;exact J j a b hjn V U;obtain rfl:n=j+1:=by omega
 rw[C j oJ] at V;rw[C (j+1) G] at U;cases V;cases U;show cmpL _ _<0;simp only[Nat.add_sub_cancel] at R;omega;have ai:¬n<ps.length:=oJ;have:fJ (ga ps):=qkU fun j a b V U=>J j a b (by
  have:=(zP.1 U).1
  rw[zK] at this;omega) V U
 have u:=kk w1 E;rw[yA this] at u;exact u
def qyc:tl (k:Int) (v:Int)=(((dV k v).1:Int),((dV k v).2:Int)):=by unfold tl dV;by_cases h:k<1\/k>24\/v>108;rw[if_pos h,iP];rfl;rw[if_neg h,iN];rfl
def DN{w:World}{K:Int×Int->WP}(h:∀w',Fr [] w w'->K (((dV k v).1:Int),((dV k v).2:Int)) w'):cW 122 [.i k,.i v] dm w K:=
 qzb fun w' u=>by rw[qyc];exact h w' (.of_same u)
def qru{K:Bool->WP}(hx:eC S w x n)(h1:n.J6.length<=1000000)(h2:n.Q0.length<=1000000)(h3:n.J9.length<=1000000)(kk:∀w',Fr [] w w'->K (decide (fC n k v)) w'): cW 160 [.agg (eJ x),.i k,.i v] dj w K:=by
 obtain⟨h0,al,⟨pk,ad,C⟩,⟨pv,af,U⟩,ab⟩:=hx;refine qqZ<|oB (oE [] w) fun r1 w1 e1 f1 h=>DN fun w2 f2=>?_;have h:=h.q7 f2;have l1:pk.length=n.J6.length:=(by rw[<- C,zK]);have l2:pv.length=n.Q0.length:=(by rw[<- U,zK]);have n1:x.2.1.len=n.J6.length:=(by rw[ad.len,l1]);have n2:x.2.2.1.len=n.Q0.length:=(by rw[af.len,l2]);have n3:x.2.2.2.len=n.J9.length:=ab.1;refine gW (fun b w'=>b=decide (¬((∀a∈n.J6,a.length=k)/\(∀a∈n.Q0,a.length=v)/\fJ n.J6))/\dQ [] w w' [(r1,.cells (eJ x) 174)]) ?_ ?_;refine oA h 0 rfl x.2.1 rfl<|qsj (m:=k) (ad.q7 h.fr) oJ fun w3 f3=>?_;have h:=h.q7 f3;rw[C];refine dW (fun G=>⟨?_,h⟩) (fun G=>?_);have:¬ ∀a∈n.J6,a.length=k:=zB (oP G);exact Du fun J=>this J.1;have q1:∀a∈n.J6,a.length=k:=zC (oP G);refine oA h 0 rfl x.2.2.1 rfl<|qsj (m:=v) (af.q7 h.fr) oJ fun w4 f4=>?_;have h:=h.q7 f4;rw[U];refine dW (fun G=>⟨?_,h⟩) (fun G=>?_);have:¬ ∀a∈n.Q0,a.length=v:=zB (oP G);exact Du fun J=>this J.2.1;have q2:∀a∈n.Q0,a.length=v:=zC (oP G);refine oA h 0 rfl x.2.1 rfl<|qxc (ad.q7 h.fr) (by rw[C];exact al.1) oJ fun w5 f5=>?_;have h:=h.q7 f5;rw[C];refine⟨?_,h⟩;rw[Bool.eq_iff_iff,zT,decide_eq_false_iff_not,yN];exact⟨fun J g=>J g.2.2,fun J g=>J ⟨q1,q2,g⟩⟩;rintro b w3 ⟨rfl,h⟩;have no:∀ {w'},¬fC n k v->Fr [] w w'->K false w':=fun hn f=>by
  have:=kk _ f
  rw[zU hn] at this;exact this
 refine dW (fun G=>no (fun E=>zC G ⟨E.1,E.2.1,E.2.2.1⟩) h.fr) (fun G=>?_);have hq:=Classical.not_not.1 (zB G);have u:fC n k v↔(if n.Q4 then n.J9=[]/\1<=n.J6.length/\n.J6.length<=(dV k v).1/\n.Q0.length=n.J6.length
   else (∀x∈n.J9,2<=x)/\n.Q0=[]/\2<=n.J9.length/\n.J9.length<=(dV k v).2/\n.J6.length+1=n.J9.length):=⟨fun E=>E.2.2.2,fun J=>⟨hq.1,hq.2.1,hq.2.2,J⟩⟩
 refine oA h 0 rfl x.1 rfl ?_;apply dW<;>intro G;rw[h0] at G;rw[if_pos G] at u;have ae:∀ {Q:Sl->Prop},Q x.2.1->ld .slice (dg r1 1) w3 Q:=fun q=>oA h 0 rfl x.2.1 rfl q;refine oA h 0 rfl x.2.2.2 rfl<|dW (fun R=>?_) (fun R=>no (fun E=>?_) h.fr);refine ae (dW (fun V=>?_) (fun V=>no (fun E=>?_) h.fr));refine ae (dW (fun I=>?_) (fun I=>no (fun E=>?_) h.fr));refine oA h 0 rfl x.2.2.1 rfl (ae ?_);have R:=yP.1 R;have V:=zC V;have I:=zC I;have e:((x.2.2.1.len:Int)==(x.2.1.len:Int))=decide (fC n k v):=by rw[Bool.eq_iff_iff,yP,yN,u];dsimp only at I;constructor;intro J;exact⟨eq_nil_of_length_eq_zero oJ,oJ,oJ,oJ⟩;intro J;omega
 rw[e];exact kk w3 h.fr
 have:=(u.1 E).2.2.1
 have I:=zB I;dsimp only at I;omega
 have:=(u.1 E).2.1
 have V:=zB V;omega
 have:=(u.1 E).1
 have R:=zR.1 R;rw[this] at n3;exact R (by rw[n3];rfl);rw[h0] at G;rw[if_neg (by rw[G];decide)] at u;have aa:∀ {w'} {Q:Sl->Prop},dQ [] w w' [(r1,.cells (eJ x) 174)]->Q x.2.2.2->ld .slice (dg r1 3) w' Q:=fun h q=>oA h 0 rfl x.2.2.2 rfl q;refine aa h<|qrj (p:=fun y=>decide (y<2)) (ab.q7 h.fr) h3 (fun w4 y K' f4 hy ap=>?_) fun w4 f4=>?_;exact rS (lb:=[]) rfl oK<|qm3<|ap w4 f4;have h:=h.q7 f4;refine dW (fun c0=>no (fun E=>?_) h.fr) (fun c0=>?_);obtain⟨y,hy,ar⟩:=any_eq_true.1 c0
 have:=(u.1 E).1 y hy
 have:=zC ar
 omega;have ah:∀y∈n.J9,2<=y:=fun y hy=>by
  have:=any_eq_false.1 c0 y hy
  simp at this;exact this
 refine oA h 0 rfl x.2.2.1 rfl<|dW (fun R=>?_) (fun R=>no (fun E=>?_) h.fr);refine aa h (dW (fun V=>?_) (fun V=>no (fun E=>?_) h.fr));refine aa h (dW (fun I=>?_) (fun I=>no (fun E=>?_) h.fr));refine oA h 0 rfl x.2.1 rfl (aa h ?_);have R:=yP.1 R;have V:=zC V;have I:=zC I;dsimp only at I;have ew:wrap .i64 ((x.2.2.2.len:Int)-1)=(x.2.2.2.len:Int)-1:=gg _ oJ;have e:((x.2.1.len:Int)==wrap .i64 ((x.2.2.2.len:Int)-1))=decide (fC n k v):=by rw[ew,Bool.eq_iff_iff,yP,yN,u];constructor;intro J;exact⟨ah,eq_nil_of_length_eq_zero oJ,oJ,oJ,oJ⟩;intro J;omega
 rw[e];exact kk _ h.fr
 have:=(u.1 E).2.2.2.1
 have I:=zB I;dsimp only at I;omega
 have:=(u.1 E).2.2.1
 have V:=zB V;omega
 have:=(u.1 E).2.1
 have R:=zR.1 R;rw[this] at n2;exact R (by rw[n2];rfl)
end
end
section
def zp{src:Sl}{ys:List Int}(h:fQ w s l B)(J:eh S w src ys)(hl:l.length+ys.length<=1000000)(R:∀E B' w',fQ w' E (l++ys) B'->Fr B w w'->(∀b∈B',b∈B\/w.heap.size<=b)->K E w'): Pt.run dh ((Builtin.append_ #[101,101] 101 #[s.v,src.v]).run prog w) K:=by obtain⟨i,U,V,G,I⟩:=uO;have C:=J.1;exact eQ.j1 (e:=5) h kW oK U V G rfl (tg (e':=5) J kW (fun x u hu=>by rw[zE.1 hu];rfl) oK) C (by rw[I];omega) oJ fun E B' w' b' f' n' _=>R E B' w' b' f' n'
def qAr(n:Int):be n 2=[wrap .u8 (Int.fdiv n (2^8)),wrap .u8 n]:=by show [gu n 1,gu n 0]=_;unfold gu;rw[show (min (8*1) 32:Nat)=8 from rfl,show (min (8*0) 32:Nat)=0 from rfl,Int.pow_zero,Int.fdiv_one]
def qBf(n:Int):be n 4=[wrap .u8 (Int.fdiv n (2^24)),wrap .u8 (Int.fdiv n (2^16)),wrap .u8 (Int.fdiv n (2^8)),wrap .u8 n]:=by show [gu n 3,gu n 2,gu n 1,gu n 0]=_;unfold gu;rw[show (min (8*3) 32:Nat)=24 from rfl,show (min (8*2) 32:Nat)=16 from rfl,show (min (8*1) 32:Nat)=8 from rfl,show (min (8*0) 32:Nat)=0 from rfl,Int.pow_zero,Int.fdiv_one]
def jg.get'(h:jg S w s ps)(n:Nat){i:Int}{K:Addr->Sl->Prop}(hi:i=n)(J:n<ps.length)(R:∀a,w.cell? a=some (.slice ps[n].1.a ps[n].1.len ps[n].1.cap)->(∀w',jg S w' s ps->w'.cell? a=some (.slice ps[n].1.a ps[n].1.len ps[n].1.cap))->K a ps[n].1):idx s i 1 fun a=>ld .slice a w fun x=>K a x:=by
 subst hi;have G:(ir ps)[n]?=some ps[n].1:=(by rw[zQ,zA J];rfl);obtain⟨hl,b,o,I,_,cs,T,fr,hb,hc⟩:=h.1.at n G;refine qj I ⟨oJ,oJ⟩ ?_;rw[zJ];have key:∀w',jg S w' s ps->w'.cell? ⟨b,o+n*1,none⟩=some (.slice ps[n].1.a ps[n].1.len ps[n].1.cap):=fun w' U=>by
  obtain⟨_,b',o',u,_,V,T',aa,C,E⟩:=U.1.at n G;rw[I] at u;cases u;rw[ji C]
  have:=congrArg (·[0]?) E
  simpa[gp] using this
 exact pr ps[n].1 (key w h) (R _ (key w h) key)
def Ew{b n:Nat}(u:w.heap[b]?=some (.cells (l.map (Value.int .u8)).toArray T (0,0)))(h:n=l.length):fQ w ⟨pW b,n,n⟩ l [b]:=
 eQ.one (e:=Value.int .u8) (fun _=>rfl) u h (zM _) (by simp[h]) (by rw[<- zK (f:=Value.int .u8),xZ])
def qzW{b:Nat}{n:Int}(u:w.heap[b]?=some (.cells #[.b (wrap .u8 (Int.fdiv n (2^24))),.b (wrap .u8 (Int.fdiv n (2^16))),.b (wrap .u8 (Int.fdiv n (2^8))),.b (wrap .u8 n)] T (0,0))):eh [] w ⟨pW b,4,4⟩ (be n 4):=by rw[qBf];exact eQ.jo kW (Ew (n:=4) u rfl) fun _ _ h=>nomatch h
section
variable {S:List Nat} {w:World} {s:Sl}
def qzg{n:Nat}(hn:n<=1000000)(U:∀u B w',fQ w' u [] B->Fr [] w w'->(∀b∈B,w.heap.size<=b)->K u w'): cW 121 [.slice none 0 0,.i n] dh w K:=by obtain⟨E,V,hz,G,I⟩:=uO;refine qps (s:=dG) (n:=n) ?_;have e0:wrap .i64 (((0:Nat):Int)-((0:Nat):Int))=0:=gg _ oM;have e1:wrap .i64 ((n:Int)-0)=(n:Int):=(by rw[gg _ oJ];omega);refine gW (fun _ w'=>w=w') (cond_false (zU oJ) rfl) ?_;rintro _ _ rfl;refine gW (fun u w'=>∃B,fQ w' u [] B/\Fr [] w w'/\∀b∈B,w.heap.size<=b) ?_ (fun u w' ⟨B,b1,f1,n1⟩=>U u B w' b1 f1 n1);dsimp only;rw[e0,e1];refine dW (fun R=>?_) (fun R=>⟨[],.nil _ _ _,.refl _ _,fun _ h=>nomatch h⟩);have C:0<n:=(by have:=zC R;omega);refine zj ⟨oJ,by dsimp only;omega⟩ ?_;rw[zJ];dsimp only;refine FB (e:=5) (i:=E) (kn:=.i64) (olds:=[]) oK oK V hz G rfl rfl (fun _=>rfl) (fun a ha=>nomatch ha) C oJ (by rw[I];omega) oJ fun b cs c w2 e2 hb f2 h1 h2 h3=>zj ⟨oJ,by dsimp only;omega⟩ ?_;rw[zJ];exact⟨[b],eQ.fresh (cap:=c) kW hb rfl (yX _) oJ rfl,f2,fun b' J=>by rw[zE.1 J,e2];exact zM _⟩
def qkq{i:Nat}(hi:i<ps.length):((ga ps).take (i+1)).flatten=((ga ps).take i).flatten++ps[i].2:=by rw[take_add_one,zQ,zA hi,flatten_append];simp
def G0(i:Nat):((ga ps).take i).flatten.length<=(ga ps).flatten.length:=by have:(ga ps).flatten=((ga ps).take i).flatten++((ga ps).drop i).flatten:=(by rw[<- flatten_append,xE]);rw[this,zF];omega
def qpE(R:jg S w s ps)(hl:ps.length<=1000000)(ht:(ga ps).flatten.length<=1000000)(kk:∀s' B w',fQ w' s' (ga ps).flatten B->Fr [] w w'->(∀b∈B,w.heap.size<=b)->K s' w'): cW 88 [s.v] dh w K:=by
 refine qni ?_;have ag:=R.len;refine iU (fun t w'=>∃i:Nat,t=((((ga ps).take i).flatten.length:Int),(i:Int))/\i<=ps.length/\w'=w) (fun t _=>((ps.length:Int)-t.2).toNat) ⟨0,rfl,yX _,rfl⟩ ?_;rintro t w' ⟨i,rfl,hi,rfl⟩ X hX;dsimp only;apply cD<;>intro E;have u:i<ps.length:=oJ;have G:=G0 (ps:=ps) (i+1);have C:=qkq u;have ac:=(R.2 ps[i] (zX u)).1;have e:wrap .i64 ((((ga ps).take i).flatten.length:Int)+(ps[i].1.len:Int))=(((ga ps).take (i+1)).flatten.length:Int):=by rw[C,zF] at G⊢;rw[gg _ oJ,ac];rfl
 refine gW (fun x w2=>x=(((ga ps).take (i+1)).flatten.length:Int)/\w2=w') ?_ ?_;refine jg.get R i rfl u ?_;rw[e];exact cond_false (zU oJ) ⟨rfl,rfl⟩;rintro x w2 ⟨rfl,rfl⟩;rw[qZ oJ];exact hX _ _ ⟨i+1,rfl,u,rfl⟩ oN;have I:i=ps.length:=oJ;refine qzg (zL (G0 (ps:=ps) i) ht) fun s1 B1 w1 b1 f1 n1=>iU (fun t w2=>∃(j:Nat) (U:Sl) (V:List Nat),t=(U,(j:Int))/\j<=ps.length/\fQ w2 U ((ga ps).take j).flatten V/\Fr [] w' w2/\∀b∈V,w'.heap.size<=b) (fun t _=>((ps.length:Int)-t.2).toNat) ⟨0,s1,B1,rfl,yX _,b1,f1,n1⟩ ?_;rintro t w2 ⟨j,U,V,rfl,hj,b2,f2,n2⟩ X hX;dsimp only;apply cD<;>intro E;have u:j<ps.length:=oJ;have G:=G0 (ps:=ps) (j+1);have C:=qkq u;have J:=R.q7 f2;refine jg.get J j rfl u<|zp b2 (J.2 ps[j] (zX u)) (by rw[C,zF] at G;omega) fun s3 B3 w3 b3 f3 n3=>?_;rw[qZ oJ];refine hX _ _ ⟨j+1,s3,B3,rfl,u,by rw[C];exact b3,f2.j8 f3 fun i hi=>.inr (n2 i hi),fun b hb=>?_⟩ oN;rcases n3 b hb with h|h;exact n2 b h;exact zL f2.size h;have I:j=ps.length:=oJ;rw[I,zS (by rw[zK];exact zM _)] at b2;exact kk U V w2 b2 f2 n2
def qx2{K:Int×Sl×Int->WP}(hx:eC S w x n)(h1:n.J6.length<=1000000)(h2:n.Q0.length<=1000000)(h3:n.J9.length<=1000000)(kk:∀s w',(∀G:List Nat,(∀b∈G,b<w.heap.size)->eh G w' s (eM n k v).2.1)->Fr [] w w'->K ((eM n k v).1,s,(eM n k v).2.2) w'): cW 162 [.agg (eJ x),.i k,.i v] dp w K:=by
 have aY:=hx;obtain⟨h0,bh,⟨pk,aq,E⟩,⟨pv,ar,aa⟩,an⟩:=hx;refine qq0<|oB (oE [] w) fun R w1 e1 f1 h=>oC h 0 rfl x rfl<|qru (x:=x) (aY.q7 f1) h1 h2 h3 fun w2 f2=>?_;have h:=h.q7 f2;apply dW<;>intro C;have hn:¬fC n k v:=zB (oP C)
 have:=kk dG w2 (fun G _=>by unfold eM;rw[if_neg hn];exact .nil _ _ _ _) h.fr
 unfold eM at this;rw[if_neg hn] at this;exact this;have hR:fC n k v:=zC (oP C);have hW:eM n k v=(iC n,gd n,0):=(by unfold eM;rw[if_pos hR]);rw[hW] at kk;have aG:=(C7 hR).2;have l1:pk.length=n.J6.length:=(by rw[<- E,zK]);have l2:pv.length=n.Q0.length:=(by rw[<- aa,zK]);have n1:x.2.1.len=n.J6.length:=(by rw[aq.len,l1]);have n3:x.2.2.2.len=n.J9.length:=an.1;have aH:∀ {s' B w'},fQ w' s' (gd n) B->(∀b∈B,w.heap.size<=b)->Fr [] w w'->K (iC n,s',0) w':=fun b hB f=>kk _ _ (fun G hG=>b.jo kW fun c C hm=>by have:=hB c C;have:=hG c hm;omega) f;refine oA h 0 rfl x.1 rfl ?_;apply dW<;>intro C;rw[h0] at C;have u:gd n=be n.J6.length 2++(n.J6.zip n.Q0).flatMap (fun x=>x.1++x.2):=(by unfold gd;rw[if_pos C];rfl);have J:iC n=3:=(by unfold iC;rw[if_pos C]);have aI:=hR.2.2.2;rw[if_pos C] at aI;have aJ:(n.J6.zip n.Q0).length=n.J6.length:=(by rw[length_zip,aI.2.2.2,Nat.min_self]);refine oA h 0 rfl x.2.1 rfl<|oA h 0 rfl x.2.1 rfl<|oB h fun r9 w3 e3 f3 h=>oA h 1 rfl x.2.1 rfl ?_;have h9:=h.at (i:=0) rfl;have av:=h.sub (L':=[(R,.cells (eJ x) 174)]) (sublist_cons_self _ _);have aw:R≠r9:=fun e=>by have:=h.nodup;simp[e] at this
 have ab:w.heap.size<=r9:=(h.own (r9,_) (mem_cons_self ..)).elim (fun h=>nomatch h) id;refine iU (fun t w'=>∃(i:Nat) (s2:Sl) (B2:List Nat),t=(s2,(i:Int))/\i<=n.J6.length/\fQ w' s2 (be n.J6.length 2++((n.J6.zip n.Q0).take i).flatMap (fun x=>x.1++x.2)) B2/\dQ [] w w' [(R,.cells (eJ x) 174)]/\R∉B2/\∀b∈B2,w.heap.size<=b) (fun t _=>((n.J6.length:Int)-t.2).toNat)
  ⟨0,_,[r9],rfl,yX _,?_,av,by simpa using aw,fun b hb=>by rw[zE.1 hb];exact ab⟩ ?_
 rw[qAr,take_zero,flatMap_nil,xH];refine Ew (T:=5) ?_ rfl;rw[n1] at h9;exact h9;rintro t w4 ⟨i,s2,B2,rfl,hi,b2,ho,ae,I⟩ X hX;dsimp only;apply dW<;>intro C;have ak:i<n.J6.length:=(by have:=zC C;omega);have bv:i<n.Q0.length:=oJ;have aL:=aq.q7 ho.fr;refine jg.get aL i rfl oJ ?_;have af:=ho.drew;refine oA af 0 rfl x.2.2.1 rfl ?_;have a1:=ar.q7 af.fr;have ag:i<pv.length:=oJ;have ao:i<pk.length:=oJ;refine jg.get' a1 i rfl ag fun a ha hh=>?_;have al:n.J6[i]?=some pk[i].2:=(by rw[<- E,zQ,zA ao];rfl);have a2:n.Q0[i]?=some pv[i].2:=(by rw[<- aa,zQ,zA ag];rfl);have hz:(n.J6.zip n.Q0)[i]?=some (pk[i].2,pv[i].2):=List.getElem?_zip_eq_some.2 ⟨al,a2⟩;have U:((n.J6.zip n.Q0).take (i+1)).flatMap (fun x=>x.1++x.2)=((n.J6.zip n.Q0).take i).flatMap (fun x=>x.1++x.2)++(pk[i].2++pv[i].2):=by rw[take_add_one,hz,yQ];simp
 have am:(be n.J6.length 2++((n.J6.zip n.Q0).take (i+1)).flatMap (fun x=>x.1++x.2)).length<=500:=(by refine zL ?_ aG;rw[u,zF,zF];have e:(n.J6.zip n.Q0).flatMap (fun x=>x.1++x.2)=((n.J6.zip n.Q0).take (i+1)).flatMap (fun x=>x.1++x.2)++((n.J6.zip n.Q0).drop (i+1)).flatMap (fun x=>x.1++x.2):=(by rw[<- yQ,xE]);rw[e,zF];omega);rw[U,zF,zF,zF] at am;have bA:=ho.drew;refine zp (w:=w4.drew) (b2.q7 (Fr.refl [] w4).drew) ((aL.2 pk[i] (zX ao)).q7 (Fr.refl [] w4).drew) (by rw[zF];omega) fun s3 B3 w5 b3 f5 n5=>?_;have V:=af.q8 f5 (fun i hi=>.inr (I i hi)) (fun p hp=>by rw[zE.1 hp];exact ae);have aN:∀b∈B3,w.heap.size<=b:=fun b hb=>by rcases n5 b hb with h|h;exact I b h;exact zL af.fr.size h
 refine ko (hh w5 (ar.q7 V.fr)) (V.cell 0 rfl rfl) ?_;have aO:R∉B3:=fun hm=>by
  rcases n5 R hm with h|h;exact ae h
  have:=eZ (af.at (i:=0) rfl);dsimp only at this;omega
 refine zp b3 ((ar.q7 V.fr).2 pv[i] (zX ag)) (by rw[zF,zF];omega) fun s6 B6 w6 b6 f6 n6=>?_;have aB:=V.q8 f6 (fun i hi=>.inr (aN i hi)) (fun p hp=>by rw[zE.1 hp];exact aO);rw[qZ oJ];refine hX _ _ ⟨i+1,s6,B6,rfl,ak,by rw[U,<- zV,<- zV];exact b6,aB,fun hm=>?_,fun b hb=>?_⟩ oN;rcases n6 R hm with h|h;exact aO h
 have:=eZ (V.at (i:=0) rfl);dsimp only at this;omega
 rcases n6 b hb with h|h;exact aN b h;exact zL V.fr.size h;have aC:i=n.J6.length:=(by have:=zB C;omega);rw[aC,<- aJ,xZ,aJ,<- u] at b2
 have:=aH b2 I ho.fr
 rw[J] at this;exact this;rw[h0] at C;have aQ:¬n.Q4=true:=(by rw[C];decide);have u:gd n=be n.J9.length 2++n.J9.flatMap (fun x=>be x 4)++n.J6.flatten:=(by unfold gd;rw[if_neg aQ]);have J:iC n=4:=(by unfold iC;rw[if_neg aQ]);refine oA h 0 rfl x.2.2.2 rfl<|oA h 0 rfl x.2.2.2 rfl<|oB h fun r9 w3 e3 f3 h=>oA h 1 rfl x.2.2.2 rfl ?_;have h9:=h.at (i:=0) rfl;have av:=h.sub (L':=[(R,.cells (eJ x) 174)]) (sublist_cons_self _ _);have aw:R≠r9:=fun e=>by have:=h.nodup;simp[e] at this
 have ab:w.heap.size<=r9:=(h.own (r9,_) (mem_cons_self ..)).elim (fun h=>nomatch h) id;have a4:(be n.J9.length 2++n.J9.flatMap (fun x=>be x 4)).length+n.J6.flatten.length<=500:=(by rw[<- zF,<- u];exact aG);refine iU (fun t w'=>∃(i:Nat) (s2:Sl) (B2:List Nat),t=(s2,(i:Int))/\i<=n.J9.length/\fQ w' s2 (be n.J9.length 2++(n.J9.take i).flatMap (fun x=>be x 4)) B2/\dQ [] w w' [(R,.cells (eJ x) 174)]/\R∉B2/\∀b∈B2,w.heap.size<=b) (fun t _=>((n.J9.length:Int)-t.2).toNat)
  ⟨0,_,[r9],rfl,yX _,?_,av,by simpa using aw,fun b hb=>by rw[zE.1 hb];exact ab⟩ ?_
 rw[qAr,take_zero,flatMap_nil,xH];refine Ew (T:=5) ?_ rfl;rw[n3] at h9;exact h9;rintro t w4 ⟨i,s2,B2,rfl,hi,b2,ho,ae,I⟩ X hX;dsimp only;apply cD<;>intro C;have ak:i<n.J9.length:=oJ;have al:n.J9[i]?=some n.J9[i]:=zA ak;refine dZ.get (an.q7 ho.fr) i rfl al (y:=n.J9[i]) rfl<|oB ho fun r6 w5 e5 f5 h5=>?_;have a5:=h5.at (i:=0) rfl;have U:(n.J9.take (i+1)).flatMap (fun x=>be x 4)=(n.J9.take i).flatMap (fun x=>be x 4)++be n.J9[i] 4:=by rw[take_add_one,al,yQ];simp
 have am:(be n.J9.length 2++(n.J9.take (i+1)).flatMap (fun x=>be x 4)).length<=500:=(by have e:n.J9.flatMap (fun x=>be x 4)=(n.J9.take (i+1)).flatMap (fun x=>be x 4)++(n.J9.drop (i+1)).flatMap (fun x=>be x 4):=(by rw[<- yQ,xE]);rw[e,zF,zF] at a4;rw[zF];omega);rw[U,zF,zF] at am;have ap:eh [] w5 ⟨pW r6,4,4⟩ (be n.J9[i] 4):=qzW (T:=5) a5;have aD:=jZ n.J9[i] 4;generalize be n.J9[i] 4=aR at U am ap aD;refine zp (src:=⟨pW r6,4,4⟩) (ys:=aR) (b2.q7 f5) ap (by rw[zF];omega) fun s6 B6 w6 b6 f6 n6=>?_;have aE:=h5.sub (L':=[(R,.cells (eJ x) 174)]) (sublist_cons_self _ _);have aB:=aE.q8 f6 (fun i hi=>.inr (I i hi)) (fun p hp=>by rw[zE.1 hp];exact ae);rw[qZ oJ];refine hX _ _ ⟨i+1,s6,B6,rfl,ak,by rw[U,<- zV];exact b6,aB,fun hm=>?_,fun b hb=>?_⟩ oN;rcases n6 R hm with h|h;exact ae h
 have:=eZ (aE.at (i:=0) rfl);dsimp only at this;omega
 rcases n6 b hb with h|h;exact I b h;exact zL aE.fr.size h;have aC:i=n.J9.length:=oJ;rw[aC,xZ] at b2;refine oA ho 0 rfl x.2.1 rfl<|qpE (aq.q7 ho.fr) oJ (by rw[E];omega) fun s5 B5 w5 b5 f5 n5=>?_;rw[E] at b5;refine zp (b2.q7 f5) (b5.jo kW (S:=[]) (fun _ _ h=>nomatch h)) oJ fun s6 B6 w6 b6 f6 n6=>?_;rw[<- u] at b6
 have:=aH b6 (fun b hb=>by rcases n6 b hb with h|h;exact I b h;exact zL (zL ho.fr.size f5.size) h) ((ho.fr.trans f5).j8 f6 fun i hi=>.inr (I i hi))
 rw[J] at this;exact this
end
end
abbrev ND:TypeId:=174
def CQ{k v:Nat}:∀(c:Nat) (b:List Int),(iK k v c b).1.length=c/\(iK k v c b).2.length=c
 | 0,_=>⟨rfl,rfl⟩
 | c+1,b=>by
  have:=CQ (k:=k) (v:=v) c (b.drop (k+v))
  exact⟨by rw[iK,yI,this.1],by rw[iK,yI,this.2]⟩
def qn3{k v:Nat}:∀(c:Nat) (b:List Int),iK k v (c+1) b=((iK k v c b).1++[(b.drop (c*(k+v))).take k],(iK k v c b).2++[((b.drop (c*(k+v))).drop k).take v])
 | 0,b=>by simp[iK]
 | c+1,b=>by have ih:=qn3 (k:=k) (v:=v) c (b.drop (k+v));have e:(k+v)+c*(k+v)=(c+1)*(k+v):=(by rw[xU];omega);rw[iK,ih];simp only[xD,e];rfl
def qn2:∀(c:Nat) (b:List Int),y6 (c+1) b=y6 c b++[gO ((b.drop (c*4)).take 4)]
 | 0,b=>by simp[y6]
 | c+1,b=>by have ih:=qn2 c (b.drop 4);have e:4+c*4=(c+1)*4:=oJ;rw[y6,ih,xD,e];rfl
def qn0{k:Nat}:∀(c:Nat) (b:List Int),kV k (c+1) b=kV k c b++[(b.drop (c*k)).take k]
 | 0,b=>by simp[kV]
 | c+1,b=>by have ih:=qn0 (k:=k) c (b.drop k);have e:k+c*k=(c+1)*k:=(by rw[xU];omega);rw[kV,ih,xD,e];rfl
def EX:∀(c:Nat) (b:List Int),(y6 c b).length=c
 | 0,_=>rfl
 | c+1,b=>by rw[y6,yI,EX c]
def G3{k:Nat}:∀(c:Nat) (b:List Int),(kV k c b).length=c
 | 0,_=>rfl
 | c+1,b=>by rw[kV,yI,G3 c]
def py{x:Sl}{l:List Sl}{vb:Nat}{T':TypeId}(h:eQ gp 1 w s l B)(hl:l.length<=100000)(U:w.heap[vb]?=some (.cells #[fS x] T' (0,0)))(V:∀C B' w',eQ gp 1 w' C (l++[x]) B'->Fr B w w'->(∀b∈B',b∈B\/w.heap.size<=b)->K C w'): Pt.run dh ((Builtin.append_ #[171,171] 171 #[s.v,.slice (pW vb) 1 1]).run prog w) K:=by obtain⟨aa,E,hz,G,I⟩:=BU;refine eQ.j1 (ys:=[x]) (e:=101) h u9 oK E hz G rfl (.ofSlice w (e':=101) oK _ 1 1 _ rfl (fun j u J=>?_) fun u R=>?_) rfl (by rw[I];omega) oJ fun C B' w' b' f' n' _=>V C B' w' b' f' n';rw[Addr.q9,ji U,xS];rw[yH,flatMap_nil,xH] at J;simpa[gp] using J;rw[yH,flatMap_nil,xH] at R;rw[zE.1 R];rfl
def qtS{x:Int}{vb:Nat}{T':TypeId}(h:eQ iu 1 w s l B)(hl:l.length<=100000)(U:w.heap[vb]?=some (.cells #[.u x] T' (0,0)))(V:∀C B' w',eQ iu 1 w' C (l++[x]) B'->Fr B w w'->(∀b∈B',b∈B\/w.heap.size<=b)->K C w'): Pt.run dh ((Builtin.append_ #[172,172] 172 #[s.v,.slice (pW vb) 1 1]).run prog w) K:=by obtain⟨aa,E,hz,G,I⟩:=vI;refine eQ.j1 (ys:=[x]) (e:=63) h qS oK E hz G rfl (.ofSlice w (e':=63) oK _ 1 1 _ rfl (fun j u J=>?_) fun u R=>?_) rfl (by rw[I];omega) oJ fun C B' w' b' f' n' _=>V C B' w' b' f' n';rw[Addr.q9,ji U,xS];rw[yH,flatMap_nil,xH] at J;simpa[iu] using J;rw[yH,flatMap_nil,xH] at R;rw[zE.1 R];rfl
abbrev rz (h:Nat):Value:=.func (.func 232) #[] #[dF h]
def qsT{u i m:Nat}(h:dQ [] w0 w L)(hi:L[i]?=some (u,.cells #[fS s] T (0,0)))(E:eh [] w0 s b)(C:m<=b.length)(hl:b.length<=1000000)(kk:∀J B' R w',dQ [] w0 w' (L.set i (u,.cells #[fS R] T (0,0)))->fQ w' J (b.take m) B'->(∀c∈B',w.heap.size<=c)->eh [] w0 R (b.drop m)->Fr [u] w w'->K J w'): ed prog (rz u) [.i m] dh w K:=by
 refine rS (lb:=[dF u]) rfl oK<|qm4<|oA h i hi s rfl<|dZ.part (S:=[]) E (lo:=none) (hi:=some (m:Int)) 0 m rfl rfl (yX _) C fun s1 _ U _=>?_;rw[xF] at U;refine Ag (U.q7 h.fr) (by rw[yL];omega) fun s2 B2 w2 b2 V n2 _ _=>?_;have h2:=h.q7 V;refine oA h2 i hi s rfl<|dZ.part (S:=[]) E (lo:=some (m:Int)) (hi:=none) m b.length rfl (by rw[xW,E.1]) C (zM _) fun s3 _ h3 _=>?_;rw[xZ] at h3;have G:=eZ (h.at hi);refine oG h2 i hi #[fS s3] rfl rfl (zM _) fun w3 I f3=>kk s2 B2 s3 w3 I (b2.q8 f3 fun c hc C=>?_) n2 h3 ((V.mono fun _ h _=>nomatch h).trans f3)
 have:=n2 c hc
 rw[zE.1 C] at this;dsimp only at G;omega
def uM (x:ka) (o:Nat):Sl:=if o=1 then x.2.1 else x.2.2.1
def wL (x:ka) (o:Nat) (s:Sl):ka:=if o=1 then (x.1,s,x.2.2) else (x.1,x.2.1,s,x.2.2.2)
def Em{o:Nat}(h:o=1\/o=2):(eJ x)[o]?=some (fS (uM x o)):=by rcases h with rfl|rfl<;>rfl
def qzZ{o:Nat}(h:o=1\/o=2):dR (eJ x) o [fS s]=eJ (wL x o s):=by rcases h with rfl|rfl<;>rfl
def DO{E I m o:Nat}{s':Sl}{l:List Sl}{Bk:List Nat}{K:WP}(ho:o=1\/o=2)(h:dQ [] w0 w ((E,.cells (eJ x) ND (0,0))::(I,.cells #[fS s'] T (0,0))::L))(hr:eh [] w0 s' b)(C:m<=b.length)(aI:b.length<=1000000)(ae:eQ gp 1 w (uM x o) l Bk)(ab:∀c∈Bk,w0.heap.size<=c/\c∉E::I::L.map (·.1))(hl:l.length<=100000)(kk:∀sn sN R Bk' w',dQ [] w0 w' ((E,.cells (eJ (wL x o R)) ND (0,0))::(I,.cells #[fS sN] T (0,0))::L)->eh [] w0 sN (b.drop m)->eQ gp 1 w' R (l++[sn]) Bk'-> (∀c∈Bk',c∈Bk\/w.heap.size<=c)->(∀c∈Bk',c∉E::I::L.map (·.1))->Fr (E::I::Bk) w w'->(∀G:List Nat,(∀c∈G,c<w.heap.size\/c∈Bk')->eh G w' sn (b.take m))->K w'): (ld Cell.slice (dg E o) w.drew<| fun (u:Sl)=> ed prog (rz I) ([Value.int IntKind.i64 m]) (dh) w.drew<| fun (U:Sl) (af:World)=> held [fun (au:Go.World)=>World.cell? au (dg E o)=some (Value.slice u.a u.len u.cap)] af<| new (.cells #[Value.slice U.a U.len U.cap] 101) af<| fun (av:Nat) (ag:World)=> held [fun (aw:Go.World)=>World.cell? aw (dg E o)=some (Value.slice u.a u.len u.cap)] ag<| run dh ((Builtin.append_ (#[171,171]) 171 (#[Value.slice u.a u.len u.cap,Value.slice (pW av) 1 1])).run prog ag)<| fun (V:Sl) (ax:World)=> st (dg E o) ([Value.slice V.a V.len V.cap]) ax K):=by
 have hd:=h.drew;refine oA hd 0 rfl (uM x o) (Em ho)<|qsT hd (i:=1) rfl hr C aI fun aJ aK sN aj ac aL aM hN ak=>?_;have ac:dQ [] w0 aj ((E,.cells (eJ x) ND (0,0))::(I,.cells #[fS sN] T (0,0))::L):=ac;refine ig (ac.cell 0 rfl (Em ho))<|oB ac fun aZ a0 a1 al am=>ig (am.cell 1 rfl (Em ho)) ?_;have an:eQ gp 1 w.drew (uM x o) l Bk:=ae;have ay:=an.q8 ak fun c J C=>(ab c J).2 (by rw[zE.1 C];simp);have az:=ay.q7 al;refine py az hl (am.at (i:=0) rfl) fun R Bk' a2 aN ao aA=>?_;have aB:=am.sub (L':=(E,.cells (eJ x) ND (0,0))::(I,.cells #[fS sN] T (0,0))::L) (sublist_cons_self _ _);have a3:w.heap.size<=aj.heap.size:=ak.size;have a4:=al.size;have a5:=ao.size;have aa:∀c∈E::I::L.map (·.1),c<w.heap.size:=fun c J=>by obtain⟨p,hp,rfl⟩:=mem_map.1 (show c∈((E,Obj.cells (eJ x) ND (0,0))::(I,.cells #[fS s'] T (0,0))::L).map (·.1) from J);exact eZ (h.eH p hp)
 have ap:∀p∈((E,Obj.cells (eJ x) ND (0,0))::(I,.cells #[fS sN] T (0,0))::L),p.1∉Bk:=fun p hp C=>(ab p.1 C).2 (zZ (f:=(·.1)) hp);have aP:=aB.q8 ao (fun i hi=>.inr (ab i hi).1) ap;have ah:∀c∈Bk',c∈Bk\/w.heap.size<=c:=fun c J=>(aA c J).elim .inl fun h=>.inr oJ;have aC:∀c∈Bk',c∉E::I::L.map (·.1):=fun c J C=>by
  rcases ah c J with h|h;exact (ab c h).2 C
  have:=aa c C;omega
 refine oG aP 0 rfl (eJ (wL x o R)) (qzZ ho) rfl (by rcases ho with rfl|rfl<;>exact zO rfl) fun aq aQ aD=>?_;have h5:∀c∈Bk',c∉[E]:=fun c J C=>aC c J (by rw[zE.1 C];simp);have aE:Fr (E::I::Bk) aj aq:=((al.mono fun _ h _=>nomatch h).trans (ao.mono fun i hi _=>by simp[hi])).trans (aD.mono fun i hi _=>by simp[zE.1 hi]);have aR:Fr (E::I::Bk) w aq:=((Fr.refl _ w).drew.trans (ak.mono fun i hi _=>by simp[zE.1 hi])).trans aE;refine kk aJ sN R Bk' aq aQ hN (aN.q8 aD h5) ah aC aR fun G hG=>?_;have aF:∀c∈aK,c∉E::I::Bk++G.filter fun c=>decide (c<w.heap.size):=fun c J C=>by
  have h1:w.heap.size<=c:=aM c J;rcases zD.1 C with C|C;rcases zG.1 C with rfl|C
  have:=aa c oL;omega
  rcases zG.1 C with rfl|C
  have:=aa c oL;omega
  have:=ae.lt c C;omega
  have:=(mem_filter.1 C).2
  simp at this;omega
 refine (aL.jo kW aF).q8 (aE.mono fun i hi _=>zH _ hi) fun c J=>?_;rcases hG c J with h1|h1;exact .inl (zI _ (mem_filter.2 ⟨J,by simpa using h1⟩));rcases aA c h1 with h2|h2;exact .inl (zH _ (by simp[h2]));exact .inr oJ
section
def Dr{L':List (Nat×Obj)}(h:dQ S w0 w L)(p:L.Perm L'):dQ S w0 w L':=⟨fun x u=>h.eH x (p.mem_iff.2 u),(p.map _).nodup_iff.1 h.nodup,h.fr,fun x u=>h.own x (p.mem_iff.2 u)⟩
def xh{α:Type}{enc:α->List Value}{l:List α}(h:eQ enc k w s l B):B.Nodup:=by rcases h with ⟨_,_,rfl⟩|⟨b,_,_,_,rfl,_⟩<;>simp
def tW (w:World) (ps:pj) (T:List Nat):Prop:=∀p∈ps,eh T w p.1 p.2
def tW.q8{w w':World}{ps:pj}{T T' S:List Nat}(h:tW w ps T)(f:Fr S w w')(u:∀b∈S,b∈T)(C:∀b∈T',b∈T\/w.heap.size<=b):tW w' ps T':=fun p E=>(h p E).q8 (f.mono fun i G _=>u i G) C
def tW.snoc{T:List Nat}{a:Key}(h:tW w ps T)(g:eh T w s a):tW w (ps++[(s,a)]) T:=fun p u=>by rcases zD.1 u with u|u;exact h p u;rw[zE.1 u];exact g
def qum{G:List Nat}{pk pv:pj}{Bk h u T:List Nat}(h0:x.1=n.Q4)(hN:NB n)(R:eQ gp 1 w x.2.1 (ir pk) Bk)(e1:ga pk=n.J6)(U:eQ gp 1 w x.2.2.1 (ir pv) h)(e2:ga pv=n.Q0)(V:eQ iu 1 w x.2.2.2 n.J9 u)(d1:∀c∈Bk,c∉h/\c∉u)(d2:∀c∈h,c∉u)(g1:tW w pk T)(g2:tW w pv T)(hT:∀c∈G++(Bk++(h++u)),c∈T):fc (G++(Bk++(h++u))) w x n (Bk++(h++u)):=by refine⟨h0,hN,Bk,h,u,rfl,?_,⟨pk,R,e1,fun p I=>(g1 p I).j6 fun c J=>.inl (hT c J)⟩,⟨pv,U,e2,fun p I=>(g2 p I).j6 fun c J=>.inl (hT c J)⟩,V⟩;refine yM.2 ⟨xh R,yM.2 ⟨xh U,xh V,fun a E b C e=>d2 a E (e▸C)⟩,fun a E b C e=>?_⟩;rcases zD.1 C with C|C;exact (d1 a E).1 (e▸C);exact (d1 a E).2 (e▸C)
section
variable {w:World} {s:Sl} {b:List Int}
def qzR{count:Nat}{K:ka×Bool->WP}(hb:eh [] w s b)(hB:eF b)(hl:b.length<=1000)(hc:count<=100000)(hk:1<=k/\k<=1000)(hv:v<=1000)(kk:∀x B n w',(b.length=count*(k+v)->n=⟨true,(iK k v count b).1,(iK k v count b).2,[]⟩)->fc (List.range w.heap.size++B) w' x n B->Fr [] w w'->(∀c∈B,w.heap.size<=c)->K (x,decide (b.length=count*(k+v))) w'): cW 158 [s.v,.i count,.i k,.i v] [.agg dX,.one .bool] w K:=by
 refine qsn<|oB (oE [] w) fun C w1 e1 f1 h=>?_;have a4:count*(k+v)<=100000*2000:=Nat.mul_le_mul hc oJ;have ew:wrap .i64 ((count:Int)*wrap .i64 ((k:Int)+(v:Int)))=((count*(k+v):Nat):Int):=by have e1:wrap .i64 ((k:Int)+(v:Int))=((k+v:Nat):Int):=(by rw[gg _ oJ];rfl);rw[e1,<- Int.natCast_mul,gg _ oJ]
 rw[ew];have aq:=hb.1;apply dW<;>intro ad;have ar:b.length≠count*(k+v):=fun e=>by rw[aq,e] at ad;simp at ad
 refine oD h 0 rfl (eJ fx) fun w2 h f2=>oC h 0 rfl fx rfl ?_
 have:=kk fx [] ip w2 (fun e=>absurd e ar) (.zero _ _) h.fr (fun _ h=>nomatch h)
 rw[zU ar] at this;exact this;have aL:b.length=count*(k+v):=by
  have:((s.len:Int)==((count*(k+v):Nat):Int))=true:=by simpa using ad
  have:=yP.1 this
  omega
 have a':count<=1000:=(by have:count*1<=count*(k+v):=Nat.mul_le_mul_left _ oJ;omega);refine oB h fun E w2 e2 f2 h=>oD h 0 rfl (eJ (true,dG,dG,dG)) fun w3 h f3=>qjz<|oB h fun G w4 e4 f4 h=>?_;have h:=Dr h (List.Perm.swap _ _ _);have ba:=h.nodup;have bb:=fun p hp=>(h.own p hp).elim (fun h=>(nomatch h:False).elim) (id:w.heap.size<=p.1->_);refine iU (fun i w'=>∃(c:Nat) (sk sv sn:Sl) (pk pv:pj) (Bk I:List Nat),i=(c:Int)/\c<=count/\dQ [] w w' [(E,.cells (eJ (true,sk,sv,dG)) ND (0,0)),(G,.cells #[fS sn] 101 (0,0)),(C,.cells (eJ fx) ND (0,0))]/\
   eh [] w sn (b.drop (c*(k+v)))/\eQ gp 1 w' sk (ir pk) Bk/\ga pk=(iK k v c b).1/\eQ gp 1 w' sv (ir pv) I/\ga pv=(iK k v c b).2/\(∀c∈Bk,w.heap.size<=c/\c∉[E,G,C])/\(∀c∈I,w.heap.size<=c/\c∉[E,G,C])/\(∀c∈Bk,c∉I)/\
   tW w' pk (List.range w.heap.size++E::G::C::(Bk++I))/\tW w' pv (List.range w.heap.size++E::G::C::(Bk++I))) (fun i _=>((count:Int)-i).toNat)
  ⟨0,dG,dG,s,[],[],[],[],rfl,yX _,h,by rw[Nat.zero_mul,xF];exact hb,.nil _ _ _,rfl,.nil _ _ _,rfl,fun _ h=>(nomatch h),fun _ h=>(nomatch h),fun _ h=>(nomatch h),fun _ h=>(nomatch h),fun _ h=>(nomatch h)⟩ ?_
 rintro _ w' ⟨c,sk,sv,sn,pk,pv,Bk,I,rfl,bd,h,aM,au,ek,ae,ev,nk,nv,ak,gk,gv⟩ X hX;have lk:pk.length=c:=(by rw[<- zK (f:=(·.2)),show pk.map (·.2)=ga pk from rfl,ek,(CQ c b).1]);have lv:pv.length=c:=(by rw[<- zK (f:=(·.2)),show pv.map (·.2)=ga pv from rfl,ev,(CQ c b).2]);have R:∀z∈[E,G,C],z<w'.heap.size:=fun z u=>by simp only[zG,xX,or_false] at u;rcases u with rfl|rfl|rfl;exact eZ (h.at (i:=0) rfl);exact eZ (h.at (i:=1) rfl);exact eZ (h.at (i:=2) rfl)
 apply cD<;>intro al;have av:c<count:=oJ;have am:(c+1)*(k+v)<=count*(k+v):=Nat.mul_le_mul_right _ av;rw[xU,Nat.one_mul] at am;have bg:(b.drop (c*(k+v))).length=b.length-c*(k+v):=yC;refine DO (o:=1) (m:=k) (.inl rfl) h aM oJ oJ (x:=(true,sk,sv,dG)) au (fun z u=>nk z u) oO fun V sN aa Bk' w5 h5 aP b5 n5 m5 f5 g5=>?_;have h5:dQ [] w w5 [(E,.cells (eJ (true,aa,sv,dG)) ND (0,0)),(G,.cells #[fS sN] 101 (0,0)),(C,.cells (eJ fx) ND (0,0))]:=h5;have aw:=ae.q8 f5 fun z u J=>by simp only[zG] at J;rcases J with rfl|rfl|J;exact (nv _ u).2 oL;exact (nv _ u).2 oL;exact ak z J u
 have ax:∀z∈List.range w.heap.size++E::G::C::(Bk'++I),z∈List.range w.heap.size++E::G::C::(Bk++I)\/w'.heap.size<=z:=fun z u=>by simp only[zD,zG] at u⊢;rcases u with u|rfl|rfl|rfl|u|u;exact .inl (.inl u);simp;simp;simp;rcases n5 z u with h|h;simp[h];exact .inr h;simp[u]
 have ay:∀z∈E::G::Bk,z∈List.range w.heap.size++E::G::C::(Bk++I):=fun z u=>by simp only[zD,zG] at u⊢;rcases u with rfl|rfl|u<;>simp[*]
 have aT:=(gk.q8 f5 ay ax).snoc (s:=V) (a:=(b.drop (c*(k+v))).take k) (g5 _ fun z u=>by
  simp only[zD,zG,mem_range] at u
  have:=h.fr.size
  rcases u with u|rfl|rfl|rfl|u|u;exact .inl oJ;exact .inl (R _ oL);exact .inl (R _ oL);exact .inl (R _ oL);exact .inr u;exact .inl (ae.lt z u))
 have aU:=gv.q8 f5 ay ax;have an:∀z∈Bk',w.heap.size<=z/\z∉[E,G,C]:=fun z u=>⟨by rcases n5 z u with U|U;exact (nk z U).1;exact zL h.fr.size U,m5 z u⟩;have aj:∀z∈Bk',z∉I:=fun z u J=>by
  rcases n5 z u with U|U;exact ak z U J
  have:=ae.lt z J;omega
 have aV:eQ gp 1 w5 aa (ir (pk++[(V,(b.drop (c*(k+v))).take k)])) Bk':=(by rw[show ir (pk++[(V,(b.drop (c*(k+v))).take k)])=ir pk++[V] by simp];exact b5);refine DO (o:=2) (m:=v) (.inr rfl) h5 aP (by rw[yC];omega) (by rw[yC];omega) (x:=(true,aa,sv,dG)) aw (fun z u=>nv z u) oO fun ag az aA aB w6 h6 aC b6 n6 m6 f6 g6=>?_;have h6:dQ [] w w6 [(E,.cells (eJ (true,aa,aA,dG)) ND (0,0)),(G,.cells #[fS az] 101 (0,0)),(C,.cells (eJ fx) ND (0,0))]:=h6;have ab:∀z∈[E,G,C],z<w5.heap.size:=fun z u=>yD (R z u) f5.size;have aD:=aV.q8 f6 fun z u J=>by simp only[zG] at J;rcases J with rfl|rfl|J;exact (an _ u).2 oL;exact (an _ u).2 oL;exact aj z u J
 have aE:∀z∈List.range w.heap.size++E::G::C::(Bk'++aB),z∈List.range w.heap.size++E::G::C::(Bk'++I)\/w5.heap.size<=z:=fun z u=>by simp only[zD,zG] at u⊢;rcases u with u|rfl|rfl|rfl|u|u;exact .inl (.inl u);simp;simp;simp;simp[u];rcases n6 z u with h|h;simp[h];exact .inr h
 have aF:∀z∈E::G::I,z∈List.range w.heap.size++E::G::C::(Bk'++I):=fun z u=>by simp only[zD,zG] at u⊢;rcases u with rfl|rfl|u<;>simp[*]
 have aZ:=(aU.q8 f6 aF aE).snoc (s:=ag) (a:=((b.drop (c*(k+v))).drop k).take v) (g6 _ fun z u=>by
  simp only[zD,zG,mem_range] at u
  have:=h5.fr.size
  rcases u with u|rfl|rfl|rfl|u|u;exact .inl oJ;exact .inl (ab _ oL);exact .inl (ab _ oL);exact .inl (ab _ oL);exact .inl (b5.lt z u);exact .inr u)
 have a0:=aT.q8 f6 aF aE;rw[qZ oJ];have aG:=qn3 (k:=k) (v:=v) c b;refine hX _ _ ⟨c+1,aa,aA,az,pk++[(V,(b.drop (c*(k+v))).take k)],pv++[(ag,((b.drop (c*(k+v))).drop k).take v)],Bk',aB,rfl,av,h6,?_,aD,?_,?_,?_,an,fun z u=>⟨?_,m6 z u⟩,fun z u J=>?_,a0,aZ⟩ oJ;rw[xD,xD] at aC;have e:c*(k+v)+(k+v)=(c+1)*(k+v):=(by rw[xU];omega);rw[<- e];exact aC;rw[aG];simp[ek];rw[show ir (pv++[(ag,((b.drop (c*(k+v))).drop k).take v)])=ir pv++[ag] by simp];exact b6;rw[aG];simp[ev];rcases n6 z u with U|U;exact (nv z U).1;exact zL h5.fr.size U;rcases n6 z J with U|U;exact aj z u U
 have:=b5.lt z u;omega
 have a1:c=count:=oJ;subst a1;refine oC h 0 rfl (true,sk,sv,dG) rfl<|oD h 2 rfl (eJ (true,sk,sv,dG)) fun w5 h5 f5=>oC h5 2 rfl (true,sk,sv,dG) rfl ?_;have aH:∀ {B:List Nat},(∀z∈B,w.heap.size<=z/\z∉[E,G,C])->∀z∈B,z∉[C]:=fun hB z u J=>(hB z u).2 (by rw[zE.1 J];simp);have aI:∀z∈[C],z∈List.range w.heap.size++E::G::C::(Bk++I):=fun z u=>by rw[zE.1 u];simp
 have:=kk (true,sk,sv,dG) (Bk++(I++[])) ⟨true,(iK k v c b).1,(iK k v c b).2,[]⟩ w5 (fun _=>rfl)
  (qum (T:=List.range w.heap.size++E::G::C::(Bk++I)) rfl ⟨(Gi c hB).1,(Gi c hB).2,fun _ h=>(nomatch h)⟩ (au.q8 f5 (aH nk)) ek (ae.q8 f5 (aH nv)) ev (.nil _ _ _) (fun z u=>⟨ak z u,fun h=>nomatch h⟩) (fun _ _ h=>nomatch h)
   (gk.q8 f5 aI fun z u=>.inl u) (gv.q8 f5 aI fun z u=>.inl u) fun z u=>by simp only[xH,zD,zG] at u⊢;rcases u with u|u|u<;>simp[*]) h5.fr (fun z u=>by
   rw[xH] at u;rcases zD.1 u with u|u;exact (nk z u).1;exact (nv z u).1)
 rw[yA aL] at this;exact this
end
end
section
def qtj(u:eF l)(E:4<=l.length):fl (l.take 4)=gO (l.take 4):=by
 match l,E with
 | a::b::c::d::r,_=>
  have G:=u a oL;have I:=u b oL;have J:=u c oL;have R:=u d oL;show fl [a,b,c,d]=gO [a,b,c,d];show od a b c d=_;rw[qr1 G I J R,BT (fun v C=>u v (by simp at C⊢;rcases C with h|h|h|h<;>simp[h])) (zM _)];show _=(((0*256+a)*256+b)*256+c)*256+d;omega
def qyo(l:List Int):gC (gO l):=by
 unfold gO;have:∀(l:List Int) (r:Int),gC r->gC (l.foldl (fun r x=>bits .or .u32 (wrap .u32 (r*2^8)) (wrap .u32 x)) r):=by
  intro l;induction l with
  | nil=>intro r h;exact h
  | cons x l ih=>intro r h;exact ih _ (CT _ _ _)
 exact this l 0 ⟨oM,oM⟩
def qqf:∀(c:Nat) (b:List Int),∀x∈y6 c b,gC x
 | 0,_,_,h=>nomatch h
 | c+1,b,x,h=>by rcases zG.1 h with rfl|h;exact qyo _;exact qqf c _ x h
def qz4{I J:Nat}{s':Sl}{Bi:List Nat}{K:WP}(h:dQ [] w0 w ((I,.cells (eJ x) ND (0,0))::(J,.cells #[fS s'] T (0,0))::L))(hr:eh [] w0 s' b)(hB:eF b)(hm:4<=b.length)(aC:b.length<=1000000)(aj:eQ iu 1 w x.2.2.2 l Bi)(ac:∀c∈Bi,w0.heap.size<=c/\c∉I::J::L.map (·.1))(hl:l.length<=100000)(kk:∀sN R U w',dQ [] w0 w' ((I,.cells (eJ (x.1,x.2.1,x.2.2.1,R)) ND (0,0))::(J,.cells #[fS sN] T (0,0))::L)->eh [] w0 sN (b.drop 4)->eQ iu 1 w' R (l++[gO (b.take 4)]) U-> (∀c∈U,w0.heap.size<=c/\c∉I::J::L.map (·.1))->K w'): (ed prog (rz J) ([Value.int IntKind.i64 4]) (dh) w<| fun (E:Sl) (u:World)=> ld Cell.slice (dg I 3) u.drew<| fun (C:Sl)=> idx E 0 1<| fun (ak:Addr)=> ld (Cell.int IntKind.u8) ak u.drew<| fun (al:Int)=> idx E 1 1<| fun (am:Addr)=> ld (Cell.int IntKind.u8) am u.drew<| fun (an:Int)=> idx E 2 1<| fun (ao:Addr)=> ld (Cell.int IntKind.u8) ao u.drew<| fun (ap:Int)=> idx E 3 1<| fun (aq:Addr)=> ld (Cell.int IntKind.u8) aq u.drew<| fun (ar:Int)=> new (.cells #[Value.int IntKind.u32 (bits .or .u32 (bits .or .u32 (bits .or .u32 (wrap IntKind.u32 (wrap IntKind.u32 al*2^24)) (wrap IntKind.u32 (wrap IntKind.u32 an*2^16))) (wrap IntKind.u32 (wrap IntKind.u32 ap*2^8))) (wrap IntKind.u32 ar))] 63) u.drew<| fun (au:Nat) (af:World)=> held [fun (av:Go.World)=>World.cell? av (dg I 3)=some (Value.slice C.a C.len C.cap)] af<| run dh ((Builtin.append_ (#[172,172]) 172 (#[Value.slice C.a C.len C.cap,Value.slice (pW au) 1 1])).run prog af)<| fun (V:Sl) (aw:World)=> st (dg I 3) ([Value.slice V.a V.len V.cap]) aw K):=by
 refine qsT (m:=4) h (i:=1) rfl hr hm aC fun aD aZ sN ad aE aF a0 hN aG=>?_;have hd:dQ [] w0 ad.drew ((I,.cells (eJ x) ND (0,0))::(J,.cells #[fS sN] T (0,0))::L):=oF aE;refine oA hd 0 rfl x.2.2.2 rfl ?_;have G:eh [] ad.drew aD (b.take 4):=(aF.jo kW (S:=[]) (fun _ _ h=>nomatch h)).q7 (Fr.refl [] ad).drew;have h4:4<=(b.take 4).length:=(by rw[yL];omega);refine eh.at G 0 rfl (getD_some oJ)<|eh.at G 1 rfl (getD_some oJ)<|eh.at G 2 rfl (getD_some oJ)<|eh.at G 3 rfl (getD_some oJ) ?_;have e4:=qtj hB hm;unfold fl od at e4;rw[e4];refine oB hd fun a2 aH a3 aI ag=>ig (ag.cell 1 rfl rfl) ?_;have ax:=aj.q8 aG fun c hc hm=>(ac c hc).2 (by rw[zE.1 hm];simp);have ay:=(ax.q7 (Fr.refl [] ad).drew).q7 aI;refine qtS ay hl (ag.at (i:=0) rfl) fun R U a4 aJ aK aL=>?_;have aa:=ag.sub (L':=(I,.cells (eJ x) ND (0,0))::(J,.cells #[fS sN] T (0,0))::L) (sublist_cons_self _ _);have ai:∀p∈((I,Obj.cells (eJ x) ND (0,0))::(J,.cells #[fS sN] T (0,0))::L),p.1∉Bi:=fun p hp hm=>(ac p.1 hm).2 (zZ (f:=(·.1)) hp);have aN:=aa.q8 aK (fun i hi=>.inr (ac i hi).1) ai;have az:∀c∈I::J::L.map (·.1),c<aH.heap.size:=fun c hc=>by obtain⟨p,hp,rfl⟩:=mem_map.1 (show c∈((I,Obj.cells (eJ x) ND (0,0))::(J,.cells #[fS sN] T (0,0))::L).map (·.1) from hc);exact eZ (aa.eH p hp)
 have aA:∀c∈U,w0.heap.size<=c/\c∉I::J::L.map (·.1):=fun c hc=>by rcases aL c hc with h|h;exact ac c h;exact⟨zL aa.fr.size h,fun hm=>by have:=az c hm;omega⟩
 exact oD aN 0 rfl (eJ (x.1,x.2.1,x.2.2.1,R)) fun aO aP aQ=>kk sN R U aO aP hN (aJ.q8 aQ fun c hc hm=>(aA c hc).2 (by rw[zE.1 hm];simp)) aA
section
variable {w:World} {s:Sl} {b:List Int}
def qwQ{count:Nat}{K:ka×Bool->WP}(hb:eh [] w s b)(hB:eF b)(hl:b.length<=1000)(hc:count<=100000)(hk:1<=k/\k<=1000)(kk:∀x B n w',(1<=count/\b.length=count*4+(count-1)*k->n=⟨false,kV k (count-1) (b.drop (count*4)),[],y6 count b⟩)->fc (List.range w.heap.size++B) w' x n B->Fr [] w w'->(∀c∈B,w.heap.size<=c)->K (x,decide (1<=count/\b.length=count*4+(count-1)*k)) w'): cW 159 [s.v,.i count,.i k] [.agg dX,.one .bool] w K:=by
 refine qq1<|oB (oE [] w) fun C w1 e1 f1 h=>?_;have ao:=hb.1;have ap:(count-1)*k<=100000*1000:=Nat.mul_le_mul oJ hk.2;refine gW (fun d w'=>d = !decide (1<=count/\b.length=count*4+(count-1)*k)/\w'=w1) ?_ ?_;apply dW<;>intro h1;have h1:=zC h1;refine⟨?_,rfl⟩;rw[zU (fun h=>oJ)];rfl;have h1:=zB h1;refine⟨?_,rfl⟩;have ea:wrap .i64 ((count:Int)-1)=((count-1:Nat):Int):=(by rw[gg _ oJ];omega);have ew:wrap .i64 (wrap .i64 ((count:Int)*4)+wrap .i64 (wrap .i64 ((count:Int)-1)*(k:Int)))=((count*4+(count-1)*k:Nat):Int):=by have e4:wrap .i64 ((count:Int)*4)=((count*4:Nat):Int):=(by rw[gg _ oJ];rfl);have e5:wrap .i64 (((count-1:Nat):Int)*(k:Int))=(((count-1)*k:Nat):Int):=(by rw[<- Int.natCast_mul,gg _ oJ]);rw[ea,e4,e5];generalize (count-1)*k=z at ap;rw[gg _ oJ];rfl
 rw[ew,ao];congr 1;rw[Bool.eq_iff_iff,yP,yN];generalize (count-1)*k=z;omega;rintro d a0 ⟨rfl,rfl⟩;apply dW<;>intro U;have ar:¬(1<=count/\b.length=count*4+(count-1)*k):=(by rw[zT] at U;exact zB U);refine oD h 0 rfl (eJ fx) fun w2 h f2=>oC h 0 rfl fx rfl ?_
 have:=kk fx [] ip w2 (fun e=>absurd e ar) (.zero _ _) h.fr (fun _ h=>nomatch h)
 rw[zU ar] at this;exact this;have aG:1<=count/\b.length=count*4+(count-1)*k:=(by rw[yE] at U;exact zC U);refine oB h fun G w2 e2 f2 h=>qjz<|oB h fun I w4 e4 f4 h=>?_;have h:=Dr h (List.Perm.swap _ _ _);refine iU (fun i w'=>∃(c:Nat) (R sn:Sl) (J:List Nat),i=(c:Int)/\c<=count/\dQ [] w w' [(G,.cells (eJ (false,dG,dG,R)) ND (0,0)),(I,.cells #[fS sn] 101 (0,0)),(C,.cells (eJ fx) ND (0,0))]/\
   eh [] w sn (b.drop (c*4))/\eQ iu 1 w' R (y6 c b) J/\(∀c∈J,w.heap.size<=c/\c∉[G,I,C])) (fun i _=>((count:Int)-i).toNat)
  ⟨0,dG,s,[],rfl,yX _,h,by rw[Nat.zero_mul,xF];exact hb,.nil _ _ _,fun _ h=>(nomatch h)⟩ ?_
 rintro _ w' ⟨c,R,sn,J,rfl,a2,h,au,E,ni⟩ X hX;apply cD<;>intro ag;have ab:c<count:=oJ;have aI:(b.drop (c*4)).length=b.length-c*4:=yC;refine qz4 h au (hB.drop _) oJ oJ (x:=(false,dG,dG,R)) E ni (by rw[EX];omega) fun sN aJ aK w5 h5 V b5 n5=>?_;rw[qZ oJ];refine hX _ _ ⟨c+1,aJ,sN,aK,rfl,ab,h5,?_,by rw[qn2];exact b5,n5⟩ oJ;rw[xD] at V;have e:c*4+4=(c+1)*4:=oJ;rw[<- e];exact V;have ah:c=count:=oJ;subst ah;have aV:∀z∈J,w.heap.size<=z:=fun z u=>(ni z u).1;refine iU (fun i w2=>∃(d:Nat) (sk sn:Sl) (pk:pj) (Bk:List Nat),i=(d:Int)/\d<=c-1/\dQ [] w w2 [(G,.cells (eJ (false,sk,dG,R)) ND (0,0)),(I,.cells #[fS sn] 101 (0,0)),(C,.cells (eJ fx) ND (0,0))]/\
   eh [] w sn ((b.drop (c*4)).drop (d*k))/\eQ iu 1 w2 R (y6 c b) J/\eQ gp 1 w2 sk (ir pk) Bk/\ga pk=kV k d (b.drop (c*4))/\(∀c∈Bk,w.heap.size<=c/\c∉[G,I,C])/\(∀c∈Bk,c∉J)/\
   tW w2 pk (List.range w.heap.size++G::I::C::(Bk++J))) (fun i _=>(((c-1:Nat):Int)-i).toNat)
  ⟨0,dG,sn,[],[],rfl,yX _,h,by rw[Nat.zero_mul,xF];exact au,E,.nil _ _ _,rfl,fun _ h=>(nomatch h),fun _ h=>(nomatch h),fun _ h=>(nomatch h)⟩ ?_
 rintro _ w2 ⟨d,sk,a3,pk,Bk,rfl,a4,h,aw,E,ax,ek,nk,ai,gk⟩ X hX;have lk:pk.length=d:=(by rw[<- zK (f:=(·.2)),show pk.map (·.2)=ga pk from rfl,ek,G3]);have ea:wrap .i64 ((c:Int)-1)=((c-1:Nat):Int):=(by rw[gg _ oJ];omega);have aa:∀z∈[G,I,C],z<w2.heap.size:=fun z u=>by simp only[zG,xX,or_false] at u;rcases u with rfl|rfl|rfl;exact eZ (h.at (i:=0) rfl);exact eZ (h.at (i:=1) rfl);exact eZ (h.at (i:=2) rfl)
 rw[ea];apply cD<;>intro aj;have ab:d<c-1:=oJ;have ak:(d+1)*k<=(c-1)*k:=Nat.mul_le_mul_right _ ab;rw[xU,Nat.one_mul] at ak;have aI:((b.drop (c*4)).drop (d*k)).length=b.length-c*4-d*k:=(by rw[yC,yC]);refine DO (o:=1) (m:=k) (.inl rfl) h aw oJ oJ (x:=(false,sk,dG,R)) ax nk oO fun ac sN ay Bk' w5 h5 V b5 n5 m5 f5 g5=>?_;have h5:dQ [] w w5 [(G,.cells (eJ (false,ay,dG,R)) ND (0,0)),(I,.cells #[fS sN] 101 (0,0)),(C,.cells (eJ fx) ND (0,0))]:=h5;have az:=E.q8 f5 fun z u hm=>by simp only[zG] at hm;rcases hm with rfl|rfl|hm;exact (ni _ u).2 oL;exact (ni _ u).2 oL;exact ai z hm u
 have aN:∀z∈List.range w.heap.size++G::I::C::(Bk'++J),z∈List.range w.heap.size++G::I::C::(Bk++J)\/w2.heap.size<=z:=fun z u=>by simp only[zD,zG] at u⊢;rcases u with u|rfl|rfl|rfl|u|u;exact .inl (.inl u);simp;simp;simp;rcases n5 z u with h|h;simp[h];exact .inr h;simp[u]
 have aO:∀z∈G::I::Bk,z∈List.range w.heap.size++G::I::C::(Bk++J):=fun z u=>by simp only[zD,zG] at u⊢;rcases u with rfl|rfl|u<;>simp[*]
 have aP:=(gk.q8 f5 aO aN).snoc (s:=ac) (a:=((b.drop (c*4)).drop (d*k)).take k) (g5 _ fun z u=>by
  simp only[zD,zG,mem_range] at u
  have:=h.fr.size
  rcases u with u|rfl|rfl|rfl|u|u;exact .inl oJ;exact .inl (aa _ oL);exact .inl (aa _ oL);exact .inl (aa _ oL);exact .inr u;exact .inl (E.lt z u))
 rw[qZ oJ];refine hX _ _ ⟨d+1,ay,sN,pk++[(ac,((b.drop (c*4)).drop (d*k)).take k)],Bk',rfl,ab,h5,?_,az,?_,?_,fun z u=>⟨?_,m5 z u⟩,fun z u hm=>?_,aP⟩ oJ;rw[xD] at V;have e:d*k+k=(d+1)*k:=(by rw[xU];omega);rw[<- e];exact V;rw[show ir (pk++[(ac,((b.drop (c*4)).drop (d*k)).take k)])=ir pk++[ac] by simp];exact b5;rw[qn0];simp[ek];rcases n5 z u with h'|h';exact (nk z h').1;exact zL h.fr.size h';rcases n5 z u with h'|h';exact ai z h' hm
 have:=E.lt z hm;omega
 have ah:d=c-1:=oJ;subst ah;refine oC h 0 rfl (false,sk,dG,R) rfl<|oD h 2 rfl (eJ (false,sk,dG,R)) fun w5 h5 f5=>oC h5 2 rfl (false,sk,dG,R) rfl ?_;have aA:∀ {B:List Nat},(∀z∈B,w.heap.size<=z/\z∉[G,I,C])->∀z∈B,z∉[C]:=fun hB z u hm=>(hB z u).2 (by rw[zE.1 hm];simp);have aQ:∀z∈[C],z∈List.range w.heap.size++G::I::C::(Bk++J):=fun z u=>by rw[zE.1 u];simp
 have:=kk (false,sk,dG,R) (Bk++([]++J)) ⟨false,kV k (c-1) (b.drop (c*4)),[],y6 c b⟩ w5 (fun _=>rfl)
  (qum (pv:=[]) (T:=List.range w.heap.size++G::I::C::(Bk++J)) rfl ⟨qqd _ (hB.drop _),fun _ h=>(nomatch h),qqf _ _⟩ (ax.q8 f5 (aA nk)) ek (.nil _ _ _) rfl (E.q8 f5 (aA ni)) (fun z u=>⟨fun h=>(nomatch h),ai z u⟩) (fun _ h=>nomatch h)
   (gk.q8 f5 aQ fun z u=>.inl u) (fun _ h=>nomatch h) fun z u=>by simp only[xI,zD,zG] at u⊢;rcases u with u|u|u<;>simp[*]) h5.fr (fun z u=>by
   rw[xI] at u;rcases zD.1 u with u|u;exact (nk z u).1;exact (ni z u).1)
 rw[yA aG] at this;exact this
end
end
section
def qte(h:eF b)(E:2<=b.length):bits .or .i64 (wrap .i64 (wrap .i64 (b.getD 0 0)*2^8)) (wrap .i64 (b.getD 1 0))=(fB b:Int)/\fB b<=65535:=by have u:0<=b.getD 0 0/\b.getD 0 0<256:=h _ (yF (getD_some (l:=b) (n:=0) oJ));have C:0<=b.getD 1 0/\b.getD 1 0<256:=h _ (yF (getD_some (l:=b) (n:=1) oJ));unfold fB;generalize b.getD 0 0=x at u⊢;generalize b.getD 1 0=y at C⊢;rw[gg x oJ,gg y oJ,gg (x*2^8) oJ,qsq 8 oJ oJ oJ oJ oJ];omega
def qnx(h:(dV k v).1≠0):1<=k/\k<=24/\v<=108:=by unfold dV at h;split at h;exact absurd rfl h;omega
def qyO(h:(dV k v).1=0\/b.length<2\/b.length>500):iv kind b k v=(ip,2):=by unfold iv;rw[if_pos h]
def qxs(h:¬((dV k v).1=0\/b.length<2\/b.length>500)):iv 3 b k v=if (b.drop 2).length=fB b*(k+v)/\fC (mz k v b) k v then (mz k v b,0) else (ip,2):=by unfold iv;rw[if_neg h];by_cases h2:(b.drop 2).length=fB b*(k+v)/\fC (mz k v b) k v;rw[if_pos ⟨rfl,h2⟩,if_pos h2];rw[if_neg fun h=>h2 h.2,if_neg h2,if_neg fun h=>absurd h.1 oM]
def qvK(h:¬((dV k v).1=0\/b.length<2\/b.length>500)):iv 4 b k v=if (1<=fB b/\(b.drop 2).length=fB b*4+(fB b-1)*k)/\fC (kZ k b) k v then (kZ k b,0) else (ip,2):=by unfold iv;rw[if_neg h,if_neg fun h=>absurd h.1 oM];by_cases h2:(1<=fB b/\(b.drop 2).length=fB b*4+(fB b-1)*k)/\fC (kZ k b) k v;rw[if_pos ⟨rfl,h2.1.1,h2.1.2,h2.2⟩,if_pos h2];rw[if_neg fun h=>h2 ⟨⟨h.2.1,h.2.2.1⟩,h.2.2.2⟩,if_neg h2]
def qxr(u:kind≠3)(C:kind≠4):iv kind b k v=(ip,2):=by unfold iv;split;rfl;rw[if_neg fun h=>u h.1,if_neg fun h=>C h.1]
section
variable {w:World} {s:Sl} {b:List Int}
def DJ{K:ka×Int->WP}(hb:eh [] w s b)(hB:eF b)(kk:∀x B w',fc (List.range w.heap.size++B) w' x (iv kind b k v).1 B->Fr [] w w'->(∀c∈B,w.heap.size<=c)->K (x,(iv kind b k v).2) w'): cW 118 [.b kind,s.v,.i k,.i v] [.agg dX,.one .i] w K:=by
 refine qsl ?_;have ah:=hb.1;refine oB (oE [] w) fun r1 w1 e1 f1 h=>DN fun w4 f4=>?_;have h:=h.q7 f4;refine gW (fun d w'=>d=decide ((dV k v).1=0\/b.length<2\/b.length>500)/\w'=w4) ?_ ?_;dsimp only;refine dW (fun C=>⟨?_,rfl⟩) (fun C=>dW (fun c2=>⟨?_,rfl⟩) (fun c2=>⟨?_,rfl⟩));have C:=yP.1 C;exact Du (.inl oJ);have c2:=zC c2;exact Du (.inr (.inl oJ));have C:=zR.1 C;have c2:=zB c2;rw[Bool.eq_iff_iff,yN,yN];constructor;intro h;exact .inr (.inr oJ);rintro (h|h|h);omega;omega;omega;rintro d aJ ⟨rfl,rfl⟩;have aw:∀ {w'},iv kind b k v=(ip,2)->dQ [] w w' [(r1,.cells (eJ fx) ND (0,0))]->
   st (dg r1) ([Value.bool false,Value.slice none 0 0,Value.slice none 0 0,Value.slice none 0 0]) w' fun ax=>dK (dX) (dg r1) ax fun aK=>K ((aK,2)) ax:=fun he h=>by
  refine oD h 0 rfl (eJ fx) fun w2 h f2=>oC h 0 rfl fx rfl ?_
  have:=kk fx [] w2 (by rw[he];exact .zero _ _) h.fr (fun _ h=>nomatch h)
  rw[he] at this;exact this
 refine dW (fun u=>aw (qyO (zC u)) h) (fun u=>?_);have aa:=zB u;have ay:(dV k v).1≠0:=fun e=>aa (.inl e);have h2:2<=b.length/\b.length<=500:=by refine⟨?_,?_⟩;exact Nat.not_lt.1 fun e=>aa (.inr (.inl e));exact Nat.not_lt.1 fun e=>aa (.inr (.inr e))
 obtain⟨aZ,a0,a1⟩:=qnx ay;obtain⟨az,a2⟩:=qte hB h2.1;have aA:=(hb.q7 h.fr).q7 (Fr.refl [] aJ).drew;refine eh.at aA 0 rfl (getD_some oJ)<|eh.at aA 1 rfl (getD_some oJ) ?_;rw[az];have h:=h.drew;refine oB h fun af aj a3 a4 h=>?_;have ak:=eZ (h.at (i:=0) rfl);have aB:=eZ (h.at (i:=1) rfl);dsimp only at ak aB;have ai:=hb.q7 h.fr;have aC:=h.fr.size;refine gW (fun R w'=>∃x B n,dQ [] w w' [(af,.cells (eJ x) ND (0,0)),(r1,.cells (eJ fx) ND (0,0))]/\fc (List.range aj.heap.size++B) w' x n B/\(∀c∈B,aj.heap.size<=c)/\
   R=decide ((kind=3/\(b.drop 2).length=fB b*(k+v))\/(kind=4/\1<=fB b/\(b.drop 2).length=fB b*4+(fB b-1)*k))/\
   (R=true->n=if kind=3 then mz k v b else kZ k b)) ?_ ?_
 refine dW (fun V=>?_) (fun V=>dW (fun c4=>?_) (fun c4=>?_));have V:=yP.1 V;refine dZ.part (S:=[]) ai (lo:=some 2) (hi:=none) 2 b.length rfl (by rw[xW,ah]) h2.1 (zM _) fun aM _ I _=>?_;rw[xZ] at I;refine qzR I (hB.drop 2) (by rw[yC];omega) oJ oJ oJ fun x B n aN hn hN an J=>?_;have ao:=h.q7 an;refine oD ao 0 rfl (eJ x) fun aO ap aq=>?_;have ab:∀c∈B,c∉[af]:=fun c u hm=>by have:=J c u;rw[zE.1 hm] at this;omega
 refine⟨x,B,n,ap,hN.q8 aq ab (fun c u=>.inl (by rw[zE.1 u];simp[ak])) (fun c u=>.inl u),J,?_,fun E=>?_⟩;rw[Bool.eq_iff_iff,yN,yN];constructor;intro U;exact .inl ⟨V,U⟩;rintro (U|U);exact U.2
 have:=U.1;omega
 rw[if_pos V];exact hn (zC E);have V:=zR.1 V;have c4:=yP.1 c4;refine dZ.part (S:=[]) ai (lo:=some 2) (hi:=none) 2 b.length rfl (by rw[xW,ah]) h2.1 (zM _) fun aM _ I _=>?_;rw[xZ] at I;refine qwQ I (hB.drop 2) (by rw[yC];omega) oJ oJ fun x B n aN hn hN an J=>?_;have ao:=h.q7 an;refine oD ao 0 rfl (eJ x) fun aO ap aq=>?_;have ab:∀c∈B,c∉[af]:=fun c u hm=>by have:=J c u;rw[zE.1 hm] at this;omega
 refine⟨x,B,n,ap,hN.q8 aq ab (fun c u=>.inl (by rw[zE.1 u];simp[ak])) (fun c u=>.inl u),J,?_,fun E=>?_⟩;rw[Bool.eq_iff_iff,yN,yN];constructor;intro U;exact .inr ⟨c4,U⟩;rintro (U|U);exact absurd U.1 V;exact U.2;rw[if_neg V];exact hn (zC E);have V:=zR.1 V;have c4:=zR.1 c4;refine⟨fx,[],ip,h,.zero _ _,fun _ h=>(nomatch h),?_,fun E=>nomatch E⟩;rw[zU];rintro (U|U);exact V U.1;exact c4 U.1;rintro R aP ⟨x,B,n,h,hN,J,ac,hn⟩;have aE:R=true->n.J6.length<=1000000/\n.Q0.length<=1000000/\n.J9.length<=1000000:=fun E=>by
  rw[hn E];split
  have:=CQ (k:=k) (v:=v) (fB b) (b.drop 2)
  unfold mz;dsimp only;rw[this.1,this.2];simp;omega;unfold kZ;dsimp only;rw[G3,EX];simp;omega
 refine gW (fun d w'=>d = !(R&&decide (fC n k v))/\dQ [] w w' [(af,.cells (eJ x) ND (0,0)),(r1,.cells (eJ fx) ND (0,0))]/\fc (List.range aj.heap.size++B) w' x n B) ?_ ?_;apply dW<;>intro C;have C:R=false:=(oP C);exact⟨by rw[C];rfl,h,hN⟩;have C:R=true:=(oP C);obtain⟨q1,q2,q3⟩:=aE C;refine oC h 0 rfl x rfl ?_;have aQ:eC [] aP x n:=hN.rd (fun _ _ h=>(nomatch h)) fun _ h=>nomatch h;exact qru (x:=x) aQ q1 q2 q3 fun a8 aF=>⟨by rw[C,Bool.true_and],h.q7 aF,hN.q7 aF⟩;rintro d a9 ⟨rfl,h,hN⟩;have G:iv kind b k v=if (R&&decide (fC n k v))=true then (n,0) else (ip,2):=by
  by_cases k3:kind=3;subst k3;rw[qxs aa];have e:R=decide ((b.drop 2).length=fB b*(k+v)):=(by rw[ac];exact decide_eq_decide.2 ⟨fun h=>h.elim (·.2) fun h=>absurd h.1 oM,fun h=>.inl ⟨rfl,h⟩⟩);by_cases E:R=true;have ad:=hn E;rw[if_pos rfl] at ad;rw[ad,E,Bool.true_and];have hl:(b.drop 2).length=fB b*(k+v):=zC (e▸E);by_cases hr:fC (mz k v b) k v;rw[if_pos ⟨hl,hr⟩,if_pos (yA hr)];rw[if_neg fun h=>hr h.2,if_neg (by rw[zU hr];decide)];have ae:R=false:=(oP E);rw[ae,Bool.false_and,if_neg (show ¬(false=true) by decide)];have hl:¬(b.drop 2).length=fB b*(k+v):=zB (e▸ae);rw[if_neg fun h=>hl h.1];by_cases k4:kind=4;subst k4;rw[qvK aa];have e:R=decide (1<=fB b/\(b.drop 2).length=fB b*4+(fB b-1)*k):=(by rw[ac];exact decide_eq_decide.2 ⟨fun h=>h.elim (fun h=>absurd h.1 oM) (·.2),fun h=>.inr ⟨rfl,h⟩⟩);by_cases E:R=true;have ad:=hn E;rw[if_neg k3] at ad;rw[ad,E,Bool.true_and];have hl:=zC (e▸E);by_cases hr:fC (kZ k b) k v;rw[if_pos ⟨hl,hr⟩,if_pos (yA hr)];rw[if_neg fun h=>hr h.2,if_neg (by rw[zU hr];decide)];have ae:R=false:=(oP E);rw[ae,Bool.false_and,if_neg (show ¬(false=true) by decide)];have hl:=zB (e▸ae);rw[if_neg fun h=>hl h.1];rw[qxr k3 k4];have E:R=false:=by rw[ac,zU];rintro (h|h);exact k3 h.1;exact k4 h.1
  rw[E,Bool.false_and,if_neg (show ¬(false=true) by decide)]
 have aR:∀c∈B,c∉[r1]:=fun c u hm=>by have:=J c u;rw[zE.1 hm] at this;omega
 apply dW<;>intro C;refine aw ?_ (h.sub (sublist_cons_self _ _));rw[G,if_neg (by rw[zT] at C;rw[C];decide)];rw[yE] at C;refine oC h 0 rfl x rfl<|oD h 1 rfl (eJ x) fun aT aG aU=>oC aG 1 rfl x rfl ?_;rw[if_pos C] at G
 have:=kk x B aT (by rw[G];exact (hN.q8 aU aR (fun c u=>.inl (by rw[zE.1 u];simp[aB])) (fun c u=>.inl u)).j6 fun c u=>.inl (by rcases zD.1 u with u|u;exact zH _ (mem_range.2 (yD (mem_range.1 u) aC));exact zI _ u)) aG.fr (fun c u=>zL aC (J c u))
 rw[G] at this;exact this
end
end
section
def qBp{M:dY}(u:M.z9)(x:Int):x∈M.all↔x∈M.Q9\/x∈M.J7\/x∈M.Q5:=by rw[u.mem x];simp only[dY.all,zD];constructor;rintro (h|h|h|h);exact .inl (.inl h);exact .inr (.inl h);exact .inr (.inr h);exact .inl (.inr h);rintro ((h|h)|h|h);exact .inl h;exact .inr (.inr (.inr h));exact .inr (.inl h);exact .inr (.inr (.inl h))
def Ea{M:dY}{y4 Q9:List Int}(u:js M=some (y4,Q9))(x:Int):x∈y4\/x∈Q9↔x∈M.Q1\/x∈M.J7\/x∈M.Q5:=by
 obtain⟨k,E,C,rfl,rfl⟩:=CA u;rw[wo];have e:x∈M.Q1↔x∈M.Q1.take k\/x∈M.Q1.drop k:=by
  conv=>lhs;rw[<- xE k M.Q1]
  exact zD
 simp only[zD,e];constructor;rintro (h|(h|h)|h);exact .inl (.inl h);exact .inr (.inl h);exact .inr (.inr h);exact .inl (.inr h);rintro ((h|h)|h|h);exact .inl h;exact .inr (.inr h);exact .inr (.inl (.inl h));exact .inr (.inl (.inr h))
section
variable {D D':dI} {M:dY} {y4 Q9:List Int} {t:Int} {ov:Bool}
def qtn(h:M.Wf)(C:∀e∈M.J8,view D' e.1=eE e.1 e.2.1 e.2.2)(u:e∈M.J8):eU e.1 (view D' e.1)=(e.2.1,e.2.2,0):=by have E:=h.J6 e.1 (zZ u);have G:=h.n4;rw[C e u];exact D9 ⟨oJ,oJ⟩ (h.body e u).2.1
def qqD{x:Int}(C:M.Q3=false)(E:D.down=false)(u:2<=x/\x<D.size)(G:M.j9.2.getD 0 0=D.size)(h:x∉M.all):dH D M x=eU x (view D x):=by have I:look x M.J8=none:=uh.2 fun J=>h (zI _ (zI _ (zI _ J)));have R:gc M x=true:=wZ.2 ⟨⟨u.1,by rw[G];exact u.2⟩,h⟩;have U:=CC E (n:=x) ⟨oJ,u.2⟩;unfold dH;rw[if_neg (by rw[C];decide),I];dsimp only;rw[if_neg (by rw[R];decide),U,if_neg oL]
def qvJ(h:M.Q3=false)(u:M.Wf)(C:e∈M.J8):dH D M e.1=(e.2.1,e.2.2,0):=by obtain⟨i,E⟩:=CN u.y8 C;unfold dH;rw[if_neg (by rw[h];decide),E]
end
end
end
section
open Go Go.Pt List
open Go.IntKind (wrap)
open Classical
attribute [local irreducible] ld dK ij nM jv fg st new idx jw jL fD jO jl mF gF nn call ed inv run eW i9 join loop held ext kH eS nf mY ng IntKind.wrap
end
section
open Go Go.Pt List
open Go.IntKind (wrap)
variable {db:Option Addr} {w:World}
def Ao{cl:List Cell}{b off:Nat}{cs:Array Value}{T:TypeId}{h:Nat×Nat}{K:HL cl->Prop}(u:w.heap[b]?=some (.cells cs T h))(x:HL cl)(C:(cs.toList.drop off).take cl.length=HL.mk cl x)(k:K x):Pt.dK cl (dg b off) w K:=
 ⟨x,vH u _ off 0 (by rw[HL.j3];exact C),k⟩
attribute [local irreducible] ld dK ij nM jv fg st new idx jw jL fD jO jl mF gF nn call ed inv run eW i9 join loop held ext kH eS nf mY ng IntKind.wrap
def nE.tU{w':World}{X:List Nat}{pb:Nat}{M:dY}{fb defb mb:Nat}{sl sn:Sl}{F1 F2:List Nat}{C:List (Int×kY)}{Q2:List Int}(h:nE w X pb db M fb defb mb sl sn F1 F2 C)(E:Q2.length=24)(G:w'.heap[pb]?=some (.cells (fL db M.j9 sl sn M.x6 M.Q3 fb defb mb Q2) rB (0,0)))(f:Fr [pb] w w'):nE w' X pb db { M with Q2:=Q2 } fb defb mb sl sn F1 F2 C where
 cell:=G
 Q1:=h.Q1.q8 f fun b u=>by simpa using (h.sep.2.1 b u).1
 J7:=h.J7.q8 f fun b u=>by simpa using (h.sep.2.2 b u).1
 map:=h.map.q8 f (by simpa using fun e=>h.sep.1 e.symm)
 J8:=h.J8
 rows:=h.rows.q8 (f.mono fun i I _=>by rw[zE.1 I];simp) fun b u=>.inl u
 og:=fun b u=>yD (h.og b u) f.size
 mo:=h.mo
 sep:=h.sep
 Q8:=h.Q8
 x7:=E
def qvB{j9:nC}{sl sn:Sl}{x6:Int}{Q3:Bool}{fb defb mb:Nat}{Q2:List Int}(I:j9.2.length=27)(U:Q2.length=24){t:Nat}(V:t<8){h C E:Int}: dR (fL db j9 sl sn x6 Q3 fb defb mb Q2) (36+3*t) [.u h,.u C,.u E]=fL db j9 sl sn x6 Q3 fb defb mb (Q2.take (3*t)++[h,C,E]++Q2.drop (3*t+3)):=by
 have G:Q2=Q2.take (3*t)++(Q2.drop (3*t)).take 3++Q2.drop (3*t+3):=by rw[zV,<- xD,xE,xE]
 have:=sL (A:=(.pointer db::eT j9.1 j9.2)++mN sl sn x6 Q3 fb defb mb++(Q2.take (3*t)).map (Value.int .u32)) (X:=((Q2.drop (3*t)).take 3).map (Value.int .u32)) (Y:=[.u h,.u C,.u E]) (Z:=(Q2.drop (3*t+3)).map (Value.int .u32)) (by rw[zK,yL,yC];show min 3 _=3;omega)
 have J:((.pointer db::eT j9.1 j9.2)++mN sl sn x6 Q3 fb defb mb++(Q2.take (3*t)).map (Value.int .u32)).length=36+3*t:=(by rw[zF,zF,se I,zK,yL];show 29+7+_=_;omega);rw[J] at this;unfold fL;have R:Q2.map (Value.int .u32)=(Q2.take (3*t)).map (Value.int .u32)++((Q2.drop (3*t)).take 3).map (Value.int .u32)++(Q2.drop (3*t+3)).map (Value.int .u32):=(by rw[<- xN,<- xN,<- G]);rw[R];simp only[xN,xO,map_nil];simp only[zV] at this⊢;exact this
section
variable {w:World} {X:List Nat} {pb:Nat} {db:Option Addr} {F:List Nat} {M:dY}
def qs7{t E G I:Int}{K:Int->WP}(h:eG w X pb db F M)(hk:∀w',eG w' X pb db F (eV M t E G I).2->Fr F w w'->K (eV M t E G I).1 w'): cW 131 [dF pb,.i t,.agg #[.u E,.u G,.u I]] di w K:=by
 have h0:=h;obtain⟨fb,defb,mb,sl,sn,F1,F2,fs,rfl,R⟩:=h;refine qhw ?_;have J:∀ {e:Int} {w':World},eV M t E G I=(e,M)->Fr [] w w'->K e w':=by
  intro e w' he hf
  have:=hk w' (by rw[he];exact h0.q7 hf) (hf.mono (fun b U=>by cases U))
  rw[he] at this;exact this
 refine oB (oE [] w) fun r w1 e1 f1 ho=>?_;have V:=R.q7 f1;refine fv (iA V.cell M.Q3 (yh R.Q8) ?_);refine dW (fun C=>J (by rw[eV,if_pos C]) f1) (fun C=>?_);have aa:¬M.Q3=true:=(by rw[C];decide);refine gW (fun b w'=>b=decide (t<0\/t>7)/\w'=w1) ?_ ?_;refine dW (fun C=>⟨by rw[yA (Or.inl (zC C))],rfl⟩) (fun C=>?_)
 have:=zB C
 refine⟨decide_eq_decide.2 ⟨fun h=>.inr oJ,fun h=>oJ⟩,rfl⟩;rintro b w2 ⟨rfl,rfl⟩;refine dW (fun C=>J (by rw[eV,if_neg aa,if_pos (zC C)]) f1) (fun C=>?_);have hr:=zB C;obtain⟨n,rfl⟩:∃n:Nat,t=n:=⟨t.toNat,oJ⟩;have ae:n<8:=oJ;have ab:eV M n E G I=(0,{ M with Q2:=M.Q2.take (3*n)++[E,G,I]++M.Q2.drop (3*n+3) }):=(by rw[eV,if_neg aa,if_neg hr,zJ]);have af:=ho.drew;have ac:=V.q7 (Fr.refl [] w2).drew;refine oC af 0 rfl (E,G,I) rfl<|fv<|mP oJ ?_;simp only[Addr.q9,zJ];refine qP ac.cell (fL db M.j9 sl sn M.x6 M.Q3 fb defb mb (M.Q2.take (3*n)++[E,G,I]++M.Q2.drop (3*n+3))) (by show dR _ (0+33+3+n*3) _=_;rw[show 0+33+3+n*3=36+3*n by omega];exact qvB R.Q8 R.x7 ae) rfl (by rw[qup R.Q8,R.x7];exact zL (show 0+33+3+n*3+3<=60 by omega) (zM 60)) fun w3 ag f3=>?_;have hl:(M.Q2.take (3*n)++[E,G,I]++M.Q2.drop (3*n+3)).length=24:=by
  have:=R.x7
  simp only[zF,yL,yC,yI,xK];omega
 have:=hk w3 (by rw[ab];exact⟨fb,defb,mb,sl,sn,F1,F2,fs,rfl,ac.tU hl ag f3⟩) ((f1.drew.mono fun b U=>nomatch U).trans (f3.mono fun b U _=>by rw[zE.1 U];simp))
 rw[ab] at this;exact this
def dU (M:dY) (t:Int):Int×Int×Int:=if t<0\/t>7 then (0,0,0) else (M.Q2.getD (3*t.toNat) 0,M.Q2.getD (3*t.toNat+1) 0,M.Q2.getD (3*t.toNat+2) 0)
def qxW{t:Int}{K:Int×Int×Int->WP}(h:eG w X pb db F M)(U:∀w',Fr [] w w'->K (dU M t) w'): cW 46 [dF pb,.i t] [.agg [.u,.u,.u]] w K:=by
 obtain⟨fb,defb,mb,sl,sn,F1,F2,fs,rfl,I⟩:=h;refine qjU<|oB (oE [] w) fun r w1 e1 f1 V=>?_;have J:=I.q7 f1;refine gW (fun b w'=>b=decide (t<0\/t>7)/\w'=w1) ?_ ?_;refine dW (fun E=>⟨by rw[yA (Or.inl (zC E))],rfl⟩) (fun E=>?_)
 have:=zB E
 refine⟨decide_eq_decide.2 ⟨fun h=>.inr oJ,fun h=>oJ⟩,rfl⟩;rintro b w2 ⟨rfl,rfl⟩;apply cD<;>intro E;refine oD V 0 rfl #[.u 0,.u 0,.u 0] fun R C f3=>oC C 0 rfl (0,0,0) rfl ?_
 have:=U R C.fr
 rw[dU,if_pos (E)] at this;exact this;have hr:=E;obtain⟨n,rfl⟩:∃n:Nat,t=n:=⟨t.toNat,oJ⟩;have ad:n<8:=oJ;have ae:=I.x7;refine fv<|mP oJ ?_;simp only[Addr.q9,zJ];have e3:((M.Q2.map (Value.int .u32)).drop (3*n)).take 3=[.u (M.Q2.getD (3*n) 0),.u (M.Q2.getD (3*n+1) 0),.u (M.Q2.getD (3*n+2) 0)]:=by rw[zY (by rw[zK];omega),zY (by rw[zK];omega),zY (by rw[zK];omega)];simp only[take_succ_cons,take_zero,getElem_map];rw[getElem_eq_getD 0,getElem_eq_getD 0,getElem_eq_getD 0]
 refine Ao J.cell (M.Q2.getD (3*n) 0,M.Q2.getD (3*n+1) 0,M.Q2.getD (3*n+2) 0) ?_ ?_;have hd:=CY (db:=db) (j9:=M.j9) (sl:=sl) (sn:=sn) (x6:=M.x6) (Q3:=M.Q3) (fb:=fb) (defb:=defb) (mb:=mb) (Q2:=M.Q2) I.Q8 I.x7;have G:(fL db M.j9 sl sn M.x6 M.Q3 fb defb mb M.Q2).toList.drop 36=M.Q2.map (Value.int .u32):=by
  rw[<- hd,zS]
  have:=qup (db:=db) (j9:=M.j9) (sl:=sl) (sn:=sn) (x6:=M.x6) (Q3:=M.Q3) (fb:=fb) (defb:=defb) (mb:=mb) (Q2:=M.Q2) I.Q8
  rw[yC,Array.length_toList];omega
 rw[show 0+33+3+n*3=36+3*n by omega,<- xD,G];exact e3;refine oD V 0 rfl #[.u (M.Q2.getD (3*n) 0),.u (M.Q2.getD (3*n+1) 0),.u (M.Q2.getD (3*n+2) 0)] fun R C f3=>oC C 0 rfl (M.Q2.getD (3*n) 0,M.Q2.getD (3*n+1) 0,M.Q2.getD (3*n+2) 0) rfl ?_
 have:=U R C.fr
 rw[dU,if_neg hr,zJ] at this;exact this
end
def qwb{dbk pb:Nat}{X FD F:List Nat}{D:dI}{M:dY}{k:Nat}{n:Int}{K:Int×Sl×Int->WP}(ac:eO w dbk FD D)(V:lF D k)(aa:eG w X pb (pc dbk M) F M)(hv:Hv w)(hn:gC n)(hl:M.Q5.length<=1000000)(hb:∀e∈M.J8,e.2.2.length<=100000)(hk:∀s w',(∀G:List Nat,(∀b∈G,b<w.heap.size)->eh G w' s (dH D M n).2.1)->Fr [] w w'->K ((dH D M n).1,s,(dH D M n).2.2) w'): cW 117 [dF pb,.u n] dp w K:=by
 have ad:=aa;obtain⟨fb,defb,mb,sl,sn,F1,F2,fs,rfl,hx⟩:=aa;refine qjS ?_;have ae:∀ {a:Int} {e:Int} {w':World},dH D M n=(a,[],e)->Fr [] w w'->K (a,dG,e) w':=fun he f=>by
  have:=hk dG _ (fun G hG=>by rw[he];exact .nil _ _ _ _) f
  rw[he] at this;exact this
 refine fv (iA hx.cell M.Q3 (yh hx.Q8) ?_);refine dW (fun I=>ae (by rw[dH,if_pos I]) (.refl _ _)) (fun I=>?_);have J:¬M.Q3=true:=(by rw[I];decide);have ap:pc dbk M=pW dbk:=if_neg J;refine fv ?_;simp only[Addr.q9];refine iA hx.cell (some mb) (sO hx.Q8) ?_;have h:look n M.J8=(look n fs).map fun q=>(q.1,q.2.1,q.2.2.2):=(by rw[hx.J8];exact vp (fun e:kY=>(e.1,e.2.2)) n fs);refine Df hx.map.at (fun q hq=>?_) (fun hq=>?_);rw[hq] at h;have h:look n M.J8=some (q.1,q.2.1,q.2.2.2):=h;refine oB (oE [] w) fun r w1 e1 f1 ho=>oD ho 0 rfl #[.b q.2.1,q.2.2.1.v] fun w2 U f2=>?_;have R:=U.drew;refine cond_true rfl<|oA R 0 rfl q.2.1 rfl<|oA R 0 rfl q.2.2.1 rfl ?_;have ar:=(sS hq).2;have au:=hx.rows.y7 _ ar;have ah:=(sS h).2;refine Ag (au.q7 R.fr) (zL (hb _ ah) oM) fun s2 B2 w3 b2 f3 n2 _ _=>?_;have ai:=R.q7 f3;refine ig (ai.cell 0 rfl rfl) ?_;have C:dH D M n=(q.2.1,q.2.2.2,0):=by rw[dH,if_neg J,h]
 have:=hk s2 w3 (fun G hG=>by rw[C];exact eQ.jo kW b2 fun b hb hm=>by have:=n2 b hb;have:=hG b hm;have:=R.fr.size;omega) ai.fr
 rw[C] at this;exact this;rw[hq] at h;have h:look n M.J8=none:=h;refine oB (oE [] w) fun r w1 e1 f1 ho=>oD ho 0 rfl #[.b 0,.slice none 0 0] fun w2 U f2=>cond_false rfl<|qrr (ad.q7 U.fr) hl fun w3 f3=>?_;have E:=U.fr.trans f3;have aj:=hx.q7 E;apply dW<;>intro I;have hu:gc M n=false:=(oP I);exact ae (by rw[dH,if_neg J,h];exact if_pos hu) E;have hu:¬gc M n=false:=(oP I);rw[ap] at aj;refine fv (iA aj.cell (pW dbk) Cv ?_);rw[gg n (by have:=hn.1;have:=hn.2;omega)];refine CM (ac.q7 E) V.ok fun s5 B5 w5 b5 f5 n5=>?_;apply dW<;>intro I;have he:(eB D n).2≠0:=(oP I);exact ae (by rw[dH,if_neg J,h];exact (if_neg hu).trans (if_pos he)) (E.trans f5);have he:¬(eB D n).2≠0:=(oP I);have ax:=vj V.ok n;refine EB (b5.jo kW (S:=[]) oL) (hv.q7 (E.trans f5)) ax.1 oJ fun s6 B6 w6 b6 f6 n6=>?_;have C:dH D M n=eU n (eB D n).1:=by rw[dH,if_neg J,h];exact (if_neg hu).trans (if_neg he)
 have:=hk s6 w6 (fun G hG=>by rw[C];exact eQ.jo kW b6 fun b hb hm=>by have:=n6 b hb;have:=hG b hm;have:=(E.trans f5).size;omega) ((E.trans f5).trans f6)
 rw[C] at this;exact this
end
section
open Go Go.Pt List
open Go.IntKind (wrap)
def lF.new{n:Nat}(h:n<=4096):lF (mM n) 0:=⟨qz0 h,by simp[mM],by simp[mM]⟩
def re (n:Nat):List Int:=(fu n).take (eI (fu n).length)
def m8 (n:Nat):List Int:=(fu n).drop (eI (fu n).length)
def jW (n:Nat):dY:=ie (kB n) (re n) (m8 n) 1 false (m8 n)
def qzX{n:Nat}(h:8<=n)(u:n<=4096):(jW n).Wf:=by have e:(kB n).2.getD 0 0=n:=(by show wrap .u32 (n:Int)=_;exact lN _ oJ);exact E3 (by rw[e];exact qnP) (by rw[e];omega) (E5 h u).u32
structure Made (D:dI) (n:Nat):Prop where
 quiet:eN D
 size:D.size=n
 Q7:D.Q7=[]
 opens:oU D (kB n) (re n) (m8 n)
 fmt:ls (mM n)=(D,0)
 zero:view D 0=zs 512
end
section
open Go Go.Pt List
open Go.IntKind (wrap)
open Classical
variable {P:List Int} {t:Int}
def kG (t:Int) (s:(Int×Int)×dY) (u h:Int):Int×dY:=if s.1.2≠0 then (s.1.2,s.2) else eV s.2 t s.1.1 u h
noncomputable def rI (k v:Nat) (t:Int) (r:Int×Int×Int) (x:(Grown×Int)×dY):Int×dY:=
 if x.1.2≠0 then (x.1.2,x.2)
 else if x.1.1.x4≠0 then kG t (dO k v x.2 0 ⟨false,[x.1.1.key],[],[x.1.1.x5,x.1.1.x4]⟩) (if x.1.1.J8 then wrap .u32 (r.2.1+1) else r.2.1) (wrap .u32 (r.2.2+1))
 else eV x.2 t x.1.1.x5 (if x.1.1.J8 then wrap .u32 (r.2.1+1) else r.2.1) r.2.2
noncomputable def ju (D:dI) (k v:Nat) (t:Int) (key val:Key) (f:Nat) (M:dY):Int×dY:=
 if (dU M t).1=0 then kG t (dO k v M 0 (ef [(key,val)])) 1 1 else rI k v t (dU M t) (gT D k v key val f M (dU M t).1)
noncomputable def mg (k v:Nat) (t:Int) (r:Int×Int×Int) (x:(dL×Int)×dY):Int×dY:=
 if x.1.2≠0 then (x.1.2,x.2)
 else if x.1.1.Q4=true/\x.1.1.J6.length=0 then (if (fk x.2 r.1).1≠0 then ((fk x.2 r.1).1,(fk x.2 r.1).2) else eV (fk x.2 r.1).2 t 0 0 0)
 else if x.1.1.Q4=false/\x.1.1.J9.length=1 then (if (fk x.2 r.1).1≠0 then ((fk x.2 r.1).1,(fk x.2 r.1).2) else eV (fk x.2 r.1).2 t (x.1.1.J9.getD 0 0) (wrap .u32 (r.2.1-1)) (wrap .u32 (r.2.2-1)))
 else kG t (dO k v x.2 r.1 x.1.1) (wrap .u32 (r.2.1-1)) r.2.2
noncomputable def kR (D:dI) (k v:Nat) (t:Int) (key:Key) (f:Nat) (M:dY):Int×dY:=mg k v t (dU M t) (gX D k v key f M (dU M t).1)
def fP (D:dI) (M:dY) (k v:Nat) (t:Int) (L:fN) (P:List Int):Prop:=
 (dU M t=(0,0,0)/\L=[]/\P=[])\/∃h n p,p≠0/\dU M t=(p,(L.length:Int),((h+1:Nat):Int))/\Has D M k v h ⟨p,n,L,P⟩
structure mX (D:dI) (M M':dY) (t:Int) (P P':List Int):Prop where
 step:Step D M { M' with Q2:=M.Q2 } P P'
 wf:M'.Wf
 len:M'.Q2.length=24
 others:∀ t':Int,t'≠t->dU M' t'=dU M t'
section
variable {D:dI} {M M':dY} {k v:Nat}
def qyR{a b c:Int}(U:0<=t/\t<8)(G:M.Q3=false)(V:M.Q2.length=24):∃R,eV M t a b c=(0,{ M with Q2:=R })/\R.length=24/\dU { M with Q2:=R } t=(a,b,c)/\(∀C:Int,C≠t->dU { M with Q2:=R } C=dU M C)/\∀x∈R,x∈M.Q2\/x=a\/x=b\/x=c:=by
 obtain⟨n,rfl⟩:∃n:Nat,t=n:=⟨t.toNat,oJ⟩;have hn:n<8:=oJ;have e:eV M n a b c=(0,{ M with Q2:=M.Q2.take (3*n)++[a,b,c]++M.Q2.drop (3*n+3) }):=by rw[eV,if_neg (by rw[G];decide),iN,zJ]
 have I:(M.Q2.take (3*n)).length=3*n:=(by rw[yL];omega);have h:∀i,(M.Q2.take (3*n)++[a,b,c]++M.Q2.drop (3*n+3)).getD i 0=if i=3*n then a else if i=3*n+1 then b else if i=3*n+2 then c else M.Q2.getD i 0:=fun i=>by rw[zV,yR];by_cases h1:i<3*n;rw[yZ oJ,xB,if_pos h1,iN,iN,iN,yR];rw[yY oJ,I];by_cases h2:i=3*n;rw[if_pos h2,h2,Nat.sub_self];rfl;rw[if_neg h2];by_cases h3:i=3*n+1;rw[if_pos h3,h3,show 3*n+1-3*n=1 by omega];rfl;rw[if_neg h3];by_cases h4:i=3*n+2;rw[if_pos h4,h4,show 3*n+2-3*n=2 by omega];rfl;rw[if_neg h4,yY oO,xA,yR];congr 2;simp;omega
 refine⟨_,e,?_,?_,fun C E=>?_,fun x u=>?_⟩;simp only[zF,yL,yC,yI,xK];omega;rw[dU,iN,zJ];dsimp only;rw[h,h,h,if_pos rfl,iN,if_pos rfl,iN,iN,if_pos rfl];unfold dU;by_cases hr':C<0\/C>7;rw[if_pos hr',if_pos hr'];rw[if_neg hr',if_neg hr'];dsimp only;have J:C.toNat≠n:=fun e=>E oJ;rw[h,h,h,iN,iN,iN,iN,iN,iN,iN,iN,iN];rcases zD.1 u with u|u;rcases zD.1 u with u|u;exact .inl (yV u);simp only[zG,xX,or_false] at u;exact .inr u;exact .inl (yU u)
def qs0{R:List Int}(h:M.Wf)(u:∀x∈R,gC x):({ M with Q2:=R }:dY).Wf:=⟨h.n4,h.u32,u,h.cL,h.Q9,h.cS,h.qu,h.nodup,h.range,h.body⟩
def Has.Q2{h:Nat}{s:gY}{R:List Int}(u:Has D M k v h s):Has D { M with Q2:=R } k v h s:=u.q8 fun x _=>rfl
def Step.J5{P':List Int}{a b c:Int}(E:0<=t/\t<8)(G:M.Q2.length=24)(h:Step D M M' P P')(I:gC a)(J:gC b)(U:gC c): ∃R,eV M' t a b c=(0,{ M' with Q2:=R })/\mX D M { M' with Q2:=R } t P P'/\dU { M' with Q2:=R } t=(a,b,c):=by obtain⟨R,e,V,h1,h2,h3⟩:=qyR (a:=a) (b:=b) (c:=c) E h.Q3 (by rw[h.Q2];exact G);refine⟨R,e,⟨?_,qs0 h.wf fun x hx=>?_,V,fun t' C=>?_⟩,h1⟩;have e':({ M' with Q2:=M.Q2 }:dY)=M':=(by rw[<- h.Q2]);show Step D M { M' with Q2:=M.Q2 } P P';rw[e'];exact h;rcases h3 x hx with u|u|u|u;exact h.wf.Q2 x u;rw[u];exact I;rw[u];exact J;rw[u];exact U;rw[h2 t' C];unfold dU;rw[h.Q2]
def Has.counts:∀ {h:Nat} {s:gY},Has D M k v h s->h+1<=s.y3.length/\s.y4.length+1<=2*s.y3.length
 | 0,s,C=>by have I:=length_pos_iff.2 C.ne;rw[C.1];simp;omega
 | h+1,s,⟨E,h0,I,J,R,U,h5,h6,V⟩=>by
  have h8:=U.right.x9.1;rw[J,R];have key:∀l:List gH,(∀e∈l,Has D M k v h e.2)->l.length*(h+1)<=(l.flatMap (·.2.y3)).length/\(l.flatMap (·.2.y4)).length+l.length<=2*(l.flatMap (·.2.y3)).length:=by
   intro l;induction l with
   | nil=>intro _;exact⟨oL,oL⟩
   | cons a l ih=>
    intro G;have i:=ih fun e u=>G e (zN _ u);have j:=(G a oL).counts;rw[yH,yH,zF,zF,yI,xU];omega
  have:=key E fun e u=>(V e u).1
  have h9:2*(h+1)<=E.length*(h+1):=Nat.mul_le_mul_right _ h8;rw[yI];omega
def qwV(hc:gU k v){key val:Key}{L:fN}(ht:0<=t/\t<8)(hk:key.length=k/\eF key)(hv:val.length=v/\eF val)(hT:fP D M k v t L P)(hW:M.Wf)(ho:M.Q3=false)(hr:M.Q2.length=24)(hn:P.Nodup)(hL:L.length<=1000000)(hf:2*(dU M t).2.2.toNat+1<=M.Q1.length): ∃M' P',ju D k v t key val (dU M t).2.2.toNat M=(0,M')/\fP D M' k v t (fH key val L) P'/\mX D M M' t P P'/\M.Q1.length<=M'.Q1.length+(2*(dU M t).2.2.toNat+1):=by
 have a0:=AS (k:=k) (v:=v);rcases hT with ⟨e0,rfl,rfl⟩|⟨h,n,p,aL,er,hs⟩;unfold ju;rw[e0,if_pos rfl];have aM:lX k v [(key,val)]:=fun x hx=>by rw[zE.1 hx];exact⟨hk.1,hv.1,hk.2,hv.2⟩
 have hN:=A4 (k:=k) (v:=v) aM (pairwise_singleton _ _) oL (by have:=hc.Q4;simp;omega);obtain⟨q,M1,e1,st,ag,hl,ah⟩:=GM (D:=D) hW ho hN (fun e=>by rw[e] at hf;simp at hf);have hu:=st.has q oL;have hq:=t8 st.wf hu;obtain⟨R,e2,rs,C⟩:=st.J5 (a:=q) (b:=1) (c:=1) ht hr ⟨oJ,hq.2⟩ ⟨oM,oM⟩ ⟨oM,oM⟩;refine⟨{ M1 with Q2:=R },[q],?_,.inr ⟨0,1,q,ah,C,?_⟩,rs,by show M.Q1.length<=M1.Q1.length+_;omega⟩;unfold kG;rw[e1];dsimp only;rw[if_neg (fun h=>h rfl),e2]
 have:=AG hN ag
 exact this.Q2;rw[er] at hf;have ap:(((h+1:Nat):Int)).toNat=h+1:=zJ _;dsimp only at hf;rw[ap] at hf;have aq:=hs.counts;dsimp only at aq;obtain⟨g,M1,eg,ok⟩:=quv hc hk hv h M ⟨p,n,L,P⟩ hs hW ho hn (by
  have h9:=hs.load;obtain⟨N,R,_,hN,_⟩:=h9;show n<=1000;cases h with
  | zero=>have:=hN.2.2.2.2.2;dsimp only at this;omega
  | succ h=>obtain⟨_,_,_,_,_,_,_,_,h8,_⟩:=hN;dsimp only at h8;omega) oJ
 have ar:=ok.Q1;have E:=ok.J8;dsimp only at eg E;have u:((fH key val L).length:Int)=if g.J8 then wrap .u32 ((L.length:Int)+1) else (L.length:Int):=by rw[E];by_cases hm:key∈dP L;rw[zU (fun h=>h hm),if_neg oM,DF hs.sort hm];rw[yA hm,if_pos rfl,Dl hm,lN _ oJ];omega
 have au:gC (if g.J8 then wrap .u32 ((L.length:Int)+1) else (L.length:Int)):=by
  rw[<- u];have h1:(fH key val L).length<=L.length+1:=by by_cases hm:key∈dP L;rw[DF (show e9 L from hs.sort) hm];omega;rw[Dl hm];exact zM _
  exact⟨oJ,oJ⟩
 unfold ju;rw[er,if_neg (show ¬p=0 from aL)];dsimp only;rw[ap,eg];unfold rI;dsimp only;rw[if_neg (fun h=>h rfl)];rcases ok.CF with ⟨aj,n',P',hH,st,_⟩|⟨aj,n1,V,I,n2,J,G,aa,ab,av,aR,aT,aw,ax,aU,aV,st⟩;rw[if_neg (fun h=>h aj)];have hu:=hH.J4 st.Q3 g.x5 hH.mem;have hq:=t8 st.wf hu;obtain⟨R,e2,rs,C⟩:=st.J5 (a:=g.x5) (b:=if g.J8 then wrap .u32 ((L.length:Int)+1) else (L.length:Int)) (c:=((h+1:Nat):Int)) ht hr ⟨oJ,hq.2⟩ au ⟨oJ,oJ⟩;rw[<- u] at C e2;refine⟨{ M1 with Q2:=R },P',?_,.inr ⟨h,n',g.x5,oJ,C,hH.Q2⟩,rs,by show M.Q1.length<=M1.Q1.length+_;omega⟩;rw[<- u];exact e2;rw[if_pos aj];have a6:=t8 st.wf (aa.J4 st.Q3 g.x5 aa.mem);have a7:=t8 st.wf (ab.J4 st.Q3 g.x4 ab.mem);have ay:V≠[]:=aa.ne;have az:J≠[]:=ab.ne;have af:fK [([],(⟨g.x5,n1,V,I⟩:gY)),(g.key,⟨g.x4,n2,J,G⟩)]:=
  (fK.wJ (A:=[]) (B:=[]) (lo:=[]) (s:=⟨0,0,V++J,[]⟩) (s1:=⟨g.x5,n1,V,I⟩) (s2:=⟨g.x4,n2,J,G⟩) (m:=g.key) (EU fun x _=>Bw _) rfl aR aT ay az)
 have hp:∀e∈[([],(⟨g.x5,n1,V,I⟩:gY)),(g.key,⟨g.x4,n2,J,G⟩)],Has D M1 k v h e.2/\minOf k v h<=e.2.size:=fun e U=>by simp only[zG,xX,or_false] at U;rcases U with rfl|rfl;exact⟨aa,aU⟩;exact⟨ab,aV⟩
 have aW:gr k [([],(⟨g.x5,n1,V,I⟩:gY)),(g.key,⟨g.x4,n2,J,G⟩)]:=fun e U=>by rw[zE.1 (show e∈[(g.key,(⟨g.x4,n2,J,G⟩:gY))] from U)];exact⟨aw,ax⟩
 have hN:=xj st.wf st.Q3 aW af oL (by have:=hc.inner;simp;omega) fun e U=>(hp e U).1;obtain⟨q,M2,e1,ac,ag,a8,ah⟩:=GM (D:=D) st.wf st.Q3 hN (fun e=>by rw[e] at ar;simp at ar;omega);have aB:∀e∈[([],(⟨g.x5,n1,V,I⟩:gY)),(g.key,⟨g.x4,n2,J,G⟩)],Has D M2 k v h e.2/\minOf k v h<=e.2.size:=fun e U=>
  ⟨(hp e U).1.q8 fun x hx=>(ac.rest x ((hp e U).1.J4 st.Q3 x hx) oL).1,(hp e U).2⟩
 have hI:=yy (h:=h) rfl hN ag af aB;have aC:Step D M1 M2 (I++G) (q::(I++G)):=by
  have:=ac.beside (Z:=I++G) st.has (oP st.nodup)
  exact this.perm oL perm_append_comm
 have aD:=st.trans aC;have hq:=t8 ac.wf (ac.has q oL);obtain⟨R,e2,rs,C⟩:=aD.J5 (a:=q) (b:=if g.J8 then wrap .u32 ((L.length:Int)+1) else (L.length:Int)) (c:=((h+1+1:Nat):Int)) ht hr ⟨oJ,hq.2⟩ au ⟨oJ,oJ⟩;have e3:dO k v M1 0 ⟨false,[g.key],[],[g.x5,g.x4]⟩=((q,0),M2):=e1;have aX:wrap .u32 ((((h+1:Nat):Int))+1)=((h+1+1:Nat):Int):=(by rw[lN _ oJ];omega);rw[<- u] at C e2;refine⟨{ M2 with Q2:=R },q::(I++G),?_,.inr ⟨h+1,2,q,ah,C,?_⟩,rs,by show M.Q1.length<=M2.Q1.length+_;omega⟩;unfold kG;rw[e3,aX,<- u];dsimp only;rw[if_neg (fun h=>h rfl),e2];have h9:=hI.Q2 (R:=R);have e5:[([],(⟨g.x5,n1,V,I⟩:gY)),(g.key,⟨g.x4,n2,J,G⟩)].flatMap (·.2.y3)=fH key val L:=(by rw[<- av];simp);have e6:[([],(⟨g.x5,n1,V,I⟩:gY)),(g.key,⟨g.x4,n2,J,G⟩)].flatMap (·.2.y4)=I++G:=oL;rw[e5,e6] at h9;exact h9
def qxu(hc:gU k v){key:Key}{L:fN}(ht:0<=t/\t<8)(hT:fP D M k v t L P)(I:key∈dP L)(hW:M.Wf)(ho:M.Q3=false)(hr:M.Q2.length=24)(hn:P.Nodup)(hL:L.length<=1000000)(hf:2*(dU M t).2.2.toNat+1<=M.Q1.length): ∃M' P',kR D k v t key (dU M t).2.2.toNat M=(0,M')/\fP D M' k v t (gi key L) P'/\mX D M M' t P P'/\M.Q1.length<=M'.Q1.length+(2*(dU M t).2.2.toNat+1):=by
 rcases hT with ⟨e0,rfl,rfl⟩|⟨h,n,p,a1,er,hs⟩;cases I;rw[er] at hf;have aq:(((h+1:Nat):Int)).toNat=h+1:=zJ _;dsimp only at hf;rw[aq] at hf;have ar:=hs.counts;dsimp only at ar;obtain⟨N,m,M1,R,R',ec,hP,hN,st,aH,a2⟩:=Gc hc h M ⟨p,n,L,P⟩ hs hW ho hn I oJ;dsimp only at ec hP;subst hP;have G:=hs.sort;dsimp only at G;have aV:(gi key L).length+1=L.length:=by
  have hm:=(vZ G).2 I;have hi:dN (dP L) key<L.length:=by
   have:=(zP.1 hm).1
   simpa using this
  rw[qnG G I,zF,yL,yC];omega
 have aI:wrap .u32 ((L.length:Int)-1)=((gi key L).length:Int):=(by rw[lN _ oJ];omega);have aj:gC ((gi key L).length:Int):=⟨oJ,oJ⟩;have ak:dT M p:=hs.J4 ho p oL;have au:p∉R:=(nodup_cons.1 hn).1;have J:=(st.rest p ak au).2.1;have U:=(st.rest p ak au).2.2;have al:Step D M M1 (p::R) (p::R'):=st.beside (Z:=[p]) (fun x hx=>by rw[zE.1 hx];exact ak) (oP hn);unfold kR;rw[er];dsimp only;rw[aq,ec];unfold mg;dsimp only;rw[if_neg (fun h=>h rfl),aI];have ag:∀ {a b c:Int},gC a->gC b->gC c->∃u V,fk M1 p=(0,u)/\eV u t a b c=(0,{ u with Q2:=V })/\mX D M { u with Q2:=V } t (p::R) R'/\dU { u with Q2:=V } t=(a,b,c)/\M1.Q1.length<=u.Q1.length/\∀x∈R',dH D u x=dH D M1 x:=fun ha hb aJ=>by
  obtain⟨u,e2,C,aa⟩:=qpW (D:=D) st.wf st.Q3 J;have h9:=C.beside (Z:=R') (fun x hx=>st.has x hx) (by
   have:=al.nodup
   exact (perm_append_singleton p R').nodup_iff.2 this)
  rw[xH] at h9;have h8:=(al.perm (.refl _) (perm_append_singleton p R').symm).trans h9;obtain⟨V,e3,rs,E⟩:=h8.J5 (t:=t) ht hr ha hb aJ;exact⟨u,V,e2,e3,rs,E,aa,fun x hx=>(C.rest x (st.has x hx) (fun hm=>U (by rw[<- zE.1 hm];exact hx))).1⟩
 cases h with
 | zero=>
  have am:=hN;have aK:R=[]:=(vC (show p::R=[p] from hs.1)).2;subst aK;obtain⟨rfl,hm,rfl,a6,aL,av⟩:=hN;dsimp only at hm;have ab:(ef (gi key L)).J6.length=(gi key L).length:=zK _;by_cases hz:(gi key L).length=0;rw[if_pos ⟨rfl,by rw[ab];exact hz⟩];have aw:gi key L=[]:=eq_nil_of_length_eq_zero hz;obtain⟨u,V,e2,e3,rs,E,aa,_⟩:=ag (a:=0) (b:=0) (c:=0) ⟨oM,oM⟩ ⟨oM,oM⟩ ⟨oM,oM⟩;rw[e2];dsimp only;rw[if_neg (fun h=>h rfl),e3];exact⟨_,[],rfl,.inl ⟨E,aw,rfl⟩,rs,by show M.Q1.length<=u.Q1.length+_;omega⟩;rw[if_neg (fun h=>hz (by rw[<- ab];exact h.2)),if_neg (fun h=>nomatch h.1)];obtain⟨q,u,e2,C,H2,aa⟩:=am.store st.wf st.Q3 (show 1<=m by omega) J U oJ;have an:Step D M u [p] [q]:=al.trans C;have hq:=t8 C.wf (C.has q oL);obtain⟨V,e3,rs,E⟩:=an.J5 (a:=q) (b:=((gi key L).length:Int)) (c:=((0+1:Nat):Int)) ht hr ⟨oJ,hq.2⟩ aj ⟨oM,oM⟩;refine⟨{ u with Q2:=V },[q],?_,.inr ⟨0,m,q,oJ,E,H2.Q2⟩,rs,by show M.Q1.length<=u.Q1.length+_;omega⟩;unfold kG;rw[e2];dsimp only;rw[if_neg (fun h=>h rfl),e3]
 | succ h=>
  have am:=hN;obtain⟨es,hh,rfl,hm,aN,rfl,hk,aL,av,hp⟩:=hN;have ab:(dM es).J9.length=es.length:=(by show (es.map _).length=_;rw[zK]);have aX:2<=n:=by
   obtain⟨a8,_,g1,_,_,g4,_⟩:=hs
   have:=g4.right.x9
   dsimp only at g1;omega
  dsimp only at aH;rw[if_neg (fun h=>nomatch h.1)];by_cases h1:es.length=1;rw[if_pos ⟨rfl,by rw[ab];exact h1⟩];obtain⟨e,rfl⟩:∃e,es=[e]:=by
   match es,h1 with
   | [e],_=>exact⟨e,rfl⟩
  have ay:(dM [e]).J9.getD 0 0=e.2.x5:=rfl;rw[ay];have he:=(hp e oL).1;have hq:=t8 st.wf (he.J4 st.Q3 e.2.x5 he.mem);have aP:wrap .u32 ((((h+1+1:Nat):Int))-1)=((h+1:Nat):Int):=(by rw[lN _ oJ];omega);rw[aP];obtain⟨u,V,e2,e3,rs,E,aa,aQ⟩:=ag (a:=e.2.x5) (b:=((gi key L).length:Int)) (c:=((h+1:Nat):Int)) ⟨oJ,hq.2⟩ aj ⟨oJ,oJ⟩;rw[e2];dsimp only;rw[if_neg (fun h=>h rfl),e3];have az:gi key L=e.2.y3:=(by rw[aN];simp);have aA:[e].flatMap (·.2.y4)=e.2.y4:=oL;refine⟨_,_,rfl,.inr ⟨h,e.2.size,e.2.x5,oJ,E,?_⟩,rs,by show M.Q1.length<=u.Q1.length+_;omega⟩;rw[az,aA];exact (he.q8 fun x hx=>aQ x (by rw[aA];exact hx)).Q2;rw[if_neg (fun h=>h1 (by rw[<- ab];exact h.2))];have h2:2<=m:=oJ;obtain⟨q,u,e2,C,H2,aa⟩:=am.store st.wf st.Q3 (show 2<=m from h2) J U oJ;have an:Step D M u (p::R) ([q]++es.flatMap (·.2.y4)):=Step.kid (Q:=[q]) (hs.J4 ho) hn st C;have hq:=t8 C.wf (C.has q oL);obtain⟨V,e3,rs,E⟩:=an.J5 (a:=q) (b:=((gi key L).length:Int)) (c:=((h+1+1:Nat):Int)) ht hr ⟨oJ,hq.2⟩ aj ⟨oJ,oJ⟩;refine⟨{ u with Q2:=V },[q]++es.flatMap (·.2.y4),?_,.inr ⟨h+1,m,q,oJ,E,H2.Q2⟩,rs,by show M.Q1.length<=u.Q1.length+_;omega⟩;unfold kG;rw[e2];dsimp only;rw[if_neg (fun h=>h rfl),e3]
end
section
def qhg{D:dI}{M:dY}{k v:Nat}{L:fN}(C:fP D M k v t L P):(dU M t).2.2.toNat<=L.length/\P.length<=2*L.length/\(dU M t).2.1=L.length/\0<=(dU M t).2.2:=by
 rcases C with ⟨u,rfl,rfl⟩|⟨h,n,p,G,u,E⟩;rw[u];exact⟨zM _,zM _,rfl,Int.le_refl _⟩
 have:=E.counts
 dsimp only at this;rw[u];dsimp only;rw[zJ];omega
def fP.sort{D:dI}{M:dY}{k v:Nat}{t:Int}{L:fN}{P:List Int}(C:fP D M k v t L P):e9 L/\lX k v L:=by rcases C with ⟨_,rfl,_⟩|⟨h,n,p,G,I,u⟩;exact⟨.nil,fun x E=>nomatch E⟩;exact⟨u.sort,u.vM⟩
def qAd(h:Aq t):∃k v:Nat,rm t=((k:Int),(v:Int))/\gU k v/\1<=k/\k<=24/\1<=v/\v<=108:=by obtain⟨u,C⟩:=h;have:t=0\/t=1\/t=2\/t=3\/t=4\/t=5\/t=6\/t=7:=oJ;rcases this with rfl|rfl|rfl|rfl|rfl|rfl|rfl|rfl;exact⟨16,88,rfl,⟨oM,oM⟩,oM,oM,oM,oM⟩;exact⟨16,108,rfl,⟨oM,oM⟩,oM,oM,oM,oM⟩;exact⟨16,1,rfl,⟨oM,oM⟩,oM,oM,oM,oM⟩;exact⟨16,16,rfl,⟨oM,oM⟩,oM,oM,oM,oM⟩;exact⟨24,16,rfl,⟨oM,oM⟩,oM,oM,oM,oM⟩;exact⟨24,16,rfl,⟨oM,oM⟩,oM,oM,oM,oM⟩;exact⟨24,65,rfl,⟨oM,oM⟩,oM,oM,oM,oM⟩;exact⟨1,8,rfl,⟨oM,oM⟩,oM,oM,oM,oM⟩
structure wY (D:dI) (M:dY) (k v c:Nat) (t:Int) (L:fN) (P:List Int):Prop where
 J2:fP D M k v t L P
 wf:M.Wf
 Q3:M.Q3=false
 len:M.Q2.length=24
 nodup:P.Nodup
 Q9:M.z9
 many:M.Q9.length=c
 use:∀ x,dT M x->x∈P
section
variable {D:dI} {M M':dY} {k v c:Nat} {t:Int} {L L':fN} {P P':List Int}
end
def qqL{D:dI}{n k v:Nat}(ht:0<=t/\t<8)(h8:8<=n)(h4:n<=4096)(R:(jW n).Wf):wY D (jW n) k v ((n-2)-eI (n-2)) t [] []:=by
 have I:(jW n).Q2=zs 24:=rfl;have u:(zs 24).length=24:=(by simp[zs]);have E:∀i,(zs 24).getD i 0=0:=fun i=>by rw[yR];unfold zs;rw[List.getElem?_replicate];split<;>rfl
 refine⟨.inl ⟨?_,rfl,rfl⟩,R,rfl,by rw[I];exact u,.nil,qlX _ _ _ _ _,?_,fun x C=>?_⟩;unfold dU;split;rfl;rw[I,E,E,E];show (m8 n).length=_;unfold m8;rw[yC,Ak];rcases C with C|C;cases C;obtain⟨U,J,V,G,h5,_⟩:=rE.1 C;have e:(jW n).j9.2.getD 0 0=n:=(by show wrap .u32 (n:Int)=_;exact lN _ oJ);rw[e] at J;have h:=Ab.2 ⟨U,J⟩;rw[<- xE (eI (fu n).length) (fu n)] at h;rcases zD.1 h with h|h;exact absurd h V;exact absurd h G
end
section
section
variable {D:dI} {M M':dY} {k v c:Nat} {t:Int} {L L':fN} {P P':List Int}
def Has.qJ(J:4<=(dV k v).1):∀ {h:Nat} {s:gY},Has D M k v h s->minOf k v h<=s.size->s.y4.length+1<=s.y3.length
 | 0,s,E,G=>by have I:(dV k v).1 / 2<=s.size:=G;rw[E.2.1] at I;rw[E.1,xM];omega
 | h+1,s,⟨R,h0,I,U,V,u,h5,h6,h7⟩,G=>by
  have h8:=u.right.x9.1;rw[U,V];have key:∀l:List gH,(∀e∈l,Has D M k v h e.2/\minOf k v h<=e.2.size)->(l.flatMap (·.2.y4)).length+l.length<=(l.flatMap (·.2.y3)).length:=by
   intro l;induction l with
   | nil=>intro _;simp
   | cons a l ih=>
    intro C;have i:=ih fun e he=>C e (zN _ he);have j:=Has.qJ J (C a oL).1 (C a oL).2;rw[yH,yH,zF,zF,yI];omega
  have:=key R h7
  rw[yI];omega
def Has.cQ(G:4<=(dV k v).1){h:Nat}{s:gY}(u:Has D M k v h s):s.y4.length<=s.y3.length:=by
 cases h with
 | zero=>
  have:=length_pos_iff.2 u.ne
  rw[u.1,xM];omega
 | succ h=>
  obtain⟨I,h0,h1,J,R,C,h5,h6,U⟩:=u;have h8:=C.right.x9.1;rw[J,R];have key:∀l:List gH,(∀e∈l,Has D M k v h e.2/\minOf k v h<=e.2.size)->(l.flatMap (·.2.y4)).length+l.length<=(l.flatMap (·.2.y3)).length:=by
   intro l;induction l with
   | nil=>intro _;simp
   | cons a l ih=>
    intro E;have i:=ih fun e V=>E e (zN _ V);have j:=Has.qJ G (E a oL).1 (E a oL).2;rw[yH,yH,zF,zF,yI];omega
  have:=key I U
  rw[yI];omega
def fP.cQ(u:4<=(dV k v).1)(C:fP D M k v t L P):P.length<=L.length:=by rcases C with ⟨E,rfl,rfl⟩|⟨h,n,p,I,E,G⟩;exact zM _;exact G.cQ u
end
end
section
section
variable {D D':dI} {M M':dY} {k v:Nat} {t:Int} {L:fN} {P:List Int}
def Has.cC:∀ {h:Nat} {s:gY},Has D M k v h s->(∀x∈s.y4,dH D' M' x=dH D M x)->Has D' M' k v h s
 | 0,s,⟨C,G,u,I⟩,E=>⟨C,G,u,by rw[E s.x5 (by rw[C];simp)];exact I⟩
 | h+1,s,⟨U,V,C,G,u,I,h5,h6,R⟩,E=>⟨U,V,C,G,u,I,by rw[E s.x5 (by rw[u];simp)];exact h5,h6,fun e J=>⟨(R e J).1.cC fun x hx=>E x (by rw[u];exact zN _ (yK.2 ⟨e,J,hx⟩)),(R e J).2⟩⟩
structure Calm (D:dI) (M:dY) (b q:Nat):Prop where
 quiet:eN D
 Q7:D.Q7=[]
 size:D.size=b
 blocks:M.j9.2.getD 0 0=b
 b8:8<=b
 wf:M.Wf
 Q9:M.z9
 Q3:M.Q3=false
 len:M.Q2.length=24
 seq:0<=M.j9.1/\M.j9.1<=q
 x6:0<=M.x6/\M.x6<=q
structure Kept (D:dI) (M:dY) (D':dI) (M':dY):Prop where
 Q2:M'.Q2=M.Q2
 use:∀ x,dT M' x↔dT M x
 read:∀ x,dT M x->dH D' M' x=dH D M x
def fP.kept(h:fP D M k v t L P)(E:M.Q3=false)(u:Kept D M D' M'):fP D' M' k v t L P:=by have e:dU M' t=dU M t:=(by unfold dU;rw[u.Q2]);rcases h with ⟨G,I,J⟩|⟨h,n,p,R,U,C⟩;exact .inl ⟨e.trans G,I,J⟩;exact .inr ⟨h,n,p,R,e.trans U,C.cC fun x V=>u.read x (C.J4 E x V)⟩
def Calm.count{b q:Nat}(h:Calm D M b q)(E:∀x,dT M x->x∈P):b-2<=M.Q1.length+(M.J7.length+M.Q5.length)+P.length:=by
 have:(fu b).length<=(M.Q1++(M.J7++(M.Q5++P))).length:=by refine List.Nodup.length_le_of_subset (vX (BZ b)) fun x C=>?_;have C:=Ab.1 C;by_cases hm:x∈M.all;simp only[dY.all,zD] at hm⊢;rcases hm with u|u|u|u;exact .inl u;exact .inr (.inl u);exact .inr (.inr (.inl u));exact .inr (.inr (.inr (E x (.inl u))));simp only[zD];exact .inr (.inr (.inr (E x (.inr (wZ.2 ⟨by rw[h.blocks];exact C,hm⟩)))))
 rw[Ak,zF,zF,zF] at this;omega
def qn6{a b:Nat}(h:a<=b):eI a<=eI b:=by unfold eI;split;exact yX _;rw[iN];have:(a-1) / 124<=(b-1) / 124:=Nat.div_le_div_right oJ;omega
def qrH{b q:Nat}(h:Calm D M b q)(hq:q<=1000000)(hu:∀x,dT M x->x∈P)(hf:eI b<=M.Q1.length): ∃D' M',gA D M=((D',M'),0)/\Calm D' M' b (q+1)/\Kept D M D' M'/\(M'=M\/b-2<=M'.Q9.length+P.length+eI b):=by
 have aa:M.Q1.length+(M.J7++M.Q5).length<=b:=by
  have:(M.Q1++(M.J7++M.Q5)).length<=(fu b).length:=by
   refine List.Nodup.length_le_of_subset ?_ fun x hx=>?_;have hn:=h.wf.nodup;refine hn.sublist ((List.Sublist.refl _).append ?_);rw[<- zV];exact sublist_append_left _ _
   have:=h.wf.range x (by simp only[zD] at hx⊢;rcases hx with I|I|I;exact .inl I;exact .inr (.inl I);exact .inr (.inr (.inl I)))
   rw[h.blocks] at this;exact Ab.2 this
  rw[Ak,zF] at this;omega
 have hk:=qn6 aa;have ai:=h.count hu;unfold gA;rw[if_neg (by rw[h.Q3];decide)];split;exact⟨D,M,rfl,⟨h.quiet,h.Q7,h.size,h.blocks,h.b8,h.wf,h.Q9,h.Q3,h.len,by have:=h.seq;omega,by have:=h.x6;omega⟩,⟨rfl,fun _=>.rfl,fun _ _=>rfl⟩,.inl rfl⟩;cases G:js M with
 | none=>
  unfold js at G;rw[iN] at G;cases G
 | some y=>
  obtain⟨y4,Q9⟩:=y;dsimp only;have ab:=h.seq;have V:=qyD (y4:=y4) (Q9:=Q9) h.wf G h.len ⟨ab.1,oJ⟩;have U:M.j9.2.getD 0 0=D.size:=(by rw[h.blocks,h.size]);have J:=h.quiet.uw h.wf U (by have:=h.size;have:=h.b8;omega) G V.1;rw[if_neg (by rw[J.1];simp)];have hv:=qtm (qtU h.Q7) h.quiet.down h.wf G V.1 J.1;have ad:=J.2.1;have hz:=J.2.2;clear J;generalize (gD D M.J8 y4 Q9 (fM M y4 Q9)).1=D' at hv ad hz⊢;have C:∀x,x∈(ie (fM M y4 Q9) y4 Q9 (M.x6+1) false Q9).all↔x∈M.Q1\/x∈M.J7\/x∈M.Q5:=fun x=>by rw[<- Ea G x];show x∈Q9++([]++(y4++[]))↔_;simp only[xI,xH,zD];exact Or.comm
  have ae:∀x,gc (ie (fM M y4 Q9) y4 Q9 (M.x6+1) false Q9) x=true↔dT M x:=fun x=>by
   rw[wZ,C];show (2<=x/\x<M.j9.2.getD 0 0)/\_↔_;unfold dT;rw[wZ];constructor;rintro⟨I,h2⟩;by_cases hm:x∈M.J8.map (·.1);exact .inl hm;refine .inr ⟨I,fun u=>?_⟩;simp only[dY.all,zD] at u;rcases u with u|u|u|u;exact h2 (.inl u);exact h2 (.inr (.inl u));exact h2 (.inr (.inr u));exact hm u;rintro (I|⟨I,h2⟩);refine⟨h.wf.J6 x I,fun u=>?_⟩
   have:=qon h.wf G x I
   rcases (Ea G x).2 u with h3|h3;exact this.1 h3;exact this.2 h3;refine⟨I,fun u=>h2 ?_⟩;simp only[dY.all,zD];rcases u with u|u|u;exact .inl u;exact .inr (.inl u);exact .inr (.inr (.inl u))
  refine⟨D',ie (fM M y4 Q9) y4 Q9 (M.x6+1) false Q9,rfl,⟨ad,hv.Q7,hz.trans h.size,h.blocks,h.b8,quq h.wf G rfl (Eg h.wf G),qlX _ _ _ _ _,rfl,h.len,?_,?_⟩,⟨rfl,fun x=>?_,fun x hx=>?_⟩,.inr ?_⟩;show 0<=(fM M y4 Q9).1/\(fM M y4 Q9).1<=_;rw[V.2];omega;show 0<=M.x6+1/\M.x6+1<=_
  have:=h.x6
  omega;rw[<- ae x];exact⟨fun h=>h.resolve_left (by simp[ie]),.inr⟩;have ag:=(ae x).2 hx;have al:=(wZ.1 ag).1;have R:=(wZ.1 ag).2;have E:2<=x/\x<M.j9.2.getD 0 0:=al;rw[U] at E;rw[qqD rfl hv.down ⟨E.1,by rw[hz];exact E.2⟩ (by rw[hz];exact U) R];by_cases hm:x∈M.J8.map (·.1);obtain⟨e,he,rfl⟩:=mem_map.1 hm;rw[qvJ h.Q3 h.wf he,qtn h.wf hv.J8 he];have am:x∉y4:=fun an=>R ((C x).2 ((Ea G x).1 (.inl an)));rw[hv.rest x oJ hm am oJ,qqD h.Q3 h.quiet.down E U fun u=>?_];simp only[dY.all,zD] at u;rcases u with u|u|u|u;exact R ((C x).2 (.inl u));exact R ((C x).2 (.inr (.inl u)));exact R ((C x).2 (.inr (.inr u)));exact hm u;show b-2<=Q9.length+P.length+eI b;obtain⟨k,ar,au,_,e⟩:=CA G;have av:Q9.length=(M.J7.length+M.Q5.length)+(M.Q1.length-k):=by rw[e,(G4 (yM.1 (h.wf.pF k)).2.1).length_eq,zF,zF,yC]
  omega
end
end
end
section
open Go Go.Pt List
open Go.IntKind (wrap)
attribute [local irreducible] ld dK ij nM jv fg st new idx jw jL fD jO jl mF gF nn call ed inv run eW i9 join loop held ext kH eS nf mY ng IntKind.wrap
variable {F':List Nat} {K:Int->WP} {body:List Int}
structure TW (dbk pb:Nat) (FD:List Nat) (D:dI) (j:Nat) (w:World) (Y F:List Nat) (M:dY):Prop where
 cN:eO w dbk FD D
 lim:lF D j
 x8:eG w (FD++HG::Y) pb (pc dbk M) F M
 hv:Hv w
 wf:M.Wf
 sep:∀ b∈Y,b∉FD/\b≠HG
abbrev Zo (FD Y F:List Nat):List Nat:=(FD++HG::Y)++F
section
variable {dbk pb j:Nat} {FD Y Y' F:List Nat} {D:dI} {w w':World} {M:dY}
def TW.q7(h:TW dbk pb FD D j w Y F M)(f:Fr [] w w'):TW dbk pb FD D j w' Y F M:=⟨h.cN.q7 f,h.lim,h.x8.q7 f,h.hv.q7 f,h.wf,h.sep⟩
def TW.qo(h:TW dbk pb FD D j w Y F M):∀b∈Y,b<w.heap.size:=fun b u=>h.x8.og b (by simp[u])
def TW.sI(h:TW dbk pb FD D j w Y F M):∀b∈Zo FD Y F,b<w.heap.size:=fun b u=>(zD.1 u).elim (h.x8.og b) (h.x8.lt b)
def TW.yf(h:TW dbk pb FD D j w Y F M):∀b∈Y,b∉F:=fun b u=>h.x8.sep b (by simp[u])
def TW.cM(h:TW dbk pb FD D j w Y F M)(f:Fr Y w w')(J:∀b∈Y',b<w'.heap.size)(G:∀b∈Y',b∈Y\/w.heap.size<=b):TW dbk pb FD D j w' Y' F M where
 cN:=h.cN.q8 f fun b u E=>(h.sep b E).1 u
 lim:=h.lim
 x8:=h.x8.oT (f.mono fun b u _=>by simp[u]) (fun b u=>by
  rcases zD.1 u with u|u;exact yD (h.cN.lt b u) f.size;rcases zG.1 u with rfl|u;exact yD h.hv.lt f.size;exact J b u) fun b u=>by
  rcases zD.1 u with u|u;exact .inl (zH _ u);rcases zG.1 u with rfl|u;exact .inl oL;rcases G b u with C|C;exact .inl (by simp[C]);exact .inr C
 hv:=h.hv.q8 f fun E=>(h.sep _ E).2 rfl
 wf:=h.wf
 sep:=fun b u=>by rcases G b u with C|C;exact h.sep b C;exact⟨fun I=>by have:=h.cN.lt b I;omega,fun I=>by have:=h.hv.lt;omega⟩
def TW.y0(h:TW dbk pb FD D j w Y F M)(C:∀b∈Y',b∈Y):TW dbk pb FD D j w Y' F M:=h.cM (.refl _ _) (fun b u=>h.qo b (C b u)) fun b u=>.inl (C b u)
def TW.AW{B:List Nat}{w0:World}(h:TW dbk pb FD D j w0 Y F M)(f:Fr Y w0 w)(C:∀b∈B,w0.heap.size<=b/\b<w.heap.size):TW dbk pb FD D j w (B++Y) F M:=
 h.cM f (fun b u=>(zD.1 u).elim (fun u=>(C b u).2) fun u=>yD (h.qo b u) f.size) fun b u=>(zD.1 u).elim (fun u=>.inr (C b u).1) .inl
def qw6(M:dY)(kd:Int)(b:List Int):(fZ M kd b).2.Q3=M.Q3:=by unfold fZ;split;rfl;split;rfl;split<;>rfl
def qyK(M:dY)(n kd:Int)(b:List Int):(jf M n kd b).2.Q3=M.Q3:=by unfold jf;split;rfl;split;rfl;split<;>rfl
def qwy(M:dY)(n:Int):(fk M n).2.Q3=M.Q3:=by unfold fk;split;rfl;split;rfl;split<;>rfl
def qxx(M:dY)(t a b c:Int):(eV M t a b c).2.Q3=M.Q3:=by unfold eV;split;rfl;split<;>rfl
def qwv{M M':dY}(h:M'.Q3=M.Q3):pc dbk M'=pc dbk M:=by unfold pc;rw[h]
def TW.next{M':dY}(h:TW dbk pb FD D j w Y F M)(u:M'.Q3=M.Q3)(C:M'.Wf)(E:eG w' (FD++HG::Y) pb (pc dbk M) F' M')(f:Fr F w w'):TW dbk pb FD D j w' Y F' M' where
 cN:=h.cN.q8 f fun b G=>h.x8.sep b (zH _ G)
 lim:=h.lim
 x8:=by rw[qwv u];exact E
 hv:=h.hv.q8 f (h.x8.sep HG oL)
 wf:=C
 sep:=h.sep
def TW.make{kind:Int}{s:Sl}{K:Int×Int->WP}(h:TW dbk pb FD D j w Y F M)(C:eh (Zo FD Y F) w s body)(E:body.length<=100000)(G:0<=kind/\kind<256)(I:eF body)(J:∀F' w',TW dbk pb FD D j w' Y F' (fZ M kind body).2->Fr F w w'->(∀b∈F',b∈F\/w.heap.size<=b)->K (fZ M kind body).1 w'): cW 164 [dF pb,.b kind,s.v] dr w K:=
 qxT h.x8 C E (by have:=h.wf.all;omega) fun F' w' R f U=>J F' w' (h.next (qw6 M kind body) (quk h.wf G I).1 R f) f U
def TW.put{n kind:Int}{s:Sl}(h:TW dbk pb FD D j w Y F M)(C:eh (Zo FD Y F) w s body)(E:body.length<=100000)(G:0<=kind/\kind<256)(I:eF body)(J:∀w',TW dbk pb FD D j w' Y F (jf M n kind body).2->Fr F w w'->K (jf M n kind body).1 w'): cW 163 [dF pb,.u n,.b kind,s.v] di w K:=
 qzk h.x8 C E fun w' R f=>J w' (h.next (qyK M n kind body) (qxn h.wf G I).1 R f) f
def TW.drop{n:Int}(h:TW dbk pb FD D j w Y F M)(C:∀F' w',TW dbk pb FD D j w' Y F' (fk M n).2->Fr F w w'->(∀b∈F',b∈F\/w.heap.size<=b)->K (fk M n).1 w'): cW 137 [dF pb,.u n] di w K:=
 qxR h.x8 (by have:=h.wf.all;omega) (by have:=h.wf.all;omega) (by have:=h.wf.all;omega) fun F' w' E f G=>C F' w' (h.next (qwy M n) (qt2 h.wf) E f) f G
def TW.read{n:Int}{K:Int×Sl×Int->WP}(h:TW dbk pb FD D j w Y F M)(C:gC n)(E:∀s w',(∀G:List Nat,(∀b∈G,b<w.heap.size)->eh G w' s (dH D M n).2.1)->Fr [] w w'->K ((dH D M n).1,s,(dH D M n).2.2) w'): cW 117 [dF pb,.u n] dp w K:=
 qwb h.cN h.lim h.x8 h.hv C (by have:=h.wf.all;omega) (fun e I=>zL (h.wf.body e I).2.1 oM) E
def TW.J5{t:Int}{K:Int×Int×Int->WP}(h:TW dbk pb FD D j w Y F M)(C:∀w',Fr [] w w'->K (dU M t) w'): cW 46 [dF pb,.i t] [.agg [.u,.u,.u]] w K:=qxW h.x8 C
def qvU{t a b c:Int}(u:M.Wf)(C:gC a)(E:gC b)(G:gC c):(eV M t a b c).2.Wf:=by unfold eV;split;exact u;split;exact u;refine qs0 u fun x h=>?_;simp only[zD,zG,xX,or_false] at h;rcases h with (h|rfl|rfl|rfl)|h;exact u.Q2 x (yV h);exact C;exact E;exact G;exact u.Q2 x (yU h)
def TW.pZ{t a b c:Int}(h:TW dbk pb FD D j w Y F M)(C:gC a)(E:gC b)(G:gC c)(I:∀w',TW dbk pb FD D j w' Y F (eV M t a b c).2->Fr F w w'->K (eV M t a b c).1 w'): cW 131 [dF pb,.i t,.agg #[.u a,.u b,.u c]] di w K:=
 qs7 h.x8 fun w' J f=>I w' (h.next (qxx M t a b c) (qvU h.wf C E G) J f) f
def TW.room(h:TW dbk pb FD D j w Y F M)(u:K M.Q1.length w):cW 129 [dF pb] di w K:=qxV h.x8 u
def TW.uR(h:∀b∈F',b∈F\/w.heap.size<=b):∀b∈Zo FD Y F',b∈Zo FD Y F\/w.heap.size<=b:=Ad h
def Cb(h:M.Wf)(t:Int):gC (dU M t).1/\gC (dU M t).2.1/\gC (dU M t).2.2:=by
 have key:∀n,gC (M.Q2.getD n 0):=fun n=>by
  rw[yR];cases e:M.Q2[n]? with
  | none=>exact⟨oM,oM⟩
  | some x=>exact h.Q2 x (yF e)
 unfold dU;split;exact⟨⟨oM,oM⟩,⟨oM,oM⟩,⟨oM,oM⟩⟩;exact⟨key _,key _,key _⟩
end
end
section
open Go Go.Pt List
open Go.IntKind (wrap)
open Classical
attribute [local irreducible] ld dK ij nM jv fg st new idx jw jL fD jO jl mF gF nn call ed inv run eW i9 join loop held ext kH eS nf mY ng IntKind.wrap
variable {K:Sl->WP} {S T:List Nat} {b:List Int} {hi p:Int} {i k v:Nat} {l:Key} {n:dL} {ps:pj} {s src:Sl} {w:World} {x:ka}
abbrev Fu:=Int×Int×Int×Int×Option Addr×Int
def jx (k v pb:Nat) (t:Int):Fu:=((k:Int),(v:Int),((dV k v).1:Int),((dV k v).2:Int),pW pb,t)
def mZ (x:Fu):Array Value:=#[.i x.1,.i x.2.1,.i x.2.2.1,.i x.2.2.2.1,.pointer x.2.2.2.2.1,.i x.2.2.2.2.2]
abbrev WK:TypeId:=195
def BH (k v:Nat):Int×Int×Int×Int:=((k:Int),(v:Int),((dV k v).1:Int),((dV k v).2:Int))
def FG (k v:Nat):Array Value:=#[.i k,.i v,.i (dV k v).1,.i (dV k v).2]
section
variable {S:List Nat} {w:World} {x:ka} {n:dL} {k v:Nat}
structure nQ (x:ka) (n:dL):Prop where
 Q4:x.1=n.Q4
 J6:x.2.1.len=n.J6.length
 Q0:x.2.2.1.len=n.Q0.length
 J9:x.2.2.2.len=n.J9.length
def eC.lens(h:eC S w x n):nQ x n:=by obtain⟨u,_,⟨pk,C,E⟩,⟨pv,G,I⟩,J⟩:=h;exact⟨u,by rw[C.len,<- E,zK],by rw[G.len,<- I,zK],J.1⟩
def EH{K:Int×Int->WP}(h:nQ x n)(C:∀w',Fr [] w w'->K (((eP n k v).1:Int),((eP n k v).2:Int)) w'): cW 198 [.agg (FG k v),.agg (eJ x)] dm w K:=by refine qk9<|oB (oE [] w) fun I w1 e1 J G=>oB G fun R w2 U V G=>oA G 0 rfl x.1 rfl ?_;unfold eP at C;have u:=G.drew;apply dW<;>intro E;rw[h.Q4] at E;rw[if_pos E] at C;refine oA u 0 rfl x.2.1 rfl<|oA u 1 rfl ((dV k v).1:Int) rfl ?_;rw[h.J6];exact C _ u.fr;rw[h.Q4] at E;rw[if_neg (by rw[E];decide)] at C;refine oA u 0 rfl x.2.2.2 rfl<|oA u 1 rfl ((dV k v).2:Int) rfl ?_;rw[h.J9];exact C _ u.fr
def qp4{n:dL}:wrap .i64 (Int.tdiv ((eP n k v).2:Int) 2)=(((eP n k v).2 / 2:Nat):Int):=by have h:=AS (k:=k) (v:=v);have u:(eP n k v).2<=498:=(by unfold eP;split<;>omega);rw[Int.tdiv_eq_ediv_of_nonneg oJ,gg _ oJ];rfl
def qAI{K:Bool->WP}(h:nQ x n)(C:∀w',Fr [] w w'->K (decide (oi n k v)) w'): cW 169 [.agg (FG k v),.agg (eJ x)] dj w K:=by refine qlS<|oB (oE [] w) fun I w1 e1 J u=>oB u fun R w2 U V u=>oC u 1 rfl (BH k v) rfl<|oC u 0 rfl x rfl<|EH (k:=k) (v:=v) h fun E G=>?_;dsimp only;rw[qp4];have e:decide (((eP n k v).1:Int)<(((eP n k v).2 / 2:Nat):Int))=decide (oi n k v):=decide_eq_decide.2 (by unfold oi;omega);rw[e];exact C E (u.fr.trans G)
def qyW{K:Bool->WP}(h:nQ x n)(C:∀w',Fr [] w w'->K (decide (iO n k v)) w'): cW 202 [.agg (FG k v),.agg (eJ x)] dj w K:=by refine qj0<|oB (oE [] w) fun I w1 e1 J u=>oB u fun R w2 U V u=>oC u 1 rfl (BH k v) rfl<|oC u 0 rfl x rfl<|EH (k:=k) (v:=v) h fun E G=>?_;dsimp only;rw[qp4];have e:decide (((eP n k v).1:Int)>(((eP n k v).2 / 2:Nat):Int))=decide (iO n k v):=decide_eq_decide.2 (by unfold iO;omega);rw[e];exact C E (u.fr.trans G)
end
def De{t:Int}{ks:Sl}{pb:Nat}{K:Fu×Int->WP}(G:rm t=((k:Int),(v:Int)))(I:k=0->∀x w',Fr [] w w'->K (x,4) w')(J:k≠0->ks.len≠k->∀x w',Fr [] w w'->K (x,1) w')(R:k≠0->ks.len=k->∀w',Fr [] w w'->K (jx k v pb t,0) w'): cW 89 [dF pb,.i t,ks.v] [.agg iz,.one .i] w K:=by
 refine qra<|oB (oE [] w) fun U w1 e1 V h=>qrw ?_;rw[G];apply dW<;>intro C;have C:((k:Nat):Int)=0:=yP.1 C;exact oD h 0 rfl (mZ (0,0,0,0,none,0)) fun w2 h E=>oC h 0 rfl (0,0,0,0,none,0) rfl<|I oJ _ _ h.fr;have C:¬((k:Nat):Int)=0:=zR.1 C;apply dW<;>intro u;have u:¬((ks.len:Int)=(k:Int)):=zR.1 (oP u);exact oD h 0 rfl (mZ (0,0,0,0,none,0)) fun w2 h E=>oC h 0 rfl (0,0,0,0,none,0) rfl<|J oJ oJ _ _ h.fr;have u:(ks.len:Int)=(k:Int):=by rw[yE] at u;exact yP.1 u
 refine DN fun w2 E=>?_;have h:=h.q7 E;exact oD h 0 rfl (mZ (jx k v pb t)) fun w3 h f3=>oC h 0 rfl (jx k v pb t) rfl<|R oJ oJ _ h.fr
section
variable {dbk pb j:Nat} {FD Y F:List Nat} {D:dI} {w:World} {M:dY} {k v:Nat} {t:Int}
def Ap{K:ka×Int->WP}(h:TW dbk pb FD D j w Y F M)(hp:gC p)(R:∀x B w',TW dbk pb FD D j w' (B++Y) F M->fc (Zo FD (B++Y) F) w' x (dJ D M k v p).1 B->Fr [] w w'->(∀c∈B,w.heap.size<=c)->K (x,(dJ D M k v p).2) w'): cW 90 [.agg (mZ (jx k v pb t)),.u p] [.agg dX,.one .i] w K:=by
 refine qlV<|oB (oE [] w) fun r1 w1 e1 f1 E=>oB E fun r3 w2 e2 f2 E=>oA E 1 rfl (pW pb) rfl ?_;have h2:=h.q7 E.fr;refine TW.read h2 hp fun s w7 hs f7=>?_;have E:=E.q7 f7;have ae:=hs [] (fun _ h=>nomatch h);have hB:eF (dH D M p).2.1:=qh5 h.lim.ok (fun e he=>(h.wf.body e he).2.2) p;unfold dJ at R;apply dW<;>intro C;have ag:(dH D M p).2.2≠0:=fun e=>by dsimp only at C;rw[e] at C;exact absurd C oM
 rw[if_pos ag] at R;exact oD E 0 rfl (eJ fx) fun w8 E f8=>oC E 0 rfl fx rfl<|R fx [] w8 (h.q7 E.fr) (.zero _ _) E.fr (fun _ h=>nomatch h);have he:¬(dH D M p).2.2≠0:=fun e=>by dsimp only at C;rw[yE,yP] at C;exact e C
 rw[if_neg he] at R;refine oA E 1 rfl (k:Int) rfl<|oA E 1 rfl (v:Int) rfl<|DJ (k:=k) (v:=v) ae hB fun x B ar hN ah J=>?_;have U:=E.q7 ah;have V:=eZ (E.at (i:=0) rfl);dsimp only at V;have hr:∀c∈B,c∉[r3]:=fun c C hm=>by have:=J c C;rw[zE.1 hm] at this;omega
 refine oD U 0 rfl (eJ x) fun aa G ai=>oC G 0 rfl x rfl ?_;have I:=hN.q8 ai hr (fun c C=>.inl (by rw[zE.1 C];simp[V])) (fun c C=>.inl C);have ax:=h.q7 G.fr;have ab:=E.fr.size;have ac:TW dbk pb FD D j aa (B++Y) F M:=h.AW (G.fr.mono fun _ h=>nomatch h) fun b hb=>⟨zL ab (J b hb),I.lt b hb⟩;refine R x B aa ac (I.j6 fun c C=>.inl ?_) G.fr (fun c C=>zL ab (J c C));have zl:=h.sI;rcases zD.1 C with C|C;rcases zD.1 C with C|C
 have:=zl c (by simp[C]);simp;omega
 rcases zG.1 C with C|C
 have:=zl c (by simp[C]);simp;omega
 rcases zD.1 C with C|C;simp[C]
 have:=zl c (by simp[C]);simp;omega
 have:=zl c (by simp[C]);simp;omega
def qvF{kd:Int}{n:Int}(h:(jf M n kd b).1=10):(jf M n kd b).2=M:=by unfold jf at h⊢;split;rfl;rename_i u;rw[if_neg u] at h;split;rfl;rename_i q C;rw[C] at h;dsimp only at h;split;rfl;rename_i E;rw[if_neg E] at h;cases h
def uy{K:Int×Int->WP}(h:TW dbk pb FD D j w Y F M)(hx:eC (Zo FD Y F) w x n)(h1:n.J6.length<=1000000)(h2:n.Q0.length<=1000000)(h3:n.J9.length<=1000000)(kk:∀F' w',TW dbk pb FD D j w' Y F' (dO k v M p n).2->Fr F w w'->(∀b∈F',b∈F\/w.heap.size<=b)->K (dO k v M p n).1 w'): cW 130 [.agg (mZ (jx k v pb t)),.u p,.agg (eJ x)] dr w K:=by
 refine qlb<|oB (oE [] w) fun r1 w1 e1 f1 I=>oB I fun r3 w2 e2 f2 I=>oC I 0 rfl x rfl<|oA I 1 rfl (k:Int) rfl<|oA I 1 rfl (v:Int) rfl<|qx2 (x:=x) (k:=k) (v:=v) (hx.q7 I.fr) h1 h2 h3 fun s w9 hs f9=>?_;have I:=I.q7 f9;have h9:=h.q7 I.fr;have ap:eF (eM n k v).2.1:=by unfold eM;split;exact qpJ hx.2.1.1 hx.2.1.2.1;exact fun _ h=>nomatch h
 have aq:0<=(eM n k v).1/\(eM n k v).1<256:=(by unfold eM iC;split;dsimp only;split<;>exact⟨oM,oM⟩;exact⟨oM,oM⟩);have ar:(eM n k v).2.1.length<=100000:=(by unfold eM;split;rename_i hr;have:=(C7 hr).2;dsimp only;omega;exact yX _);unfold dO at kk;apply dW<;>intro C;have aE:(eM n k v).2.2≠0:=fun e=>by dsimp only at C;rw[e] at C;exact absurd C oM
 rw[if_pos aE] at kk;exact kk F w9 h9 (I.fr.mono fun _ h=>nomatch h) fun b U=>.inl U;have he:¬(eM n k v).2.2≠0:=fun e=>by dsimp only at C;rw[yE,yP] at C;exact e C
 rw[if_neg he] at kk;have aF:=eZ (I.at (i:=1) rfl);dsimp only at aF;have ae:=h.sI;have ag:r1∉F:=fun hm=>by have:=ae r1 (by simp[hm]);omega
 have au:w.heap.size<=r1:=oJ;have aP:=I.fr.size;have ai:∀G:List Nat,(∀b∈G,b<w.heap.size)->eh G w9 s (eM n k v).2.1:=fun G hG=>hs G fun b U=>yD (hG b U) (zL f1.size f2.size);have aj:dQ F w w9 [(r1,.cells (mZ (jx k v pb t)) WK (0,0))]:=⟨fun q hq=>by rw[zE.1 hq];exact I.at (i:=1) rfl,oL,I.fr.mono (fun _ h=>nomatch h),fun q hq=>by rw[zE.1 hq];exact .inr au⟩;generalize a3:(eM n k v).1=V at *
 generalize a4:(eM n k v).2.1=J at *
 refine gW (fun _ w'=>(p=0\/(jf M p V J).1=10)/\TW dbk pb FD D j w' Y F M/\dQ F w w' [(r1,.cells (mZ (jx k v pb t)) WK (0,0))]/\eh (Zo FD Y F) w' s J) ?_ ?_;apply dW<;>intro hp;have hp:p≠0:=by rw[zT] at hp;exact zR.1 hp
 refine oA aj 0 rfl (pW pb) rfl<|TW.put h9 (ai _ ae) ar aq ap fun aG al av=>?_;have ah:=aj.q8 av (fun i hi=>.inl hi) (fun q hq=>by rw[zE.1 hq];exact ag);apply dW<;>intro E;have E:(jf M p V J).1≠10:=by rw[zT] at E;exact zR.1 E
 rw[if_pos ⟨hp,E⟩] at kk;exact kk F aG al ah.fr fun b U=>.inl U;have E:(jf M p V J).1=10:=by rw[yE] at E;exact yP.1 E
 rw[qvF E] at al;exact⟨.inr E,al,ah,(ai _ ae).q8 (av.mono fun b U _=>by simp[U]) fun b U=>.inl U⟩;have hp:p=0:=by rw[yE] at hp;exact yP.1 hp
 exact⟨.inl hp,h9,aj,ai _ ae⟩;rintro _ a5 ⟨hp,aI,ac,aw⟩;rw[if_neg (fun hh=>hp.elim hh.1 hh.2)] at kk;refine oA ac 0 rfl (pW pb) rfl<|TW.make aI aw ar aq ap fun F' aJ ax aK aL=>?_;have R:=ac.q8 aK (fun i hi=>.inl hi) (fun q hq=>by rw[zE.1 hq];exact ag);have am:=ac.fr.size;have ad:∀b∈F',b∈F\/w.heap.size<=b:=fun b U=>(aL b U).imp id fun h=>zL am h;refine gW (fun e w'=>∃F2,e=(if (fZ M V J).1.2=0/\p≠0 then (fk (fZ M V J).2 p).1 else (fZ M V J).1.2)/\TW dbk pb FD D j w' Y F2 (if (fZ M V J).1.2=0/\p≠0 then (fk (fZ M V J).2 p).2 else (fZ M V J).2)/\Fr F w w'/\∀b∈F2,b∈F\/w.heap.size<=b) ?_ ?_;refine gW (fun d w'=>d=decide ((fZ M V J).1.2=0/\p≠0)/\w'=aJ) ?_ ?_;refine dW (fun C=>⟨?_,rfl⟩) (fun C=>⟨?_,rfl⟩);have C:(fZ M V J).1.2=0:=yP.1 C;rw[Bool.eq_iff_iff,yN,zT,zR];exact⟨fun h=>⟨C,h⟩,fun h=>h.2⟩;have C:¬(fZ M V J).1.2=0:=zR.1 C;rw[zU (fun h=>C h.1)];rintro d a6 ⟨rfl,rfl⟩;apply dW<;>intro C;have C:=zC C;rw[if_pos C,if_pos C];refine oA R 0 rfl (pW pb) rfl<|TW.drop ax fun F2 a7 aM aN aO=>?_;have an:=R.fr.size;refine⟨F2,rfl,aM,R.fr.j8 aN ad,fun b U=>?_⟩;rcases aO b U with h|h;exact ad b h;exact .inr (zL an h);have C:=zB C;rw[if_neg C,if_neg C];exact⟨F',rfl,ax,R.fr,ad⟩;rintro e ay ⟨F2,rfl,af,az,aA⟩;by_cases C:(fZ M V J).1.2=0/\p≠0;rw[if_pos C] at kk af⊢;exact kk F2 ay af az aA;rw[if_neg C] at kk af⊢;exact kk F2 ay af az aA
end
section
section
variable {S:List Nat} {w:World} {s:Sl} {ps:pj}
def jg.qy(h:jg S w s ps)(b:Nat){K:Sl->Prop}(C:hi=b)(G:b<=ps.length)(I:∀u,jg S w u (ps.take b)->K u):fD s none (some hi) (some hi) 1 K:=
 dZ.tK h.1 b C (by rw[zK];exact G) fun u E=>I u ⟨by rw[<- xP] at E;exact E,fun p J=>h.2 p (yV J)⟩
def jg.from(h:jg S w s ps){lo:Int}(a:Nat){K:Sl->Prop}(C:lo=a)(G:a<=ps.length)(I:∀u,jg S w u (ps.drop a)->K u):fD s (some lo) none none 1 K:=
 dZ.part h.1 a ps.length C (by rw[xW,h.len]) G (by rw[zK];exact zM _) fun u _ E _=>I u ⟨by have e:(ir ps).take ps.length=ir ps:=zS (by rw[zK];exact zM _);rw[e,<- xQ] at E;exact E,fun p J=>h.2 p (yU J)⟩
def jg.upto(h:jg S w s ps)(b:Nat){K:Sl->Prop}(C:hi=b)(G:b<=ps.length)(I:∀u,jg S w u (ps.take b)->K u):fD s none (some hi) none 1 K:=
 dZ.part h.1 0 b rfl C (yX _) (by rw[zK];exact G) fun u _ E _=>I u ⟨by rw[xF,<- xP] at E;exact E,fun p J=>h.2 p (yV J)⟩
def zm(ps:pj)(b:Nat):ga (ps.take b)=(ga ps).take b:=xP
def wT(ps:pj)(b:Nat):ga (ps.drop b)=(ga ps).drop b:=xQ
def wD{ps:pj}(hi:i<ps.length):(ga ps).getD i []=ps[i].2:=by rw[yR,zQ,zA hi];rfl
def dZ.vw{α:Type}{enc:α->List Value}{l:List α}(h:dZ enc 1 S w s l){lo:Int}(a:Nat){K:Sl->Prop}(C:lo=a)(G:a<=l.length)(I:∀u,dZ enc 1 S w u (l.drop a)->K u):fD s (some lo) none none 1 K:=
 dZ.part h a l.length C (by rw[xW,h.1]) G (zM _) fun u _ E _=>I u (by rw[xZ] at E;exact E)
def dZ.AM{α:Type}{enc:α->List Value}{l:List α}(h:dZ enc 1 S w s l)(b:Nat){K:Sl->Prop}(C:hi=b)(G:b<=l.length)(I:∀u,dZ enc 1 S w u (l.take b)->K u):fD s none (some hi) none 1 K:=
 dZ.part h 0 b rfl C (yX _) G fun u _ E _=>I u (by rw[xF] at E;exact E)
end
section
variable {S:List Nat} {w:World} {x:ka} {n:dL} {k v:Nat}
def oc (n:dL) (mid:Nat):Prop:=if n.Q4 then mid<n.J6.length/\mid<=n.Q0.length else 1<=mid/\mid<=n.J6.length/\mid<=n.J9.length
def qwM{mid:Nat}{K:ka×ka×Sl->WP}(hx:eC S w x n)(hm:oc n mid)(hl:mid<=1000000)(kk:∀xl xr ks w',eC S w' xl (ee n mid).1->eC S w' xr (ee n mid).2.1->eh S w' ks (ee n mid).2.2->Fr [] w w'->K (xl,xr,ks) w'): cW 199 [.agg (eJ x),.i mid] [.agg dX,.agg dX,.one .slice] w K:=by
 have aH:=hx;obtain⟨h0,C,⟨pk,E,u⟩,⟨pv,ac,G⟩,R⟩:=hx;have l1:pk.length=n.J6.length:=(by rw[<- u,zK]);have l2:pv.length=n.Q0.length:=(by rw[<- G,zK]);refine qpB ?_;have h:=oE [] w;refine oB h fun r1 w2 _ f h=>oB h fun r3 w4 _ f h=>oB h fun r5 w6 _ f h=>?_;have h:=oF h;refine⟨?a,?b⟩;case' a=>
  refine oC h 2 rfl x rfl<|oC h 2 rfl x rfl<|oB h fun r9 ax _ f h=>ko (h.cells 3 rfl rfl) (h.cells 3 rfl rfl)<|oB h fun ay az _ f h=>ko (h.cells 4 rfl rfl) (h.cells 4 rfl rfl)<|oD h 1 rfl (eJ x) fun aA h f=>ig (h.cells 4 rfl rfl)<|oD h 0 rfl (eJ x) fun aB h f=>?_
 case' b=>
  refine oC h 2 rfl x rfl<|oC h 2 rfl x rfl<|oB h fun ay ax _ f h=>ko (h.cells 3 rfl rfl) (h.cells 3 rfl rfl)<|oB h fun r9 az _ f h=>ko (h.cells 4 rfl rfl) (h.cells 4 rfl rfl)<|oD h 0 rfl (eJ x) fun aA h f=>ig (h.cells 4 rfl rfl)<|oD h 1 rfl (eJ x) fun aB h f=>?_;have h:=Dr h (List.Perm.swap _ _ _)
 all_goals
  refine oA h 4 rfl x.1 rfl ?_;apply dW<;>intro hc;rw[h0] at hc;unfold oc at hm;rw[if_pos hc] at hm;have hH:ee n mid=({ n with J6:=n.J6.take mid,Q0:=n.Q0.take mid },{ n with J6:=n.J6.drop mid,Q0:=n.Q0.drop mid },n.J6.getD mid []):=(by unfold ee;rw[if_pos hc]);rw[hH] at kk;have h:=oF h;refine oA h 4 rfl x.2.1 rfl<|jg.qy E mid rfl oJ fun U aj=>oA h 4 rfl x.2.2.1 rfl<|jg.qy ac mid rfl oJ fun ad ak=>oD h 1 rfl (eJ (x.1,U,x.2.2.1,x.2.2.2)) fun aJ h f=>ig (h.cell 4 rfl rfl)<|oD h 1 rfl (eJ (x.1,U,ad,x.2.2.2)) fun aK h f=>?_;have h:=oF h;refine oA h 4 rfl x.2.1 rfl<|jg.from E mid rfl oJ fun V al=>oA h 4 rfl x.2.2.1 rfl<|jg.from ac mid rfl oJ fun ae am=>oD h 0 rfl (eJ (x.1,V,x.2.2.1,x.2.2.2)) fun aL h f=>ig (h.cell 4 rfl rfl)<|oD h 0 rfl (eJ (x.1,V,ae,x.2.2.2)) fun aM h f=>?_;have h:=oF h;refine oC h 1 rfl (x.1,U,ad,x.2.2.2) rfl<|oC h 0 rfl (x.1,V,ae,x.2.2.2) rfl<|oA h 4 rfl x.2.1 rfl ?_;have I:mid<pk.length:=oJ;refine jg.get' (E.q7 h.fr) mid rfl I fun aN J hh=>oD h 3 rfl (eJ (x.1,U,ad,x.2.2.2)) fun aO h f=>mK (hh _ (E.q7 h.fr)) (h.cell 4 rfl rfl) (h.cells 0 rfl rfl)<|oD h 2 rfl (eJ (x.1,V,ae,x.2.2.2)) fun aD h f=>ko (hh _ (E.q7 h.fr)) (h.cell 4 rfl rfl)<|oC h 3 rfl (x.1,U,ad,x.2.2.2) rfl<|oC h 2 rfl (x.1,V,ae,x.2.2.2) rfl<|kk _ _ _ aD ⟨h0,⟨fun a J=>C.1 a (yV J),fun a J=>C.2.1 a (yV J),C.2.2⟩,⟨pk.take mid,aj.q7 h.fr,by rw[zm,u]⟩,⟨pv.take mid,ak.q7 h.fr,by rw[zm,G]⟩,R.q7 h.fr⟩
   ⟨h0,⟨fun a J=>C.1 a (yU J),fun a J=>C.2.1 a (yU J),C.2.2⟩,⟨pk.drop mid,al.q7 h.fr,by rw[wT,u]⟩,⟨pv.drop mid,am.q7 h.fr,by rw[wT,G]⟩,R.q7 h.fr⟩ ?_ h.fr
  rw[<- u,wD I];exact (E.2 _ (zX I)).q7 h.fr;rw[h0] at hc;have ao:¬n.Q4=true:=(by rw[hc];decide);unfold oc at hm;rw[if_neg ao] at hm;have hH:ee n mid=({ n with J9:=n.J9.take mid,J6:=n.J6.take (mid-1) },{ n with J9:=n.J9.drop mid,J6:=n.J6.drop mid },n.J6.getD (mid-1) []):=(by unfold ee;rw[if_neg ao]);rw[hH] at kk;have em:wrap .i64 ((mid:Int)-1)=((mid-1:Nat):Int):=(by rw[gg _ oJ];omega);have h:=oF h;refine oA h 4 rfl x.2.2.2 rfl<|dZ.tK R mid rfl oJ fun aa ap=>oA h 4 rfl x.2.1 rfl<|jg.qy E (mid-1) em oJ fun af aq=>oD h 1 rfl (eJ (x.1,x.2.1,x.2.2.1,aa)) fun aP h f=>ig (h.cell 4 rfl rfl)<|oD h 1 rfl (eJ (x.1,af,x.2.2.1,aa)) fun aQ h f=>?_;have h:=oF h;refine oA h 4 rfl x.2.2.2 rfl<|dZ.vw R mid rfl oJ fun ab ar=>oA h 4 rfl x.2.1 rfl<|jg.from E mid rfl oJ fun ag au=>oD h 0 rfl (eJ (x.1,x.2.1,x.2.2.1,ab)) fun aR h f=>ig (h.cell 4 rfl rfl)<|oD h 0 rfl (eJ (x.1,ag,x.2.2.1,ab)) fun aT h f=>?_;have h:=oF h;refine oC h 1 rfl (x.1,af,x.2.2.1,aa) rfl<|oC h 0 rfl (x.1,ag,x.2.2.1,ab) rfl<|oA h 4 rfl x.2.1 rfl ?_;have I:mid-1<pk.length:=oJ;refine jg.get' (E.q7 h.fr) (mid-1) em I fun aU J hh=>oD h 3 rfl (eJ (x.1,af,x.2.2.1,aa)) fun aV h f=>mK (hh _ (E.q7 h.fr)) (h.cell 4 rfl rfl) (h.cells 0 rfl rfl)<|oD h 2 rfl (eJ (x.1,ag,x.2.2.1,ab)) fun aE h f=>ko (hh _ (E.q7 h.fr)) (h.cell 4 rfl rfl)<|oC h 3 rfl (x.1,af,x.2.2.1,aa) rfl<|oC h 2 rfl (x.1,ag,x.2.2.1,ab) rfl<|kk _ _ _ aE ⟨h0,⟨fun a J=>C.1 a (yV J),C.2.1,fun a J=>C.2.2 a (yV J)⟩,⟨pk.take (mid-1),aq.q7 h.fr,by rw[zm,u]⟩,⟨pv,ac.q7 h.fr,G⟩,ap.q7 h.fr⟩
   ⟨h0,⟨fun a J=>C.1 a (yU J),C.2.1,fun a J=>C.2.2 a (yU J)⟩,⟨pk.drop mid,au.q7 h.fr,by rw[wT,u]⟩,⟨pv,ac.q7 h.fr,G⟩,ar.q7 h.fr⟩ ?_ h.fr
  rw[<- u,wD I];exact (E.2 _ (zX I)).q7 h.fr
end
end
section
structure Sg (S0:List Nat) (w0 wa:World) (F T:List Nat):Prop where
 pO:Fr S0 w0 wa
 new:∀ b∈F,b∈S0\/w0.heap.size<=b
 own:∀ b∈T,b∈S0\/w0.heap.size<=b
abbrev fi (L:List (Nat×Obj)):List Nat:=L.map (·.1)
section
variable {dbk pb j:Nat} {FD S0 Y Y0 F0 F F' T:List Nat} {D:dI} {w0 wa w w':World} {M M':dY} {L:List (Nat×Obj)}
def Sg.start(F:List Nat)(w:World):Sg F w w F []:=⟨.refl _ _,fun b u=>.inl u,fun _ h=>nomatch h⟩
def Sg.fr(g:Sg S0 w0 wa F T)(h:dQ T wa w L):Fr S0 w0 w:=g.pO.j8 h.fr g.own
def Sg.fi(g:Sg S0 w0 wa F T)(h:dQ T wa w L):∀b∈fi L,b∈S0\/w0.heap.size<=b:=fun b C=>by obtain⟨q,E,rfl⟩:=mem_map.1 C;rcases h.own q E with u|u;exact g.own _ u;exact .inr (zL g.pO.size u)
def wg(h:dQ T wa w L):∀b∈fi L,b<w.heap.size:=fun b u=>by obtain⟨q,C,rfl⟩:=mem_map.1 u;exact eZ (h.eH q C)
def TW.J0(C:TW dbk pb FD D j wa (T++Y) F M)(h:dQ T wa w L):TW dbk pb FD D j w (fi L++Y) F M:=
 C.cM (h.fr.mono fun b u _=>by simp[u]) (fun b u=>(zD.1 u).elim (wg h b) fun u=>yD (C.qo b (by simp[u])) h.fr.size) fun b u=>(zD.1 u).elim (fun u=>by obtain⟨q,E,rfl⟩:=mem_map.1 u;exact (h.own q E).imp (fun h=>zH _ h) id) fun u=>.inl (zI _ u)
def TW.cB(u:TW dbk pb FD D j wa Y F M)(h:dQ [] wa w L):TW dbk pb FD D j w (fi L++Y) F M:=TW.J0 (T:=[]) u h
def ql(h:dQ T wa w L)(f:Fr S w w')(C:∀b∈fi L,b∉S):dQ (fi L) w' w' L:=
 ⟨fun q u=>by rw[f.block q.1 (eZ (h.eH q u)) (C _ (zZ u))];exact h.eH q u,h.nodup,.refl _ _,fun q u=>.inl (zZ u)⟩
def TW.own(u:TW dbk pb FD D j w (fi L++Y) F M)(h:dQ T wa w L)(f:Fr F w w'):dQ (fi L) w' w' L:=ql h f fun b C=>u.yf b (by simp[C])
def Sg.next(g:Sg S0 w0 wa F T)(h:dQ T wa w L)(f:Fr F w w')(n:∀b∈F',b∈F\/w.heap.size<=b):Sg S0 w0 w' F' (Go.Proofs.YtpcmehldpoljfaaGreatDoor.fi L):=
 ⟨(g.fr h).j8 f g.new,fun b u=>(n b u).elim (g.new b) fun C=>.inr (zL (g.fr h).size C),g.fi h⟩
def Sg.cA(g:Sg S0 w0 wa F T)(h:dQ T wa w L)(f:Fr [] w w'):Sg S0 w0 w' F (Go.Proofs.YtpcmehldpoljfaaGreatDoor.fi L):=
 ⟨(g.fr h).j8 f fun _ h=>(nomatch h),g.new,g.fi h⟩
def C2(h:dQ T wa w L):∀b∈Zo FD (Go.Proofs.YtpcmehldpoljfaaGreatDoor.fi L++Y) F,b∈Zo FD (T++Y) F\/wa.heap.size<=b:=fun b u=>by rcases zD.1 u with u|u;rcases zD.1 u with u|u;exact .inl (by simp[u]);rcases zG.1 u with u|u;exact .inl (by simp[u]);rcases zD.1 u with u|u;obtain⟨q,C,rfl⟩:=mem_map.1 u;exact (h.own q C).imp (fun h=>by simp[h]) id;exact .inl (by simp[u]);exact .inl (by simp[u])
def Af:∀b∈Zo FD Y F,b∈Zo FD (S++Y) F:=fun b h=>by simp only[Zo,zD,zG] at h⊢;rcases h with (h|h|h)|h<;>simp[h]
def uV{b:Nat}(h:b∈F):b∈Zo FD Y F:=zI _ h
def eC.J0(u:eC (Zo FD (T++Y) F) wa x n)(h:dQ T wa w L):eC (Zo FD (fi L++Y) F) w x n:=u.q8 (h.fr.mono fun b C _=>by simp[C]) (C2 h)
def eC.cB(u:eC (Zo FD Y F) wa x n)(h:dQ [] wa w L):eC (Zo FD (fi L++Y) F) w x n:=eC.J0 (T:=[]) u h
def eC.next(h:eC (Zo FD Y F) w x n)(f:Fr F w w')(u:∀b∈F',b∈F\/w.heap.size<=b):eC (Zo FD Y F') w' x n:=h.q8 (f.mono fun b C _=>uV C) (TW.uR u)
def pL(u:eh (Zo FD (T++Y) F) wa s l)(h:dQ T wa w L):eh (Zo FD (fi L++Y) F) w s l:=u.q8 (h.fr.mono fun b C _=>by simp[C]) (C2 h)
def uk(u:eh (Zo FD Y F) wa s l)(h:dQ [] wa w L):eh (Zo FD (fi L++Y) F) w s l:=pL (T:=[]) u h
def qsC(h:eh (Zo FD Y F) w s l)(f:Fr F w w')(u:∀b∈F',b∈F\/w.heap.size<=b):eh (Zo FD Y F') w' s l:=h.q8 (f.mono fun b C _=>uV C) (TW.uR u)
def EE(h:eh (Zo FD (S++Y) F) w s l):eh (Zo FD Y F) w s l:=h.q8 (.refl _ _) fun b u=>.inl (Af b u)
def TW.j7(h:TW dbk pb FD D j w (T++Y) F M):TW dbk pb FD D j w Y F M:=h.y0 fun b u=>zI _ u
abbrev CJ:=Int×Bool×Sl×Int
def sW (g:Grown) (ks:Sl):CJ:=(g.x5,g.J8,ks,g.x4)
abbrev GR:TypeId:=252
def pD (x:CJ):Array Value:=#[.u x.1,.bool x.2.1,x.2.2.1.v,.u x.2.2.2]
def tZ:gC 0:=⟨oM,oM⟩
def qsg{k:Int}(h:M.Wf):gC (fZ M k b).1.1:=by
 unfold fZ;split;exact tZ;split;exact tZ;split;exact tZ;rename_i n r u
 have:=h.range n (by rw[u];simp)
 have:=h.n4
 exact⟨by dsimp only;omega,by dsimp only;omega⟩
def uT(h:M.Wf)(u:gC p):gC (dO k v M p n).1.1:=by unfold dO;split;exact tZ;split;exact u;split;exact qsg h;exact qsg h
structure GS (g:Grown):Prop where
 x5:gC g.x5
 x4:gC g.x4
 key:eF g.key
def eF.nil:eF []:=fun _ h=>nomatch h
def Fy:GS nW:=⟨⟨oM,oM⟩,⟨oM,oM⟩,.nil⟩
def sX{l:List Key}(h:∀a∈l,eF a)(i:Nat):eF (l.getD i []):=by
 rw[yR];cases e:l[i]? with
 | none=>exact .nil
 | some a=>exact h a (yF e)
def qqN{t:Int}{J8:Bool}{K:CJ×Int->WP}(hT:TW dbk pb FD D j w0 Y F M)(hx:eC (Zo FD Y F) w0 x n)(h1:n.J6.length<=100000)(h2:n.Q0.length<=100000)(h3:n.J9.length<=100000)(hm:(eP n k v).1>(eP n k v).2->oc n ((eP n k v).1 / 2))(hp:gC p)(kk:∀ks F' w',GS (fY k v M p n J8).1.1->TW dbk pb FD D j w' Y F' (fY k v M p n J8).2->eh (Zo FD Y F') w' ks (fY k v M p n J8).1.1.key->Fr F w0 w'->(∀b∈F',b∈F\/w0.heap.size<=b)->K (sW (fY k v M p n J8).1.1 ks,(fY k v M p n J8).1.2) w'): cW 166 [.agg (mZ (jx k v pb t)),.u p,.agg (eJ x),.bool J8] [.agg pH,.one .i] w0 K:=by
 refine qla ?_;have h:=oE [] w0;have g:=Sg.start F w0;have hl:=hx.lens;have aG:(eP n k v).1<=100000:=(by unfold eP;split<;>assumption);refine oB h fun r1 w2 _ f h=>oB h fun r3 w4 _ f h=>oB h fun r5 w6 _ f h=>oB h fun r7 w8 _ f h=>oD h 0 rfl (pD (0,J8,dG,0)) fun w9 h f=>oC h 3 rfl (BH k v) rfl<|oC h 2 rfl x rfl<|EH (k:=k) (v:=v) hl fun aL an=>?_;have h:=h.q7 an;refine gW (fun _ w'=>∃(x':ka) (n':dL) (ks:Sl) (key:Key) (o:Int) (F' T:List Nat) (wa:World) (M':dY),Sg F w0 wa F' T/\TW dbk pb FD D j wa (T++Y) F' M'/\dQ T wa w' [(r7,.cells (pD (0,J8,ks,o)) GR (0,0)),(r5,.cells (pD (0,false,dG,0)) GR (0,0)),(r3,.cells (eJ x') ND (0,0)),(r1,.cells (mZ (jx k v pb t)) WK (0,0))]/\
   eC (Zo FD (T++Y) F') wa x' n'/\eh (Zo FD (T++Y) F') wa ks key/\n'.J6.length<=100000/\n'.Q0.length<=100000/\n'.J9.length<=100000/\gC o/\eF key/\fY k v M p n J8=((⟨(dO k v M' p n').1.1,J8,key,o⟩,(dO k v M' p n').1.2),(dO k v M' p n').2)) ?_ ?_
 apply dW<;>intro I;have I:(eP n k v).1>(eP n k v).2:=(by have:=zC I;dsimp only at this;omega);have ah:=hm I;have R:wrap .i64 (Int.tdiv ((eP n k v).1:Int) 2)=(((eP n k v).1 / 2:Nat):Int):=(by rw[Int.tdiv_eq_ediv_of_nonneg oJ,gg _ oJ];rfl);generalize ai:(eP n k v).1 / 2=C at ah R;refine oC h 2 rfl x rfl ?_;dsimp only;rw[R];have E:=hT.cB h;refine qwM (hx.cB h) ah oJ fun xl xr ks aM ao ap aa ab=>?_;have U:=E.q7 ab;have g:=g.cA h ab;have h:=ql h ab fun _ _ h=>nomatch h;refine oB h fun aN aO _ f h=>oB h fun aP aQ _ f h=>oD h 1 rfl (eJ xl) fun aR h f=>oD h 0 rfl (eJ xr) fun aT h f=>oC h 5 rfl (jx k v pb t) rfl<|oC h 0 rfl xr rfl ?_;have hH:(ee n C).1.J6.length<=100000/\(ee n C).1.Q0.length<=100000/\(ee n C).1.J9.length<=100000/\(ee n C).2.1.J6.length<=100000/\(ee n C).2.1.Q0.length<=100000/\(ee n C).2.1.J9.length<=100000:=by unfold ee;split<;>simp only[yL,yC]<;>omega
 refine uy (U.J0 h) (ap.J0 h) oJ oJ oJ fun F1 au V J ac=>?_;have ad:=(ao.J0 h).next J ac
 have ae:=qsC (pL aa h) J ac;have g:=g.next h J ac
 have h:=(U.J0 h).own h J;apply dW<;>intro G;have av:(dO k v M 0 (ee n C).2.1).1.2≠0:=by rw[zT] at G;exact zR.1 G
 have e:fY k v M p n J8=((nW,(dO k v M 0 (ee n C).2.1).1.2),(dO k v M 0 (ee n C).2.1).2):=(by unfold fY;rw[if_pos I,ai,if_pos av]);rw[e] at kk;exact oD h 3 rfl (pD (0,false,dG,0)) fun aw h f=>oC h 3 rfl (0,false,dG,0) rfl<|kk dG F1 aw Fy (V.J0 h).j7 (.nil _ _ _ _) (g.fr h) g.new;have he:¬(dO k v M 0 (ee n C).2.1).1.2≠0:=fun e=>by rw[yE,yP] at G;exact e G
 refine oC h 1 rfl xl rfl<|oD h 4 rfl (eJ xl) fun aV h f=>oG h 2 rfl (pD (0,J8,dG,(dO k v M 0 (ee n C).2.1).1.1)) rfl rfl (zO rfl) fun aW h f=>oG h 2 rfl (pD (0,J8,ks,(dO k v M 0 (ee n C).2.1).1.1)) rfl rfl (zO rfl) fun aX h f=>⟨xl,(ee n C).1,ks,(ee n C).2.2,_,F1,_,au,_,g,V,h.sub (.cons _ (.cons _ (.refl _))),ad,ae,hH.1,hH.2.1,hH.2.2.1,uT hT.wf ⟨oM,oM⟩,?_,?_⟩;unfold ee;split;exact sX hx.2.1.1 _;exact sX hx.2.1.1 _;unfold fY;rw[if_pos I,ai,if_neg he];have I:¬(eP n k v).1>(eP n k v).2:=(by have:=zB I;dsimp only at this;omega);refine⟨x,n,dG,[],0,F,[],w0,M,g,hT,h,hx,.nil _ _ _ _,h1,h2,h3,⟨oM,oM⟩,.nil,?_⟩;unfold fY;rw[if_neg I];rintro aY aZ ⟨x',n',ks,key,o,F1,T,wa,M',g,E,h,ax,ay,l1,l2,l3,uo,bk,e⟩;rw[e] at kk;refine oC h 3 rfl (jx k v pb t) rfl<|oC h 2 rfl x' rfl<|uy (E.J0 h) (ax.J0 h) oJ oJ oJ fun F2 a2 aj af ak=>?_;have aa:=qsC (pL ay h) af ak;have g:=g.next h af ak
 have h:=(E.J0 h).own h af;exact oD h 0 rfl (pD ((dO k v M' p n').1.1,J8,ks,o)) fun a3 h f=>oC h 0 rfl ((dO k v M' p n').1.1,J8,ks,o) rfl<|oD h 1 rfl (pD ((dO k v M' p n').1.1,J8,ks,o)) fun az h f=>oC h 1 rfl ((dO k v M' p n').1.1,J8,ks,o) rfl<|kk ks F2 az ⟨uT E.wf hp,uo,bk⟩ (aj.J0 h).j7 (EE (pL aa h)) (g.fr h) g.new
end
end
section
section
variable {Z:List Nat} {w w':World} {s:Sl} {l:List Key} {B:List Nat}
def qp7{α β:Type}(f:α->β)(l:List α)(i:Nat)(x:α):(fE l i x).map f=fE (l.map f) i (f x):=by unfold fE;rw[xN,xN,xP,xQ];rfl
def qpT{α β:Type}(f:α->β)(l:List α)(i:Nat):(gM l i).map f=gM (l.map f) i:=by unfold gM;rw[xN,xP,xQ]
def C4{α:Type}{l:List α}{y:α}(h:y∈gM l i):y∈l:=by unfold gM at h;exact (zD.1 h).elim yV yU
abbrev mn (Z:List Nat) (w:World) (Z':List Nat):Prop:=∀b∈Z',b∈Z\/w.heap.size<=b
def BG{pk pk':pj}{Z':List Nat}{E:Sl}{B':List Nat}{l':List Key}(G:∀p∈pk,eh Z w p.1 p.2)(u:eQ gp 1 w' E (ir pk') B')(e:ga pk'=l')(f:Fr B w w')(C:∀b∈B,b∈Z)(I:mn Z w Z')(J:∀p∈pk',p∈pk\/eh Z w p.1 p.2):iX Z' w' E l' B':=
 ⟨pk',u,e,fun p h=>((J p h).elim (G p) id).q8 (f.mono fun b u _=>C b u) I⟩
def iX.ins{ii:Int}{ks:Sl}{key:Key}{vb:Nat}{T':TypeId}(h:iX Z w s l B)(C:∀b∈B,b∈Z)(hi:i<=l.length)(J:ii=i)(I:l.length<=100000)(R:w.heap[vb]?=some (.cells #[fS ks] T' (0,0)))(E:vb∉B)(U:eh Z w ks key)(V:∀u B' w',(∀Z',mn Z w Z'->iX Z' w' u (fE l i key) B')->Fr B w w'->(∀b∈B',b∈B\/w.heap.size<=b)->K u w'): cW 165 [s.v,.i ii,.slice (pW vb) 1 1] dh w K:=by obtain⟨pk,hb,rfl,G⟩:=h;rw[zK] at hi I;refine quD hb (by rw[zK];exact hi) J (by rw[zK];exact I) R E fun u B' w' b' f n=>V u B' w' (fun Z' hZ=>BG (pk':=fE pk i (ks,key)) G (by rw[show ir (fE pk i (ks,key))=fE (ir pk) i ks from qp7 _ _ _ _];exact b') (qp7 _ _ _ _) f C hZ fun p G=>?_) f n;rcases C0 G with rfl|h;exact .inr U;exact .inl h
def iX.del{ii jj:Int}(h:iX Z w s l B)(C:∀b∈B,b∈Z)(hi:i<l.length)(I:ii=i)(J:jj=((i+1:Nat):Int))(G:l.length<=100000)(R:∀u w',(∀Z',mn Z w Z'->iX Z' w' u (gM l i) B)->Fr B w w'->K u w'): cW 168 [s.v,.i ii,.i jj] dh w K:=by obtain⟨pk,U,rfl,E⟩:=h;rw[zK] at hi G;exact quA U (by rw[zK];exact hi) I J (by rw[zK];exact G) fun u w' b' f=>R u w' (fun Z' V=>BG (pk':=gM pk i) E (by rw[show ir (gM pk i)=gM (ir pk) i from qpT _ _ _];exact b') (qpT _ _ _) f C V fun p E=>.inl (C4 E)) f
def iX.set{i:Nat}{ii:Int}{ks:Sl}{key:Key}{K:WP}(h:iX Z w s l B)(u:∀b∈B,b∈Z)(hi:i<l.length)(G:ii=i)(I:eh Z w ks key)(J:∀w',(∀Z',mn Z w Z'->iX Z' w' s (l.set i key) B)->Fr B w w'->K w'):idx s ii 1 fun a=>st a [ks.v] w K:=by obtain⟨pk,E,rfl,C⟩:=h;rw[zK] at hi;refine eQ.ve E G (by rw[zK];exact hi) fun b R=>?_;subst R;refine eQ.A5 (e:=fS) (x:=ks) (fun _=>rfl) E (by rw[zK];exact hi) rfl rfl fun w' b' f=>J w' (fun Z' U=>BG (pk':=pk.set i (ks,key)) C (by rw[show ir (pk.set i (ks,key))=(ir pk).set i ks from map_set];exact b') (map_set) f u U fun p C=>?_) f;rcases mem_or_eq_of_mem_set C with h|rfl;exact .inl h;exact .inr I
def iX.BN{ks:Sl}{key:Key}{vb:Nat}{T':TypeId}(h:iX Z w s l B)(C:∀b∈B,b∈Z)(G:l.length<=100000)(I:w.heap[vb]?=some (.cells #[fS ks] T' (0,0)))(J:eh Z w ks key)(R:∀u B' w',(∀Z',mn Z w Z'->iX Z' w' u (l++[key]) B')->Fr B w w'->(∀b∈B',b∈B\/w.heap.size<=b)->K u w'): Pt.run dh ((Builtin.append_ #[171,171] 171 #[s.v,.slice (pW vb) 1 1]).run prog w) K:=by obtain⟨pk,U,rfl,E⟩:=h;rw[zK] at G;refine py U (by rw[zK];exact G) I fun u B' w' b' f n=>R u B' w' (fun Z' V=>BG (pk':=pk++[(ks,key)]) E (by rw[show ir (pk++[(ks,key)])=ir pk++[ks] by simp];exact b') oL f C V fun p E=>?_) f n;rcases zD.1 E with h|h;exact .inl h;rw[zE.1 h];exact .inr J
def iX.tX(h:iX Z w s l B)(E:∀b∈B,b∈Z)(V:l.length+ps.length<=100000)(u:dZ gp 1 S w src (ir ps))(G:∀p∈ps,eh Z w p.1 p.2)(kk:∀C B' w',(∀Z',mn Z w Z'->iX Z' w' C (l++ga ps) B')->Fr B w w'->(∀b∈B',b∈B\/w.heap.size<=b)->K C w'): Pt.run dh ((Builtin.append_ #[171,171] 171 #[s.v,src.v]).run prog w) K:=by obtain⟨pk,hb,rfl,I⟩:=h;rw[zK] at V;obtain⟨ac,J,hz,R,U⟩:=BU;refine eQ.j1 (ys:=ir ps) (e:=101) hb u9 oK J hz R rfl (tg (e':=101) u u9 qwE oK) u.1 (by rw[U,zK,u.1,zK];omega) (by rw[zK,u.1,zK];omega) fun C B' w' b' f n _=>kk C B' w' (fun Z' hZ=>BG (pk':=pk++ps) I (by rw[show ir (pk++ps)=ir pk++ir ps by simp];exact b') oL f E hZ fun p I=>?_) f n;rcases zD.1 I with h|h;exact .inl h;exact .inr (G p h)
def qzw{l ys:List Int}(h:eQ iu 1 w s l B)(hl:l.length+ys.length<=100000)(C:dZ iu 1 S w src ys)(R:∀E B' w',eQ iu 1 w' E (l++ys) B'->Fr B w w'->(∀b∈B',b∈B\/w.heap.size<=b)->K E w'): Pt.run dh ((Builtin.append_ #[172,172] 172 #[s.v,src.v]).run prog w) K:=by obtain⟨U,G,V,I,J⟩:=vI;exact eQ.j1 (ys:=ys) (e:=63) h qS oK G V I rfl (tg (e':=63) C qS (fun x u hu=>by rw[zE.1 hu];rfl) oK) C.1 (by rw[J,C.1];omega) (by rw[C.1];omega) fun E B' w' b' f n _=>R E B' w' b' f n
def qBn{l:List Int}{ii x:Int}{K:WP}(h:eQ iu 1 w s l B)(hi:i<l.length)(C:ii=i)(E:∀w',eQ iu 1 w' s (l.set i x) B->Fr B w w'->K w'):idx s ii 1 fun a=>st a [.u x] w K:=by refine eQ.ve h C hi fun b G=>?_;subst G;exact eQ.A5 (e:=mT) (x:=x) (fun _=>rfl) h hi rfl rfl E
end
section
variable {Z:List Nat} {w:World} {x:ka} {n:dL} {B:List Nat}
def fc.qV(h:fc Z w x n B):∃Bk,iX Z w x.2.1 n.J6 Bk/\(∀b∈Bk,b∈B)/\∀G E Bk' w',Fr Bk w w'->(∀b∈Bk,b∈Z)->(∀b∈Bk',b∈Bk\/w.heap.size<=b)->(∀a∈E,eF a)-> ∃B',(∀b∈B',b∈B\/w.heap.size<=b)/\∀Z',mn Z w Z'->iX Z' w' G E Bk'->fc Z' w' (x.1,G,x.2.2) { n with J6:=E } B':=by
 obtain⟨h0,I,Bk,Bv,Bi,rfl,J,hk,hv,hi⟩:=h;obtain⟨n1,n2,R⟩:=yM.1 J;refine⟨Bk,hk,fun b u=>by simp[u],fun G E Bk' w' f hz nk hl=>⟨Bk'++(Bv++Bi),fun b u=>?_,fun Z' hZ C=>⟨h0,⟨hl,I.2⟩,Bk',Bv,Bi,rfl,?_,C,hv.q8 f (fun b u U=>R b U b (by simp[u]) rfl) (fun b u=>.inl (hz b u)) hZ,hi.q8 f fun b u U=>R b U b (by simp[u]) rfl⟩⟩⟩;rcases zD.1 u with u|u;exact (nk b u).imp (fun h=>by simp[h]) id;exact .inl (zI _ u);have V:Bk'.Nodup:=(by obtain⟨_,u,_⟩:=C;exact xh u);refine yM.2 ⟨V,n2,fun a ha b u e=>?_⟩;subst e;rcases nk a ha with h1|h1;exact R a h1 a u rfl;rcases zD.1 u with u|u
 have:=hv.lt a u;omega
 have:=hi.lt a u;omega
def fc.qH(h:fc Z w x n B):∃E,iX Z w x.2.2.1 n.Q0 E/\(∀b∈E,b∈B)/\∀V U C w',Fr E w w'->(∀b∈E,b∈Z)->(∀b∈C,b∈E\/w.heap.size<=b)->(∀a∈U,eF a)-> ∃B',(∀b∈B',b∈B\/w.heap.size<=b)/\∀Z',mn Z w Z'->iX Z' w' V U C->fc Z' w' (x.1,x.2.1,V,x.2.2.2) { n with Q0:=U } B':=by
 obtain⟨h0,G,Bk,E,Bi,rfl,aa,hk,hv,hi⟩:=h;obtain⟨n1,n2,n3⟩:=yM.1 aa;obtain⟨m1,m2,m3⟩:=yM.1 n2;refine⟨E,hv,fun b u=>by simp[u],fun V U C w' f hz nv hl=>⟨Bk++(C++Bi),fun b u=>?_,fun Z' hZ I=>⟨h0,⟨G.1,hl,G.2.2⟩,Bk,C,Bi,rfl,?_,hk.q8 f (fun b u hm=>n3 b u b (by simp[hm]) rfl) (fun b u=>.inl (hz b u)) hZ,I,hi.q8 f fun b u hm=>m3 b hm b u rfl⟩⟩⟩;simp only[zD] at u⊢;rcases u with u|u|u;exact .inl (.inl u);exact (nv b u).imp (fun h=>.inr (.inl h)) id;exact .inl (.inr (.inr u));have ae:C.Nodup:=(by obtain⟨_,u,_⟩:=I;exact xh u);refine yM.2 ⟨n1,yM.2 ⟨ae,m2,fun a J b u e=>?_⟩,fun a J b u e=>?_⟩;subst e;rcases nv a J with R|R;exact m3 a R a u rfl
 have:=hi.lt a u;omega
 subst e;rcases zD.1 u with u|u;rcases nv a u with R|R;exact n3 a J a (by simp[R]) rfl
 have:=hk.lt a J;omega
 exact n3 a J a (by simp[u]) rfl
def fc.qI(h:fc Z w x n B):∃E,eQ iu 1 w x.2.2.2 n.J9 E/\(∀b∈E,b∈B)/\∀V U C w',Fr E w w'->(∀b∈E,b∈Z)->(∀b∈C,b∈E\/w.heap.size<=b)->(∀a∈U,gC a)-> ∃B',(∀b∈B',b∈B\/w.heap.size<=b)/\∀Z',mn Z w Z'->eQ iu 1 w' V U C->fc Z' w' (x.1,x.2.1,x.2.2.1,V) { n with J9:=U } B':=by
 obtain⟨h0,I,Bk,Bv,E,rfl,aa,hk,hv,hi⟩:=h;obtain⟨n1,n2,n3⟩:=yM.1 aa;obtain⟨m1,m2,m3⟩:=yM.1 n2;refine⟨E,hi,fun b u=>by simp[u],fun V U C w' f hz ni hl=>⟨Bk++(Bv++C),fun b u=>?_,fun Z' hZ J=>⟨h0,⟨I.1,I.2.1,hl⟩,Bk,Bv,C,rfl,?_,hk.q8 f (fun b u hm=>n3 b u b (by simp[hm]) rfl) (fun b u=>.inl (hz b u)) hZ,hv.q8 f (fun b u hm=>m3 b u b hm rfl) (fun b u=>.inl (hz b u)) hZ,J⟩⟩⟩;simp only[zD] at u⊢;rcases u with u|u|u;exact .inl (.inl u);exact .inl (.inr (.inl u));exact (ni b u).imp (fun h=>.inr (.inr h)) id;refine yM.2 ⟨n1,yM.2 ⟨m1,xh J,fun a G b u e=>?_⟩,fun a G b u e=>?_⟩;subst e;rcases ni a u with R|R;exact m3 a G a R rfl
 have:=hv.lt a G;omega
 subst e;rcases zD.1 u with u|u;exact n3 a G a (by simp[u]) rfl;rcases ni a u with R|R;exact n3 a G a (by simp[R]) rfl
 have:=hk.lt a G;omega
end
structure Ed (dbk pb:Nat) (FD:List Nat) (D:dI) (j:Nat) (S0 N0:List Nat) (w0 wa:World) (T Y F:List Nat) (M:dY) (x:ka) (n:dL) (B:List Nat):Prop where
 sg:Sg S0 w0 wa F T
 tw:TW dbk pb FD D j wa (T++(B++Y)) F M
 node:fc (Zo FD (T++(B++Y)) F) wa x n B
 sep:∀ b∈T,b∉B
 cE:∀ b∈B,b∈N0\/w0.heap.size<=b
 cR:∀ b∈N0,b∈S0
 cK:∀ b∈B,b∉Y
section
variable {dbk pb j:Nat} {FD S0 N0 Y F F' T B B':List Nat} {D:dI} {w0 wa w w':World} {M M':dY} {L:List (Nat×Obj)} {x x':ka} {n n':dL}
def Ed.J0(e:Ed dbk pb FD D j S0 N0 w0 wa T Y F M x n B)(h:dQ T wa w L):Ed dbk pb FD D j S0 N0 w0 w (fi L) Y F M x n B where
 sg:=⟨e.sg.fr h,e.sg.new,e.sg.fi h⟩
 tw:=e.tw.J0 h
 node:=e.node.q8 h.fr (fun b u C=>e.sep b C u) (fun b u=>.inl (by simp[u])) (C2 h)
 sep:=fun b u C=>by
  obtain⟨q,G,rfl⟩:=mem_map.1 u;rcases h.own q G with E|E;exact e.sep _ E C
  have:=e.node.lt _ C;omega
 cE:=e.cE
 cR:=e.cR
 cK:=e.cK
def Ed.rd(e:Ed dbk pb FD D j S0 N0 w0 wa T Y F M x n B):∀b∈B,b∈Zo FD (T++(B++Y)) F:=fun b h=>by simp[h]
def Ed.mO{Bk:List Nat}(e:Ed dbk pb FD D j S0 N0 w0 w (fi L) Y F M x n B)(h:dQ T wa w L)(G:∀b∈Bk,b∈B)(f:Fr Bk w w')(J:fc (Zo FD (fi L++(B'++Y)) F) w' x' n' B')(E:∀b∈B',b∈B\/w.heap.size<=b):Ed dbk pb FD D j S0 N0 w0 w' (fi L) Y F M x' n' B'/\dQ (fi L) w' w' L:=by
 refine⟨⟨⟨e.sg.pO.j8 f fun b u=>(e.cE b (G b u)).imp (e.cR b) id,e.sg.new,e.sg.own⟩,e.tw.cM (f.mono fun b u _=>by simp[G b u]) (fun b u=>?_) (fun b u=>?_),J,fun b u I=>?_,fun b u=>(E b u).elim (e.cE b) fun C=>.inr (zL e.sg.pO.size C),e.cR,fun b u R=>?_⟩,ql h f fun b u I=>e.sep b u (G b I)⟩;rcases zD.1 u with u|u;exact yD (e.tw.qo b (by simp[u])) f.size;rcases zD.1 u with u|u;exact J.lt b u;exact yD (e.tw.qo b (by simp[u])) f.size;rcases zD.1 u with u|u;exact .inl (by simp[u]);rcases zD.1 u with u|u;exact (E b u).imp (fun h=>by simp[h]) id;exact .inl (by simp[u]);rcases E b I with C|C;exact e.sep b u C
 have:=e.tw.qo b (by simp[u]);omega
 rcases E b u with C|C;exact e.cK b C R
 have:=e.tw.qo b (by simp[R]);omega
def Ed.fg(e:Ed dbk pb FD D j S0 N0 w0 w T Y F M x n B)(C:∀b∈B',b∈B\/w.heap.size<=b):mn (Zo FD (T++(B++Y)) F) w (Zo FD (T++(B'++Y)) F):=fun b u=>by simp only[Zo,zD,zG] at u⊢;rcases u with (u|u|u|u|u)|u;simp[u];simp[u];simp[u];exact (C b u).imp (fun h=>by simp[h]) id;simp[u];simp[u]
def Ed.next(e:Ed dbk pb FD D j S0 N0 w0 w (fi L) Y F M x n B)(h:dQ T wa w L)(E:TW dbk pb FD D j w' (fi L++(B++Y)) F' M')(f:Fr F w w')(C:∀b∈F',b∈F\/w.heap.size<=b):Ed dbk pb FD D j S0 N0 w0 w' (fi L) Y F' M' x n B/\dQ (fi L) w' w' L:=by have G:∀b∈fi L,b∉F:=fun b u=>e.tw.yf b (by simp[u]);refine⟨⟨⟨e.sg.pO.j8 f e.sg.new,fun b u=>(C b u).elim (e.sg.new b) fun I=>.inr (zL e.sg.pO.size I),e.sg.own⟩,E,e.node.q8 f (fun b u=>e.tw.yf b (by simp[u])) (fun b u=>.inl (uV u)) (TW.uR C),e.sep,e.cE,e.cR,e.cK⟩,ql h f G⟩
def Ed.cA(e:Ed dbk pb FD D j S0 N0 w0 w (fi L) Y F M x n B)(h:dQ T wa w L)(f:Fr [] w w'):Ed dbk pb FD D j S0 N0 w0 w' (fi L) Y F M x n B/\dQ (fi L) w' w' L:=
 e.next h (e.tw.q7 f) (f.mono fun _ h=>nomatch h) fun b u=>.inl u
def Ed.y9(e:Ed dbk pb FD D j S0 N0 w0 w T Y F M x n B):eC (Zo FD (T++Y) F) w x n:=
 e.node.rd (fun b h u=>by
  simp only[Zo,zD,zG] at u;have C:=e.tw.sep b (by simp[h]);rcases u with (u|u|u|u)|u;exact C.1 u;exact C.2 u;exact e.sep b u h;exact e.cK b h u;exact e.tw.yf b (by simp[h]) u) fun b h=>.inl (by
  simp only[Zo,zD,zG] at h⊢;rcases h with (h|h|h|h)|h<;>simp[h])
def Ed.qs(e:Ed dbk pb FD D j S0 N0 w0 w T Y F M x n B):TW dbk pb FD D j w (T++Y) F M:=e.tw.y0 fun b u=>(zD.1 u).elim (fun h=>by simp[h]) fun h=>by simp[h]
end
end
section
section
variable {dbk pb j:Nat} {FD S0 N0 Y F F' F0 T T1 B B' Bk Bk':List Nat} {D:dI} {w0 wa w w':World} {M M':dY} {L:List (Nat×Obj)} {x x':ka} {n n':dL} {i q:Nat} {ii jj:Int} {ks:Sl} {key:Key} {vb:Nat} {T':TypeId}
structure mu (FD Y F B B':List Nat) (T:List Nat) (w w':World):Prop where
 cT:∀ s l,eh (Zo FD (T++(B++Y)) F) w s l->eh (Zo FD (T++(B'++Y)) F) w' s l
 node:∀ x n,eC (Zo FD (T++(B++Y)) F) w x n->eC (Zo FD (T++(B'++Y)) F) w' x n
def Ed.jP(e:Ed dbk pb FD D j S0 N0 w0 w T Y F M x n B)(C:∀b∈Bk,b∈B)(f:Fr Bk w w')(E:∀b∈B',b∈B\/w.heap.size<=b):mu FD Y F B B' T w w':=⟨fun s l h=>h.q8 (f.mono fun b u _=>by simp[C b u]) (e.fg E),fun x n h=>h.q8 (f.mono fun b u _=>by simp[C b u]) (e.fg E)⟩
def Ed.cT(e:Ed dbk pb FD D j F0 N0 w0 w T Y F M x n B)(C:eh (Zo FD Y F0) w0 s l):eh (Zo FD (T++(B++Y)) F) w s l:=
 C.q8 (e.sg.pO.mono fun b u _=>uV u) fun b u=>by rcases zD.1 u with u|u;rcases zD.1 u with u|u;exact .inl (by simp[u]);rcases zG.1 u with u|u;exact .inl (by simp[u]);rcases zD.1 u with u|u;exact (e.sg.own b u).imp (fun h=>uV h) id;rcases zD.1 u with u|u;exact (e.cE b u).imp (fun h=>uV (e.cR b h)) id;exact .inl (by simp[u]);exact (e.sg.new b u).imp (fun h=>uV h) id
def Ed.sub(e:Ed dbk pb FD D j S0 N0 w0 w T Y F M x n B)(C:∀b∈T1,b∈T):Ed dbk pb FD D j S0 N0 w0 w T1 Y F M x n B where
 sg:=⟨e.sg.pO,e.sg.new,fun b u=>e.sg.own b (C b u)⟩
 tw:=e.tw.y0 fun b u=>(zD.1 u).elim (fun h=>zH _ (C b h)) fun h=>zI _ h
 node:=e.node.j6 fun b u=>.inl (by simp only[Zo,zD,zG] at u⊢;rcases u with (u|u|u|u)|u;simp[u];simp[u];simp[C b u];simp[u];simp[u])
 sep:=fun b u=>e.sep b (C b u)
 cE:=e.cE
 cR:=e.cR
 cK:=e.cK
def GY{L:List (Nat×Obj)}{q vb:Nat}{o:Obj}(h:L[q]?=some (vb,o)):vb∈fi L:=mem_map.2 ⟨_,yF h,rfl⟩
def Ed.cO(e:Ed dbk pb FD D j S0 N0 w0 w (fi L) Y F M x n B)(h:dQ T wa w L)(hi:i<=n.J6.length)(R:ii=i)(U:n.J6.length<=100000)(q:Nat)(J:L[q]?=some (vb,.cells #[fS ks] T' (0,0)))(V:eh (Zo FD (fi L++(B++Y)) F) w ks key)(hB:eF key)(kk:∀C B' w',Ed dbk pb FD D j S0 N0 w0 w' (fi L) Y F M (x.1,C,x.2.2) { n with J6:=fE n.J6 i key } B'->dQ (fi L) w' w' L->mu FD Y F B B' (fi L) w w'->K C w'): cW 165 [x.2.1.v,.i ii,.slice (pW vb) 1 1] dh w K:=by obtain⟨Bk,E,u,I⟩:=e.node.qV;refine E.ins (fun b E=>e.rd b (u b E)) hi R U (h.at J) (fun hm=>e.sep vb (GY J) (u vb hm)) V fun C Bk' w' hz f nk=>?_;obtain⟨B',G,hN⟩:=I C _ Bk' w' f (fun b E=>e.rd b (u b E)) nk fun a ha=>(C0 ha).elim (fun h=>by rw[h];exact hB) (e.node.2.1.1 a);obtain⟨e',h'⟩:=e.mO h u f (hN _ (e.fg G) (hz _ (e.fg G))) G;exact kk C B' w' e' h' (e.jP u f G)
def Ed.sC(e:Ed dbk pb FD D j S0 N0 w0 w (fi L) Y F M x n B)(h:dQ T wa w L)(hi:i<=n.Q0.length)(R:ii=i)(U:n.Q0.length<=100000)(q:Nat)(J:L[q]?=some (vb,.cells #[fS ks] T' (0,0)))(V:eh (Zo FD (fi L++(B++Y)) F) w ks key)(hB:eF key)(kk:∀C B' w',Ed dbk pb FD D j S0 N0 w0 w' (fi L) Y F M (x.1,x.2.1,C,x.2.2.2) { n with Q0:=fE n.Q0 i key } B'->dQ (fi L) w' w' L->mu FD Y F B B' (fi L) w w'->K C w'): cW 165 [x.2.2.1.v,.i ii,.slice (pW vb) 1 1] dh w K:=by obtain⟨Bk,E,u,I⟩:=e.node.qH;refine E.ins (fun b E=>e.rd b (u b E)) hi R U (h.at J) (fun hm=>e.sep vb (GY J) (u vb hm)) V fun C Bk' w' hz f nk=>?_;obtain⟨B',G,hN⟩:=I C _ Bk' w' f (fun b E=>e.rd b (u b E)) nk fun a ha=>(C0 ha).elim (fun h=>by rw[h];exact hB) (e.node.2.1.2.1 a);obtain⟨e',h'⟩:=e.mO h u f (hN _ (e.fg G) (hz _ (e.fg G))) G;exact kk C B' w' e' h' (e.jP u f G)
def Ed.sq{G:Int}(e:Ed dbk pb FD D j S0 N0 w0 w (fi L) Y F M x n B)(h:dQ T wa w L)(hi:i<=n.J9.length)(V:ii=i)(hl:n.J9.length<=100000)(q:Nat)(U:L[q]?=some (vb,.cells #[.u G] T' (0,0)))(hB:gC G)(kk:∀E B' w',Ed dbk pb FD D j S0 N0 w0 w' (fi L) Y F M (x.1,x.2.1,x.2.2.1,E) { n with J9:=fE n.J9 i G } B'->dQ (fi L) w' w' L->mu FD Y F B B' (fi L) w w'->K E w'): cW 167 [x.2.2.2.v,.i ii,.slice (pW vb) 1 1] dh w K:=by obtain⟨Bk,I,C,J⟩:=e.node.qI;refine quE I hi V hl (h.at U) (fun hm=>e.sep vb (GY U) (C vb hm)) fun E Bk' w' hz f nk=>?_;obtain⟨B',R,hN⟩:=J E _ Bk' w' f (fun b I=>e.rd b (C b I)) nk fun a ha=>(C0 ha).elim (fun h=>by rw[h];exact hB) (e.node.2.1.2.2 a);obtain⟨e',h'⟩:=e.mO h C f (hN _ (e.fg R) hz) R;exact kk E B' w' e' h' (e.jP C f R)
def Ed.AN(e:Ed dbk pb FD D j S0 N0 w0 w (fi L) Y F M x n B)(h:dQ T wa w L)(hi:i<n.J6.length)(J:ii=i)(R:jj=((i+1:Nat):Int))(U:n.J6.length<=100000)(V:∀E B' w',Ed dbk pb FD D j S0 N0 w0 w' (fi L) Y F M (x.1,E,x.2.2) { n with J6:=gM n.J6 i } B'->dQ (fi L) w' w' L->mu FD Y F B B' (fi L) w w'->K E w'): cW 168 [x.2.1.v,.i ii,.i jj] dh w K:=by obtain⟨Bk,C,u,I⟩:=e.node.qV;refine C.del (fun b C=>e.rd b (u b C)) hi J R U fun E w' hz f=>?_;obtain⟨B',G,hN⟩:=I E _ Bk w' f (fun b C=>e.rd b (u b C)) (fun b C=>.inl C) fun a ha=>e.node.2.1.1 a (C4 ha);obtain⟨e',h'⟩:=e.mO h u f (hN _ (e.fg G) (hz _ (e.fg G))) G;exact V E B' w' e' h' (e.jP u f G)
def Ed.Eh(e:Ed dbk pb FD D j S0 N0 w0 w (fi L) Y F M x n B)(h:dQ T wa w L)(hi:i<n.Q0.length)(J:ii=i)(R:jj=((i+1:Nat):Int))(U:n.Q0.length<=100000)(V:∀E B' w',Ed dbk pb FD D j S0 N0 w0 w' (fi L) Y F M (x.1,x.2.1,E,x.2.2.2) { n with Q0:=gM n.Q0 i } B'->dQ (fi L) w' w' L->mu FD Y F B B' (fi L) w w'->K E w'): cW 168 [x.2.2.1.v,.i ii,.i jj] dh w K:=by obtain⟨Bk,C,u,I⟩:=e.node.qH;refine C.del (fun b C=>e.rd b (u b C)) hi J R U fun E w' hz f=>?_;obtain⟨B',G,hN⟩:=I E _ Bk w' f (fun b C=>e.rd b (u b C)) (fun b C=>.inl C) fun a ha=>e.node.2.1.2.1 a (C4 ha);obtain⟨e',h'⟩:=e.mO h u f (hN _ (e.fg G) (hz _ (e.fg G))) G;exact V E B' w' e' h' (e.jP u f G)
def Ed.GF(e:Ed dbk pb FD D j S0 N0 w0 w (fi L) Y F M x n B)(h:dQ T wa w L)(hi:i<n.J9.length)(J:ii=i)(R:jj=((i+1:Nat):Int))(U:n.J9.length<=100000)(V:∀C B' w',Ed dbk pb FD D j S0 N0 w0 w' (fi L) Y F M (x.1,x.2.1,x.2.2.1,C) { n with J9:=gM n.J9 i } B'->dQ (fi L) w' w' L->mu FD Y F B B' (fi L) w w'->K C w'): cW 239 [x.2.2.2.v,.i ii,.i jj] dh w K:=by obtain⟨Bk,E,u,G⟩:=e.node.qI;refine quB E hi J R U fun C w' hz f=>?_;obtain⟨B',I,hN⟩:=G C _ Bk w' f (fun b E=>e.rd b (u b E)) (fun b E=>.inl E) fun a ha=>e.node.2.1.2.2 a (C4 ha);obtain⟨e',h'⟩:=e.mO h u f (hN _ (e.fg I) hz) I;exact V C B' w' e' h' (e.jP u f I)
def Ed.As{K:WP}(e:Ed dbk pb FD D j S0 N0 w0 w (fi L) Y F M x n B)(h:dQ T wa w L)(hi:i<n.J6.length)(I:ii=i)(J:eh (Zo FD (fi L++(B++Y)) F) w ks key)(R:eF key)(U:∀B' w',Ed dbk pb FD D j S0 N0 w0 w' (fi L) Y F M (x.1,x.2.1,x.2.2) { n with J6:=n.J6.set i key } B'->dQ (fi L) w' w' L->mu FD Y F B B' (fi L) w w'->K w'): idx x.2.1 ii 1 fun a=>st a [ks.v] w K:=by
 obtain⟨Bk,C,u,G⟩:=e.node.qV;refine C.set (fun b C=>e.rd b (u b C)) hi I J fun w' V f=>?_;obtain⟨B',E,hN⟩:=G x.2.1 _ Bk w' f (fun b C=>e.rd b (u b C)) (fun b C=>.inl C) fun a ha=>(mem_or_eq_of_mem_set ha).elim (e.node.2.1.1 a) fun h=>by rw[h];exact R
 obtain⟨e',h'⟩:=e.mO h u f (hN _ (e.fg E) (V _ (e.fg E))) E;exact U B' w' e' h' (e.jP u f E)
def Ed.E7{K:WP}(e:Ed dbk pb FD D j S0 N0 w0 w (fi L) Y F M x n B)(h:dQ T wa w L)(hi:i<n.Q0.length)(I:ii=i)(J:eh (Zo FD (fi L++(B++Y)) F) w ks key)(R:eF key)(U:∀B' w',Ed dbk pb FD D j S0 N0 w0 w' (fi L) Y F M (x.1,x.2.1,x.2.2.1,x.2.2.2) { n with Q0:=n.Q0.set i key } B'->dQ (fi L) w' w' L->mu FD Y F B B' (fi L) w w'->K w'): idx x.2.2.1 ii 1 fun a=>st a [ks.v] w K:=by
 obtain⟨Bk,C,u,G⟩:=e.node.qH;refine C.set (fun b C=>e.rd b (u b C)) hi I J fun w' V f=>?_;obtain⟨B',E,hN⟩:=G x.2.2.1 _ Bk w' f (fun b C=>e.rd b (u b C)) (fun b C=>.inl C) fun a ha=>(mem_or_eq_of_mem_set ha).elim (e.node.2.1.2.1 a) fun h=>by rw[h];exact R
 obtain⟨e',h'⟩:=e.mO h u f (hN _ (e.fg E) (V _ (e.fg E))) E;exact U B' w' e' h' (e.jP u f E)
def Ed.tT{G:Int}{K:WP}(e:Ed dbk pb FD D j S0 N0 w0 w (fi L) Y F M x n B)(h:dQ T wa w L)(hi:i<n.J9.length)(R:ii=i)(U:gC G)(V:∀B' w',Ed dbk pb FD D j S0 N0 w0 w' (fi L) Y F M (x.1,x.2.1,x.2.2.1,x.2.2.2) { n with J9:=n.J9.set i G } B'->dQ (fi L) w' w' L->mu FD Y F B B' (fi L) w w'->K w'): idx x.2.2.2 ii 1 fun a=>st a [.u G] w K:=by
 obtain⟨Bk,E,C,I⟩:=e.node.qI;refine qBn E hi R fun w' hz f=>?_;obtain⟨B',J,hN⟩:=I x.2.2.2 _ Bk w' f (fun b E=>e.rd b (C b E)) (fun b E=>.inl E) fun a ha=>(mem_or_eq_of_mem_set ha).elim (e.node.2.1.2.2 a) fun h=>by rw[h];exact U
 obtain⟨e',h'⟩:=e.mO h C f (hN _ (e.fg J) hz) J;exact V B' w' e' h' (e.jP C f J)
def Ed.py(e:Ed dbk pb FD D j S0 N0 w0 w (fi L) Y F M x n B)(h:dQ T wa w L)(J:n.J6.length<=100000)(q:Nat)(R:L[q]?=some (vb,.cells #[fS ks] T' (0,0)))(U:eh (Zo FD (fi L++(B++Y)) F) w ks key)(V:eF key)(kk:∀C B' w',Ed dbk pb FD D j S0 N0 w0 w' (fi L) Y F M (x.1,C,x.2.2) { n with J6:=n.J6++[key] } B'->dQ (fi L) w' w' L->mu FD Y F B B' (fi L) w w'->K C w'): Pt.run dh ((Builtin.append_ #[171,171] 171 #[x.2.1.v,.slice (pW vb) 1 1]).run prog w) K:=by
 obtain⟨Bk,E,u,I⟩:=e.node.qV;refine E.BN (fun b E=>e.rd b (u b E)) J (h.at R) U fun C Bk' w' hz f nk=>?_;obtain⟨B',G,hN⟩:=I C _ Bk' w' f (fun b E=>e.rd b (u b E)) nk fun a ha=>(zD.1 ha).elim (e.node.2.1.1 a) fun h=>by rw[zE.1 h];exact V
 obtain⟨e',h'⟩:=e.mO h u f (hN _ (e.fg G) (hz _ (e.fg G))) G;exact kk C B' w' e' h' (e.jP u f G)
def Ed.wq(e:Ed dbk pb FD D j S0 N0 w0 w (fi L) Y F M x n B)(h:dQ T wa w L)(J:n.Q0.length<=100000)(q:Nat)(R:L[q]?=some (vb,.cells #[fS ks] T' (0,0)))(U:eh (Zo FD (fi L++(B++Y)) F) w ks key)(V:eF key)(kk:∀C B' w',Ed dbk pb FD D j S0 N0 w0 w' (fi L) Y F M (x.1,x.2.1,C,x.2.2.2) { n with Q0:=n.Q0++[key] } B'->dQ (fi L) w' w' L->mu FD Y F B B' (fi L) w w'->K C w'): Pt.run dh ((Builtin.append_ #[171,171] 171 #[x.2.2.1.v,.slice (pW vb) 1 1]).run prog w) K:=by
 obtain⟨Bk,E,u,I⟩:=e.node.qH;refine E.BN (fun b E=>e.rd b (u b E)) J (h.at R) U fun C Bk' w' hz f nk=>?_;obtain⟨B',G,hN⟩:=I C _ Bk' w' f (fun b E=>e.rd b (u b E)) nk fun a ha=>(zD.1 ha).elim (e.node.2.1.2.1 a) fun h=>by rw[zE.1 h];exact V
 obtain⟨e',h'⟩:=e.mO h u f (hN _ (e.fg G) (hz _ (e.fg G))) G;exact kk C B' w' e' h' (e.jP u f G)
def Ed.vU{G:Int}(e:Ed dbk pb FD D j S0 N0 w0 w (fi L) Y F M x n B)(h:dQ T wa w L)(U:n.J9.length<=100000)(q:Nat)(V:L[q]?=some (vb,.cells #[.u G] T' (0,0)))(hB:gC G)(kk:∀E B' w',Ed dbk pb FD D j S0 N0 w0 w' (fi L) Y F M (x.1,x.2.1,x.2.2.1,E) { n with J9:=n.J9++[G] } B'->dQ (fi L) w' w' L->mu FD Y F B B' (fi L) w w'->K E w'): Pt.run dh ((Builtin.append_ #[172,172] 172 #[x.2.2.2.v,.slice (pW vb) 1 1]).run prog w) K:=by
 obtain⟨Bk,I,C,J⟩:=e.node.qI;refine qtS I U (h.at V) fun E Bk' w' hz f nk=>?_;obtain⟨B',R,hN⟩:=J E _ Bk' w' f (fun b I=>e.rd b (C b I)) nk fun a ha=>(zD.1 ha).elim (e.node.2.1.2.2 a) fun h=>by rw[zE.1 h];exact hB
 obtain⟨e',h'⟩:=e.mO h C f (hN _ (e.fg R) hz) R;exact kk E B' w' e' h' (e.jP C f R)
def Ed.u0(e:Ed dbk pb FD D j S0 N0 w0 w (fi L) Y F M x n B)(h:dQ T wa w L)(R:n.J6.length+ps.length<=100000)(U:dZ gp 1 S w src (ir ps))(I:∀p∈ps,eh (Zo FD (fi L++(B++Y)) F) w p.1 p.2)(V:∀a∈ga ps,eF a)(kk:∀C B' w',Ed dbk pb FD D j S0 N0 w0 w' (fi L) Y F M (x.1,C,x.2.2) { n with J6:=n.J6++ga ps } B'->dQ (fi L) w' w' L->mu FD Y F B B' (fi L) w w'->K C w'): Pt.run dh ((Builtin.append_ #[171,171] 171 #[x.2.1.v,src.v]).run prog w) K:=by obtain⟨Bk,E,u,J⟩:=e.node.qV;refine E.tX (fun b E=>e.rd b (u b E)) R U I fun C Bk' w' hz f nk=>?_;obtain⟨B',G,hN⟩:=J C _ Bk' w' f (fun b E=>e.rd b (u b E)) nk fun a ha=>(zD.1 ha).elim (e.node.2.1.1 a) (V a);obtain⟨e',h'⟩:=e.mO h u f (hN _ (e.fg G) (hz _ (e.fg G))) G;exact kk C B' w' e' h' (e.jP u f G)
def Ed.uJ(e:Ed dbk pb FD D j S0 N0 w0 w (fi L) Y F M x n B)(h:dQ T wa w L)(R:n.Q0.length+ps.length<=100000)(U:dZ gp 1 S w src (ir ps))(I:∀p∈ps,eh (Zo FD (fi L++(B++Y)) F) w p.1 p.2)(V:∀a∈ga ps,eF a)(kk:∀C B' w',Ed dbk pb FD D j S0 N0 w0 w' (fi L) Y F M (x.1,x.2.1,C,x.2.2.2) { n with Q0:=n.Q0++ga ps } B'->dQ (fi L) w' w' L->mu FD Y F B B' (fi L) w w'->K C w'): Pt.run dh ((Builtin.append_ #[171,171] 171 #[x.2.2.1.v,src.v]).run prog w) K:=by obtain⟨Bk,E,u,J⟩:=e.node.qH;refine E.tX (fun b E=>e.rd b (u b E)) R U I fun C Bk' w' hz f nk=>?_;obtain⟨B',G,hN⟩:=J C _ Bk' w' f (fun b E=>e.rd b (u b E)) nk fun a ha=>(zD.1 ha).elim (e.node.2.1.2.1 a) (V a);obtain⟨e',h'⟩:=e.mO h u f (hN _ (e.fg G) (hz _ (e.fg G))) G;exact kk C B' w' e' h' (e.jP u f G)
def Ed.uS{ys:List Int}(e:Ed dbk pb FD D j S0 N0 w0 w (fi L) Y F M x n B)(h:dQ T wa w L)(J:n.J9.length+ys.length<=100000)(R:dZ iu 1 S w src ys)(U:∀y∈ys,gC y)(V:∀C B' w',Ed dbk pb FD D j S0 N0 w0 w' (fi L) Y F M (x.1,x.2.1,x.2.2.1,C) { n with J9:=n.J9++ys } B'->dQ (fi L) w' w' L->mu FD Y F B B' (fi L) w w'->K C w'): Pt.run dh ((Builtin.append_ #[172,172] 172 #[x.2.2.2.v,src.v]).run prog w) K:=by obtain⟨Bk,E,u,G⟩:=e.node.qI;refine qzw E J R fun C Bk' w' hz f nk=>?_;obtain⟨B',I,hN⟩:=G C _ Bk' w' f (fun b E=>e.rd b (u b E)) nk fun a ha=>(zD.1 ha).elim (e.node.2.1.2.2 a) (U a);obtain⟨e',h'⟩:=e.mO h u f (hN _ (e.fg I) hz) I;exact V C B' w' e' h' (e.jP u f I)
end
end
section
def AK{D:dI}{M:dY}(h:dJ D M k v p=(n,0)):fC n k v:=by
 unfold dJ at h;split at h;rename_i u;exact absurd (congrArg (·.2) h) u
 have:=qsD (kind:=(dH D M p).1) (b:=(dH D M p).2.1) (k:=k) (v:=v) (by rw[h])
 rw[h] at this;exact this
def uK(h:fC n k v):n.J6.length<=498/\n.Q0.length<=498/\n.J9.length<=498/\(n.Q4=true->n.Q0.length=n.J6.length/\n.J6.length<=(dV k v).1)/\(n.Q4=false->n.J6.length+1=n.J9.length/\n.J9.length<=(dV k v).2/\2<=n.J9.length):=by
 have R:=AS (k:=k) (v:=v);obtain⟨_,_,_,u⟩:=h;cases I:n.Q4 with
 | true=>
  rw[I,if_pos rfl] at u;obtain⟨C,J,E,G⟩:=u;rw[C];exact⟨oJ,oJ,oL,fun _=>⟨G,E⟩,fun h=>nomatch h⟩
 | false=>
  rw[I,if_neg oM] at u;obtain⟨_,C,J,E,G⟩:=u;rw[C];exact⟨oJ,oL,oJ,fun h=>(nomatch h),fun _=>⟨G,E,J⟩⟩
section
variable {D:dI} {M M1:dY} {k v f:Nat} {key val:Key} {p e0 e1:Int} {n:dL} {g:Grown}
def qyI(h:dJ D M k v p=(n,e0))(u:e0≠0):gT D k v key val (f+1) M p=((nW,e0),M):=by unfold gT;rw[h,if_pos u]
def qyJ(h:dJ D M k v p=(n,0))(u:n.Q4=true)(C:n.J6[dN n.J6 key]?=some key):gT D k v key val (f+1) M p=fY k v M p { n with Q0:=n.Q0.set (dN n.J6 key) val } false:=by unfold gT;rw[h,if_neg (fun h=>h rfl),if_pos u,if_pos C]
def qxj(h:dJ D M k v p=(n,0))(u:n.Q4=true)(C:¬n.J6[dN n.J6 key]?=some key):gT D k v key val (f+1) M p=fY k v M p { n with J6:=fE n.J6 (dN n.J6 key) key,Q0:=fE n.Q0 (dN n.J6 key) val } true:=by unfold gT;rw[h,if_neg (fun h=>h rfl),if_pos u,if_neg C]
def qqA(h:dJ D M k v p=(n,0))(u:¬n.Q4=true)(C:gT D k v key val f M (n.J9.getD (en n.J6 key) 0)=((g,e1),M1))(E:e1≠0):gT D k v key val (f+1) M p=((nW,e1),M1):=by unfold gT;rw[h,if_neg (fun h=>h rfl),if_neg u];dsimp only;rw[C,if_pos E]
def qxk(h:dJ D M k v p=(n,0))(u:¬n.Q4=true)(C:gT D k v key val f M (n.J9.getD (en n.J6 key) 0)=((g,0),M1))(E:g.x5=n.J9.getD (en n.J6 key) 0/\g.x4=0):gT D k v key val (f+1) M p=((⟨p,g.J8,[],0⟩,0),M1):=by unfold gT;rw[h,if_neg (fun h=>h rfl),if_neg u];dsimp only;rw[C,if_neg (fun h=>h rfl),if_pos E]
def qz8(h:dJ D M k v p=(n,0))(u:¬n.Q4=true)(C:gT D k v key val f M (n.J9.getD (en n.J6 key) 0)=((g,0),M1))(E:¬(g.x5=n.J9.getD (en n.J6 key) 0/\g.x4=0)):gT D k v key val (f+1) M p=fY k v M1 p (gw n (en n.J6 key) g) g.J8:=by unfold gT;rw[h,if_neg (fun h=>h rfl),if_neg u];dsimp only;rw[C,if_neg (fun h=>h rfl),if_neg E]
end
def qyA(u:n.Q4=true)(C:n.Q0.length=n.J6.length):(eP n k v).1>(eP n k v).2->oc n ((eP n k v).1 / 2):=fun h=>by unfold oc;have e:(eP n k v).1=n.J6.length:=(by unfold eP;rw[if_pos u]);rw[if_pos u,C];rw[e] at h⊢;omega
def qw9(u:¬n.Q4=true)(C:n.J6.length+1=n.J9.length)(E:2<=n.J9.length):(eP n k v).1>(eP n k v).2->oc n ((eP n k v).1 / 2):=fun h=>by unfold oc;have e:(eP n k v).1=n.J9.length:=(by unfold eP;rw[if_neg u]);rw[if_neg u];rw[e] at h⊢;omega
def A3{α:Type}{l:List α}{x:α}(h:i<=l.length):(fE l i x).length=l.length+1:=by unfold fE;simp;omega
def dZ.cP{l:List Int}{i:Int}{K:Addr->Int->Prop}(h:dZ iu 1 S w s l)(n:Nat)(hi:i=n)(R:n<l.length)(U:∀a,(∀S' w',dZ iu 1 S' w' s l->w'.cell? a=some (.u l[n]))->K a l[n]):idx s i 1 fun a=>ld .u a w fun y=>K a y:=by
 subst hi;have I:l[n]?=some l[n]:=zA R;obtain⟨hl,b,o,J,_,cs,T,fr,hb,hc⟩:=h.at n I;refine qj J ⟨oJ,oJ⟩ ?_;rw[zJ];have key:∀S' w',dZ iu 1 S' w' s l->w'.cell? ⟨b,o+n*1,none⟩=some (.u l[n]):=fun S' w' V=>by
  obtain⟨_,b',o',C,_,aa,T',ab,E,G⟩:=V.at n I;rw[J] at C;cases C;rw[ji E]
  have:=congrArg (·[0]?) G
  simpa[iu] using this
 exact pr l[n] (key S w h) (U _ key)
section
variable {dbk pb j:Nat} {FD S0 N0 Y F F' F0 T B:List Nat} {D:dI} {w0 wa w w':World} {M M':dY} {L:List (Nat×Obj)} {x:ka} {n:dL} {k v:Nat} {t:Int}
def Ed.load{w7:World}(C:∀b∈N0,b∈S0)(g:Sg S0 w0 wa F T)(h:dQ T wa w L)(G:TW dbk pb FD D j w7 (B++(fi L++Y)) F M)(I:fc (Zo FD (B++(fi L++Y)) F) w7 x n B)(f:Fr [] w w7)(E:∀c∈B,w.heap.size<=c)(J:∀b∈Y,b<w.heap.size): Ed dbk pb FD D j S0 N0 w0 w7 (fi L) Y F M x n B/\dQ (fi L) w7 w7 L:=by
 refine⟨⟨g.cA h f,G.y0 fun b u=>?_,I.j6 fun b u=>.inl ?_,fun b u R=>?_,fun b u=>.inr (zL (g.fr h).size (E b u)),C,fun b u U=>?_⟩,ql h f fun _ _ h=>nomatch h⟩;simp only[zD] at u⊢;rcases u with u|u|u<;>simp[u];simp only[Zo,zD,zG] at u⊢;rcases u with (u|u|u|u|u)|u<;>simp[u]
 have:=wg h b u;have:=E b R;omega
 have:=J b U;have:=E b u;omega
def Ed.y6(e:Ed dbk pb FD D j S0 N0 w0 w T Y F M x n B):dZ iu 1 (Zo FD (T++Y) F) w x.2.2.2 n.J9:=e.y9.2.2.2.2
def Ed.fr(e:Ed dbk pb FD D j S0 N0 w0 w T Y F M x n B):Fr S0 w0 w:=e.sg.pO
def lH{L':List (Nat×Obj)}(h:dQ T wa w L)(u:L'.Sublist L):dQ (fi L') w w L':=(h.sub u).ln
def DI{ks vs:Sl}{key val:Key}(af:eF key)(ai:eF val):∀(f:Nat) {Y F:List Nat} {w0:World} {M:dY} {p:Int} {K:CJ×Int->WP} (hT:TW dbk pb FD D j w0 Y F M) (hp:gC p) (hk:eh (Zo FD Y F) w0 ks key) (hv:eh (Zo FD Y F) w0 vs val) (am:(gT D k v key val f M p).1.2≠-1) (kk:∀gs F' w',GS (gT D k v key val f M p).1.1->TW dbk pb FD D j w' Y F' (gT D k v key val f M p).2->eh (Zo FD Y F') w' gs (gT D k v key val f M p).1.1.key->Fr F w0 w'->(∀b∈F',b∈F\/w0.heap.size<=b)->K (sW (gT D k v key val f M p).1.1 gs,(gT D k v key val f M p).1.2) w'), cW 132 [.agg (mZ (jx k v pb t)),.u p,ks.v,vs.v] [.agg pH,.one .i] w0 K
 | 0,_,_,_,_,_,_,_,_,_,_,am,_=>absurd rfl am
 | f+1,Y,F,w0,M,p,K,hT,hp,hk,hv,am,kk=>by
  refine qnl ?_;unfold CI Ec Cr;have h:=oE [] w0;have g:=Sg.start F w0;refine oB h fun r1 w2 _ _ h=>oB h fun r3 w4 _ _ h=>oC h 1 rfl (jx k v pb t) rfl ?_;rcases R:dJ D M k v p with ⟨n,e0⟩;refine Ap (k:=k) (v:=v) (hT.cB h) hp fun x B w7 bg aL f7 bh=>?_;rw[R] at aL⊢;dsimp only at aL;obtain⟨e,h⟩:=Ed.load (N0:=[]) (fun _ h=>nomatch h) g h bg aL f7 bh fun b hb=>yD (hT.qo b hb) h.fr.size;refine oB h fun r8 w9 _ _ h=>oD h 0 rfl (eJ x) fun bT h _=>dW (fun hc=>?_) (fun hc=>?_);have aW:e0≠0:=by rw[zT] at hc;exact zR.1 hc
  rw[qyI R aW] at kk;exact oD h 1 rfl (pD (0,false,dG,0)) fun bi h _=>oC h 1 rfl (0,false,dG,0) rfl<|kk dG F bi Fy (e.J0 h).qs.j7 (.nil _ _ _ _) (e.J0 h).fr (e.J0 h).sg.new;have bj:e0=0:=by rw[yE] at hc;exact yP.1 hc
  subst bj;have hr:=AK R;obtain⟨l1,l2,l3,l4,l5⟩:=uK hr;have e:=e.J0 h;have h:=lH h (.refl _);have aX:x.1=n.Q4:=e.node.1;refine oA h 0 rfl x.1 rfl<|dW (fun hc=>?_) (fun hc=>?_);rw[aX] at hc;obtain⟨l6,l7⟩:=l4 hc;refine oC h 0 rfl x rfl<|Ds e.y9 (e.cT hk) af hr.2.2.1 oJ fun bX bm=>?_;obtain⟨e,h⟩:=e.cA h bm;have ao:=G5 n.J6 key;refine gW (fun _ w'=>∃x' n' B',dQ [r8,r3,r1] w' w' [(r8,.cells (eJ x') ND (0,0)),(r3,.cells (pD (0,false,dG,0)) GR (0,0)),(r1,.cells (mZ (jx k v pb t)) WK (0,0))]/\Ed dbk pb FD D j F [] w0 w' [r8,r3,r1] Y F M x' n' B'/\
   gT D k v key val (f+1) M p=fY k v M p n' (!decide (n.J6[dN n.J6 key]?=some key))/\n'.Q4=true/\n'.Q0.length=n'.J6.length/\n'.J6.length<=1000/\n'.J9.length<=1000) ?_ ?_
  refine dW (fun U=>?_) (fun U=>?_);have aN:=zC U;have bY:=(zP.1 aN).1;refine oA h 0 rfl x.2.2.1 rfl<|e.E7 h (i:=dN n.J6 key) oJ rfl (e.cT hv) ai fun B' bZ e h _=>⟨x,_,B',h,e,?_,hc,by dsimp only;rw[xG];exact l6,by dsimp only;omega,by dsimp only;omega⟩;rw[qyJ R hc aN,yA aN];rfl;have aC:=zB U;have I:gT D k v key val (f+1) M p=fY k v M p { n with J6:=fE n.J6 (dN n.J6 key) key,Q0:=fE n.Q0 (dN n.J6 key) val } (!decide (n.J6[dN n.J6 key]?=some key)):=by rw[qxj R hc aC,zU aC];rfl
  have ap:(fE n.Q0 (dN n.J6 key) val).length=(fE n.J6 (dN n.J6 key) key).length:=(by rw[A3 oJ,A3 ao,l6]);have aq:(fE n.J6 (dN n.J6 key) key).length<=1000:=(by rw[A3 ao];omega);refine⟨?_,?_,?_⟩;have h:=oF h;refine oA h 0 rfl x.2.1 rfl<|oA h 0 rfl x.2.2.1 rfl<|oB h fun b0 b1 _ _ h=>ko (h.cell 1 rfl rfl) (h.cell 1 rfl rfl) ?_;have e:=e.J0 h;refine e.cO h (i:=dN n.J6 key) ao rfl oJ 0 rfl (e.cT hk) af fun ab B1 aY e h _=>ig (h.cell 1 rfl rfl)<|oB h fun b2 b3 _ _ h=>ko (h.cell 2 rfl rfl) (h.cell 2 rfl rfl) ?_;have e:=e.J0 h;exact e.sC h (i:=dN n.J6 key) oN rfl oN 0 rfl (e.cT hv) ai fun ar B2 aZ e h _=>oD h 2 rfl (eJ (x.1,ab,x.2.2.1,x.2.2.2)) fun a0 h _=>oD h 2 rfl (eJ (x.1,ab,ar,x.2.2.2)) fun a1 h _=>⟨_,_,B2,lH h (.cons _ (.cons _ (.refl _))),(e.J0 h).sub oL,I,hc,ap,aq,by dsimp only;omega⟩;have h:=oF h;refine oA h 0 rfl x.2.1 rfl<|oA h 0 rfl x.2.2.1 rfl<|oB h fun b4 b5 _ _ h=>ko (h.cell 1 rfl rfl) (h.cell 1 rfl rfl)<|oB h fun b6 b7 _ _ h=>ko (h.cell 2 rfl rfl) (h.cell 2 rfl rfl) ?_;have e:=e.J0 h;exact e.cO h (i:=dN n.J6 key) ao rfl oJ 1 rfl (e.cT hk) af fun ab B1 aY e h _=>ig (h.cell 2 rfl rfl)<|e.sC h (i:=dN n.J6 key) oN rfl oN 0 rfl (e.cT hv) ai fun ar B2 aZ e h _=>oD h 2 rfl (eJ (x.1,ab,x.2.2.1,x.2.2.2)) fun a0 h _=>oD h 2 rfl (eJ (x.1,ab,ar,x.2.2.2)) fun a1 h _=>⟨_,_,B2,lH h (.cons _ (.cons _ (.refl _))),(e.J0 h).sub oL,I,hc,ap,aq,by dsimp only;omega⟩;have h:=oF h;refine oA h 0 rfl x.2.1 rfl<|oA h 0 rfl x.2.2.1 rfl<|oB h fun b8 b9 _ _ h=>ko (h.cell 1 rfl rfl) (h.cell 1 rfl rfl)<|oB h fun ca cc _ _ h=>ko (h.cell 2 rfl rfl) (h.cell 2 rfl rfl) ?_;have e:=e.J0 h;exact e.cO h (i:=dN n.J6 key) ao rfl oJ 0 rfl (e.cT hk) af fun ab B1 aY e h _=>ig (h.cell 2 rfl rfl)<|e.sC h (i:=dN n.J6 key) oN rfl oN 1 rfl (e.cT hv) ai fun ar B2 aZ e h _=>oD h 2 rfl (eJ (x.1,ab,x.2.2.1,x.2.2.2)) fun a0 h _=>oD h 2 rfl (eJ (x.1,ab,ar,x.2.2.2)) fun a1 h _=>⟨_,_,B2,lH h (.cons _ (.cons _ (.refl _))),(e.J0 h).sub oL,I,hc,ap,aq,by dsimp only;omega⟩;rintro _ cd ⟨x',n',B',h,e,I,m0,m1,m2,m3⟩;rw[I] at kk;refine oC h 2 rfl (jx k v pb t) rfl<|oC h 0 rfl x' rfl<|qqN (Y:=[r8,r3,r1]++Y) e.qs e.y9 oJ oJ oJ (qyA m0 m1) hp fun gs F' cg hG a2 C a3 bn=>?_;have g:=e.sg.next h a3 bn
  have h:=ql h a3 fun b hb=>e.qs.yf b (by simp at hb⊢;rcases hb with h|h|h<;>simp[h]);exact oG h 1 rfl (pD (sW (fY k v M p n' (!decide (n.J6[dN n.J6 key]?=some key))).1.1 gs)) rfl rfl (zO rfl) fun bo h _=>oC h 1 rfl (sW (fY k v M p n' (!decide (n.J6[dN n.J6 key]?=some key))).1.1 gs) rfl<|kk gs F' bo hG (a2.J0 h).j7 (EE (pL C h)) (g.fr h) g.new
  ·rw[aX] at hc;have aj:¬n.Q4=true:=(by rw[hc];decide);obtain⟨l6,l7,l8⟩:=l5 hc;refine oC h 0 rfl x rfl<|Bm e.y9 (e.cT hk) af hr.2.2.1 oJ fun ch bp=>?_;obtain⟨e,h⟩:=e.cA h bp;have au:=yi n.J6 key;generalize ax:en n.J6 key=c at au⊢;have ak:c<n.J9.length:=oJ;have aO:n.J9.getD c 0=n.J9[c]:=(by rw[yR,zA ak];rfl);have hu:gC n.J9[c]:=e.node.2.1.2.2 _ (zX ak);rcases av:gT D k v key val f M n.J9[c] with ⟨⟨E,e1⟩,M1⟩;have ac:gT D k v key val f M (n.J9.getD (en n.J6 key) 0)=((E,e1),M1):=(by rw[ax,aO];exact av);have aE:e1≠-1:=fun h1=>by rw[h1] at ac;rw[qqA R aj ac oM] at am;exact am rfl
   refine⟨?a,?b⟩;case' a=>
    have h:=oF h;have e:=e.J0 h;refine oC h 2 rfl (jx k v pb t) rfl<|oA h 0 rfl x.2.2.2 rfl<|dZ.cP e.y6 c rfl ak fun bq hh=>DI af ai f e.tw hu (e.cT hk) (e.cT hv) (by rw[av];exact aE) fun gs F1 bt hG ad C aP aQ=>?_;rw[av] at hG ad C⊢;obtain⟨e,h⟩:=e.next h ad aP aQ
    refine oB h fun aw bu _ _ h=>mK (hh _ _ (e.J0 h).y6) (h.cell 1 rfl rfl) (h.cells 3 rfl rfl)<|oD h 0 rfl (pD (sW E gs)) fun a5 h _=>?_;have C:=pL C h;have e:=e.J0 h;have h:=lH h (.refl _)
   case' b=>
    have h:=oF h;have e:=e.J0 h;have h:=lH h (.refl _);refine oC h 2 rfl (jx k v pb t) rfl<|oA h 0 rfl x.2.2.2 rfl<|dZ.cP e.y6 c rfl ak fun bq hh=>oB h fun aw bu _ _ h=>?_;have e:=e.J0 h;refine mK (hh _ _ e.y6) (h.cell 1 rfl rfl) (h.cells 3 rfl rfl)<|DI af ai f e.tw hu (e.cT hk) (e.cT hv) (by rw[av];exact aE) fun gs F1 bt hG ad C aP aQ=>?_;rw[av] at hG ad C⊢;obtain⟨e,h⟩:=e.next h ad aP aQ
    refine oD h 0 rfl (pD (sW E gs)) fun a5 h _=>?_;have C:=pL C h;have e:=e.J0 h;have h:=lH h (.refl _)
   all_goals
    refine dW (fun U=>?_) (fun U=>?_);have a6:e1≠0:=by rw[zT] at U;exact zR.1 U
    rw[qqA R aj ac a6] at kk;exact oD h 2 rfl (pD (0,false,dG,0)) fun bv h _=>oC h 2 rfl (0,false,dG,0) rfl<|kk dG F1 bv Fy (e.J0 h).qs.j7 (.nil _ _ _ _) (e.J0 h).fr (e.J0 h).sg.new;have bx:e1=0:=by rw[yE] at U;exact yP.1 U
    subst bx;refine gW (fun b w'=>b=decide (E.x5=n.J9[c]/\E.x4=0)/\w'=a5.drew) ?_ ?_;have h:=oF h;refine oA h 0 rfl E.x5 rfl<|oA h 1 rfl x.2.2.2 rfl<|dZ.get (e.J0 h).y6 c rfl (zA ak) (y:=n.J9[c]) rfl<|dW (fun G=>?_) (fun G=>?_);have G:E.x5=n.J9[c]:=yP.1 G;refine oA h 0 rfl E.x4 rfl ⟨?_,rfl⟩;rw[Bool.eq_iff_iff,yP,yN];exact⟨fun h=>⟨G,h⟩,fun h=>h.2⟩;have G:E.x5≠n.J9[c]:=zR.1 G;exact⟨(zU fun h=>G h.1).symm,rfl⟩;rintro bB bC ⟨rfl,rfl⟩;have h:=oF h;have C:=pL C h;have e:=e.J0 h;have h:=lH h (.refl _);refine dW (fun G=>?_) (fun G=>?_);have G:=zC G;rw[<- aO,<- ax] at G;rw[qxk R aj ac G] at kk;exact oA h 0 rfl E.J8 rfl<|oD h 2 rfl (pD (p,E.J8,dG,0)) fun a7 h _=>oC h 2 rfl (p,E.J8,dG,0) rfl<|kk dG F1 a7 ⟨hp,tZ,.nil⟩ (e.J0 h).qs.j7 (.nil _ _ _ _) (e.J0 h).fr (e.J0 h).sg.new;have G:=zB G;rw[<- aO,<- ax] at G;have I:=qz8 R aj ac G;rw[ax] at I;rw[I] at kk;refine oA h 1 rfl x.2.2.2 rfl<|oA h 0 rfl E.x5 rfl<|e.tT h (i:=c) ak rfl hG.x5 fun B1 bD e h kp=>?_;have C:=kp.cT _ _ C;refine gW (fun _ w'=>∃x' B',dQ [aw,r8,r3,r1] w' w' [(aw,.cells (pD (sW E gs)) GR (0,0)),(r8,.cells (eJ x') ND (0,0)),(r3,.cells (pD (0,false,dG,0)) GR (0,0)),(r1,.cells (mZ (jx k v pb t)) WK (0,0))]/\Ed dbk pb FD D j F [] w0 w' [aw,r8,r3,r1] Y F1 M1 x' (gw n c E) B'/\
     ¬(gw n c E).Q4=true/\(gw n c E).J6.length+1=(gw n c E).J9.length/\2<=(gw n c E).J9.length/\(gw n c E).J9.length<=1000/\(gw n c E).Q0.length<=1000) ?_ ?_
    refine oA h 0 rfl E.x4 rfl<|dW (fun V=>?_) (fun V=>?_);have V:E.x4≠0:=by rw[zT] at V;exact zR.1 V
    have eg:gw n c E={ n with J9:=fE (n.J9.set c E.x5) (c+1) E.x4,J6:=fE n.J6 c E.key }:=(by unfold gw;rw[if_pos V]);have ah:¬(gw n c E).Q4=true/\(gw n c E).J6.length+1=(gw n c E).J9.length/\2<=(gw n c E).J9.length/\(gw n c E).J9.length<=1000/\(gw n c E).Q0.length<=1000:=(by rw[eg];dsimp only;rw[A3 au,A3 (l:=n.J9.set c E.x5) (by rw[xG];omega),xG];exact⟨aj,oJ,oJ,oJ,oJ⟩);rw[eg] at ah⊢;have ew:wrap .i64 ((c:Int)+1)=((c+1:Nat):Int):=qZ oJ;rw[ew];refine⟨?_,?_,?_⟩;have h:=oF h;refine oA h 1 rfl x.2.2.2 rfl<|oA h 0 rfl E.x4 rfl<|oA h 1 rfl x.2.1 rfl<|oA h 0 rfl gs rfl<|oB h fun bE bF _ _ h=>mK (h.cell 1 rfl rfl) (h.cell 2 rfl rfl) (h.cell 2 rfl rfl) ?_;have C:=pL C h;have e:=e.J0 h;refine e.sq h (i:=c+1) (by dsimp only;rw[xG];omega) rfl (by dsimp only;rw[xG];omega) 0 rfl hG.x4 fun J B2 aF e h kp=>?_;have C:=kp.cT _ _ C;refine ko (h.cell 1 rfl rfl) (h.cell 2 rfl rfl)<|oB h fun bG bH _ _ h=>mK (h.cell 3 rfl rfl) (h.cell 2 rfl rfl) (h.cell 3 rfl rfl) ?_;have C:=pL C h;have e:=e.J0 h;exact e.cO h (i:=c) au rfl oN 0 rfl C hG.key fun ae B3 aG e h _=>oD h 3 rfl (eJ (x.1,x.2.1,x.2.2.1,J)) fun aH h _=>oD h 3 rfl (eJ (x.1,ae,x.2.2.1,J)) fun aI h _=>⟨_,B3,lH h (.cons _ (.cons _ (.refl _))),(e.J0 h).sub oL,ah⟩;have h:=oF h;refine oA h 1 rfl x.2.2.2 rfl<|oA h 0 rfl E.x4 rfl<|oA h 1 rfl x.2.1 rfl<|oA h 0 rfl gs rfl<|oB h fun bI bJ _ _ h=>mK (h.cell 1 rfl rfl) (h.cell 2 rfl rfl) (h.cell 2 rfl rfl)<|oB h fun bK bL _ _ h=>mK (h.cell 3 rfl rfl) (h.cell 2 rfl rfl) (h.cell 3 rfl rfl) ?_;have C:=pL C h;have e:=e.J0 h;refine e.sq h (i:=c+1) (by dsimp only;rw[xG];omega) rfl (by dsimp only;rw[xG];omega) 1 rfl hG.x4 fun J B2 aF e h kp=>?_;have C:=kp.cT _ _ C;exact ko (h.cell 2 rfl rfl) (h.cell 3 rfl rfl)<|e.cO h (i:=c) au rfl oN 0 rfl C hG.key fun ae B3 aG e h _=>oD h 3 rfl (eJ (x.1,x.2.1,x.2.2.1,J)) fun aH h _=>oD h 3 rfl (eJ (x.1,ae,x.2.2.1,J)) fun aI h _=>⟨_,B3,lH h (.cons _ (.cons _ (.refl _))),(e.J0 h).sub oL,ah⟩;have h:=oF h;refine oA h 1 rfl x.2.2.2 rfl<|oA h 0 rfl E.x4 rfl<|oA h 1 rfl x.2.1 rfl<|oA h 0 rfl gs rfl<|oB h fun bM bN _ _ h=>mK (h.cell 2 rfl rfl) (h.cell 1 rfl rfl) (h.cell 2 rfl rfl)<|oB h fun bO bP _ _ h=>mK (h.cell 2 rfl rfl) (h.cell 3 rfl rfl) (h.cell 3 rfl rfl) ?_;have C:=pL C h;have e:=e.J0 h;refine e.sq h (i:=c+1) (by dsimp only;rw[xG];omega) rfl (by dsimp only;rw[xG];omega) 0 rfl hG.x4 fun J B2 aF e h kp=>?_;have C:=kp.cT _ _ C;exact ko (h.cell 2 rfl rfl) (h.cell 3 rfl rfl)<|e.cO h (i:=c) au rfl oN 1 rfl C hG.key fun ae B3 aG e h _=>oD h 3 rfl (eJ (x.1,x.2.1,x.2.2.1,J)) fun aH h _=>oD h 3 rfl (eJ (x.1,ae,x.2.2.1,J)) fun aI h _=>⟨_,B3,lH h (.cons _ (.cons _ (.refl _))),(e.J0 h).sub oL,ah⟩;have V:¬E.x4≠0:=(by rw[yE] at V;exact fun hh=>hh (yP.1 V));have eg:gw n c E={ n with J9:=n.J9.set c E.x5 }:=(by unfold gw;rw[if_neg V]);rw[eg];exact⟨x,B1,h,e,aj,by dsimp only;rw[xG];omega,by dsimp only;rw[xG];omega,by dsimp only;rw[xG];omega,by dsimp only;omega⟩;rintro _ bQ ⟨x',B',h,e,q1,q2,q3,q4,q5⟩;refine oC h 3 rfl (jx k v pb t) rfl<|oC h 1 rfl x' rfl<|oA h 0 rfl E.J8 rfl<|qqN (Y:=[aw,r8,r3,r1]++Y) e.qs e.y9 oJ oJ oJ (qw9 q1 q2 q3) hp fun aT F2 bR bz aU a9 aJ a'=>?_;have g:=e.sg.next h aJ a'
    have h:=ql h aJ fun b hb=>e.qs.yf b (by simp at hb⊢;rcases hb with h|h|h|h<;>simp[h]);exact oG h 2 rfl (pD (sW (fY k v M1 p (gw n c E) E.J8).1.1 aT)) rfl rfl (zO rfl) fun ba h _=>oC h 2 rfl (sW (fY k v M1 p (gw n c E) E.J8).1.1 aT) rfl<|kk aT F2 ba bz (aU.J0 h).j7 (EE (pL a9 h)) (g.fr h) g.new
end
end
section
def qh{H u C E:WP}{K:Prop}(h:H w)(G:u w)(I:C w)(J:E w)(k:K):held [H,u,C,E] w K:=by unfold held;exact⟨⟨h,G,I,J⟩,k⟩
structure pG (S0 Z:List Nat) (w:World) (x:ka) (n:dL) (pk pv:pj):Prop where
 lens:nQ x n
 nb:NB n
 J6:ga pk=n.J6
 Q0:ga pv=n.Q0
 rk:dZ gp 1 S0 w x.2.1 (ir pk)
 rv:dZ gp 1 S0 w x.2.2.1 (ir pv)
 ri:dZ iu 1 S0 w x.2.2.2 n.J9
 ek:∀ p∈pk,eh Z w p.1 p.2
 ev:∀ p∈pv,eh Z w p.1 p.2
section
variable {S S0 S0' Z Z' B:List Nat} {w w':World} {x:ka} {n:dL} {pk pv:pj}
def fc.AT(h:fc Z w x n B)(C:∀b∈B,b∉S0):∃pk pv,pG S0 Z w x n pk pv:=by have G:eC [] w x n:=h.rd (fun _ _ h=>(nomatch h)) fun _ h=>nomatch h;have I:=G.lens;obtain⟨h0,E,Bk,Bv,Bi,rfl,J,⟨pk,R,U,V⟩,⟨pv,v1,v2,v3⟩,hi⟩:=h;exact⟨pk,pv,I,E,U,v2,R.jo u9 fun b u=>C b (by simp[u]),v1.jo u9 fun b u=>C b (by simp[u]),hi.jo qS fun b u=>C b (by simp[u]),V,v3⟩
def pG.q8(h:pG S0 Z w x n pk pv)(f:Fr S w w')(G:∀b∈S,b∈S0)(E:∀b∈S,b∈Z)(C:mn S0 w S0')(J:mn Z w Z'):pG S0' Z' w' x n pk pv where
 lens:=h.lens
 nb:=h.nb
 J6:=h.J6
 Q0:=h.Q0
 rk:=h.rk.q8 (f.mono fun b u _=>G b u) C
 rv:=h.rv.q8 (f.mono fun b u _=>G b u) C
 ri:=h.ri.q8 (f.mono fun b u _=>G b u) C
 ek:=fun p I=>(h.ek p I).q8 (f.mono fun b u _=>E b u) J
 ev:=fun p I=>(h.ev p I).q8 (f.mono fun b u _=>E b u) J
def pG.tj(h:pG S0 Z w x n pk pv):pk.length=n.J6.length:=by rw[<- h.J6,zK]
def pG.ws(h:pG S0 Z w x n pk pv):pv.length=n.Q0.length:=by rw[<- h.Q0,zK]
def pG.rdK(h:pG S0 Z w x n pk pv)(u:∀b∈S0,b∈Z):jg S0 w x.2.1 pk:=⟨h.rk,fun p C=>(h.ek p C).q8 (.refl _ _) fun b E=>.inl (u b E)⟩
def pG.rdV(h:pG S0 Z w x n pk pv)(u:∀b∈S0,b∈Z):jg S0 w x.2.2.1 pv:=⟨h.rv,fun p C=>(h.ev p C).q8 (.refl _ _) fun b E=>.inl (u b E)⟩
def dZ.cF{i:Int}{K:Addr->Sl->Prop}(h:dZ gp 1 S w s (ir ps))(n:Nat)(hi:i=n)(J:n<ps.length)(R:∀a,(∀S' w',dZ gp 1 S' w' s (ir ps)->w'.cell? a=some (.slice ps[n].1.a ps[n].1.len ps[n].1.cap))->K a ps[n].1):idx s i 1 fun a=>ld .slice a w fun y=>K a y:=by
 subst hi;have G:(ir ps)[n]?=some ps[n].1:=(by rw[zQ,zA J];rfl);obtain⟨hl,b,o,I,_,cs,T,fr,hb,hc⟩:=h.at n G;refine qj I ⟨oJ,oJ⟩ ?_;rw[zJ];have key:∀S' w',dZ gp 1 S' w' s (ir ps)->w'.cell? ⟨b,o+n*1,none⟩=some (.slice ps[n].1.a ps[n].1.len ps[n].1.cap):=fun S' w' U=>by
  obtain⟨_,b',o',u,_,V,T',aa,C,E⟩:=U.at n G;rw[I] at u;cases u;rw[ji C]
  have:=congrArg (·[0]?) E
  simpa[gp] using this
 exact pr ps[n].1 (key S w h) (R _ key)
def pG.mG(h:pG S0 Z w x n pk pv)(hi:i<pk.length):n.J6.getD i []=pk[i].2:=by rw[<- h.J6,wD hi]
def pG.rL(h:pG S0 Z w x n pk pv)(hi:i<pv.length):n.Q0.getD i []=pv[i].2:=by rw[<- h.Q0,wD hi]
def ue{n:dL}(hi:i<n.J9.length):n.J9.getD i 0=n.J9[i]:=by rw[yR,zA hi];rfl
end
structure gE (n:dL):Prop where
 Q4:n.Q4=true->n.Q0.length=n.J6.length
 inner:n.Q4=false->n.J9.length=n.J6.length+1
 J6:n.J6.length<=2000
 Q0:n.Q0.length<=2000
 J9:n.J9.length<=2000
section
variable {dbk pb j:Nat} {FD Y F Bl Br:List Nat} {D:dI} {w0:World} {M:dY} {xl xr:ka} {nl nr:dL} {ks:Sl} {key:Key}
def zoT{b:Nat}(h:b∈T):b∈Zo FD (T++Y) F:=by simp[h]
def A7:∀b∈Zo FD Y F,b∈Zo FD (T++(Bl++Y)) F:=fun b h=>by simp only[Zo,zD,zG] at h⊢;rcases h with (h|h|h)|h<;>simp[h]
def xw{α:Type}(l:List α)(x:α):fE l 0 x=x::l:=by unfold fE;simp
def qyp{K:ka×ka×Sl->WP}(hT:TW dbk pb FD D j w0 (Br++(Bl++Y)) F M)(hl:fc (Zo FD (Br++(Bl++Y)) F) w0 xl nl Bl)(hr:fc (Zo FD (Br++(Bl++Y)) F) w0 xr nr Br)(d1:∀b∈Br,b∉Bl)(d2:∀b∈Br,b∉Y)(d3:∀b∈Bl,b∉Y)(hk:eh (Zo FD (Br++(Bl++Y)) F) w0 ks key)(aw:eF key)(bd:nl.Q4=nr.Q4)(h1:1<=nl.J6.length)(sl:gE nl)(sr:gE nr)(kk:∀yl yr aC w',TW dbk pb FD D j w' Y F M->eC (Zo FD Y F) w' yl (iQ nl nr key).1->eC (Zo FD Y F) w' yr (iQ nl nr key).2.1->eh (Zo FD Y F) w' aC (iQ nl nr key).2.2->Fr (Br++F) w0 w'->K (yl,yr,aC) w'): cW 204 [.agg (eJ xl),.agg (eJ xr),ks.v] [.agg dX,.agg dX,.one .slice] w0 K:=by
 refine qsW ?_;unfold C8 Cn;obtain⟨pk,pv,o⟩:=hl.AT (S0:=Br++Zo FD Y F) fun b u hm=>by rcases zD.1 hm with hm|hm;exact d1 b hm u;have h0:=hT.sep b (by simp[u]);simp only[Zo,zD,zG] at hm;rcases hm with (hm|hm|hm)|hm;exact h0.1 hm;exact h0.2 hm;exact d3 b u hm;exact hT.yf b (by simp[u]) hm
 have e0:Ed dbk pb FD D j (Br++F) Br w0 w0 [] (Bl++Y) F M xr nr Br:=⟨⟨.refl _ _,fun b u=>.inl (by simp[u]),fun _ h=>nomatch h⟩,hT,hr,fun _ h=>(nomatch h),fun b u=>.inl u,fun b u=>by simp[u],fun b u hm=>(zD.1 hm).elim (d1 b u) (d2 b u)⟩;have ad:∀b∈Br++Zo FD Y F,b∈Zo FD (Br++(Bl++Y)) F:=fun b u=>by simp only[Zo,zD,zG] at u⊢;rcases u with u|(u|u|u)|u<;>simp[u]
 have ae:∀b∈Br++F,b∈Br++Zo FD Y F:=fun b u=>by simp only[Zo,zD,zG] at u⊢;rcases u with u|u<;>simp[u]
 have nZ:∀ {w' T x' n' B'},Ed dbk pb FD D j (Br++F) Br w0 w' T (Bl++Y) F M x' n' B'->mn (Zo FD (Br++(Bl++Y)) F) w0 (Zo FD (T++(B'++(Bl++Y))) F):=fun e b u=>by simp only[Zo,zD,zG] at u;rcases u with (u|u|u|u|u|u)|u;exact .inl (by simp[u]);exact .inl (by simp[u]);exact (e.sg.own b u).imp (fun h=>ad b (ae b h)) id;exact (e.cE b u).imp (fun h=>ad b (ae b (e.cR b h))) id;exact .inl (by simp[u]);exact .inl (by simp[u]);exact .inl (by simp[u])
 have R:∀ {w' T x' n' B'},Ed dbk pb FD D j (Br++F) Br w0 w' T (Bl++Y) F M x' n' B'->pG (Br++Zo FD Y F) (Zo FD (T++(B'++(Bl++Y))) F) w' xl nl pk pv:=fun e=>o.q8 e.fr ae (fun b u=>ad b (ae b u)) (fun b u=>.inl u) (nZ e);have aD:=o.rdK ad;have aE:=o.rdV ad;have af:∀ {w' T x' n' B'},Ed dbk pb FD D j (Br++F) Br w0 w' T (Bl++Y) F M x' n' B'->Fr (Br++Zo FD Y F) w0 w':=fun e=>e.fr.mono fun b u _=>ae b u;have ag:∀b∈Zo FD Y F,b∈Br++Zo FD Y F\/w0.heap.size<=b:=fun b u=>.inl (zI _ u);have U:=o.lens;have kl:=o.tj;have vl:=o.ws;have sk:=sl.J6;have bf:=sr.J6;have bg:=sr.Q0;have bh:=sr.J9;have aO:wrap .i64 ((xl.2.1.len:Int)-1)=((nl.J6.length-1:Nat):Int):=(by rw[U.J6,gg _ oJ];omega);have h:=oE [] w0;refine oB h fun r1 w2 _ _ h=>oB h fun r3 w4 _ _ h=>oB h fun r5 w6 _ _ h=>oB h fun r7 w8 _ _ h=>oA h 3 rfl xl.2.1 rfl<|oA h 3 rfl xl.1 rfl ?_;rw[aO];apply dW<;>intro hc
 ·rw[U.Q4] at hc;have bi:=sl.Q4 hc;have hG:iQ nl nr key=({ nl with J6:=nl.J6.take (nl.J6.length-1),Q0:=nl.Q0.take (nl.J6.length-1) },{ nr with J6:=nl.J6.getD (nl.J6.length-1) []::nr.J6,Q0:=nl.Q0.getD (nl.J6.length-1) []::nr.Q0 },nl.J6.getD (nl.J6.length-1) []):=(by unfold iQ;rw[if_pos hc]);have hi:nl.J6.length-1<pk.length:=oJ;have V:nl.J6.length-1<pv.length:=oJ;rw[hG,o.mG hi,o.rL V] at kk;have ac:eF pk[nl.J6.length-1].2:=(by rw[<- o.mG hi];exact sX o.nb.1 _);have ay:eF pv[nl.J6.length-1].2:=(by rw[<- o.rL V];exact sX o.nb.2.1 _);refine⟨?a1,?a2,?a3⟩;case' a1=>
   have h:=oF h;refine oA h 2 rfl xr.2.1 rfl<|oA h 3 rfl xl.2.1 rfl<|dZ.cF ((o.rk).q7 h.fr) (nl.J6.length-1) rfl hi fun ai G=>oA h 2 rfl xr.2.2.1 rfl<|oA h 3 rfl xl.2.2.1 rfl<|dZ.cF ((o.rv).q7 h.fr) (nl.J6.length-1) rfl V fun aF aa=>oB h fun aj ak _ _ h=>?_;have e:=e0.J0 h;refine qh (aa _ _ (R e).rv) (h.cell 4 rfl rfl) (h.cell 3 rfl rfl) (h.cell 3 rfl rfl)<|e.cO h (i:=0) (yX _) rfl oJ 0 rfl ((R e).ek _ (zX hi)) ac fun C B1 al e h _=>mK (aa _ _ (R e).rv) (h.cell 4 rfl rfl) (h.cell 3 rfl rfl)<|oB h fun am an _ _ h=>?_;have e:=e.J0 h;refine qh (h.cell 4 rfl rfl) (G _ _ (R e).rk) (h.cell 5 rfl rfl) (h.cell 4 rfl rfl)<|e.sC h (i:=0) (yX _) rfl oN 0 rfl ((R e).ev _ (zX V)) ay fun E B2 ao e h _=>?_
  case' a2=>
   have h:=oF h;refine oA h 2 rfl xr.2.1 rfl<|oA h 3 rfl xl.2.1 rfl<|dZ.cF ((o.rk).q7 h.fr) (nl.J6.length-1) rfl hi fun ai G=>oA h 2 rfl xr.2.2.1 rfl<|oA h 3 rfl xl.2.2.1 rfl<|dZ.cF ((o.rv).q7 h.fr) (nl.J6.length-1) rfl V fun aF aa=>oB h fun aj ak _ _ h=>qh (aa _ _ (R (e0.J0 h)).rv) (h.cell 4 rfl rfl) (h.cell 3 rfl rfl) (h.cell 3 rfl rfl)<|oB h fun am an _ _ h=>?_;have e:=e0.J0 h;refine qh (h.cell 4 rfl rfl) (G _ _ (R e).rk) (h.cell 5 rfl rfl) (h.cell 4 rfl rfl)<|e.cO h (i:=0) (yX _) rfl oJ 1 rfl ((R e).ek _ (zX hi)) ac fun C B1 al e h _=>mK (aa _ _ (R e).rv) (h.cell 5 rfl rfl) (h.cell 4 rfl rfl)<|e.sC h (i:=0) (yX _) rfl oN 0 rfl ((R e).ev _ (zX V)) ay fun E B2 ao e h _=>?_
  case' a3=>
   have h:=oF h;refine oA h 2 rfl xr.2.1 rfl<|oA h 3 rfl xl.2.1 rfl<|dZ.cF ((o.rk).q7 h.fr) (nl.J6.length-1) rfl hi fun ai G=>oA h 2 rfl xr.2.2.1 rfl<|oA h 3 rfl xl.2.2.1 rfl<|dZ.cF ((o.rv).q7 h.fr) (nl.J6.length-1) rfl V fun aF aa=>oB h fun aj ak _ _ h=>qh (h.cell 3 rfl rfl) (G _ _ (R (e0.J0 h)).rk) (h.cell 4 rfl rfl) (h.cell 3 rfl rfl)<|oB h fun am an _ _ h=>?_;have e:=e0.J0 h;refine qh (aa _ _ (R e).rv) (h.cell 5 rfl rfl) (h.cell 4 rfl rfl) (h.cell 4 rfl rfl)<|e.cO h (i:=0) (yX _) rfl oJ 0 rfl ((R e).ek _ (zX hi)) ac fun C B1 al e h _=>mK (aa _ _ (R e).rv) (h.cell 5 rfl rfl) (h.cell 4 rfl rfl)<|e.sC h (i:=0) (yX _) rfl oN 1 rfl ((R e).ev _ (zX V)) ay fun E B2 ao e h _=>?_
  all_goals
   refine oD h 4 rfl (eJ (xr.1,C,xr.2.2.1,xr.2.2.2)) fun aQ h _=>oD h 4 rfl (eJ (xr.1,C,E,xr.2.2.2)) fun aR h _=>?_;have h:=oF h;refine oA h 5 rfl xl.2.1 rfl<|jg.upto aD (nl.J6.length-1) rfl oJ fun I ap=>oA h 5 rfl xl.2.2.1 rfl<|jg.upto aE (nl.J6.length-1) rfl oJ fun J aq=>oD h 5 rfl (eJ (xl.1,I,xl.2.2.1,xl.2.2.2)) fun aT h _=>oD h 5 rfl (eJ (xl.1,I,J,xl.2.2.2)) fun aU h _=>?_;have h:=oF h;refine oC h 5 rfl (xl.1,I,J,xl.2.2.2) rfl<|oC h 4 rfl (xr.1,C,E,xr.2.2.2) rfl<|oA h 4 rfl C rfl ?_;have e:=e.J0 h;have h:=lH h (.refl _);obtain⟨q0,qN,⟨qk,au,aI⟩,q4,q5⟩:=e.y9;have az:0<qk.length:=by
    have:=congrArg List.length aI
    dsimp only at this;rw[xw,zK,yI] at this;omega
   have aV:qk[0].2=pk[nl.J6.length-1].2:=(by rw[<- wD az,aI];dsimp only;rw[xw];rfl);refine dZ.cF au.1 0 rfl az fun bj aJ=>oD h 3 rfl (eJ (xl.1,I,J,xl.2.2.2)) fun aW h _=>mK (aJ [] _ (au.1.q8 (h.fr.mono fun b u _=>zoT u) fun _ h=>nomatch h)) (h.cell 4 rfl rfl) (h.cells 4 rfl rfl)<|oD h 2 rfl (eJ (xr.1,C,E,xr.2.2.2)) fun aA h _=>ko (aJ [] _ (au.1.q8 (h.fr.mono fun b u _=>zoT u) fun _ h=>nomatch h)) (h.cell 4 rfl rfl)<|oC h 3 rfl (xl.1,I,J,xl.2.2.2) rfl<|oC h 2 rfl (xr.1,C,E,xr.2.2.2) rfl ?_;have av:=pL (au.2 _ (zX az)) h;rw[aV] at av;have e:=e.J0 h;have hR:=e.y9.j6 (S':=Zo FD Y F) fun b u=>.inl (A7 b u);rw[xw,xw] at hR;exact kk (xl.1,I,J,xl.2.2.2) (xr.1,C,E,xr.2.2.2) _ aA (e.qs.y0 fun b u=>by simp[u]) ⟨U.Q4,⟨fun a ha=>o.nb.1 a (yV ha),fun a ha=>o.nb.2.1 a (yV ha),o.nb.2.2⟩,⟨_,ap.q8 (af e) ag,by rw[zm,o.J6]⟩,⟨_,aq.q8 (af e) ag,by rw[zm,o.Q0]⟩,o.ri.q8 (af e) ag⟩
    hR (av.q8 (.refl _ _) fun b u=>.inl (A7 b u)) e.fr
 ·rw[U.Q4] at hc;have aX:¬nl.Q4=true:=(by rw[hc];decide);have il:=sl.inner hc;have hG:iQ nl nr key=({ nl with J6:=nl.J6.take (nl.J6.length-1),J9:=nl.J9.take (nl.J6.length-1+1) },{ nr with J6:=key::nr.J6,J9:=nl.J9.getD (nl.J6.length-1+1) 0::nr.J9 },nl.J6.getD (nl.J6.length-1) []):=(by unfold iQ;rw[if_neg aX]);have hi:nl.J6.length-1<pk.length:=oJ;have ar:nl.J6.length-1+1<nl.J9.length:=oJ;rw[hG,o.mG hi,ue ar] at kk;have ac:gC nl.J9[nl.J6.length-1+1]:=o.nb.2.2 _ (zX ar);have aY:wrap .i64 (((nl.J6.length-1:Nat):Int)+1)=((nl.J6.length-1+1:Nat):Int):=qZ oJ;rw[aY];have kw:∀ {w' T x' n' B'},Ed dbk pb FD D j (Br++F) Br w0 w' T (Bl++Y) F M x' n' B'->eh (Zo FD (T++(B'++(Bl++Y))) F) w' ks key:=fun e=>hk.q8 (e.fr.mono fun b u _=>ad b (ae b u)) (nZ e);refine oA h 3 rfl xl.2.1 rfl<|dZ.cF ((o.rk).q7 h.fr) (nl.J6.length-1) rfl hi fun a9 a'=>⟨?b1,?b2,?b3⟩;case' b1=>
   have h:=oF h;refine oA h 2 rfl xr.2.1 rfl<|oA h 2 rfl xr.2.2.2 rfl<|oA h 3 rfl xl.2.2.2 rfl<|dZ.cP ((o.ri).q7 h.fr) (nl.J6.length-1+1) rfl ar fun ai G=>oB h fun aj ak _ _ h=>?_;have e:=e0.J0 h;refine qh (G _ _ (R e).ri) (h.cell 4 rfl rfl) (h.cell 3 rfl rfl) (h.cell 3 rfl rfl)<|e.cO h (i:=0) (yX _) rfl oJ 0 rfl (kw e) aw fun C B1 al e h _=>mK (G _ _ (R e).ri) (h.cell 4 rfl rfl) (h.cell 3 rfl rfl)<|oB h fun am an _ _ h=>?_;have e:=e.J0 h;refine ko (h.cell 4 rfl rfl) (h.cell 4 rfl rfl)<|e.sq h (i:=0) (yX _) rfl oN 0 rfl ac fun E B2 ao e h _=>?_
  case' b2=>
   have h:=oF h;refine oA h 2 rfl xr.2.1 rfl<|oA h 2 rfl xr.2.2.2 rfl<|oA h 3 rfl xl.2.2.2 rfl<|dZ.cP ((o.ri).q7 h.fr) (nl.J6.length-1+1) rfl ar fun ai G=>oB h fun aj ak _ _ h=>qh (G _ _ (R (e0.J0 h)).ri) (h.cell 4 rfl rfl) (h.cell 3 rfl rfl) (h.cell 3 rfl rfl)<|oB h fun am an _ _ h=>?_;have e:=e0.J0 h;refine ko (h.cell 4 rfl rfl) (h.cell 4 rfl rfl)<|e.cO h (i:=0) (yX _) rfl oJ 1 rfl (kw e) aw fun C B1 al e h _=>mK (G _ _ (R e).ri) (h.cell 5 rfl rfl) (h.cell 4 rfl rfl)<|e.sq h (i:=0) (yX _) rfl oN 0 rfl ac fun E B2 ao e h _=>?_
  case' b3=>
   have h:=oF h;refine oA h 2 rfl xr.2.1 rfl<|oA h 2 rfl xr.2.2.2 rfl<|oA h 3 rfl xl.2.2.2 rfl<|dZ.cP ((o.ri).q7 h.fr) (nl.J6.length-1+1) rfl ar fun ai G=>oB h fun aj ak _ _ h=>ko (h.cell 3 rfl rfl) (h.cell 3 rfl rfl)<|oB h fun am an _ _ h=>?_;have e:=e0.J0 h;refine qh (G _ _ (R e).ri) (h.cell 5 rfl rfl) (h.cell 4 rfl rfl) (h.cell 4 rfl rfl)<|e.cO h (i:=0) (yX _) rfl oJ 0 rfl (kw e) aw fun C B1 al e h _=>mK (G _ _ (R e).ri) (h.cell 5 rfl rfl) (h.cell 4 rfl rfl)<|e.sq h (i:=0) (yX _) rfl oN 1 rfl ac fun E B2 ao e h _=>?_
  all_goals
   refine oD h 4 rfl (eJ (xr.1,C,xr.2.2.1,xr.2.2.2)) fun aQ h _=>oD h 4 rfl (eJ (xr.1,C,xr.2.2.1,E)) fun aR h _=>?_;have h:=oF h;refine oA h 5 rfl xl.2.1 rfl<|jg.upto aD (nl.J6.length-1) rfl oJ fun I ap=>oA h 5 rfl xl.2.2.2 rfl<|dZ.AM o.ri (nl.J6.length-1+1) rfl oJ fun J aq=>oD h 5 rfl (eJ (xl.1,I,xl.2.2.1,xl.2.2.2)) fun aT h _=>oD h 5 rfl (eJ (xl.1,I,xl.2.2.1,J)) fun aU h _=>?_;have h:=oF h;refine oC h 5 rfl (xl.1,I,xl.2.2.1,J) rfl<|oC h 4 rfl (xr.1,C,xr.2.2.1,E) rfl<|oD h 3 rfl (eJ (xl.1,I,xl.2.2.1,J)) fun aW h _=>ig (h.cells 4 rfl rfl)<|oD h 2 rfl (eJ (xr.1,C,xr.2.2.1,E)) fun aA h _=>oC h 3 rfl (xl.1,I,xl.2.2.1,J) rfl<|oC h 2 rfl (xr.1,C,xr.2.2.1,E) rfl ?_;have e:=e.J0 h;have hR:=e.y9.j6 (S':=Zo FD Y F) fun b u=>.inl (A7 b u);rw[xw,xw] at hR;exact kk (xl.1,I,xl.2.2.1,J) (xr.1,C,xr.2.2.1,E) _ aA (e.qs.y0 fun b u=>by simp[u]) ⟨U.Q4,⟨fun a ha=>o.nb.1 a (yV ha),o.nb.2.1,fun a ha=>o.nb.2.2 a (yV ha)⟩,⟨_,ap.q8 (af e) ag,by rw[zm,o.J6]⟩,⟨_,aE.q8 (af e) ag,o.Q0⟩,aq.q8 (af e) ag⟩
    hR (((R e).ek _ (zX hi)).q8 (.refl _ _) fun b u=>.inl (by simp only[Zo,zD,zG] at u⊢;rcases u with (u|u|u)|u<;>simp[u])) e.fr
end
end
end
end Go.Proofs.YtpcmehldpoljfaaGreatDoor
