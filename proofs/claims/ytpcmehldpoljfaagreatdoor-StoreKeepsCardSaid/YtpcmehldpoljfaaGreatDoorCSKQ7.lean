/- Conditions: those that stand in each line. -/
import Derived.Test.YtpcmehldpoljfaaGreatDoorCSKQ6
import Derived.Test.YtpcmehldpoljfaaGreatDoorCSKQ3
import Derived.Test.YtpcmehldpoljfaaGreatDoorCSKQ1
import Derived.Test.YtpcmehldpoljfaaGreatDoorCSKQ4
set_option linter.unusedVariables false
set_option linter.unusedSimpArgs false
set_option linter.defProp false
namespace Go.Proofs.YtpcmehldpoljfaaGreatDoor
open Go.Proofs.Tryz (prog)
section
open Go Go.Pt List
open Go.IntKind (wrap)
open Classical
attribute [local irreducible] ld dK ij nM jv fg st new idx jw jL fD jO jl mF gF nn call ed inv run eW i9 join loop held ext kH eS nf mY ng IntKind.wrap
section
variable {dbk pb:Nat} {FD F:List Nat} {D:dI} {M:dY} {k v:Nat} {frm to:Key} {down:Bool} {w0 w wA:World} {cb:Nat} {Y SB:List Nat} {st:Sl} {zs:List qi}
def gb.kJ{c:Cell}{b j:Nat}{z:qi}{K:c.El->Prop}(h:gb dbk pb FD D F M k v frm to down w0 cb Y w st [b] (zs++[z]))(u:j<5)(x:c.El)(C:(iS z)[j]?=some (c.mk x))(E:K x):ld c ⟨b,zs.length*5+j,none⟩ w K:=
 pr x ((qyX h.t5 u).trans C) E
def qwq{h:Nat}{K:Unit->WP}(hp:Path D M k v (jG down) h (zs.map (·.2)))(hC:gb dbk pb FD D F M k v frm to down w0 cb Y w st SB zs)(kk:∀w' st' SB' zs',gb dbk pb FD D F M k v frm to down w0 cb Y w' st' SB' zs'->zs'.map (·.2)=(io D k v M (jA down frm to) (jG down) h (zs.map (·.2))).getD []->Fr (cb::SB) w w'->(∀b∈SB',b∈SB\/w.heap.size<=b)->K () w'): cW 84 [dF cb] [] w K:=by
 refine qhQ ?_;have J:=hp.len;have aU:=hC.An;rw[zK] at J;refine BS (fun (ab:List kr) (_:PUnit) w'=>∃(u:List qi) (z:qi) (C:List kr) (h1:Nat) (al:Sl) (ac:List Nat),u.map (·.2)=ab/\gb dbk pb FD D F M k v frm to down w0 cb Y w' al ac (u++[z])/\zs.map (·.2)=ab++C/\ab.length+h1=h/\io D k v M (jA down frm to) (jG down) h1 C=none/\Fr (cb::SB) w w'/\∀b∈ac,b∈SB\/w.heap.size<=b) List.length (zs.map (·.2)).dropLast ?_ ?_
 ·have I:zs≠[]:=fun e=>by rw[e] at J;simp at J
  have hz:=(vA I).symm;refine⟨zs.dropLast,zs.getLast I,[(zs.getLast I).2],0,st,SB,by rw[map_dropLast],by rw[<- hz];exact hC,?_,by simp;omega,rfl,.refl _ _,fun b G=>.inl G⟩;conv=>lhs;rw[hz]
  simp
 rintro ab _ w1 ⟨u,z,C,h1,al,ac,rfl,ad,hz,hh,hn,f1,n1⟩ X hX;have av:=ad.An;rw[zF,xM] at av;have aF:al.len=u.length+1:=(by rw[ad.t5.len,zF];rfl);refine fv (ad.pA (cond_true (by rw[aF];exact yA oJ) ?_));have ae:=ad.drew;refine fv (ae.pA ?_);refine fv (ae.pA ?_);refine qAe ae.t5 oJ fun s2 ax=>?_;refine fv ?_;refine ae.tv w1.drew (.refl _ _) ax (fun z hz=>.inl (zH _ hz)) (fun b G=>.inl G) oJ fun w2 am f2=>?_;have ay:Fr (cb::SB) w w2:=f1.j8 ((Fr.refl _ w1).drew.trans f2) fun b G=>by rcases zG.1 G with rfl|G;exact .inl oL;exact (n1 b G).imp (fun h=>by simp[h]) id
 refine fv (am.pA ?_);have az:s2.len=u.length:=ax.len;apply dW<;>intro hc;have hc:(s2.len:Int)=0:=yP.1 hc;have e0:u=[]:=length_eq_zero_iff.1 oJ;subst e0;refine kk w2 s2 ac [] am ?_ ay n1;rw[hz,map_nil,xI];have:h1=h:=(oP hh);rw[<- this,hn];rfl;have hc:¬(s2.len:Int)=0:=zR.1 hc;have I:u≠[]:=fun e=>by rw[e] at az;simp at az;omega
 obtain⟨R,y,rfl⟩:∃R y,u=R++[y]:=⟨u.dropLast,u.getLast I,(vA I).symm⟩;rw[xN,xO,map_nil,zV,singleton_append] at hz;rw[xN,xO,map_nil,zF,xM] at hh;have af:(R.map (·.2)).length+(h1+1)=h:=oJ;have an:Path D M k v (jG down) (h1+1) (y.2::C):=by rw[hz,<- af] at hp;exact hp.drop
 obtain⟨E,i,up,ey,a3,a4,aB,_⟩:=an;obtain⟨yx,yf⟩:=y;have aG:yf=(dM E,i):=(vC ey).1;subst aG;have ag:=am.drew;rw[zF,xM] at av;refine fv (ag.pA ?_);refine fv (ag.pA ?_);refine qut ag.t5 oJ fun b hB=>?_;subst hB;have ah:=ag.drew;obtain⟨sf,a7,T,aH⟩:=ah.at
 have ap:=ah.nodes (yx,dM E,i) oL;have ai:(dM E).J9.length=E.length:=(by show (E.map (·.2.x5)).length=_;rw[zK]);have aX:E.length<=498:=(by rw[<- ai];exact (uK ap.2).2.2.1);refine fv (pr (mv cb down) (ji aH) ?_);refine ah.kJ (j:=4) oM i rfl ?_;refine qxK oJ ?_;have aY:-1<=jG down i/\jG down i<=1000000:=(by unfold jG;split<;>omega);refine ah.vi fun w3 aI f3=>?_;have U:=aI.drew;have aq:Fr (cb::SB) w w3:=ay.j8 (((Fr.refl _ w2).drew.drew).trans f3) fun b' G=>by rw[zE.1 G];exact (n1 b oL).imp (fun h=>by simp[h]) id
 have aJ:yx.2.2.2.len=E.length:=(by rw[ap.1.2.2.2.2.1,ai]);have V:=qvx (x:=(dM E,i)) hn;refine gW (fun q w'=>q=decide (0<=jG down i/\jG down i<E.length)/\w'=w3.drew) ?_ ?_;refine U.kJ (j:=4) oM (jG down i) rfl ?_;apply dW<;>intro h;have h:=zC h;refine U.kJ (j:=4) oM (jG down i) rfl ?_;refine U.kJ (j:=3) oM yx.2.2.2 rfl ?_;exact⟨decide_eq_decide.2 (by rw[aJ];omega),rfl⟩;have h:=zB h;exact⟨(zU fun g=>h g.1).symm,rfl⟩;rintro q w4 ⟨rfl,rfl⟩;have aj:=U.drew;apply dW<;>intro h;obtain⟨h5,h6⟩:=zC h;obtain⟨j,hj⟩:∃j:Nat,jG down i=j:=⟨(jG down i).toNat,oJ⟩;have aC:j<E.length:=oJ;refine aj.kJ (j:=3) oM yx.2.2.2 rfl ?_;refine aj.kJ (j:=4) oM (jG down i) rfl ?_;have aL:dZ iu 1 _ w3.drew.drew yx.2.2.2 (dM E).J9:=(aj.nodes (yx,dM E,jG down i) oL).1.2.2.2.2;have ar:(dM E).J9[j]?=some E[j].2.x5:=(by show (E.map (·.2.x5))[j]?=_;rw[zQ,zA aC];rfl);refine dZ.get aL j hj ar (y:=E[j].2.x5) rfl ?_;refine qpO (aB j hj aC) (ap.1.2.1.2.2 _ (yF ar)) aj (by rw[zF,xM];rw[zK] at af;omega) fun w5 aM aN aO aP aQ f5 n5=>?_;refine kk w5 aM aN _ aP ?_ (aq.j8 ((Fr.refl _ w3).drew.drew.trans f5) fun b' G=>?_) fun b' G=>?_;have e1:io D k v M (jA down frm to) (jG down) (h1+1) ((dM E,i)::C)=some ((dM E,jG down i)::aO.map (·.2)):=(by rw[V,tA,if_pos ⟨by dsimp only;omega,by dsimp only;rw[ai];exact h6⟩];dsimp only;rw[hj,zJ,yR,ar];simp only[xV];rw[aQ];rfl);rw[hz,<- af,qql e1];simp;rcases zG.1 G with rfl|G;exact .inl oL;exact (n1 b' G).imp (fun h=>by simp[h]) id;rcases n5 b' G with h|h;exact n1 b' h;exact .inr (zL aq.size h);have h:=zB h;refine hX (R.map (·.2)) _ _ ⟨R,(yx,dM E,jG down i),(dM E,i)::C,h1+1,s2,[b],rfl,U,hz,af,?_,aq.drew,n1⟩ ?_;rw[V,tA,if_neg fun g=>h ⟨g.1,by have:=g.2;dsimp only at this;rw[ai] at this;exact this⟩];simp
end
end
section
open Go Go.Pt List
open Go.IntKind (wrap)
open Classical
section
variable {D:dI} {M:dY} {k v:Nat} {frm to:Key} {down:Bool}
def lE (D:dI) (M:dY) (k v:Nat) (frm to:Key) (down:Bool) (h:Nat) (u:List kr) (T:fN):Prop:=if down then ma D M k v to h u T else lU D M k v frm h u T
def nY (down:Bool) (h:Nat) (u:List kr):Prop:=if down then jX h u else jV h u
def lE.path{h:Nat}{u:List kr}{T:fN}(C:lE D M k v frm to down h u T):Path D M k v (jG down) h u:=by
 cases down with
 | false=>exact lU.path (frm:=frm) C
 | true=>exact ma.path (to:=to) C
def lE.told{h:Nat}{C:List kr}{T:fN}(E:lE D M k v frm to down h C T):nY down h C\/∃(u:fN) (i:Nat) (lo:List kr) (hi:i<u.length) (T':fN),C=lo++[(ef u,(i:Int))]/\T=u[i]::T'/\lE D M k v frm to down h (lo++[(ef u,jG down i)]) T':=by
 cases down with
 | false=>exact quu (frm:=frm) E
 | true=>exact qqO (to:=to) E
def lE.next{h:Nat}{E:List kr}{T:fN}(G:lE D M k v frm to down h E T)(I:nY down h E):(io D k v M (jA down frm to) (jG down) h E=none/\T=[])\/∃u,io D k v M (jA down frm to) (jG down) h E=some u/\lE D M k v frm to down h u T/\¬nY down h u:=by
 cases down with
 | false=>
  rcases qul (frm:=frm) G I with C|⟨u,C,J⟩;exact .inl C;exact .inr ⟨u,C,J,qjx (frm:=frm) G I C⟩
 | true=>
  rcases qqm (to:=to) G I with C|⟨u,C,J⟩;exact .inl C;exact .inr ⟨u,C,J,qgX (to:=to) G I C⟩
def jV.pB:∀ {h:Nat} {C:List kr},jV h C->∃(lo:List kr) (u:fN),C=lo++[(ef u,(u.length:Int))]
 | 0,_,⟨u,e⟩=>⟨[],u,e⟩
 | _+1,[],h=>h.elim
 | h+1,x::G,E=>by obtain⟨lo,u,e⟩:=jV.pB (h:=h) E;exact⟨x::lo,u,by rw[e];rfl⟩
def jX.pB:∀ {h:Nat} {C:List kr},jX h C->∃(lo:List kr) (u:fN),C=lo++[(ef u,-1)]
 | 0,_,⟨u,e⟩=>⟨[],u,e⟩
 | _+1,[],h=>h.elim
 | h+1,x::G,E=>by obtain⟨lo,u,e⟩:=jX.pB (h:=h) E;exact⟨x::lo,u,by rw[e];rfl⟩
def nY.pB{h:Nat}{C:List kr}(E:nY down h C):∃(lo:List kr) (u:fN) (i:Int),C=lo++[(ef u,i)]/\¬(0<=i/\i<u.length):=by
 cases down with
 | false=>
  obtain⟨lo,u,e⟩:=jV.pB E;exact⟨lo,u,_,e,oJ⟩
 | true=>
  obtain⟨lo,u,e⟩:=jX.pB E;exact⟨lo,u,_,e,oJ⟩
def Left (D:dI) (M:dY) (k v:Nat) (frm to:Key) (down:Bool) (n:Nat) (u:List kr) (L:fN):Prop:=
 (u=[]/\L=[])\/∃h T,lE D M k v frm to down h u T/\L=T.takeWhile (fun x=>!mU down frm to x.1)/\(n=0->¬nY down h u)
def qvE{h:Nat}{s:gY}(u:Has D M k v h s):∃C,iw D k v M (jA down frm to) (h+1) s.x5=some C/\lE D M k v frm to down h C (if down then (uf to s.y3).reverse else mE frm s.y3):=by
 cases down with
 | false=>exact FW u
 | true=>exact Fi u
def GV{α:Type}{p:α->Bool}:∀ {l:List α},l.Pairwise (fun a b=>p b=true->p a=true)->l.takeWhile p=l.filter p
 | [],_=>rfl
 | a::l,h=>by have C:=yJ.1 h;rw[takeWhile_cons,filter_cons];split;rw[GV C.2];rename_i E;exact (filter_eq_nil_iff.2 fun b G u=>E (C.1 b G u)).symm
end
end
section
open Go Go.Pt List
open Go.IntKind (wrap)
open Classical
attribute [local irreducible] ld dK ij nM jv fg st new idx jw jL fD jO jl mF gF nn call ed inv run eW i9 join loop held ext kH eS nf mY ng IntKind.wrap
variable {B S:List Nat} {K:Sl->WP} {L:fN} {P:List Int} {d:HL i7} {i:Int} {k n:Nat} {l:List (HL i7)} {s:Sl} {w:World}
abbrev AV:TypeId:=104
def wP (a b:Sl):Array Value:=#[a.v,b.v]
@[reducible] def GP:List Cell:=[.slice,.slice]
section
variable {dbk pb:Nat} {FD F:List Nat} {D:dI} {M:dY} {k v:Nat} {frm to:Key} {down:Bool} {w0 w wA:World} {cb:Nat} {Y SB:List Nat} {st:Sl} {zs:List qi}
def qyQ{n:dL}(h:fC n k v)(E:n.Q4=true):k<=24/\v<=108:=by obtain⟨_,_,_,C⟩:=h;rw[if_pos E] at C;have u:=C.2.2.1;unfold dV at u;split at u;dsimp only at u;omega;omega
def qv3{K:(Sl×Sl)×Bool->WP}(hC:gb dbk pb FD D F M k v frm to down w0 cb Y w st SB zs)(hL:Left D M k v frm to down 1 (zs.map (·.2)) L)(k0:L=[]->∀w',gb dbk pb FD D F M k v frm to down w0 cb Y w' dG [] []->Fr (cb::SB) w w'->K ((dG,dG),false) w')(k1:∀x L',L=x::L'->∀ks vs B1 B2 w' st' SB' zs',fQ w' ks x.1 B1->fQ w' vs x.2 B2->gb dbk pb FD D F M k v frm to down w0 cb (B1++(B2++Y)) w' st' SB' zs'->Left D M k v frm to down 1 (zs'.map (·.2)) L'->Fr (cb::SB) w w'->(∀b∈SB',b∈SB\/w.heap.size<=b)->(∀b∈B1,w.heap.size<=b)->(∀b∈B2,w.heap.size<=b)->(∀b∈B1,b∉B2)->K ((ks,vs),true) w'): cW 40 [dF cb] [.agg GP,.one .bool] w K:=by
 refine qhN (c:=pW cb)<|oB (oE [] w) fun r w1 e1 f1 h=>?_;have hrl:=eZ (h.at (i:=0) rfl);dsimp only at hrl;have hltw:=hC.lt;have hC1:gb dbk pb FD D F M k v frm to down w0 cb (r::Y) w1 st SB zs:=hC.q8 (f1.mono fun _ h=>nomatch h) (fun b hb=>(zG.1 hb).elim (fun e=>.inr (by rw[e,e1];exact zM _)) .inl) fun b hb=>by rcases zG.1 hb with rfl|hb;exact hrl;exact yD (hltw b (by simp[hb])) f1.size
 have hr1:w1.heap[r]?=some (.cells (wP dG dG) AV (0,0)):=h.at (i:=0) rfl;have hrS:r∉cb::SB:=fun hm=>by
  have:=hltw r (by rcases zG.1 hm with h|h<;>simp[h])
  omega
 have hfr:∀ {w':World},Fr (cb::SB) w1 w'->w'.heap[r]?=some (.cells (wP dG dG) AV (0,0)):=fun f=>by rw[f.block r hrl hrS];exact hr1
 clear h;refine gW (fun _ w'=>L=[]/\Fr (cb::SB) w1 w'/\∃st' SB' zs',gb dbk pb FD D F M k v frm to down w0 cb (r::Y) w' st' SB' zs'/\∀b∈SB',b∈SB\/w1.heap.size<=b) ?_ ?_
 ·refine BS (fun (n:Nat) (_:PUnit) w'=>Fr (cb::SB) w1 w'/\∃st' SB' zs',gb dbk pb FD D F M k v frm to down w0 cb (r::Y) w' st' SB' zs'/\(∀b∈SB',b∈SB\/w1.heap.size<=b)/\Left D M k v frm to down n (zs'.map (·.2)) L) id 1 ⟨.refl _ _,st,SB,zs,hC1,fun b hb=>.inl hb,hL⟩ ?_;rintro n _ w2 ⟨f2,st2,SB2,zs2,hC2,n2,hL2⟩ X hX;refine fv (hC2.pA ?_);have hsl:st2.len=zs2.length:=hC2.t5.len;apply dW<;>intro hc;rotate_left;have hc:=zB hc;have e0:zs2=[]:=length_eq_zero_iff.1 oJ;refine⟨?_,f2,st2,SB2,zs2,hC2,n2⟩;rcases hL2 with h|⟨hh,T,ht,_,_⟩;exact h.2
  have:=ht.path.len
  rw[e0] at this;simp at this;have hc:=zC hc;have hne:zs2≠[]:=fun e=>by rw[e] at hsl;simp at hsl;omega
  rcases hL2 with ⟨h,_⟩|⟨hh,T,ht,hLT,hnd⟩;exact absurd (map_eq_nil_iff.1 h) hne;have htop:∃(lo:List kr) (y3:fN) (i:Int),zs2.map (·.2)=lo++[(ef y3,i)]/\((nY down hh (zs2.map (·.2))/\¬(0<=i/\i<y3.length))\/∃j:Nat,i=j/\∃hj:j<y3.length,∃T',T=y3[j]::T'/\lE D M k v frm to down hh (lo++[(ef y3,jG down i)]) T'):=by rcases ht.told with hd|⟨y3,j,lo,hj,T',e1,e2,e3⟩;obtain⟨lo,y3,i,e,hi⟩:=hd.pB;exact⟨lo,y3,i,e,.inl ⟨hd,hi⟩⟩;exact⟨lo,y3,j,e1,.inr ⟨j,rfl,hj,T',e2,e3⟩⟩
  obtain⟨lo,y3,i,ez,hcase⟩:=htop;obtain⟨zlo,zr,rfl,rfl,ezr⟩:=map_eq_append_iff.1 ez;obtain⟨⟨zx,zf⟩,rfl,ezf⟩:=map_eq_singleton_iff.1 ezr;have ezf:zf=(ef y3,i):=ezf;subst ezf;have hfew:=hC2.An;rw[zF,xM] at hfew;have hD2:=hC2.drew;refine fv (hD2.pA ?_);refine fv (hD2.pA ?_);refine qut hD2.t5 oJ fun b hB=>?_;subst hB;have hE2:=hD2.drew;have hny:=hE2.nodes (zx,ef y3,i) oL;have hkl:(ef y3).J6.length=y3.length:=zK ..;have hkl2:y3.length<=498:=(by rw[<- hkl];exact (uK hny.2).1);obtain⟨hzl,hNB,⟨pk,hpk,hpke⟩,⟨pv,hpv,hpve⟩,_⟩:=hny.1;dsimp only at hzl hpk hpke hpv hpve;have hpkl:pk.length=y3.length:=(by rw[<- hkl,<- hpke,zK]);have hpvl:pv.length=y3.length:=by have:(ef y3).Q0.length=y3.length:=zK ..;rw[<- this,<- hpve,zK]
  refine gW (fun q w'=>q=decide (0<=i/\i<y3.length)/\w'=w2.drew.drew) ?_ ?_;refine hE2.kJ (c:=.bool) (j:=0) oM zx.1 rfl<|cond_true hzl<|hE2.kJ (c:=.i) (j:=4) oM i rfl ?_;apply dW<;>intro h;have h:=zC h;exact hE2.kJ (c:=.i) (j:=4) oM i rfl<|hE2.kJ (c:=.slice) (j:=1) oM zx.2.1 rfl<|⟨decide_eq_decide.2 (by rw[hpk.len,hpkl];omega),rfl⟩;have h:=zB h;exact⟨(zU fun g=>h g.1).symm,rfl⟩;rintro q w3 ⟨rfl,rfl⟩;have hpth:=ht.path;apply dW<;>intro h;rotate_left;have h:=zB h;have hd:nY down hh ((zlo++[(zx,ef y3,i)]).map (·.2)):=by rcases hcase with hd|⟨j,rfl,hj,_⟩;exact hd.1;exact absurd ⟨oJ,oJ⟩ h
  have hn1:n≠0:=fun e=>hnd e hd;refine qwq hpth hE2 fun w4 st4 SB4 zs4 hC4 hz4 f4 n4=>?_;have f14:Fr (cb::SB) w1 w4:=f2.j8 ((Fr.refl _ w2).drew.drew.trans f4) fun b' hb=>by rcases zG.1 hb with rfl|hb;exact .inl oL;exact (n2 b' hb).imp (fun h=>by simp[h]) id
  have n14:∀b'∈SB4,b'∈SB\/w1.heap.size<=b':=fun b' hb=>by rcases n4 b' hb with h|h;exact n2 b' h;exact .inr (zL f2.size h)
  refine hX 0 _ w4 ⟨f14,st4,SB4,zs4,hC4,n14,?_⟩ (by show 0<n;omega);rcases ht.next hd with ⟨e2,rfl⟩|⟨fs',e2,e3,e4⟩
  rw[e2] at hz4;exact .inl ⟨hz4,hLT⟩;rw[e2] at hz4;have hz4:zs4.map (·.2)=fs':=hz4;rw[hz4];exact .inr ⟨hh,T,e3,hLT,fun _=>e4⟩;have h:=zC h;obtain⟨j,rfl,hj,T',hT,ht'⟩:∃j:Nat,i=j/\∃hj:j<y3.length,∃T',T=y3[j]::T'/\lE D M k v frm to down hh (zlo.map (·.2)++[(ef y3,jG down i)]) T':=by rcases hcase with hd|hd;exact absurd h hd.2;exact hd
  have hG2:=hE2.drew;refine hG2.kJ (c:=.slice) (j:=1) oM zx.2.1 rfl<|hG2.kJ (c:=.i) (j:=4) oM (j:Int) rfl ?_;have hjk:j<pk.length:=oJ;have hjv:j<pv.length:=oJ;refine jg.get (hpk.q7 (Fr.refl [] _).drew) j rfl hjk<|hG2.kJ (c:=.slice) (j:=2) oM zx.2.2.1 rfl<|hG2.kJ (c:=.i) (j:=4) oM (j:Int) rfl<|jg.get (hpv.q7 (Fr.refl [] _).drew) j rfl hjv ?_;have hH2:=hG2.drew;obtain⟨sf,sto,Tc,hcc⟩:=hH2.at
  refine fv (pr (c:=.any) (mv cb down) (ji hcc) ?_);refine hH2.kJ (c:=.i) (j:=4) oM (j:Int) rfl<|qxK oJ<|hH2.vi fun w5 hC5 f5=>?_;have f15:Fr (cb::SB) w1 w5:=f2.j8 ((Fr.refl _ w2).drew.drew.drew.drew.trans f5) fun b' hb=>by rw[zE.1 hb];exact (n2 b oL).imp (fun h=>by simp[h]) id
  obtain⟨sf,sto,Tc,hcc⟩:=hC5.at
  refine fv (pr (c:=.any) (nz cb down) (ji hcc) ?_);have f5':Fr (cb::([b]++(r::Y))) w2.drew.drew w5:=(Fr.refl _ w2.drew.drew).drew.drew.trans (f5.mono fun x hx _=>by rw[zE.1 hx];simp);have hks:eh (cb::([b]++(r::Y))) w5 pk[j].1 pk[j].2:=(hpk.2 _ (zX hjk)).q8 f5' fun x hx=>.inl hx;have hvs:eh (cb::([b]++(r::Y))) w5 pv[j].1 pv[j].2:=(hpv.2 _ (zX hjv)).q8 f5' fun x hx=>.inl hx;have ek:pk[j].2=y3[j].1:=by
   have:=congrArg (·[j]?) hpke
   dsimp only [ef] at this;rw[zQ,zQ,zA hjk,zA hj] at this;exact yO this
  have ev:pv[j].2=y3[j].2:=by
   have:=congrArg (·[j]?) hpve
   dsimp only [ef] at this;rw[zQ,zQ,zA hjv,zA hj] at this;exact yO this
  rw[ek] at hks;rw[ev] at hvs;have hkB:eF y3[j].1:=hNB.1 _ (zZ (zX hj));have hkn:y3[j].1.length=k:=hny.2.1 _ (zZ (zX hj));have hvn:y3[j].2.length=v:=hny.2.2.1 _ (zZ (zX hj));have hkv:=qyQ hny.2 rfl;refine qz2 hC5 hks hkB ?_;apply dW<;>intro ho;refine⟨?_,f15,st2,[b],_,hC5,n2⟩;rw[hLT,hT,takeWhile_cons,ho];rfl;refine zo hks oJ fun s1 B1 w6 b6 f6 n6 _ _=>zo (hvs.q7 f6) oJ fun s2 B2 w7 b7 f7 n7 _ _=>?_;have hr7:=hfr (f15.trans ((f6.trans f7).mono fun _ h=>nomatch h));refine qP hr7 (wP s1 s2) rfl rfl (zO rfl) fun w8 hr8 f8=>Ao hr8 (s1,s2) rfl ?_;have hC7:=(hC5.q7 f6).q7 f7;have hn1:∀b'∈B1,w5.heap.size<=b':=n6;have hn2:∀b'∈B2,w5.heap.size<=b':=fun b' hb=>zL f6.size (n7 b' hb);have hz5:=f15.size;have hz1:=f1.size;have h12:∀b'∈B1,b'∉B2:=fun b' hb hm=>by have:=b6.lt b' hb;have:=n7 b' hm;omega
  have hrn:∀b'∈B1++B2,b'≠r:=fun b' hb e=>by
   rcases zD.1 hb with hb|hb
   have:=hn1 b' hb;omega
   have:=hn2 b' hb;omega
  have b8:fQ w8 s1 y3[j].1 B1:=(b6.q7 f7).q8 f8 fun b' hb hm=>hrn b' (by simp[hb]) (zE.1 hm);have b9:fQ w8 s2 y3[j].2 B2:=b7.q8 f8 fun b' hb hm=>hrn b' (by simp[hb]) (zE.1 hm);have hC8:gb dbk pb FD D F M k v frm to down w0 cb (B1++(B2++Y)) w8 st2 [b] (zlo++[(zx,ef y3,jG down j)]):=by have hA:gb dbk pb FD D F M k v frm to down w0 cb (B1++(B2++(r::Y))) w7 st2 [b] (zlo++[(zx,ef y3,jG down j)]):=hC5.q8 ((f6.trans f7).mono fun _ h=>nomatch h) (fun b' hb=>?_) fun b' hb=>?_;exact hA.q8 (f8.mono fun b' hb _=>by rw[zE.1 hb];simp) (fun b' hb=>.inl (by simp only[zD] at hb⊢;rcases hb with h|h|h<;>simp[h])) fun b' hb=>yD (hA.lt b' (by simp only[zD,zG] at hb⊢;rcases hb with h|h|h<;>simp[h])) f8.size;rcases zD.1 hb with h|hb;exact .inr (hn1 b' h);rcases zD.1 hb with h|hb;exact .inr (hn2 b' h);exact .inl hb;rcases zD.1 hb with h|hb;exact (b6.q7 f7).lt b' h;rcases zD.1 hb with h|hb;exact b7.lt b' h;exact hC7.lt b' (by simp only[zG,zD];exact .inr (.inr (zG.1 hb)))
  refine k1 y3[j] (T'.takeWhile fun x=>!mU down frm to x.1) (by rw[hLT,hT,takeWhile_cons,ho];rfl) s1 s2 B1 B2 w8 st2 [b] _ b8 b9 hC8 (.inr ⟨hh,T',by rw[xN];exact ht',rfl,fun e=>absurd e oM⟩) ?_ (fun b' hb=>(n2 b' hb).imp id fun h=>zL hz1 h) (fun b' hb=>zL (zL hz1 hz5) (hn1 b' hb)) (fun b' hb=>zL (zL hz1 hz5) (hn2 b' hb)) h12;refine ((f1.mono fun _ h=>nomatch h).trans (f15.trans ((f6.trans f7).mono fun _ h=>nomatch h))).j8 f8 fun b' hb=>.inr ?_;rw[zE.1 hb,e1];exact zM _
 rintro _ w2 ⟨hL0,f2,st2,SB2,zs2,hC2,n2⟩;refine fv<|hC2.tv (st':=dG) (SB':=[]) (zs':=[]) w2 (.refl _ _) (.nil _ _ _) (fun z hz=>nomatch hz) (fun b hb=>nomatch hb) (yX _) fun w3 hC3 f3=>?_;have f13:Fr (cb::SB) w1 w3:=f2.j8 f3 fun b hb=>by rcases zG.1 hb with rfl|hb;exact .inl oL;exact (n2 b hb).imp (fun h=>by simp[h]) id
 refine qP (hfr f13) (wP dG dG) rfl rfl (zO rfl) fun w4 hr4 f4=>Ao hr4 (dG,dG) rfl<|k0 hL0 w4 (hC3.q8 (f4.mono fun b hb _=>by rw[zE.1 hb];simp) (fun b hb=>.inl (by simp[hb])) fun b hb=>yD (hC3.lt b (by simp[hb])) f4.size) (((f1.mono fun _ h=>nomatch h).trans f13).j8 f4 fun b hb=>.inr ?_);rw[zE.1 hb,e1];exact zM _
end
section
def ia (down:Bool) (frm to:Key) (L:fN):fN:=if down then (lp frm to L).reverse else lp frm to L
def qyL{frm to:Key}(G:e9 L):(mE frm L).takeWhile (fun x=>!mU false frm to x.1)=lp frm to L:=by
 unfold mE;rw[GV];rw[filter_filter];unfold lp;congr 1;funext x;unfold Bb mU fI
 have:=Ft x.1 to
 by_cases C:cmpL x.1 frm<0<;>by_cases u:cmpL x.1 to>0<;>simp[C,u]<;>omega;refine ((pairwise_map.1 G).filter _).imp ?_;intro a b E h;unfold mU at h⊢;simp only[Bool.false_eq_true,if_false,zT,decide_eq_false_iff_not] at h⊢;intro I;have C:fI to a.1:=(by unfold fI;rw[um];omega);have u:=pf C E;unfold fI at u;rw[um] at u;omega
def qvH{frm to:Key}(C:e9 L):(uf to L).reverse.takeWhile (fun x=>!mU true frm to x.1)=(lp frm to L).reverse:=by unfold uf;rw[GV];rw[filter_reverse,filter_filter];unfold lp;congr 2;funext x;have e:fI to x.1↔cmpL x.1 to>0:=(by unfold fI;rw[um to x.1];omega);have E:decide (cmpL x.1 frm>=0) = !decide (cmpL x.1 frm<0):=(by rw[<- decide_not];exact decide_eq_decide.2 oJ);have G:decide (¬fI to x.1)=decide (cmpL x.1 to<=0):=decide_eq_decide.2 (by rw[e];omega);unfold Bb mU;simp only[if_true];rw[E,G];rw[pairwise_reverse];refine ((pairwise_map.1 C).filter _).imp ?_;intro a b u h;unfold mU at h⊢;simp only[if_true,zT,decide_eq_false_iff_not] at h⊢;intro I;exact h (pf u I)
section
variable {dbk pb:Nat} {FD F:List Nat} {D:dI} {M:dY} {k v:Nat} {frm to:Key} {down:Bool} {w0 w wA:World} {cb:Nat} {Y SB:List Nat} {st:Sl} {zs:List qi}
def fQ.cT{w:World}{l:List Int}(h:fQ w s l B)(u:∀b∈B,b∉S):eh S w s l:=h.jo kW u
def qx1{t:Int}{sf sto:Sl}{K:Option Addr->WP}(hT:TW dbk pb FD D 900000 w Y F M)(hs:rm t=((k:Int),(v:Int)))(hL:(k=0/\L=[])\/(k≠0/\fP D M k v t L P))(hLl:L.length<=90000)(hf:eh S w sf frm)(ht:eh S w sto to)(hfl:frm.length<=1000000)(htl:to.length<=1000000)(hfB:eF frm)(htB:eF to)(kk:∀cb w' st SB zs,gb dbk pb FD D F M k v frm to down w cb Y w' st SB zs->Left D M k v frm to down 1 (zs.map (·.2)) (ia down frm to L)->Fr [] w w'->K (pW cb) w'): cW 37 [dF pb,.i t,sf.v,sto.v,.bool down] dy w K:=by
 refine qnE (p:=pW pb) (t:=t) (from_:=sf) (to:=sto) (down:=down)<|qrw ?_;rw[hs];refine zo hf hfl fun s1 B1 w1 b1 f1 n1 _ _=>zo (ht.q7 f1) htl fun s2 B2 w2 b2 f2 n2 _ _=>oB (oE [] w2) fun cb w3 e3 f3 h=>?_;have hnf:(#[dF pb,.i (k:Int),.i (v:Int),s1.v,s2.v,.slice none 0 0,.nilFunc,.nilFunc,.nilFunc]:Array Value)=(pi.cells ⟨pb,k,v,s1,s2,dG,.nilFunc,.nilFunc,.nilFunc⟩):=rfl;refine oD h 0 rfl (pi.cells ⟨pb,k,v,s1,s2,dG,mv cb false,.nilFunc,.nilFunc⟩) fun w4 h f4=>oD h 0 rfl (pi.cells ⟨pb,k,v,s1,s2,dG,mv cb false,mI cb false,.nilFunc⟩) fun w5 h f5=>oD h 0 rfl (pi.cells ⟨pb,k,v,s1,s2,dG,mv cb false,mI cb false,nz cb false⟩) fun w6 h f6=>gW (fun _ w'=>∃T,dQ [] w2 w' [(cb,.cells (pi.cells ⟨pb,k,v,s1,s2,dG,mv cb down,mI cb down,nz cb down⟩) T (0,0))]) ?_ ?_;cases down with
 | false=>exact cond_false rfl ⟨_,h⟩
 | true=>
  exact cond_true rfl<|oD h 0 rfl (pi.cells ⟨pb,k,v,s1,s2,dG,mv cb true,mI cb false,nz cb false⟩) fun w7 h f7=>oD h 0 rfl (pi.cells ⟨pb,k,v,s1,s2,dG,mv cb true,mI cb true,nz cb false⟩) fun w8 h f8=>oD h 0 rfl (pi.cells ⟨pb,k,v,s1,s2,dG,mv cb true,mI cb true,nz cb true⟩) fun w9 h f9=>⟨_,h⟩
 rintro _ w7 ⟨T,h⟩;have f07:Fr [] w w7:=(f1.trans f2).trans h.fr;have hcl:=eZ (h.at (i:=0) rfl);dsimp only at hcl;have hz1:=f1.size;have hz2:=f2.size;have hT7:=hT.q7 f07;have hylt:=hT.qo;have hcw:w.heap.size<=cb:=oJ;have hC:gb dbk pb FD D F M k v frm to down w cb Y w7 dG [] []:=by
  refine⟨⟨s1,s2,⟨T,h.at (i:=0) rfl⟩,fQ.cT ((b1.q7 f2).q7 h.fr) (fun b hb hm=>?_),fQ.cT (b2.q7 h.fr) (fun b hb hm=>?_)⟩,?_,.nil _ _ _,(fun z hz=>nomatch hz),(fun h=>nomatch h),(fun hm=>?_),(fun b hb=>nomatch hb),(fun b hb=>?_),hfB,htB,yX _⟩
  have:=b1.lt b hb;have:=n1 b hb
  rcases zG.1 hm with rfl|hm;omega
  have:=hylt b (oP hm);omega
  have:=b2.lt b hb;have:=n2 b hb
  rcases zG.1 hm with rfl|hm;omega
  have:=hylt b (oP hm);omega
  exact hT.AW (B:=[cb]) (f07.mono fun _ h=>nomatch h) fun b hb=>by rw[zE.1 hb];exact⟨hcw,hcl⟩
  have:=hylt cb hm;omega
  rw[zE.1 hb];exact hcw
 refine gW (fun _ w'=>∃st SB zs,gb dbk pb FD D F M k v frm to down w cb Y w' st SB zs/\Left D M k v frm to down 1 (zs.map (·.2)) (ia down frm to L)/\Fr [] w w') ?_ ?_;refine TW.J5 hT7 fun w8 f8=>?_;have hC8:=hC.q7 f8;refine gW (fun q w'=>q=decide (0<k/\(dU M t).1≠0)/\w'=w8) ?_ ?_;refine dW (fun h=>⟨?_,rfl⟩) (fun h=>⟨?_,rfl⟩);have h:=zC h;rw[Bool.eq_iff_iff,yN,zT,zR];exact⟨fun g=>⟨oJ,g⟩,fun g=>g.2⟩;have h:=zB h;exact (zU fun g=>h oJ).symm;rintro q w9 ⟨rfl,rfl⟩;have h0:L=[]->Left D M k v frm to down 1 ([]:List kr) (ia down frm to L):=fun e=>.inl ⟨rfl,by rw[e];unfold ia lp;simp⟩;apply dW<;>intro hq;obtain⟨hk,hr⟩:=zC hq;obtain⟨_,hTr⟩:k≠0/\fP D M k v t L P:=hL.resolve_left fun h=>by omega
 have hrh:=(qhg hTr).1;rcases hTr with ⟨e,_,_⟩|⟨hh,n,p,hp,e,hHas⟩;rw[e] at hr;exact absurd rfl hr;have hrh2:hh+1<=L.length:=by rw[e] at hrh;exact hrh
 have hpu:gC p:=by
  have:=(Cb hT.wf t).1
  rw[e] at this;exact this
 rw[e];refine qpO (s:=⟨p,n,L,P⟩) hHas hpu hC8 (by show 0+hh+1<=100000;omega) fun w10 st10 SB10 zs10 hC10 hp10 f10 n10=>⟨st10,SB10,zs10,hC10,?_,(f07.trans f8).j8 f10 fun b hb=>.inr ?_⟩;obtain⟨fs,e1,e2⟩:=qvE (frm:=frm) (to:=to) (down:=down) hHas;rw[hp10] at e1;have e1:=yO e1;rw[e1];refine .inr ⟨hh,_,e2,?_,fun e=>absurd e oM⟩;have hso:=hHas.sort;unfold ia;cases down with
 | false=>exact (qyL hso).symm
 | true=>exact (qvH hso).symm
 rw[zE.1 hb];exact hcw;have hq:=zB hq;have hLn:L=[]:=by rcases hL with h|⟨hk,hTr⟩;exact h.2;rcases hTr with ⟨_,h,_⟩|⟨hh,n,p,hp,e,hHas⟩;exact h;exact absurd ⟨oJ,by rw[e];exact hp⟩ hq
 exact⟨dG,[],[],hC8,h0 hLn,f07.trans f8⟩;rintro _ w8 ⟨st8,SB8,zs8,hC8,hL8,f8⟩;exact kk cb w8 st8 SB8 zs8 hC8 hL8 f8
end
end
section
abbrev SS:=Sl×Sl
def mD (x:SS):List Value:=[x.1.v,x.2.v]
def qpZ:∀z,(mD z).length=2:=fun _=>rfl
def qwD(z:SS):∀u∈mD z,u.oneCell'=true:=fun u h=>by unfold mD at h;simp only[zG,xX,or_false] at h;rcases h with rfl|rfl<;>rfl
def qAD:∃i,prog.info? AV=some i/\i.zero=some (.agg dc)/\i.size=2/\i.bytes=48:=sK oK
def qAQ{zs:List SS}{SB:List Nat}{x:SS}(h:eQ mD 2 w s zs SB)(R:zs.length<=1000000)(G:∀E B' w',eQ mD 2 w' E (zs++[x]) B'->Fr SB w w'->(∀b∈B',b∈SB\/w.heap.size<=b)->K E w'): Pt.new (.cells (wP x.1 x.2) AV) w fun r w1=>Pt.run dh ((Builtin.append_ #[97,97] 97 #[s.v,.slice (pW r) 1 1]).run prog w1) K:=by obtain⟨j,I,J,u,C⟩:=qAD;exact eQ.push (e:=AV) (x:=x) h qpZ (qwD _) oK I J u rfl rfl (by rw[C];omega) oJ G
def o9 (w:World) (h:List Nat) (ps:List (SS×(Key×Key))):Prop:=∀p∈ps,∃u C,fQ w p.1.1 p.2.1 u/\fQ w p.1.2 p.2.2 C/\(∀b∈u,b∈h)/\∀b∈C,b∈h
def o9.q8{w w':World}{S E C:List Nat}{ps:List (SS×(Key×Key))}(h:o9 w E ps)(f:Fr S w w')(G:∀b∈E,b∉S)(I:∀b∈E,b∈C):o9 w' C ps:=fun p U=>by obtain⟨V,B2,h1,h2,J,R⟩:=h p U;exact⟨V,B2,h1.q8 f fun b u=>G b (J b u),h2.q8 f fun b u=>G b (R b u),fun b u=>I b (J b u),fun b u=>I b (R b u)⟩
section
variable {dbk pb:Nat} {FD F:List Nat} {D:dI} {M:dY} {k v:Nat} {frm to:Key} {down:Bool} {w0 w wA:World} {cb:Nat} {Y SB:List Nat} {st:Sl} {zs:List qi}
def qv2{t most:Int}{sf ai:Sl}(hT:TW dbk pb FD D 900000 w [] F M)(hs:rm t=((k:Int),(v:Int)))(hL:(k=0/\L=[])\/(k≠0/\fP D M k v t L P))(aw:L.length<=90000)(hf:eh S w sf frm)(ht:eh S w ai to)(ax:frm.length<=1000000)(ay:to.length<=1000000)(az:eF frm)(aA:eF to)(kk:∀s w' B C ps,eQ mD 2 w' s (ps.map (·.1)) B->o9 w' C ps->(∀b∈C,b∉B)->ps.map (·.2)=(ia down frm to L).take most.toNat->Fr [] w w'->(∀b∈B,w.heap.size<=b)->(∀b∈C,w.heap.size<=b)->K s w'): cW 34 [dF pb,.i t,sf.v,ai.v,.bool down,.i most] dh w K:=by
 refine qoY<|qx1 hT hs hL aw hf ht ax ay az aA fun cb w1 st SB zs aj aB f1=>?_;have a6:(ia down frm to L).length<=90000:=by have h1:(lp frm to L).length<=L.length:=length_filter_le _ _;unfold ia;split;rw[length_reverse];omega;omega
 have a7:∀b∈cb::SB,w.heap.size<=b:=aj.new;refine gW (fun s w'=>∃B C ps,eQ mD 2 w' s (ps.map (·.1)) B/\o9 w' C ps/\(∀b∈C,b∉B)/\ps.map (·.2)=(ia down frm to L).take most.toNat/\Fr [] w w'/\(∀b∈B,w.heap.size<=b)/\(∀b∈C,w.heap.size<=b)) ?_ ?_
 ·refine BS (fun (i:Nat) s w'=>∃B C ps st SB zs,i<=(ia down frm to L).length/\eQ mD 2 w' s (ps.map (·.1)) B/\o9 w' C ps/\(∀b∈C,b∉B)/\ps.map (·.2)=(ia down frm to L).take i/\(most.toNat<i->i=0)/\Fr [] w w'/\(∀b∈B,w.heap.size<=b)/\(∀b∈C,w.heap.size<=b)/\gb dbk pb FD D F M k v frm to down w cb (B++C) w' st SB zs/\Left D M k v frm to down 1 (zs.map (·.2)) ((ia down frm to L).drop i)) (fun i=>(ia down frm to L).length+1-i) 0 ⟨[],[],[],st,SB,zs,yX _,.nil _ _ _,(fun p hp=>nomatch hp),(fun b u=>nomatch u),rfl,fun _=>rfl,f1,(fun b u=>nomatch u),(fun b u=>nomatch u),aj,by rw[xF];exact aB⟩ ?_;rintro i s w2 ⟨B,C,ps,a8,ad,a9,hi,u,hR,hd,R,aE,f2,n2,n3,G,aG⟩ X hX;have ba:s.len=i:=by
   rw[u.len,zK]
   have:=congrArg List.length R
   rw[zK,yL] at this;omega
  apply dW<;>intro hc;rotate_left;have hc:=zB hc;refine⟨B,C,ps,u,hR,hd,?_,f2,n2,n3⟩;rw[R];by_cases h0:most.toNat<i
  have:=aE h0;omega
  have:most.toNat=i:=oJ;rw[this];have hc:=zC hc;have bb:i<most.toNat:=oJ;have bc:=G.lt;refine qv3 G aG (fun aH w3 ae f3=>?_) (fun x L' U ks vs B1 B2 w3 aI aJ aK hk hv ae aL f3 n4 n5 n6 aW=>?_);refine oB (oE [] w3) fun r w4 e4 f4 h=>oD h 0 rfl (wP dG dG) fun w5 h f5=>cond_true rfl ?_;have af:Fr (cb::ad) w2 w5:=f3.trans (h.fr.mono fun _ h=>nomatch h);have E:∀b∈B++C,b∉cb::ad:=fun b u J=>by rcases zG.1 J with rfl|J;exact G.Au u;exact G.wK b J u
  refine⟨B,C,ps,u.q8 af fun b u=>E b (by simp[u]),hR.q8 af (fun b u=>E b (by simp[u])) fun b u=>u,hd,?_,f2.j8 af fun b u=>.inr (G.new b u),n2,n3⟩;rw[R];have I:(ia down frm to L).length<=i:=by
   have:=congrArg List.length aH
   rw[yC,xK] at this;omega
  rw[zS I,zS oJ];have I:i<(ia down frm to L).length:=by
   have:=congrArg List.length U
   rw[yC,yI] at this;omega
  have hx:(ia down frm to L).take (i+1)=(ia down frm to L).take i++[x]:=(by rw[yG I];rw[zY I] at U;rw[(vC U).1]);have ag:(ia down frm to L).drop (i+1)=L':=(by rw[zY I] at U;exact (vC U).2);have E:∀b∈B++C,b∉cb::ad:=fun b u J=>by rcases zG.1 J with rfl|J;exact G.Au u;exact G.wK b J u
  have aN:eQ mD 2 w3 s (ps.map (·.1)) B:=u.q8 f3 fun b u=>E b (by simp[u]);have aO:o9 w3 (B1++(B2++C)) (ps++[((ks,vs),x)]):=fun p hp=>by rcases zD.1 hp with hp|hp;exact hR.q8 f3 (fun b u=>E b (by simp[u])) (fun b u=>by simp[u]) p hp;rw[zE.1 hp];exact⟨B1,B2,hk,hv,fun b u=>by simp[u],fun b u=>by simp[u]⟩
  have ap:∀b∈B1++(B2++C),b∉B:=fun b V J=>by
   have:=u.lt b J
   rcases zD.1 V with h|V
   have:=n5 b h;omega
   rcases zD.1 V with h|V
   have:=n6 b h;omega
   exact hd b V J
  refine oB (oE [] w3) fun r w4 e4 f4 h=>oD h 0 rfl (wP ks vs) fun w5 h f5=>cond_false rfl<|oC h 0 rfl (ks,vs) rfl ?_;have aP:=ae.q7 h.fr;refine qAQ (x:=(ks,vs)) (aN.q7 h.fr) (by rw[zK];have:=congrArg List.length R;rw[zK,yL] at this;omega) fun s6 B6 w6 b6 f6 n7=>?_;have aq:=ae.lt;have ab:∀b∈B1++(B2++C),b<w5.heap.size:=fun b u=>yD (aq b (by simp only[zD,zG] at u⊢;rcases u with h|h|h<;>simp[h])) h.fr.size;have aR:Fr [] w w6:=by refine (f2.j8 f3 fun b u=>.inr (G.new b u)).trans (h.fr) |>.j8 f6 fun b u=>.inr (n2 b u)
  have hz:=(f2.j8 f3 fun b u=>.inr (G.new b u)).size;refine hX (i+1) s6 w6 ⟨B6,B1++(B2++C),ps++[((ks,vs),x)],aI,aJ,aK,I,by rw[xN];exact b6,(aO.q8 h.fr (fun _ _ h=>nomatch h) fun b u=>u).q8 f6 ap fun b u=>u,fun b u J=>?_,by rw[xN,R,hx];rfl,fun h=>oJ,aR,fun b u=>?_,fun b u=>?_,aP.q8 (f6.mono fun b u _=>by simp[u]) (fun b u=>?_) (fun b u=>?_),by rw[ag];exact aL⟩ ?_;rcases n7 b J with h1|h1;exact ap b u h1
  have:=ab b u;omega
  rcases n7 b u with h1|h1;exact n2 b h1
  have:=h.fr.size;omega
  have ar:=f2.size;rcases zD.1 u with h|u;exact zL ar (n5 b h);rcases zD.1 u with h|u;exact zL ar (n6 b h);exact n3 b u;rcases zD.1 u with u|u;exact (n7 b u).imp (fun h=>by simp[h]) id;exact .inl (by simp only[zD] at u⊢;rcases u with h|h|h<;>simp[h]);rcases zD.1 u with u|u;exact b6.lt b u;exact yD (ab b u) f6.size;show _+1-(i+1)<_+1-i;omega
 rintro s w2 ⟨B,C,ps,h1,h2,h3,h4,h5,h6,h7⟩;exact kk s w2 B C ps h1 h2 h3 h4 h5 h6 h7
end
end
section
def qBi{frm to:Key}{x:Key×Key}:Bb frm to x=true↔¬fI x.1 frm/\¬fI to x.1:=by unfold Bb;rw[yB,yN,yN];have h:cmpL x.1 frm>=0↔¬fI x.1 frm:=(by unfold fI;omega);have u:cmpL x.1 to<=0↔¬fI to x.1:=(by unfold fI;rw[um x.1 to];omega);rw[h,u]
def qyd(l:List Int):¬cmpL l l<0:=qC
def qAV{x y:List Int}{n m:Int}(u:np n)(C:np m)(E:x.length=y.length):fI (x++bw 8 n) (y++bw 8 m)↔fI x y\/x=y/\n<m:=by unfold fI;rw[qtY E];by_cases e:x=y;rw[if_pos e,qwm u C,e];exact⟨fun h=>.inr ⟨rfl,h⟩,fun h=>h.elim (fun h=>absurd h (qyd y)) fun h=>h.2⟩;rw[if_neg e];exact⟨.inl,fun h=>h.elim id fun h=>absurd h.1 e⟩
def quw{a b c d:Int}(u:np a)(E:np b)(C:np c)(G:np d):fI (kN a b) (kN c d)↔a<c\/a=c/\b<d:=by unfold kN;rw[qAV E G (by rw[k8,k8]),show fI (bw 8 a) (bw 8 c)↔a<c from qwm u C];exact⟨fun h=>h.imp id fun h=>⟨Dw (by rw[p8];exact u) (by rw[p8];exact C) h.1,h.2⟩,fun h=>h.imp id fun h=>⟨by rw[h.1],h.2⟩⟩
def uC (l:List (HL i7)):Prop:=l.Pairwise fun a b=>ml a b=true
def vu (d:HL i7):Key×Key:=(kN d.1 d.2.1,iG (Bu d))
def qyk{a b:HL i7}(h:jE i7 a)(u:jE i7 b):fI (vu a).1 (vu b).1↔ml a b=true:=by unfold ml;rw[yN];exact quw (qt h.1) (qt h.2.1) (qt u.1) (qt u.2.1)
def lB.eqs{α κ:Type}{K:nt α κ}{l:List α}{f:α->Key×Key}(h:lB K L l)(u:∀a,f a=(K.g (K.key a),K.val a))(C:l.Pairwise fun a b=>fI (f a).1 (f b).1):L=l.map f:=by
 refine List.Perm.eq_of_pairwise (le:=fun x y=>fI x.1 y.1) (fun a b _ _ E G=>absurd G (sE E)) ?_ ?_ ?_
 have:=h.1.sort
 unfold e9 fJ dP at this;exact pairwise_map.1 this;exact pairwise_map.2 C;rw[show f=fun a=>(K.g (K.key a),K.val a) from funext u];exact h.1.perm
def oo (l:List (HL i7)) (h most:Int):List (HL i7):=(l.filter fun d=>decide (d.1<=h)).take most.toNat
def qwz{u most:Int}(h:lB tG L l)(I:uC l)(J:np u):(ia false [] (kN u 18446744073709551615) L).take most.toNat=(oo l u most).map vu:=by
 have e:L=l.map vu:=h.eqs (fun _=>rfl) (List.Pairwise.imp_of_mem (fun {a b} R U C=>(qyk (h.2 a R) (h.2 b U)).2 C) I);unfold ia lp oo;rw[if_neg oM,e,filter_map,xP];congr 2;refine filter_congr fun d V=>?_;have G:=h.2 d V;have C:=qt G.1;have E:=qt G.2.1;rw[Bool.eq_iff_iff,Function.comp,qBi,yN];have h0:¬fI (vu d).1 []:=by
  unfold vu kN fI;have:bw 8 d.1≠[]:=fun e=>by have:=congrArg List.length e;rw[k8] at this;cases this
  cases hx:bw 8 d.1 with
  | nil=>exact absurd hx this
  | cons x r=>exact (by decide:¬(1:Int)<0)
 have h3:fI (kN u 18446744073709551615) (vu d).1↔u<d.1\/u=d.1/\18446744073709551615<d.2.1:=quw J ⟨oM,oM⟩ C E;rw[h3];have key:∀a e:Int,np e->(¬(u<a\/u=a/\18446744073709551615<e)↔a<=u):=fun a e h=>by omega
 exact⟨fun h=>(key _ _ E).1 h.2,fun h=>⟨h0,(key _ _ E).2 h⟩⟩
abbrev Dv:TypeId:=41
abbrev ku:HL i7->List Value:=HL.mk i7
def Cc(d:HL i7):(ku d).length=4:=rfl
def qAx:∃i,prog.info? Dv=some i/\i.zero=some (.agg c6)/\i.size=4/\i.bytes=32:=sK oK
def qwA(d:HL i7):∀u∈ku d,u.oneCell'=true:=fun u h=>by obtain⟨a,b,c,e⟩:=d;rcases zG.1 h with rfl|h;rfl;rcases zG.1 h with rfl|h;rfl;rcases zG.1 h with rfl|h;rfl;rw[zE.1 h];rfl
def Be{x:HL i7}(h:eQ ku 4 w s l B)(R:l.length<=1000000)(G:∀E B' w',eQ ku 4 w' E (l++[x]) B'->Fr B w w'->(∀b∈B',b∈B\/w.heap.size<=b)->K E w'): Pt.new (.cells (HL.mk i7 x).toArray Dv) w fun r w1=>Pt.run dh ((Builtin.append_ #[29,29] 29 #[s.v,.slice (pW r) 1 1]).run prog w1) K:=by obtain⟨j,I,J,u,C⟩:=qAx;exact eQ.push (e:=Dv) (x:=x) h Cc (qwA x) oK I J u rfl rfl (by rw[C];omega) oJ G
section
variable {w w' w1:World} {Y F F':List Nat} {sb pb c:Nat} {b b':Bk}
def qzr{u most:Int}(h:SB w Y sb F c b)(hn:IntKind.u64.has u)(hd:uC b.due)(hl:b.size<=90000)(kk:∀s B w',eQ ku 4 w' s (oo b.due u most) B->Fr [] w w'->(∀x∈B,w.heap.size<=x)->(∀d∈b.due,jE i7 d)->K s w'): cW 10 [dF sb,.int .u64 u,.i most] dh w K:=by
 refine qk0 ?_;obtain⟨pb,h⟩:=h;have g:=(Fr.refl [] w).drew;refine h.rc g (qtJ fun s1 w1 h1 f1=>ig (h.held (g.trans f1)) ?_);obtain⟨dbk,FD,Fp,D,M,Fo,rfl,hS,az,aA,hb,hc,hj⟩:=h;have E:=hb.due;have aC:=E.len;have ae:=(hS.q7 g).q7 f1;have hz:b.due.length<=b.size:=(by unfold Bk.size;omega);refine qv2 (S:=[]) (k:=16) (v:=16) (frm:=[]) (L:=(Fo 3).1) (P:=(Fo 3).2) ((ae.tw.y0 (Y':=[]) (fun _ h=>nomatch h)).up (by omega)) rfl (.inr ⟨oM,hS.st.J0.J2 3 oM⟩) oJ (.nil _ _ _ _) h1.rd (yX _) (by rw[wN];decide) (fun _ h=>nomatch h) (DG _ _) fun s2 w2 B KB ps hB hR _ G f2 nB _=>?_;rw[qwz E hd (qt hn)] at G;have af:ps.length=(oo b.due u most).length:=(by have:=congrArg List.length G;simpa using this);have aF:(oo b.due u most).length<=b.due.length:=(by unfold oo;rw[yL];exact zL (Nat.min_le_right _ _) (length_filter_le _ _));have aG:s2.len=ps.length:=(by rw[hB.len,zK]);have ag:dZ mD 2 [] w2 s2 (ps.map (·.1)):=hB.jo qpZ fun _ _ h=>nomatch h;refine iU (fun q w'=>∃i:Nat,∃B',q.2=i/\i<=ps.length/\eQ ku 4 w' q.1 ((oo b.due u most).take i) B'/\Fr [] w2 w'/\∀x∈B',w2.heap.size<=x) (fun q _=>ps.length-q.2.toNat) ⟨0,[],rfl,yX _,eQ.nil _ _ _,.refl _ _,fun _ h=>nomatch h⟩ ?_;rintro⟨s3,q⟩ w3 ⟨i,B3,hq,hi,b3,R,n3⟩ X hX;dsimp only at hq b3⊢;subst hq;apply cD<;>intro I;have C:i<ps.length:=oJ;have J:i<(oo b.due u most).length:=oJ;have U:ps[i].2=vu (oo b.due u most)[i]:=by
  have:=congrArg (·[i]?) G
  simp only[zQ,zA C,zA J,Option.map_some] at this;exact yO this
 generalize V:(oo b.due u most)[i]=d at U;have hm:d∈b.due:=(by rw[<- V];exact (mem_filter.1 (yV (zX J))).1);have ok:=E.2 d hm;obtain⟨B1,B2,k1,k2,_,_⟩:=hR ps[i] (zX C);rw[U] at k1 k2;have ai:eh [] w2 ps[i].1.1 (kN d.1 d.2.1):=k1.jo kW fun _ _ h=>nomatch h;have aj:eh [] w2 ps[i].1.2 (iG (Bu d)):=k2.jo kW fun _ _ h=>nomatch h;refine gW (fun q w'=>∃B',eQ ku 4 w' q ((oo b.due u most).take (i+1)) B'/\Fr [] w2 w'/\∀x∈B',w2.heap.size<=x) ?_ fun s4 w4 ⟨B4,b4,f4,n4⟩=>hX _ _ ⟨i+1,B4,by dsimp only;rw[gg _ oJ];rfl,C,b4,f4,n4⟩ (by dsimp only;rw[gg _ oJ];omega);refine dZ.qT (x:=ps[i].1) (y:=ps[i].1) (ag.q7 R) i rfl (by rw[zQ,zA C];rfl) rfl rfl<|oB (oE [] w3) fun r4 w4 _ f4 o=>o.st' 0 rfl _ (kj rfl) rfl (zM _) fun w5 o _=>oA o 0 rfl ps[i].1.1 rfl (oA o 0 rfl ps[i].1.2 rfl ?_);have f5:=R.trans o.fr;refine quJ (x:=Bu d) (ai.q7 f5) (aj.q7 f5) (qt ok.1) (qt ok.2.1) ⟨qt ok.2.2.1,qt ok.2.2.2⟩ fun w6 f6=>oB (o.q7 f6) fun r7 w7 _ f7 o=>o.st' 0 rfl _ (kj rfl) rfl (zM _) fun w8 o _=>cond_true rfl (oC o 0 rfl d rfl ?_);refine Be (b3.q7 o.fr) (by rw[yL];omega) fun s9 B9 w9 b9 f9 n9=>⟨B9,?_,(R.trans o.fr).j8 f9 fun x hx=>.inr (n3 x hx),fun x hx=>(n9 x hx).elim (n3 x) fun h=>zL (R.trans o.fr).size h⟩;rw[yG J,V];exact b9;have C:i=ps.length:=oJ;subst C;rw[af,xZ] at b3;have f:=(g.trans f1).trans f2;exact kk s3 B3 w3 b3 (f.trans R) (fun x hx=>zL f.size (n3 x hx)) E.2
end
end
section
def Cj{x:Int}(h:np x):IntKind.u64.has x:=show (0:Int)<=x/\x<=18446744073709551615 from⟨h.1,oJ⟩
def qy7:IntKind.u64.has 0:=Cj ⟨oM,oM⟩
section
variable {w w' w1:World} {Y F F':List Nat} {sb pb c:Nat} {b b':Bk}
end
end
section
section
variable {w w' w1:World} {Y F F':List Nat} {sb pb c:Nat} {b b':Bk}
def SB.flt(h:SB w Y sb F c b):∀x∈F,x<w.heap.size:=by obtain⟨pb,dbk,FD,I,D,M,Fo,rfl,u,C,E,J,R,U⟩:=h;exact fun x G=>(zD.1 G).elim (fun h=>u.tw.x8.og x (zH _ h)) fun h=>u.tw.x8.lt x h
end
end
section
def xd{a b:iV}{x y:Operand}{K:Bool->Prop}(k:K (decide (a=b))): eW [gN.one Cell.bool] (fun w'=>(do eqGuard .eql ut x y (de a.1 a.2) (de b.1 b.2);binOp .eql ut (de a.1 a.2) (de b.1 b.2):Sem Value).run prog w') w K:=by have e:sV prog 2 ut (de a.1 a.2) (de b.1 b.2)=some (bif a.1==b.1 then (bif a.2==b.2 then true else false) else false):=oK;have h:(bif a.1==b.1 then (bif a.2==b.2 then true else false) else false)=decide (a=b):=(by obtain⟨u,C⟩:=a;obtain⟨E,G⟩:=b;dsimp only;by_cases h0:u=E;by_cases h1:C=G;simp[h0,h1];simp[h0,h1];simp[h0]);rw[h] at e;exact FJ 2 oM _ e oK k
def dZ.jc{α:Type}{enc:α->List Value}{l:List α}{cl:List Cell}(h:dZ enc k S w s l)(n:Nat){x:α}{y:HL cl}{K:HL cl->Prop}(hi:i=n)(u:l[n]?=some x)(C:cl.length<=k)(E:(enc x).take cl.length=HL.mk cl y)(G:K y):idx s i k fun a=>dK cl a w K:=by subst hi;obtain⟨U,b,o,I,_,V,T,fr,J,R⟩:=h.at n u;refine qj I ⟨oJ,oJ⟩ ?_;rw[zJ];refine Ao J y ?_ G;rw[<- E,<- R,take_take,xR C]
def dZ.vT{α:Type}{enc:α->List Value}{l:List α}{c:Cell}(h:dZ enc k S w s l)(n j:Nat){x:α}{y:c.El}{K:c.El->Prop}(hi:i=n)(C:l[n]?=some x)(E:j<k)(u:(enc x)[j]?=some (c.mk y))(G:K y):idx s i k fun a=>ld c ⟨a.block,a.off+j,none⟩ w K:=by subst hi;obtain⟨U,b,o,I,_,V,T,fr,J,R⟩:=h.at n C;refine qj I ⟨oJ,oJ⟩ ?_;rw[zJ];refine iA J y ?_ G;rw[<- R,xB,if_pos E,xA] at u;rw[<- xL];exact u
def oV (x:iV×Int):List Value:=[.int .u64 x.1.1,.int .u64 x.1.2,.b x.2]
def nS (m:Mv):List Value:=[.int .u64 m.1.1,.int .u64 m.1.2,.int .u64 m.2.1,.int .u64 m.2.2.1,.int .u64 m.2.2.2]
def mB (x:Ln):List Value:=[.int .u64 x.1.1,.int .u64 x.1.2]++HL.mk mt x.2
def AU (x:iV×Int):List Value:=[.int .u64 x.1.1,.int .u64 x.1.2,.int .u64 x.2]
abbrev qB:HL iT->List Value:=HL.mk iT
abbrev pp:=HL fO
structure RB (S:List Nat) (w:World) (r:pp) (b:Bk):Prop where
 acc:dZ qB 15 S w r.1 b.acc
 kc:dZ nO 18 S w r.2.1 b.kc
 jJ:dZ oV 3 S w r.2.2.1 b.jJ
 due:dZ ku 4 S w r.2.2.2.1 b.due
 me:dZ nS 5 S w r.2.2.2.2.1 b.me
 mh:dZ nS 5 S w r.2.2.2.2.2.1 b.mh
 jz:dZ mB 12 S w r.2.2.2.2.2.2.1 b.jz
 told:r.2.2.2.2.2.2.2.2.1=b.last.isSome/\r.2.2.2.2.2.2.2.1=b.last.getD 0
 gone:∃ g:List (iV×Int),g.length<=b.gn/\dZ AU 3 S w r.2.2.2.2.2.2.2.2.2 g
section
variable {S S':List Nat} {w w':World} {r:pp} {b:Bk}
def RB.q8(h:RB S w r b)(f:Fr S w w')(u:∀x∈S',x∈S\/w.heap.size<=x):RB S' w' r b:=⟨h.acc.q8 f u,h.kc.q8 f u,h.jJ.q8 f u,h.due.q8 f u,h.me.q8 f u,h.mh.q8 f u,h.jz.q8 f u,h.told,h.gone.elim fun g q=>⟨g,q.1,q.2.q8 f u⟩⟩
def RB.q7(h:RB S w r b)(f:Fr [] w w'):RB S w' r b:=h.q8 (f.mono fun _ h _=>nomatch h) fun _ h=>.inl h
def xe{α:Type}{p:α->Bool}{l:List α}{i:Nat}{x:α}(G:l[i]?=some x)(C:(l.take i).find? p=none):(p x=true->l.find? p=some x)/\(p x=false->(l.take (i+1)).find? p=none):=by obtain⟨E,u⟩:=zP.1 G;constructor;intro h;rw[show l.find? p=(l.take i++l.drop i).find? p by rw[xE],List.find?_append,C,zY E,u,List.find?_cons,h];rfl;intro h;rw[yG E,u,List.find?_append,C,List.find?_cons,h];rfl
def FM{α:Type}{enc:α->List Value}{j R r3:Nat}{key:α->iV}{i:iV}{cs:Array Value}{T1 T3:TypeId}{l:List α}{x y:Operand}{E:WP}{Fd:Int->WP}(I:∀x,(enc x).take 2=HL.mk u2 (key x))(hk:2<=k)(h1:w.heap[R]?=some (.cells cs T1 (0,0)))(hj:cs[j]?=some s.v)(h3:w.heap[r3]?=some (.cells #[.int .u64 i.1,.int .u64 i.2] T3 (0,0)))(hR:dZ enc k S w s l)(hl:l.length<=1000000)(k0:∀w',Fr [] w w'->(l.find? fun x=>decide (key x=i))=none->E w')(k1:∀(n:Nat) x w',l[n]?=some x->(l.find? fun x=>decide (key x=i))=some x->Fr [] w w'->Fd n w'): loop Int (fun X q C=>ld .slice (dg R j) C fun s=>cond (decide (q<(s.len:Int))) (ld .slice (dg R j) C.drew fun s=>idx s q k fun a=>dK u2 a C.drew fun t=>dK u2 (dg r3) C.drew fun J=>eW [gN.one Cell.bool] (fun w'=>(do eqGuard .eql ut x y (de t.1 t.2) (de J.1 J.2);binOp .eql ut (de t.1 t.2) (de J.1 J.2):Sem Value).run prog w') C.drew fun b=>cond b (Fd q C) (X (wrap .i64 (q+1)) C.drew)) (E C)) 0 w:=by
 have ah:=hR.1;refine iU (fun q w'=>∃n:Nat,q=n/\n<=l.length/\Fr [] w w'/\((l.take n).find? fun x=>decide (key x=i))=none) (fun q _=>l.length-q.toNat) ⟨0,rfl,yX _,.refl _ _,rfl⟩ ?_;rintro q w1 ⟨n,rfl,hn,f,U⟩ X hX;have G:∀ {b:Nat} {o:Obj} {w2:World},w.heap[b]?=some o->Fr [] w w2->w2.heap[b]?=some o:=fun h f=>by rw[f.block _ (eZ h) fun h=>nomatch h];exact h
 refine iA (G h1 f) s hj (dW (fun V=>?_) (fun V=>?_));have u:n<l.length:=(by have:=zC V;omega);have g:=f.drew;have hx:=zA u;refine iA (G h1 g) s hj (dZ.jc (cl:=u2) (hR.q7 g) n rfl hx hk (I _) (Ao (G h3 g) i rfl (xd ?_)));have st:=xe (p:=fun x=>decide (key x=i)) hx U;apply dW<;>intro hb;exact k1 n _ w1 hx (st.1 hb) f;rw[gg _ oJ];exact hX _ _ ⟨n+1,rfl,u,g,st.2 hb⟩ oJ;have u:n=l.length:=(by have:=zB V;omega);subst u;rw[xZ] at U;exact k0 w1 f U
def qzn{i0 u:Int}{K:HL iT×Bool->WP}(h:RB S w r b)(I:b.size<=100000)(G:∀w',Fr [] w w'->K ((jY b (i0,u)).getD px,(jY b (i0,u)).isSome) w'): cW 27 [.agg (HL.mk fO r).toArray,de i0 u] [.agg iT,.one .bool] w K:=by
 refine qd7<|oB (oE [] w) fun r1 w1 _ f1 o=>oB o fun r3 w2 _ f2 o=>oB o fun r5 w3 _ f3 o=>FM (i:=(i0,u)) (s:=r.1) (key:=kD) (fun _=>rfl) oM (o.at (i:=2) rfl) rfl (o.at (i:=1) rfl) (h.q7 o.fr).acc (by unfold Bk.size at I;omega) (fun J C R=>?_) fun n x J U V C=>?_;refine (o.q7 C).st' 0 rfl _ (kj rfl) rfl (zM _) fun E o _=>oC o 0 rfl px rfl ?_
 have:=G E o.fr
 rwa[show jY b (i0,u)=none from R] at this;have o:=(o.q7 C).drew;refine oA o 2 rfl r.1 rfl (dZ.qT (h.q7 o.fr).acc n rfl U rfl rfl (o.st' 0 rfl _ (kj rfl) rfl (zM _) fun E o _=>oC o 0 rfl x rfl ?_))
 have:=G E o.fr
 rwa[show jY b (i0,u)=some x from V] at this
def qzp{i0 u:Int}{K:List Value×Bool->WP}(h:RB S w r b)(I:b.size<=100000)(G:∀w',Fr [] w w'->K (nO ((jT b (i0,u)).getD tf),(jT b (i0,u)).isSome) w'): cW 28 [.agg (HL.mk fO r).toArray,de i0 u] dw w K:=by
 refine qdK ?_;have J:=yb;refine oB (oE [] w) fun r1 w1 _ f1 o=>oB o fun r3 w2 _ f2 o=>oI o J fun r5 w3 _ o=>FM (i:=(i0,u)) (s:=r.2.1) (key:=qe) (fun _=>rfl) oM (o.at (i:=2) rfl) rfl (o.at (i:=1) rfl) (h.q7 o.fr).kc (by unfold Bk.size at I;omega) (fun R C U=>?_) fun n x R V hf C=>?_;refine qm (ts:=[gN.kF]) (nO tf) oK (mP rfl ((o.q7 C).st' 0 rfl _ (kj rfl) rfl (zM _) fun E o _=>nJ (o.at (i:=0) rfl) _ (ol tf) rfl ?_))
 have:=G E o.fr
 rwa[show jT b (i0,u)=none from U] at this;have o:=(o.q7 C).drew;refine oA o 2 rfl r.2.1 rfl (dZ.gO (h.q7 o.fr).kc ol n rfl V (mP (ol x) (o.st' 0 rfl _ (kj rfl) rfl (zM _) fun E o _=>nJ (o.at (i:=0) rfl) _ (ol x) rfl ?_)))
 have:=G E o.fr
 rwa[show jT b (i0,u)=some x from hf] at this
def qzo{i0 u:Int}{K:Int->WP}(h:RB S w r b)(I:b.size<=100000)(G:∀w',Fr [] w w'->K (nU b (i0,u)) w'): cW 30 [.agg (HL.mk fO r).toArray,de i0 u] [.one .b] w K:=by
 refine qeA<|oB (oE [] w) fun V w1 _ f1 o=>oB o fun r3 w2 _ f2 o=>FM (i:=(i0,u)) (s:=r.2.2.1) (key:=fun x:iV×Int=>x.1) (fun _=>rfl) oM (o.at (i:=1) rfl) rfl (o.at (i:=0) rfl) (h.q7 o.fr).jJ (by unfold Bk.size at I;omega) (fun C E J=>?_) fun n x C R U E=>?_
 have:=G C (o.fr.trans E)
 unfold nU at this;rwa[J] at this;have o:=(o.q7 E).drew;refine oA o 1 rfl r.2.2.1 rfl (dZ.vT (c:=.b) (h.q7 o.fr).jJ n 2 rfl R oM (y:=x.2) rfl ?_)
 have:=G C.drew o.fr
 unfold nU at this;rwa[U] at this
end
end
section
section
variable {α:Type} {enc:α->List Value} {k:Nat} {w:World} {s:Sl} {l:List α} {B S:List Nat}
def Gp{x:α}{K:WP}(h:eQ enc k w s l B)(C:∀x,(enc x).length=k)(I:∀x,∀u∈enc x,u.oneCell'=true)(hi:i=n)(U:n<l.length)(kk:∀w',eQ enc k w' s (l.set n x) B->Fr B w w'->K w'):idx s i k fun a=>Pt.st a (enc x) w K:=by
 subst hi;have hf:=pQ C;rcases h with ⟨_,rfl,_⟩|⟨b,o,G,T,rfl,rfl,ha,hb,h5,h6,h7,h8⟩;cases U;refine qj ha ⟨oJ,oJ⟩ ?_;rw[zJ,xS];rw[xF] at h8;have h9:l.length*k<=s.cap*k:=Nat.mul_le_mul_right k oJ;have ak:l.length*k<=G.size:=oJ;have E:l=l.take n++l[n]::l.drop (n+1):=(by rw[<- zY U,xE]);have V:G=((l.take n).flatMap enc++enc l[n]++((l.drop (n+1)).flatMap enc++G.toList.drop (l.length*k))).toArray:=by
  apply Array.ext';have:l.flatMap enc=(l.take n).flatMap enc++enc l[n]++(l.drop (n+1)).flatMap enc:=by
   conv=>lhs;rw[E]
   rw[yQ,yH,zV]
  rw[<- zV,<- this,<- h8,xE]
 have hA:((l.take n).flatMap enc).length=n*k:=(by rw[hf,yL,xR oJ]);have J:dR G (n*k) (enc x)=((l.take n).flatMap enc++enc x++((l.drop (n+1)).flatMap enc++G.toList.drop (l.length*k))).toArray:=by
  have:=sL (A:=(l.take n).flatMap enc) (X:=enc l[n]) (Y:=enc x) (Z:=(l.drop (n+1)).flatMap enc++G.toList.drop (l.length*k)) (by rw[C,C])
  rw[hA,<- V] at this;exact this
 have aa:(n+1)*k<=l.length*k:=Nat.mul_le_mul_right k U;rw[Nat.succ_mul] at aa;refine qP hb _ J (all_eq_true.2 (I x)) (by rw[C];omega) fun w' ab f=>kk w' (.inr ⟨b,0,_,T,rfl,rfl,ha,ab,by rw[xG];exact h5,h6,?_,?_⟩) f
 have:=congrArg Array.size J
 rw[mR] at this;rw[<- this];exact h7;rw[xF,xG];have e:(l.set n x).flatMap enc=(l.take n).flatMap enc++enc x++(l.drop (n+1)).flatMap enc:=by rw[set_eq_take_append_cons_drop,if_pos U,yQ,yH,zV]
 have R:((l.set n x).flatMap enc).length=l.length*k:=(by rw[hf,xG]);show List.take (l.length*k) (_++_++(_++_))=_;rw[<- zV,<- e,<- R];exact take_left' rfl
def AB{t ty e:TypeId}{i:TypeInfo}{z:Value}{r:Nat}{T:TypeId}(J:w.heap[r]?=some (.cells #[] T (0,0)))(G:dZ enc k S w s l)(C:∀x,(enc x).length=k)(E:∀x,∀u∈enc x,u.oneCell'=true)(ht:prog.underlying t=some (.slice e))(hi:prog.info? e=some i)(hz:i.zero=some z)(R:i.size=k)(U:z.cells.size=k)(V:i.bytes<=1000)(hl:l.length<=1000000)(kk:∀I B w',eQ enc k w' I l B->Fr [r] w w'->(∀b∈B,b=r\/w.heap.size<=b)->K I w'): Pt.run dh ((Builtin.append_ #[t,t] ty #[.slice (pW r) 0 0,s.v]).run prog w) K:=by
 refine eQ.j1 (s:=⟨pW r,0,0⟩) (l:=[]) (ys:=l) (B:=[r]) (eQ.none J) C ht hi hz R U (tg (e':=e) G C E ht) G.1 ?_ (by simp;have:=G.1;omega) fun I B' w' b' f' n' _=>kk I B' w' (oP b') f' fun b J=>(n' b J).imp (fun h=>zE.1 h) id
 have:=G.1
 rw[xK,xS,this];calc l.length*i.bytes<=1000000*1000:=Nat.mul_le_mul hl V
  _<=_:=by decide
end
def Bh(x:HL iT):(qB x).length=15:=rfl
def GO(x:HL iT):∀u∈qB x,u.oneCell'=true:=all_eq_true.1 rfl
def qAw:∃i,prog.info? 74=some i/\i.zero=some (.agg (HL.mk iT px).toArray)/\i.size=15/\i.bytes=104:=sK oK
section
variable {S:List Nat} {w w':World} {r:pp} {b:Bk}
def wI{α:Type}{enc:α->List Value}{w w0:World}{l:List α}{S:List Nat}(h:eQ enc k w s l B)(u:∀x,(enc x).length=k)(C:∀x∈S,x<w0.heap.size)(E:∀x∈B,w0.heap.size<=x):dZ enc k S w s l:=h.jo u fun b G I=>by have:=C b I;have:=E b G;omega
def Aw{α κ:Type}[DecidableEq κ]{kf:α->κ}{a x:α}{l:List α}(C:l[n]?=some x)(u:(l.take n).find? (fun y=>decide (kf y=kf a))=none)(h:kf x=kf a):iE kf a l=l.set n a:=by obtain⟨E,rfl⟩:=zP.1 C;refine qsx E h fun j G e=>?_;rw[List.find?_eq_none] at u;refine u (l[j]' oJ) ?_ (oP e);exact mem_take_iff_getElem.2 ⟨j,oJ,rfl⟩
def AX{α κ:Type}[DecidableEq κ]{kf:α->κ}{a:α}{l:List α}(h:l.find? (fun y=>decide (kf y=kf a))=none):iE kf a l=l++[a]:=Fl fun x u e=>by rw[List.find?_eq_none] at h;exact h x u (oP e)
def quR{a:HL iT}{K:pp->WP}(h:RB S w r b)(hl:b.size<=100000)(hS:∀x∈S,x<w.heap.size)(kk:∀r' w',RB S w' r' (b.l9 a)->Fr [] w w'->K r' w'): cW 64 [.agg (HL.mk fO r).toArray,.agg (HL.mk iT a).toArray] [.agg fO] w K:=by
 refine qc7 ?_;have aD:b.acc.length<=100000:=(by unfold Bk.size at hl;omega);obtain⟨i,hi,hz,aa,ab⟩:=qAw;refine oB (oE [] w) fun r1 w1 _ f1 o=>oB o fun r3 w2 _ f2 o=>oB o fun r5 J _ f3 o=>oB (oE [] J) fun r7 w4 e4 f4 o2=>?_;have o4:=o.q7 f4;refine oA o4 2 rfl r.1 rfl (AB (e:=74) (o2.at (i:=0) rfl) (h.q7 o4.fr).acc Bh GO oK hi hz aa rfl (by rw[ab];decide) oJ fun s5 B5 w5 b5 f5 n5=>?_);have E:∀x∈B5,J.heap.size<=x:=fun x u=>(n5 x u).elim (fun e=>oJ) fun h=>zL f4.size h;have R:Fr [] J w5:=f4.j8 f5 fun x u=>.inr (by rw[zE.1 u];omega);have ac:∀(s:Sl) (l:List (HL iT)) (B:List Nat) V,eQ qB 15 V s l B->(∀x∈B,J.heap.size<=x)->Fr [] J V->l=iE kD a b.acc->Pt.st (dg r1) [s.v] V fun w7=>dK fO (dg r1) w7 fun t=>Pt.st (dg r5) (HL.mk fO t) w7 fun w8=>dK fO (dg r5) w8 fun t=>K t w8:=fun s l B V hb hB G e=>by
  refine (o.q7 G).st' 2 rfl (HL.mk fO (s,r.2)).toArray rfl rfl (zO rfl) fun w7 o7 f7=>oC o7 2 rfl (s,r.2) rfl (o7.st' 0 rfl _ (kj rfl) rfl (zM _) fun w8 o8 f8=>oC o8 0 rfl (s,r.2) rfl ?_);have I:=h.q7 o8.fr;have l1:r1<J.heap.size:=eZ (o.at (i:=2) rfl);have l5:r5<J.heap.size:=eZ (o.at (i:=0) rfl);have an:=(hb.q8 f7 fun x u h=>by have:=hB x u;have:=zE.1 h;omega).q8 f8 fun x u h=>by have:=hB x u;have:=zE.1 h;omega
  have ao:dZ qB 15 S w8 s (iE kD a b.acc):=(by rw[<- e];exact wI an Bh hS fun x u=>zL o.fr.size (hB x u));exact kk (s,r.2) w8 ⟨ao,I.kc,I.jJ,I.due,I.me,I.mh,I.jz,I.told,I.gone⟩ o8.fr
 have aK:s5.len=b.acc.length:=b5.len;refine iU (fun q w'=>∃n:Nat,q=n/\n<=b.acc.length/\Fr [] w5 w'/\((b.acc.take n).find? fun x=>decide (kD x=kD a))=none) (fun q _=>b.acc.length-q.toNat) ⟨0,rfl,yX _,.refl _ _,rfl⟩ ?_;rintro q V ⟨n,rfl,hn,G,hf⟩ X hX;apply cD<;>intro hc;have C:n<b.acc.length:=oJ;have u:=zA C;have b6:=(b5.q7 G).q7 (Fr.refl [] V).drew;have o6:=o.q7 ((R.trans G).drew);refine dZ.jc (cl:=u2) (S:=[]) (b6.jo Bh fun _ _ h=>nomatch h) n rfl u oM rfl (oC o6 1 rfl (kD a) rfl (xd (a:=kD b.acc[n]) ?_));have st:=xe (p:=fun x=>decide (kD x=kD a)) u hf;apply dW<;>intro hb;refine oC o6 1 rfl a rfl (Gp b6 Bh GO rfl C fun w7 b7 f7=>ac _ _ _ _ b7 E ((R.trans G).drew.j8 f7 fun x u=>.inr (E x u)) (Aw u hf (zC hb)).symm);rw[gg _ oJ];exact hX _ _ ⟨n+1,rfl,C,G.drew,st.2 hb⟩ oJ;have C:n=b.acc.length:=oJ;subst C;rw[xZ] at hf;have U:=R.trans G;refine oC (o.q7 U) 1 rfl a rfl (eQ.push (e:=74) (x:=a) (b5.q7 G) Bh (GO a) oK hi hz aa rfl rfl (by rw[ab];omega) oJ fun s7 B7 w7 b7 f7 n7=>ac _ _ _ _ b7 (fun x u=>(n7 x u).elim (E x) (zL U.size)) (U.j8 f7 fun x u=>.inr (E x u)) (AX hf).symm)
end
end
section
abbrev GZ:TypeId:=49
abbrev mvs:List Cell:=[.int .u64,.int .u64,.int .u64,.int .u64,.int .u64]
def AL(x:Mv):(nS x).length=5:=rfl
def Fc(x:Mv):∀u∈nS x,u.oneCell'=true:=all_eq_true.1 rfl
def qAC:∃i,prog.info? GZ=some i/\i.zero=some (.agg #[.int .u64 0,.int .u64 0,.int .u64 0,.int .u64 0,.int .u64 0])/\i.size=5/\i.bytes=40:=sK oK
section
variable {S:List Nat} {w w':World} {s:Sl} {l:List Mv}
def qrt{m:Mv}(h:dZ nS 5 S w s l)(hl:l.length<=100000)(hS:∀x∈S,x<w.heap.size)(kk:∀s' w',dZ nS 5 S w' s' (iE ph m l)->Fr [] w w'->K s' w'): cW 109 [s.v,.agg #[.int .u64 m.1.1,.int .u64 m.1.2,.int .u64 m.2.1,.int .u64 m.2.2.1,.int .u64 m.2.2.2]] dh w K:=by
 refine qhM ?_;obtain⟨i,hi,hz,V,aa⟩:=qAC;refine oB (oE [] w) fun r1 w3 _ f3 o=>oB (oE [] w3) fun r7 w4 e4 f4 o2=>?_;have o4:=o.q7 f4;refine AB (e:=GZ) (o2.at (i:=0) rfl) (h.q7 o4.fr) AL Fc oK hi hz V rfl (by rw[aa];decide) oJ fun s5 B5 w5 b5 f5 n5=>?_;have G:∀x∈B5,w3.heap.size<=x:=fun x u=>(n5 x u).elim (fun e=>oJ) fun h=>zL f4.size h;have R:Fr [] w3 w5:=f4.j8 f5 fun x u=>.inr (by rw[zE.1 u];omega);have ac:∀(s:Sl) (l':List Mv) (B:List Nat) I,eQ nS 5 I s l' B->(∀x∈B,w3.heap.size<=x)->Fr [] w3 I->l'=iE ph m l->K s I:=fun s l' B I C hB J e=>by refine kk s I ?_ (f3.trans J);rw[<- e];exact wI C AL hS fun x u=>zL f3.size (hB x u)
 have aE:s5.len=l.length:=b5.len;refine iU (fun q w'=>∃n:Nat,q=n/\n<=l.length/\Fr [] w5 w'/\((l.take n).find? fun x=>decide (ph x=ph m))=none) (fun q _=>l.length-q.toNat) ⟨0,rfl,yX _,.refl _ _,rfl⟩ ?_;rintro q I ⟨n,rfl,hn,J,hf⟩ X hX;apply cD<;>intro hc;have E:n<l.length:=oJ;have u:=zA E;have b6:=(b5.q7 J).q7 (Fr.refl [] I).drew;have o6:=o.q7 ((R.trans J).drew);have r6:dZ nS 5 [] I.drew s5 l:=b6.jo AL fun _ _ h=>nomatch h;refine ui (decide (ph l[n]=ph m)) I.drew (fun M hM=>?_) ?_;refine dZ.jc (cl:=u2) r6 n rfl u oM rfl (oC o6 0 rfl m.1 rfl (xd (a:=l[n].1) ?_));apply dW<;>intro C;have C:=zC C;refine dZ.vT (c:=.int .u64) r6 n 2 rfl u oM (y:=l[n].2.1) rfl (oA o6 0 rfl m.2.1 rfl ?_);rw[show (l[n].2.1==m.2.1)=decide (ph l[n]=ph m) by unfold ph;rw[C];by_cases e:l[n].2.1=m.2.1;simp[e];simp[e]];exact hM;have C:=zB C;rw[show decide (ph l[n]=ph m)=false from zU fun e=>C (vB e).1] at hM;exact hM;have st:=xe (p:=fun x=>decide (ph x=ph m)) u hf;apply dW<;>intro C;refine oC o6 0 rfl (m.1.1,m.1.2,m.2.1,m.2.2.1,m.2.2.2) rfl (Gp b6 AL Fc (x:=m) rfl E fun w7 b7 f7=>ac _ _ _ _ b7 G ((R.trans J).drew.j8 f7 fun x u=>.inr (G x u)) (Aw u hf (zC C)).symm);rw[gg _ oJ];exact hX _ _ ⟨n+1,rfl,E,J.drew,st.2 C⟩ oJ;have E:n=l.length:=oJ;subst E;rw[xZ] at hf;have U:=R.trans J;refine oC (o.q7 U) 0 rfl (m.1.1,m.1.2,m.2.1,m.2.2.1,m.2.2.2) rfl (eQ.push (e:=GZ) (x:=m) (b5.q7 J) AL (Fc m) oK hi hz V rfl rfl (by rw[aa];omega) oJ fun s7 B7 w7 b7 f7 n7=>ac _ _ _ _ b7 (fun x u=>(n7 x u).elim (G x) (zL U.size)) (U.j8 f7 fun x u=>.inr (G x u)) (AX hf).symm)
end
end
section
section
variable {α:Type} {enc:α->List Value} {k:Nat} {w:World} {s:Sl} {l:List α} {B S:List Nat}
def qtW{j:Nat}{x:α}{vs:List Value}{K:WP}(h:eQ enc k w s l B)(E:∀x,(enc x).length=k)(hi:i=n)(hn:n<l.length)(I:vs.all Value.oneCell'=true)(hj:j+vs.length<=k)(hx:enc x=(enc l[n]).take j++vs++(enc l[n]).drop (j+vs.length))(kk:∀w',eQ enc k w' s (l.set n x) B->Fr B w w'->K w'):idx s i k fun a=>Pt.st ⟨a.block,a.off+j,none⟩ vs w K:=by
 subst hi;have hf:=pQ E;rcases h with ⟨_,rfl,_⟩|⟨b,o,u,T,rfl,rfl,ha,hb,h5,h6,h7,h8⟩;cases hn;refine qj ha ⟨oJ,oJ⟩ ?_;rw[zJ,xS];rw[xF] at h8;have h9:l.length*k<=s.cap*k:=Nat.mul_le_mul_right k oJ;have ap:l.length*k<=u.size:=oJ;have C:l=l.take n++l[n]::l.drop (n+1):=(by rw[<- zY hn,xE]);have J:=E l[n];have he:enc l[n]=(enc l[n]).take j++((enc l[n]).drop j).take vs.length++(enc l[n]).drop (j+vs.length):=(by rw[zV,<- xD,xE,xE]);have R:u=(((l.take n).flatMap enc++(enc l[n]).take j)++((enc l[n]).drop j).take vs.length++((enc l[n]).drop (j+vs.length)++((l.drop (n+1)).flatMap enc++u.toList.drop (l.length*k)))).toArray:=by
  apply Array.ext';have:l.flatMap enc=(l.take n).flatMap enc++enc l[n]++(l.drop (n+1)).flatMap enc:=by
   conv=>lhs;rw[C]
   rw[yQ,yH,zV]
  have h0:u.toList=(l.take n).flatMap enc++enc l[n]++(l.drop (n+1)).flatMap enc++u.toList.drop (l.length*k):=(by rw[<- this,<- h8,xE]);rw[h0];conv=>lhs;rw[he]
  rw[<- h0];simp only[zV]
 have hA:((l.take n).flatMap enc++(enc l[n]).take j).length=n*k+j:=(by rw[zF,hf,yL,yL,xR oJ,J];omega);have G:dR u (n*k+j) vs=((l.take n).flatMap enc++enc x++((l.drop (n+1)).flatMap enc++u.toList.drop (l.length*k))).toArray:=by
  have:=sL (A:=(l.take n).flatMap enc++(enc l[n]).take j) (X:=((enc l[n]).drop j).take vs.length) (Y:=vs) (Z:=(enc l[n]).drop (j+vs.length)++((l.drop (n+1)).flatMap enc++u.toList.drop (l.length*k))) (by rw[yL,yC,J];omega)
  rw[hA,<- R] at this;rw[this,hx];simp only[zV]
 have ac:(n+1)*k<=l.length*k:=Nat.mul_le_mul_right k hn;rw[Nat.succ_mul] at ac;have U:n*k+j+vs.length<=u.size:=(by clear R G hx he hA h8;omega);refine qP hb _ G I U fun w' ad f=>kk w' (.inr ⟨b,0,_,T,rfl,rfl,ha,ad,by rw[xG];exact h5,h6,?_,?_⟩) f
 have:=congrArg Array.size G
 rw[mR] at this;rw[<- this];exact h7;rw[xF,xG];have e:(l.set n x).flatMap enc=(l.take n).flatMap enc++enc x++(l.drop (n+1)).flatMap enc:=by rw[set_eq_take_append_cons_drop,if_pos hn,yQ,yH,zV]
 have V:((l.set n x).flatMap enc).length=l.length*k:=(by rw[hf,xG]);show List.take (l.length*k) (_++_++(_++_))=_;rw[<- zV,<- e,<- V];exact take_left' rfl
end
abbrev wu:TypeId:=144
def AH(x:iV×Int):(oV x).length=3:=rfl
def qp0(x:iV×Int):∀u∈oV x,u.oneCell'=true:=all_eq_true.1 rfl
def qAE:∃i,prog.info? wu=some i/\i.zero=some (.agg #[.int .u64 0,.int .u64 0,.b 0])/\i.size=3/\i.bytes=24:=sK oK
def quV{r:pp}{b:Bk}{i0 C x:Int}{K:pp->WP}(h:RB S w r b)(hl:b.size<=100000)(hS:∀x∈S,x<w.heap.size)(kk:∀r' w',RB S w' r' (b.lA ((i0,C),x))->Fr [] w w'->K r' w'): cW 66 [.agg (HL.mk fO r).toArray,de i0 C,.b x] [.agg fO] w K:=by
 refine qdC ?_;have aE:b.jJ.length<=100000:=(by unfold Bk.size at hl;omega);obtain⟨i,hi,hz,ab,ac⟩:=qAE;refine oB (oE [] w) fun r1 w1 _ f1 o=>oB o fun r3 w2 _ f2 o=>oB o fun r5 R _ f3 o=>oB (oE [] R) fun r7 w4 e4 f4 o2=>?_;have o4:=o.q7 f4;refine oA o4 2 rfl r.2.2.1 rfl (AB (e:=wu) (o2.at (i:=0) rfl) (h.q7 o4.fr).jJ AH qp0 oK hi hz ab rfl (by rw[ac];decide) oJ fun s5 B5 w5 b5 f5 n5=>?_);have G:∀x∈B5,R.heap.size<=x:=fun x u=>(n5 x u).elim (fun e=>oJ) fun h=>zL f4.size h;have U:Fr [] R w5:=f4.j8 f5 fun x u=>.inr (by rw[zE.1 u];omega);have ad:∀(s:Sl) (l:List (iV×Int)) (B:List Nat) w6,eQ oV 3 w6 s l B->(∀x∈B,R.heap.size<=x)->Fr [] R w6->l=iE (fun y:iV×Int=>y.1) ((i0,C),x) b.jJ->Pt.st (dg r1 2) [s.v] w6 fun w7=>dK fO (dg r1) w7 fun t=>Pt.st (dg r5) (HL.mk fO t) w7 fun w8=>dK fO (dg r5) w8 fun t=>K t w8:=fun s l B w6 hb hB I e=>by
  refine (o.q7 I).st' 2 rfl (HL.mk fO (r.1,r.2.1,s,r.2.2.2)).toArray rfl rfl (zO rfl) fun w7 o7 f7=>oC o7 2 rfl (r.1,r.2.1,s,r.2.2.2) rfl (o7.st' 0 rfl _ (kj rfl) rfl (zM _) fun w8 o8 f8=>oC o8 0 rfl (r.1,r.2.1,s,r.2.2.2) rfl ?_);have J:=h.q7 o8.fr;have l1:r1<R.heap.size:=eZ (o.at (i:=2) rfl);have l5:r5<R.heap.size:=eZ (o.at (i:=0) rfl);have ap:=(hb.q8 f7 fun x u h=>by have:=hB x u;have:=zE.1 h;omega).q8 f8 fun x u h=>by have:=hB x u;have:=zE.1 h;omega
  have aq:dZ oV 3 S w8 s (iE (fun y:iV×Int=>y.1) ((i0,C),x) b.jJ):=(by rw[<- e];exact wI ap AH hS fun x u=>zL o.fr.size (hB x u));exact kk (r.1,r.2.1,s,r.2.2.2) w8 ⟨J.acc,J.kc,aq,J.due,J.me,J.mh,J.jz,J.told,J.gone⟩ o8.fr
 have aL:s5.len=b.jJ.length:=b5.len;refine iU (fun q w'=>∃n:Nat,q=n/\n<=b.jJ.length/\Fr [] w5 w'/\((b.jJ.take n).find? fun y:iV×Int=>decide (y.1=(((i0,C),x):iV×Int).1))=none) (fun q _=>b.jJ.length-q.toNat) ⟨0,rfl,yX _,.refl _ _,rfl⟩ ?_;rintro q w6 ⟨n,rfl,hn,I,hf⟩ X hX;apply cD<;>intro hc;have E:n<b.jJ.length:=oJ;have u:=zA E;have b6:=(b5.q7 I).q7 (Fr.refl [] w6).drew;have o6:=o.q7 ((U.trans I).drew);refine dZ.jc (cl:=u2) (S:=[]) (b6.jo AH fun _ _ h=>nomatch h) n rfl u oM rfl (oC o6 1 rfl (i0,C) rfl (xd (a:=b.jJ[n].1) ?_));have st:=xe (p:=fun y:iV×Int=>decide (y.1=(((i0,C),x):iV×Int).1)) u hf;apply dW<;>intro hb;have ah:b.jJ[n].1=(i0,C):=zC hb;refine qtW (j:=2) (x:=((i0,C),x)) (vs:=[.b x]) b6 AH rfl E rfl (zM _) (by rw[show oV b.jJ[n]=oV (b.jJ[n].1,b.jJ[n].2) from rfl,ah];rfl) fun w7 b7 f7=>ad _ _ _ _ b7 G ((U.trans I).drew.j8 f7 fun x u=>.inr (G x u)) (Aw (kf:=fun y:iV×Int=>y.1) u hf ah).symm;rw[gg _ oJ];exact hX _ _ ⟨n+1,rfl,E,I.drew,st.2 hb⟩ oJ;have E:n=b.jJ.length:=oJ;subst E;rw[xZ] at hf;have V:=U.trans I;refine oC (o.q7 V) 1 rfl (i0,C) rfl (eQ.push (e:=wu) (x:=(((i0,C),x):iV×Int)) (b5.q7 I) AH (qp0 _) oK hi hz ab rfl rfl (by rw[ac];omega) oJ fun s7 B7 w7 b7 f7 n7=>ad _ _ _ _ b7 (fun x u=>(n7 x u).elim (G x) (zL V.size)) (V.j8 f7 fun x u=>.inr (G x u)) (AX (kf:=fun y:iV×Int=>y.1) hf).symm)
end
def dZ.G6{α:Type}{enc:α->List Value}{l:List α}{c:Cell}(h:dZ enc k S w s l)(n:Nat){x:α}{y:c.El}{K:c.El->Prop}(hi:i=n)(C:l[n]?=some x)(E:0<k)(u:(enc x)[0]?=some (c.mk y))(G:K y):idx s i k fun a=>ld c a w K:=by subst hi;obtain⟨U,b,o,I,_,V,T,fr,J,R⟩:=h.at n C;refine qj I ⟨oJ,oJ⟩ ?_;rw[zJ];refine iA J y ?_ G;rw[<- R,xB,if_pos E,xA,Nat.add_zero] at u;rw[<- xL];exact u
def qyi(u:n<l.length):i8 d (l.take (n+1))=i8 d (l.take n)++if k9 l[n]≠k9 d then [l[n]] else []:=by unfold i8;rw[yG u,xC];congr 1;by_cases h:k9 l[n]=k9 d;simp[h];simp[h]
def qlW{r:pp}{b:Bk}{K:pp×Bool->WP}(h:RB S w r b)(hl:b.size<=100000)(hS:∀x∈S,x<w.heap.size)(kk:∀r' w',RB S w' r' (b.kC d)->Fr [] w w'->K (r',decide ((i8 d b.due).length<b.due.length)) w'): cW 69 [.agg (HL.mk fO r).toArray,.agg #[.int .u64 d.1,.int .u64 d.2.1,.int .u64 d.2.2.1,.int .u64 d.2.2.2]] [.agg fO,.one .bool] w K:=by
 refine qex ?_;have aw:b.due.length<=100000:=(by unfold Bk.size at hl;omega);refine oB (oE [] w) fun r1 w1 _ f1 o=>oB o fun r3 w2 _ f2 o=>oB o fun r5 G _ f3 o=>oB (oE [] G) fun r7 w4 e4 f4 o2=>?_;have l1:r1<G.heap.size:=eZ (o.at (i:=2) rfl);have l5:r5<G.heap.size:=eZ (o.at (i:=0) rfl);have ae:=(h.q7 o.fr).due;refine iU (fun t w'=>∃n:Nat,∃B,t.2=n/\n<=b.due.length/\eQ ku 4 w' t.1 (i8 d (b.due.take n)) B/\Fr [] G w'/\∀x∈B,G.heap.size<=x) (fun t _=>b.due.length-t.2.toNat) ⟨0,[r7],rfl,yX _,eQ.none (o2.at (i:=0) rfl),f4,fun x u=>by rw[zE.1 u];omega⟩ ?_;rintro⟨s,q⟩ w5 ⟨n,B,hq,hn,U,V,R⟩ X hX;dsimp only at hq U⊢;subst hq;have o5:=o.q7 V;have aa:dZ ku 4 S w5 r.2.2.2.1 b.due:=ae.q7 V;have ag:r.2.2.2.1.len=b.due.length:=aa.1;refine oA o5 2 rfl r.2.2.2.1 rfl (dW (fun hc=>?_) (fun hc=>?_));have C:n<b.due.length:=(by have:=zC hc;omega);have u:=zA C;have ct:=qyi (d:=d) C;generalize b.due[n]=x at u ct;have o6:=o5.drew;have I:=aa.drew;have aD:(i8 d (b.due.take n)).length<=100000:=zL (length_filter_le _ _) (by rw[yL];omega);refine gW (fun s' w'=>∃B',eQ ku 4 w' s' (i8 d (b.due.take (n+1))) B'/\Fr [] G w'/\∀x∈B',G.heap.size<=x) ?_ fun s' w' ⟨B',b',f',n'⟩=>hX _ _ ⟨n+1,B',by dsimp only;rw[gg _ oJ];rfl,C,b',f',n'⟩ (by dsimp only;rw[gg _ oJ];omega);refine ui (decide (k9 x≠k9 d)) w5.drew (fun M hM=>?_) ?_;refine oA o6 2 rfl r.2.2.2.1 rfl (dZ.G6 (c:=.int .u64) I n rfl u oM (y:=x.1) rfl (oA o6 1 rfl d.1 rfl ?_));by_cases e:x.1=d.1;refine cond_false (by rw[e];simp) (oA o6 2 rfl r.2.2.2.1 rfl (dZ.vT (c:=.int .u64) I n 1 rfl u oM (y:=x.2.1) rfl (oA o6 1 rfl d.2.1 rfl ?_)));rw[show (!x.2.1==d.2.1)=decide (k9 x≠k9 d) by unfold k9;rw[e];by_cases e2:x.2.1=d.2.1;simp[e2];simp[e2]];exact hM;rw[show decide (k9 x≠k9 d)=true from yA fun h=>e (vB h).1] at hM;exact cond_true (oP e) hM;rw[ct];have b6:=U.q7 (Fr.refl [] w5).drew;apply cD<;>intro J;rw[if_pos (J)];refine oA o6 2 rfl r.2.2.2.1 rfl (dZ.qT (y:=x) I n rfl u rfl rfl (Be b6 oJ fun s7 B7 w7 b7 f7 n7=>⟨B7,b7,V.drew.j8 f7 fun x u=>.inr (R x u),fun x u=>(n7 x u).elim (R x) (zL V.drew.size)⟩));rw[if_neg (J),xH];exact⟨B,b6,V.drew,R⟩;have C:n=b.due.length:=(by have:=zB hc;omega);subst C;rw[xZ] at U;refine oA o5 2 rfl r.2.2.2.1 rfl (o5.st' 2 rfl (HL.mk fO (r.1,r.2.1,r.2.2.1,s,r.2.2.2.2)).toArray rfl rfl (zO rfl) fun w7 o7 f7=>oC o7 2 rfl (r.1,r.2.1,r.2.2.1,s,r.2.2.2.2) rfl (o7.st' 0 rfl _ (kj rfl) rfl (zM _) fun w8 o8 f8=>oC o8 0 rfl (r.1,r.2.1,r.2.2.1,s,r.2.2.2.2) rfl ?_));have E:=h.q7 o8.fr;have al:=(U.q8 f7 fun x u h=>by have:=R x u;have:=zE.1 h;omega).q8 f8 fun x u h=>by have:=R x u;have:=zE.1 h;omega
 have e1:s.len=(i8 d b.due).length:=U.len;have e2:r.2.2.2.1.len=b.due.length:=ag
 have:=kk (r.1,r.2.1,r.2.2.1,s,r.2.2.2.2) w8 ⟨E.acc,E.kc,E.jJ,wI al Cc hS fun x u=>zL o.fr.size (R x u),E.me,E.mh,E.jz,E.told,E.gone⟩ o8.fr
 rw[<- e1,<- e2] at this;simpa using this
def quQ{r:pp}{b:Bk}{K:pp×Bool->WP}(h:RB S w r b)(u:b.size<=100000)(C:∀x∈S,x<w.heap.size)(E:∀r' w' t,RB S w' r' (b.kC d)->Fr [] w w'->K (r',t) w'): cW 69 [.agg (HL.mk fO r).toArray,.agg #[.int .u64 d.1,.int .u64 d.2.1,.int .u64 d.2.2.1,.int .u64 d.2.2.2]] [.agg fO,.one .bool] w K:=
 qlW h u C fun r' w' h f=>E r' w' _ h f
end
section
open Go Go.Pt List
open Go.IntKind (wrap)
open Classical
attribute [local irreducible] ld dK ij nM jv fg st new idx jw jL fD jO jl mF gF nn call ed inv run eW i9 join loop held ext kH eS nf mY ng IntKind.wrap
end
section
open Go Go.Pt List
open Go.IntKind (wrap)
open Classical
attribute [local irreducible] ld dK ij nM jv fg st new idx jw jL fD jO jl mF gF nn call ed inv run eW i9 join loop held ext kH eS nf mY ng IntKind.wrap
variable {K:pp->WP} {S:List Nat} {b:Bk} {r:pp} {w:World}
section
variable {w:World}
def qwg{a b:HL i7}{K:Bool->WP}(u:∀w',Fr [] w w'->K (ml a b) w'):cW 110 [.agg #[.int .u64 a.1,.int .u64 a.2.1,.int .u64 a.2.2.1,.int .u64 a.2.2.2],.agg #[.int .u64 b.1,.int .u64 b.2.1,.int .u64 b.2.2.1,.int .u64 b.2.2.2]] dj w K:=by refine qhp<|oB (oE [] w) fun C w1 _ E o=>oB o fun G w2 _ I o=>oA o 1 rfl a.1 rfl (oA o 0 rfl b.1 rfl ?_);have u:=u w2 o.fr;unfold ml at u;apply dW<;>intro h;rw[yA (.inl (zC h))] at u;exact u;have h:=zB h;refine oA o 1 rfl a.1 rfl (oA o 0 rfl b.1 rfl (dW (fun e=>?_) (fun e=>?_)));have e:a.1=b.1:=eq_of_beq e;refine oA o 1 rfl a.2.1 rfl (oA o 0 rfl b.2.1 rfl ?_);rw[show decide (a.1<b.1\/a.1=b.1/\a.2.1<b.2.1)=decide (a.2.1<b.2.1) from decide_eq_decide.2 ⟨fun q=>q.elim (fun q=>absurd q h) fun q=>q.2,fun q=>.inr ⟨e,q⟩⟩] at u;exact u;have e:a.1≠b.1:=ne_of_beq_false e;rw[zU fun q=>q.elim h fun q=>e q.1] at u;exact u
end
def qv (d:HL i7):Bool->List (HL i7)->List (HL i7)
 | c,[]=>if c then [] else [d]
 | c,x::r=>(if c=false/\ml d x=true then [d] else [])++x::qv d (c||ml d x) r
def qqa{d:HL i7}:∀l,qv d true l=l
 | []=>rfl
 | x::r=>by rw[qv,if_neg (fun h=>nomatch h.1),Bool.true_or,qqa r];rfl
def qua{d:HL i7}:∀l,qv d false l=li d l
 | []=>rfl
 | x::r=>by rw[qv,li,Bool.false_or];by_cases h:ml d x=true;rw[if_pos ⟨rfl,h⟩,if_pos h,h,qqa];rfl;rw[if_neg fun q=>h q.2,if_neg h,Bool.eq_false_iff.2 h,qua r];rfl
def quS{d:HL i7}(h:RB S w r b)(hl:b.size<=100000)(hS:∀x∈S,x<w.heap.size)(kk:∀r' w',RB S w' r' (b.jp d)->Fr [] w w'->K r' w'): cW 68 [.agg (HL.mk fO r).toArray,.agg #[.int .u64 d.1,.int .u64 d.2.1,.int .u64 d.2.2.1,.int .u64 d.2.2.2]] [.agg fO] w K:=by
 refine qey ?_;have av:b.due.length<=100000:=(by unfold Bk.size at hl;omega);refine oB (oE [] w) fun r1 w1 _ f1 o=>oB o fun r3 w2 _ f2 o=>oB o fun r5 w3 _ f3 o=>oC o 2 rfl r rfl (oC o 1 rfl d rfl ?_);have aw:=o.fr.size;have l1:r1<w3.heap.size:=eZ (o.at (i:=2) rfl);have l5:r5<w3.heap.size:=eZ (o.at (i:=0) rfl);have n1:w.heap.size<=r1:=(o.own _ (yF (i:=2) rfl)).elim (fun h=>nomatch h) id;have n5:w.heap.size<=r5:=(o.own _ (yF (i:=0) rfl)).elim (fun h=>nomatch h) id;have ax:∀x∈r1::r5::S,x<w3.heap.size:=fun x u=>by rcases zG.1 u with rfl|u;exact l1;rcases zG.1 u with rfl|u;exact l5;exact yD (hS x u) o.fr.size
 have h0:RB (r1::r5::S) w r b:=h.q8 (.refl _ _) fun x u=>by rcases zG.1 u with rfl|u;exact .inr n1;rcases zG.1 u with rfl|u;exact .inr n5;exact .inl u
 refine quQ (d:=d) (h0.q7 o.fr) hl ax fun r' w4 _ h4 f4=>(o.q7 f4).st' 2 rfl _ (kj rfl) rfl (zM _) fun I o f5=>?_;have h5:=h4.q8 (f5.mono fun x u _=>by rw[zE.1 u];exact mem_cons_self) fun x u=>.inl u;have z5:w3.heap.size<=I.heap.size:=zL f4.size f5.size;have ay:(i8 d b.due).length<=100000:=zL (length_filter_le _ _) av;have U:dZ ku 4 (r1::r5::S) I r'.2.2.2.1 (i8 d b.due):=h5.due;have ab:(b.jp d).due=li d (i8 d b.due):=rfl;generalize i8 d b.due=L at ay U ab;have aX:r'.2.2.2.1.len=L.length:=U.1;refine oB (oE [] I) fun r7 w6 e6 f6 o2=>iU (fun t w'=>∃n:Nat,∃B C,t.2.2=n/\n<=L.length/\eQ ku 4 w' t.1 C B/\C++qv d t.2.1 (L.drop n)=li d L/\C.length<=2*n/\Fr [] I w'/\∀x∈B,I.heap.size<=x) (fun t _=>L.length-t.2.2.toNat) ⟨0,[r7],[],rfl,yX _,eQ.none (o2.at (i:=0) rfl),qua L,zM _,f6,fun x u=>by rw[zE.1 u];omega⟩ ?_;rintro⟨s,c,q⟩ w7 ⟨n,B,C,hq,hn,hb,V,a1,f7,nB⟩ X hX;dsimp only at hq hb V⊢;subst hq;have o7:=o.q7 f7;have az:=U.q7 f7;refine oA o7 2 rfl r'.2.2.2.1 rfl (dW (fun hc=>?_) (fun hc=>?_));have E:n<L.length:=(by have:=zC hc;omega);have u:=zA E;rw[zY E,qv] at V;generalize L[n]=x at u V;refine gW (fun z w'=>∃B',z.2=(c||ml d x)/\eQ ku 4 w' z.1 (C++if c=false/\ml d x=true then [d] else []) B'/\Fr [] I w'/\∀x∈B',I.heap.size<=x) ?_ ?_;refine gW (fun z w'=>z=decide (c=false/\ml d x=true)/\Fr [] w7 w') ?_ ?_;cases c;refine cond_true rfl (oC o7.drew 1 rfl d rfl (oA o7.drew 2 rfl r'.2.2.2.1 rfl (dZ.qT (y:=x) az.drew n rfl u rfl rfl (qwg fun w8 f8=>⟨?_,(Fr.refl [] w7).drew.trans f8⟩))));cases ml d x<;>simp;exact cond_false rfl ⟨oL,(Fr.refl [] w7).drew⟩;rintro z w8 ⟨rfl,f8⟩;have al:=hb.q7 f8;apply dW<;>intro J;have J:=zC J;rw[if_pos J];refine oC (o7.q7 f8) 1 rfl d rfl (Be al oJ fun s9 B9 w9 b9 G R=>⟨B9,by dsimp only;rw[J.2,Bool.or_true],b9,(f7.trans f8).j8 G fun x u=>.inr (nB x u),fun x u=>(R x u).elim (nB x) (zL (f7.trans f8).size)⟩);have J:=zB J;rw[if_neg J,xH];exact⟨B,by dsimp only;cases c<;>simp at J⊢;exact J,al,f7.trans f8,nB⟩;rintro⟨s9,c9⟩ w9 ⟨B9,rfl,b9,G,R⟩;dsimp only at b9⊢;refine oA (o.q7 G) 2 rfl r'.2.2.2.1 rfl (dZ.qT (y:=x) (U.q7 G) n rfl u rfl rfl (Be b9 (by rw[zF];split<;>simp<;>omega) fun a4 aC aD aE aa aF=>?_));refine hX _ _ ⟨n+1,aC,_,by dsimp only;rw[gg _ oJ];rfl,E,aE,by rw[<- V];simp only[zV,xJ,xI],by rw[zF,zF];split<;>simp<;>omega,G.j8 aa fun x u=>.inr (R x u),fun x u=>(aF x u).elim (R x) (zL G.size)⟩ (by dsimp only;rw[gg _ oJ];omega);have E:n=L.length:=(by have:=zB hc;omega);subst E;rw[drop_length,qv] at V;refine gW (fun z w'=>∃B',eQ ku 4 w' z (li d L) B'/\Fr [] I w'/\∀x∈B',I.heap.size<=x) ?_ ?_;cases c;rw[if_neg oM] at V;refine cond_true rfl (oC o7 1 rfl d rfl (Be hb oJ fun s9 B9 w9 b9 G R=>⟨B9,by rw[<- V];exact b9,f7.j8 G fun x u=>.inr (nB x u),fun x u=>(R x u).elim (nB x) (zL f7.size)⟩));rw[if_pos rfl,xH] at V;exact cond_false rfl ⟨B,by rw[<- V];exact hb,f7,nB⟩;rintro s9 w9 ⟨B9,b9,G,R⟩;refine (o.q7 G).st' 2 rfl (HL.mk fO (r'.1,r'.2.1,r'.2.2.1,s9,r'.2.2.2.2)).toArray rfl rfl (zO rfl) fun aD an aa=>oC an 2 rfl (r'.1,r'.2.1,r'.2.2.1,s9,r'.2.2.2.2) rfl (an.st' 0 rfl _ (kj rfl) rfl (zM _) fun aG ao ap=>oC ao 0 rfl (r'.1,r'.2.1,r'.2.2.1,s9,r'.2.2.2.2) rfl ?_);have g9:=h5.q7 G;have aH:=g9.q8 (aa.mono fun x u _=>by rw[zE.1 u];exact mem_cons_self) fun x u=>.inl u;have hr:=aH.q8 (S':=S) (ap.mono fun x u _=>by rw[zE.1 u];exact zN _ mem_cons_self) fun x u=>.inl (zN _ (zN _ u));have aq:=(b9.q8 aa fun x u h=>by have:=R x u;have:=zE.1 h;omega).q8 ap fun x u h=>by have:=R x u;have:=zE.1 h;omega
 exact kk (r'.1,r'.2.1,r'.2.2.1,s9,r'.2.2.2.2) aG ⟨hr.acc,hr.kc,hr.jJ,by rw[ab];exact wI (w0:=I) aq Cc (fun x u=>yD (hS x u) (zL aw z5)) R,hr.me,hr.mh,hr.jz,hr.told,hr.gone⟩ ao.fr
def quP{K:HL c8->WP}(h:RB S w r b)(E:b.size<=100000)(G:∀w',Fr [] w w'->K (tq b) w'): cW 31 [.agg (HL.mk fO r).toArray] [.agg c8] w K:=by
 refine qew ?_;have e1:r.1.len=b.acc.length:=h.acc.1;have I:r.2.1.len=b.kc.length:=h.kc.1;have J:r.2.2.1.len=b.jJ.length:=h.jJ.1;have R:r.2.2.2.1.len=b.due.length:=h.due.1;have U:r.2.2.2.2.1.len=b.me.length:=h.me.1;have V:r.2.2.2.2.2.1.len=b.mh.length:=h.mh.1;have e7:r.2.2.2.2.2.2.1.len=b.jz.length:=h.jz.1;unfold Bk.size at E;refine oB (oE [] w) fun r1 w1 _ f1 o=>oB o fun r3 w2 _ f2 o=>ui (b.last.toList.length:Int) w2 (fun M u=>oA o 1 rfl r.2.2.2.2.2.2.2.2.1 rfl ?_) ?_;rw[h.told.1];cases C:b.last with
 | none=>rw[C] at u;exact cond_false rfl u
 | some x=>rw[C] at u;exact cond_true rfl u
 refine oA o 1 rfl r.1 rfl (oA o 1 rfl r.2.1 rfl (oA o 1 rfl r.2.2.1 rfl (oA o 1 rfl r.2.2.2.1 rfl (oA o 1 rfl r.2.2.2.2.1 rfl (oA o 1 rfl r.2.2.2.2.2.1 rfl (oA o 1 rfl r.2.2.2.2.2.2.1 rfl ?_))))));rw[e1,I,J,R,U,V,e7,lN _ oJ,lN _ oJ,lN _ oJ,lN _ oJ,lN _ oJ,lN _ oJ,lN _ oJ];exact o.st' 0 rfl _ (kj rfl) rfl (zM _) fun w3 o _=>oC o 0 rfl (tq b) rfl (G w3 o.fr)
def qzJ{s:Sl}{i:Int}{k:Nat}{p:Prop}{K:Addr->Prop}(u:p)(h:idx s i k K):idx s i k fun a=>gF p (K a):=by unfold idx at h⊢;obtain⟨a,C,E,G⟩:=h;exact⟨a,C,E,mP u G⟩
def GT(x:Kp):∀u∈nO x,u.oneCell'=true:=all_eq_true.1 rfl
def qAA:∃i,prog.info? yv=some i/\i.zero=some (.agg (nO tf).toArray)/\i.size=18/\i.bytes=128:=sK oK
def quU{k:Kp}(h:RB S w r b)(hl:b.size<=100000)(hS:∀x∈S,x<w.heap.size)(kk:∀r' w',RB S w' r' (b.jN k)->Fr [] w w'->K r' w'): cW 65 [.agg (HL.mk fO r).toArray,.agg (nO k).toArray] [.agg fO] w K:=by
 refine qcX ?_;have ak:b.kc.length<=100000/\b.me.length<=100000/\b.mh.length<=100000:=(by unfold Bk.size at hl;omega);obtain⟨i,hi,hz,al,am⟩:=qAA;refine oB (oE [] w) fun E w1 _ f1 o=>oB o fun r3 w2 _ f2 o=>oB o fun G w3 _ f3 o=>oC o 1 rfl k.1 rfl (oB o fun r8 w4 _ f4 o=>o.st' 0 rfl _ (kj rfl) rfl (zM _) fun w5 o f5=>?_);have l1:E<w5.heap.size:=eZ (o.at (i:=3) rfl);have l5:G<w5.heap.size:=eZ (o.at (i:=1) rfl);have n1:w.heap.size<=E:=(o.own _ (yF (i:=3) rfl)).elim (fun h=>nomatch h) id;have n5:w.heap.size<=G:=(o.own _ (yF (i:=1) rfl)).elim (fun h=>nomatch h) id;have an:∀x∈E::G::S,x<w5.heap.size:=fun x u=>by rcases zG.1 u with rfl|u;exact l1;rcases zG.1 u with rfl|u;exact l5;exact yD (hS x u) o.fr.size
 have h0:RB (E::G::S) w r b:=h.q8 (.refl _ _) fun x u=>by rcases zG.1 u with rfl|u;exact .inr n1;rcases zG.1 u with rfl|u;exact .inr n5;exact .inl u
 have h5:=h0.q7 o.fr;have C:∀ {w w':World},Fr [E] w w'->Fr (E::G::S) w w':=fun f=>f.mono fun x u _=>by rw[zE.1 u];exact mem_cons_self
 refine oA o 3 rfl r.2.2.2.2.1 rfl (oC o 0 rfl (k.1.2.2.1,k.1.2.2.2.1) rfl (oA o 0 rfl k.1.2.2.2.2.2.2.2.2.2.2.2.2.2.2.2 rfl (oC o 0 rfl (k.1.1,k.1.2.1) rfl (qrt (m:=xg k.1) h5.me ak.2.1 an fun s6 w6 d6 J=>?_))));refine (o.q7 J).st' 3 rfl (HL.mk fO (r.1,r.2.1,r.2.2.1,r.2.2.2.1,s6,r.2.2.2.2.2)).toArray rfl rfl (zO rfl) fun w7 o f7=>?_;have h7:=(h5.q7 J).q8 (C f7) fun x u=>.inl u;have d7:=d6.q8 (C f7) fun x u=>.inl u;have z7:w5.heap.size<=w7.heap.size:=zL J.size f7.size;refine oA o 3 rfl r.2.2.2.2.2.1 rfl (oC o 0 rfl (k.1.2.2.2.2.1,k.1.2.2.2.2.2.1) rfl (oA o 0 rfl k.1.2.2.2.2.2.2.2.2.2.2.2.2.2.2.2 rfl (oC o 0 rfl (k.1.1,k.1.2.1) rfl (qrt (m:=Cz k.1) h7.mh ak.2.2 (fun x u=>yD (an x u) z7) fun s8 w8 aD f8=>?_))));refine (o.q7 f8).st' 3 rfl (HL.mk fO (r.1,r.2.1,r.2.2.1,r.2.2.2.1,s6,s8,r.2.2.2.2.2.2)).toArray rfl rfl (zO rfl) fun w9 o f9=>?_;have h9:=(h7.q7 f8).q8 (C f9) fun x u=>.inl u;have d9:=(d7.q7 f8).q8 (C f9) fun x u=>.inl u;have c9:=aD.q8 (C f9) fun x u=>.inl u;have ba:E<w9.heap.size:=eZ (o.at (i:=3) rfl);have bb:G<w9.heap.size:=eZ (o.at (i:=1) rfl);refine oB (oE [] w9) fun r7 bc e7 R o2=>?_;have aG:=o.q7 R;refine oA aG 3 rfl r.2.1 rfl (AB (e:=yv) (o2.at (i:=0) rfl) (h9.q7 R).kc ol GT oK hi hz al rfl (by rw[am];decide) oJ fun ap B5 aq b5 aI aJ=>?_);have U:∀x∈B5,w9.heap.size<=x:=fun x u=>(aJ x u).elim (fun e=>oJ) fun h=>zL R.size h;have ad:Fr [] w9 aq:=R.j8 aI fun x u=>.inr (by rw[zE.1 u];omega);have ar:∀(s:Sl) (l:List Kp) (B:List Nat) w6,eQ nO 18 w6 s l B->(∀x∈B,w9.heap.size<=x)->Fr [] w9 w6->l=iE qe k b.kc->Pt.st (dg E 1) [s.v] w6 fun w7=>dK fO (dg E) w7 fun t=>Pt.st (dg G) (HL.mk fO t) w7 fun w8=>dK fO (dg G) w8 fun t=>K t w8:=fun s l B bg hb hB V e=>by
  refine (o.q7 V).st' 3 rfl (HL.mk fO (r.1,s,r.2.2.1,r.2.2.2.1,s6,s8,r.2.2.2.2.2.2)).toArray rfl rfl (zO rfl) fun av aw aa=>oC aw 3 rfl (r.1,s,r.2.2.1,r.2.2.2.1,s6,s8,r.2.2.2.2.2.2) rfl (aw.st' 1 rfl _ (kj rfl) rfl (zM _) fun ae ax ay=>oC ax 1 rfl (r.1,s,r.2.2.1,r.2.2.2.1,s6,s8,r.2.2.2.2.2.2) rfl ?_);have af:Fr (E::G::S) av ae:=ay.mono fun x u _=>by rw[zE.1 u];exact zN _ mem_cons_self
  have dn:∀x∈S,x∈E::G::S\/av.heap.size<=x:=fun x u=>.inl (zN _ (zN _ u));have hr:=((h9.q7 V).q8 (C aa) fun x u=>.inl u).q8 af dn;have hd:=((d9.q7 V).q8 (C aa) fun x u=>.inl u).q8 af dn;have hc:=((c9.q7 V).q8 (C aa) fun x u=>.inl u).q8 af dn;have aM:=(hb.q8 aa fun x u h=>by have:=hB x u;have:=zE.1 h;omega).q8 ay fun x u h=>by have:=hB x u;have:=zE.1 h;omega
  have aN:dZ nO 18 S ae s (iE qe k b.kc):=(by rw[<- e];exact wI aM ol hS fun x u=>zL o.fr.size (hB x u));exact kk _ ae ⟨hr.acc,aN,hr.jJ,hr.due,hd,hc,hr.jz,hr.told,hr.gone⟩ ax.fr
 have bi:ap.len=b.kc.length:=b5.len;refine iU (fun q w'=>∃n:Nat,q=n/\n<=b.kc.length/\Fr [] aq w'/\((b.kc.take n).find? fun x=>decide (qe x=qe k))=none) (fun q _=>b.kc.length-q.toNat) ⟨0,rfl,yX _,.refl _ _,rfl⟩ ?_;rintro q w6 ⟨n,rfl,hn,J,hf⟩ X hX;apply cD<;>intro hc;have I:n<b.kc.length:=oJ;have u:=zA I;have b6:=(b5.q7 J).q7 (Fr.refl [] w6).drew;have o6:=o.q7 ((ad.trans J).drew);refine dZ.jc (cl:=u2) (S:=[]) (b6.jo ol fun _ _ h=>nomatch h) n rfl u oM rfl (oC o6 0 rfl (qe k) rfl (xd (a:=qe b.kc[n]) ?_));have st:=xe (p:=fun x=>decide (qe x=qe k)) u hf;apply dW<;>intro hb;refine nJ (o6.at (i:=2) rfl) (nO k) (ol k) rfl ?_
 have:=Gp (K:=fun aO=>Pt.st (dg E 1) [ap.v] aO fun w7=>dK fO (dg E) w7 fun t=>Pt.st (dg G) (HL.mk fO t) w7 fun w8=>dK fO (dg G) w8 fun t=>K t w8) b6 ol GT (x:=k) rfl I fun w7 b7 f7=>ar _ _ _ _ b7 U ((ad.trans J).drew.j8 f7 fun x u=>.inr (U x u)) (Aw u hf (zC hb)).symm
 exact qzJ (ol k) this;rw[gg _ oJ];exact hX _ _ ⟨n+1,rfl,I,J.drew,st.2 hb⟩ oJ;have I:n=b.kc.length:=oJ;subst I;rw[xZ] at hf;have ag:=ad.trans J;refine nJ ((o.q7 ag).at (i:=2) rfl) (nO k) (ol k) rfl (mP (ol k) (eQ.push (e:=yv) (x:=k) (b5.q7 J) ol (GT k) oK hi hz al rfl rfl (by rw[am];omega) oJ fun s7 B7 w7 b7 f7 n7=>ar _ _ _ _ b7 (fun x u=>(n7 x u).elim (U x) (zL ag.size)) (ag.j8 f7 fun x u=>.inr (U x u)) (AX hf).symm))
abbrev GB:TypeId:=117
def Bs(x:Ln):(mB x).length=12:=rfl
def qpY(x:Ln):∀u∈mB x,u.oneCell'=true:=all_eq_true.1 rfl
def qAB:∃i,prog.info? GB=some i/\i.zero=some (.agg (mB ((0,0),Av)).toArray)/\i.size=12/\i.bytes=96:=sK oK
def qA9{α:Type}{enc:α->List Value}{k:Nat}{s:Sl}{l:List α}(h:dZ enc k S w s l)(n:Nat){i:Int}{x:α}{K:Addr->Prop}(hi:i=n)(E:l[n]?=some x)(G:∀b o u T C,w.heap[b]?=some (.cells u T C)->(u.toList.drop o).take k=enc x->K (dg b o)):idx s i k K:=by subst hi;obtain⟨U,b,o,I,_,u,T,C,J,R⟩:=dZ.at h n E;refine qj I ⟨oJ,oJ⟩ ?_;rw[zJ];exact G b _ u T C J R
def quT{a0 a1:Int}{x:HL mt}(h:RB S w r b)(hl:b.size<=100000)(hS:∀x∈S,x<w.heap.size)(kk:∀r' w',RB S w' r' (b.lR ((a0,a1),x))->Fr [] w w'->K r' w'): cW 70 [.agg (HL.mk fO r).toArray,de a0 a1,.agg (HL.mk mt x).toArray] [.agg fO] w K:=by
 refine qez ?_;have aL:b.jz.length<=100000:=(by unfold Bk.size at hl;omega);obtain⟨i,hi,hz,ad,ae⟩:=qAB;have hm:∃m:Ln,m=((a0,a1),x):=⟨_,rfl⟩;obtain⟨m,em⟩:=hm;rw[<- em] at kk;refine oB (oE [] w) fun r1 w1 _ f1 o=>oB o fun r3 w2 _ f2 o=>oB o fun r5 aN _ aO o=>oB o fun r7 V _ f3 o=>oB (oE [] V) fun r9 w4 e4 f4 o2=>?_;have o4:=o.q7 f4;refine oA o4 3 rfl r.2.2.2.2.2.2.1 rfl (AB (e:=GB) (o2.at (i:=0) rfl) (h.q7 o4.fr).jz Bs qpY oK hi hz ad rfl (by rw[ae];decide) oJ fun s5 B5 w5 b5 f5 n5=>?_);have G:∀x∈B5,V.heap.size<=x:=fun x u=>(n5 x u).elim (fun e=>oJ) fun h=>zL f4.size h;have aa:Fr [] V w5:=f4.j8 f5 fun x u=>.inr (by rw[zE.1 u];omega);have af:∀(s:Sl) (l:List Ln) (B:List Nat) J,eQ mB 12 J s l B->(∀x∈B,V.heap.size<=x)->Fr [] V J->l=iE qW m b.jz->Pt.st (dg r1 6) [s.v] J fun w7=>dK fO (dg r1) w7 fun t=>Pt.st (dg r7) (HL.mk fO t) w7 fun w8=>dK fO (dg r7) w8 fun t=>K t w8:=fun s l B J C hB R e=>by
  refine (o.q7 R).st' 3 rfl (HL.mk fO (r.1,r.2.1,r.2.2.1,r.2.2.2.1,r.2.2.2.2.1,r.2.2.2.2.2.1,s,r.2.2.2.2.2.2.2)).toArray rfl rfl (zO rfl) fun w7 o7 f7=>oC o7 3 rfl (r.1,r.2.1,r.2.2.1,r.2.2.2.1,r.2.2.2.2.1,r.2.2.2.2.2.1,s,r.2.2.2.2.2.2.2) rfl (o7.st' 0 rfl _ (kj rfl) rfl (zM _) fun w8 o8 f8=>oC o8 0 rfl (r.1,r.2.1,r.2.2.1,r.2.2.2.1,r.2.2.2.2.1,r.2.2.2.2.2.1,s,r.2.2.2.2.2.2.2) rfl ?_);have U:=h.q7 o8.fr;have l1:r1<V.heap.size:=eZ (o.at (i:=3) rfl);have l5:r7<V.heap.size:=eZ (o.at (i:=0) rfl);have ap:=(C.q8 f7 fun x u h=>by have:=hB x u;have:=zE.1 h;omega).q8 f8 fun x u h=>by have:=hB x u;have:=zE.1 h;omega
  have aq:dZ mB 12 S w8 s (iE qW m b.jz):=(by rw[<- e];exact wI ap Bs hS fun x u=>zL o.fr.size (hB x u));exact kk _ w8 ⟨U.acc,U.kc,U.jJ,U.due,U.me,U.mh,aq,U.told,U.gone⟩ o8.fr
 have aV:s5.len=b.jz.length:=b5.len;refine iU (fun q w'=>∃n:Nat,q=n/\n<=b.jz.length/\Fr [] w5 w'/\((b.jz.take n).find? fun x=>decide (qW x=qW m))=none) (fun q _=>b.jz.length-q.toNat) ⟨0,rfl,yX _,.refl _ _,rfl⟩ ?_;rintro q J ⟨n,rfl,hn,R,hf⟩ X hX;apply cD<;>intro hc;have E:n<b.jz.length:=oJ;have u:=zA E;have b6:=(b5.q7 R).q7 (Fr.refl [] J).drew;have o6:=o.q7 ((aa.trans R).drew);have r6:dZ mB 12 [] J.drew s5 b.jz:=b6.jo Bs fun _ _ h=>nomatch h;refine ui (decide (qW b.jz[n]=qW m)) J.drew (fun M hM=>?_) ?_;refine dZ.jc (cl:=u2) r6 n rfl u oM rfl (oC o6 2 rfl (a0,a1) rfl (xd (a:=b.jz[n].1) ?_));apply dW<;>intro C;have C:=zC C;refine qA9 r6 n rfl u fun b' o' cs T fr aw ax=>?_;simp only[Addr.q9];refine iA aw (mQ (lr b.jz[n].2)) ?_ (oA o6 1 rfl (mQ (lr x)) rfl ?_);have e:(mB b.jz[n])[10]?=some (.int .u64 (mQ (lr b.jz[n].2))):=rfl;rw[<- ax,xB,if_pos oM,xA] at e;rw[<- xL];exact e;rw[show (mQ (lr b.jz[n].2)==mQ (lr x))=decide (qW b.jz[n]=qW m) by unfold qW;rw[C,em];by_cases e:mQ (lr b.jz[n].2)=mQ (lr x);simp[e];simp[e]];exact hM;have C:=zB C;rw[show decide (qW b.jz[n]=qW m)=false from zU fun e=>C (by rw[em] at e;exact (vB e).1)] at hM;exact hM;have st:=xe (p:=fun x=>decide (qW x=qW m)) u hf;apply dW<;>intro C;have hk:=zC C;have h1:b.jz[n].1=(a0,a1):=(by rw[em] at hk;exact (vB hk).1);refine oC o6 1 rfl x rfl (qtW (j:=2) (x:=m) (vs:=HL.mk mt x) b6 Bs rfl E rfl (zM _) (by rw[em,show mB b.jz[n]=mB (b.jz[n].1,b.jz[n].2) from rfl,h1];rfl) fun w7 b7 f7=>af _ _ _ _ b7 G ((aa.trans R).drew.j8 f7 fun x u=>.inr (G x u)) (Aw u hf hk).symm);rw[gg _ oJ];exact hX _ _ ⟨n+1,rfl,E,R.drew,st.2 C⟩ oJ;have E:n=b.jz.length:=oJ;subst E;rw[xZ] at hf;have I:=aa.trans R;refine oC (o.q7 I) 2 rfl (a0,a1) rfl (oC (o.q7 I) 1 rfl x rfl (eQ.push (e:=GB) (x:=m) (b5.q7 R) Bs (qpY m) oK hi hz ad rfl (by rw[em];rfl) (by rw[ae];omega) oJ fun s7 B7 w7 b7 f7 n7=>af _ _ _ _ b7 (fun x u=>(n7 x u).elim (G x) (zL I.size)) (I.j8 f7 fun x u=>.inr (G x u)) (AX hf).symm))
section
abbrev WF:FuncId:=86
structure DP (w:World) (v:Value) (pb:Nat) (t:Int) (frm to:Key) (down:Bool) (WB:List Nat):Prop where
 val:∃ r1 r3 r5 r7 r9 s1 s2 B1 B2,v=.func (.func WF) #[] #[dF r1,dF r3,dF r5,dF r7,dF r9]/\WB=r1::r3::r5::r7::r9::(B1++B2)/\
  w.cell? (dg r1)=some (dF pb)/\w.cell? (dg r3)=some (.i t)/\w.cell? (dg r5)=some s1.v/\w.cell? (dg r7)=some s2.v/\w.cell? (dg r9)=some (.bool down)/\fQ w s1 frm B1/\fQ w s2 to B2
 lt:∀ b∈WB,b<w.heap.size
section
variable {dbk pb:Nat} {FD F:List Nat} {D:dI} {M:dY} {k v:Nat} {frm to:Key} {down:Bool} {w:World}
structure G9 (yield:Value) (Yc:List Nat) (wb:World) (L:fN) (I:Nat->WP) (E:WP):Prop where
 stay:∀ i W W' Z,I i W->Fr Z W W'->(∀ b∈Z,wb.heap.size<=b)->I i W'
 take:∀ i (hi:i<L.length) W ks vs B1 B2 (K:Bool->WP),I i W->fQ W ks L[i].1 B1->fQ W vs L[i].2 B2->(∀ b∈B1++B2,wb.heap.size<=b)->wb.heap.size<=W.heap.size->(∀ W',Fr Yc W W'->I (i+1) W'->K true W')->(∀ W',E W'->K false W')->ed prog yield [ks.v,vs.v] dj W K
end
end
end
section
open Go Go.Pt List
open Go.IntKind (wrap)
open Classical
section
variable {α:Type} {p:α->Bool} {x:α} {l A B:List α} {lt:α->α->Prop}
end
end
section
open Go Go.Pt List
open Go.IntKind (wrap)
open Classical
def qBl{P:Program}{t:TypeId}{x y:Operand}{cs ds:Array Value}{w:World}{K:Bool->Prop}(d:Nat)(G:d<=10000)(r:Bool)(h:sV P d t (.agg cs) (.agg ds)=some r)(C:P.eqGuardType P.depth t=false)(k:K (!r)): eW [gN.one Cell.bool] (fun w'=>(do eqGuard .neq t x y (.agg cs) (.agg ds);binOp .neq t (.agg cs) (.agg ds):Sem Value).run P w') w K:=by have u:=DA d t _ _ r h (10000-d) w;rw[show d+(10000-d)=10000 by omega] at u;have E:(binOp .neq t (.agg cs) (.agg ds)).run P w=.ok (.bool (!r)) w:=sZ (P:=P) true u oL oL oL oL;refine qm (ts:=[gN.one Cell.bool]) (!r) ?_ k;show ((do eqGuard .neq t x y (.agg cs) (.agg ds);binOp .neq t (.agg cs) (.agg ds):Sem Value).run P w)=Result.ok (Value.bool (!r)) w;simp[eqGuard,C,E]
attribute [local irreducible] ld dK ij nM jv fg st new idx jw jL fD jO jl mF gF nn call ed inv run eW i9 join loop held ext kH eS nf mY ng IntKind.wrap
end
section
open Go Go.Pt List
open Go.IntKind (wrap)
open Classical
variable {K:Bool->Prop} {cs:Array Value}
def EM{P:Program}{f:TypeId->Value->Value->Option Bool}{C:Array Value}(u:∀t x r,f t x x=some r->r=true):∀ {E:List Field} {r:Bool},pT P f C C E=some r->r=true
 | [],r,h=>by simp[pT] at h;exact h
 | x::E,r,h=>by simp only[pT] at h;split at h;split at h;rename_i a b I G;rw[I] at G;cases G;split at h;rename_i U q J R;cases h;rw[u _ _ _ J,EM u R];rfl;cases h;cases h;exact EM u h
def qp1{P:Program}{f:TypeId->Value->Value->Option Bool}{e n:Nat}{u:Array Value}(C:∀t x r,f t x x=some r->r=true):∀ {is:List Nat} {r:Bool},qL P f e n u u is=some r->r=true
 | [],r,h=>by simp[qL] at h;exact h
 | i::is,r,h=>by simp only[qL] at h;split at h;rename_i a b G E;rw[G] at E;cases E;split at h;rename_i R q I J;cases h;rw[C _ _ _ I,qp1 C J];rfl;cases h;cases h
def Cf{P:Program}:∀(d:Nat) (t:TypeId) (x:Value) (r:Bool),sV P d t x x=some r->r=true
 | 0,_,_,_,h=>nomatch h
 | d+1,t,x,r,h=>by
  unfold sV at h;split at h
  ·next heq=>cases heq;cases h;exact beq_self_eq_true _
  ·next heq=>cases heq;simp at h;exact h
  ·next heq=>cases heq;cases h;exact beq_self_eq_true _
  ·next heq=>
   cases heq;cases u:P.stoodInHeld t with
   | true=>rw[u] at h;cases h
   | false=>rw[u] at h;exact EM (Cf d) h
  ·next heq=>
   cases heq;next _ e _ _=>
   cases u:mS P e with
   | false=>rw[u] at h;cases h
   | true=>rw[u] at h;exact qp1 (Cf d) h
  cases h
def qAM{P:Program}{t:TypeId}{x y:Operand}{w:World}(d:Nat)(C:d<=10000)(h:(sV P d t (.agg cs) (.agg cs)).isSome=true)(E:P.eqGuardType P.depth t=false)(k:K false): eW [gN.one Cell.bool] (fun w'=>(do eqGuard .neq t x y (.agg cs) (.agg cs);binOp .neq t (.agg cs) (.agg cs):Sem Value).run P w') w K:=by
 obtain⟨r,u⟩:=Option.isSome_iff_exists.1 h
 have:=Cf _ _ _ _ u
 subst this;exact qBl d C true u E k
def eqS{P:Program}{t:TypeId}{x y:Operand}{w:World}(d:Nat)(C:d<=10000)(h:(sV P d t (.agg cs) (.agg cs)).isSome=true)(E:P.eqGuardType P.depth t=false)(k:K true): eW [gN.one Cell.bool] (fun w'=>(do eqGuard .eql t x y (.agg cs) (.agg cs);binOp .eql t (.agg cs) (.agg cs):Sem Value).run P w') w K:=by
 obtain⟨r,u⟩:=Option.isSome_iff_exists.1 h
 have:=Cf _ _ _ _ u
 subst this;exact FJ d C true u E k
end
section
open Go Go.Pt List
open Go.IntKind (wrap)
variable {d:HL i7} {l:List (HL i7)}
abbrev Ov:=Int×HL iT×Kp×iV×Int×HL i7×HL mt×Int
def rK (o:Ov):Int:=o.1
def ur (o:Ov):HL iT:=o.2.1
def sU (o:Ov):Kp:=o.2.2.1
def ry (o:Ov):iV:=o.2.2.2.1
def xo (o:Ov):Int:=o.2.2.2.2.1
def qr (o:Ov):HL i7:=o.2.2.2.2.2.1
def za (o:Ov):HL mt:=o.2.2.2.2.2.2.1
def ul (o:Ov):Int:=o.2.2.2.2.2.2.2
structure rg (o:Ov):Prop where
 d:IntKind.u8.has (rK o)
 a:jE iT (ur o)
 k:ti (sU o)
 i:k7 (ry o)
 s:IntKind.u8.has (xo o)
 u:jE i7 (qr o)
 r:jE mt (za o)
 n:IntKind.u64.has (ul o)
def pJ (b:Bk) (o:Ov):Bk:=
 if rK o%8=0 then b.l9 (ur o) else if rK o%8=1 then b.jN (sU o) else if rK o%8=2 then b.lA (ry o,xo o)
 else if rK o%8=3 then b.jp (qr o) else if rK o%8=4 then b.kC (qr o) else if rK o%8=5 then b.lR (ry o,za o)
 else if rK o%8=6 then b.jI (ul o) else b.wF
def qrM{a b:HL i7}:ml a b=true↔(k9 a).1<(k9 b).1\/(k9 a).1=(k9 b).1/\(k9 a).2<(k9 b).2:=by unfold ml;rw[yN];exact Iff.rfl
def qyu{x:HL i7}:x∈li d l↔x=d\/x∈l:=by rw[Cm.mem_iff,zG]
def qp8{d:HL i7}:∀ {l:List (HL i7)},uC l->(∀x∈l,k9 x≠k9 d)->uC (li d l)
 | [],_,_=>pairwise_singleton _ _
 | x::r,h,E=>by have C:=yJ.1 h;unfold li;by_cases e:ml d x=true;rw[if_pos e];refine yJ.2 ⟨fun y u=>?_,h⟩;rcases zG.1 u with rfl|u;exact e;have G:=C.1 y u;rw[qrM] at e G⊢;omega;rw[if_neg e];refine yJ.2 ⟨fun y u=>?_,qp8 C.2 fun y u=>E y (zN _ u)⟩;rcases qyu.1 u with rfl|u;have I:=E x mem_cons_self;rw[qrM] at e⊢;have G:¬((k9 x).1=(k9 y).1/\(k9 x).2=(k9 y).2):=fun h=>I (Prod.ext h.1 h.2);omega;exact C.1 y u
structure Bt (n i:Nat) (b:Bk):Prop where
 size:b.size<=3*i
 dus:uC b.due
 blocks:b.cm.1=n
 wF:b.cm.2.1<=i+1
 last:∀ n,b.last=some n->np n
section
variable {n i:Nat} {b:Bk} {o:Ov}
def Bk.qU{a:HL iT}:(b.l9 a).size<=b.size+1:=by
 have:=uW (kf:=kD) (a:=a) (l:=b.acc)
 unfold Bk.l9 Bk.size;dsimp only;omega
def Bk.qQ{x:iV×Int}:(b.lA x).size<=b.size+1:=by
 have:=uW (kf:=fun x:iV×Int=>x.1) (a:=x) (l:=b.jJ)
 unfold Bk.lA Bk.size;dsimp only;omega
def Bk.qG{x:Ln}:(b.lR x).size<=b.size+1:=by
 have:=uW (kf:=qW) (a:=x) (l:=b.jz)
 unfold Bk.lR Bk.size;dsimp only;omega
def Bk.nA{k:Kp}:(b.jN k).size<=b.size+3:=by have h:=uW (kf:=qe) (a:=k) (l:=b.kc);have u:=uW (kf:=ph) (a:=xg k.1) (l:=b.me);have C:=uW (kf:=ph) (a:=Cz k.1) (l:=b.mh);unfold Bk.jN Bk.lq Bk.mL Bk.oQ Bk.size;dsimp only;omega
def qpQ:(i8 d l).length<=l.length:=length_filter_le _ _
def Bk.qO:(b.kC d).size<=b.size:=by
 have:=qpQ (d:=d) (l:=b.due)
 unfold Bk.kC Bk.size;dsimp only;omega
def Bk.qx:(b.jp d).size<=b.size+1:=by have h:=qpQ (d:=d) (l:=b.due);have u:(li d (i8 d b.due)).length=(i8 d b.due).length+1:=(by rw[Cm.length_eq,yI]);unfold Bk.jp Bk.size;dsimp only;omega
def Bk.pY{x:Int}:(b.jI x).size<=b.size+1:=by unfold Bk.jI Bk.size;have:(some x).toList.length=1:=rfl;dsimp only;omega
def qpP(h:uC l):uC (i8 d l):=List.Pairwise.sublist filter_sublist h
def DQ(h:uC b.due):uC (b.jp d).due:=qp8 (qpP h) fun x u=>zC (mem_filter.1 u).2
def Bt.step(h:Bt n i b)(G:rg o):Bt n (i+1) (pJ b o):=by obtain⟨J,u,C,R,E⟩:=h;unfold pJ;split;exact⟨by have:=Bk.qU (b:=b) (a:=ur o);omega,u,C,by show b.cm.2.1<=_;omega,E⟩;split;exact⟨by have:=Bk.nA (b:=b) (k:=sU o);omega,u,C,by show b.cm.2.1<=_;omega,E⟩;split;exact⟨by have:=Bk.qQ (b:=b) (x:=(ry o,xo o));omega,u,C,by show b.cm.2.1<=_;omega,E⟩;split;exact⟨by have:=Bk.qx (b:=b) (d:=qr o);omega,DQ u,C,by show b.cm.2.1<=_;omega,E⟩;split;exact⟨by have:=Bk.qO (b:=b) (d:=qr o);omega,qpP u,C,by show b.cm.2.1<=_;omega,E⟩;split;exact⟨by have:=Bk.qG (b:=b) (x:=(ry o,za o));omega,u,C,by show b.cm.2.1<=_;omega,E⟩;split;exact⟨by have:=Bk.pY (b:=b) (x:=ul o);omega,u,C,by show b.cm.2.1<=_;omega,fun n I=>by cases I;exact qt G.n⟩;exact⟨by show b.size<=_;omega,u,C,by show b.cm.2.1+1<=_;omega,E⟩
end
def oS (q:Nat×Nat×Gh) (l:List Ov):Bk:=l.foldl pJ (wM q)
def qnu{q:Nat×Nat×Gh}{l:List Ov}{o:Ov}:oS q (l++[o])=pJ (oS q l) o:=by unfold oS;rw[foldl_append];rfl
def EF{q:Nat×Nat×Gh}(C:q.2.1=1):∀k (l:List Ov),k<=l.length->(∀o∈l,rg o)->Bt q.1 k (oS q (l.take k))
 | 0,l,_,_=>⟨zM _,.nil,rfl,by show q.2.1<=_;omega,fun _ h=>nomatch h⟩
 | k+1,l,h,u=>by rw[yG oJ,qnu];exact (EF C k l oJ u).step (u _ (zX _))
end
section
open Go Go.ChangeShapes Go.WideShapes Go.ChangeAt Go.RowKit Go.Pt
def Cs:List Cell->List Value->Prop
 | [],[]=>True
 | c::h,v::vs=>(∃x:c.El,v=c.mk x/\tt c x)/\Cs h vs
 | _,_=>False
def Cs.sY:∀ {a b:List Cell} {u v:List Value},Cs a u->Cs b v->Cs (a++b) (u++v)
 | [],b,[],v,_,h=>h
 | c::a,b,x::u,v,h,g=>⟨h.1,Cs.sY h.2 g⟩
 | [],_,_::_,_,h,_=>h.elim
 | _::_,_,[],_,h,_=>h.elim
def Cs.split:∀ {a b:List Cell} {vs:List Value},Cs (a++b) vs->∃u v,vs=u++v/\Cs a u/\Cs b v
 | [],b,vs,h=>⟨[],vs,rfl,trivial,h⟩
 | c::a,b,x::vs,h=>by obtain⟨u,v,e,C,E⟩:=Cs.split h.2;exact⟨x::u,v,by rw[e];rfl,⟨h.1,C⟩,E⟩
 | _::_,_,[],h=>h.elim
def Cs.hl:∀ {cs:List Cell} {vs:List Value},Cs cs vs->∃x:HL cs,vs=HL.mk cs x/\jE cs x
 | [],[],_=>⟨(),rfl,trivial⟩
 | [c],[v],h=>by obtain⟨x,u,C⟩:=h.1;exact⟨x,by rw[u];rfl,C⟩
 | c::E::cs,v::vs,h=>by obtain⟨x,u,C⟩:=h.1;obtain⟨y,G,I⟩:=Cs.hl (cs:=E::cs) h.2;exact⟨(x,y),by rw[u,G];rfl,C,I⟩
 | [],_::_,h=>h.elim
 | [_],[],h=>h.elim
 | [_],_::_::_,h=>h.2.elim
 | _::_::_,[],h=>h.elim
def rZ (P:Program) (f:TypeId->Option (List Cell)):Nat->List Field->Option (List Cell)
 | _,[]=>some []
 | k,x::h=>bif Nat.beq x.offset k then match f x.type with
  | some a=>bif Nat.beq (P.cellsOf x.type) a.length then (rZ P f (k+a.length) h).map (a++·) else none
  | none=>none else none
def tJ (P:Program):Nat->TypeId->Option (List Cell)
 | 0,_=>none
 | d+1,t=>match P.underlying t with
  | some (.int k)=>some [.int k]
  | some .bool=>some [.bool]
  | some (.struct u)=>match rZ P (tJ P d) 0 u.toList with
   | some h=>bif Nat.beq (P.cellsOf t) h.length then some h else none
   | none=>none
  | _=>none
section
variable {H:Type} {enc:TypeId×Value->H} {P:Program} {W:World} {base:Nat} {spare:Nat->Bool} {held:Bool}
def qrJ{f:TypeId->Option (List Cell)}{cells:List Value}(I:∀t cs,f t=some cs->∀n vs y,DataW.trod enc P W base spare held n t vs=some y->Cs cs vs):∀ {u:List Field} {k:Nat} {cs:List Cell},rZ P f k u=some cs-> (∀x∈u,∃n y,DataW.trod enc P W base spare held n x.type ((cells.drop x.offset).take (P.cellsOf x.type))=some y)->Cs cs ((cells.drop k).take cs.length)
 | [],k,cs,h,_=>by cases h;exact trivial
 | x::u,k,cs,h,J=>by
  unfold rZ at h;cases C:Nat.beq x.offset k with
  | false=>rw[C] at h;cases h
  | true=>
   rw[C] at h;cases E:f x.type with
   | none=>rw[E] at h;cases h
   | some a=>
    rw[E] at h;dsimp only [_root_.cond_true] at h;cases G:Nat.beq (P.cellsOf x.type) a.length with
    | false=>rw[G] at h;cases h
    | true=>
     rw[G] at h;obtain⟨b,U,rfl⟩:=yT.1 h;have ih:=qrJ (cells:=cells) I U fun z V=>J z (zN _ V);obtain⟨n,y,R⟩:=J x List.mem_cons_self;rw[yW C,yW G] at R;rw[zF,List.take_add,xD];exact (I _ _ E _ _ _ R).sY ih
def qrK:∀(d:Nat) (t:TypeId) (cs:List Cell),tJ P d t=some cs->∀n vs y,DataW.trod enc P W base spare held n t vs=some y->Cs cs vs
 | 0,_,_,h,_,_,_,_=>nomatch h
 | d+1,t,cs,h,n,vs,y,u=>by
  unfold tJ at h;split at h
  ·next k hu=>
   cases h;obtain⟨m,C,_,R⟩:=DataW.trod_int hu u;rw[C];exact⟨⟨m,rfl,qAX R⟩,trivial⟩
  ·next hu=>
   cases h;obtain⟨m,C,_⟩:=DataW.trod_bool hu u;rw[C];exact⟨⟨m,rfl,trivial⟩,trivial⟩
  ·next fs hu=>
   split at h
   ·next cs' hd=>
    cases E:Nat.beq (P.cellsOf t) cs'.length with
    | false=>rw[E] at h;cases h
    | true=>
     rw[E] at h;cases h;obtain⟨U,m,_,_,I,V,hf⟩:=DataW.trod_struct hu u
     have:=qrJ (cells:=vs) (qrK d) hd fun x hx=>by obtain⟨i,hi,rfl⟩:=List.getElem_of_mem hx;have G:i<fs.size:=(oP hi);have J:=hf i fs[i] (by simp[G]);rw[zA (show i<U.length by omega)] at J;exact⟨_,_,by simpa using J⟩
     rw[xF,zS (by have:=yW E;omega)] at this;exact this
   cases h
  cases h
def t7 (o:Ov):List Value:=[.b (rK o)]++(HL.mk iT (ur o)++(HL.mk ll (sU o).1++([.int .u64 (sU o).2.1,.int .u64 (sU o).2.2]++([.int .u64 (ry o).1,.int .u64 (ry o).2,.b (xo o)]++(HL.mk i7 (qr o)++(HL.mk mt (za o)++[.int .u64 (ul o)]))))))
abbrev opC:List Cell:=[.b]++(iT++(ll++(df++([.int .u64,.int .u64,.b]++(i7++(mt++[.int .u64]))))))
def Do(o:Ov):(t7 o).length=52:=rfl
def qA1{vs:List Value}(h:Cs opC vs):∃o:Ov,vs=t7 o/\rg o:=by obtain⟨u1,v1,rfl,C,h⟩:=Cs.split (a:=[.b]) h;obtain⟨u2,v2,rfl,E,h⟩:=Cs.split (a:=iT) h;obtain⟨u3,v3,rfl,G,h⟩:=Cs.split (a:=ll) h;obtain⟨u4,v4,rfl,I,h⟩:=Cs.split (a:=df) h;obtain⟨u5,v5,rfl,J,h⟩:=Cs.split (a:=[.int .u64,.int .u64,.b]) h;obtain⟨u6,v6,rfl,R,h⟩:=Cs.split (a:=i7) h;obtain⟨u7,v7,rfl,U,V⟩:=Cs.split (a:=mt) h;obtain⟨d,rfl,fd⟩:=C.hl;obtain⟨a,rfl,fa⟩:=E.hl;obtain⟨t,rfl,ft⟩:=G.hl;obtain⟨⟨p0,p1⟩,rfl,fp⟩:=I.hl;obtain⟨⟨i0,i1,x⟩,rfl,u⟩:=J.hl;obtain⟨e,rfl,fe⟩:=R.hl;obtain⟨r,rfl,fr⟩:=U.hl;obtain⟨n,rfl,fn⟩:=V.hl;exact⟨(d,a,(t,(p0,p1)),(i0,i1),x,e,r,n),rfl,⟨fd,fa,⟨ft,fp⟩,⟨u.1,u.2.1⟩,u.2.2,fe,fr,fn⟩⟩
end
section
section
variable {H:Type} {enc:TypeId×Value->H} {P:Program} {W:World} {base:Nat} {spare:Nat->Bool} {held:Bool}
abbrev OPT:TypeId:=81
def qzB:∀n u y,DataW.trod enc prog W base spare held n OPT u=some y->∃o:Ov,u=t7 o/\rg o:=fun n u y h=>qA1 (qrK 5 OPT opC oK n u y h)
end
end
end
end Go.Proofs.YtpcmehldpoljfaaGreatDoor
namespace Go.Pt
section
open Go
end
end Go.Pt
namespace Go.Proofs.YtpcmehldpoljfaaGreatDoor
open Go.Proofs.Tryz (prog)
section
open Go.Proofs.Tryz (prog)
open Go Go.Pt List
open Classical
attribute [local irreducible] ld dK ij nM jv fg st new idx jw jL fD jO jl mF gF nn call ed inv run eW i9 join loop held ext kH eS nf mY ng IntKind.wrap
structure Hi (yield:Value) (Yc:List Nat) (wb:World) (L:List (HL mt)) (I:Nat->WP) (E:WP):Prop where
 stay:∀ i W W' Z,I i W->Fr Z W W'->(∀ b∈Z,wb.heap.size<=b)->I i W'
 Ha:∀ W W' Z,E W->Fr Z W W'->(∀ b∈Z,wb.heap.size<=b)->E W'
 take:∀ i (hi:i<L.length) W (K:Bool->WP),I i W->wb.heap.size<=W.heap.size->(∀ W',Fr Yc W W'->I (i+1) W'->K true W')->(∀ W',Fr Yc W W'->E W'->K false W')->ed prog yield [.agg (HL.mk mt L[i]).toArray] dj W K
end
section
open Go Go.Pt List
open Go.IntKind (wrap)
open Classical
attribute [local irreducible] ld dK ij nM jv fg st new idx jw jL fD jO jl mF gF nn call ed inv run eW i9 join loop held ext kH eS nf mY ng IntKind.wrap
variable {K:Option Addr×Option Addr->WP}
def qqj{w:World}{n:Nat}(Y:List Nat)(C:∀b∈Y,b<w.heap.size)(hY:HG∉Y)(E:Hv w)(G:8<=n)(I:n<=4096)(kk:∀sb pb dbk FD F D w',nh w' Y sb dbk pb FD F D (jW n) ((n-2)-eI (n-2)) (n,1) (fun _=>([],[]))->Made D n->HG∉FD->sb∉FD->Fr [] w w'->(∀b∈sb::(FD++F),w.heap.size<=b)->K (pW sb,pW pb) w'): cW 32 [.i n] dz w K:=by exact qhK<|qw5 (n:=n) Y C hY E G I fun dbk pb FD F D w1 u J R U=>cond_false rfl<|qsQ<|oB (oE [] w1) fun r w2 e2 V o=>kk r pb dbk FD F D w2 ⟨u.q7 V,oh.made G I u.wf J,o.at (i:=0) rfl,fun h=>by have:=u.x8.lt r h;omega⟩ J (fun h=>by have:=U HG (zH _ h);have:=E.lt;omega) (fun h=>by have:=u.sI r (by simp[Zo,h]);omega) (R.trans V) fun b hb=>(zG.1 hb).elim (fun e=>by rw[e,e2];exact R.size) (U b)
structure ou (w0 W:World) (Y:List Nat) (L:List (Nat×Obj)) (sb:Nat) (F:List Nat) (c:Nat) (bs br:Bk) (ri:pp):Prop where
 own:dQ (fi L) W W L
 sB:SB W (fi L++Y) sb F c bs
 rb:RB (fi L++F) W ri br
 fr:Fr [] w0 W
 nL:∀ x∈fi L,w0.heap.size<=x
 nF:∀ x∈F,w0.heap.size<=x
 ns:w0.heap.size<=sb/\sb∉fi L
section
variable {w0 W w':World} {Y F F':List Nat} {L L':List (Nat×Obj)} {sb c:Nat} {bs br bs' br':Bk} {ri r':pp}
def ou.lt(h:ou w0 W Y L sb F c bs br ri):∀x∈fi L++F,x<W.heap.size:=fun x u=>(zD.1 u).elim (wg h.own x) (h.sB.flt x)
def ou.J0(h:ou w0 W Y L sb F c bs br ri)(o:dQ (fi L) W w' L'):ou w0 w' Y L' sb F c bs br ri where
 own:=o.ln
 sB:=h.sB.GG h.ns.2 o
 rb:=h.rb.q8 (o.fr.mono fun x u _=>zH _ u) fun x u=>(zD.1 u).elim (fun u=>by obtain⟨p,C,rfl⟩:=mem_map.1 u;exact (o.own p C).imp (zH _) id) fun u=>.inl (zI _ u)
 fr:=h.fr.j8 o.fr fun x u=>.inr (h.nL x u)
 nL:=fun x u=>by obtain⟨p,C,rfl⟩:=mem_map.1 u;exact (o.own p C).elim (h.nL _) (zL h.fr.size)
 nF:=h.nF
 ns:=⟨h.ns.1,fun u=>by
  obtain⟨p,C,e⟩:=mem_map.1 u;rcases o.own p C with E|E;exact h.ns.2 (by rw[<- e];exact E)
  have:=h.sB.lt
  omega⟩
def ou.sub(h:ou w0 W Y L sb F c bs br ri)(u:L'.Sublist L):ou w0 W Y L' sb F c bs br ri where
 own:=(h.own.sub u).ln
 sB:=h.sB.y0 fun b C=>(zD.1 C).elim (fun C=>zH _ ((u.map _).subset C)) (zI _)
 rb:=h.rb.q8 (.refl _ _) fun x E=>.inl ((zD.1 E).elim (fun C=>zH _ ((u.map _).subset C)) (zI _))
 fr:=h.fr
 nL:=fun x E=>h.nL x ((u.map _).subset E)
 nF:=h.nF
 ns:=⟨h.ns.1,fun E=>h.ns.2 ((u.map _).subset E)⟩
def ou.nd(h:ou w0 W Y L sb F c bs br ri)(f:Fr [] W w')(u:RB (fi L++F) w' r' br'):ou w0 w' Y L sb F c bs br' r':=
 ⟨(h.own.q7 f).ln,h.sB.q7 f,u,h.fr.trans f,h.nL,h.nF,h.ns⟩
def ou.q7(h:ou w0 W Y L sb F c bs br ri)(f:Fr [] W w'):ou w0 w' Y L sb F c bs br ri:=h.nd f (h.rb.q7 f)
def ou.mA(h:ou w0 W Y L sb F c bs br ri)(C:SB w' (fi L++Y) sb F' c bs')(s:nI F W F' w'):ou w0 w' Y L sb F' c bs' br ri where
 own:=h.sB.own h.own s
 sB:=C
 rb:=h.rb.q8 (s.fr.mono fun x u _=>zI _ u) fun x u=>(zD.1 u).elim (fun u=>.inl (zH _ u)) fun u=>(s.new x u).imp (zI _) id
 fr:=h.fr.j8 s.fr fun x u=>.inr (h.nF x u)
 nL:=h.nL
 nF:=fun x u=>(s.new x u).elim (h.nF x) (zL h.fr.size)
 ns:=h.ns
end
abbrev yk:pp:=(dG,dG,dG,dG,dG,dG,dG,0,false,dG)
def qAR(S:List Nat)(w:World)(q:Nat×Nat×Gh):RB S w yk (wM q):=⟨.nil _ _ _ _,.nil _ _ _ _,.nil _ _ _ _,.nil _ _ _ _,.nil _ _ _ _,.nil _ _ _ _,.nil _ _ _ _,⟨rfl,rfl⟩,[],zM _,.nil _ _ _ _⟩
def ou.start{w0 w w':World}{Y:List Nat}{L:List (Nat×Obj)}{sb dbk pb c:Nat}{FD F:List Nat}{D:dI}{M:dY}{q:Nat×Nat}(o:dQ [] w0 w L)(h:nh w' (fi L++Y) sb dbk pb FD F D M c q (fun _=>([],[])))(E:c<=100000)(G:q.2<=150)(I:HG∉FD)(J:sb∉FD)(f:Fr [] w w')(u:∀b∈sb::(FD++F),w.heap.size<=b):ou w0 w' Y L sb (FD++F) c (wM (q.1,q.2,pb,D,mp M)) (wM (q.1,q.2,pb,D,mp M)) yk where
 own:=(o.q7 f).ln
 sB:=⟨pb,dbk,FD,F,D,M,_,rfl,h,I,J,qAu _,E,G,rfl⟩
 rb:=qAR _ _ _
 fr:=o.fr.trans f
 nL:=fun x C=>by obtain⟨p,R,rfl⟩:=mem_map.1 C;exact (o.own p R).elim (fun h=>nomatch h) id
 nF:=fun x C=>zL o.fr.size (u x (zN _ C))
 ns:=⟨zL o.fr.size (u sb oL),fun U=>by have:=wg o sb U;have:=u sb oL;omega⟩
end
section
open Go Go.Pt List
open Go.IntKind (wrap)
open Classical
section
variable {w w' w0 W:World} {Y F F' S:List Nat} {L L':List (Nat×Obj)} {sb pb c i:Nat} {b b' br br':Bk} {r ri r':pp}
def SB.sbF(h:SB w Y sb F c b):sb∉F:=by obtain⟨pb,dbk,FD,I,D,M,Fo,rfl,C,E,u,J,R,U⟩:=h;exact fun G=>(zD.1 G).elim u C.out
def SB.nV{o:Obj}(h:SB w Y sb F c b)(u:w.heap[sb]?=some o)(s:nI F w F' w'):w'.heap[sb]?=some o:=by rw[s.fr.block sb (eZ u) h.sbF];exact u
def RB.wF(h:RB S w r b):RB S w r b.wF:=⟨h.acc,h.kc,h.jJ,h.due,h.me,h.mh,h.jz,h.told,h.gone⟩
def RB.jI(h:RB S w r b)(n:Int):RB S w (r.1,r.2.1,r.2.2.1,r.2.2.2.1,r.2.2.2.2.1,r.2.2.2.2.2.1,r.2.2.2.2.2.2.1,n,true,r.2.2.2.2.2.2.2.2.2) (b.jI n):=
 ⟨h.acc,h.kc,h.jJ,h.due,h.me,h.mh,h.jz,⟨rfl,rfl⟩,h.gone⟩
structure pw (w0 W:World) (Y:List Nat) (L:List (Nat×Obj)) (sb pb:Nat) (F:List Nat) (b:Bk) (ri:pp):Prop where
 st:∃ g,ou w0 W Y L sb F 600 (b.gs g) b ri
 cell:W.heap[sb]?=some (.cells #[pP pb] zy (0,0))
def pw.q7(h:pw w0 W Y L sb pb F b ri)(f:Fr [] W w'):pw w0 w' Y L sb pb F b ri:=⟨h.st.imp fun g h=>h.q7 f,by rw[f.block sb (eZ h.cell) fun h=>nomatch h];exact h.cell⟩
def pw.J0(h:pw w0 W Y L sb pb F b ri)(o:dQ (fi L) W w' L'):pw w0 w' Y L' sb pb F b ri:=⟨h.st.imp fun g h=>h.J0 o,h.st.elim fun g u=>o.pC h.cell u.ns.2⟩
def pw.sub(h:pw w0 W Y L sb pb F b ri)(u:L'.Sublist L):pw w0 W Y L' sb pb F b ri:=⟨h.st.imp fun g h=>h.sub u,h.cell⟩
def pw.own(h:pw w0 W Y L sb pb F b ri):dQ (fi L) W W L:=h.st.elim fun g h=>h.own
def pw.fr(h:pw w0 W Y L sb pb F b ri):Fr [] w0 W:=h.st.elim fun g h=>h.fr
def nh.less{dbk u:Nat}{FD:List Nat}{D:dI}{M:dY}{Q:Nat×Nat}{Fo:jU}(h:nh w Y sb dbk pb FD F D M c Q Fo)(C:u<=c):nh w Y sb dbk pb FD F D M u Q Fo:=⟨h.tw,⟨h.st.J0,h.st.J1,zL C h.st.many⟩,h.cell,h.out⟩
def pw.start{dbk:Nat}{FD:List Nat}{D:dI}(o:dQ [] w0 w L)(h:nh w' (fi L++Y) sb dbk pb FD F D (jW 900) ((900-2)-eI (900-2)) (900,1) (fun _=>([],[])))(u:HG∉FD)(C:sb∉FD)(f:Fr [] w w')(E:∀b∈sb::(FD++F),w.heap.size<=b): ∃g,pw w0 w' Y L sb pb (FD++F) (wM (900,1,g)) yk:=
 ⟨_,⟨_,ou.start o (h.less (by have e:eI (900-2)=8:=rfl;omega)) oM oM u C f E⟩,h.cell⟩
def Bt.room{n:Nat}(h:Bt n i b)(hi:i<=60):3*(b.size+3)+1<=600/\3*b.size+1<=600/\b.cm.2.1<=100:=by
 have:=h.size
 have:=h.wF
 exact⟨oJ,oJ,oJ⟩
def Bt.AZ(h:Bt 900 i b)(hi:i<=60):600+eI b.cm.1+b.size+2<=b.cm.1/\eI b.cm.1+b.size<=600:=by
 have:=h.size
 have e:eI 900=8:=rfl;rw[h.blocks,e];exact⟨oJ,oJ⟩
end
end
section
open Go Go.Pt List
open Go.IntKind (wrap)
open Classical
attribute [local irreducible] ld dK ij nM jv fg st new idx jw jL fD jO jl mF gF nn call ed inv run eW i9 join loop held ext kH eS nf mY ng IntKind.wrap
abbrev BOT:TypeId:=34
def qpS{d:HL i7}{l:List (HL i7)}:((i8 d l).length<l.length)↔∃x∈l,k9 x=k9 d:=by have h:=length_filter_lt_length_iff_exists (l:=l) (p:=fun x=>decide (k9 x≠k9 d));unfold i8;rw[h];simp
section
variable {w0 w w':World} {Y F:List Nat} {L:List (Nat×Obj)} {sb pb i:Nat} {b:Bk} {ri:pp} {o:Ov}
def qxD{K:pp×Bool->WP}(h:pw w0 w Y L sb pb F b ri)(ho:rg o)(ht:Bt 900 i b)(hi:i<=60)(G:∀F' r' w',pw w0 w' Y L sb pb F' (pJ b o) r'->K (r',true) w'): cW 33 [dF sb,dF pb,.agg (HL.mk fO ri).toArray,.agg (t7 o).toArray] [.agg fO,.one .bool] w K:=by
 refine qhL ?_;obtain⟨q1,q2,q3⟩:=ht.room hi;have ae:b.size<=100000:=oJ;have ao:=ht.AZ hi;refine oB h.own fun r1 w1 _ _ o1=>oB o1 fun r3 w2 _ _ o1=>oB o1 fun r5 w3 _ _ o1=>?_;have h:=h.J0 o1;have hd:(0:Int)<=rK o/\rK o<=255:=ho.d;have hm:Int.tmod (rK o) 8=rK o%8:=Int.tmod_eq_emod_of_nonneg hd.1;refine oA h.own 1 rfl (rK o) rfl ?_;rw[hm];unfold pJ at G;have g:=(Fr.refl [] w3).drew;obtain⟨⟨gh,h⟩,hp⟩:=h;have cf:∀ {w4 w5:World},w4.heap[sb]?=some (.cells #[pP pb] zy (0,0))->Fr [] w4 w5->w5.heap[sb]?=some (.cells #[pP pb] zy (0,0)):=fun h f=>by rw[f.block sb (eZ h) fun h=>nomatch h];exact h
 have J:∀ {F':List Nat} {w4:World} {r':pp} {bs br:Bk} {L2:List (Nat×Obj)} {cs:Array Value} {T5:TypeId},ou w0 w4 Y ((r5,.cells cs T5 (0,0))::L2) sb F' 600 bs br r'->w4.heap[sb]?=some (.cells #[pP pb] zy (0,0))->(∃g,bs=br.gs g)->L.Sublist L2->cs.size=10->(∀F' r' w',pw w0 w' Y L sb pb F' br r'->K (r',true) w')->Pt.st (dg r5) (HL.mk fO r') w4 fun w5=>dK fO (dg r5) w5 fun t=>K (t,true) w5:=fun {F' w4 r' bs br L2 cs T5} h hp C hs hz G=>by obtain⟨g,rfl⟩:=C;exact h.own.st' 0 rfl _ (kj (by rw[hz];rfl)) rfl (by rw[hz];exact zM _) fun w5 o5 f5=>oC o5 0 rfl r' rfl (G F' r' w5 ⟨⟨g,(h.J0 o5).sub (hs.cons _)⟩,o5.pC hp h.ns.2⟩)
 have C:=h.q7 g;have ab:=cf hp g;have R:L.Sublist ([(r3,Obj.cells (t7 o).toArray 81 (0,0)),(r1,Obj.cells (HL.mk fO ri).toArray BOT (0,0))]++L):=.cons _ (.cons _ (.refl _));refine dW (fun E=>?_) fun E=>?_;rw[if_pos (yP.1 E)] at G;refine oC C.own 2 rfl ri rfl (oC C.own 1 rfl (ur o) rfl (oC C.own 1 rfl (ur o) rfl (quR C.rb ae C.lt fun r' w4 h4 U=>?_)));have h:=C.nd U h4;exact ig (h.own.cells 1 rfl rfl) (quY h.sB q2 ho.a fun F5 w5 h5 V=>J (h.mA h5 V) (h.sB.nV (cf ab U) V) ⟨gh,rfl⟩ R rfl G);rw[if_neg (zR.1 E)] at G;refine dW (fun E=>?_) fun E=>?_;rw[if_pos (yP.1 E)] at G;refine oC C.own 2 rfl ri rfl (nJ (C.own.at (i:=1) rfl) (nO (sU o)) rfl rfl (nJ (C.own.at (i:=1) rfl) (nO (sU o)) rfl rfl (quU C.rb ae C.lt fun r' w4 h4 U=>?_)));have h:=C.nd U h4;exact ig (h.own.cells 1 rfl rfl) (qu0 h.sB q1 ho.k fun F5 w5 h5 V=>J (h.mA h5 V) (h.sB.nV (cf ab U) V) ⟨gh,rfl⟩ R rfl G);rw[if_neg (zR.1 E)] at G;refine dW (fun E=>?_) fun E=>?_;rw[if_pos (yP.1 E)] at G;refine oC C.own 2 rfl ri rfl (oC C.own 1 rfl (ry o) rfl (oA C.own 1 rfl (xo o) rfl (oC C.own 1 rfl (ry o) rfl (oA C.own 1 rfl (xo o) rfl (quV C.rb ae C.lt fun r' w4 h4 U=>?_)))));have h:=C.nd U h4;exact ko (h.own.cell 1 rfl rfl) (h.own.cells 1 rfl rfl) (qu1 h.sB q2 ho.i ho.s fun F5 w5 h5 V=>J (h.mA h5 V) (h.sB.nV (cf ab U) V) ⟨gh,rfl⟩ R rfl G);rw[if_neg (zR.1 E)] at G;refine dW (fun E=>?_) fun E=>?_;rw[if_pos (yP.1 E)] at G;refine oC C.own 2 rfl ri rfl (oC C.own 1 rfl (qr o) rfl (oC C.own 1 rfl (qr o) rfl (quS (d:=qr o) C.rb ae C.lt fun r' w4 h4 U=>?_)));have h:=C.nd U h4;exact ig (h.own.cells 1 rfl rfl) (FI h.sB q2 ho.u fun F5 w5 h5 V=>J (h.mA h5 V) (h.sB.nV (cf ab U) V) ⟨gh,rfl⟩ R rfl G);rw[if_neg (zR.1 E)] at G;refine dW (fun E=>?_) fun E=>?_;rw[if_pos (yP.1 E)] at G;refine oC h.own 2 rfl ri rfl (oC h.own 1 rfl (qr o) rfl (qlW (d:=qr o) h.rb ae h.lt fun r' w4 h4 U=>?_));have h:=h.nd U h4;have hp:=cf hp U;refine oB h.own fun aP w5 _ _ o5=>o5.st' 0 rfl _ (kj rfl) rfl (zM _) fun w6 o6 _=>?_;have h':=h.J0 o6;have hp:=o6.pC hp h.ns.2;refine ui (if ∃x∈b.due,k9 x=k9 (qr o) then 0 else 5:Int) w6 (fun M hM=>?_) ?_;refine dW (fun E=>?_) fun E=>?_;rw[if_pos (qpS.1 (zC E))] at hM;exact hM;rw[if_neg fun h=>zB E (qpS.2 h)] at hM;exact hM;have g6:=(Fr.refl [] w6).drew;have h:=h'.q7 g6;have hp:=cf hp g6;refine oC h.own 0 rfl r' rfl (oC h.own 2 rfl (qr o) rfl (qs8 (d2:=(qr o).2.2.1) (d3:=(qr o).2.2.2) h.sB q2 ho.u (fun am F7 w7 h7 s7=>?_) fun aj w7 f7=>?_));have am:∃x∈b.due,k9 x=k9 (qr o):=am;rw[if_pos am];have I:=h.mA h7 s7;exact ig (I.own.cells 0 rfl rfl) (J (I.sub (.cons _ (.refl _))) (h.sB.nV hp s7) ⟨gh,rfl⟩ R rfl G);have aj:∀x∈b.due,k9 x≠k9 (qr o):=aj;rw[if_neg fun⟨x,hx,e⟩=>aj x hx e];have e:=qtg (b:=b) (d:=qr o) aj;have I:=h.q7 f7;rw[e] at I G;exact ig (I.own.cells 0 rfl rfl) (J (I.sub (.cons _ (.refl _))) (cf hp f7) ⟨gh,rfl⟩ R rfl G);rw[if_neg (zR.1 E)] at G;refine dW (fun E=>?_) fun E=>?_;rw[if_pos (yP.1 E)] at G;refine oC C.own 2 rfl ri rfl (oC C.own 1 rfl (ry o) rfl (oC C.own 1 rfl (za o) rfl (oC C.own 1 rfl (ry o) rfl (oC C.own 1 rfl (za o) rfl (quT C.rb ae C.lt fun r' w4 h4 U=>?_)))));have h:=C.nd U h4;exact ko (h.own.cells 1 rfl rfl) (h.own.cells 1 rfl rfl) (quZ h.sB q2 ho.i ho.r fun F5 w5 h5 V=>J (h.mA h5 V) (h.sB.nV (cf ab U) V) ⟨gh,rfl⟩ R rfl G);rw[if_neg (zR.1 E)] at G;refine dW (fun E=>?_) fun E=>?_;rw[if_pos (yP.1 E)] at G;refine oA h.own 1 rfl (ul o) rfl (h.own.st' 2 rfl (HL.mk fO (ri.1,ri.2.1,ri.2.2.1,ri.2.2.2.1,ri.2.2.2.2.1,ri.2.2.2.2.2.1,ri.2.2.2.2.2.2.1,ul o,ri.2.2.2.2.2.2.2.2.1,ri.2.2.2.2.2.2.2.2.2)).toArray rfl rfl (zO rfl) fun w4 o4 _=>o4.st' 2 rfl (HL.mk fO (ri.1,ri.2.1,ri.2.2.1,ri.2.2.2.1,ri.2.2.2.2.1,ri.2.2.2.2.2.1,ri.2.2.2.2.2.2.1,ul o,true,ri.2.2.2.2.2.2.2.2.2)).toArray rfl rfl (zO rfl) fun w5 o5 _=>?_);have g5:=(Fr.refl [] w5).drew;have hp:=cf (o5.pC hp h.ns.2) g5;have h:=(h.J0 o5).q7 g5;have h:=h.nd (.refl _ _) (h.rb.jI (ul o));refine oC h.own 2 rfl (ri.1,ri.2.1,ri.2.2.1,ri.2.2.2.1,ri.2.2.2.2.1,ri.2.2.2.2.2.1,ri.2.2.2.2.2.2.1,ul o,true,ri.2.2.2.2.2.2.2.2.2) rfl (oA h.own 1 rfl (ul o) rfl (qs9 h.sB q2 fun F6 w6 h6 s6=>?_));have I:=h.mA h6 s6;exact ig (I.own.cells 2 rfl rfl) (J I (h.sB.nV hp s6) ⟨gh,rfl⟩ (.cons _ (.cons _ (.refl _))) rfl G);rw[if_neg (zR.1 E)] at G;refine oC C.own 2 rfl ri rfl (SB.nm C.sB ab q3 ao.1 ao.2 fun F5 w5 g' h5 V=>?_);have I:=C.mA h5 V;exact ig (I.own.cells 2 rfl rfl) (J (I.nd (.refl _ _) I.rb.wF) (C.sB.nV ab V) ⟨g',rfl⟩ R rfl G)
end
end
section
open Go Go.Pt List
open Go.IntKind (wrap)
open Classical
variable {K:Option Addr×pp×Bool->WP}
def ovZ:Ov:=(0,px,tf,(0,0),0,(0,0,0,0),Av,0)
def qxd:((prog.info? 81).bind (·.zero)).map (fun z=>z.cells.toList)=some (t7 ovZ):=by kernel_rfl
attribute [local irreducible] ld dK ij nM jv fg st new idx jw jL fD jO jl mF gF nn call ed inv run eW i9 join loop held ext kH eS nf mY ng IntKind.wrap
abbrev oBk (r:pp):Obj:=.cells (HL.mk fO r).toArray BOT (0,0)
section
variable {w w':World} {s:Sl} {l:List Ov}
def qva(E:Hv w)(G:dZ t7 52 [] w s l)(I:∀o∈l,rg o)(hl:l.length<=60)(kk:∀sb pb F q ri w',q.1=900->q.2.1=1->pw w w' [] [] sb pb F (oS q l) ri->K (pW sb,ri,true) w'): cW 9 [s.v] [.one .ptr,.agg fO,.one .bool] w K:=by refine qhn ?_;have J:=G.1;refine oB (oE [] w) fun R w1 e1 f1 o=>?_;have l1:=eZ (o.at (i:=0) rfl);refine qqj (n:=900) [R] (fun b hb=>by rw[zE.1 hb];exact l1) (fun hm=>by have:=zE.1 hm;have:=E.lt;omega) (E.q7 o.fr) oM oM fun sb pb dbk FD F D w3 U hM hg hd f3 n3=>cond_false rfl ?_;obtain⟨g,h⟩:=pw.start (Y:=[]) o U hg hd f3 n3;clear o U hM;refine oB h.own fun r7 w4 _ _ o=>?_;have h:=h.J0 o;clear o;have hz:=qxd;refine iU (fun x W=>∃i:Nat,∃F ri,x=i/\i<=l.length/\pw w W [] [(r7,oBk ri),(R,oBk yk)] sb pb F (oS (900,1,g) (l.take i)) ri) (fun x _=>l.length-x.toNat) ⟨0,_,yk,rfl,yX _,h⟩ ?_;clear h;rintro x W ⟨i,F,ri,rfl,hi,h⟩ X hX;have ht:=EF (q:=(900,1,g)) rfl i l hi I;refine dW (fun C=>?_) fun C=>?_;have u:i<l.length:=(by have:=zC C;omega);have hx:=zA u;refine dZ.gO (G.q7 h.fr) Do i rfl hx (oI h.own hz fun ap V _ o=>mP (Do _) (o.st' 0 rfl _ (kj rfl) rfl (zM _) fun w6 o _=>?_));have h:=h.J0 o;clear o;refine oC h.own 1 rfl ri rfl (nJ (h.own.at (i:=0) rfl) (t7 l[i]) rfl rfl (qxD h (I _ (zX u)) ht oJ fun F' r' w7 h=>?_));refine oB h.own fun aq w8 _ _ o=>o.st' 0 rfl _ (kj rfl) rfl (zM _) fun w9 o _=>cond_false rfl (oC o 0 rfl r' rfl (o.st' 2 rfl _ (kj rfl) rfl (zM _) fun wa o _=>?_));have h:=h.J0 o;rw[gg _ oJ];refine hX _ _ ⟨i+1,F',r',rfl,u,?_⟩ oJ;rw[yG u,qnu];exact h.sub (.cons _ (.cons _ (.refl _)));have u:i=l.length:=(by have:=zB C;omega);subst u;rw[xZ] at h;have h:=h.q7 (Fr.refl [] W).drew;refine oC h.own 0 rfl ri rfl (h.own.st' 1 rfl _ (kj rfl) rfl (zM _) fun V o _=>oC o 1 rfl ri rfl ?_);exact kk sb pb F (900,1,g) ri V rfl rfl ((h.J0 o).sub (nil_sublist _))
def qnO{K:Bool->WP}(I:Hv w)(J:∀w',Fr [] w w'->K true w'):cW 8 [] dj w K:=by refine qho ?_;unfold qdJ;refine qqj (n:=40) [] (fun _ h=>nomatch h) (fun h=>nomatch h) I oM oM fun sb pb dbk FD F D w1 R hM U V f1 n1=>?_;have hn:eI (40-2)=1:=rfl;have h:=ou.start (Y:=[]) (oE [] w) R oJ oM U V f1 n1;generalize ((40,1).1,(40,1).2,pb,D,mp (jW 40))=q at h;have E:∀ {a b:Int},np a->np b->jE i7 (a,b,0,0):=fun ha hb=>⟨Cj ha,Cj hb,qy7,qy7⟩;refine gW (fun x w'=>x=false/\∃F br,ou w w' [] [] sb F ((40-2)-eI (40-2)) (((wM q).jp (9,2,0,0)).jp (5,3,0,0)) br yk) ?_ ?_;refine cond_false rfl (FI h.sB (by show 3*0+1<=_;omega) (E ⟨oM,oM⟩ ⟨oM,oM⟩) fun F2 w2 h2 s2=>cond_false rfl ?_);have u:=h.mA h2 s2;exact FI u.sB (by show 3*1+1<=_;omega) (E ⟨oM,oM⟩ ⟨oM,oM⟩) fun G w3 h3 s3=>⟨rfl,G,_,u.mA h3 s3⟩;rintro x w3 ⟨rfl,G,br,h⟩;have e:oo (((wM q).jp (9,2,0,0)).jp (5,3,0,0)).due 9 1=[(5,3,0,0)]:=oK;refine cond_false rfl (qzr h.sB (Cj ⟨oM,oM⟩) (DQ (DQ .nil)) (by show 2<=_;omega) fun s B w4 C f4 nB _=>?_);rw[e] at C;have hl:s.len=1:=C.len;refine cond_true (by rw[hl];rfl) (dZ.qT (y:=(5,3,0,0)) (C.jo Cc (S:=[]) fun _ _ h=>nomatch h) 0 rfl rfl rfl rfl ?_);exact eqS (t:=Dv) 3 oM oK oK (J w4 (h.fr.trans f4))
end
end
section
open Go Go.Pt List
open Go.IntKind (wrap)
open Classical
attribute [local irreducible] ld dK ij nM jv fg st new idx jw jL fD jO jl mF gF nn call ed inv run eW i9 join loop held ext kH eS nf mY ng IntKind.wrap
def qxq{α:Type}{enc:α->List Value}{k:Nat}{w:World}{r:Nat}{cs:Array Value}{T:TypeId}{l:List α}(h:∀x,(enc x).length=k)(C:w.heap[r]?=some (.cells cs T (0,0)))(u:cs.toList=l.flatMap enc):eQ enc k w ⟨pW r,l.length,l.length⟩ l [r]:=by have E:cs.size=l.length*k:=(by rw[<- Array.length_toList,u,pQ h]);exact .inr ⟨r,0,cs,T,rfl,rfl,rfl,C,rfl,zM _,by dsimp only;omega,by rw[xF,u];exact zS (by rw[pQ h];exact zM _)⟩
def qwC(x:iV):∀u∈iZ x,u.oneCell'=true:=all_eq_true.1 rfl
def qAz:∃i,prog.info? ut=some i/\i.zero=some (.agg cX)/\i.size=2/\i.bytes=16:=sK oK
abbrev C8T:TypeId:=64
abbrev ACT:TypeId:=74
section
variable {w w':World} {s:Sl} {l:List Ov}
def qqT{i0 i1:Int}{K:Bool->WP}(hv:Hv w)(hr:dZ t7 52 [] w s l)(ho:∀o∈l,rg o)(ha:k7 (i0,i1))(kk:∀w',Fr [] w w'->K true w'): cW 7 [s.v,de i0 i1] dj w K:=by refine qeU ?_;have aW:=hr.1;obtain⟨j,hj,hz,ai,aF⟩:=qAz;refine oB (oE [] w) fun r1 w2 e1 f2 o=>dW (fun _=>qnO (hv.q7 f2) fun w' f=>kk w' (f2.trans f)) fun hc=>?_;have hl:l.length<=60:=(by have:=zB hc;omega);refine qva (hv.q7 f2) (hr.q7 f2) ho hl fun sb pb F q ri w3 q1 q2 h=>?_;have ht:=EF q2 l.length l (zM _) ho;rw[xZ] at ht;have aG:=ht.size;have o:=o.q7 h.fr;refine oB o fun r7 w8 e7 f8 o=>o.st' 0 rfl _ (kj rfl) rfl (zM _) fun w9 o G=>cond_false rfl ?_;have h:=h.q7 (f8.j8 G fun x C=>.inr (by rw[zE.1 C,e7];exact zM _));obtain⟨⟨g,h⟩,_⟩:=h;generalize oS q l=b at h ht aG;have hS:=h.sB;have hB:=h.rb;have aH:=hr.q7 o.fr;have aI:=qxd;have al:=yb;refine oC o 1 rfl (i0,i1) rfl (oB (oE [] w9) fun ac wa ea fa am=>?_);have an:eQ iZ 2 wa ⟨pW ac,1,1⟩ [(i0,i1)] [ac]:=qxq (l:=[(i0,i1)]) rJ (am.at (i:=0) rfl) rfl;refine iU (fun t W=>∃(i:Nat) (E:List iV) (B:List Nat),t.2=i/\i<=l.length/\eQ iZ 2 W t.1 E B/\E.length=1+3*i/\(∀x∈E,k7 x)/\Fr [] w9 W/\∀x∈B,w9.heap.size<=x) (fun t _=>l.length-t.2.toNat) ⟨0,[(i0,i1)],[ac],rfl,yX _,an,rfl,fun x C=>by rw[zE.1 C];exact ha,fa,fun x C=>by rw[zE.1 C,ea];exact zM _⟩ ?_;clear an am fa;rintro⟨si,x⟩ W ⟨i,E,B,ao,hi,hb,ad,aa,fW,nB⟩ X hX;dsimp only at ao hb⊢;subst ao;have zW:=fW.size;refine dW (fun hc=>?_) fun hc=>?_;have ae:i<l.length:=(by have:=zC hc;omega);have C:=zA ae;have I:=ho _ (zX ae);generalize l[i]=J at C I;refine dZ.gO (aH.q7 fW) Do i rfl C (oI (oE [] W) aI fun a' wb _ R=>mP (Do _) (R.st' 0 rfl _ (kj rfl) rfl (zM _) fun wc R _=>?_));refine oC R 0 rfl (kD (ur J)) rfl (oC R 0 rfl (qe (sU J)) rfl (oC R 0 rfl (ry J) rfl (oB R fun aq wd _ _ R=>?_)));have aJ:eQ iZ 2 wd ⟨pW aq,3,3⟩ [kD (ur J),qe (sU J),ry J] [aq]:=qxq (l:=[kD (ur J),qe (sU J),ry J]) rJ (R.at (i:=0) rfl) rfl;have e:=hb.len;refine eQ.j1 (m:=3) (ys:=[kD (ur J),qe (sU J),ry J]) (hb.q7 R.fr) rJ (e:=ut) oK hj hz ai rfl (tg (e':=ut) (aJ.jo rJ (S:=[]) fun _ _ h=>nomatch h) rJ qwC oK) rfl (by rw[aF,ad];omega) (by rw[ad];omega) fun s' B' we b' fe n' _=>?_;have aK:Fr [] w9 we:=(fW.trans R.fr).j8 fe fun x C=>.inr (nB x C);rw[gg _ oJ];refine hX _ _ ⟨i+1,_,B',rfl,ae,b',by rw[zF,ad];show 1+3*i+3=_;omega,fun x C=>?_,aK,fun x C=>(n' x C).elim (nB x) fun h=>zL (zL zW R.fr.size) h⟩ oN;rcases zD.1 C with C|C;exact aa x C;simp only[zG,xX,or_false] at C;rcases C with rfl|rfl|rfl;exact⟨I.a.1,I.a.2.1⟩;exact⟨I.k.1.1,I.k.1.2.1⟩;exact I.i;clear hX;have bd:=hb.len;have hR:dZ iZ 2 [] W si E:=hb.jo rJ fun _ _ h=>nomatch h;refine iU (fun x W'=>∃k:Nat,x=k/\k<=E.length/\Fr [] W W') (fun x _=>E.length-x.toNat) ⟨0,rfl,yX _,.refl _ _⟩ ?_;rintro x W' ⟨k,rfl,hk,fV⟩ X hX;have G:=fW.trans fV;refine dW (fun hc=>?_) fun hc=>?_;have af:k<E.length:=(by have:=zC hc;omega);have C:=zA af;have U:=aa _ (zX af);generalize E[k]=u at C U;refine dZ.qT (hR.q7 fV) k rfl C rfl (y:=u) rfl (oB (oE [] W') fun bg bh _ _ p=>p.st' 0 rfl _ (kj rfl) rfl (zM _) fun bi p _=>oC p 0 rfl u rfl (qzq (hS.q7 (G.trans p.fr)) U fun bj aM=>?_));refine oB (p.q7 aM) fun bk bl _ _ p=>p.st' 0 rfl _ (kj rfl) rfl (zM _) fun bm p _=>oC (o.q7 (G.trans p.fr)) 0 rfl ri rfl (oC p 1 rfl u rfl (qzn (hB.q7 (G.trans p.fr)) oJ fun bn aN=>?_));refine oB (p.q7 aN) fun bo bp _ _ p=>p.st' 0 rfl _ (kj rfl) rfl (zM _) fun bq p _=>oC p 2 rfl u rfl (qzt (hS.q7 (G.trans p.fr)) U fun bt aO=>?_);refine oI (p.q7 aO) al fun bu bv _ p=>mP (ol _) (p.st' 0 rfl _ (kj rfl) rfl (zM _) fun bx p _=>oC (o.q7 (G.trans p.fr)) 0 rfl ri rfl (oC p 3 rfl u rfl (qzp (hB.q7 (G.trans p.fr)) oJ fun bz aP=>?_)));refine oI (p.q7 aP) al fun bA bB _ p=>mP (ol _) (p.st' 0 rfl _ (kj rfl) rfl (zM _) fun bC p _=>?_);have p:=p.drew;refine gW (fun x w'=>x=false/\Fr [] W' w') (oC p 3 rfl ((jY b u).getD px) rfl (oC p 2 rfl ((jY b u).getD px) rfl (qAM (t:=ACT) 3 oM oK oK (cond_false rfl (cond_false (by rw[show jY (b.gs g) (u.1,u.2)=jY b (u.1,u.2) from rfl,beq_self_eq_true];rfl) (nJ (p.at (i:=1) rfl) (nO ((jT b u).getD tf)) (ol _) rfl (nJ (p.at (i:=0) rfl) (nO ((jT b u).getD tf)) (ol _) rfl (qAM (t:=yv) 5 oM oK oK (cond_false rfl (cond_false (by rw[show jT (b.gs g) (u.1,u.2)=jT b (u.1,u.2) from rfl,beq_self_eq_true];rfl) ?_)))))))))) ?_;refine oC p 4 rfl u rfl (oC (o.q7 (G.trans p.fr)) 0 rfl ri rfl (oC p 4 rfl u rfl (qzs (hS.q7 (G.trans p.fr)) U fun bD V=>ko ((p.q7 V).cells 4 rfl rfl) ((o.q7 ((G.trans p.fr).trans V)).cells 0 rfl rfl) (qzo (hB.q7 ((G.trans p.fr).trans V)) oJ fun bE aQ=>⟨?_,(p.fr.trans V).trans aQ⟩))));rw[show nU (b.gs g) (u.1,u.2)=nU b (u.1,u.2) from rfl,beq_self_eq_true];rfl;rintro x w' ⟨rfl,f'⟩;rw[gg _ oJ];exact cond_false rfl (hX _ _ ⟨k+1,rfl,af,fV.trans f'⟩ oJ);have g1:=G.drew;have fo:Fr [] w W'.drew:=o.fr.trans g1;refine qnO (hv.q7 fo) fun bH aR=>cond_true rfl ?_;have g2:=g1.trans aR;refine oA (o.q7 g2) 0 rfl ri.2.2.2.2.2.2.2.1 rfl (qxZ (hS.q7 g2) ht.last fun bI au=>ig ((o.q7 (g2.trans au)).cell 0 rfl rfl) (cond_true (by rw[hB.told.2];exact beq_self_eq_true _) ?_));have g3:=g2.trans au;refine oC (o.q7 g3) 0 rfl ri rfl (quW (hS.q7 g3) fun bJ ag=>ig ((o.q7 (g3.trans ag)).cells 0 rfl rfl) (quP (hB.q7 (g3.trans ag)) oJ fun aT aU=>?_));exact eqS (t:=C8T) 2 oM oK oK (kk aT (o.fr.trans ((g3.trans ag).trans aU)))
end
end
end Go.Proofs.YtpcmehldpoljfaaGreatDoor
