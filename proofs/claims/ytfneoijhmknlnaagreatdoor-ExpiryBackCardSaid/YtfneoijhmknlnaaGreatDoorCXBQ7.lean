/- Conditions: those that stand in each line. -/
import Derived.Test.YtfneoijhmknlnaaGreatDoorCXBQ6
import Derived.Test.YtfneoijhmknlnaaGreatDoorCXBQ3
import Derived.Test.YtfneoijhmknlnaaGreatDoorCXBQ1
import Derived.Test.YtfneoijhmknlnaaGreatDoorCXBQ4
set_option linter.unusedVariables false
set_option linter.unusedSimpArgs false
set_option linter.defProp false
namespace Go.Proofs.YtfneoijhmknlnaaGreatDoor
open Go.Proofs.Tryz (prog)
section
open Go Go.Pt List
open Go.IntKind (wrap)
open Classical
attribute [local irreducible] ld dK ic nK jx eT st new idx jK jF fV jI jl mp gK nn call dW inv run fl jf join loop held ext kW eU m8 nQ nT IntKind.wrap
variable {B S:List Nat} {K:Sl->WP} {L:gu} {P:List Int} {T:Nat->gu} {a:HL fq} {b:Bk} {d:HL ib} {i most n x:Int} {k:Nat} {l:List (HL ib)} {s:Sl} {w:World}
abbrev CH:TypeId:=105
def Ad (a b:Sl):Array Value:=#[a.v,b.v]
@[reducible] def HT:List Cell:=[.slice,.slice]
section
variable {dbk pb:Nat} {FD F:List Nat} {D:dM} {M:eQ} {k v:Nat} {frm to:Key} {down:Bool} {w0 w wA:World} {cb:Nat} {Y SB:List Nat} {st:Sl} {zs:List rS}
def qy8{n:dN}(h:fZ n k v)(E:n.Q1=true):k<=24/\v<=108:=by obtain⟨_,_,_,C⟩:=h;rw[if_pos E] at C;have u:=C.2.2.1;unfold dY at u;split at u;dsimp only at u;omega;omega
def qv9{K:(Sl×Sl)×Bool->WP}(hC:gN dbk pb FD D F M k v frm to down w0 cb Y w st SB zs)(hL:Left D M k v frm to down 1 (zs.map (·.2)) L)(k0:L=[]->∀w',gN dbk pb FD D F M k v frm to down w0 cb Y w' dI [] []->Fr (cb::SB) w w'->K ((dI,dI),false) w')(k1:∀x L',L=x::L'->∀ks vs B1 B2 w' st' SB' zs',gF w' ks x.1 B1->gF w' vs x.2 B2->gN dbk pb FD D F M k v frm to down w0 cb (B1++(B2++Y)) w' st' SB' zs'->Left D M k v frm to down 1 (zs'.map (·.2)) L'->Fr (cb::SB) w w'->(∀b∈SB',b∈SB\/w.heap.size<=b)->(∀b∈B1,w.heap.size<=b)->(∀b∈B2,w.heap.size<=b)->(∀b∈B1,b∉B2)->K ((ks,vs),true) w'): cW 79 [dH cb] [.agg HT,.one .bool] w K:=by
 refine qhV (c:=pW cb)<|oB (oE [] w) fun r w1 e1 f1 h=>?_;have hrl:=fJ (h.at (i:=0) rfl);dsimp only at hrl;have hltw:=hC.lt;have hC1:gN dbk pb FD D F M k v frm to down w0 cb (r::Y) w1 st SB zs:=hC.q8 (f1.mono fun _ h=>nomatch h) (fun b hb=>(zG.1 hb).elim (fun e=>.inr (by rw[e,e1];exact zM _)) .inl) fun b hb=>by rcases zG.1 hb with rfl|hb;exact hrl;exact yD (hltw b (by simp[hb])) f1.size
 have hr1:w1.heap[r]?=some (.cells (Ad dI dI) CH (0,0)):=h.at (i:=0) rfl;have hrS:r∉cb::SB:=fun hm=>by
  have:=hltw r (by rcases zG.1 hm with h|h<;>simp[h])
  omega
 have hfr:∀ {w':World},Fr (cb::SB) w1 w'->w'.heap[r]?=some (.cells (Ad dI dI) CH (0,0)):=fun f=>by rw[f.block r hrl hrS];exact hr1
 clear h;refine iQ (fun _ w'=>L=[]/\Fr (cb::SB) w1 w'/\∃st' SB' zs',gN dbk pb FD D F M k v frm to down w0 cb (r::Y) w' st' SB' zs'/\∀b∈SB',b∈SB\/w1.heap.size<=b) ?_ ?_
 ·refine Dn (fun (n:Nat) (_:PUnit) w'=>Fr (cb::SB) w1 w'/\∃st' SB' zs',gN dbk pb FD D F M k v frm to down w0 cb (r::Y) w' st' SB' zs'/\(∀b∈SB',b∈SB\/w1.heap.size<=b)/\Left D M k v frm to down n (zs'.map (·.2)) L) id 1 ⟨.refl _ _,st,SB,zs,hC1,fun b hb=>.inl hb,hL⟩ ?_;rintro n _ w2 ⟨f2,st2,SB2,zs2,hC2,n2,hL2⟩ X hX;refine gI (hC2.qH ?_);have hsl:st2.len=zs2.length:=hC2.vj.len;apply eH<;>intro hc;rotate_left;have hc:=zB hc;have e0:zs2=[]:=length_eq_zero_iff.1 oJ;refine⟨?_,f2,st2,SB2,zs2,hC2,n2⟩;rcases hL2 with h|⟨hh,T,ht,_,_⟩;exact h.2
  have:=ht.path.len
  rw[e0] at this;simp at this;have hc:=zC hc;have hne:zs2≠[]:=fun e=>by rw[e] at hsl;simp at hsl;omega
  rcases hL2 with ⟨h,_⟩|⟨hh,T,ht,hLT,hnd⟩;exact absurd (map_eq_nil_iff.1 h) hne;have htop:∃(lo:List k6) (x9:gu) (i:Int),zs2.map (·.2)=lo++[(eh x9,i)]/\((pK down hh (zs2.map (·.2))/\¬(0<=i/\i<x9.length))\/∃j:Nat,i=j/\∃hj:j<x9.length,∃T',T=x9[j]::T'/\mj D M k v frm to down hh (lo++[(eh x9,kE down i)]) T'):=by rcases ht.told with hd|⟨x9,j,lo,hj,T',e1,e2,e3⟩;obtain⟨lo,x9,i,e,hi⟩:=hd.sH;exact⟨lo,x9,i,e,.inl ⟨hd,hi⟩⟩;exact⟨lo,x9,j,e1,.inr ⟨j,rfl,hj,T',e2,e3⟩⟩
  obtain⟨lo,x9,i,ez,hcase⟩:=htop;obtain⟨zlo,zr,rfl,rfl,ezr⟩:=map_eq_append_iff.1 ez;obtain⟨⟨zx,zf⟩,rfl,ezf⟩:=map_eq_singleton_iff.1 ezr;have ezf:zf=(eh x9,i):=ezf;subst ezf;have hfew:=hC2.BL;rw[zF,xM] at hfew;have hD2:=hC2.drew;refine gI (hD2.qH ?_);refine gI (hD2.qH ?_);refine quI hD2.vj oJ fun b hB=>?_;subst hB;have hE2:=hD2.drew;have hny:=hE2.nodes (zx,eh x9,i) oL;have hkl:(eh x9).J3.length=x9.length:=zK ..;have hkl2:x9.length<=498:=(by rw[<- hkl];exact (wo hny.2).1);obtain⟨hzl,hNB,⟨pk,hpk,hpke⟩,⟨pv,hpv,hpve⟩,_⟩:=hny.1;dsimp only at hzl hpk hpke hpv hpve;have hpkl:pk.length=x9.length:=(by rw[<- hkl,<- hpke,zK]);have hpvl:pv.length=x9.length:=by have:(eh x9).J7.length=x9.length:=zK ..;rw[<- this,<- hpve,zK]
  refine iQ (fun q w'=>q=decide (0<=i/\i<x9.length)/\w'=w2.drew.drew) ?_ ?_;refine hE2.li (c:=.bool) (j:=0) oM zx.1 rfl<|cond_true hzl<|hE2.li (c:=.i) (j:=4) oM i rfl ?_;apply eH<;>intro h;have h:=zC h;exact hE2.li (c:=.i) (j:=4) oM i rfl<|hE2.li (c:=.slice) (j:=1) oM zx.2.1 rfl<|⟨decide_eq_decide.2 (by rw[hpk.len,hpkl];omega),rfl⟩;have h:=zB h;exact⟨(zU fun g=>h g.1).symm,rfl⟩;rintro q w3 ⟨rfl,rfl⟩;have hpth:=ht.path;apply eH<;>intro h;rotate_left;have h:=zB h;have hd:pK down hh ((zlo++[(zx,eh x9,i)]).map (·.2)):=by rcases hcase with hd|⟨j,rfl,hj,_⟩;exact hd.1;exact absurd ⟨oJ,oJ⟩ h
  have hn1:n≠0:=fun e=>hnd e hd;refine qwu hpth hE2 fun w4 st4 SB4 zs4 hC4 hz4 f4 n4=>?_;have f14:Fr (cb::SB) w1 w4:=f2.j6 ((Fr.refl _ w2).drew.drew.trans f4) fun b' hb=>by rcases zG.1 hb with rfl|hb;exact .inl oL;exact (n2 b' hb).imp (fun h=>by simp[h]) id
  have n14:∀b'∈SB4,b'∈SB\/w1.heap.size<=b':=fun b' hb=>by rcases n4 b' hb with h|h;exact n2 b' h;exact .inr (zL f2.size h)
  refine hX 0 _ w4 ⟨f14,st4,SB4,zs4,hC4,n14,?_⟩ (by show 0<n;omega);rcases ht.next hd with ⟨e2,rfl⟩|⟨fs',e2,e3,e4⟩
  rw[e2] at hz4;exact .inl ⟨hz4,hLT⟩;rw[e2] at hz4;have hz4:zs4.map (·.2)=fs':=hz4;rw[hz4];exact .inr ⟨hh,T,e3,hLT,fun _=>e4⟩;have h:=zC h;obtain⟨j,rfl,hj,T',hT,ht'⟩:∃j:Nat,i=j/\∃hj:j<x9.length,∃T',T=x9[j]::T'/\mj D M k v frm to down hh (zlo.map (·.2)++[(eh x9,kE down i)]) T':=by rcases hcase with hd|hd;exact absurd h hd.2;exact hd
  have hG2:=hE2.drew;refine hG2.li (c:=.slice) (j:=1) oM zx.2.1 rfl<|hG2.li (c:=.i) (j:=4) oM (j:Int) rfl ?_;have hjk:j<pk.length:=oJ;have hjv:j<pv.length:=oJ;refine jO.get (hpk.q7 (Fr.refl [] _).drew) j rfl hjk<|hG2.li (c:=.slice) (j:=2) oM zx.2.2.1 rfl<|hG2.li (c:=.i) (j:=4) oM (j:Int) rfl<|jO.get (hpv.q7 (Fr.refl [] _).drew) j rfl hjv ?_;have hH2:=hG2.drew;obtain⟨sf,sto,Tc,hcc⟩:=hH2.at
  refine gI (qI (c:=.any) (nc cb down) (kj hcc) ?_);refine hH2.li (c:=.i) (j:=4) oM (j:Int) rfl<|qxW oJ<|hH2.wR fun w5 hC5 f5=>?_;have f15:Fr (cb::SB) w1 w5:=f2.j6 ((Fr.refl _ w2).drew.drew.drew.drew.trans f5) fun b' hb=>by rw[zE.1 hb];exact (n2 b oL).imp (fun h=>by simp[h]) id
  obtain⟨sf,sto,Tc,hcc⟩:=hC5.at
  refine gI (qI (c:=.any) (pi cb down) (kj hcc) ?_);have f5':Fr (cb::([b]++(r::Y))) w2.drew.drew w5:=(Fr.refl _ w2.drew.drew).drew.drew.trans (f5.mono fun x hx _=>by rw[zE.1 hx];simp);have hks:eF (cb::([b]++(r::Y))) w5 pk[j].1 pk[j].2:=(hpk.2 _ (zX hjk)).q8 f5' fun x hx=>.inl hx;have hvs:eF (cb::([b]++(r::Y))) w5 pv[j].1 pv[j].2:=(hpv.2 _ (zX hjv)).q8 f5' fun x hx=>.inl hx;have ek:pk[j].2=x9[j].1:=by
   have:=congrArg (·[j]?) hpke
   dsimp only [eh] at this;rw[zQ,zQ,zA hjk,zA hj] at this;exact yO this
  have ev:pv[j].2=x9[j].2:=by
   have:=congrArg (·[j]?) hpve
   dsimp only [eh] at this;rw[zQ,zQ,zA hjv,zA hj] at this;exact yO this
  rw[ek] at hks;rw[ev] at hvs;have hkB:eS x9[j].1:=hNB.1 _ (zZ (zX hj));have hkn:x9[j].1.length=k:=hny.2.1 _ (zZ (zX hj));have hvn:x9[j].2.length=v:=hny.2.2.1 _ (zZ (zX hj));have hkv:=qy8 hny.2 rfl;refine qAl hC5 hks hkB ?_;apply eH<;>intro ho;refine⟨?_,f15,st2,[b],_,hC5,n2⟩;rw[hLT,hT,takeWhile_cons,ho];rfl;refine Ar hks oJ fun s1 B1 w6 b6 f6 n6 _ _=>Ar (hvs.q7 f6) oJ fun s2 B2 w7 b7 f7 n7 _ _=>?_;have hr7:=hfr (f15.trans ((f6.trans f7).mono fun _ h=>nomatch h));refine tk hr7 (Ad s1 s2) rfl rfl (zO rfl) fun w8 hr8 f8=>wG hr8 (s1,s2) rfl ?_;have hC7:=(hC5.q7 f6).q7 f7;have hn1:∀b'∈B1,w5.heap.size<=b':=n6;have hn2:∀b'∈B2,w5.heap.size<=b':=fun b' hb=>zL f6.size (n7 b' hb);have hz5:=f15.size;have hz1:=f1.size;have h12:∀b'∈B1,b'∉B2:=fun b' hb hm=>by have:=b6.lt b' hb;have:=n7 b' hm;omega
  have hrn:∀b'∈B1++B2,b'≠r:=fun b' hb e=>by
   rcases zD.1 hb with hb|hb
   have:=hn1 b' hb;omega
   have:=hn2 b' hb;omega
  have b8:gF w8 s1 x9[j].1 B1:=(b6.q7 f7).q8 f8 fun b' hb hm=>hrn b' (by simp[hb]) (zE.1 hm);have b9:gF w8 s2 x9[j].2 B2:=b7.q8 f8 fun b' hb hm=>hrn b' (by simp[hb]) (zE.1 hm);have hC8:gN dbk pb FD D F M k v frm to down w0 cb (B1++(B2++Y)) w8 st2 [b] (zlo++[(zx,eh x9,kE down j)]):=by have hA:gN dbk pb FD D F M k v frm to down w0 cb (B1++(B2++(r::Y))) w7 st2 [b] (zlo++[(zx,eh x9,kE down j)]):=hC5.q8 ((f6.trans f7).mono fun _ h=>nomatch h) (fun b' hb=>?_) fun b' hb=>?_;exact hA.q8 (f8.mono fun b' hb _=>by rw[zE.1 hb];simp) (fun b' hb=>.inl (by simp only[zD] at hb⊢;rcases hb with h|h|h<;>simp[h])) fun b' hb=>yD (hA.lt b' (by simp only[zD,zG] at hb⊢;rcases hb with h|h|h<;>simp[h])) f8.size;rcases zD.1 hb with h|hb;exact .inr (hn1 b' h);rcases zD.1 hb with h|hb;exact .inr (hn2 b' h);exact .inl hb;rcases zD.1 hb with h|hb;exact (b6.q7 f7).lt b' h;rcases zD.1 hb with h|hb;exact b7.lt b' h;exact hC7.lt b' (by simp only[zG,zD];exact .inr (.inr (zG.1 hb)))
  refine k1 x9[j] (T'.takeWhile fun x=>!oh down frm to x.1) (by rw[hLT,hT,takeWhile_cons,ho];rfl) s1 s2 B1 B2 w8 st2 [b] _ b8 b9 hC8 (.inr ⟨hh,T',by rw[xN];exact ht',rfl,fun e=>absurd e oM⟩) ?_ (fun b' hb=>(n2 b' hb).imp id fun h=>zL hz1 h) (fun b' hb=>zL (zL hz1 hz5) (hn1 b' hb)) (fun b' hb=>zL (zL hz1 hz5) (hn2 b' hb)) h12;refine ((f1.mono fun _ h=>nomatch h).trans (f15.trans ((f6.trans f7).mono fun _ h=>nomatch h))).j6 f8 fun b' hb=>.inr ?_;rw[zE.1 hb,e1];exact zM _
 rintro _ w2 ⟨hL0,f2,st2,SB2,zs2,hC2,n2⟩;refine gI<|hC2.uO (st':=dI) (SB':=[]) (zs':=[]) w2 (.refl _ _) (.nil _ _ _) (fun z hz=>nomatch hz) (fun b hb=>nomatch hb) (yX _) fun w3 hC3 f3=>?_;have f13:Fr (cb::SB) w1 w3:=f2.j6 f3 fun b hb=>by rcases zG.1 hb with rfl|hb;exact .inl oL;exact (n2 b hb).imp (fun h=>by simp[h]) id
 refine tk (hfr f13) (Ad dI dI) rfl rfl (zO rfl) fun w4 hr4 f4=>wG hr4 (dI,dI) rfl<|k0 hL0 w4 (hC3.q8 (f4.mono fun b hb _=>by rw[zE.1 hb];simp) (fun b hb=>.inl (by simp[hb])) fun b hb=>yD (hC3.lt b (by simp[hb])) f4.size) (((f1.mono fun _ h=>nomatch h).trans f13).j6 f4 fun b hb=>.inr ?_);rw[zE.1 hb,e1];exact zM _
end
section
def iT (down:Bool) (frm to:Key) (L:gu):gu:=if down then (lY frm to L).reverse else lY frm to L
def qy3{frm to:Key}(G:fH L):(nt frm L).takeWhile (fun x=>!oh false frm to x.1)=lY frm to L:=by
 unfold nt;rw[G0];rw[filter_filter];unfold lY;congr 1;funext x;unfold CU oh gf
 have:=Fe x.1 to
 by_cases C:cmpL x.1 frm<0<;>by_cases u:cmpL x.1 to>0<;>simp[C,u]<;>omega;refine ((pairwise_map.1 G).filter _).imp ?_;intro a b E h;unfold oh at h⊢;simp only[Bool.false_eq_true,if_false,zT,decide_eq_false_iff_not] at h⊢;intro I;have C:gf to a.1:=(by unfold gf;rw[vI];omega);have u:=qu C E;unfold gf at u;rw[vI] at u;omega
def qvQ{frm to:Key}(C:fH L):(vw to L).reverse.takeWhile (fun x=>!oh true frm to x.1)=(lY frm to L).reverse:=by unfold vw;rw[G0];rw[filter_reverse,filter_filter];unfold lY;congr 2;funext x;have e:gf to x.1↔cmpL x.1 to>0:=(by unfold gf;rw[vI to x.1];omega);have E:decide (cmpL x.1 frm>=0) = !decide (cmpL x.1 frm<0):=(by rw[<- decide_not];exact decide_eq_decide.2 oJ);have G:decide (¬gf to x.1)=decide (cmpL x.1 to<=0):=decide_eq_decide.2 (by rw[e];omega);unfold CU oh;simp only[if_true];rw[E,G];rw[pairwise_reverse];refine ((pairwise_map.1 C).filter _).imp ?_;intro a b u h;unfold oh at h⊢;simp only[if_true,zT,decide_eq_false_iff_not] at h⊢;intro I;exact h (qu u I)
section
variable {dbk pb:Nat} {FD F:List Nat} {D:dM} {M:eQ} {k v:Nat} {frm to:Key} {down:Bool} {w0 w wA:World} {cb:Nat} {Y SB:List Nat} {st:Sl} {zs:List rS}
def gF.cU{w:World}{l:List Int}(h:gF w s l B)(u:∀b∈B,b∉S):eF S w s l:=h.kF lZ u
def qyd{t:Int}{sf sto:Sl}{K:Option Addr->WP}(hT:TW dbk pb FD D 5000 w Y F M)(hs:ue t=((k:Int),(v:Int)))(hL:(k=0/\L=[])\/(k≠0/\gQ D M k v t L P))(hLl:L.length<=90000)(hf:eF S w sf frm)(ht:eF S w sto to)(hfl:frm.length<=1000000)(htl:to.length<=1000000)(hfB:eS frm)(htB:eS to)(kk:∀cb w' st SB zs,gN dbk pb FD D F M k v frm to down w cb Y w' st SB zs->Left D M k v frm to down 1 (zs.map (·.2)) (iT down frm to L)->Fr [] w w'->K (pW cb) w'): cW 78 [dH pb,.i t,sf.v,sto.v,.bool down] dr w K:=by
 refine qnX (p:=pW pb) (t:=t) (from_:=sf) (to:=sto) (down:=down)<|qrE ?_;rw[hs];refine Ar hf hfl fun s1 B1 w1 b1 f1 n1 _ _=>Ar (ht.q7 f1) htl fun s2 B2 w2 b2 f2 n2 _ _=>oB (oE [] w2) fun cb w3 e3 f3 h=>?_;have hnf:(#[dH pb,.i (k:Int),.i (v:Int),s1.v,s2.v,.slice none 0 0,.nilFunc,.nilFunc,.nilFunc]:Array Value)=(qx.cells ⟨pb,k,v,s1,s2,dI,.nilFunc,.nilFunc,.nilFunc⟩):=rfl;refine oD h 0 rfl (qx.cells ⟨pb,k,v,s1,s2,dI,nc cb false,.nilFunc,.nilFunc⟩) fun w4 h f4=>oD h 0 rfl (qx.cells ⟨pb,k,v,s1,s2,dI,nc cb false,nG cb false,.nilFunc⟩) fun w5 h f5=>oD h 0 rfl (qx.cells ⟨pb,k,v,s1,s2,dI,nc cb false,nG cb false,pi cb false⟩) fun w6 h f6=>iQ (fun _ w'=>∃T,dR [] w2 w' [(cb,.cells (qx.cells ⟨pb,k,v,s1,s2,dI,nc cb down,nG cb down,pi cb down⟩) T (0,0))]) ?_ ?_;cases down with
 | false=>exact cond_false rfl ⟨_,h⟩
 | true=>
  exact cond_true rfl<|oD h 0 rfl (qx.cells ⟨pb,k,v,s1,s2,dI,nc cb true,nG cb false,pi cb false⟩) fun w7 h f7=>oD h 0 rfl (qx.cells ⟨pb,k,v,s1,s2,dI,nc cb true,nG cb true,pi cb false⟩) fun w8 h f8=>oD h 0 rfl (qx.cells ⟨pb,k,v,s1,s2,dI,nc cb true,nG cb true,pi cb true⟩) fun w9 h f9=>⟨_,h⟩
 rintro _ w7 ⟨T,h⟩;have f07:Fr [] w w7:=(f1.trans f2).trans h.fr;have hcl:=fJ (h.at (i:=0) rfl);dsimp only at hcl;have hz1:=f1.size;have hz2:=f2.size;have hT7:=hT.q7 f07;have hylt:=hT.sG;have hcw:w.heap.size<=cb:=oJ;have hC:gN dbk pb FD D F M k v frm to down w cb Y w7 dI [] []:=by
  refine⟨⟨s1,s2,⟨T,h.at (i:=0) rfl⟩,gF.cU ((b1.q7 f2).q7 h.fr) (fun b hb hm=>?_),gF.cU (b2.q7 h.fr) (fun b hb hm=>?_)⟩,?_,.nil _ _ _,(fun z hz=>nomatch hz),(fun h=>nomatch h),(fun hm=>?_),(fun b hb=>nomatch hb),(fun b hb=>?_),hfB,htB,yX _⟩
  have:=b1.lt b hb;have:=n1 b hb
  rcases zG.1 hm with rfl|hm;omega
  have:=hylt b (oP hm);omega
  have:=b2.lt b hb;have:=n2 b hb
  rcases zG.1 hm with rfl|hm;omega
  have:=hylt b (oP hm);omega
  exact hT.CI (B:=[cb]) (f07.mono fun _ h=>nomatch h) fun b hb=>by rw[zE.1 hb];exact⟨hcw,hcl⟩
  have:=hylt cb hm;omega
  rw[zE.1 hb];exact hcw
 refine iQ (fun _ w'=>∃st SB zs,gN dbk pb FD D F M k v frm to down w cb Y w' st SB zs/\Left D M k v frm to down 1 (zs.map (·.2)) (iT down frm to L)/\Fr [] w w') ?_ ?_;refine TW.J2 hT7 fun w8 f8=>?_;have hC8:=hC.q7 f8;refine iQ (fun q w'=>q=decide (0<k/\(eE M t).1≠0)/\w'=w8) ?_ ?_;refine eH (fun h=>⟨?_,rfl⟩) (fun h=>⟨?_,rfl⟩);have h:=zC h;rw[Bool.eq_iff_iff,yN,zT,zR];exact⟨fun g=>⟨oJ,g⟩,fun g=>g.2⟩;have h:=zB h;exact (zU fun g=>h oJ).symm;rintro q w9 ⟨rfl,rfl⟩;have h0:L=[]->Left D M k v frm to down 1 ([]:List k6) (iT down frm to L):=fun e=>.inl ⟨rfl,by rw[e];unfold iT lY;simp⟩;apply eH<;>intro hq;obtain⟨hk,hr⟩:=zC hq;obtain⟨_,hTr⟩:k≠0/\gQ D M k v t L P:=hL.resolve_left fun h=>by omega
 have hrh:=(qo0 hTr).1;rcases hTr with ⟨e,_,_⟩|⟨hh,n,p,hp,e,hHas⟩;rw[e] at hr;exact absurd rfl hr;have hrh2:hh+1<=L.length:=by rw[e] at hrh;exact hrh
 have hpu:iy p:=by
  have:=(D3 hT.wf t).1
  rw[e] at this;exact this
 rw[e];refine qp0 (s:=⟨p,n,L,P⟩) hHas hpu hC8 (by show 0+hh+1<=100000;omega) fun w10 st10 SB10 zs10 hC10 hp10 f10 n10=>⟨st10,SB10,zs10,hC10,?_,(f07.trans f8).j6 f10 fun b hb=>.inr ?_⟩;obtain⟨fs,e1,e2⟩:=qvN (frm:=frm) (to:=to) (down:=down) hHas;rw[hp10] at e1;have e1:=yO e1;rw[e1];refine .inr ⟨hh,_,e2,?_,fun e=>absurd e oM⟩;have hso:=hHas.sort;unfold iT;cases down with
 | false=>exact (qy3 hso).symm
 | true=>exact (qvQ hso).symm
 rw[zE.1 hb];exact hcw;have hq:=zB hq;have hLn:L=[]:=by rcases hL with h|⟨hk,hTr⟩;exact h.2;rcases hTr with ⟨_,h,_⟩|⟨hh,n,p,hp,e,hHas⟩;exact h;exact absurd ⟨oJ,by rw[e];exact hp⟩ hq
 exact⟨dI,[],[],hC8,h0 hLn,f07.trans f8⟩;rintro _ w8 ⟨st8,SB8,zs8,hC8,hL8,f8⟩;exact kk cb w8 st8 SB8 zs8 hC8 hL8 f8
end
end
section
abbrev SS:=Sl×Sl
def np (x:SS):List Value:=[x.1.v,x.2.v]
def qp9:∀z,(np z).length=2:=fun _=>rfl
def qwI(z:SS):∀u∈np z,u.oneCell'=true:=fun u h=>by unfold np at h;simp only[zG,xX,or_false] at h;rcases h with rfl|rfl<;>rfl
def qAT:∃i,prog.info? CH=some i/\i.zero=some (.agg c7)/\i.size=2/\i.bytes=48:=uj oK
def qA8{zs:List SS}{SB:List Nat}{x:SS}(h:eZ np 2 w s zs SB)(O:zs.length<=1000000)(G:∀E B' w',eZ np 2 w' E (zs++[x]) B'->Fr SB w w'->(∀b∈B',b∈SB\/w.heap.size<=b)->K E w'): Pt.new (.cells (Ad x.1 x.2) CH) w fun r w1=>Pt.run dd ((Builtin.append_ #[99,99] 99 #[s.v,.slice (pW r) 1 1]).run prog w1) K:=by obtain⟨j,I,J,u,C⟩:=qAT;exact eZ.push (e:=CH) (x:=x) h qp9 (qwI _) oK I J u rfl rfl (by rw[C];omega) oJ G
def qn (w:World) (h:List Nat) (ps:List (SS×(Key×Key))):Prop:=∀p∈ps,∃u C,gF w p.1.1 p.2.1 u/\gF w p.1.2 p.2.2 C/\(∀b∈u,b∈h)/\∀b∈C,b∈h
def qn.q8{w w':World}{S E C:List Nat}{ps:List (SS×(Key×Key))}(h:qn w E ps)(f:Fr S w w')(G:∀b∈E,b∉S)(I:∀b∈E,b∈C):qn w' C ps:=fun p Q=>by obtain⟨R,U,V,h2,J,O⟩:=h p Q;exact⟨R,U,V.q8 f fun b u=>G b (J b u),h2.q8 f fun b u=>G b (O b u),fun b u=>I b (J b u),fun b u=>I b (O b u)⟩
section
variable {dbk pb:Nat} {FD F:List Nat} {D:dM} {M:eQ} {k v:Nat} {frm to:Key} {down:Bool} {w0 w wA:World} {cb:Nat} {Y SB:List Nat} {st:Sl} {zs:List rS}
def qv8{t:Int}{sf ag:Sl}(hT:TW dbk pb FD D 5000 w [] F M)(hs:ue t=((k:Int),(v:Int)))(hL:(k=0/\L=[])\/(k≠0/\gQ D M k v t L P))(au:L.length<=90000)(hf:eF S w sf frm)(ht:eF S w ag to)(av:frm.length<=1000000)(aw:to.length<=1000000)(ax:eS frm)(ay:eS to)(kk:∀s w' B C ps,eZ np 2 w' s (ps.map (·.1)) B->qn w' C ps->(∀b∈C,b∉B)->ps.map (·.2)=(iT down frm to L).take most.toNat->Fr [] w w'->(∀b∈B,w.heap.size<=b)->(∀b∈C,w.heap.size<=b)->K s w'): cW 37 [dH pb,.i t,sf.v,ag.v,.bool down,.i most] dd w K:=by
 refine qpe<|qyd hT hs hL au hf ht av aw ax ay fun cb w1 st SB zs ah az f1=>?_;have a4:(iT down frm to L).length<=90000:=by have U:(lY frm to L).length<=L.length:=length_filter_le _ _;unfold iT;split;rw[length_reverse];omega;omega
 have a5:∀b∈cb::SB,w.heap.size<=b:=ah.new;refine iQ (fun s w'=>∃B C ps,eZ np 2 w' s (ps.map (·.1)) B/\qn w' C ps/\(∀b∈C,b∉B)/\ps.map (·.2)=(iT down frm to L).take most.toNat/\Fr [] w w'/\(∀b∈B,w.heap.size<=b)/\(∀b∈C,w.heap.size<=b)) ?_ ?_
 ·refine Dn (fun (i:Nat) s w'=>∃B C ps st SB zs,i<=(iT down frm to L).length/\eZ np 2 w' s (ps.map (·.1)) B/\qn w' C ps/\(∀b∈C,b∉B)/\ps.map (·.2)=(iT down frm to L).take i/\(most.toNat<i->i=0)/\Fr [] w w'/\(∀b∈B,w.heap.size<=b)/\(∀b∈C,w.heap.size<=b)/\gN dbk pb FD D F M k v frm to down w cb (B++C) w' st SB zs/\Left D M k v frm to down 1 (zs.map (·.2)) ((iT down frm to L).drop i)) (fun i=>(iT down frm to L).length+1-i) 0 ⟨[],[],[],st,SB,zs,yX _,.nil _ _ _,(fun p hp=>nomatch hp),(fun b u=>nomatch u),rfl,fun _=>rfl,f1,(fun b u=>nomatch u),(fun b u=>nomatch u),ah,by rw[xF];exact az⟩ ?_;rintro i s w2 ⟨B,C,ps,a6,ab,a7,hi,u,hR,hd,O,aC,f2,n2,n3,G,aE⟩ X hX;have a9:s.len=i:=by
   rw[u.len,zK]
   have:=congrArg List.length O
   rw[zK,yL] at this;omega
  apply eH<;>intro hc;rotate_left;have hc:=zB hc;refine⟨B,C,ps,u,hR,hd,?_,f2,n2,n3⟩;rw[O];by_cases h0:most.toNat<i
  have:=aC h0;omega
  have:most.toNat=i:=oJ;rw[this];have hc:=zC hc;have a':i<most.toNat:=oJ;have ba:=G.lt;refine qv9 G aE (fun aF w3 ac f3=>?_) (fun x L' Q ks vs B1 B2 w3 aG aH aI hk hv ac aJ f3 n4 n5 n6 aU=>?_);refine oB (oE [] w3) fun r w4 e4 f4 h=>oD h 0 rfl (Ad dI dI) fun w5 h f5=>cond_true rfl ?_;have ad:Fr (cb::ab) w2 w5:=f3.trans (h.fr.mono fun _ h=>nomatch h);have E:∀b∈B++C,b∉cb::ab:=fun b u J=>by rcases zG.1 J with rfl|J;exact G.BT u;exact G.zu b J u
  refine⟨B,C,ps,u.q8 ad fun b u=>E b (by simp[u]),hR.q8 ad (fun b u=>E b (by simp[u])) fun b u=>u,hd,?_,f2.j6 ad fun b u=>.inr (G.new b u),n2,n3⟩;rw[O];have I:(iT down frm to L).length<=i:=by
   have:=congrArg List.length aF
   rw[yC,xK] at this;omega
  rw[zS I,zS oJ];have I:i<(iT down frm to L).length:=by
   have:=congrArg List.length Q
   rw[yC,yI] at this;omega
  have hx:(iT down frm to L).take (i+1)=(iT down frm to L).take i++[x]:=(by rw[yG I];rw[zY I] at Q;rw[(vC Q).1]);have ae:(iT down frm to L).drop (i+1)=L':=(by rw[zY I] at Q;exact (vC Q).2);have E:∀b∈B++C,b∉cb::ab:=fun b u J=>by rcases zG.1 J with rfl|J;exact G.BT u;exact G.zu b J u
  have aL:eZ np 2 w3 s (ps.map (·.1)) B:=u.q8 f3 fun b u=>E b (by simp[u]);have aM:qn w3 (B1++(B2++C)) (ps++[((ks,vs),x)]):=fun p hp=>by rcases zD.1 hp with hp|hp;exact hR.q8 f3 (fun b u=>E b (by simp[u])) (fun b u=>by simp[u]) p hp;rw[zE.1 hp];exact⟨B1,B2,hk,hv,fun b u=>by simp[u],fun b u=>by simp[u]⟩
  have an:∀b∈B1++(B2++C),b∉B:=fun b R J=>by
   have:=u.lt b J
   rcases zD.1 R with h|R
   have:=n5 b h;omega
   rcases zD.1 R with h|R
   have:=n6 b h;omega
   exact hd b R J
  refine oB (oE [] w3) fun r w4 e4 f4 h=>oD h 0 rfl (Ad ks vs) fun w5 h f5=>cond_false rfl<|oC h 0 rfl (ks,vs) rfl ?_;have aN:=ac.q7 h.fr;refine qA8 (x:=(ks,vs)) (aL.q7 h.fr) (by rw[zK];have:=congrArg List.length O;rw[zK,yL] at this;omega) fun s6 B6 w6 b6 f6 n7=>?_;have ao:=ac.lt;have V:∀b∈B1++(B2++C),b<w5.heap.size:=fun b u=>yD (ao b (by simp only[zD,zG] at u⊢;rcases u with h|h|h<;>simp[h])) h.fr.size;have aP:Fr [] w w6:=by refine (f2.j6 f3 fun b u=>.inr (G.new b u)).trans (h.fr) |>.j6 f6 fun b u=>.inr (n2 b u)
  have hz:=(f2.j6 f3 fun b u=>.inr (G.new b u)).size;refine hX (i+1) s6 w6 ⟨B6,B1++(B2++C),ps++[((ks,vs),x)],aG,aH,aI,I,by rw[xN];exact b6,(aM.q8 h.fr (fun _ _ h=>nomatch h) fun b u=>u).q8 f6 an fun b u=>u,fun b u J=>?_,by rw[xN,O,hx];rfl,fun h=>oJ,aP,fun b u=>?_,fun b u=>?_,aN.q8 (f6.mono fun b u _=>by simp[u]) (fun b u=>?_) (fun b u=>?_),by rw[ae];exact aJ⟩ ?_;rcases n7 b J with U|U;exact an b u U
  have:=V b u;omega
  rcases n7 b u with U|U;exact n2 b U
  have:=h.fr.size;omega
  have ap:=f2.size;rcases zD.1 u with h|u;exact zL ap (n5 b h);rcases zD.1 u with h|u;exact zL ap (n6 b h);exact n3 b u;rcases zD.1 u with u|u;exact (n7 b u).imp (fun h=>by simp[h]) id;exact .inl (by simp only[zD] at u⊢;rcases u with h|h|h<;>simp[h]);rcases zD.1 u with u|u;exact b6.lt b u;exact yD (V b u) f6.size;show _+1-(i+1)<_+1-i;omega
 rintro s w2 ⟨B,C,ps,U,h2,h3,h4,h5,h6,h7⟩;exact kk s w2 B C ps U h2 h3 h4 h5 h6 h7
end
end
section
def qBF{frm to:Key}{x:Key×Key}:CU frm to x=true↔¬gf x.1 frm/\¬gf to x.1:=by unfold CU;rw[yB,yN,yN];have h:cmpL x.1 frm>=0↔¬gf x.1 frm:=(by unfold gf;omega);have u:cmpL x.1 to<=0↔¬gf to x.1:=(by unfold gf;rw[vI x.1 to];omega);rw[h,u]
def qyr(l:List Int):¬cmpL l l<0:=sq
def qBh{x y:List Int}{m:Int}(u:mu n)(C:mu m)(E:x.length=y.length):gf (x++bw 8 n) (y++bw 8 m)↔gf x y\/x=y/\n<m:=by unfold gf;rw[qt8 E];by_cases e:x=y;rw[if_pos e,qwr u C,e];exact⟨fun h=>.inr ⟨rfl,h⟩,fun h=>h.elim (fun h=>absurd h (qyr y)) fun h=>h.2⟩;rw[if_neg e];exact⟨.inl,fun h=>h.elim id fun h=>absurd h.1 e⟩
def quL{a b c d:Int}(u:mu a)(E:mu b)(C:mu c)(G:mu d):gf (lr a b) (lr c d)↔a<c\/a=c/\b<d:=by unfold lr;rw[qBh E G (by rw[lF,lF]),show gf (bw 8 a) (bw 8 c)↔a<c from qwr u C];exact⟨fun h=>h.imp id fun h=>⟨Eb (by rw[p8];exact u) (by rw[p8];exact C) h.1,h.2⟩,fun h=>h.imp id fun h=>⟨by rw[h.1],h.2⟩⟩
def rB (l:List (HL ib)):Prop:=l.Pairwise fun a b=>mG a b=true
def xf (d:HL ib):Key×Key:=(lr d.1 d.2.1,iA (mP d))
def qyy{a b:HL ib}(h:ee ib a)(u:ee ib b):gf (xf a).1 (xf b).1↔mG a b=true:=by unfold mG;rw[yN];exact quL (pj h.1) (pj h.2.1) (pj u.1) (pj u.2.1)
def mf.eqs{α κ:Type}{K:pg α κ}{l:List α}{f:α->Key×Key}(h:mf K L l)(u:∀a,f a=(K.g (K.key a),K.val a))(C:l.Pairwise fun a b=>gf (f a).1 (f b).1):L=l.map f:=by
 refine List.Perm.eq_of_pairwise (le:=fun x y=>gf x.1 y.1) (fun a b _ _ E G=>absurd G (uq E)) ?_ ?_ ?_
 have:=h.1.sort
 unfold fH gg dU at this;exact pairwise_map.1 this;exact pairwise_map.2 C;rw[show f=fun a=>(K.g (K.key a),K.val a) from funext u];exact h.1.perm
def ie (l:List (HL ib)) (j8 most:Int):List (HL ib):=(l.filter fun d=>decide (d.1<=j8)).take most.toNat
def qwE{j8:Int}(h:mf uW L l)(G:rB l)(I:mu j8):(iT false [] (lr j8 18446744073709551615) L).take most.toNat=(ie l j8 most).map xf:=by
 have e:L=l.map xf:=h.eqs (fun _=>rfl) (List.Pairwise.imp_of_mem (fun {a b} J O u=>(qyy (h.2 a J) (h.2 b O)).2 u) G);unfold iT lY ie;rw[if_neg oM,e,filter_map,xP];congr 2;refine filter_congr fun d Q=>?_;have E:=h.2 d Q;have u:=pj E.1;have C:=pj E.2.1;rw[Bool.eq_iff_iff,Function.comp,qBF,yN];have R:¬gf (xf d).1 []:=by
  unfold xf lr gf;have:bw 8 d.1≠[]:=fun e=>by have:=congrArg List.length e;rw[lF] at this;cases this
  cases U:bw 8 d.1 with
  | nil=>exact absurd U this
  | cons x r=>exact (by decide:¬(1:Int)<0)
 have V:gf (lr j8 18446744073709551615) (xf d).1↔j8<d.1\/j8=d.1/\18446744073709551615<d.2.1:=quL I ⟨oM,oM⟩ u C;rw[V];have key:∀a e:Int,mu e->(¬(j8<a\/j8=a/\18446744073709551615<e)↔a<=j8):=fun a e h=>by omega
 exact⟨fun h=>(key _ _ C).1 h.2,fun h=>⟨R,(key _ _ C).2 h⟩⟩
abbrev Da:TypeId:=53
abbrev iB:HL ib->List Value:=HL.mk ib
def Bp(d:HL ib):(iB d).length=4:=rfl
def qAO:∃i,prog.info? Da=some i/\i.zero=some (.agg cY)/\i.size=4/\i.bytes=32:=uj oK
def qwG(d:HL ib):∀u∈iB d,u.oneCell'=true:=fun u h=>by obtain⟨a,b,c,e⟩:=d;rcases zG.1 h with rfl|h;rfl;rcases zG.1 h with rfl|h;rfl;rcases zG.1 h with rfl|h;rfl;rw[zE.1 h];rfl
def AN{x:HL ib}(h:eZ iB 4 w s l B)(O:l.length<=1000000)(G:∀E B' w',eZ iB 4 w' E (l++[x]) B'->Fr B w w'->(∀b∈B',b∈B\/w.heap.size<=b)->K E w'): Pt.new (.cells (HL.mk ib x).toArray Da) w fun r w1=>Pt.run dd ((Builtin.append_ #[31,31] 31 #[s.v,.slice (pW r) 1 1]).run prog w1) K:=by obtain⟨j,I,J,u,C⟩:=qAO;exact eZ.push (e:=Da) (x:=x) h Bp (qwG x) oK I J u rfl rfl (by rw[C];omega) oJ G
section
variable {w w' w1:World} {Y F F':List Nat} {sb pb c:Nat} {b b':Bk}
def HZ{j8:Int}(h:SB w Y sb F c b)(hn:IntKind.u64.has j8)(hd:rB b.due)(hl:b.size<=90000)(kk:∀s B w',eZ iB 4 w' s (ie b.due j8 most) B->Fr [] w w'->(∀x∈B,w.heap.size<=x)->(∀d∈b.due,ee ib d)->K s w'): cW 12 [dH sb,.int .u64 j8,.i most] dd w K:=by
 refine qlf ?_;obtain⟨pb,h⟩:=h;have g:=(Fr.refl [] w).drew;refine h.uN g (qtT fun s1 w1 h1 f1=>iM (h.held (g.trans f1)) ?_);obtain⟨dbk,FD,D,M,Fo,hS,hb,hc⟩:=h;have C:=hb.due;have ax:=C.len;have ab:=(hS.q7 g).q7 f1;have hz:b.due.length<=b.size:=(by unfold Bk.size;omega);refine qv8 (S:=[]) (k:=16) (v:=16) (frm:=[]) (L:=(Fo 3).1) (P:=(Fo 3).2) (ab.tw.x8 fun _ h=>nomatch h) rfl (.inr ⟨oM,hS.st.j8.j9 3 oM⟩) oJ (.nil _ _ _ _) h1.rd (yX _) (by rw[Az];decide) (fun _ h=>nomatch h) (qs5 _ _) fun s2 w2 B KB ps hB hR _ E f2 nB _=>?_;rw[qwE C hd (pj hn)] at E;have ac:ps.length=(ie b.due j8 most).length:=(by have:=congrArg List.length E;simpa using this);have aA:(ie b.due j8 most).length<=b.due.length:=(by unfold ie;rw[yL];exact zL (Nat.min_le_right _ _) (length_filter_le _ _));have aB:s2.len=ps.length:=(by rw[hB.len,zK]);have ad:dX np 2 [] w2 s2 (ps.map (·.1)):=hB.kF qp9 fun _ _ h=>nomatch h;refine jT (fun q w'=>∃i:Nat,∃B',q.2=i/\i<=ps.length/\eZ iB 4 w' q.1 ((ie b.due j8 most).take i) B'/\Fr [] w2 w'/\∀x∈B',w2.heap.size<=x) (fun q _=>ps.length-q.2.toNat) ⟨0,[],rfl,yX _,eZ.nil _ _ _,.refl _ _,fun _ h=>nomatch h⟩ ?_;rintro⟨s3,q⟩ w3 ⟨i,B3,hq,hi,U,J,n3⟩ X hX;dsimp only at hq U⊢;subst hq;apply cD<;>intro G;have u:i<ps.length:=oJ;have I:i<(ie b.due j8 most).length:=oJ;have O:ps[i].2=xf (ie b.due j8 most)[i]:=by
  have:=congrArg (·[i]?) E
  simp only[zQ,zA u,zA I,Option.map_some] at this;exact yO this
 generalize Q:(ie b.due j8 most)[i]=d at O;have hm:d∈b.due:=(by rw[<- Q];exact (mem_filter.1 (yV (zX I))).1);have V:=C.2 d hm;obtain⟨B1,B2,k1,k2,_,_⟩:=hR ps[i] (zX u);rw[O] at k1 k2;have af:eF [] w2 ps[i].1.1 (lr d.1 d.2.1):=k1.kF lZ fun _ _ h=>nomatch h;have ag:eF [] w2 ps[i].1.2 (iA (mP d)):=k2.kF lZ fun _ _ h=>nomatch h;refine iQ (fun q w'=>∃B',eZ iB 4 w' q ((ie b.due j8 most).take (i+1)) B'/\Fr [] w2 w'/\∀x∈B',w2.heap.size<=x) ?_ fun s4 w4 ⟨B4,b4,f4,n4⟩=>hX _ _ ⟨i+1,B4,by dsimp only;rw[gd _ oJ];rfl,u,b4,f4,n4⟩ (by dsimp only;rw[gd _ oJ];omega);refine dX.oT (x:=ps[i].1) (y:=ps[i].1) (ad.q7 J) i rfl (by rw[zQ,zA u];rfl) rfl rfl<|oB (oE [] w3) fun r4 w4 _ f4 o=>o.st' 0 rfl _ (iI rfl) rfl (zM _) fun w5 o _=>oA o 0 rfl ps[i].1.1 rfl (oA o 0 rfl ps[i].1.2 rfl ?_);have f5:=J.trans o.fr;refine quZ (x:=mP d) (af.q7 f5) (ag.q7 f5) (pj V.1) (pj V.2.1) ⟨pj V.2.2.1,pj V.2.2.2⟩ fun w6 f6=>oB (o.q7 f6) fun r7 w7 _ f7 o=>o.st' 0 rfl _ (iI rfl) rfl (zM _) fun w8 o _=>cond_true rfl (oC o 0 rfl d rfl ?_);refine AN (U.q7 o.fr) (by rw[yL];omega) fun s9 B9 w9 b9 f9 n9=>⟨B9,?_,(J.trans o.fr).j6 f9 fun x R=>.inr (n3 x R),fun x R=>(n9 x R).elim (n3 x) fun h=>zL (J.trans o.fr).size h⟩;rw[yG I,Q];exact b9;have u:i=ps.length:=oJ;subst u;rw[ac,xZ] at U;have f:=(g.trans f1).trans f2;exact kk s3 B3 w3 U (f.trans J) (fun x R=>zL f.size (n3 x R)) C.2
end
end
section
def rW(h:mu x):IntKind.u64.has x:=show (0:Int)<=x/\x<=18446744073709551615 from⟨h.1,oJ⟩
def zv(h:0<=x/\x<65536):IntKind.u16.has x:=show (0:Int)<=x/\x<=65535 from⟨h.1,oJ⟩
def qi:IntKind.u64.has 0:=rW ⟨oM,oM⟩
def AP:ee fq kN:=⟨qi,qi,qi,qi,qi,qi,qi,qi,qi,qi,qi,show (0:Int)<=0/\(0:Int)<=4294967295 from⟨oM,oM⟩,zv ⟨oM,oM⟩,zv ⟨oM,oM⟩,qi⟩
def HC{x:gp}(u:my x)(h:ee fq a):ee fq (kJ x a):=⟨h.1,h.2.1,rW u.1,rW u.2,h.2.2.2.2⟩
def Ff{x:gp}(u:my x)(h:ee fq a):ee fq (kR x a):=⟨h.1,h.2.1,h.2.2.1,h.2.2.2.1,h.2.2.2.2.1,h.2.2.2.2.2.1,rW u.1,rW u.2,h.2.2.2.2.2.2.2.2⟩
def Dq(u:0<=x/\x<65536)(h:ee fq a):ee fq (jZ x a):=⟨h.1,h.2.1,h.2.2.1,h.2.2.2.1,h.2.2.2.2.1,h.2.2.2.2.2.1,h.2.2.2.2.2.2.1,h.2.2.2.2.2.2.2.1,h.2.2.2.2.2.2.2.2.1,h.2.2.2.2.2.2.2.2.2.1,h.2.2.2.2.2.2.2.2.2.2.1,h.2.2.2.2.2.2.2.2.2.2.2.1,h.2.2.2.2.2.2.2.2.2.2.2.2.1,zv u,h.2.2.2.2.2.2.2.2.2.2.2.2.2.2⟩
def quA(h:0<=x/\x<65536):0<=mJ x 16/\mJ x 16<65536:=by
 unfold mJ;split
 ·next e=>unfold hasB at e;have:=zC e;omega
 exact h
def BM{t:HL ig}{p q:Pa}(E:ee ig t)(G:ee fq p.1)(I:ee fq p.2.1)(h:gy t p=some q):ee fq q.1/\ee fq q.2.1:=by unfold gy at h;obtain⟨x,J,h⟩:=Option.bind_eq_some_iff.1 h;obtain⟨y,O,rfl⟩:=yT.1 h;have u:=HC (DB (ut G) (rh E) J).2 G;have C:=Ff (DB (uD I) (rh E) O).2 I;constructor;dsimp only;split;exact Dq (quA (ui u)) u;exact u;dsimp only;split;exact Dq (quA (ui C)) C;exact C
def Hb.v7(h:Hb T b)(i:gp):ee fq ((eG b i).getD kN):=by
 cases u:eG b i with
 | none=>exact AP
 | some a=>exact h.acc.2 a (mem_of_find?_eq_some u)
def Hb.CN(h:Hb T b){i:gp}{k:Kp}(u:hU b i=some k):rq k/\qJ k=i:=⟨h.jR.2 k (mem_of_find?_eq_some u),by simpa using List.find?_some u⟩
def SB.hb{Y F:List Nat}{sb c:Nat}(h:SB w Y sb F c b):∃T,Hb T b:=by obtain⟨pb,dbk,FD,D,M,Fo,C,u,E⟩:=h;exact⟨_,u⟩
def gb (t:HL ig):gp:=(t.2.2.1,t.2.2.2.1)
def gc (t:HL ig):gp:=(t.2.2.2.2.1,t.2.2.2.2.2.1)
def kL (b:Bk) (d:HL ib) (n:Int):Bk:=
 let k:=(hU b (mP d)).getD uE
 ((fi b ((gy k.1 (kB b (gb k.1) (gc k.1))).getD pX) n).fK (gq k.1,4)).jB d
def yh (c:Nat) (b:Bk) (d:HL ib):Prop:=d∈b.due/\(∃k q,hU b (mP d)=some k/\gy k.1 (kB b (gb k.1) (gc k.1))=some q)/\3*(b.size+5)+1<=c
def fT:Bk->List (HL ib)->Int->Bk
 | b,[],_=>b
 | b,d::r,n=>fT (kL b d n) r ((n+1)%18446744073709551616)
def oo (c:Nat):Bk->List (HL ib)->Int->Prop
 | _,[],_=>True
 | b,d::r,n=>yh c b d/\oo c (kL b d n) r ((n+1)%18446744073709551616)
section
variable {w w' w1:World} {Y F F':List Nat} {sb pb c:Nat} {b b':Bk}
def Fz{p:Pa}:(fi b p n).size<=b.size+4:=by have h:=wS (b:=b) (a:=p.1);have u:=wS (b:=b.dQ p.1) (a:=p.2.1);have C:=Ef (b:=(b.dQ p.1).dQ p.2.1) (a:=p.1) (s:=1) (n:=n);have E:=Ef (b:=ja ((b.dQ p.1).dQ p.2.1) p.1 1 n) (a:=p.2.1) (s:=2) (n:=n);unfold fi;omega
def qnN{p:Pa}:(fi b p n).due=b.due:=by unfold fi ja;split<;>split<;>rfl
def Gk{k:Kp}{q:Pa}{C E r6 r1:Nat}{o6:Obj}{K:Int->WP}(h:SB w Y sb F c b)(o:dR [] w w1 [(C,.cells (kz pX).toArray qh (0,0)),(E,.cells (HL.mk ig k.1).toArray 55 (0,0)),(r6,o6),(r1,.cells (HL.mk ib d).toArray Da (0,0))])(O:d∈b.due)(Q:hU b (mP d)=some k)(R:gy k.1 (kB b (gb k.1) (gc k.1))=some q)(hr:3*(b.size+5)+1<=c)(hn:IntKind.u64.has n)(U:∀F' w',SB w' Y sb F' c (kL b d n)->pc F w F' w'->K 0 w'):Cx (pW sb) n K (kz q,true) C w1 E r1:=by
 unfold Cx;obtain⟨T,I⟩:=h.hb;have u:=(I.CN Q).1;have J:ee ib d:=I.due.2 d O;have G:=BM u.1 (I.v7 (gb k.1)) (I.v7 (gc k.1)) R;have e:kL b d n=((fi b q n).fK (gq k.1,4)).jB d:=(by unfold kL;rw[Q];simp only[xV];rw[R];rfl);rw[e] at U;refine me (qX q) (o.st' 0 rfl _ (iI rfl) rfl (zM _) fun w2 o _=>cond_false rfl (nH (o.at (i:=0) rfl) _ (qX q) rfl ?_));have f:=o.fr;have h:=h.j8 o;have z:=Fz (b:=b) (p:=q) (n:=n);refine qzD h G.1 G.2 hn oJ fun F3 w3 V s3=>cond_false rfl ?_;have o:=h.own o s3;refine oC o 1 rfl (k.1.1,k.1.2.1) rfl (qnK V oJ ⟨u.1.1,u.1.2.1⟩ (show (0:Int)<=4/\(4:Int)<=255 from⟨oM,oM⟩) fun F4 w4 h4 s4=>cond_false rfl ?_);have o:=V.own o s4;refine oC o 3 rfl d rfl (qu8 h4 ?_ J (by show d∈(fi b q n).due;rw[qnN];exact O) fun F5 w5 h5 s5=>?_)
 have:=sM (kf:=fun x:gp×Int=>x.1) (a:=(gq k.1,4)) (l:=(fi b q n).jU)
 have z2:((fi b q n).fK (gq k.1,4)).size<=(fi b q n).size+1:=(by unfold Bk.size Bk.fK;dsimp only;omega);exact zL (by have:=z2;show 3*((fi b q n).fK (gq k.1,4)).size+1<=3*(b.size+5)+1;omega) hr;exact U F5 w5 (h5.x8 fun _ h=>zI _ h) (.pre f ((s3.trans s4).trans s5))
def qA3{K:Int->WP}(h:SB w Y sb F c b)(ok:yh c b d)(R:IntKind.u64.has n)(U:∀F' w',SB w' Y sb F' c (kL b d n)->pc F w F' w'->K 0 w'): cW 33 [dH sb,.agg #[.int .u64 d.1,.int .u64 d.2.1,.int .u64 d.2.2.1,.int .u64 d.2.2.2],.int .u64 n] de w K:=by
 refine qq4 ?_;obtain⟨O,⟨k,q,G,E⟩,V⟩:=ok;obtain⟨T,Q⟩:=h.hb;have u:=(Q.CN G).1;have I:ee ib d:=Q.due.2 d O;have hz:=xe;have ab:=v8;have gD:ls (gb k.1):=⟨u.1.2.2.1,u.1.2.2.2.1⟩;have gC:ls (gc k.1):=⟨u.1.2.2.2.2.1,u.1.2.2.2.2.2.1⟩;have hA:=Q.v7 (gb k.1);have hC:=Q.v7 (gc k.1);refine oB (oE [] w) fun r1 w1 _ f1 o=>oC o 0 rfl (d.2.2.1,d.2.2.2) rfl (qzJ (h.q7 f1) ⟨I.2.2.1,I.2.2.2⟩ fun w2 f2=>?_);rw[show hU b (d.2.2.1,d.2.2.2)=some k from G];refine oI (o.q7 f2) ab fun r6 w3 _ o=>me (pr k) (o.st' 0 rfl _ (iI rfl) rfl (zM _) fun w4 o _=>oC o 0 rfl k.1 rfl (oB o fun al w5 _ f5 o=>o.st' 0 rfl _ (iI rfl) rfl (zM _) fun w6 o _=>?_));have o:=o.drew;refine⟨oC o 0 rfl k.1 rfl (oC o 0 rfl (gb k.1) rfl (oC o 0 rfl (gc k.1) rfl (Gg (h.q7 o.fr) gD gC fun w7 C=>iM ((o.q7 C).cells 0 rfl rfl) (Gz (am:=(0,0)) u.1 hA hC E fun w8 J=>oI ((o.q7 C).q7 J) hz fun r9 w9 _ o=>mX (o.cells 1 rfl rfl) (o.cells 1 rfl rfl) (o.cells 1 rfl rfl) ?_)))),
  oC o 0 rfl k.1 rfl (oC o 0 rfl (gb k.1) rfl (oC o 0 rfl (gc k.1) rfl (Gg (h.q7 o.fr) gD gC fun w7 C=>iM ((o.q7 C).cells 0 rfl rfl) (oI (o.q7 C) hz fun r9 w9 _ o=>mX (o.cells 1 rfl rfl) (o.cells 1 rfl rfl) (o.cells 1 rfl rfl) (Gz (am:=(0,0)) u.1 hA hC E fun w8 J=>?_))))),
  oC o 0 rfl k.1 rfl (oC o 0 rfl (gb k.1) rfl (oC o 0 rfl (gc k.1) rfl (oI o hz fun r9 w9 _ o=>mX (o.cells 1 rfl rfl) (o.cells 1 rfl rfl) (o.cells 1 rfl rfl) (Gg (h.q7 o.fr) gD gC fun w7 C=>iM ((o.q7 C).cells 1 rfl rfl) (Gz (am:=(0,0)) u.1 hA hC E fun w8 J=>?_)))))⟩
 exact Gk h o O G E V R U;exact Gk h (o.q7 J) O G E V R U;exact Gk h ((o.q7 C).q7 J) O G E V R U
end
end
section
section
variable {w w' w1:World} {Y F F':List Nat} {sb pb c:Nat} {b b':Bk}
def SB.flt(h:SB w Y sb F c b):∀x∈F,x<w.heap.size:=by obtain⟨pb,dbk,FD,D,M,Fo,u,E,G⟩:=h;exact fun x C=>u.tw.x5.lt x C
def Dt{j8:Int}:(ie l j8 most).length<=l.length:=by unfold ie;rw[yL];exact zL (Nat.min_le_right _ _) (length_filter_le _ _)
def qrz{first:Int}{K:Int×Int->WP}(h:SB w Y sb F c b)(hn:IntKind.u64.has first)(hd:rB b.due)(hl:b.size<=90000)(ok:oo c b (ie b.due first most) first)(kk:∀F' w',SB w' Y sb F' c (fT b (ie b.due first most) first)->pc F w F' w'->K (((ie b.due first most).length:Int),0) w'): cW 10 [dH sb,.int .u64 first,.i most] dl w K:=by
 refine qn3 ?_;have hz:b.due.length<=b.size:=(by unfold Bk.size;omega);have R:=Dt (l:=b.due) (j8:=first) (most:=most);refine HZ h hn hd hl fun s B w1 U f1 nB _=>?_;generalize ie b.due first most=l at ok kk U R
 have V:s.len=l.length:=U.len;have hR:dX iB 4 F w1 s l:=U.kF Bp fun x hx hF=>by have:=nB x hx;have:=h.flt x hF;omega
 have hu:=pj hn;refine jT (fun q w'=>∃i:Nat,∃F' Q,q=i/\i<=l.length/\SB w' Y sb F' c Q/\dX iB 4 F' w' s l/\pc F w F' w'/\oo c Q (l.drop i) ((first+i)%18446744073709551616)/\fT Q (l.drop i) ((first+i)%18446744073709551616)=fT b l first) (fun q _=>l.length-q.toNat) ⟨0,F,b,rfl,yX _,h.q7 f1,hR,.pre f1 (.refl _ _),by rw[show (first+((0:Nat):Int))%18446744073709551616=first by omega];exact ok,by rw[show (first+((0:Nat):Int))%18446744073709551616=first by omega];rfl⟩ ?_;rintro q w2 ⟨i,F2,Q,rfl,hi,h2,G,s2,C,I⟩ X hX;apply cD<;>intro hc
 ·have u:i<l.length:=oJ;rw[zY u] at C I;have en:wrap .u64 (first+wrap .u64 (i:Int))=(first+i)%18446744073709551616:=(by rw[qv (i:Int) ⟨oJ,oJ⟩];unfold wrap;have:(IntKind.u64.signed)=false:=rfl;simp only[this,Bool.false_and,Bool.false_eq_true,if_false];rfl);rw[en];refine dX.oT (x:=l[i]) (y:=l[i]) G i rfl (zA u) rfl rfl<|oB (oE [] w2) fun r3 w3 _ f3 o=>o.st' 0 rfl _ (iI rfl) rfl (zM _) fun w4 o _=>oC o 0 rfl l[i] rfl<|qA3 (h2.q7 o.fr) C.1 (rW ⟨oJ,oJ⟩) fun F5 w5 h5 s5=>cond_false rfl ?_;rw[gd _ oJ];have J:((first+(i:Int))%18446744073709551616+1)%18446744073709551616=(first+((i+1:Nat):Int))%18446744073709551616:=oJ;have O:=C.2;rw[J] at O;rw[fT,J] at I;have E:=pc.pre o.fr s5;exact hX _ _ ⟨i+1,F5,_,rfl,u,h5,G.q8 E.fr E.new,s2.trans E,O,I⟩ oJ
 have u:i=l.length:=oJ;subst u;rw[drop_length,fT] at I;rw[V];rw[I] at h2;exact kk F2 w2 h2 s2
end
end
section
def vK{a b:gp}{x y:Operand}{K:Bool->Prop}(k:K (decide (a=b))): fl [iJ.one Cell.bool] (fun w'=>(do eqGuard .eql oe x y (c8 a.1 a.2) (c8 b.1 b.2);binOp .eql oe (c8 a.1 a.2) (c8 b.1 b.2):Sem Value).run prog w') w K:=by have e:wZ prog 2 oe (c8 a.1 a.2) (c8 b.1 b.2)=some (bif a.1==b.1 then (bif a.2==b.2 then true else false) else false):=oK;have h:(bif a.1==b.1 then (bif a.2==b.2 then true else false) else false)=decide (a=b):=(by obtain⟨u,C⟩:=a;obtain⟨E,G⟩:=b;dsimp only;by_cases h0:u=E;by_cases h1:C=G;simp[h0,h1];simp[h0,h1];simp[h0]);rw[h] at e;exact qAJ 2 oM _ e oK k
def dX.ki{α:Type}{enc:α->List Value}{l:List α}{cl:List Cell}(h:dX enc k S w s l)(n:Nat){x:α}{y:HL cl}{K:HL cl->Prop}(hi:i=n)(u:l[n]?=some x)(C:cl.length<=k)(E:(enc x).take cl.length=HL.mk cl y)(G:K y):idx s i k fun a=>dK cl a w K:=by subst hi;obtain⟨Q,b,o,I,_,R,T,U,J,O⟩:=h.at n u;refine rM I ⟨oJ,oJ⟩ ?_;rw[zJ];refine wG J y ?_ G;rw[<- E,<- O,take_take,xR C]
def dX.BH{α:Type}{enc:α->List Value}{l:List α}{c:Cell}(h:dX enc k S w s l)(n j:Nat){x:α}{y:c.El}{K:c.El->Prop}(hi:i=n)(C:l[n]?=some x)(E:j<k)(u:(enc x)[j]?=some (c.mk y))(G:K y):idx s i k fun a=>ld c ⟨a.block,a.off+j,none⟩ w K:=by subst hi;obtain⟨Q,b,o,I,_,R,T,U,J,O⟩:=h.at n C;refine rM I ⟨oJ,oJ⟩ ?_;rw[zJ];refine jM J y ?_ G;rw[<- O,xB,if_pos E,xA] at u;rw[<- xL];exact u
def qj (x:gp×Int):List Value:=[.int .u64 x.1.1,.int .u64 x.1.2,.b x.2]
def pG (m:Mv):List Value:=[.int .u64 m.1.1,.int .u64 m.1.2,.int .u64 m.2.1,.int .u64 m.2.2.1,.int .u64 m.2.2.2]
def nj (x:Ln):List Value:=[.int .u64 x.1.1,.int .u64 x.1.2]++HL.mk nd x.2
def om (x:gp×Int):List Value:=[.int .u64 x.1.1,.int .u64 x.1.2,.int .u64 x.2]
abbrev oj:HL fq->List Value:=HL.mk fq
abbrev oW:=HL eY
structure RB (S:List Nat) (w:World) (r:oW) (b:Bk):Prop where
 acc:dX oj 15 S w r.1 b.acc
 jR:dX pf 18 S w r.2.1 b.jR
 jU:dX qj 3 S w r.2.2.1 b.jU
 due:dX iB 4 S w r.2.2.2.1 b.due
 mA:dX pG 5 S w r.2.2.2.2.1 b.mA
 mI:dX pG 5 S w r.2.2.2.2.2.1 b.mI
 kM:dX nj 12 S w r.2.2.2.2.2.2.1 b.kM
 told:r.2.2.2.2.2.2.2.2.1=b.last.isSome/\r.2.2.2.2.2.2.2.1=b.last.getD 0
 gone:∃ g:List (gp×Int),g.length<=b.gn/\dX om 3 S w r.2.2.2.2.2.2.2.2.2 g
section
variable {S S':List Nat} {w w':World} {r:oW} {b:Bk}
def RB.q8(h:RB S w r b)(f:Fr S w w')(u:∀x∈S',x∈S\/w.heap.size<=x):RB S' w' r b:=⟨h.acc.q8 f u,h.jR.q8 f u,h.jU.q8 f u,h.due.q8 f u,h.mA.q8 f u,h.mI.q8 f u,h.kM.q8 f u,h.told,h.gone.elim fun g q=>⟨g,q.1,q.2.q8 f u⟩⟩
def RB.q7(h:RB S w r b)(f:Fr [] w w'):RB S w' r b:=h.q8 (f.mono fun _ h _=>nomatch h) fun _ h=>.inl h
def AD{α:Type}{p:α->Bool}{l:List α}{i:Nat}{x:α}(G:l[i]?=some x)(C:(l.take i).find? p=none):(p x=true->l.find? p=some x)/\(p x=false->(l.take (i+1)).find? p=none):=by obtain⟨E,u⟩:=zP.1 G;constructor;intro h;rw[show l.find? p=(l.take i++l.drop i).find? p by rw[xE],List.find?_append,C,zY E,u,List.find?_cons,h];rfl;intro h;rw[yG E,u,List.find?_append,C,List.find?_cons,h];rfl
def qrX{α:Type}{enc:α->List Value}{j r1 r3:Nat}{key:α->gp}{i:gp}{cs:Array Value}{T1 T3:TypeId}{l:List α}{x y:Operand}{E:WP}{V:Int->WP}(I:∀x,(enc x).take 2=HL.mk u2 (key x))(hk:2<=k)(h1:w.heap[r1]?=some (.cells cs T1 (0,0)))(hj:cs[j]?=some s.v)(h3:w.heap[r3]?=some (.cells #[.int .u64 i.1,.int .u64 i.2] T3 (0,0)))(hR:dX enc k S w s l)(hl:l.length<=1000000)(k0:∀w',Fr [] w w'->(l.find? fun x=>decide (key x=i))=none->E w')(k1:∀(n:Nat) x w',l[n]?=some x->(l.find? fun x=>decide (key x=i))=some x->Fr [] w w'->V n w'): loop Int (fun X q C=>ld .slice (dc r1 j) C fun s=>cond (decide (q<(s.len:Int))) (ld .slice (dc r1 j) C.drew fun s=>idx s q k fun a=>dK u2 a C.drew fun t=>dK u2 (dc r3) C.drew fun J=>fl [iJ.one Cell.bool] (fun w'=>(do eqGuard .eql oe x y (c8 t.1 t.2) (c8 J.1 J.2);binOp .eql oe (c8 t.1 t.2) (c8 J.1 J.2):Sem Value).run prog w') C.drew fun b=>cond b (V q C) (X (wrap .i64 (q+1)) C.drew)) (E C)) 0 w:=by
 have ad:=hR.1;refine jT (fun q w'=>∃n:Nat,q=n/\n<=l.length/\Fr [] w w'/\((l.take n).find? fun x=>decide (key x=i))=none) (fun q _=>l.length-q.toNat) ⟨0,rfl,yX _,.refl _ _,rfl⟩ ?_;rintro q w1 ⟨n,rfl,hn,f,O⟩ X hX;have G:∀ {b:Nat} {o:Obj} {w2:World},w.heap[b]?=some o->Fr [] w w2->w2.heap[b]?=some o:=fun h f=>by rw[f.block _ (fJ h) fun h=>nomatch h];exact h
 refine jM (G h1 f) s hj (eH (fun Q=>?_) (fun Q=>?_));have u:n<l.length:=(by have:=zC Q;omega);have g:=f.drew;have R:=zA u;refine jM (G h1 g) s hj (dX.ki (cl:=u2) (hR.q7 g) n rfl R hk (I _) (wG (G h3 g) i rfl (vK ?_)));have st:=AD (p:=fun x=>decide (key x=i)) R O;apply eH<;>intro U;exact k1 n _ w1 R (st.1 U) f;rw[gd _ oJ];exact hX _ _ ⟨n+1,rfl,u,g,st.2 U⟩ oJ;have u:n=l.length:=(by have:=zB Q;omega);subst u;rw[xZ] at O;exact k0 w1 f O
def qtU{i0 i1:Int}{K:HL fq×Bool->WP}(h:RB S w r b)(G:b.size<=100000)(E:∀w',Fr [] w w'->K ((eG b (i0,i1)).getD kN,(eG b (i0,i1)).isSome) w'): cW 64 [.agg (HL.mk eY r).toArray,c8 i0 i1] [.agg fq,.one .bool] w K:=by
 refine qeh<|oB (oE [] w) fun r1 w1 _ R o=>oB o fun r3 w2 _ U o=>oB o fun V w3 _ f3 o=>qrX (i:=(i0,i1)) (s:=r.1) (key:=gE) (fun _=>rfl) oM (o.at (i:=2) rfl) rfl (o.at (i:=1) rfl) (h.q7 o.fr).acc (by unfold Bk.size at G;omega) (fun I u J=>?_) fun n x I O Q u=>?_;refine (o.q7 u).st' 0 rfl _ (iI rfl) rfl (zM _) fun C o _=>oC o 0 rfl kN rfl ?_
 have:=E C o.fr
 rwa[show eG b (i0,i1)=none from J] at this;have o:=(o.q7 u).drew;refine oA o 2 rfl r.1 rfl (dX.oT (h.q7 o.fr).acc n rfl O rfl rfl (o.st' 0 rfl _ (iI rfl) rfl (zM _) fun C o _=>oC o 0 rfl x rfl ?_))
 have:=E C o.fr
 rwa[show eG b (i0,i1)=some x from Q] at this
def If{i0 i1:Int}{K:List Value×Bool->WP}(h:RB S w r b)(G:b.size<=100000)(E:∀w',Fr [] w w'->K (pf ((hU b (i0,i1)).getD uE),(hU b (i0,i1)).isSome) w'): cW 13 [.agg (HL.mk eY r).toArray,c8 i0 i1] dh w K:=by
 refine qdO ?_;have I:=v8;refine oB (oE [] w) fun r1 w1 _ U o=>oB o fun r3 w2 _ V o=>oI o I fun r5 w3 _ o=>qrX (i:=(i0,i1)) (s:=r.2.1) (key:=qJ) (fun _=>rfl) oM (o.at (i:=2) rfl) rfl (o.at (i:=1) rfl) (h.q7 o.fr).jR (by unfold Bk.size at G;omega) (fun J u O=>?_) fun n x J Q R u=>?_;refine sI (ts:=[iJ.oc]) (pf uE) oK (me rfl ((o.q7 u).st' 0 rfl _ (iI rfl) rfl (zM _) fun C o _=>nH (o.at (i:=0) rfl) _ (pr uE) rfl ?_))
 have:=E C o.fr
 rwa[show hU b (i0,i1)=none from O] at this;have o:=(o.q7 u).drew;refine oA o 2 rfl r.2.1 rfl (dX.iK (h.q7 o.fr).jR pr n rfl Q (me (pr x) (o.st' 0 rfl _ (iI rfl) rfl (zM _) fun C o _=>nH (o.at (i:=0) rfl) _ (pr x) rfl ?_)))
 have:=E C o.fr
 rwa[show hU b (i0,i1)=some x from R] at this
end
end
section
section
variable {α:Type} {enc:α->List Value} {k:Nat} {w:World} {s:Sl} {l:List α} {B S:List Nat}
def FK{n:Nat}{x:α}{K:WP}(h:eZ enc k w s l B)(C:∀x,(enc x).length=k)(I:∀x,∀u∈enc x,u.oneCell'=true)(hi:i=n)(Q:n<l.length)(kk:∀w',eZ enc k w' s (l.set n x) B->Fr B w w'->K w'):idx s i k fun a=>Pt.st a (enc x) w K:=by
 subst hi;have hf:=qZ C;rcases h with ⟨_,rfl,_⟩|⟨b,o,G,T,rfl,rfl,ha,hb,h5,h6,h7,h8⟩;cases Q;refine rM ha ⟨oJ,oJ⟩ ?_;rw[zJ,xS];rw[xF] at h8;have h9:l.length*k<=s.cap*k:=Nat.mul_le_mul_right k oJ;have ai:l.length*k<=G.size:=oJ;have E:l=l.take n++l[n]::l.drop (n+1):=(by rw[<- zY Q,xE]);have R:G=((l.take n).flatMap enc++enc l[n]++((l.drop (n+1)).flatMap enc++G.toList.drop (l.length*k))).toArray:=by
  apply Array.ext';have:l.flatMap enc=(l.take n).flatMap enc++enc l[n]++(l.drop (n+1)).flatMap enc:=by
   conv=>lhs;rw[E]
   rw[yQ,yH,zV]
  rw[<- zV,<- this,<- h8,xE]
 have hA:((l.take n).flatMap enc).length=n*k:=(by rw[hf,yL,xR oJ]);have J:dT G (n*k) (enc x)=((l.take n).flatMap enc++enc x++((l.drop (n+1)).flatMap enc++G.toList.drop (l.length*k))).toArray:=by
  have:=uu (A:=(l.take n).flatMap enc) (X:=enc l[n]) (Y:=enc x) (Z:=(l.drop (n+1)).flatMap enc++G.toList.drop (l.length*k)) (by rw[C,C])
  rw[hA,<- R] at this;exact this
 have U:(n+1)*k<=l.length*k:=Nat.mul_le_mul_right k Q;rw[Nat.succ_mul] at U;refine tk hb _ J (all_eq_true.2 (I x)) (by rw[C];omega) fun w' V f=>kk w' (.inr ⟨b,0,_,T,rfl,rfl,ha,V,by rw[xG];exact h5,h6,?_,?_⟩) f
 have:=congrArg Array.size J
 rw[nY] at this;rw[<- this];exact h7;rw[xF,xG];have e:(l.set n x).flatMap enc=(l.take n).flatMap enc++enc x++(l.drop (n+1)).flatMap enc:=by rw[set_eq_take_append_cons_drop,if_pos Q,yQ,yH,zV]
 have O:((l.set n x).flatMap enc).length=l.length*k:=(by rw[hf,xG]);show List.take (l.length*k) (_++_++(_++_))=_;rw[<- zV,<- e,<- O];exact take_left' rfl
def wY{t ty e:TypeId}{i:TypeInfo}{z:Value}{r:Nat}{T:TypeId}(J:w.heap[r]?=some (.cells #[] T (0,0)))(G:dX enc k S w s l)(C:∀x,(enc x).length=k)(E:∀x,∀u∈enc x,u.oneCell'=true)(U:prog.underlying t=some (.slice e))(hi:prog.info? e=some i)(V:i.zero=some z)(O:i.size=k)(Q:z.cells.size=k)(R:i.bytes<=1000)(hl:l.length<=1000000)(kk:∀I B w',eZ enc k w' I l B->Fr [r] w w'->(∀b∈B,b=r\/w.heap.size<=b)->K I w'): Pt.run dd ((Builtin.append_ #[t,t] ty #[.slice (pW r) 0 0,s.v]).run prog w) K:=by
 refine eZ.j0 (s:=⟨pW r,0,0⟩) (l:=[]) (ys:=l) (B:=[r]) (eZ.none J) C U hi V O Q (vo (e':=e) G C E U) G.1 ?_ (by simp;have:=G.1;omega) fun I B' w' b' f' n' _=>kk I B' w' (oP b') f' fun b J=>(n' b J).imp (fun h=>zE.1 h) id
 have:=G.1
 rw[xK,xS,this];calc l.length*i.bytes<=1000000*1000:=Nat.mul_le_mul hl R
  _<=_:=by decide
end
def CJ(x:HL fq):(oj x).length=15:=rfl
def Gu(x:HL fq):∀u∈oj x,u.oneCell'=true:=all_eq_true.1 rfl
def qAN:∃i,prog.info? 47=some i/\i.zero=some (.agg (HL.mk fq kN).toArray)/\i.size=15/\i.bytes=104:=uj oK
section
variable {S:List Nat} {w w':World} {r:oW} {b:Bk}
def xq{α:Type}{enc:α->List Value}{w w0:World}{l:List α}{S:List Nat}(h:eZ enc k w s l B)(u:∀x,(enc x).length=k)(C:∀x∈S,x<w0.heap.size)(E:∀x∈B,w0.heap.size<=x):dX enc k S w s l:=h.kF u fun b G I=>by have:=C b I;have:=E b G;omega
def BV{α κ:Type}[DecidableEq κ]{kf:α->κ}{a x:α}{l:List α}{n:Nat}(C:l[n]?=some x)(u:(l.take n).find? (fun y=>decide (kf y=kf a))=none)(h:kf x=kf a):iu kf a l=l.set n a:=by obtain⟨E,rfl⟩:=zP.1 C;refine qsC E h fun j G e=>?_;rw[List.find?_eq_none] at u;refine u (l[j]' oJ) ?_ (oP e);exact mem_take_iff_getElem.2 ⟨j,oJ,rfl⟩
def BJ{α κ:Type}[DecidableEq κ]{kf:α->κ}{a:α}{l:List α}(h:l.find? (fun y=>decide (kf y=kf a))=none):iu kf a l=l++[a]:=EV fun x u e=>by rw[List.find?_eq_none] at h;exact h x u (oP e)
def Df{K:oW->WP}(h:RB S w r b)(hl:b.size<=100000)(hS:∀x∈S,x<w.heap.size)(kk:∀r' w',RB S w' r' (b.dQ a)->Fr [] w w'->K r' w'): cW 23 [.agg (HL.mk eY r).toArray,.agg (HL.mk fq a).toArray] [.agg eY] w K:=by
 refine qc9 ?_;have aA:b.acc.length<=100000:=(by unfold Bk.size at hl;omega);obtain⟨i,hi,hz,U,V⟩:=qAN;refine oB (oE [] w) fun r1 w1 _ f1 o=>oB o fun r3 w2 _ f2 o=>oB o fun r5 J _ f3 o=>oB (oE [] J) fun r7 w4 e4 f4 o2=>?_;have o4:=o.q7 f4;refine oA o4 2 rfl r.1 rfl (wY (e:=47) (o2.at (i:=0) rfl) (h.q7 o4.fr).acc CJ Gu oK hi hz U rfl (by rw[V];decide) oJ fun s5 B5 w5 b5 f5 n5=>?_);have E:∀x∈B5,J.heap.size<=x:=fun x u=>(n5 x u).elim (fun e=>oJ) fun h=>zL f4.size h;have O:Fr [] J w5:=f4.j6 f5 fun x u=>.inr (by rw[zE.1 u];omega);have aa:∀(s:Sl) (l:List (HL fq)) (B:List Nat) R,eZ oj 15 R s l B->(∀x∈B,J.heap.size<=x)->Fr [] J R->l=iu gE a b.acc->Pt.st (dc r1) [s.v] R fun w7=>dK eY (dc r1) w7 fun t=>Pt.st (dc r5) (HL.mk eY t) w7 fun w8=>dK eY (dc r5) w8 fun t=>K t w8:=fun s l B R hb hB G e=>by
  refine (o.q7 G).st' 2 rfl (HL.mk eY (s,r.2)).toArray rfl rfl (zO rfl) fun w7 o7 f7=>oC o7 2 rfl (s,r.2) rfl (o7.st' 0 rfl _ (iI rfl) rfl (zM _) fun w8 o8 f8=>oC o8 0 rfl (s,r.2) rfl ?_);have I:=h.q7 o8.fr;have l1:r1<J.heap.size:=fJ (o.at (i:=2) rfl);have l5:r5<J.heap.size:=fJ (o.at (i:=0) rfl);have ak:=(hb.q8 f7 fun x u h=>by have:=hB x u;have:=zE.1 h;omega).q8 f8 fun x u h=>by have:=hB x u;have:=zE.1 h;omega
  have al:dX oj 15 S w8 s (iu gE a b.acc):=(by rw[<- e];exact xq ak CJ hS fun x u=>zL o.fr.size (hB x u));exact kk (s,r.2) w8 ⟨al,I.jR,I.jU,I.due,I.mA,I.mI,I.kM,I.told,I.gone⟩ o8.fr
 have aH:s5.len=b.acc.length:=b5.len;refine jT (fun q w'=>∃n:Nat,q=n/\n<=b.acc.length/\Fr [] w5 w'/\((b.acc.take n).find? fun x=>decide (gE x=gE a))=none) (fun q _=>b.acc.length-q.toNat) ⟨0,rfl,yX _,.refl _ _,rfl⟩ ?_;rintro q R ⟨n,rfl,hn,G,hf⟩ X hX;apply cD<;>intro hc;have C:n<b.acc.length:=oJ;have u:=zA C;have b6:=(b5.q7 G).q7 (Fr.refl [] R).drew;have o6:=o.q7 ((O.trans G).drew);refine dX.ki (cl:=u2) (S:=[]) (b6.kF CJ fun _ _ h=>nomatch h) n rfl u oM rfl (oC o6 1 rfl (gE a) rfl (vK (a:=gE b.acc[n]) ?_));have st:=AD (p:=fun x=>decide (gE x=gE a)) u hf;apply eH<;>intro hb;refine oC o6 1 rfl a rfl (FK b6 CJ Gu rfl C fun w7 b7 f7=>aa _ _ _ _ b7 E ((O.trans G).drew.j6 f7 fun x u=>.inr (E x u)) (BV u hf (zC hb)).symm);rw[gd _ oJ];exact hX _ _ ⟨n+1,rfl,C,G.drew,st.2 hb⟩ oJ;have C:n=b.acc.length:=oJ;subst C;rw[xZ] at hf;have Q:=O.trans G;refine oC (o.q7 Q) 1 rfl a rfl (eZ.push (e:=47) (x:=a) (b5.q7 G) CJ (Gu a) oK hi hz U rfl rfl (by rw[V];omega) oJ fun s7 B7 w7 b7 f7 n7=>aa _ _ _ _ b7 (fun x u=>(n7 x u).elim (E x) (zL Q.size)) (Q.j6 f7 fun x u=>.inr (E x u)) (BJ hf).symm)
end
end
section
abbrev H9:TypeId:=146
abbrev mvs:List Cell:=[.int .u64,.int .u64,.int .u64,.int .u64,.int .u64]
def CL(x:Mv):(pG x).length=5:=rfl
def FA(x:Mv):∀u∈pG x,u.oneCell'=true:=all_eq_true.1 rfl
def qAS:∃i,prog.info? H9=some i/\i.zero=some (.agg #[.int .u64 0,.int .u64 0,.int .u64 0,.int .u64 0,.int .u64 0])/\i.size=5/\i.bytes=40:=uj oK
section
variable {S:List Nat} {w w':World} {s:Sl} {l:List Mv}
def qrB{m:Mv}(h:dX pG 5 S w s l)(hl:l.length<=100000)(hS:∀x∈S,x<w.heap.size)(kk:∀s' w',dX pG 5 S w' s' (iu py m l)->Fr [] w w'->K s' w'): cW 68 [s.v,.agg #[.int .u64 m.1.1,.int .u64 m.1.2,.int .u64 m.2.1,.int .u64 m.2.2.1,.int .u64 m.2.2.2]] dd w K:=by
 refine qhS ?_;obtain⟨i,hi,hz,R,U⟩:=qAS;refine oB (oE [] w) fun r1 V _ f3 o=>oB (oE [] V) fun r7 w4 e4 f4 o2=>?_;have o4:=o.q7 f4;refine wY (e:=H9) (o2.at (i:=0) rfl) (h.q7 o4.fr) CL FA oK hi hz R rfl (by rw[U];decide) oJ fun s5 B5 w5 b5 f5 n5=>?_;have G:∀x∈B5,V.heap.size<=x:=fun x u=>(n5 x u).elim (fun e=>oJ) fun h=>zL f4.size h;have O:Fr [] V w5:=f4.j6 f5 fun x u=>.inr (by rw[zE.1 u];omega);have aa:∀(s:Sl) (l':List Mv) (B:List Nat) I,eZ pG 5 I s l' B->(∀x∈B,V.heap.size<=x)->Fr [] V I->l'=iu py m l->K s I:=fun s l' B I C hB J e=>by refine kk s I ?_ (f3.trans J);rw[<- e];exact xq C CL hS fun x u=>zL f3.size (hB x u)
 have aC:s5.len=l.length:=b5.len;refine jT (fun q w'=>∃n:Nat,q=n/\n<=l.length/\Fr [] w5 w'/\((l.take n).find? fun x=>decide (py x=py m))=none) (fun q _=>l.length-q.toNat) ⟨0,rfl,yX _,.refl _ _,rfl⟩ ?_;rintro q I ⟨n,rfl,hn,J,hf⟩ X hX;apply cD<;>intro hc;have E:n<l.length:=oJ;have u:=zA E;have b6:=(b5.q7 J).q7 (Fr.refl [] I).drew;have o6:=o.q7 ((O.trans J).drew);have r6:dX pG 5 [] I.drew s5 l:=b6.kF CL fun _ _ h=>nomatch h;refine tN (decide (py l[n]=py m)) I.drew (fun M hM=>?_) ?_;refine dX.ki (cl:=u2) r6 n rfl u oM rfl (oC o6 0 rfl m.1 rfl (vK (a:=l[n].1) ?_));apply eH<;>intro C;have C:=zC C;refine dX.BH (c:=.int .u64) r6 n 2 rfl u oM (y:=l[n].2.1) rfl (oA o6 0 rfl m.2.1 rfl ?_);rw[show (l[n].2.1==m.2.1)=decide (py l[n]=py m) by unfold py;rw[C];by_cases e:l[n].2.1=m.2.1;simp[e];simp[e]];exact hM;have C:=zB C;rw[show decide (py l[n]=py m)=false from zU fun e=>C (vB e).1] at hM;exact hM;have st:=AD (p:=fun x=>decide (py x=py m)) u hf;apply eH<;>intro C;refine oC o6 0 rfl (m.1.1,m.1.2,m.2.1,m.2.2.1,m.2.2.2) rfl (FK b6 CL FA (x:=m) rfl E fun w7 b7 f7=>aa _ _ _ _ b7 G ((O.trans J).drew.j6 f7 fun x u=>.inr (G x u)) (BV u hf (zC C)).symm);rw[gd _ oJ];exact hX _ _ ⟨n+1,rfl,E,J.drew,st.2 C⟩ oJ;have E:n=l.length:=oJ;subst E;rw[xZ] at hf;have Q:=O.trans J;refine oC (o.q7 Q) 0 rfl (m.1.1,m.1.2,m.2.1,m.2.2.1,m.2.2.2) rfl (eZ.push (e:=H9) (x:=m) (b5.q7 J) CL (FA m) oK hi hz R rfl rfl (by rw[U];omega) oJ fun s7 B7 w7 b7 f7 n7=>aa _ _ _ _ b7 (fun x u=>(n7 x u).elim (G x) (zL Q.size)) (Q.j6 f7 fun x u=>.inr (G x u)) (BJ hf).symm)
end
end
section
section
variable {α:Type} {enc:α->List Value} {k:Nat} {w:World} {s:Sl} {l:List α} {B S:List Nat}
def qt6{n j:Nat}{x:α}{vs:List Value}{K:WP}(h:eZ enc k w s l B)(E:∀x,(enc x).length=k)(hi:i=n)(U:n<l.length)(I:vs.all Value.oneCell'=true)(hj:j+vs.length<=k)(hx:enc x=(enc l[n]).take j++vs++(enc l[n]).drop (j+vs.length))(kk:∀w',eZ enc k w' s (l.set n x) B->Fr B w w'->K w'):idx s i k fun a=>Pt.st ⟨a.block,a.off+j,none⟩ vs w K:=by
 subst hi;have hf:=qZ E;rcases h with ⟨_,rfl,_⟩|⟨b,o,u,T,rfl,rfl,ha,hb,h5,h6,h7,V⟩;cases U;refine rM ha ⟨oJ,oJ⟩ ?_;rw[zJ,xS];rw[xF] at V;have h9:l.length*k<=s.cap*k:=Nat.mul_le_mul_right k oJ;have an:l.length*k<=u.size:=oJ;have C:l=l.take n++l[n]::l.drop (n+1):=(by rw[<- zY U,xE]);have J:=E l[n];have he:enc l[n]=(enc l[n]).take j++((enc l[n]).drop j).take vs.length++(enc l[n]).drop (j+vs.length):=(by rw[zV,<- xD,xE,xE]);have O:u=(((l.take n).flatMap enc++(enc l[n]).take j)++((enc l[n]).drop j).take vs.length++((enc l[n]).drop (j+vs.length)++((l.drop (n+1)).flatMap enc++u.toList.drop (l.length*k)))).toArray:=by
  apply Array.ext';have:l.flatMap enc=(l.take n).flatMap enc++enc l[n]++(l.drop (n+1)).flatMap enc:=by
   conv=>lhs;rw[C]
   rw[yQ,yH,zV]
  have h0:u.toList=(l.take n).flatMap enc++enc l[n]++(l.drop (n+1)).flatMap enc++u.toList.drop (l.length*k):=(by rw[<- this,<- V,xE]);rw[h0];conv=>lhs;rw[he]
  rw[<- h0];simp only[zV]
 have hA:((l.take n).flatMap enc++(enc l[n]).take j).length=n*k+j:=(by rw[zF,hf,yL,yL,xR oJ,J];omega);have G:dT u (n*k+j) vs=((l.take n).flatMap enc++enc x++((l.drop (n+1)).flatMap enc++u.toList.drop (l.length*k))).toArray:=by
  have:=uu (A:=(l.take n).flatMap enc++(enc l[n]).take j) (X:=((enc l[n]).drop j).take vs.length) (Y:=vs) (Z:=(enc l[n]).drop (j+vs.length)++((l.drop (n+1)).flatMap enc++u.toList.drop (l.length*k))) (by rw[yL,yC,J];omega)
  rw[hA,<- O] at this;rw[this,hx];simp only[zV]
 have aa:(n+1)*k<=l.length*k:=Nat.mul_le_mul_right k U;rw[Nat.succ_mul] at aa;have Q:n*k+j+vs.length<=u.size:=(by clear O G hx he hA V;omega);refine tk hb _ G I Q fun w' ab f=>kk w' (.inr ⟨b,0,_,T,rfl,rfl,ha,ab,by rw[xG];exact h5,h6,?_,?_⟩) f
 have:=congrArg Array.size G
 rw[nY] at this;rw[<- this];exact h7;rw[xF,xG];have e:(l.set n x).flatMap enc=(l.take n).flatMap enc++enc x++(l.drop (n+1)).flatMap enc:=by rw[set_eq_take_append_cons_drop,if_pos U,yQ,yH,zV]
 have R:((l.set n x).flatMap enc).length=l.length*k:=(by rw[hf,xG]);show List.take (l.length*k) (_++_++(_++_))=_;rw[<- zV,<- e,<- R];exact take_left' rfl
end
abbrev zg:TypeId:=148
def BF(x:gp×Int):(qj x).length=3:=rfl
def qqa(x:gp×Int):∀u∈qj x,u.oneCell'=true:=all_eq_true.1 rfl
def qAU:∃i,prog.info? zg=some i/\i.zero=some (.agg #[.int .u64 0,.int .u64 0,.b 0])/\i.size=3/\i.bytes=24:=uj oK
def qnI{r:oW}{i0 i1:Int}{K:oW->WP}(h:RB S w r b)(hl:b.size<=100000)(hS:∀x∈S,x<w.heap.size)(kk:∀r' w',RB S w' r' (b.fK ((i0,i1),x))->Fr [] w w'->K r' w'): cW 27 [.agg (HL.mk eY r).toArray,c8 i0 i1,.b x] [.agg eY] w K:=by
 refine qdG ?_;have aA:b.jU.length<=100000:=(by unfold Bk.size at hl;omega);obtain⟨i,hi,hz,U,V⟩:=qAU;refine oB (oE [] w) fun r1 w1 _ f1 o=>oB o fun r3 w2 _ f2 o=>oB o fun r5 J _ f3 o=>oB (oE [] J) fun r7 w4 e4 f4 o2=>?_;have o4:=o.q7 f4;refine oA o4 2 rfl r.2.2.1 rfl (wY (e:=zg) (o2.at (i:=0) rfl) (h.q7 o4.fr).jU BF qqa oK hi hz U rfl (by rw[V];decide) oJ fun s5 B5 w5 b5 f5 n5=>?_);have E:∀x∈B5,J.heap.size<=x:=fun x u=>(n5 x u).elim (fun e=>oJ) fun h=>zL f4.size h;have O:Fr [] J w5:=f4.j6 f5 fun x u=>.inr (by rw[zE.1 u];omega);have aa:∀(s:Sl) (l:List (gp×Int)) (B:List Nat) R,eZ qj 3 R s l B->(∀x∈B,J.heap.size<=x)->Fr [] J R->l=iu (fun y:gp×Int=>y.1) ((i0,i1),x) b.jU->Pt.st (dc r1 2) [s.v] R fun w7=>dK eY (dc r1) w7 fun t=>Pt.st (dc r5) (HL.mk eY t) w7 fun w8=>dK eY (dc r5) w8 fun t=>K t w8:=fun s l B R hb hB G e=>by
  refine (o.q7 G).st' 2 rfl (HL.mk eY (r.1,r.2.1,s,r.2.2.2)).toArray rfl rfl (zO rfl) fun w7 o7 f7=>oC o7 2 rfl (r.1,r.2.1,s,r.2.2.2) rfl (o7.st' 0 rfl _ (iI rfl) rfl (zM _) fun w8 o8 f8=>oC o8 0 rfl (r.1,r.2.1,s,r.2.2.2) rfl ?_);have I:=h.q7 o8.fr;have l1:r1<J.heap.size:=fJ (o.at (i:=2) rfl);have l5:r5<J.heap.size:=fJ (o.at (i:=0) rfl);have al:=(hb.q8 f7 fun x u h=>by have:=hB x u;have:=zE.1 h;omega).q8 f8 fun x u h=>by have:=hB x u;have:=zE.1 h;omega
  have am:dX qj 3 S w8 s (iu (fun y:gp×Int=>y.1) ((i0,i1),x) b.jU):=(by rw[<- e];exact xq al BF hS fun x u=>zL o.fr.size (hB x u));exact kk (r.1,r.2.1,s,r.2.2.2) w8 ⟨I.acc,I.jR,am,I.due,I.mA,I.mI,I.kM,I.told,I.gone⟩ o8.fr
 have aH:s5.len=b.jU.length:=b5.len;refine jT (fun q w'=>∃n:Nat,q=n/\n<=b.jU.length/\Fr [] w5 w'/\((b.jU.take n).find? fun y:gp×Int=>decide (y.1=(((i0,i1),x):gp×Int).1))=none) (fun q _=>b.jU.length-q.toNat) ⟨0,rfl,yX _,.refl _ _,rfl⟩ ?_;rintro q R ⟨n,rfl,hn,G,hf⟩ X hX;apply cD<;>intro hc;have C:n<b.jU.length:=oJ;have u:=zA C;have b6:=(b5.q7 G).q7 (Fr.refl [] R).drew;have o6:=o.q7 ((O.trans G).drew);refine dX.ki (cl:=u2) (S:=[]) (b6.kF BF fun _ _ h=>nomatch h) n rfl u oM rfl (oC o6 1 rfl (i0,i1) rfl (vK (a:=b.jU[n].1) ?_));have st:=AD (p:=fun y:gp×Int=>decide (y.1=(((i0,i1),x):gp×Int).1)) u hf;apply eH<;>intro hb;have ae:b.jU[n].1=(i0,i1):=zC hb;refine qt6 (j:=2) (x:=((i0,i1),x)) (vs:=[.b x]) b6 BF rfl C rfl (zM _) (by rw[show qj b.jU[n]=qj (b.jU[n].1,b.jU[n].2) from rfl,ae];rfl) fun w7 b7 f7=>aa _ _ _ _ b7 E ((O.trans G).drew.j6 f7 fun x u=>.inr (E x u)) (BV (kf:=fun y:gp×Int=>y.1) u hf ae).symm;rw[gd _ oJ];exact hX _ _ ⟨n+1,rfl,C,G.drew,st.2 hb⟩ oJ;have C:n=b.jU.length:=oJ;subst C;rw[xZ] at hf;have Q:=O.trans G;refine oC (o.q7 Q) 1 rfl (i0,i1) rfl (eZ.push (e:=zg) (x:=(((i0,i1),x):gp×Int)) (b5.q7 G) BF (qqa _) oK hi hz U rfl rfl (by rw[V];omega) oJ fun s7 B7 w7 b7 f7 n7=>aa _ _ _ _ b7 (fun x u=>(n7 x u).elim (E x) (zL Q.size)) (Q.j6 f7 fun x u=>.inr (E x u)) (BJ (kf:=fun y:gp×Int=>y.1) hf).symm)
end
def dX.Dj{α:Type}{enc:α->List Value}{l:List α}{c:Cell}(h:dX enc k S w s l)(n:Nat){x:α}{y:c.El}{K:c.El->Prop}(hi:i=n)(C:l[n]?=some x)(E:0<k)(u:(enc x)[0]?=some (c.mk y))(G:K y):idx s i k fun a=>ld c a w K:=by subst hi;obtain⟨Q,b,o,I,_,R,T,U,J,O⟩:=h.at n C;refine rM I ⟨oJ,oJ⟩ ?_;rw[zJ];refine jM J y ?_ G;rw[<- O,xB,if_pos E,xA,Nat.add_zero] at u;rw[<- xL];exact u
def qyw{n:Nat}(u:n<l.length):ik d (l.take (n+1))=ik d (l.take n)++if lV l[n]≠lV d then [l[n]] else []:=by unfold ik;rw[yG u,xC];congr 1;by_cases h:lV l[n]=lV d;simp[h];simp[h]
def qnG{r:oW}{K:oW×Bool->WP}(h:RB S w r b)(hl:b.size<=100000)(hS:∀x∈S,x<w.heap.size)(kk:∀r' w' t,RB S w' r' (b.jB d)->Fr [] w w'->K (r',t) w'): cW 45 [.agg (HL.mk eY r).toArray,.agg #[.int .u64 d.1,.int .u64 d.2.1,.int .u64 d.2.2.1,.int .u64 d.2.2.2]] [.agg eY,.one .bool] w K:=by
 refine qeD ?_;have aq:b.due.length<=100000:=(by unfold Bk.size at hl;omega);refine oB (oE [] w) fun r1 w1 _ f1 o=>oB o fun r3 w2 _ f2 o=>oB o fun r5 G _ f3 o=>oB (oE [] G) fun r7 w4 e4 f4 o2=>?_;have l1:r1<G.heap.size:=fJ (o.at (i:=2) rfl);have l5:r5<G.heap.size:=fJ (o.at (i:=0) rfl);have ab:=(h.q7 o.fr).due;refine jT (fun t w'=>∃n:Nat,∃B,t.2=n/\n<=b.due.length/\eZ iB 4 w' t.1 (ik d (b.due.take n)) B/\Fr [] G w'/\∀x∈B,G.heap.size<=x) (fun t _=>b.due.length-t.2.toNat) ⟨0,[r7],rfl,yX _,eZ.none (o2.at (i:=0) rfl),f4,fun x u=>by rw[zE.1 u];omega⟩ ?_;rintro⟨s,q⟩ w5 ⟨n,B,hq,hn,V,Q,O⟩ X hX;dsimp only at hq V⊢;subst hq;have o5:=o.q7 Q;have R:dX iB 4 S w5 r.2.2.2.1 b.due:=ab.q7 Q;have ay:r.2.2.2.1.len=b.due.length:=R.1;refine oA o5 2 rfl r.2.2.2.1 rfl (eH (fun hc=>?_) (fun hc=>?_));have C:n<b.due.length:=(by have:=zC hc;omega);have u:=zA C;have ct:=qyw (d:=d) C;generalize b.due[n]=x at u ct;have U:=o5.drew;have I:=R.drew;have az:(ik d (b.due.take n)).length<=100000:=zL (length_filter_le _ _) (by rw[yL];omega);refine iQ (fun s' w'=>∃B',eZ iB 4 w' s' (ik d (b.due.take (n+1))) B'/\Fr [] G w'/\∀x∈B',G.heap.size<=x) ?_ fun s' w' ⟨B',b',f',n'⟩=>hX _ _ ⟨n+1,B',by dsimp only;rw[gd _ oJ];rfl,C,b',f',n'⟩ (by dsimp only;rw[gd _ oJ];omega);refine tN (decide (lV x≠lV d)) w5.drew (fun M hM=>?_) ?_;refine oA U 2 rfl r.2.2.2.1 rfl (dX.Dj (c:=.int .u64) I n rfl u oM (y:=x.1) rfl (oA U 1 rfl d.1 rfl ?_));by_cases e:x.1=d.1;refine cond_false (by rw[e];simp) (oA U 2 rfl r.2.2.2.1 rfl (dX.BH (c:=.int .u64) I n 1 rfl u oM (y:=x.2.1) rfl (oA U 1 rfl d.2.1 rfl ?_)));rw[show (!x.2.1==d.2.1)=decide (lV x≠lV d) by unfold lV;rw[e];by_cases e2:x.2.1=d.2.1;simp[e2];simp[e2]];exact hM;rw[show decide (lV x≠lV d)=true from yA fun h=>e (vB h).1] at hM;exact cond_true (oP e) hM;rw[ct];have b6:=V.q7 (Fr.refl [] w5).drew;apply cD<;>intro J;rw[if_pos (J)];refine oA U 2 rfl r.2.2.2.1 rfl (dX.oT (y:=x) I n rfl u rfl rfl (AN b6 oJ fun s7 B7 w7 b7 f7 n7=>⟨B7,b7,Q.drew.j6 f7 fun x u=>.inr (O x u),fun x u=>(n7 x u).elim (O x) (zL Q.drew.size)⟩));rw[if_neg (J),xH];exact⟨B,b6,Q.drew,O⟩;have C:n=b.due.length:=(by have:=zB hc;omega);subst C;rw[xZ] at V;refine oA o5 2 rfl r.2.2.2.1 rfl (o5.st' 2 rfl (HL.mk eY (r.1,r.2.1,r.2.2.1,s,r.2.2.2.2)).toArray rfl rfl (zO rfl) fun w7 o7 f7=>oC o7 2 rfl (r.1,r.2.1,r.2.2.1,s,r.2.2.2.2) rfl (o7.st' 0 rfl _ (iI rfl) rfl (zM _) fun w8 o8 f8=>oC o8 0 rfl (r.1,r.2.1,r.2.2.1,s,r.2.2.2.2) rfl ?_));have E:=h.q7 o8.fr;have ah:=(V.q8 f7 fun x u h=>by have:=O x u;have:=zE.1 h;omega).q8 f8 fun x u h=>by have:=O x u;have:=zE.1 h;omega
 exact kk (r.1,r.2.1,r.2.2.1,s,r.2.2.2.2) w8 _ ⟨E.acc,E.jR,E.jU,xq ah Bp hS fun x u=>zL o.fr.size (O x u),E.mA,E.mI,E.kM,E.told,E.gone⟩ o8.fr
def qzH{r:oW}{j8:Int}(h:RB S w r b)(hl:b.size<=100000)(U:∀s B w',eZ iB 4 w' s (ie b.due j8 most) B->Fr [] w w'->(∀x∈B,w.heap.size<=x)->K s w'): cW 43 [.agg (HL.mk eY r).toArray,.int .u64 j8,.i most] dd w K:=by
 refine qfO ?_;have aj:b.due.length<=100000:=(by unfold Bk.size at hl;omega);refine oB (oE [] w) fun r1 Q _ V o=>oB (oE [] Q) fun r7 w4 e4 f4 o2=>?_;have aa:=(h.q7 V).due;unfold ie at U;generalize hp:(fun d:HL ib=>decide (d.1<=j8))=p at U;refine jT (fun t w'=>∃n:Nat,∃B,t.2=n/\n<=b.due.length/\eZ iB 4 w' t.1 ((b.due.take n).filter p) B/\((b.due.take n).filter p).length<=most.toNat/\Fr [] Q w'/\∀x∈B,Q.heap.size<=x) (fun t _=>b.due.length-t.2.toNat) ⟨0,[r7],rfl,yX _,eZ.none (o2.at (i:=0) rfl),yX _,f4,fun x C=>by rw[zE.1 C];omega⟩ ?_;rintro⟨s,q⟩ w5 ⟨n,B,hq,hn,J,hm,O,R⟩ X hX;dsimp only at hq J⊢;subst hq;have o5:=o.q7 O;have G:dX iB 4 S w5 r.2.2.2.1 b.due:=aa.q7 O;have ap:r.2.2.2.1.len=b.due.length:=G.1;have hs:=J.len;refine tN (decide (n<b.due.length/\(s.len:Int)<most)) w5 (fun M hM=>?_) ?_;refine oA o5 0 rfl r.2.2.2.1 rfl (eH (fun u=>?_) (fun u=>?_));have u:=zC u;rw[show decide ((s.len:Int)<most)=decide (n<b.due.length/\(s.len:Int)<most) from decide_eq_decide.2 ⟨fun h=>⟨oJ,h⟩,fun h=>h.2⟩];exact hM;have u:=zB u;rw[show decide (n<b.due.length/\(s.len:Int)<most)=false from zU fun h=>u oJ] at hM;exact hM;apply eH<;>intro u;obtain⟨E,aq⟩:=zC u;have C:=zA E;have ct:(b.due.take (n+1)).filter p=(b.due.take n).filter p++if p b.due[n] then [b.due[n]] else []:=by rw[yG E,xC];congr 1;by_cases h:p b.due[n];simp[h];simp[h]
 generalize b.due[n]=x at C ct;have ar:((b.due.take n).filter p).length<=100000:=zL (length_filter_le _ _) (by rw[yL];omega);refine iQ (fun s' w'=>∃B',eZ iB 4 w' s' ((b.due.take (n+1)).filter p) B'/\((b.due.take (n+1)).filter p).length<=most.toNat/\Fr [] Q w'/\∀x∈B',Q.heap.size<=x) ?_ fun s' w' ⟨B',b',m',f',n'⟩=>hX _ _ ⟨n+1,B',by dsimp only;rw[gd _ oJ];rfl,E,b',m',f',n'⟩ (by dsimp only;rw[gd _ oJ];omega);refine oA o5 0 rfl r.2.2.2.1 rfl (dX.Dj (c:=.int .u64) G n rfl C oM (y:=x.1) rfl ?_);rw[ct,show (decide (x.1<=j8))=p x by rw[<- hp]];apply eH<;>intro I;rw[if_pos I];refine oA o5 0 rfl r.2.2.2.1 rfl (dX.oT (y:=x) G n rfl C rfl rfl (AN J oJ fun s7 B7 w7 b7 f7 n7=>⟨B7,b7,by rw[zF,xM];omega,O.j6 f7 fun x C=>.inr (R x C),fun x C=>(n7 x C).elim (R x) (zL O.size)⟩));rw[if_neg (by rw[I];decide),xH];exact⟨B,J,hm,O,R⟩
 ·have u:=zB u;have e:(b.due.filter p).take most.toNat=(b.due.take n).filter p:=by
   conv=>lhs;rw[<- xE n b.due,xC]
   by_cases E:n<b.due.length;have:((b.due.take n).filter p).length=most.toNat:=by have:¬(s.len:Int)<most:=fun h=>u ⟨E,h⟩;omega
   exact take_left' this;rw[drop_of_length_le oJ,filter_nil,xH];exact zS hm
  rw[<- e] at J;exact U s B w5 J (V.trans O) fun x C=>zL V.size (R x C)
section
section
variable {w:World}
def AR{k:Int}{K:Bool->WP}(h:0<=x/\x<65536)(E:0<k)(u:K (hasB x k) w):cW 54 [.int .u16 x,.int .u16 k] df w K:=by refine qiU ?_;have C:0<=x / k:=Int.ediv_nonneg h.1 oJ;have G:x / k<=x:=Int.ediv_le_self _ h.1;refine me oJ ?_;rw[Int.tdiv_eq_ediv_of_nonneg h.1,uA _ oJ,Int.tmod_eq_emod_of_nonneg C];rw[show (x / k%2==1)=hasB x k by unfold hasB;by_cases e:x / k%2=1;simp[e];simp[e]];exact u
def vv (x k:Int):Int:=if hasB x k then x else x+k
def qzo(u:0<=x/\x<65536):(hasB x 16=true->16<=x)/\(hasB x 16=false->x<65520):=by unfold hasB;exact⟨fun h=>by have:=zC h;omega,fun h=>by have:=zB h;omega⟩
def qnJ{is:Bool}{K:Int->WP}(E:0<=x/\x<65536)(u:K (if is then vv x 16 else mJ x 16) w):cW 67 [.int .u16 x,.bool is] dw w K:=by refine qgy<|AR E oM ?_;have h:=qzo E;unfold vv mJ at u;generalize hasB x 16=c at u h;refine tN (is&&!c) w (fun M C=>?_) ?_;cases is;exact cond_false rfl C;exact cond_true rfl C;cases is;refine cond_false rfl (tN c w (fun M C=>cond_true rfl C) ?_);cases c;exact cond_false rfl u;refine cond_true rfl ?_;rw[uA _ (by have:=h.1 rfl;omega)];exact u;cases c;refine cond_true rfl ?_;rw[uA _ (by have:=h.2 rfl;omega)];exact u;exact cond_false rfl (tN false w (fun M C=>cond_false rfl C) (cond_false rfl u))
def qwl{a b:HL ib}{K:Bool->WP}(u:∀w',Fr [] w w'->K (mG a b) w'):cW 71 [.agg #[.int .u64 a.1,.int .u64 a.2.1,.int .u64 a.2.2.1,.int .u64 a.2.2.2],.agg #[.int .u64 b.1,.int .u64 b.2.1,.int .u64 b.2.2.1,.int .u64 b.2.2.2]] df w K:=by refine qhy<|oB (oE [] w) fun r1 w1 _ C o=>oB o fun r3 w2 _ E o=>oA o 1 rfl a.1 rfl (oA o 0 rfl b.1 rfl ?_);have u:=u w2 o.fr;unfold mG at u;apply eH<;>intro h;rw[yA (.inl (zC h))] at u;exact u;have h:=zB h;refine oA o 1 rfl a.1 rfl (oA o 0 rfl b.1 rfl (eH (fun e=>?_) (fun e=>?_)));have e:a.1=b.1:=eq_of_beq e;refine oA o 1 rfl a.2.1 rfl (oA o 0 rfl b.2.1 rfl ?_);rw[show decide (a.1<b.1\/a.1=b.1/\a.2.1<b.2.1)=decide (a.2.1<b.2.1) from decide_eq_decide.2 ⟨fun q=>q.elim (fun q=>absurd q h) fun q=>q.2,fun q=>.inr ⟨e,q⟩⟩] at u;exact u;have e:a.1≠b.1:=ne_of_beq_false e;rw[zU fun q=>q.elim h fun q=>e q.1] at u;exact u
def qtV{s:Int}{K:HL nd->WP}(h:∀w',Fr [] w w'->K (rowOf a s n) w'):cW 56 [.agg (HL.mk fq a).toArray,.b s,.int .u64 n] [.agg nd] w K:=by refine qiV<|oB (oE [] w) fun r1 w1 _ C o=>oB o fun r3 w2 _ E o=>oC o 1 rfl (_,_) rfl (oC o 1 rfl (_,_) rfl (oC o 1 rfl (_,_) rfl (oC o 1 rfl (_,_) rfl ?_)));exact o.st' 0 rfl _ (iI rfl) rfl (zM _) fun u o _=>oC o 0 rfl (rowOf a s n) rfl (h u o.fr)
end
end
def se (d:HL ib):Bool->List (HL ib)->List (HL ib)
 | c,[]=>if c then [] else [d]
 | c,x::r=>(if c=false/\mG d x=true then [d] else [])++x::se d (c||mG d x) r
def qqi{d:HL ib}:∀l,se d true l=l
 | []=>rfl
 | x::r=>by rw[se,if_neg (fun h=>nomatch h.1),Bool.true_or,qqi r];rfl
def quk{d:HL ib}:∀l,se d false l=ke d l
 | []=>rfl
 | x::r=>by rw[se,ke,Bool.false_or];by_cases h:mG d x=true;rw[if_pos ⟨rfl,h⟩,if_pos h,h,qqi];rfl;rw[if_neg fun q=>h q.2,if_neg h,Bool.eq_false_iff.2 h,quk r];rfl
def qu6{r:oW}{K:oW->WP}(h:RB S w r b)(hl:b.size<=100000)(hS:∀x∈S,x<w.heap.size)(kk:∀r' w',RB S w' r' (b.jA d)->Fr [] w w'->K r' w'): cW 31 [.agg (HL.mk eY r).toArray,.agg #[.int .u64 d.1,.int .u64 d.2.1,.int .u64 d.2.2.1,.int .u64 d.2.2.2]] [.agg eY] w K:=by
 refine qeE ?_;have aq:b.due.length<=100000:=(by unfold Bk.size at hl;omega);refine oB (oE [] w) fun r1 w1 _ f1 o=>oB o fun r3 w2 _ f2 o=>oB o fun r5 w3 _ f3 o=>oC o 2 rfl r rfl (oC o 1 rfl d rfl ?_);have ar:=o.fr.size;have l1:r1<w3.heap.size:=fJ (o.at (i:=2) rfl);have l5:r5<w3.heap.size:=fJ (o.at (i:=0) rfl);have n1:w.heap.size<=r1:=(o.own _ (yF (i:=2) rfl)).elim (fun h=>nomatch h) id;have n5:w.heap.size<=r5:=(o.own _ (yF (i:=0) rfl)).elim (fun h=>nomatch h) id;have au:∀x∈r1::r5::S,x<w3.heap.size:=fun x u=>by rcases zG.1 u with rfl|u;exact l1;rcases zG.1 u with rfl|u;exact l5;exact yD (hS x u) o.fr.size
 have h0:RB (r1::r5::S) w r b:=h.q8 (.refl _ _) fun x u=>by rcases zG.1 u with rfl|u;exact .inr n1;rcases zG.1 u with rfl|u;exact .inr n5;exact .inl u
 refine qnG (d:=d) (h0.q7 o.fr) hl au fun r' w4 _ h4 f4=>(o.q7 f4).st' 2 rfl _ (iI rfl) rfl (zM _) fun I o f5=>?_;have h5:=h4.q8 (f5.mono fun x u _=>by rw[zE.1 u];exact mem_cons_self) fun x u=>.inl u;have z5:w3.heap.size<=I.heap.size:=zL f4.size f5.size;have av:(ik d b.due).length<=100000:=zL (length_filter_le _ _) aq;have Q:dX iB 4 (r1::r5::S) I r'.2.2.2.1 (ik d b.due):=h5.due;have V:(b.jA d).due=ke d (ik d b.due):=rfl;generalize ik d b.due=L at av Q V;have aU:r'.2.2.2.1.len=L.length:=Q.1;refine oB (oE [] I) fun r7 w6 e6 f6 o2=>jT (fun t w'=>∃n:Nat,∃B C,t.2.2=n/\n<=L.length/\eZ iB 4 w' t.1 C B/\C++se d t.2.1 (L.drop n)=ke d L/\C.length<=2*n/\Fr [] I w'/\∀x∈B,I.heap.size<=x) (fun t _=>L.length-t.2.2.toNat) ⟨0,[r7],[],rfl,yX _,eZ.none (o2.at (i:=0) rfl),quk L,zM _,f6,fun x u=>by rw[zE.1 u];omega⟩ ?_;rintro⟨s,c,q⟩ w7 ⟨n,B,C,hq,hn,hb,R,aY,f7,nB⟩ X hX;dsimp only at hq hb R⊢;subst hq;have o7:=o.q7 f7;have aw:=Q.q7 f7;refine oA o7 2 rfl r'.2.2.2.1 rfl (eH (fun hc=>?_) (fun hc=>?_));have E:n<L.length:=(by have:=zC hc;omega);have u:=zA E;rw[zY E,se] at R;generalize L[n]=x at u R;refine iQ (fun z w'=>∃B',z.2=(c||mG d x)/\eZ iB 4 w' z.1 (C++if c=false/\mG d x=true then [d] else []) B'/\Fr [] I w'/\∀x∈B',I.heap.size<=x) ?_ ?_;refine iQ (fun z w'=>z=decide (c=false/\mG d x=true)/\Fr [] w7 w') ?_ ?_;cases c;refine cond_true rfl (oC o7.drew 1 rfl d rfl (oA o7.drew 2 rfl r'.2.2.2.1 rfl (dX.oT (y:=x) aw.drew n rfl u rfl rfl (qwl fun w8 f8=>⟨?_,(Fr.refl [] w7).drew.trans f8⟩))));cases mG d x<;>simp;exact cond_false rfl ⟨oL,(Fr.refl [] w7).drew⟩;rintro z w8 ⟨rfl,f8⟩;have ai:=hb.q7 f8;apply eH<;>intro J;have J:=zC J;rw[if_pos J];refine oC (o7.q7 f8) 1 rfl d rfl (AN ai oJ fun s9 B9 w9 b9 G O=>⟨B9,by dsimp only;rw[J.2,Bool.or_true],b9,(f7.trans f8).j6 G fun x u=>.inr (nB x u),fun x u=>(O x u).elim (nB x) (zL (f7.trans f8).size)⟩);have J:=zB J;rw[if_neg J,xH];exact⟨B,by dsimp only;cases c<;>simp at J⊢;exact J,ai,f7.trans f8,nB⟩;rintro⟨s9,c9⟩ w9 ⟨B9,rfl,b9,G,O⟩;dsimp only at b9⊢;refine oA (o.q7 G) 2 rfl r'.2.2.2.1 rfl (dX.oT (y:=x) (Q.q7 G) n rfl u rfl rfl (AN b9 (by rw[zF];split<;>simp<;>omega) fun a1 az aA aB U aC=>?_));refine hX _ _ ⟨n+1,az,_,by dsimp only;rw[gd _ oJ];rfl,E,aB,by rw[<- R];simp only[zV,xJ,xI],by rw[zF,zF];split<;>simp<;>omega,G.j6 U fun x u=>.inr (O x u),fun x u=>(aC x u).elim (O x) (zL G.size)⟩ (by dsimp only;rw[gd _ oJ];omega);have E:n=L.length:=(by have:=zB hc;omega);subst E;rw[drop_length,se] at R;refine iQ (fun z w'=>∃B',eZ iB 4 w' z (ke d L) B'/\Fr [] I w'/\∀x∈B',I.heap.size<=x) ?_ ?_;cases c;rw[if_neg oM] at R;refine cond_true rfl (oC o7 1 rfl d rfl (AN hb oJ fun s9 B9 w9 b9 G O=>⟨B9,by rw[<- R];exact b9,f7.j6 G fun x u=>.inr (nB x u),fun x u=>(O x u).elim (nB x) (zL f7.size)⟩));rw[if_pos rfl,xH] at R;exact cond_false rfl ⟨B,by rw[<- R];exact hb,f7,nB⟩;rintro s9 w9 ⟨B9,b9,G,O⟩;refine (o.q7 G).st' 2 rfl (HL.mk eY (r'.1,r'.2.1,r'.2.2.1,s9,r'.2.2.2.2)).toArray rfl rfl (zO rfl) fun aA ak U=>oC ak 2 rfl (r'.1,r'.2.1,r'.2.2.1,s9,r'.2.2.2.2) rfl (ak.st' 0 rfl _ (iI rfl) rfl (zM _) fun aD al am=>oC al 0 rfl (r'.1,r'.2.1,r'.2.2.1,s9,r'.2.2.2.2) rfl ?_);have g9:=h5.q7 G;have aE:=g9.q8 (U.mono fun x u _=>by rw[zE.1 u];exact mem_cons_self) fun x u=>.inl u;have hr:=aE.q8 (S':=S) (am.mono fun x u _=>by rw[zE.1 u];exact zN _ mem_cons_self) fun x u=>.inl (zN _ (zN _ u));have an:=(b9.q8 U fun x u h=>by have:=O x u;have:=zE.1 h;omega).q8 am fun x u h=>by have:=O x u;have:=zE.1 h;omega
 exact kk (r'.1,r'.2.1,r'.2.2.1,s9,r'.2.2.2.2) aD ⟨hr.acc,hr.jR,hr.jU,by rw[V];exact xq (w0:=I) an Bp (fun x u=>yD (hS x u) (zL ar z5)) O,hr.mA,hr.mI,hr.kM,hr.told,hr.gone⟩ al.fr
end
section
open Go Go.Pt List
open Go.IntKind (wrap)
open Classical
attribute [local irreducible] ld dK ic nK jx eT st new idx jK jF fV jI jl mp gK nn call dW inv run fl jf join loop held ext kW eU m8 nQ nT IntKind.wrap
end
section
open Go Go.Pt List
open Go.IntKind (wrap)
open Classical
attribute [local irreducible] ld dK ic nK jx eT st new idx jK jF fV jI jl mp gK nn call dW inv run fl jf join loop held ext kW eU m8 nQ nT IntKind.wrap
variable {K:oW->WP} {S:List Nat} {w:World}
def qz3{s:Sl}{i:Int}{k:Nat}{p:Prop}{K:Addr->Prop}(u:p)(h:idx s i k K):idx s i k fun a=>gK p (K a):=by unfold idx at h⊢;obtain⟨a,C,E,G⟩:=h;exact⟨a,C,E,me u G⟩
def Gt(x:Kp):∀u∈pf x,u.oneCell'=true:=all_eq_true.1 rfl
def qAQ:∃i,prog.info? xd=some i/\i.zero=some (.agg (pf uE).toArray)/\i.size=18/\i.bytes=128:=uj oK
def qu7{r:oW}{b:Bk}{k:Kp}(h:RB S w r b)(hl:b.size<=100000)(hS:∀x∈S,x<w.heap.size)(kk:∀r' w',RB S w' r' (b.gi k)->Fr [] w w'->K r' w'): cW 26 [.agg (HL.mk eY r).toArray,.agg (pf k).toArray] [.agg eY] w K:=by
 refine qcZ ?_;have ah:b.jR.length<=100000/\b.mA.length<=100000/\b.mI.length<=100000:=(by unfold Bk.size at hl;omega);obtain⟨i,hi,hz,ai,aj⟩:=qAQ;refine oB (oE [] w) fun r1 w1 _ f1 o=>oB o fun r3 w2 _ f2 o=>oB o fun E w3 _ f3 o=>oC o 1 rfl k.1 rfl (oB o fun r8 w4 _ f4 o=>o.st' 0 rfl _ (iI rfl) rfl (zM _) fun w5 o f5=>?_);have l1:r1<w5.heap.size:=fJ (o.at (i:=3) rfl);have l5:E<w5.heap.size:=fJ (o.at (i:=1) rfl);have n1:w.heap.size<=r1:=(o.own _ (yF (i:=3) rfl)).elim (fun h=>nomatch h) id;have n5:w.heap.size<=E:=(o.own _ (yF (i:=1) rfl)).elim (fun h=>nomatch h) id;have ak:∀x∈r1::E::S,x<w5.heap.size:=fun x u=>by rcases zG.1 u with rfl|u;exact l1;rcases zG.1 u with rfl|u;exact l5;exact yD (hS x u) o.fr.size
 have h0:RB (r1::E::S) w r b:=h.q8 (.refl _ _) fun x u=>by rcases zG.1 u with rfl|u;exact .inr n1;rcases zG.1 u with rfl|u;exact .inr n5;exact .inl u
 have h5:=h0.q7 o.fr;have C:∀ {w w':World},Fr [r1] w w'->Fr (r1::E::S) w w':=fun f=>f.mono fun x u _=>by rw[zE.1 u];exact mem_cons_self
 refine oA o 3 rfl r.2.2.2.2.1 rfl (oC o 0 rfl (k.1.2.2.1,k.1.2.2.2.1) rfl (oA o 0 rfl k.1.2.2.2.2.2.2.2.2.2.2.2.2.2.2.2 rfl (oC o 0 rfl (k.1.1,k.1.2.1) rfl (qrB (m:=wT k.1) h5.mA ah.2.1 ak fun s6 w6 d6 I=>?_))));refine (o.q7 I).st' 3 rfl (HL.mk eY (r.1,r.2.1,r.2.2.1,r.2.2.2.1,s6,r.2.2.2.2.2)).toArray rfl rfl (zO rfl) fun w7 o U=>?_;have h7:=(h5.q7 I).q8 (C U) fun x u=>.inl u;have d7:=d6.q8 (C U) fun x u=>.inl u;have z7:w5.heap.size<=w7.heap.size:=zL I.size U.size;refine oA o 3 rfl r.2.2.2.2.2.1 rfl (oC o 0 rfl (k.1.2.2.2.2.1,k.1.2.2.2.2.2.1) rfl (oA o 0 rfl k.1.2.2.2.2.2.2.2.2.2.2.2.2.2.2.2 rfl (oC o 0 rfl (k.1.1,k.1.2.1) rfl (qrB (m:=AO k.1) h7.mI ah.2.2 (fun x u=>yD (ak x u) z7) fun s8 w8 aA f8=>?_))));refine (o.q7 f8).st' 3 rfl (HL.mk eY (r.1,r.2.1,r.2.2.1,r.2.2.2.1,s6,s8,r.2.2.2.2.2.2)).toArray rfl rfl (zO rfl) fun V o f9=>?_;have h9:=(h7.q7 f8).q8 (C f9) fun x u=>.inl u;have d9:=(d7.q7 f8).q8 (C f9) fun x u=>.inl u;have c9:=aA.q8 (C f9) fun x u=>.inl u;have a7:r1<V.heap.size:=fJ (o.at (i:=3) rfl);have a8:E<V.heap.size:=fJ (o.at (i:=1) rfl);refine oB (oE [] V) fun r7 a9 e7 J o2=>?_;have aD:=o.q7 J;refine oA aD 3 rfl r.2.1 rfl (wY (e:=xd) (o2.at (i:=0) rfl) (h9.q7 J).jR pr Gt oK hi hz ai rfl (by rw[aj];decide) oJ fun am B5 an b5 aF aG=>?_);have O:∀x∈B5,V.heap.size<=x:=fun x u=>(aG x u).elim (fun e=>oJ) fun h=>zL J.size h;have aa:Fr [] V an:=J.j6 aF fun x u=>.inr (by rw[zE.1 u];omega);have ao:∀(s:Sl) (l:List Kp) (B:List Nat) w6,eZ pf 18 w6 s l B->(∀x∈B,V.heap.size<=x)->Fr [] V w6->l=iu qJ k b.jR->Pt.st (dc r1 1) [s.v] w6 fun w7=>dK eY (dc r1) w7 fun t=>Pt.st (dc E) (HL.mk eY t) w7 fun w8=>dK eY (dc E) w8 fun t=>K t w8:=fun s l B bb hb hB Q e=>by
  refine (o.q7 Q).st' 3 rfl (HL.mk eY (r.1,s,r.2.2.1,r.2.2.2.1,s6,s8,r.2.2.2.2.2.2)).toArray rfl rfl (zO rfl) fun aq ar R=>oC ar 3 rfl (r.1,s,r.2.2.1,r.2.2.2.1,s6,s8,r.2.2.2.2.2.2) rfl (ar.st' 1 rfl _ (iI rfl) rfl (zM _) fun ab au av=>oC au 1 rfl (r.1,s,r.2.2.1,r.2.2.2.1,s6,s8,r.2.2.2.2.2.2) rfl ?_);have ac:Fr (r1::E::S) aq ab:=av.mono fun x u _=>by rw[zE.1 u];exact zN _ mem_cons_self
  have dn:∀x∈S,x∈r1::E::S\/aq.heap.size<=x:=fun x u=>.inl (zN _ (zN _ u));have hr:=((h9.q7 Q).q8 (C R) fun x u=>.inl u).q8 ac dn;have hd:=((d9.q7 Q).q8 (C R) fun x u=>.inl u).q8 ac dn;have hc:=((c9.q7 Q).q8 (C R) fun x u=>.inl u).q8 ac dn;have aJ:=(hb.q8 R fun x u h=>by have:=hB x u;have:=zE.1 h;omega).q8 av fun x u h=>by have:=hB x u;have:=zE.1 h;omega
  have aK:dX pf 18 S ab s (iu qJ k b.jR):=(by rw[<- e];exact xq aJ pr hS fun x u=>zL o.fr.size (hB x u));exact kk _ ab ⟨hr.acc,aK,hr.jU,hr.due,hd,hc,hr.kM,hr.told,hr.gone⟩ au.fr
 have bd:am.len=b.jR.length:=b5.len;refine jT (fun q w'=>∃n:Nat,q=n/\n<=b.jR.length/\Fr [] an w'/\((b.jR.take n).find? fun x=>decide (qJ x=qJ k))=none) (fun q _=>b.jR.length-q.toNat) ⟨0,rfl,yX _,.refl _ _,rfl⟩ ?_;rintro q w6 ⟨n,rfl,hn,I,hf⟩ X hX;apply cD<;>intro hc;have G:n<b.jR.length:=oJ;have u:=zA G;have b6:=(b5.q7 I).q7 (Fr.refl [] w6).drew;have o6:=o.q7 ((aa.trans I).drew);refine dX.ki (cl:=u2) (S:=[]) (b6.kF pr fun _ _ h=>nomatch h) n rfl u oM rfl (oC o6 0 rfl (qJ k) rfl (vK (a:=qJ b.jR[n]) ?_));have st:=AD (p:=fun x=>decide (qJ x=qJ k)) u hf;apply eH<;>intro hb;refine nH (o6.at (i:=2) rfl) (pf k) (pr k) rfl ?_
 have:=FK (K:=fun aL=>Pt.st (dc r1 1) [am.v] aL fun w7=>dK eY (dc r1) w7 fun t=>Pt.st (dc E) (HL.mk eY t) w7 fun w8=>dK eY (dc E) w8 fun t=>K t w8) b6 pr Gt (x:=k) rfl G fun w7 b7 U=>ao _ _ _ _ b7 O ((aa.trans I).drew.j6 U fun x u=>.inr (O x u)) (BV u hf (zC hb)).symm
 exact qz3 (pr k) this;rw[gd _ oJ];exact hX _ _ ⟨n+1,rfl,G,I.drew,st.2 hb⟩ oJ;have G:n=b.jR.length:=oJ;subst G;rw[xZ] at hf;have ad:=aa.trans I;refine nH ((o.q7 ad).at (i:=2) rfl) (pf k) (pr k) rfl (me (pr k) (eZ.push (e:=xd) (x:=k) (b5.q7 I) pr (Gt k) oK hi hz ai rfl rfl (by rw[aj];omega) oJ fun s7 B7 w7 b7 U n7=>ao _ _ _ _ b7 (fun x u=>(n7 x u).elim (O x) (zL ad.size)) (ad.j6 U fun x u=>.inr (O x u)) (BJ hf).symm))
abbrev HE:TypeId:=184
def CA(x:Ln):(nj x).length=12:=rfl
def qp8(x:Ln):∀u∈nj x,u.oneCell'=true:=all_eq_true.1 rfl
def qAR:∃i,prog.info? HE=some i/\i.zero=some (.agg (nj ((0,0),Fy)).toArray)/\i.size=12/\i.bytes=96:=uj oK
def qBt{α:Type}{enc:α->List Value}{k:Nat}{s:Sl}{l:List α}(h:dX enc k S w s l)(n:Nat){i:Int}{x:α}{K:Addr->Prop}(hi:i=n)(E:l[n]?=some x)(G:∀b o u T C,w.heap[b]?=some (.cells u T C)->(u.toList.drop o).take k=enc x->K (dc b o)):idx s i k K:=by subst hi;obtain⟨Q,b,o,I,_,u,T,C,J,O⟩:=dX.at h n E;refine rM I ⟨oJ,oJ⟩ ?_;rw[zJ];exact G b _ u T C J O
def qnH{r:oW}{b:Bk}{a0 a1:Int}{x:HL nd}(h:RB S w r b)(hl:b.size<=100000)(hS:∀x∈S,x<w.heap.size)(kk:∀r' w',RB S w' r' (b.nI ((a0,a1),x))->Fr [] w w'->K r' w'): cW 55 [.agg (HL.mk eY r).toArray,c8 a0 a1,.agg (HL.mk nd x).toArray] [.agg eY] w K:=by
 refine qeF ?_;have aH:b.kM.length<=100000:=(by unfold Bk.size at hl;omega);obtain⟨i,hi,hz,aa,ab⟩:=qAR;have hm:∃m:Ln,m=((a0,a1),x):=⟨_,rfl⟩;obtain⟨m,V⟩:=hm;rw[<- V] at kk;refine oB (oE [] w) fun r1 w1 _ f1 o=>oB o fun r3 w2 _ f2 o=>oB o fun r5 aJ _ aK o=>oB o fun r7 R _ f3 o=>oB (oE [] R) fun r9 w4 e4 f4 o2=>?_;have o4:=o.q7 f4;refine oA o4 3 rfl r.2.2.2.2.2.2.1 rfl (wY (e:=HE) (o2.at (i:=0) rfl) (h.q7 o4.fr).kM CA qp8 oK hi hz aa rfl (by rw[ab];decide) oJ fun s5 B5 w5 b5 f5 n5=>?_);have G:∀x∈B5,R.heap.size<=x:=fun x u=>(n5 x u).elim (fun e=>oJ) fun h=>zL f4.size h;have U:Fr [] R w5:=f4.j6 f5 fun x u=>.inr (by rw[zE.1 u];omega);have ac:∀(s:Sl) (l:List Ln) (B:List Nat) J,eZ nj 12 J s l B->(∀x∈B,R.heap.size<=x)->Fr [] R J->l=iu sK m b.kM->Pt.st (dc r1 6) [s.v] J fun w7=>dK eY (dc r1) w7 fun t=>Pt.st (dc r7) (HL.mk eY t) w7 fun w8=>dK eY (dc r7) w8 fun t=>K t w8:=fun s l B J C hB O e=>by
  refine (o.q7 O).st' 3 rfl (HL.mk eY (r.1,r.2.1,r.2.2.1,r.2.2.2.1,r.2.2.2.2.1,r.2.2.2.2.2.1,s,r.2.2.2.2.2.2.2)).toArray rfl rfl (zO rfl) fun w7 o7 f7=>oC o7 3 rfl (r.1,r.2.1,r.2.2.1,r.2.2.2.1,r.2.2.2.2.1,r.2.2.2.2.2.1,s,r.2.2.2.2.2.2.2) rfl (o7.st' 0 rfl _ (iI rfl) rfl (zM _) fun w8 o8 f8=>oC o8 0 rfl (r.1,r.2.1,r.2.2.1,r.2.2.2.1,r.2.2.2.2.1,r.2.2.2.2.2.1,s,r.2.2.2.2.2.2.2) rfl ?_);have Q:=h.q7 o8.fr;have l1:r1<R.heap.size:=fJ (o.at (i:=3) rfl);have l5:r7<R.heap.size:=fJ (o.at (i:=0) rfl);have al:=(C.q8 f7 fun x u h=>by have:=hB x u;have:=zE.1 h;omega).q8 f8 fun x u h=>by have:=hB x u;have:=zE.1 h;omega
  have am:dX nj 12 S w8 s (iu sK m b.kM):=(by rw[<- e];exact xq al CA hS fun x u=>zL o.fr.size (hB x u));exact kk _ w8 ⟨Q.acc,Q.jR,Q.jU,Q.due,Q.mA,Q.mI,am,Q.told,Q.gone⟩ o8.fr
 have aQ:s5.len=b.kM.length:=b5.len;refine jT (fun q w'=>∃n:Nat,q=n/\n<=b.kM.length/\Fr [] w5 w'/\((b.kM.take n).find? fun x=>decide (sK x=sK m))=none) (fun q _=>b.kM.length-q.toNat) ⟨0,rfl,yX _,.refl _ _,rfl⟩ ?_;rintro q J ⟨n,rfl,hn,O,hf⟩ X hX;apply cD<;>intro hc;have E:n<b.kM.length:=oJ;have u:=zA E;have b6:=(b5.q7 O).q7 (Fr.refl [] J).drew;have o6:=o.q7 ((U.trans O).drew);have r6:dX nj 12 [] J.drew s5 b.kM:=b6.kF CA fun _ _ h=>nomatch h;refine tN (decide (sK b.kM[n]=sK m)) J.drew (fun M hM=>?_) ?_;refine dX.ki (cl:=u2) r6 n rfl u oM rfl (oC o6 2 rfl (a0,a1) rfl (vK (a:=b.kM[n].1) ?_));apply eH<;>intro C;have C:=zC C;refine qBt r6 n rfl u fun b' o' cs T fr aq ar=>?_;simp only[Addr.q9];refine jM aq (nX (ma b.kM[n].2)) ?_ (oA o6 1 rfl (nX (ma x)) rfl ?_);have e:(nj b.kM[n])[10]?=some (.int .u64 (nX (ma b.kM[n].2))):=rfl;rw[<- ar,xB,if_pos oM,xA] at e;rw[<- xL];exact e;rw[show (nX (ma b.kM[n].2)==nX (ma x))=decide (sK b.kM[n]=sK m) by unfold sK;rw[C,V];by_cases e:nX (ma b.kM[n].2)=nX (ma x);simp[e];simp[e]];exact hM;have C:=zB C;rw[show decide (sK b.kM[n]=sK m)=false from zU fun e=>C (by rw[V] at e;exact (vB e).1)] at hM;exact hM;have st:=AD (p:=fun x=>decide (sK x=sK m)) u hf;apply eH<;>intro C;have hk:=zC C;have h1:b.kM[n].1=(a0,a1):=(by rw[V] at hk;exact (vB hk).1);refine oC o6 1 rfl x rfl (qt6 (j:=2) (x:=m) (vs:=HL.mk nd x) b6 CA rfl E rfl (zM _) (by rw[V,show nj b.kM[n]=nj (b.kM[n].1,b.kM[n].2) from rfl,h1];rfl) fun w7 b7 f7=>ac _ _ _ _ b7 G ((U.trans O).drew.j6 f7 fun x u=>.inr (G x u)) (BV u hf hk).symm);rw[gd _ oJ];exact hX _ _ ⟨n+1,rfl,E,O.drew,st.2 C⟩ oJ;have E:n=b.kM.length:=oJ;subst E;rw[xZ] at hf;have I:=U.trans O;refine oC (o.q7 I) 2 rfl (a0,a1) rfl (oC (o.q7 I) 1 rfl x rfl (eZ.push (e:=HE) (x:=m) (b5.q7 O) CA (qp8 m) oK hi hz aa rfl (by rw[V];rfl) (by rw[ab];omega) oJ fun s7 B7 w7 b7 f7 n7=>ac _ _ _ _ b7 (fun x u=>(n7 x u).elim (G x) (zL I.size)) (I.j6 f7 fun x u=>.inr (G x u)) (BJ hf).symm))
def qyc{r:oW}{b:Bk}{p:Pa}{n:Int}(h:RB S w r b)(hl:b.size+4<=100000)(hS:∀x∈S,x<w.heap.size)(hp:ee fq p.1)(ae:ee fq p.2.1)(kk:∀r' w',RB S w' r' (fi b p n)->Fr [] w w'->K r' w'): cW 19 [.agg (HL.mk eY r).toArray,.agg (kz p).toArray,.int .u64 n] [.agg eY] w K:=by
 refine qhU ?_;have z1:=wS (b:=b) (a:=p.1);have z2:=wS (b:=b.dQ p.1) (a:=p.2.1);have z3:=Ef (b:=(b.dQ p.1).dQ p.2.1) (a:=p.1) (s:=1) (n:=n);refine oB (oE [] w) fun r1 w1 _ f1 o=>oB o fun r3 w2 _ f2 o=>oB o fun I U _ f3 o=>oC o 2 rfl r rfl (oC o 1 rfl p.1 rfl ?_);have l1:r1<U.heap.size:=fJ (o.at (i:=2) rfl);have n1:w.heap.size<=r1:=(o.own _ (yF (i:=2) rfl)).elim (fun h=>nomatch h) id;have l5:I<U.heap.size:=fJ (o.at (i:=0) rfl);have n5:w.heap.size<=I:=(o.own _ (yF (i:=0) rfl)).elim (fun h=>nomatch h) id;have V:∀x∈r1::I::S,x<U.heap.size:=fun x u=>by rcases zG.1 u with rfl|u;exact l1;rcases zG.1 u with rfl|u;exact l5;exact yD (hS x u) o.fr.size
 have h0:RB (r1::I::S) w r b:=h.q8 (.refl _ _) fun x u=>(zG.1 u).elim (fun e=>.inr (by rw[e];exact n1)) fun u=>(zG.1 u).elim (fun e=>.inr (by rw[e];exact n5)) .inl;have J:∀ {w w':World},Fr [r1] w w'->Fr (r1::I::S) w w':=fun f=>f.mono fun x u _=>by rw[zE.1 u];exact mem_cons_self
 have up:∀ {w':World},U.heap.size<=w'.heap.size->∀x∈r1::I::S,x<w'.heap.size:=fun z x u=>yD (V x u) z;refine Df (h0.q7 o.fr) oJ V fun r6 w6 h6 f6=>(o.q7 f6).st' 2 rfl _ (iI rfl) rfl (zM _) fun w7 o f7=>oC o 2 rfl r6 rfl (oC o 1 rfl p.2.1 rfl ?_);have z7:=zL f6.size f7.size;refine Df (h6.q8 (J f7) fun x u=>.inl u) oJ (up z7) fun r8 w8 h8 f8=>(o.q7 f8).st' 2 rfl _ (iI rfl) rfl (zM _) fun w9 o f9=>?_;have z9:=zL z7 (zL f8.size f9.size);have h9:=h8.q8 (J f9) fun x u=>.inl u;simp only[Addr.q9];refine iQ (fun _ w'=>∃r',RB (r1::I::S) w' r' (ja ((b.dQ p.1).dQ p.2.1) p.1 1 n)/\U.heap.size<=w'.heap.size/\dR [] w w' [(I,.cells (HL.mk eY (dI,dI,dI,dI,dI,dI,dI,0,false,dI)).toArray 36 (0,0)),(r3,.cells (kz p).toArray qh (0,0)),(r1,.cells (HL.mk eY r').toArray 36 (0,0))]) ?_ ?_;refine oA o 1 rfl (i6 p.1) rfl (AR (ui hp) oM ?_);unfold ja;apply eH<;>intro e;rw[if_pos e];have o:=o.drew;refine oC o 2 rfl r8 rfl (oC o 1 rfl (gE p.1) rfl (oC o 1 rfl p.1 rfl (qtV fun aa E=>ka ((o.q7 E).cells 1 rfl rfl) ((o.q7 E).cells 2 rfl rfl) ?_)));refine qnH ((h9.q7 (Fr.refl [] w9).drew).q7 E) oJ (up (zL z9 E.size)) fun ai aj ak C=>((o.q7 E).q7 C).st' 2 rfl _ (iI rfl) rfl (zM _) fun al am G=>⟨ai,ak.q8 (J G) fun x u=>.inl u,zL z9 (zL E.size (zL C.size G.size)),am⟩;rw[if_neg (by rw[e];decide)];exact⟨r8,h9,z9,o⟩;rintro _ aa ⟨ab,O,Q,o⟩;have e5:fi b p n=ja (ja ((b.dQ p.1).dQ p.2.1) p.1 1 n) p.2.1 2 n:=rfl;rw[e5] at kk;generalize ja ((b.dQ p.1).dQ p.2.1) p.1 1 n=b3 at z3 O kk;refine iQ (fun _ w'=>∃r',RB (r1::I::S) w' r' (ja b3 p.2.1 2 n)/\U.heap.size<=w'.heap.size/\dR [] w w' [(I,.cells (HL.mk eY (dI,dI,dI,dI,dI,dI,dI,0,false,dI)).toArray 36 (0,0)),(r3,.cells (kz p).toArray qh (0,0)),(r1,.cells (HL.mk eY r').toArray 36 (0,0))]) ?_ ?_;refine oA o 1 rfl (i6 p.2.1) rfl (AR (ui ae) oM ?_);unfold ja;apply eH<;>intro e;rw[if_pos e];have o:=o.drew;refine oC o 2 rfl ab rfl (oC o 1 rfl (gE p.2.1) rfl (oC o 1 rfl p.2.1 rfl (qtV fun aj C=>ka ((o.q7 C).cells 1 rfl rfl) ((o.q7 C).cells 2 rfl rfl) ?_)));refine qnH ((O.q7 (Fr.refl [] aa).drew).q7 C) oJ (up (zL Q C.size)) fun an al ao G=>((o.q7 C).q7 G).st' 2 rfl _ (iI rfl) rfl (zM _) fun aQ ap ac=>⟨an,ao.q8 (J ac) fun x u=>.inl u,zL Q (zL C.size (zL G.size ac.size)),ap⟩;rw[if_neg (by rw[e];decide)];exact⟨ab,O,Q,o⟩;rintro _ aR ⟨R,aq,aT,o⟩;refine oC o 2 rfl R rfl (o.st' 0 rfl _ (iI rfl) rfl (zM _) fun ar ad au=>oC ad 0 rfl R rfl (kk R ar (aq.q8 (au.mono fun x u _=>by rw[zE.1 u];exact zN _ mem_cons_self) fun x u=>.inl (zN _ (zN _ u))) ad.fr))
def lQ (t:HL ig):Int:=t.2.2.2.2.2.2.2.2.2.2.2.1
def kD (t:HL ig):Int:=t.2.2.2.2.2.2.2.2.2.2.2.2.2.2.2
def oz (t:HL ig):Option Int:=if lQ t=0 then none else if kD t+lQ t<18446744073709551616 then some (kD t+lQ t) else none
def qyb{t:HL ig}{K:Int×Bool->WP}(C:ee ig t)(u:∀w',Fr [] w w'->K ((oz t).getD 0,(oz t).isSome) w'): cW 30 [.agg (HL.mk ig t).toArray] dG w K:=by
 refine qfP ?_;have G:0<=lQ t/\lQ t<4294967296:=yp C.2.2.2.2.2.2.2.2.2.2.2.1;have I:mu (kD t):=pj C.2.2.2.2.2.2.2.2.2.2.2.2.2.2.2;unfold oz at u;refine oB (oE [] w) fun r1 w1 _ J o=>oA o 0 rfl (lQ t) rfl (eH (fun h=>?_) (fun h=>?_));rw[if_pos (eq_of_beq h)] at u;exact u w1 J;rw[if_neg (ne_of_beq_false h)] at u;refine oA o 0 rfl (kD t) rfl (oA o 0 rfl (lQ t) rfl ?_);rw[qv (lQ t) oJ];refine BZ (a:=(0,kD t)) (b:=(0,lQ t)) ⟨pj qi,I⟩ ⟨pj qi,G.1,by dsimp only;omega⟩ fun w2 O=>?_;have e:lN (0,kD t) (0,lQ t)=some (rV (kD t+lQ t)):=by unfold lN wv;dsimp only;rw[iP];congr 2;omega
 rw[e];refine oB (o.q7 O) fun r3 Q _ R o=>o.st' 0 rfl _ (iI rfl) rfl (zM _) fun E o _=>oA o 0 rfl ((kD t+lQ t) / 18446744073709551616) rfl (eH (fun h=>?_) (fun h=>?_));have h:=zC h;rw[iN] at u;exact u E o.fr;have h:=zB h;rw[iP] at u;refine oA o 0 rfl (kD t+lQ t) ?_ (u E o.fr);show some (Value.int .u64 ((kD t+lQ t)%18446744073709551616))=_;rw[show (kD t+lQ t)%18446744073709551616=kD t+lQ t by omega];rfl
section
abbrev WF:FuncId:=134
structure Fi (w:World) (v:Value) (pb:Nat) (t:Int) (frm to:Key) (down:Bool) (WB:List Nat):Prop where
 val:∃ r1 r3 r5 r7 r9 s1 s2 B1 B2,v=.func (.func WF) #[] #[dH r1,dH r3,dH r5,dH r7,dH r9]/\WB=r1::r3::r5::r7::r9::(B1++B2)/\
  w.cell? (dc r1)=some (dH pb)/\w.cell? (dc r3)=some (.i t)/\w.cell? (dc r5)=some s1.v/\w.cell? (dc r7)=some s2.v/\w.cell? (dc r9)=some (.bool down)/\gF w s1 frm B1/\gF w s2 to B2
 lt:∀ b∈WB,b<w.heap.size
section
variable {dbk pb:Nat} {FD F:List Nat} {D:dM} {M:eQ} {k v:Nat} {frm to:Key} {down:Bool} {w:World}
structure Ii (yield:Value) (Yc:List Nat) (wb:World) (L:gu) (I:Nat->WP) (E:WP):Prop where
 stay:∀ i W W' Z,I i W->Fr Z W W'->(∀ b∈Z,wb.heap.size<=b)->I i W'
 take:∀ i (hi:i<L.length) W ks vs B1 B2 (K:Bool->WP),I i W->gF W ks L[i].1 B1->gF W vs L[i].2 B2->(∀ b∈B1++B2,wb.heap.size<=b)->wb.heap.size<=W.heap.size->(∀ W',Fr Yc W W'->I (i+1) W'->K true W')->(∀ W',E W'->K false W')->dW prog yield [ks.v,vs.v] df W K
end
end
end
section
open Go Go.Pt List
open Go.IntKind (wrap)
variable {a:HL fq} {b b':Bk} {d:HL ib} {i:gp} {l:List (HL ib)} {n s:Int} {side:HL ig->gp}
def E1{α κ:Type}[DecidableEq κ]{kf:α->κ}{a:α}{i:κ}:∀ {l:List α},(iu kf a l).find? (fun x=>decide (kf x=i))=if kf a=i then some a else l.find? fun x=>decide (kf x=i)
 | []=>by unfold iu;by_cases h:kf a=i;simp[h];simp[h]
 | x::r=>by unfold iu;by_cases e:kf x=kf a;rw[if_pos e,List.find?_cons,List.find?_cons,e];by_cases h:kf a=i;simp[h];simp[h];rw[if_neg e,List.find?_cons,List.find?_cons,E1 (l:=r)];by_cases h:kf a=i;rw[if_pos h,if_pos h,zU (by rw[<- h];exact e)];rw[if_neg h,if_neg h]
def Ax:eG (b.dQ a) i=if gE a=i then some a else eG b i:=E1
def qxO{x:gp×Int}:ln (b.fK x) i=if x.1=i then x.2 else ln b i:=by unfold ln Bk.fK;dsimp only;rw[E1];by_cases h:x.1=i;rw[if_pos h,if_pos h];rfl;rw[if_neg h,if_neg h]
def qpV:(ja b a s n).acc=b.acc/\(ja b a s n).jR=b.jR/\(ja b a s n).jU=b.jU/\(ja b a s n).due=b.due:=by unfold ja;split<;>exact⟨rfl,rfl,rfl,rfl⟩
def qvg{p:Pa}:(fi b p n).acc=((b.dQ p.1).dQ p.2.1).acc/\(fi b p n).jR=b.jR/\(fi b p n).jU=b.jU:=by unfold fi;obtain⟨h,u,C,_⟩:=qpV (b:=ja ((b.dQ p.1).dQ p.2.1) p.1 1 n) (a:=p.2.1) (s:=2) (n:=n);obtain⟨E,G,I,_⟩:=qpV (b:=(b.dQ p.1).dQ p.2.1) (a:=p.1) (s:=1) (n:=n);exact⟨h.trans E,u.trans G,C.trans I⟩
def tK (b:Bk) (d:HL ib):HL ig:=((hU b (mP d)).getD uE).1
def gl (side:HL ig->gp) (b:Bk) (i:gp) (l:List (HL ib)):Int:=(l.map fun d=>if side (tK b d)=i then wv (fB (tK b d)) else 0).sum
structure p4 (b:Bk):Prop where
 fit:∀ a∈b.acc,ee fq a
 Cd:∀ d∈b.due,ee ib d
 due:rB b.due
 has:∀ d∈b.due,∃ k x y,hU b (mP d)=some k/\rq k/\qJ k=mP d/\eG b (gb k.1)=some x/\eG b (gc k.1)=some y/\gb k.1≠gc k.1
 mA:∀ i a,eG b i=some a->gl gb b i b.due<=wv (fG a)
 mI:∀ i a,eG b i=some a->gl gc b i b.due<=wv (fM a)
def zy{a b:HL ib}:mG a b=true↔(lV a).1<(lV b).1\/(lV a).1=(lV b).1/\(lV a).2<(lV b).2:=yN
def qud{a b:HL ib}(h:mG a b=true):lV a≠lV b:=by rw[zy] at h;intro e;rw[e] at h;omega
def rB.tq(h:rB (d::l)):ik d (d::l)=l:=by unfold ik;rw[filter_cons,if_neg oL];exact filter_eq_self.2 fun x u=>yA fun e=>qud ((yJ.1 h).1 x u) e.symm
def rB.qt{f:HL ib->Int}{d:HL ib}:∀ {l:List (HL ib)},rB l->d∈l->(l.map f).sum=f d+((ik d l).map f).sum
 | x::r,h,u=>by
  by_cases e:x=d;subst e;rw[h.tq,xO,sum_cons];have u:d∈r:=(zG.1 u).resolve_left fun h=>e h.symm;have C:=yJ.1 h;have:ik d (x::r)=x::ik d r:=by unfold ik;rw[filter_cons,if_pos (yA (qud (C.1 d u)))]
  rw[this,xO,sum_cons,xO,sum_cons,rB.qt (l:=r) C.2 u];omega
def rB.sub{l':List (HL ib)}(h:rB l)(s:l'.Sublist l):rB l':=List.Pairwise.sublist s h
def BY:(ik d l).Sublist l:=filter_sublist
def rB.rest{r:List (HL ib)}(h:rB l)(s:(d::r).Sublist l):r.Sublist (ik d l):=by
 have:=s.filter fun x=>decide (lV x≠lV d)
 rw[show (d::r).filter (fun x=>decide (lV x≠lV d))=r from (h.sub s).tq] at this;exact this
def jL (a:HL fq):gp×gp:=((a.2.2.2.2.1,a.2.2.2.2.2.1),(a.2.2.2.2.2.2.2.2.1,a.2.2.2.2.2.2.2.2.2.1))
def qtK{t:HL ig}{p:Pa}(u:ee ig t)(C:ee fq p.1)(E:ee fq p.2.1)(O:wv (fB t)<=wv (fG p.1))(Q:wv (fB t)<=wv (fM p.2.1)): ∃q,gy t p=some q/\ee fq q.1/\ee fq q.2.1/\gE q.1=gE p.1/\gE q.2.1=gE p.2.1/\wv (fG q.1)=wv (fG p.1)-wv (fB t)/\fM q.1=fM p.1/\fG q.2.1=fG p.2.1/\wv (fM q.2.1)=wv (fM p.2.1)-wv (fB t)/\jL q.1=jL p.1/\jL q.2.1=jL p.2.1:=by have e1:pO (fG p.1) (fB t)=some (rV (wv (fG p.1)-wv (fB t))):=if_pos O;have G:pO (fM p.2.1) (fB t)=some (rV (wv (fM p.2.1)-wv (fB t))):=if_pos Q;have I:=(DB (ut C) (rh u) e1).1;have J:=(DB (uD E) (rh u) G).1;obtain⟨q,h⟩:∃q,gy t p=some q:=(by unfold gy;rw[e1,Option.bind_some,G,Option.map_some];exact⟨_,rfl⟩);refine⟨q,h,(BM u C E h).1,(BM u C E h).2,?_⟩;unfold gy at h;rw[e1,Option.bind_some,G,Option.map_some] at h;cases h;generalize rV (wv (fG p.1)-wv (fB t))=x at I⊢;generalize rV (wv (fM p.2.1)-wv (fB t))=y at J⊢;rw[<- I,<- J];refine⟨?_,?_,?_,?_,?_,?_,?_,?_⟩<;>dsimp only<;>split<;>rfl
def mE (b:Bk) (d:HL ib):Bk:=let q:=(gy (tK b d) (kB b (gb (tK b d)) (gc (tK b d)))).getD pX;(b.dQ q.1).dQ q.2.1
def wH:(kL b d n).acc=(mE b d).acc/\(kL b d n).jR=b.jR/\(kL b d n).due=ik d b.due/\(kL b d n).jU=(b.fK (gq (tK b d),4)).jU:=by obtain⟨u,C,h⟩:=qvg (b:=b) (p:=(gy (tK b d) (kB b (gb (tK b d)) (gc (tK b d)))).getD pX) (n:=n);refine⟨u,C,?_,?_⟩;show ik d (fi b _ n).due=_;rw[qnN];show iu _ _ (fi b _ n).jU=_;unfold tK at h;rw[h];rfl
def AA(h:b.acc=b'.acc)(i:gp):eG b i=eG b' i:=by unfold eG;rw[h]
def qqW(h:b.jR=b'.jR)(i:gp):hU b i=hU b' i:=by unfold hU;rw[h]
def qBg(h:b.jR=b'.jR)(d:HL ib):tK b d=tK b' d:=by unfold tK;rw[qqW h]
def GS(h:b.jR=b'.jR)(i:gp)(l:List (HL ib)):gl side b i l=gl side b' i l:=by unfold gl;simp only[qBg h]
def sO(h:eG b i=some a):a∈b.acc/\gE a=i:=⟨mem_of_find?_eq_some h,by simpa using List.find?_some h⟩
def qsy(h:∀d∈l,ee ig (tK b d)):0<=gl side b i l:=by
 induction l with
 | nil=>exact Int.le_refl _
 | cons x r ih=>
  have:=ih fun d u=>h d (zN _ u)
  have C:=uF (rh (h x mem_cons_self));unfold gl at this⊢;rw[xO,sum_cons];split<;>omega
structure Cm (b:Bk) (d:HL ib):Prop where
 ok:∃ k q,hU b (mP d)=some k/\gy k.1 (kB b (gb k.1) (gc k.1))=some q
 ul:∀ i a',eG (mE b d) i=some a'->∃ a,eG b i=some a/\ee fq a'/\wv (fG a')=wv (fG a)-(if gb (tK b d)=i then wv (fB (tK b d)) else 0)/\wv (fM a')=wv (fM a)-(if gc (tK b d)=i then wv (fB (tK b d)) else 0)/\jL a'=jL a
 all:∀ i a,eG b i=some a->∃ a',eG (mE b d) i=some a'
 jU:gq (tK b d)=mP d
 len:(mE b d).acc.length=b.acc.length
def Cn{α κ:Type}[DecidableEq κ]{kf:α->κ}{a:α}:∀ {l:List α},(l.find? fun x=>decide (kf x=kf a))≠none->(iu kf a l).length=l.length
 | [],h=>absurd rfl h
 | x::r,h=>by unfold iu;by_cases e:kf x=kf a;rw[if_pos e];rfl;rw[if_neg e,yI,yI,Cn (l:=r) (by rw[List.find?_cons,zU e] at h;exact h)]
def p4.Q9(h:p4 b)(hd:d∈b.due):Cm b d:=by
 obtain⟨k,x,y,hk,ab,ac,G,I,J⟩:=h.has d hd;have O:tK b d=k.1:=(by unfold tK;rw[hk];rfl);have ad:=h.fit x (sO G).1;have ae:=h.fit y (sO I).1;have nn:∀(side:HL ig->gp) i,0<=gl side b i (ik d b.due):=fun side i=>qsy fun e he=>by obtain⟨k',_,_,af,Q,_⟩:=h.has e (BY.subset he);unfold tK;rw[af];exact Q.1
 have g1:wv (fB k.1)<=wv (fG x):=(by have C:=h.mA _ _ G;unfold gl at C;rw[h.due.qt hd] at C;have h2:=nn gb (gb k.1);unfold gl at h2;rw[O,if_pos rfl] at C;omega);have g2:wv (fB k.1)<=wv (fM y):=(by have C:=h.mI _ _ I;unfold gl at C;rw[h.due.qt hd] at C;have h2:=nn gc (gc k.1);unfold gl at h2;rw[O,if_pos rfl] at C;omega);have ep:kB b (gb k.1) (gc k.1)=(x,y,true,true):=(by unfold kB;rw[G,I];rfl);obtain⟨q,hq,f1,f2,i1,i2,w1,w2,w3,w4,w5,w6⟩:=qtK (p:=(x,y,true,true)) ab.1 ad ae g1 g2;have w1:wv (fG q.1)=wv (fG x)-wv (fB k.1):=w1;have w2:fM q.1=fM x:=w2;have w3:fG q.2.1=fG y:=w3;have w4:wv (fM q.2.1)=wv (fM y)-wv (fB k.1):=w4;have R:gy k.1 (kB b (gb k.1) (gc k.1))=some q:=(by rw[ep];exact hq);have E:gE q.1=gb k.1:=i1.trans (sO G).2;have U:gE q.2.1=gc k.1:=i2.trans (sO I).2;have e1:mE b d=(b.dQ q.1).dQ q.2.1:=(by unfold mE;rw[O,R];rfl);have V:∀i,eG (mE b d) i=if gc k.1=i then some q.2.1 else if gb k.1=i then some q.1 else eG b i:=fun i=>by rw[e1,Ax,Ax,E,U]
 refine⟨⟨k,q,hk,R⟩,fun i a' u=>?_,fun i a u=>?_,by rw[O];exact ac,?_⟩
 ·rw[V] at u;rw[O];split at u
  ·next e=>
   cases u;subst e;exact⟨y,I,f2,by rw[if_neg J,w3];omega,by rw[if_pos rfl];exact w4,w6⟩
  ·next e=>
   split at u
   ·next e'=>
    cases u;subst e';exact⟨x,G,f1,by rw[if_pos rfl];exact w1,by rw[if_neg e,w2];omega,w5⟩
   ·next e'=>exact⟨a',u,h.fit _ (sO u).1,by rw[if_neg e'];omega,by rw[if_neg e];omega,rfl⟩
 rw[V];split;exact⟨_,rfl⟩;split;exact⟨_,rfl⟩;exact⟨a,u⟩;rw[e1];have l1:(b.dQ q.1).acc.length=b.acc.length:=Cn (by rw[E];show eG b _≠none;rw[G];exact fun h=>nomatch h);rw[<- l1];refine Cn ?_;show eG (b.dQ q.1) (gE q.2.1)≠none;rw[Ax,E,U,if_neg J,I];exact fun h=>nomatch h
def p4.one(h:p4 b)(U:d∈b.due):p4 (kL b d n):=by
 obtain⟨I,et,J,_⟩:=wH (b:=b) (d:=d) (n:=n);have t:=h.Q9 U;have O:∀x∈ik d b.due,x∈b.due:=fun x E=>BY.subset E;refine⟨fun a C=>?_,?_,?_,?_,?_,?_⟩;rw[I] at C;unfold mE at C;obtain⟨k,q,V,hq⟩:=t.ok;have e:tK b d=k.1:=(by unfold tK;rw[V];rfl);rw[e,hq] at C;have hT:∀i,ee fq ((eG b i).getD kN):=fun i=>by
  cases E:eG b i with
  | none=>exact AP
  | some a=>exact h.fit a (sO E).1
 obtain⟨k',_,_,Q,R,_⟩:=h.has d U;rw[V] at Q;cases Q;have hf:=BM R.1 (hT _) (hT _) hq;rcases A1 C with rfl|C;exact hf.2;rcases A1 C with rfl|C;exact hf.1;exact h.fit a C;rw[J];exact fun x E=>h.Cd x (O x E);rw[J];exact h.due.sub BY;rw[J];intro x E;obtain⟨k,u,v,V,ab,ac,hu,hv,ad⟩:=h.has x (O x E);obtain⟨u',ae⟩:=t.all _ _ hu;obtain⟨v',af⟩:=t.all _ _ hv;exact⟨k,u',v',by rw[qqW et];exact V,ab,ac,by rw[AA I];exact ae,by rw[AA I];exact af,ad⟩;intro i a C;rw[AA I] at C;obtain⟨a0,G,_,hw,_,_⟩:=t.ul i a C
 have:=h.mA i a0 G
 rw[J,GS et,hw];unfold gl at this⊢;rw[h.due.qt U] at this;omega;intro i a C;rw[AA I] at C;obtain⟨a0,G,_,_,hw,_⟩:=t.ul i a C
 have:=h.mI i a0 G
 rw[J,GS et,hw];unfold gl at this⊢;rw[h.due.qt U] at this;omega
def Bk.many (b:Bk):Nat:=b.size+5*b.due.length
def qqw(h:d∈b.due):(kL b d n).many<=b.many/\b.size+5<=b.many:=by
 have E:(kL b d n).due.length<b.due.length:=(by rw[(wH (b:=b) (d:=d) (n:=n)).2.2.1];unfold ik;rw[length_filter_lt_length_iff_exists];exact⟨d,h,oL⟩);have z:=Fz (b:=b) (p:=(gy (tK b d) (kB b (gb (tK b d)) (gc (tK b d)))).getD pX) (n:=n);have u:=sM (kf:=fun x:gp×Int=>x.1) (a:=(gq (tK b d),4)) (l:=(fi b ((gy (tK b d) (kB b (gb (tK b d)) (gc (tK b d)))).getD pX) n).jU);have G:(kL b d n).size<=b.size+5:=by
  have e:(kL b d n).size=(((fi b ((gy (tK b d) (kB b (gb (tK b d)) (gc (tK b d)))).getD pX) n).fK (gq (tK b d),4)).jB d).size:=rfl;rw[e];have C:(ik d (fi b ((gy (tK b d) (kB b (gb (tK b d)) (gc (tK b d)))).getD pX) n).due).length<=(fi b ((gy (tK b d) (kB b (gb (tK b d)) (gc (tK b d)))).getD pX) n).due.length:=BY.length_le;generalize fi b ((gy (tK b d) (kB b (gb (tK b d)) (gc (tK b d)))).getD pX) n=B at z u C⊢;unfold Bk.size Bk.jB Bk.fK at *
  dsimp only at *
  omega
 have I:0<b.due.length:=length_pos_of_mem h;unfold Bk.many;omega
def p4.rZ{c:Nat}:∀ {l:List (HL ib)} {b:Bk} {n:Int},p4 b->l.Sublist b.due->3*b.many+1<=c->oo c b l n/\p4 (fT b l n)/\(fT b l n).many<=b.many
 | [],b,n,h,_,_=>⟨trivial,h,zM _⟩
 | d::r,b,n,h,C,I=>by have u:d∈b.due:=C.subset mem_cons_self;have E:=qqw (n:=n) u;have G:=(wH (b:=b) (d:=d) (n:=n)).2.2.1;have ih:=p4.rZ (c:=c) (l:=r) (b:=kL b d n) (n:=(n+1)%18446744073709551616) (h.one u) (by rw[G];exact h.due.rest C) oJ;exact⟨⟨⟨u,(h.Q9 u).ok,oJ⟩,ih.1⟩,ih.2.1,zL ih.2.2 E.1⟩
def Ct{j8 most:Int}:(ie l j8 most).Sublist l:=(take_sublist _ _).trans filter_sublist
def qoH{x:HL ib}:∀ {l:List (HL ib)} {b:Bk} {n:Int},x∈(fT b l n).due↔x∈b.due/\∀d∈l,lV x≠lV d
 | [],b,n=>by simp[fT]
 | d::r,b,n=>by rw[fT,qoH,(wH (b:=b) (d:=d) (n:=n)).2.2.1];unfold ik;simp only[mem_filter,forall_mem_cons,decide_eq_true_eq,and_assoc]
def qoG:∀ {l:List (HL ib)} {b:Bk} {n:Int},rB b.due->l.Sublist b.due->(∀x y,x∈l->y∈b.due->y∉l->mG x y=true)->(fT b l n).due=b.due.drop l.length
 | [],b,n,_,_,_=>rfl
 | d::r,b,n,h,u,G=>by
  have I:=(wH (b:=b) (d:=d) (n:=n)).2.2.1;have V:∃t,b.due=d::t:=by
   cases R:b.due with
   | nil=>rw[R] at u;cases u
   | cons x t=>
    refine⟨t,?_⟩;rw[R] at h u G;by_cases e:x=d;rw[e];exfalso;have hd:d∈t:=(zG.1 (u.subset mem_cons_self)).resolve_left fun h=>e h.symm;have lt:=(yJ.1 h).1 d hd;by_cases C:x∈d::r;have C:x∈r:=(zG.1 C).resolve_left e
    have:=(yJ.1 (h.sub u)).1 x C
    rw[zy] at lt this;omega
    have:=G d x mem_cons_self mem_cons_self C
    rw[zy] at lt this;omega
  obtain⟨t,E⟩:=V;rw[E] at h u G;have J:ik d (d::t)=t:=h.tq;rw[fT,qoG (l:=r) (b:=kL b d n) (by rw[I,E,J];exact (yJ.1 h).2) (by rw[I,E,J];exact cons_sublist_cons.1 u) (by
   rw[I,E,J];intro x y C U O;refine G x y (zN _ C) (zN _ U) fun Q=>?_;rcases zG.1 Q with rfl|Q
   have:=(yJ.1 h).1 y U
   rw[zy] at this;omega;exact O Q),I,E,J]
  rfl
def qyz(h:rB b.due)(j8 most n:Int):(fT b (ie b.due j8 most) n).due=b.due.drop (ie b.due j8 most).length:=by refine qoG h Ct fun x y C O I=>?_;have E:x∈b.due.filter (fun d=>decide (d.1<=j8)):=yV C;have Q:(lV x).1<=j8:=zC (mem_filter.1 E).2;have J:rB (b.due.filter fun d=>decide (d.1<=j8)):=h.sub filter_sublist;by_cases hy1:(lV y).1<=j8;have u:y∈b.due.filter (fun d=>decide (d.1<=j8)):=mem_filter.2 ⟨O,yA hy1⟩;unfold ie at C I;rw[<- xE most.toNat (b.due.filter fun d=>decide (d.1<=j8))] at J u;have G:=(zD.1 u).resolve_left I;exact (pairwise_append.1 J).2.2 x C y G;exact zy.2 (.inl oJ)
abbrev nW:List Cell:=[.b,.b,.int .u64,.int .u64,.u,.b,.int .u16]
abbrev Pn:=HL nW
def qW (x:Pn):Int:=x.1
def rf (x:Pn):Int:=x.2.1
def Gj (x:Pn):gp:=(x.2.2.1,x.2.2.2.1)
def pnT (x:Pn):Int:=x.2.2.2.2.1
def rP (x:Pn):Int:=x.2.2.2.2.2.1
def yd (x:Pn):Int:=x.2.2.2.2.2.2
def Dd (x:Int):Int:=bits .or .u16 x 2
def qxj{x:Int}(C:0<=x/\x<65536):(0<=Dd x/\Dd x<65536)/\hasB (Dd x) 2=true:=by
 obtain⟨n,rfl⟩:∃n:Nat,x=n:=⟨x.toNat,oJ⟩;have e:Dd (n:Int)=wrap .u16 ((BitVec.ofInt 16 (n:Int)||| BitVec.ofInt 16 ((2:Nat):Int)).toNat:Nat):=rfl;rw[BitVec.toNat_or,C8 n oJ,C8 2 oM] at e;have h:n||| 2<2^16:=Nat.or_lt_two_pow oJ oM;rw[uA _ ⟨Int.natCast_nonneg _,Int.ofNat_lt.2 h⟩] at e;rw[e];refine⟨oJ,?_⟩;unfold hasB;have u:(n||| 2).testBit 1=true:=(by rw[Nat.testBit_or];simp[Nat.testBit]);rw[Nat.testBit_eq_decide_div_mod_eq] at u
 have:=zC u
 exact yA oJ
def qD (n i:Nat) (st:Int) (x:Pn):HL ig:=((1:Int),(i:Int),(0:Int),qW x%(n:Int)+1,(0:Int),rf x%(n:Int)+1,(Gj x).1,(Gj x).2,(0:Int),(0:Int),(0:Int),pnT x,(0:Int),(0:Int),Dd (yd x),st)
def pA (t:HL ig) (p:Pa):Option Pa:=
 (lN (fG p.1) (fB t)).bind fun x=>(lN (fM p.2.1) (fB t)).map fun y=>
  (let d:=kJ x p.1;if hasB (jG t) 64 then jZ (vv (i6 d) 16) d else d,let c:=kR y p.2.1;if hasB (jG t) 128 then jZ (vv (i6 c) 16) c else c,p.2.2)
def qR (b:Bk) (t:HL ig) (q:Pa):Bk:=
 let h:=(((b.dQ q.1).dQ q.2.1).gi (t,fB t)).fK (gq t,1)
 match oz t with
 | none=>h
 | some e=>h.jA (e,kD t,gq t)
def lT (s:Int) (x:Pn):Int:=s+(1+rP x)
def lB (n i:Nat) (s:Int) (b:Bk) (x:Pn):Bk:=
 let t:=qD n i (lT s x) x
 match pA t (kB b (gb t) (gc t)) with
 | none=>b
 | some q=>if qW x%(n:Int)=rf x%(n:Int) then b else qR b t q
def nE (n:Nat):Nat->Int->Bk->List Pn->Bk
 | _,_,b,[]=>b
 | i,s,b,x::r=>nE n (i+1) (lT s x) (lB n i s b x) r
def oU (i:Nat) (a:HL fq):HL fq:=((0:Int),(i:Int)+1,a.2.2)
def mi (l:List (HL fq)):List (HL fq):=l.mapIdx oU
def vG (l:List (HL fq)):Bk:=⟨mi l,[],[],[],[],[],[],none,0⟩
def iH (l:List (HL fq)) (ps:List Pn):Bk:=if l.length<2 then vG l else nE l.length 0 1 (vG l) ps
structure rN (n i:Nat) (s:Int) (b:Bk):Prop where
 snd:p4 b
 acc:∀ j:Nat,j<n->∃ a,eG b (0,(j:Int)+1)=some a
 ids:∀ d∈b.due,∃ j:Nat,j<i/\mP d=(1,(j:Int))
 pU:∀ d∈b.due,(lV d).2<=s
 len:b.acc.length=n
 many:b.many<=n+10*i
 st:1<=s/\s<=1+256*i
def qok{t:HL ig}{p q:Pa}(G:ee ig t)(I:ee fq p.1)(J:ee fq p.2.1)(h:pA t p=some q): ee fq q.1/\ee fq q.2.1/\gE q.1=gE p.1/\gE q.2.1=gE p.2.1/\wv (fG q.1)=wv (fG p.1)+wv (fB t)/\fM q.1=fM p.1/\fG q.2.1=fG p.2.1/\wv (fM q.2.1)=wv (fM p.2.1)+wv (fB t):=by
 unfold pA at h;obtain⟨x,Q,h⟩:=Option.bind_eq_some_iff.1 h;obtain⟨y,R,rfl⟩:=yT.1 h;obtain⟨e1,o1⟩:=Dw (ut I) (rh G) Q;obtain⟨U,V⟩:=Dw (uD J) (rh G) R;have C:=HC o1 I;have E:=Ff V J;have u:∀ {f:Int},0<=f/\f<65536->0<=vv f 16/\vv f 16<65536:=fun {f} O=>by
  have:=qzo O
  unfold vv;split;exact O
  ·next e=>
   have:=this.2 (oP e)
   omega
 rw[<- e1,<- U];refine⟨?_,?_,?_,?_,?_,?_,?_,?_⟩<;>dsimp only<;>split;exact Dq (u (ui C)) C;exact C;exact Dq (u (ui E)) E;exact E;all_goals rfl
def Cu{x:HL ib}:x∈ke d l↔x=d\/x∈l:=by rw[C1.mem_iff,zG]
def qkE{d:HL ib}:∀ {l:List (HL ib)},rB l->(∀x∈l,lV x≠lV d)->rB (ke d l)
 | [],_,_=>pairwise_singleton _ _
 | x::r,h,E=>by have C:=yJ.1 h;unfold ke;by_cases e:mG d x=true;rw[if_pos e];refine yJ.2 ⟨fun y u=>?_,h⟩;rcases zG.1 u with rfl|u;exact e;have G:=C.1 y u;rw[zy] at e G⊢;omega;rw[if_neg e];refine yJ.2 ⟨fun y u=>?_,qkE C.2 fun y u=>E y (zN _ u)⟩;rcases Cu.1 u with rfl|u;have I:=E x mem_cons_self;rw[zy] at e⊢;have G:¬((lV x).1=(lV y).1/\(lV x).2=(lV y).2):=fun h=>I (Prod.ext h.1 h.2);omega;exact C.1 y u
def Gn{n i:Nat}{x:Pn}(O:2<=n/\n<=8)(hi:i<1000)(u:mu s)(C:ee nW x):ee ig (qD n i s x):=by obtain⟨Q,R,E,G,I,U,J⟩:=C;have h:(0:Int)<=yd x/\yd x<=65535:=J;have o:=(qxj (x:=yd x) ⟨h.1,oJ⟩).1;have V:0<=qW x%(n:Int)/\qW x%(n:Int)<n:=⟨Int.emod_nonneg _ oJ,Int.emod_lt_of_pos _ oJ⟩;have m2:0<=rf x%(n:Int)/\rf x%(n:Int)<n:=⟨Int.emod_nonneg _ oJ,Int.emod_lt_of_pos _ oJ⟩;exact⟨rW (x:=1) ⟨oM,oM⟩,rW (x:=(i:Int)) ⟨oJ,oJ⟩,qi,rW (x:=qW x%(n:Int)+1) ⟨oJ,oJ⟩,qi,rW (x:=rf x%(n:Int)+1) ⟨oJ,oJ⟩,E,G,qi,qi,qi,I,show (0:Int)<=0/\(0:Int)<=4294967295 from⟨oM,oM⟩,zv (x:=0) ⟨oM,oM⟩,zv o,rW u⟩
def Ht{side:HL ig->gp}{b:Bk}{i:gp}{d:HL ib}:∀ {l:List (HL ib)},gl side b i (ke d l)=(if side (tK b d)=i then wv (fB (tK b d)) else 0)+gl side b i l
 | []=>by unfold ke gl;simp
 | x::r=>by have ih:=Ht (side:=side) (b:=b) (i:=i) (d:=d) (l:=r);unfold ke;unfold gl at ih⊢;split;rw[xO,sum_cons];rw[xO,sum_cons,ih,xO,sum_cons];omega
def qxU{k:Kp}:hU (b.gi k) i=if qJ k=i then some k else hU b i:=E1
def qmQ(h:∀d∈l,tK b d=tK b' d):gl side b i l=gl side b' i l:=by unfold gl;rw[map_congr_left fun d u=>by rw[h d u]]
def rN.made{n i:Nat}{x:Pn}{q:Pa}(h:rN n i s b)(hn:2<=n/\n<=8)(hi:i<25)(hx:ee nW x)(an:qW x%(n:Int)≠rf x%(n:Int))(hq:pA (qD n i (lT s x) x) (kB b (gb (qD n i (lT s x) x)) (gc (qD n i (lT s x) x)))=some q):rN n (i+1) (lT s x) (qR b (qD n i (lT s x) x) q):=by
 have aY:(0:Int)<=rP x/\rP x<=255:=hx.2.2.2.2.2.1;have aZ:=h.st;have es:lT s x=s+(1+rP x):=rfl;have ao:mu (lT s x):=⟨oJ,oJ⟩;have Q:=Gn (i:=i) hn oJ ao hx;have eI:gq (qD n i (lT s x) x)=(1,(i:Int)):=rfl;have eN:kD (qD n i (lT s x) x)=lT s x:=rfl;have m1:0<=qW x%(n:Int)/\qW x%(n:Int)<n:=⟨Int.emod_nonneg _ oJ,Int.emod_lt_of_pos _ oJ⟩;have m2:0<=rf x%(n:Int)/\rf x%(n:Int)<n:=⟨Int.emod_nonneg _ oJ,Int.emod_lt_of_pos _ oJ⟩;have eD:gb (qD n i (lT s x) x)=(0,(((qW x%(n:Int)).toNat:Nat):Int)+1):=(by rw[Int.toNat_of_nonneg m1.1];rfl);have eC:gc (qD n i (lT s x) x)=(0,(((rf x%(n:Int)).toNat:Nat):Int)+1):=(by rw[Int.toNat_of_nonneg m2.1];rfl);obtain⟨u,hu⟩:=h.acc (qW x%(n:Int)).toNat oJ;obtain⟨v,hv⟩:=h.acc (rf x%(n:Int)).toNat oJ;have R:gb (qD n i (lT s x) x)≠gc (qD n i (lT s x) x):=by
  rw[eD,eC];intro e
  have:=congrArg Prod.snd e
  dsimp only at this;omega
 rw[<- eD] at hu;rw[<- eC] at hv;generalize qD n i (lT s x) x=t at Q eI eN R hu hv hq⊢;clear eD eC;have ep:kB b (gb t) (gc t)=(u,v,true,true):=(by unfold kB;rw[hu,hv];rfl);rw[ep] at hq;obtain⟨f1,f2,i1,i2,w1,w2,w3,w4⟩:=qok (p:=(u,v,true,true)) Q (h.snd.fit u (sO hu).1) (h.snd.fit v (sO hv).1) hq;have ai:gE q.1=gb t:=i1.trans (sO hu).2;have ap:gE q.2.1=gc t:=i2.trans (sO hv).2;have a9:=uF (rh Q);have w1:wv (fG q.1)=wv (fG u)+wv (fB t):=w1;have w2:fM q.1=fM u:=w2;have w3:fG q.2.1=fG v:=w3;have w4:wv (fM q.2.1)=wv (fM v)+wv (fB t):=w4;have aK:∀j,eG ((b.dQ q.1).dQ q.2.1) j=if gc t=j then some q.2.1 else if gb t=j then some q.1 else eG b j:=fun j=>by rw[Ax,Ax,ai,ap]
 have ac:((b.dQ q.1).dQ q.2.1).acc.length=b.acc.length:=(by have l1:(b.dQ q.1).acc.length=b.acc.length:=Cn (by rw[ai];show eG b _≠none;rw[hu];exact fun h=>nomatch h);rw[<- l1];refine Cn ?_;show eG (b.dQ q.1) (gE q.2.1)≠none;rw[Ax,ai,ap,if_neg R,hv];exact fun h=>nomatch h);have aq:∀a∈((b.dQ q.1).dQ q.2.1).acc,ee fq a:=fun a E=>by rcases A1 E with rfl|E;exact f2;rcases A1 E with rfl|E;exact f1;exact h.snd.fit a E
 generalize O:(((b.dQ q.1).dQ q.2.1).gi (t,fB t)).fK (gq t,1)=C;have a1:C.acc=((b.dQ q.1).dQ q.2.1).acc:=(by rw[<- O];rfl);have V:C.due=b.due:=(by rw[<- O];rfl);have t1:∀j,hU C j=if gq t=j then some (t,fB t) else hU b j:=fun j=>by rw[<- O];exact qxU (b:=(b.dQ q.1).dQ q.2.1)
 have z1:C.size<=b.size+4:=(by have y1:=sM (kf:=qJ) (a:=(t,fB t)) (l:=b.jR);have y2:=sM (kf:=fun x:gp×Int=>x.1) (a:=(gq t,1)) (l:=b.jU);have y3:=sM (kf:=py) (a:=wT t) (l:=b.mA);have y4:=sM (kf:=py) (a:=AO t) (l:=b.mI);have e:C.size=((b.dQ q.1).dQ q.2.1).acc.length+(iu qJ (t,fB t) b.jR).length+(iu (fun x:gp×Int=>x.1) (gq t,1) b.jU).length+b.due.length+(iu py (wT t) b.mA).length+(iu py (AO t) b.mI).length+b.kM.length+b.last.toList.length:=(by rw[<- O];rfl);rw[e,ac];unfold Bk.size;omega);have eM:qR b t q=match oz t with
  | none=>C
  | some e=>C.jA (e,kD t,gq t):=by rw[<- O];rfl
 clear O;have ar:∀d∈b.due,gq t≠mP d:=fun d I e=>by
  obtain⟨j,hj,e2⟩:=h.ids d I;rw[eI,e2] at e
  have:=congrArg Prod.snd e
  dsimp only at this;omega
 have au:∀d∈b.due,tK C d=tK b d:=fun d I=>by unfold tK;rw[t1,if_neg (ar d I)]
 have aa:∀j,eG C j=if gc t=j then some q.2.1 else if gb t=j then some q.1 else eG b j:=fun j=>by rw[AA a1,aK]
 have U:∀j a,eG b j=some a->∃a',eG C j=some a':=fun j a E=>by rw[aa];split;exact⟨_,rfl⟩;split;exact⟨_,rfl⟩;exact⟨a,E⟩
 have av:∀j a,eG C j=some a->∃a0,eG b j=some a0/\wv (fG a)=wv (fG a0)+(if gb t=j then wv (fB t) else 0)/\wv (fM a)=wv (fM a0)+(if gc t=j then wv (fB t) else 0):=fun j a E=>by
  rw[aa] at E;split at E
  ·next e=>
   cases E;subst e;exact⟨v,hv,by rw[if_neg R,w3];omega,by rw[if_pos rfl];exact w4⟩
  ·next e=>
   split at E
   ·next e'=>
    cases E;subst e';exact⟨u,hu,by rw[if_pos rfl];exact w1,by rw[if_neg e,w2];omega⟩
   ·next e'=>exact⟨a,E,by rw[if_neg e'];omega,by rw[if_neg e];omega⟩
 have ad:∀d∈b.due,∃k x y,hU C (mP d)=some k/\rq k/\qJ k=mP d/\eG C (gb k.1)=some x/\eG C (gc k.1)=some y/\gb k.1≠gc k.1:=fun d I=>by obtain⟨k,x,y,hk,aM,aN,hx,G,an⟩:=h.snd.has d I;obtain⟨x',aO⟩:=U _ _ hx;obtain⟨y',aP⟩:=U _ _ G;exact⟨k,x',y',by rw[t1,if_neg (ar d I)];exact hk,aM,aN,aO,aP,an⟩
 have pR:∀j:Nat,j<n->∃a,eG C (0,(j:Int)+1)=some a:=fun j hj=>by obtain⟨a,E⟩:=h.acc j hj;exact U _ _ E
 have ae:C.acc.length=n:=(by rw[a1,ac];exact h.len);have hm:=h.many;have af:∀a∈C.acc,ee fq a:=(by rw[a1];exact aq);have aw:∀j a,eG C j=some a->gl gb C j b.due+(if gb t=j then wv (fB t) else 0)<=wv (fG a):=fun j a E=>by
  obtain⟨a0,ak,e1,_⟩:=av j a E
  have:=h.snd.mA j a0 ak
  rw[qmQ au,e1];omega
 have ax:∀j a,eG C j=some a->gl gc C j b.due+(if gc t=j then wv (fB t) else 0)<=wv (fM a):=fun j a E=>by
  obtain⟨a0,ak,_,e1⟩:=av j a E
  have:=h.snd.mI j a0 ak
  rw[qmQ au,e1];omega
 rw[eM];have ay:∀(p:Prop) [Decidable p],0<=if p then wv (fB t) else 0:=fun p _=>by split<;>omega
 cases I:oz t with
 | none=>
  show rN n (i+1) (lT s x) C;refine⟨⟨af,by rw[V];exact h.snd.Cd,by rw[V];exact h.snd.due,by rw[V];exact ad,fun j a E=>?_,fun j a E=>?_⟩,pR,by rw[V];exact fun d I=>(h.ids d I).elim fun j hj=>⟨j,oJ,hj.2⟩,by rw[V];exact fun d I=>by have:=h.pU d I;omega,ae,?_,oJ,oJ⟩;rw[V]
  have:=aw j a E
  have:=ay (gb t=j)
  omega;rw[V]
  have:=ax j a E
  have:=ay (gc t=j)
  omega;unfold Bk.many at hm⊢;rw[V];omega
 | some e=>
  have he:mu e:=(by unfold oz at I;have hN:=Q.2.2.2.2.2.2.2.2.2.2.2.2.2.2.2;have hO:=Q.2.2.2.2.2.2.2.2.2.2.2.1;have hN:(0:Int)<=kD t/\kD t<=18446744073709551615:=hN;have hO:(0:Int)<=lQ t/\lQ t<=4294967295:=hO;split at I;cases I;split at I;cases I;exact⟨oJ,oJ⟩;cases I);show rN n (i+1) (lT s x) (C.jA (e,kD t,gq t));generalize al:((e,kD t,gq t):HL ib)=J;have k0:mP J=gq t:=(by rw[<- al];rfl);have k1:(lV J).2=lT s x:=(by rw[<- al];exact eN);have f0:ee ib J:=(by rw[<- al];exact⟨rW he,Q.2.2.2.2.2.2.2.2.2.2.2.2.2.2.2,Q.1,Q.2.1⟩);have nk:∀y∈b.due,lV y≠lV J:=fun y G e=>by
   have:=h.pU y G
   rw[e] at this;omega
  have ec:ik J b.due=b.due:=filter_eq_self.2 fun y G=>yA (nk y G);have e3:(C.jA J).due=ke J b.due:=(by show ke J (ik J C.due)=_;rw[V,ec]);have az:tK C J=t:=(by unfold tK;rw[k0,t1,if_pos rfl];rfl);have aA:∀d,tK (C.jA J) d=tK C d:=fun d=>rfl;have u1:eG C (gb t)=some q.1:=(by rw[aa,if_neg R.symm,if_pos rfl]);have u2:eG C (gc t)=some q.2.1:=(by rw[aa,if_pos rfl]);refine⟨⟨af,?_,?_,?_,fun j a E=>?_,fun j a E=>?_⟩,pR,?_,?_,ae,?_,oJ,oJ⟩;rw[e3];exact fun y G=>(Cu.1 G).elim (fun e=>by rw[e];exact f0) (h.snd.Cd y);rw[e3];exact qkE h.snd.due nk;rw[e3];intro y G;rcases Cu.1 G with rfl|G;exact⟨(t,fB t),q.1,q.2.1,by show hU C (mP y)=_;rw[k0,t1,if_pos rfl],⟨Q,Q.2.2.2.2.2.2.1,Q.2.2.2.2.2.2.2.1⟩,k0.symm,u1,u2,R⟩;exact ad y G;rw[e3,Ht,aA,az]
  have:=aw j a E
  have e4:gl gb (C.jA J) j b.due=gl gb C j b.due:=rfl;omega;rw[e3,Ht,aA,az]
  have:=ax j a E
  have e4:gl gc (C.jA J) j b.due=gl gc C j b.due:=rfl;omega;rw[e3];intro y G;rcases Cu.1 G with rfl|G;exact⟨i,oJ,k0.trans eI⟩;exact (h.ids y G).elim fun j hj=>⟨j,oJ,hj.2⟩;rw[e3];intro y G;rcases Cu.1 G with rfl|G;omega
  have:=h.pU y G
  omega;have l3:(ke J b.due).length=b.due.length+1:=(by rw[C1.length_eq];rfl);have z3:(C.jA J).size=C.size+1:=by have e5:(C.jA J).size=C.acc.length+C.jR.length+C.jU.length+(C.jA J).due.length+C.mA.length+C.mI.length+C.kM.length+C.last.toList.length:=rfl;have e6:C.size=C.acc.length+C.jR.length+C.jU.length+C.due.length+C.mA.length+C.mI.length+C.kM.length+C.last.toList.length:=rfl;rw[e5,e3,l3,e6,V];omega
  unfold Bk.many at hm⊢;rw[z3,e3,l3];omega
def rN.mono{n i:Nat}{u:Int}(h:rN n i s b)(G:s<=u)(I:u<=s+256):rN n (i+1) u b:=
 ⟨h.snd,h.acc,fun d C=>(h.ids d C).elim fun j E=>⟨j,oJ,E.2⟩,fun d C=>by have:=h.pU d C;omega,h.len,by have:=h.many;omega,by have:=h.st;omega,by have:=h.st;omega⟩
def rN.ul{n i:Nat}{x:Pn}(h:rN n i s b)(C:2<=n/\n<=8)(hi:i<25)(u:ee nW x):rN n (i+1) (lT s x) (lB n i s b x):=by
 have E:(0:Int)<=rP x/\rP x<=255:=u.2.2.2.2.2.1;have G:lT s x=s+(1+rP x):=rfl;unfold lB;dsimp only;split;exact h.mono oJ oJ
 ·next q hq=>
  split;exact h.mono oJ oJ
  ·next hne=>exact h.made C hi u hne hq
def qwO{l:List (HL fq)}{j:Nat}(h:j<l.length):∃a,(mi l).find? (fun x=>decide (gE x=(0,(j:Int)+1)))=some a:=by
 have C:oU j l[j]∈mi l:=mem_mapIdx.2 ⟨j,h,rfl⟩;cases u:(mi l).find? (fun x=>decide (gE x=(0,(j:Int)+1))) with
 | some a=>exact⟨a,rfl⟩
 | none=>
  rw[List.find?_eq_none] at u;exact absurd (by simp[gE,oU]) (u _ C)
def qsO{i:Nat}(hi:i<1000)(h:ee fq a):ee fq (oU i a):=⟨qi,rW (x:=(i:Int)+1) ⟨oJ,oJ⟩,h.2.2⟩
def rN.start{l:List (HL fq)}(O:l.length<=8)(G:∀a∈l,ee fq a):rN l.length 0 1 (vG l):=by
 have e:(vG l).acc.length=l.length:=length_mapIdx;have nn:∀a,ee fq a->0<=wv (fG a)/\0<=wv (fM a):=fun a h=>⟨(uF (ut h)).1,(uF (uD h)).1⟩;have u:∀a∈(vG l).acc,ee fq a:=fun a E=>by obtain⟨i,I,rfl⟩:=mem_mapIdx.1 E;exact qsO oJ (G _ (zX I))
 refine⟨⟨u,(fun d C=>nomatch C),List.Pairwise.nil,(fun d C=>nomatch C),fun i a E=>(nn a (u a (sO E).1)).1,fun i a E=>(nn a (u a (sO E).1)).2⟩,fun j J=>qwO J,(fun d C=>nomatch C),(fun d C=>nomatch C),e,?_,oM,oM⟩;unfold Bk.many Bk.size;rw[e];show l.length+0+0+0+0+0+0+0+5*0<=_;omega
def qoB:gl side b i (d::l)=(if side (tK b d)=i then wv (fB (tK b d)) else 0)+gl side b i l:=by unfold gl;rw[xO,sum_cons]
def p4.after:∀ {l:List (HL ib)} {b:Bk} {n:Int} {i:gp} {a:HL fq},p4 b->l.Sublist b.due->eG b i=some a-> ∃u,eG (fT b l n) i=some u/\ee fq u/\wv (fG u)=wv (fG a)-gl gb b i l/\wv (fM u)=wv (fM a)-gl gc b i l/\jL u=jL a
 | [],b,n,i,a,h,_,C=>⟨a,C,h.fit a (sO C).1,(Int.sub_zero _).symm,(Int.sub_zero _).symm,rfl⟩
 | d::r,b,n,i,a,h,J,C=>by have O:d∈b.due:=J.subset mem_cons_self;obtain⟨R,U,V,_⟩:=wH (b:=b) (d:=d) (n:=n);have t:=h.Q9 O;obtain⟨Q,E⟩:=t.all i a C;obtain⟨a0,G,_,w1,w2,w3⟩:=t.ul i Q E;rw[C] at G;cases G;obtain⟨u,I,hf,v1,v2,v3⟩:=p4.after (l:=r) (b:=kL b d n) (n:=(n+1)%18446744073709551616) (i:=i) (a:=Q) (h.one O) (by rw[V];exact h.due.rest J) (by rw[AA R];exact E);rw[GS U] at v1 v2;exact⟨u,I,hf,by rw[qoB];omega,by rw[qoB];omega,v3.trans w3⟩
def quH:ln (kL b d n) i=if gq (tK b d)=i then 4 else ln b i:=by have:ln (kL b d n) i=ln (b.fK (gq (tK b d),4)) i:=(by unfold ln;rw[(wH (b:=b) (d:=d) (n:=n)).2.2.2]);rw[this,qxO]
def qsT{i:gp}:∀ {l:List (HL ib)} {b:Bk} {n:Int},ln b i=4->ln (fT b l n) i=4
 | [],b,n,h=>h
 | d::r,b,n,h=>qsT (l:=r) (by rw[quH,h];split<;>rfl)
def p4.tB:∀ {l:List (HL ib)} {b:Bk} {n:Int},p4 b->l.Sublist b.due->∀d∈l,ln (fT b l n) (mP d)=4
 | d::r,b,n,h,C,x,u=>by have E:d∈b.due:=C.subset mem_cons_self;rcases zG.1 u with rfl|u;exact qsT (l:=r) (by rw[quH,(h.Q9 E).jU,if_pos rfl]);exact p4.tB (l:=r) (h.one E) (by rw[(wH (b:=b) (d:=d) (n:=n)).2.2.1];exact h.due.rest C) x u
def qyA{first most:Int}(I:(b.due.length:Int)<=most):ie (fT b (ie b.due first most) n).due first most=[]:=by
 have e:ie b.due first most=b.due.filter fun d=>decide (d.1<=first):=zS (by have:=length_filter_le (fun d:HL ib=>decide (d.1<=first)) b.due;omega)
 have u:(fT b (ie b.due first most) n).due.filter (fun d=>decide (d.1<=first))=[]:=(by rw[filter_eq_nil_iff];intro x C h;obtain⟨E,G⟩:=qoH.1 C;exact G x (by rw[e];exact mem_filter.2 ⟨E,h⟩) rfl);show (List.filter _ _).take _=[];rw[u,take_nil]
def BW (b:Bk) (first:Int):List (HL ib):=b.due.filter fun d=>decide (d.1<=first)
structure Ih (b:Bk) (first:Int) (k:Nat) (x:Bk):Prop where
 le:k<=(BW b first).length
 acc:x.acc=(fT b ((BW b first).take k) 0).acc
 jR:x.jR=b.jR
 due:x.due=b.due.drop k
end
section
open Go Go.Pt List
open Go.IntKind (wrap)
open Classical
section
variable {α:Type} {p:α->Bool} {x:α} {l A B:List α} {lt:α->α->Prop}
end
end
section
open Go Go.Pt List
open Go.IntKind (wrap)
open Classical
variable {K:Bool->Prop}
def qBJ{P:Program}{t:TypeId}{x y:Operand}{cs ds:Array Value}{w:World}(d:Nat)(G:d<=10000)(r:Bool)(h:wZ P d t (.agg cs) (.agg ds)=some r)(C:P.eqGuardType P.depth t=false)(k:K (!r)): fl [iJ.one Cell.bool] (fun w'=>(do eqGuard .neq t x y (.agg cs) (.agg ds);binOp .neq t (.agg cs) (.agg ds):Sem Value).run P w') w K:=by have u:=Dy d t _ _ r h (10000-d) w;rw[show d+(10000-d)=10000 by omega] at u;have E:(binOp .neq t (.agg cs) (.agg ds)).run P w=.ok (.bool (!r)) w:=uB (P:=P) true u oL oL oL oL;refine sI (ts:=[iJ.one Cell.bool]) (!r) ?_ k;show ((do eqGuard .neq t x y (.agg cs) (.agg ds);binOp .neq t (.agg cs) (.agg ds):Sem Value).run P w)=Result.ok (Value.bool (!r)) w;simp[eqGuard,C,E]
attribute [local irreducible] ld dK ic nK jx eT st new idx jK jF fV jI jl mp gK nn call dW inv run fl jf join loop held ext kW eU m8 nQ nT IntKind.wrap
def Ea{a b:gp}{x y:Operand}{w:World}(k:K (!decide (a=b))): fl [iJ.one Cell.bool] (fun w'=>(do eqGuard .neq oe x y (c8 a.1 a.2) (c8 b.1 b.2);binOp .neq oe (c8 a.1 a.2) (c8 b.1 b.2):Sem Value).run prog w') w K:=by have e:wZ prog 2 oe (c8 a.1 a.2) (c8 b.1 b.2)=some (bif a.1==b.1 then (bif a.2==b.2 then true else false) else false):=oK;have h:(bif a.1==b.1 then (bif a.2==b.2 then true else false) else false)=decide (a=b):=(by obtain⟨u,C⟩:=a;obtain⟨E,G⟩:=b;dsimp only;by_cases h0:u=E;by_cases h1:C=G;simp[h0,h1];simp[h0,h1];simp[h0]);rw[h] at e;exact qBJ 2 oM _ e oK k
end
section
open Go Go.Pt List
open Go.IntKind (wrap)
open Classical
attribute [local irreducible] ld dK ic nK jx eT st new idx jK jF fV jI jl mp gK nn call dW inv run fl jf join loop held ext kW eU m8 nQ nT IntKind.wrap
variable {K:List Value×Bool->WP} {t:HL ig} {w:World}
def qp (is:Bool) (x:Int):Int:=if is then vv x 16 else mJ x 16
def xg (is:Bool) (t:HL ig) (d c:HL fq) (q:Bool×Bool):Pa:=(if hasB (jG t) 64 then jZ (qp is (i6 d)) d else d,if hasB (jG t) 128 then jZ (qp is (i6 c)) c else c,q)
abbrev wU:TypeId:=55
def qrZ{is:Bool}{d c:HL fq}{q:Bool×Bool}{r1 r3 u C:Nat}{G:Obj}{w0:World}(J:0<=jG t/\jG t<65536)(R:0<=i6 d/\i6 d<65536)(U:0<=i6 c/\i6 c<65536)(o:dR [] w w0 [(C,.cells (kz pX).toArray qh (0,0)),(u,.cells (kz (d,c,q)).toArray qh (0,0)),(r3,G),(r1,.cells (HL.mk ig t).toArray wU (0,0))])(I:∀w',Fr [] w w'->K (kz (xg is t d c q),true) w'): join PUnit (fun X=>ld (.int .u16) (dc r1 14) w0 fun x=>cW 54 [.int .u16 x,.int .u16 64] df w0 fun b w1=>cond b (ld (.int .u16) (dc u 13) w1 fun x=>cW 67 [.int .u16 x,.bool is] dw w1 fun x w2=>st (dc u 13) [.int .u16 x] w2 fun E=>X () E) (X () w1)) fun _ wa=> join PUnit (fun X=>ld (.int .u16) (dc r1 14) wa fun x=>cW 54 [.int .u16 x,.int .u16 128] df wa fun b w1=>cond b (ld (.int .u16) (dc u 28) w1 fun x=>cW 67 [.int .u16 x,.bool is] dw w1 fun x w2=>st (dc u 28) [.int .u16 x] w2 fun E=>X () E) (X () w1)) fun _ O=> ic 32 (dc u) O fun vs=>gK (vs.length=32) (st (dc C) vs O fun w1=>ic 32 (dc C) w1 fun vs=>K (vs,true) w1):=by refine iQ (fun _ w'=>dR [] w w' [(C,.cells (kz pX).toArray qh (0,0)),(u,.cells (kz (if hasB (jG t) 64 then jZ (qp is (i6 d)) d else d,c,q)).toArray qh (0,0)),(r3,G),(r1,.cells (HL.mk ig t).toArray wU (0,0))]) ?_ fun _ w1 o=>?_;refine oA o 3 rfl (jG t) rfl (AR J oM ?_);refine eH (fun h=>?_) fun h=>?_;rw[if_pos h];exact oA o 1 rfl (i6 d) rfl (qnJ R (o.st' 1 rfl (kz (jZ (qp is (i6 d)) d,c,q)).toArray rfl rfl (zO rfl) fun w1 o _=>o));rw[if_neg (by rw[h];decide)];exact o;unfold xg at I;generalize (if hasB (jG t) 64 then jZ (qp is (i6 d)) d else d)=Q at o I;refine iQ (fun _ w'=>dR [] w w' [(C,.cells (kz pX).toArray qh (0,0)),(u,.cells (kz (Q,if hasB (jG t) 128 then jZ (qp is (i6 c)) c else c,q)).toArray qh (0,0)),(r3,G),(r1,.cells (HL.mk ig t).toArray wU (0,0))]) ?_ fun _ w2 o=>?_;refine oA o 3 rfl (jG t) rfl (AR J oM ?_);refine eH (fun h=>?_) fun h=>?_;rw[if_pos h];exact oA o 1 rfl (i6 c) rfl (qnJ U (o.st' 1 rfl (kz (Q,jZ (qp is (i6 c)) c,q)).toArray rfl rfl (zO rfl) fun w1 o _=>o));rw[if_neg (by rw[h];decide)];exact o;exact nH (o.at (i:=1) rfl) _ (qX _) rfl (me (qX _) (o.st' 0 rfl _ (iI rfl) rfl (zM _) fun E o _=>nH (o.at (i:=0) rfl) _ (qX _) rfl (I E o.fr)))
def Hq{p q:Pa}{am:gp}(C:ee ig t)(E:ee fq p.1)(h:ee fq p.2.1)(u:gy t p=some q)(G:∀w',Fr [] w w'->K (kz q,true) w'): cW 44 [.agg (HL.mk ig t).toArray,c8 am.1 am.2,.bool false,.agg (kz p).toArray] dh w K:=by refine qgx ?_;unfold gy at u;obtain⟨x,I,u⟩:=Option.bind_eq_some_iff.1 u;obtain⟨y,J,rfl⟩:=yT.1 u;have O:=xe;refine oB (oE [] w) fun r1 w1 _ V o=>oB o fun r3 w2 _ f2 o=>oB o fun r5 w3 _ f3 o=>oI o O fun r7 w4 _ o=>oC o 1 rfl (fG p.1) rfl (oC o 3 rfl (fB t) rfl (qtW (ut E) (rh C) fun w5 Q=>?_));rw[I];refine (o.q7 Q).st' 1 rfl (kz (kJ x p.1,p.2)).toArray rfl rfl (zO rfl) fun w6 o _=>oC o 1 rfl (fM p.2.1) rfl (oC o 3 rfl (fB t) rfl (qtW (uD h) (rh C) fun w7 R=>?_));rw[J];refine (o.q7 R).st' 1 rfl (kz (kJ x p.1,kR y p.2.1,p.2.2)).toArray rfl rfl (zO rfl) fun U o _=>iQ (fun b w'=>b=false/\w'=U) (cond_false rfl ⟨rfl,rfl⟩) ?_;rintro b w9 ⟨rfl,rfl⟩;exact cond_false rfl (cond_false rfl (qrZ (is:=false) (t:=t) (d:=kJ x p.1) (c:=kR y p.2.1) (q:=p.2.2) (Ey C) (ui (a:=p.1) E) (ui (a:=p.2.1) h) o G))
def GU{p:Pa}(G:ee ig t)(V:hasB (jG t) 2=true)(O:ee fq p.1)(C:ee fq p.2.1)(E:∀w',Fr [] w w'->K (kz ((pA t p).getD pX),(pA t p).isSome) w'): cW 25 [.agg (HL.mk ig t).toArray,.agg #[.int .u64 (fB t).1,.int .u64 (fB t).2],.agg (kz p).toArray] dh w K:=by
 refine qhT ?_;have hz:=xe;unfold pA at E;refine oB (oE [] w) fun r1 w1 _ f1 o=>oB o fun r3 w2 _ f2 o=>oB o fun r5 w3 _ f3 o=>oI o hz fun I w4 _ o=>iQ (fun q w'=>q=((lN (fG p.1) (fB t)).isSome,(lN (fM p.2.1) (fB t)).isSome)/\dR [] w w' [(I,.cells (kz pX).toArray qh (0,0)),(r5,.cells (kz (kJ ((lN (fG p.1) (fB t)).getD (0,0)) p.1,kR ((lN (fM p.2.1) (fB t)).getD (0,0)) p.2.1,p.2.2)).toArray qh (0,0)),(r3,.cells #[.int .u64 (fB t).1,.int .u64 (fB t).2] oe (0,0)),(r1,.cells (HL.mk ig t).toArray wU (0,0))]) ?_ ?_;refine oA o 3 rfl (jG t) rfl (AR (Ey G) oM (cond_true V ?_));refine oC o 1 rfl (fG p.1) rfl (oC o 2 rfl (fB t) rfl (BZ (ut O) (rh G) fun u f5=>?_));refine (o.q7 f5).st' 1 rfl (kz (kJ ((lN (fG p.1) (fB t)).getD (0,0)) p.1,p.2)).toArray rfl rfl (zO rfl) fun Q o _=>oC o 1 rfl (fM p.2.1) rfl (oC o 2 rfl (fB t) rfl (BZ (uD C) (rh G) fun w7 f7=>?_));exact (o.q7 f7).st' 1 rfl (kz (kJ ((lN (fG p.1) (fB t)).getD (0,0)) p.1,kR ((lN (fM p.2.1) (fB t)).getD (0,0)) p.2.1,p.2.2)).toArray rfl rfl (zO rfl) fun w8 o _=>⟨rfl,o⟩;rintro _ u ⟨rfl,o⟩;have h:(((lN (fG p.1) (fB t)).bind fun x=>(lN (fM p.2.1) (fB t)).map fun y=>((let d:=kJ x p.1;if hasB (jG t) 64 then jZ (vv (i6 d) 16) d else d,let c:=kR y p.2.1;if hasB (jG t) 128 then jZ (vv (i6 c) 16) c else c,p.2.2):Pa))=none)->
   fl [iJ.oc] (fun w'=>(Instr.build qh #[]).run prog w') u fun vs=>gK (vs.length=32) (st (dc I) vs u fun w1=>ic 32 (dc I) w1 fun vs=>K (vs,false) w1):=fun e=>by
  rw[e] at E;exact sI (ts:=[iJ.oc]) (kz pX) oK (me (qX _) (o.st' 0 rfl _ (iI rfl) rfl (zM _) fun Q o _=>nH (o.at (i:=0) rfl) _ (qX _) rfl (E Q o.fr)))
 cases J:lN (fG p.1) (fB t) with
 | none=>
  rw[J] at h;refine iQ (fun b w'=>b=true/\w'=u) (cond_true rfl ⟨rfl,rfl⟩) ?_;rintro b R ⟨rfl,rfl⟩;exact cond_true rfl (h rfl)
 | some x=>
  cases U:lN (fM p.2.1) (fB t) with
  | none=>
   rw[J,U] at h;refine iQ (fun b w'=>b=true/\w'=u) (cond_false rfl ⟨rfl,rfl⟩) ?_;rintro b R ⟨rfl,rfl⟩;exact cond_true rfl (h rfl)
  | some y=>
   rw[J,U] at E o;refine iQ (fun b w'=>b=false/\w'=u) (cond_false rfl ⟨rfl,rfl⟩) ?_;rintro b R ⟨rfl,rfl⟩;exact cond_false rfl (qrZ (is:=true) (t:=t) (d:=kJ x p.1) (c:=kR y p.2.1) (q:=p.2.2) (Ey G) (ui (a:=p.1) O) (ui (a:=p.2.1) C) o E)
def BA{S:List Nat}{r:oW}{b:Bk}{i j:gp}{K:List Value->WP}(h:RB S w r b)(E:b.size<=100000)(I:∀w',Fr [] w w'->K (kz (kB b i j)) w'): cW 22 [.agg (HL.mk eY r).toArray,c8 i.1 i.2,c8 j.1 j.2] dt w K:=by refine qf3 ?_;have G:=xe;refine oB (oE [] w) fun r1 w1 _ V o=>oB o fun r3 w2 _ f2 o=>oB o fun r5 w3 _ f3 o=>oI o G fun r7 w4 _ o=>sI (ts:=[iJ.oc]) (kz pX) oK (oI o G fun J w5 _ o=>me (qX _) (o.st' 0 rfl _ (iI rfl) rfl (zM _) fun w6 o _=>?_));refine oC o 4 rfl r rfl (oC o 3 rfl i rfl (qtU (h.q7 o.fr) E fun w7 O=>?_));have o:=o.q7 O;refine o.st' 0 rfl _ qzr rfl (zO rfl) fun w8 o _=>o.st' 0 rfl (kz ((eG b i).getD kN,kN,(eG b i).isSome,false)).toArray rfl rfl (zO rfl) fun w9 o _=>oC o 4 rfl r rfl (oC o 2 rfl j rfl (qtU (h.q7 o.fr) E fun Q u=>?_));have o:=o.q7 u;exact o.st' 0 rfl _ qzs rfl (zO rfl) fun R o _=>o.st' 0 rfl (kz (kB b i j)).toArray rfl rfl (zO rfl) fun U o _=>nH (o.at (i:=0) rfl) _ (qX _) rfl (me (qX _) (o.st' 1 rfl _ (iI rfl) rfl (zM _) fun C o _=>nH (o.at (i:=1) rfl) _ (qX _) rfl (I C o.fr)))
end
section
open Go Go.Pt List
open Go.IntKind (wrap)
open Classical
attribute [local irreducible] ld dK ic nK jx eT st new idx jK jF fV jI jl mp gK nn call dW inv run fl jf join loop held ext kW eU m8 nQ nT IntKind.wrap
end
section
open Go Go.Pt List
open Go.IntKind (wrap)
open Classical
variable {L:List (Nat×Obj)} {S:List Nat} {first:Int} {w:World}
def GQ{h u C E:WP}{K:Prop}(G:h w)(I:u w)(J:C w)(O:E w)(k:K):held [h,u,C,E] w K:=⟨⟨G,I,J,O⟩,k⟩
attribute [local irreducible] ld dK ic nK jx eT st new idx jK jF fV jI jl mp gK nn call dW inv run fl jf join loop held ext kW eU m8 nQ nT IntKind.wrap
def qyV{w0 w':World}{p:Nat×Obj}{r:Nat}{o:Obj}(h:dR S w0 w (p::(r,o)::L))(f:Fr [r] w w'):dR S w0 w' (p::L):=
 (qAm h).q8 f (fun i G=>by rw[zE.1 G];exact h.own (r,o) oL) fun q C u=>by have E:=h.nodup;rw[xO,xO,nodup_cons,nodup_cons] at E;have u:=zE.1 u;rcases zG.1 C with rfl|C;exact E.1 (by rw[u];exact mem_cons_self);exact E.2.1 (mem_map.2 ⟨q,C,u⟩)
def quC{w0 w':World}{r:Nat}{o:Obj}(h:dR S w0 w ((r,o)::L))(f:Fr [r] w w'):dR S w0 w' L:=
 (qA5 h).q8 f (fun i C=>by rw[zE.1 C];exact h.own (r,o) oL) fun q E G=>by have u:=h.nodup;rw[xO,nodup_cons] at u;exact u.1 (mem_map.2 ⟨q,E,zE.1 G⟩)
def qyW{w0 w':World}{a b:Nat}{x y x' C:Obj}(h:dR S w0 w [(a,x),(b,y)])(f:Fr [a,b] w w')(E:w'.heap[a]?=some x')(G:w'.heap[b]?=some C):dR S w0 w' [(a,x'),(b,C)]:=
 ⟨fun q u=>by
  rcases zG.1 u with rfl|u;exact E;rw[zE.1 u];exact G,h.nodup,h.back f,fun q u=>by
  rcases zG.1 u with rfl|u;exact h.own (a,x) oL;rw[zE.1 u];exact h.own (b,y) oL⟩
def qxu{α:Type}{enc:α->List Value}{k:Nat}{s:Sl}{l:List α}(h:dX enc k S w s l)(n:Nat){i:Int}{x:α}{K:Addr->Prop}(hi:i=n)(E:l[n]?=some x)(G:∀b o u T C,w.heap[b]?=some (.cells u T C)->b∉S->(u.toList.drop o).take k=enc x->K (dc b o)):idx s i k K:=by subst hi;obtain⟨R,b,o,I,J,u,T,C,O,Q⟩:=dX.at h n E;refine rM I ⟨oJ,oJ⟩ ?_;rw[zJ];exact G b _ u T C O J Q
def qzt{cs:List Value}{off j m:Nat}{x:List Value}(h:(cs.drop off).take m=x):(cs.drop (off+j)).take (m-j)=x.drop j:=by rw[<- h,drop_take,xD]
def ko (b:Bk) (m:Nat):Bk:={ b with gn:=m }
def p4.ko{b:Bk}{m:Nat}(h:p4 b):p4 (ko b m):=⟨h.fit,h.Cd,h.due,h.has,h.mA,h.mI⟩
def qw9{b:Bk}{m:Nat}{a:HL fq}{s n:Int}:ja (ko b m) a s n=ko (ja b a s n) m:=by unfold ja;split<;>rfl
def qA2{b:Bk}{m:Nat}{d:HL ib}{n:Int}:kL (ko b m) d n=ko (kL b d n) m:=by
 have h:∀p,fi (ko b m) p n=ko (fi b p n) m:=fun p=>by unfold fi;rw[show ((ko b m).dQ p.1).dQ p.2.1=ko ((b.dQ p.1).dQ p.2.1) m from rfl,qw9,qw9]
 show ((fi (ko b m) _ n).fK _).jB d=_;rw[h];rfl
def qsB{m:Nat}:∀ {l:List (HL ib)} {b:Bk} {n:Int},fT (ko b m) l n=ko (fT b l n) m
 | [],_,_=>rfl
 | d::r,b,n=>by rw[fT,qA2,qsB];rfl
abbrev uh:TypeId:=36
abbrev AZ:TypeId:=115
def Av(x:gp×Int):(om x).length=3:=rfl
def EZ(x:gp×Int):∀u∈om x,u.oneCell'=true:=all_eq_true.1 rfl
def qwU:∃i,prog.info? AZ=some i/\i.zero=some (.agg #[.int .u64 0,.int .u64 0,.int .u64 0])/\i.size=3/\i.bytes=24:=uj oK
def qb (r:oW) (s:Sl):oW:=(r.1,r.2.1,r.2.2.1,r.2.2.2.1,r.2.2.2.2.1,r.2.2.2.2.2.1,r.2.2.2.2.2.2.1,r.2.2.2.2.2.2.2.1,r.2.2.2.2.2.2.2.2.1,s)
section
variable {S:List Nat} {W w:World} {r:oW} {b:Bk} {s:Sl} {l:List (HL ib)} {i r1 r3:Nat} {X:Int->WP}
def qBM{G:Sl}{C:Nat}{R:TypeId}{g:List (gp×Int)}{B:List Nat}{x:gp×Int}(h1:W.heap[r1]?=some (.cells (HL.mk eY r).toArray uh (0,0)))(h:RB S W r b)(ac:r1∈S)(hS:∀x∈S,x<W.heap.size)(fa:Fr [] W w)(bs:eZ om 3 w G g B)(hB:∀x∈B,W.heap.size<=x)(hg:g.length<=b.gn)(ax:b.gn<=99000)(ad:w.heap[C]?=some (.cells (om x).toArray R (0,0)))(hl:dX iB 4 [r1] W s l)(hi:i<l.length)(hb:b.size<=100000)(kk:∀r' w',RB S w' r' (ko (b.jB l[i]) (b.gn+1))->w'.heap[r1]?=some (.cells (HL.mk eY r').toArray uh (0,0))->Fr [r1] W w'->X (wrap .i64 ((i:Int)+1)) w'):Ba G C w r1 s i X:=by
 unfold Ba;obtain⟨j,hj,hz,ae,af⟩:=qwU;have ag:dX om 3 [] w ⟨pW C,1,1⟩ [x]:=⟨rfl,zM _,.inr ⟨C,0,_,R,_,rfl,ad,(fun h=>nomatch h),fun i y hy=>by obtain⟨hi,rfl⟩:=zP.1 hy;have:i=0:=(oP hi);subst this;rfl⟩⟩;refine eZ.j0 (s:=G) (l:=g) (ys:=[x]) (B:=B) bs Av (e:=AZ) oK hj hz ae rfl (vo (e':=AZ) ag Av EZ oK) rfl (by show (g.length+1)*j.bytes<=_;rw[af];omega) (by show g.length+1<=_;omega) fun U B5 w5 b5 f5 n5 _=>?_;have I:Fr [] W w5:=fa.j6 f5 fun x u=>.inr (hB x u);have V:∀x∈B5,W.heap.size<=x:=fun x u=>(n5 x u).elim (hB x) (zL fa.size);have l1:=fJ h1;have ah:w5.heap[r1]?=some (.cells (HL.mk eY r).toArray uh (0,0)):=(by rw[I.block r1 l1 (fun h=>nomatch h)];exact h1);refine tk ah (HL.mk eY (qb r U)).toArray rfl rfl (zO rfl) fun Q J f6=>?_;have O:Fr [r1] W Q:=(I.mono fun _ h _=>nomatch h).trans f6;have aa:∀ {x},x∈[r1]->x∈S:=fun h=>by rw[zE.1 h];exact ac
 have E:=(h.q7 I).q8 (f6.mono fun x u _=>aa u) fun x u=>.inl u;have b6:eZ om 3 Q U (g++[x]) B5:=b5.q8 f6 fun x u h=>by
  have:=V x u
  have:=zE.1 h
  omega
 have h6:RB S Q (qb r U) (ko b (b.gn+1)):=⟨E.acc,E.jR,E.jU,E.due,E.mA,E.mI,E.kM,E.told,g++[x],by rw[zF,xM];exact Nat.succ_le_succ hg,xq b6 Av hS V⟩;have g6:=(Fr.refl [] Q).drew;refine wG (w:=Q.drew) J (qb r U) rfl<|dX.oT (x:=l[i]) (y:=l[i]) (w:=Q.drew) ((hl.q8 O fun x u=>.inl u).q7 g6) i rfl (zA hi) rfl rfl<|qnG (h6.q7 g6) hb (fun x u=>yD (hS x u) O.size) fun r7 w7 t h7 f7=>?_;have aj:w7.heap[r1]?=some (.cells (HL.mk eY (qb r U)).toArray uh (0,0)):=(by rw[(g6.trans f7).block r1 (fJ J) (fun h=>nomatch h)];exact J);exact tk aj (HL.mk eY r7).toArray (iI rfl) rfl (zM _) fun w8 ak f8=>kk r7 w8 (h7.q8 (f8.mono fun x u _=>aa u) fun x u=>.inl u) ak ((O.trans ((g6.trans f7).mono fun _ h _=>nomatch h)).trans f8)
def He{n:Int}{t:HL ig}{q:Pa}{ab ac aj:Nat}{au o3:Obj}(o:dR [r3,r1] W w [(ab,.cells (kz pX).toArray qh (0,0)),(ac,.cells (HL.mk ig t).toArray wU (0,0)),(aj,au),(r3,o3),(r1,.cells (HL.mk eY r).toArray uh (0,0))])(h:RB (r3::r1::S) W r b)(hS:∀x∈r3::r1::S,x<W.heap.size)(hl:dX iB 4 [r3,r1] W s l)(hi:i<l.length)(hb:b.size+5<=100000)(R:b.gn<=99000)(f1:ee fq q.1)(f2:ee fq q.2.1)(en:wrap .u64 (first+wrap .u64 (i:Int))=n)(kk:∀r' w',RB (r3::r1::S) w' r' (ko (((fi b q n).fK (gq t,4)).jB l[i]) (b.gn+1))->w'.heap[r1]?=some (.cells (HL.mk eY r').toArray uh (0,0))->w'.heap[r3]?=some o3->Fr [r3,r1] W w'->X (wrap .i64 ((i:Int)+1)) w'):CW first (kz q,true) ab w r1 i ac s X:=by
 unfold CW;rw[en];have ak:∀ {w w':World},Fr [r1] w w'->Fr (r3::r1::S) w w':=fun f=>f.mono fun x u _=>by rw[zE.1 u];simp
 have al:∀ {w w':World},Fr [r3,r1] w w'->Fr (r3::r1::S) w w':=fun f=>f.mono fun x u _=>by simp only[zG,xX,or_false] at u;rcases u with rfl|rfl<;>simp
 have up:∀ {w':World},W.heap.size<=w'.heap.size->∀x∈r3::r1::S,x<w'.heap.size:=fun z x u=>yD (hS x u) z;refine me (qX q) (o.st' 0 rfl _ (iI rfl) rfl (zM _) fun w2 o _=>oC o 4 rfl r rfl (nH (o.at (i:=0) rfl) _ (qX q) rfl ?_));have z:=Fz (b:=b) (p:=q) (n:=n);refine qyc (h.q8 (al o.fr) fun x u=>.inl u) oJ (up o.fr.size) f1 f2 fun ax w3 h3 f3=>(o.q7 f3).st' 4 rfl _ (iI rfl) rfl (zM _) fun w4 o f4=>oC o 4 rfl ax rfl (oC o 1 rfl (gq t) rfl ?_);have h4:=h3.q8 (ak f4) fun x u=>.inl u;refine qnI h4 oJ (up o.fr.size) fun r5 w5 h5 f5=>(o.q7 f5).st' 4 rfl _ (iI rfl) rfl (zM _) fun w6 o f6=>?_;have h6:=h5.q8 (ak f6) fun x u=>.inl u;have am:((fi b q n).fK (gq t,4)).gn=b.gn:=(by show (fi b q n).gn=b.gn;unfold fi ja;split<;>split<;>rfl);have z2:((fi b q n).fK (gq t,4)).size<=(fi b q n).size+1:=by
  have:=sM (kf:=fun x:gp×Int=>x.1) (a:=(gq t,4)) (l:=(fi b q n).jU)
  unfold Bk.size Bk.fK;dsimp only;omega
 have kk:∀r' w',RB (r3::r1::S) w' r' (ko (((fi b q n).fK (gq t,4)).jB l[i]) (((fi b q n).fK (gq t,4)).gn+1))->w'.heap[r1]?=some (.cells (HL.mk eY r').toArray uh (0,0))->w'.heap[r3]?=some o3->Fr [r3,r1] W w'->X (wrap .i64 ((i:Int)+1)) w':=(by rw[am];exact kk);have R:((fi b q n).fK (gq t,4)).gn<=99000:=(by rw[am];exact R);have an:((fi b q n).fK (gq t,4)).size<=100000:=oJ;generalize (fi b q n).fK (gq t,4)=b6 at h6 kk R an;obtain⟨g,hg,hG⟩:=h6.gone;obtain⟨j,hj,hz,ae,af⟩:=qwU;have aD:dX iB 4 [r1] w6 s l:=dX.j4 (hl.q8 o.fr fun x u=>.inl u) fun x u=>.inl (by rw[zE.1 u];simp);have e1:=o.at (i:=4) rfl;have O:=(Fr.refl [] w6).drew;have z6:=o.fr.size;have ag:g.length<=1000000:=oJ;have e3:=o.at (i:=3) rfl;have aE:r3≠r1:=fun e=>by have hn:[ab,ac,aj,r3,r1].Nodup:=o.nodup;exact (nodup_cons.1 (nodup_cons.1 (nodup_cons.1 (nodup_cons.1 hn).2).2).2).1 (by rw[e];exact zE.2 rfl)
 have ah:∀ {ao:Sl} {E:Nat} {B:List Nat} {w9:World} {aF:TypeId},Fr [] w6 w9->eZ om 3 w9 ao g B->(∀x∈B,w6.heap.size<=x)->w9.heap[E]?=some (.cells (om (gq t,n)).toArray aF (0,0))->Ba ao E w9 r1 s i X:=fun fa bs hB aG=>
  qBM e1 h6 oL (up z6) fa bs hB hg R aG aD hi an fun r' w' h' aH f'=>kk r' w' h' aH (by rw[f'.block r3 (fJ e3) (fun hm=>aE (zE.1 hm))];exact e3) (o.fr.trans (f'.mono fun x u _=>by rw[zE.1 u];simp))
 have U:=o.drew;refine⟨?_,?_,?_⟩;refine oA U 4 rfl r5.2.2.2.2.2.2.2.2.2 rfl (oC U 1 rfl (gq t) rfl (oB U fun G w7 e7 C I=>ka (I.cells 2 rfl rfl) (I.cell 5 rfl rfl) ?_));refine wY (e:=AZ) (I.at (i:=0) rfl) (hG.q7 (O.trans C)) Av EZ oK hj hz ae rfl (by rw[af];decide) ag fun s8 B8 w8 b8 Q n8=>?_;have aI:G=w6.heap.size:=e7;have J:=quC I Q;refine iM (J.cells 1 rfl rfl) (oB J fun E w9 e9 V o9=>iM (o9.cell 5 rfl rfl) ?_);exact ah (((O.trans C).j6 Q fun x u=>.inr (by rw[zE.1 u];omega)).trans V) (b8.q7 V) (fun x u=>(n8 x u).elim (fun e=>oJ) (zL (O.trans C).size)) (o9.at (i:=0) rfl);refine oA U 4 rfl r5.2.2.2.2.2.2.2.2.2 rfl (oC U 1 rfl (gq t) rfl (oB U fun G w7 e7 C I=>ka (I.cells 2 rfl rfl) (I.cell 5 rfl rfl) ?_));refine oB I fun E w8 e8 Q J=>iM (J.cell 6 rfl rfl)<|wY (e:=AZ) (J.at (i:=1) rfl) (hG.q7 ((O.trans C).trans Q)) Av EZ oK hj hz ae rfl (by rw[af];decide) ag fun s9 B9 w9 b9 V n9=>?_;have aI:G=w6.heap.size:=e7;have o9:=qyV J V;exact iM (o9.cells 2 rfl rfl) (ah (((O.trans C).trans Q).j6 V fun x u=>.inr (by rw[zE.1 u];omega)) b9 (fun x u=>(n9 x u).elim (fun e=>oJ) (zL ((O.trans C).trans Q).size)) (o9.at (i:=0) rfl));refine oA U 4 rfl r5.2.2.2.2.2.2.2.2.2 rfl (oC U 1 rfl (gq t) rfl (oB U fun E w7 e7 C I=>iM (I.cell 5 rfl rfl) ?_));refine oB I fun G w8 e8 Q J=>ka (J.cells 3 rfl rfl) (J.cell 6 rfl rfl)<|wY (e:=AZ) (J.at (i:=0) rfl) (hG.q7 ((O.trans C).trans Q)) Av EZ oK hj hz ae rfl (by rw[af];decide) ag fun s9 B9 w9 b9 V n9=>?_;have ap:w6.heap.size<=G:=(by rw[e8];exact (O.trans C).size);have o9:=quC J V;exact iM (o9.cells 2 rfl rfl) (ah (((O.trans C).trans Q).j6 V fun x u=>.inr (by rw[zE.1 u];exact ap)) b9 (fun x u=>(n9 x u).elim (fun e=>by rw[e];exact ap) (zL ((O.trans C).trans Q).size)) (o9.at (i:=0) rfl))
def qBb{n:Int}{k:Kp}{q:Pa}{I:Nat}{o3:Obj}(o:dR [r3,r1] W w [(I,.cells (pf uE).toArray xd (0,0)),(r3,o3),(r1,.cells (HL.mk eY r).toArray uh (0,0))])(h:RB (r3::r1::S) W r b)(hS:∀x∈r3::r1::S,x<W.heap.size)(hl:dX iB 4 [r3,r1] W s l)(hi:i<l.length)(hb:b.size+5<=100000)(E:b.gn<=99000)(Q:ee ig k.1)(R:ee fq (kB b (gb k.1) (gc k.1)).1)(f2:ee fq (kB b (gb k.1) (gc k.1)).2.1)(U:gy k.1 (kB b (gb k.1) (gc k.1))=some q)(en:wrap .u64 (first+wrap .u64 (i:Int))=n)(kk:∀r' w',RB (r3::r1::S) w' r' (ko (((fi b q n).fK (gq k.1,4)).jB l[i]) (b.gn+1))->w'.heap[r1]?=some (.cells (HL.mk eY r').toArray uh (0,0))->w'.heap[r3]?=some o3->Fr [r3,r1] W w'->X (wrap .i64 ((i:Int)+1)) w'):EP first (pf k,true) I w r1 i s X:=by
 unfold EP;have hz:=xe;have u:=BM Q R f2 U;have J:∀ {w w':World},Fr [r3,r1] w w'->Fr (r3::r1::S) w w':=fun f=>f.mono fun x V _=>by simp only[zG,xX,or_false] at V;rcases V with rfl|rfl<;>simp
 refine me (pr k) (o.st' 0 rfl _ (iI rfl) rfl (zM _) fun w2 o _=>oC o 0 rfl k.1 rfl (oB o fun ak w3 _ f3 o=>o.st' 0 rfl _ (iI rfl) rfl (zM _) fun w4 o _=>?_));have o:=o.drew;have hR:∀ {w'},Fr [r3,r1] W w'->RB (r3::r1::S) w' r b:=fun f=>h.q8 (J f) fun x V=>.inl V;have G:b.size<=100000:=oJ;refine⟨oC o 0 rfl k.1 rfl (oC o 3 rfl r rfl (oC o 0 rfl (gb k.1) rfl (oC o 0 rfl (gc k.1) rfl (BA (i:=gb k.1) (j:=gc k.1) (hR o.fr) G fun w7 C=>iM ((o.q7 C).cells 0 rfl rfl) (Hq (am:=(0,0)) Q R f2 U fun w8 O=>oI ((o.q7 C).q7 O) hz fun r9 w9 _ o=>GQ (o.cells 1 rfl rfl) (o.cells 1 rfl rfl) (o.cells 4 rfl rfl) (o.cells 1 rfl rfl) ?_))))),
  oC o 0 rfl k.1 rfl (oC o 3 rfl r rfl (oC o 0 rfl (gb k.1) rfl (oC o 0 rfl (gc k.1) rfl (BA (i:=gb k.1) (j:=gc k.1) (hR o.fr) G fun w7 C=>iM ((o.q7 C).cells 0 rfl rfl) (oI (o.q7 C) hz fun r9 w9 _ o=>GQ (o.cells 1 rfl rfl) (o.cells 1 rfl rfl) (o.cells 4 rfl rfl) (o.cells 1 rfl rfl) (Hq (am:=(0,0)) Q R f2 U fun w8 O=>?_)))))),
  oC o 0 rfl k.1 rfl (oC o 3 rfl r rfl (oC o 0 rfl (gb k.1) rfl (oC o 0 rfl (gc k.1) rfl (oI o hz fun r9 w9 _ o=>GQ (o.cells 1 rfl rfl) (o.cells 1 rfl rfl) (o.cells 4 rfl rfl) (o.cells 1 rfl rfl) (BA (i:=gb k.1) (j:=gc k.1) (hR o.fr) G fun w7 C=>iM ((o.q7 C).cells 1 rfl rfl) (Hq (am:=(0,0)) Q R f2 U fun w8 O=>?_))))))⟩
 exact He o h hS hl hi hb E u.1 u.2 en kk;exact He (o.q7 O) h hS hl hi hb E u.1 u.2 en kk;exact He ((o.q7 C).q7 O) h hS hl hi hb E u.1 u.2 en kk
end
def qwk{r:oW}{b:Bk}{most:Int}{K:oW×Int->WP}(h:RB S w r b)(hS:∀x∈S,x<w.heap.size)(R:p4 b)(hn:IntKind.u64.has first)(hm:b.many<=90000)(aW:b.gn+b.due.length<=90000)(kk:∀r' w',RB S w' r' (ko (fT b (ie b.due first most) first) (b.gn+(ie b.due first most).length))->Fr [] w w'->K (r',((ie b.due first most).length:Int)) w'): cW 16 [.agg (HL.mk eY r).toArray,.int .u64 first,.i most] [.agg eY,.one .i] w K:=by
 refine qhz ?_;have ad:=v8;have ar:=Dt (l:=b.due) (j8:=first) (most:=most);have ae:=Ct (l:=b.due) (j8:=first) (most:=most);have hu:=pj hn;have U:b.size<=b.many:=Nat.le_add_right _ _;refine oB (oE [] w) fun r1 w1 e1 f1 o=>oB o fun r3 w2 e2 f2 o=>oC o 1 rfl r rfl ?_;have aY:r1<w2.heap.size:=fJ (o.at (i:=1) rfl);have aZ:r3<w2.heap.size:=fJ (o.at (i:=0) rfl);have n1:w.heap.size<=r1:=oJ;have n3:w.heap.size<=r3:=(by have:=f1.size;omega);refine qzH (h.q7 o.fr) oJ fun s B w3 hB f3 nB=>?_;have o:=o.q7 f3;generalize ie b.due first most=l at kk hB ar ae
 have av:s.len=l.length:=hB.len;have aw:dX iB 4 [r3,r1] w3 s l:=hB.kF Bp fun x u hF=>by
  have:=nB x u
  simp only[zG,xX,or_false] at hF;omega
 have ax:∀ {w':World},w3.heap.size<=w'.heap.size->∀x∈r3::r1::S,x<w'.heap.size:=fun z x u=>by
  have:=f3.size
  rcases zG.1 u with rfl|u;omega;rcases zG.1 u with rfl|u;omega
  have:=hS x u
  have:=f1.size
  have:=f2.size
  omega
 have h3:RB (r3::r1::S) w3 r b:=h.q8 (o.fr.mono fun _ h _=>nomatch h) fun x u=>by rcases zG.1 u with rfl|u;exact .inr n3;rcases zG.1 u with rfl|u;exact .inr n1;exact .inl u
 generalize ay:(Obj.cells #[Value.slice none 0 0,Value.slice none 0 0,Value.slice none 0 0,Value.slice none 0 0,Value.slice none 0 0,Value.slice none 0 0,Value.slice none 0 0,Value.int IntKind.u64 0,Value.bool false,Value.slice none 0 0] uh (0,0))=o3 at o;have e0:(first+((0:Nat):Int))%18446744073709551616=first:=by omega
 refine jT (fun x W=>∃i:Nat,∃ri B,x=i/\i<=l.length/\RB (r3::r1::S) W ri B/\dR [] w W [(r3,o3),(r1,.cells (HL.mk eY ri).toArray uh (0,0))]/\w3.heap.size<=W.heap.size/\dX iB 4 [r3,r1] W s l/\p4 B/\(l.drop i).Sublist B.due/\B.many<=b.many/\B.gn=b.gn+i/\ko (fT B (l.drop i) ((first+i)%18446744073709551616)) 0=ko (fT b l first) 0) (fun x _=>l.length-x.toNat) ⟨0,r,b,rfl,yX _,h3,o,zM _,aw,R,ae,zM _,rfl,by rw[e0];rfl⟩ ?_;rintro x W ⟨i,ri,B,rfl,hi,hR,o,zW,hl,R,E,az,aA,hp⟩ X hX;apply eH<;>intro V
 ·have C:i<l.length:=(by have:=zC V;omega);have aB:=zY C;rw[aB] at E hp;have J:l[i]∈B.due:=E.subset mem_cons_self;obtain⟨k,q,hk,hq⟩:=(R.Q9 J).ok;obtain⟨k',_,_,ag,ah,_⟩:=R.has _ J;rw[hk] at ag;cases ag;have hA:∀j,ee fq ((eG B j).getD kN):=fun j=>by
   cases u:eG B j with
   | none=>exact AP
   | some a=>exact R.fit a (sO u).1
  have a6:B.size<=B.many:=Nat.le_add_right _ _;have en:wrap .u64 (first+wrap .u64 (i:Int))=(first+i)%18446744073709551616:=(by rw[qv (i:Int) ⟨oJ,oJ⟩];unfold wrap;have:(IntKind.u64.signed)=false:=rfl;simp only[this,Bool.false_and,Bool.false_eq_true,if_false];rfl);have aD:=qqw (n:=(first+i)%18446744073709551616) J;have ai:∀r' w',RB (r3::r1::S) w' r' (ko (((fi B q ((first+i)%18446744073709551616)).fK (gq k.1,4)).jB l[i]) (B.gn+1))->w'.heap[r1]?=some (.cells (HL.mk eY r').toArray uh (0,0))->w'.heap[r3]?=some o3->Fr [r3,r1] W w'->X (wrap .i64 ((i:Int)+1)) w':=fun r' w' O aE aF f'=>by have eo:kL B l[i] ((first+i)%18446744073709551616)=((fi B q ((first+i)%18446744073709551616)).fK (gq k.1,4)).jB l[i]:=(by unfold kL;rw[hk];simp only[xV];rw[hq];rfl);rw[<- eo] at O;rw[gd _ oJ];have aH:((first+(i:Int))%18446744073709551616+1)%18446744073709551616=(first+((i+1:Nat):Int))%18446744073709551616:=oJ;refine hX _ _ ⟨i+1,r',_,rfl,C,O,qyW o f' aF aE,zL zW f'.size,hl.q8 f' fun x u=>.inl u,(R.one J).ko,?_,?_,?_,?_⟩ oJ;show (l.drop (i+1)).Sublist (kL B l[i] _).due;rw[(wH (b:=B) (d:=l[i])).2.2.1];exact R.due.rest E;exact zL aD.1 az;show B.gn+1=_;omega;rw[qsB,<- hp,fT,aH];rfl
  have aj:=ax zW;have o:=o.lX.drew;have O:RB (r3::r1::S) W.drew ri B:=hR.q7 (Fr.refl [] W).drew;have aT:=E.length_le;have Q:B.gn<=99000:=oJ;have ak:B.size+5<=100000:=oJ;have u:=zA C;have al:=hA (gb k.1);have am:=hA (gc k.1);have U:B.size<=100000:=oJ;refine⟨?_,?_⟩;refine oC o 1 rfl ri rfl (qxu hl i rfl u fun c aa cs T fr hb ab V=>?_);have G:(cs.toList.drop (aa+2)).take 2=HL.mk u2 (mP l[i]):=(qzt (j:=2) V).trans rfl;refine wG (w:=W.drew) hb (mP l[i]) G (If O U fun w7 f7=>?_);rw[show hU B ((mP l[i]).1,(mP l[i]).2)=some k from hk];exact oI (o.q7 f7) ad fun aJ w8 _ I=>ka (uS (I.pU hb ab) _ _ 0 G) (I.cells 2 rfl rfl) (qBb I hR aj hl C ak Q ah.1 al am hq en ai);refine oC o 1 rfl ri rfl (qxu hl i rfl u fun c aa cs T fr hb ab V=>?_);have G:(cs.toList.drop (aa+2)).take 2=HL.mk u2 (mP l[i]):=(qzt (j:=2) V).trans rfl;refine wG (w:=W.drew) hb (mP l[i]) G (oI o ad fun aJ w8 _ I=>ka (uS (I.pU hb ab) _ _ 0 G) (I.cells 2 rfl rfl) ?_);refine If (hR.q8 (I.fr.mono fun x u _=>by have u:x∈[r3,r1]:=u;simp only[zG,xX,or_false] at u;rcases u with rfl|rfl<;>simp) fun x u=>.inl u) U fun w9 f9=>?_;rw[show hU B ((mP l[i]).1,(mP l[i]).2)=some k from hk];exact qBb (I.q7 f9) hR aj hl C ak Q ah.1 al am hq en ai
 ·have C:i=l.length:=(by have:=zB V;omega);subst C;rw[drop_length,fT] at hp;have eB:B=ko (fT b l first) (b.gn+l.length):=(by have:B=ko (ko B 0) B.gn:=rfl;rw[this,hp,aA];rfl);rw[av];refine oC o 1 rfl ri rfl ?_;subst ay;refine o.st' 0 rfl _ (iI rfl) rfl (zM _) fun w8 I f8=>oC I 0 rfl ri rfl ?_;rw[eB] at hR;exact kk ri w8 (hR.q8 (f8.mono fun x u _=>by rw[zE.1 u];simp) fun x u=>.inl (by simp[u])) I.fr
end
section
open Go Go.Pt List
open Go.IntKind (wrap)
open Classical
attribute [local irreducible] ld dK ic nK jx eT st new idx jK jF fV jI jl mp gK nn call dW inv run fl jf join loop held ext kW eU m8 nQ nT IntKind.wrap
variable {K:Option Addr×Option Addr->WP}
def qxc{w:World}{n:Nat}(Y:List Nat)(h:∀b∈Y,b<w.heap.size)(J:HG∉Y)(O:Hv w)(C:8<=n)(E:n<=4096)(Q:∀sb pb dbk FD F D w',rI w' Y sb dbk pb FD F D (nf n) ((n-2)-gG (n-2)) (fun _=>([],[]))->Made D n->Fr [] w w'->(∀b∈sb::(FD++F),w.heap.size<=b)->K (pW sb,pW pb) w'): cW 18 [.i n] dD w K:=by exact qhR<|qxb (n:=n) Y h J O C E fun dbk pb FD F D w1 u R G U=>cond_false rfl<|qsU<|oB (oE [] w1) fun r w2 V I o=>Q r pb dbk FD F D w2 ⟨u.q7 I,sL.made C E u.wf,o.at (i:=0) rfl,fun hm=>by have:=u.x5.lt r hm;omega⟩ R (G.trans I) fun b hb=>(zG.1 hb).elim (fun e=>by rw[e,V];exact G.size) (U b)
def qvq{w:World}{a0 a1:Sl}{K:Bool->WP}(u:∀w',Fr [] w w'->K (decide ((a0.len:Int)>8)||decide ((a1.len:Int)>25)) w'):cW 7 [.agg #[a0.v,a1.v]] df w K:=by
 refine qfN<|oB (oE [] w) fun r w1 _ C o=>oA o 0 rfl a0 rfl (eH (fun h=>?_) fun h=>?_)
 have:=u w1 C
 rwa[h] at this
 have:=u w1 C
 rw[h,Bool.false_or] at this;exact oA o 0 rfl a1 rfl this
structure oZ (w0 W:World) (Y:List Nat) (L:List (Nat×Obj)) (sb:Nat) (F:List Nat) (c:Nat) (bs br:Bk) (ri:oW):Prop where
 own:dR (fN L) W W L
 sB:SB W (fN L++Y) sb F c bs
 rb:RB (fN L++F) W ri br
 fr:Fr [] w0 W
 nL:∀ x∈fN L,w0.heap.size<=x
 nF:∀ x∈F,w0.heap.size<=x
 ns:w0.heap.size<=sb/\sb∉fN L
section
variable {w0 W w':World} {Y F F':List Nat} {L L':List (Nat×Obj)} {sb c:Nat} {bs br bs' br':Bk} {ri r':oW}
def oZ.lt(h:oZ w0 W Y L sb F c bs br ri):∀x∈fN L++F,x<W.heap.size:=fun x u=>(zD.1 u).elim (zm h.own x) (h.sB.flt x)
def oZ.j8(h:oZ w0 W Y L sb F c bs br ri)(o:dR (fN L) W w' L'):oZ w0 w' Y L' sb F c bs br ri where
 own:=o.lX
 sB:=h.sB.HN h.ns.2 o
 rb:=h.rb.q8 (o.fr.mono fun x u _=>zH _ u) fun x u=>(zD.1 u).elim (fun u=>by obtain⟨p,C,rfl⟩:=mem_map.1 u;exact (o.own p C).imp (zH _) id) fun u=>.inl (zI _ u)
 fr:=h.fr.j6 o.fr fun x u=>.inr (h.nL x u)
 nL:=fun x u=>by obtain⟨p,C,rfl⟩:=mem_map.1 u;exact (o.own p C).elim (h.nL _) (zL h.fr.size)
 nF:=h.nF
 ns:=⟨h.ns.1,fun u=>by
  obtain⟨p,C,e⟩:=mem_map.1 u;rcases o.own p C with E|E;exact h.ns.2 (by rw[<- e];exact E)
  have:=h.sB.lt
  omega⟩
def oZ.sub(h:oZ w0 W Y L sb F c bs br ri)(u:L'.Sublist L):oZ w0 W Y L' sb F c bs br ri where
 own:=(h.own.sub u).lX
 sB:=h.sB.x8 fun b C=>(zD.1 C).elim (fun C=>zH _ ((u.map _).subset C)) (zI _)
 rb:=h.rb.q8 (.refl _ _) fun x E=>.inl ((zD.1 E).elim (fun C=>zH _ ((u.map _).subset C)) (zI _))
 fr:=h.fr
 nL:=fun x E=>h.nL x ((u.map _).subset E)
 nF:=h.nF
 ns:=⟨h.ns.1,fun E=>h.ns.2 ((u.map _).subset E)⟩
def oZ.pL(h:oZ w0 W Y L sb F c bs br ri)(f:Fr [] W w')(u:RB (fN L++F) w' r' br'):oZ w0 w' Y L sb F c bs br' r':=
 ⟨(h.own.q7 f).lX,h.sB.q7 f,u,h.fr.trans f,h.nL,h.nF,h.ns⟩
def oZ.q7(h:oZ w0 W Y L sb F c bs br ri)(f:Fr [] W w'):oZ w0 w' Y L sb F c bs br ri:=h.pL f (h.rb.q7 f)
def oZ.pB(h:oZ w0 W Y L sb F c bs br ri)(C:SB w' (fN L++Y) sb F' c bs')(s:pc F W F' w'):oZ w0 w' Y L sb F' c bs' br ri where
 own:=h.sB.own h.own s
 sB:=C
 rb:=h.rb.q8 (s.fr.mono fun x u _=>zI _ u) fun x u=>(zD.1 u).elim (fun u=>.inl (zH _ u)) fun u=>(s.new x u).imp (zI _) id
 fr:=h.fr.j6 s.fr fun x u=>.inr (h.nF x u)
 nL:=h.nL
 nF:=fun x u=>(s.new x u).elim (h.nF x) (zL h.fr.size)
 ns:=h.ns
end
abbrev vU:oW:=(dI,dI,dI,dI,dI,dI,dI,0,false,dI)
def G9:Bk:=⟨[],[],[],[],[],[],[],none,0⟩
def qA9(S:List Nat)(w:World):RB S w vU G9:=⟨.nil _ _ _ _,.nil _ _ _ _,.nil _ _ _ _,.nil _ _ _ _,.nil _ _ _ _,.nil _ _ _ _,.nil _ _ _ _,⟨rfl,rfl⟩,[],zM _,.nil _ _ _ _⟩
def oZ.start{w0 w w':World}{Y:List Nat}{L:List (Nat×Obj)}{sb dbk pb c:Nat}{FD F:List Nat}{D:dM}{M:eQ}(o:dR [] w0 w L)(h:rI w' (fN L++Y) sb dbk pb FD F D M c (fun _=>([],[])))(E:c<=100000)(f:Fr [] w w')(u:∀b∈sb::(FD++F),w.heap.size<=b):oZ w0 w' Y L sb F c G9 G9 vU where
 own:=(o.q7 f).lX
 sB:=⟨pb,dbk,FD,D,M,_,h,qAK,E⟩
 rb:=qA9 _ _
 fr:=o.fr.trans f
 nL:=fun x C=>by obtain⟨p,G,rfl⟩:=mem_map.1 C;exact (o.own p G).elim (fun h=>nomatch h) id
 nF:=fun x C=>zL o.fr.size (u x (by simp[C]))
 ns:=⟨zL o.fr.size (u sb oL),fun I=>by have:=zm o sb I;have:=u sb oL;omega⟩
def qtG{b:Bk}{k:Kp}:(b.gi k).size<=b.size+3:=by have h:=sM (kf:=qJ) (a:=k) (l:=b.jR);have u:=sM (kf:=py) (a:=wT k.1) (l:=b.mA);have C:=sM (kf:=py) (a:=AO k.1) (l:=b.mI);unfold Bk.gi Bk.l9 Bk.nO Bk.qe Bk.size;dsimp only;omega
def qtF{b:Bk}{x:gp×Int}:(b.fK x).size<=b.size+1:=by
 have:=sM (kf:=fun x:gp×Int=>x.1) (a:=x) (l:=b.jU)
 unfold Bk.fK Bk.size;dsimp only;omega
end
section
open Go Go.Pt List
open Go.IntKind (wrap)
open Classical
variable {K:Option Addr×oW×Bool->WP}
def GC{h u C E G:WP}{w:World}{K:Prop}(I:h w)(J:u w)(O:C w)(Q:E w)(R:G w)(k:K):held [h,u,C,E,G] w K:=⟨⟨I,J,O,Q,R⟩,k⟩
attribute [local irreducible] ld dK ic nK jx eT st new idx jK jF fV jI jl mp gK nn call dW inv run fl jf join loop held ext kW eU m8 nQ nT IntKind.wrap
abbrev c9:Nat:=(900-2)-gG (900-2)
def B0:800<=c9/\c9<=100000:=by decide
abbrev tG:Pn->List Value:=HL.mk nW
abbrev um (r:oW):Obj:=.cells (HL.mk eY r).toArray uh (0,0)
section
variable {w0:World} {Y:List Nat} {sb:Nat} {r1 r3 r9:Nat} {o1:Obj}
def Bh (w0:World) (Y:List Nat) (sb r9 r3 r1:Nat) (o1:Obj) (b:Bk) (W:World):Prop:=∃F ri,oZ w0 W Y [(r9,um ri),(r3,um vU),(r1,o1)] sb F c9 b b ri
def qAH{W w:World}{F:List Nat}{b:Bk}{ri:oW}{J V O n j:Nat}{t:HL ig}{mv:Option Pa}{ab:Obj}{s:Int}{x:Pn}{a0:Sl}{pp:Option Addr}{X:Int->WP}(h:oZ w0 W Y [(r9,um ri),(r3,um vU),(r1,o1)] sb F c9 b b ri)(o:dR [r9,r3,r1] W w [(O,.cells (kz pX).toArray qh (0,0)),(J,.cells (HL.mk ig t).toArray wU (0,0)),(V,ab),(r9,um ri),(r3,um vU),(r1,o1)])(et:qD n j (lT s x) x=t)(Q:pA t (kB b (gb t) (gc t))=mv)(hB:rN n j s b)(hn:2<=n/\n<=8)(hj:j<25)(U:ee nW x)(ha:a0.len=n)(hg:b.gn=0)(es:wrap .u64 (s+wrap .u64 (1+wrap .u64 (rP x)))=lT s x)(u:∀w',Bh w0 Y sb r9 r3 r1 o1 (lB n j s b x) w'->(lB n j s b x).gn=0->X (lT s x) w'): CG K (kz (mv.getD pX),mv.isSome) O w (qW x) a0 (rf x) X (s,(j:Int)) (rP x) J r9 (pW sb,pp) r3:=by
 unfold CG;dsimp only;rw[es];have aj:(0:Int)<=qW x/\qW x<=255:=U.1;have ak:(0:Int)<=rf x/\rf x<=255:=U.2.1;have aC:(0:Int)<=rP x/\rP x<=255:=U.2.2.2.2.2.1;have aD:=hB.st;have ac:mu (lT s x):=(by unfold lT;exact⟨oJ,oJ⟩);have em:∀y:Int,0<=y/\y<=255->Int.tmod (wrap .i64 y) (a0.len:Int)=y%(n:Int):=fun y hy=>by rw[gd _ oJ,ha,Int.tmod_eq_emod_of_nonneg hy.1]
 rw[em _ aj,em _ ak];have C:ee ig t:=(by rw[<- et];exact Gn (i:=j) (x:=x) hn oJ ac U);have ep:lB n j s b x=match (generalizing:=false) mv with
  | none=>b
  | some q=>if qW x%(n:Int)=rf x%(n:Int) then b else qR b t q:=by rw[<- Q,<- et];rfl
 rw[ep] at u;have aF:=hB.many;have aG:b.size<=b.many:=Nat.le_add_right _ _;have hc:=B0;refine me (qX _) (o.st' 0 rfl _ (iI rfl) rfl (zM _) fun w1 o _=>?_);have E:∀i,ee fq ((eG b i).getD kN):=fun i=>by
  cases U:eG b i with
  | none=>exact AP
  | some a=>exact hB.snd.fit a (sO U).1
 have fD:=E (gb t);have fC:=E (gc t);have skip:((qW x%(n:Int)==rf x%(n:Int))||!mv.isSome)=true->X (lT s x) w1:=fun G=>by
  have h2:Bh w0 Y sb r9 r3 r1 o1 b w1:=⟨F,ri,(h.j8 o).sub (.cons _ (.cons _ (.cons _ (.refl _))))⟩;cases mv with
  | none=>exact u w1 h2 hg
  | some q=>
   have he:qW x%(n:Int)=rf x%(n:Int):=(oP G);dsimp only at u;rw[if_pos he] at u;exact u w1 h2 hg
 refine tN ((qW x%(n:Int)==rf x%(n:Int))||!mv.isSome) w1 (fun M hM=>?_) ?_;refine eH (fun G=>?_) fun G=>?_;rw[G] at hM;exact hM;rw[G] at hM;exact hM;refine eH skip fun G=>?_;clear skip;rw[Bool.or_eq_false_iff,zR,yE] at G;obtain⟨am,hq⟩:=G;obtain⟨q,rfl⟩:=Option.isSome_iff_exists.1 hq;dsimp only at u o;rw[if_neg am] at u;obtain⟨f1,f2,_⟩:=qok C fD fC Q;clear ep Q et;have hk:rq (t,fB t):=⟨C,C.2.2.2.2.2.2.1,C.2.2.2.2.2.2.2.1⟩;have an:=v8;have z1:(b.dQ q.1).size<=b.size+1:=wS;have z2:((b.dQ q.1).dQ q.2.1).size<=(b.dQ q.1).size+1:=wS;have z3:(((b.dQ q.1).dQ q.2.1).gi (t,fB t)).size<=((b.dQ q.1).dQ q.2.1).size+3:=qtG;have z4:((((b.dQ q.1).dQ q.2.1).gi (t,fB t)).fK (gq t,1)).size<=(((b.dQ q.1).dQ q.2.1).gi (t,fB t)).size+1:=qtF;refine oC o 1 rfl t rfl (oC o 1 rfl (fB t) rfl (sI (ts:=[iJ.oc]) (pf (t,fB t)) (qrK (k:=(t,fB t)) _) (oI o an fun ao w2 _ o=>me (pr _) (o.st' 0 rfl _ (iI rfl) rfl (zM _) fun w3 o _=>?_))));have o:=o.drew;have h:=h.j8 o;refine oC o 4 rfl ri rfl (oC o 1 rfl q.1 rfl (oC o 1 rfl q.2.1 rfl (nH (o.at (i:=0) rfl) _ (pr _) rfl (oC o 2 rfl (gq t) rfl ?_))));refine Df h.rb oJ h.lt fun ra wa ha fa=>?_;have h:=h.pL fa ha;refine mX (h.own.cells 2 rfl rfl) (uS (h.own.at (i:=0) rfl) _ _ 0 rfl) (h.own.cells 1 rfl rfl)<|Df h.rb oJ h.lt fun rb wb G fb=>?_;have h:=h.pL fb G;refine ka (h.own.cells 2 rfl rfl) (uS (h.own.at (i:=0) rfl) _ _ 0 rfl)<|qu7 h.rb oJ h.lt fun rc wc ap fc=>?_;have h:=h.pL fc ap;refine iM (h.own.cells 2 rfl rfl)<|qnI h.rb oJ h.lt fun rd wd I fd=>?_;have h:=h.pL fd I;refine h.own.st' 4 rfl _ (iI rfl) rfl (zM _) fun we o _=>?_;have h:=h.j8 o;clear o;refine iQ (fun bo w'=>bo=false/\∃F',oZ w0 w' Y [(ao,.cells (pf (t,fB t)).toArray xd (0,0)),(O,.cells (kz q).toArray qh (0,0)),(J,.cells (HL.mk ig t).toArray wU (0,0)),(V,ab),(r9,um rd),(r3,um vU),(r1,o1)] sb F' c9 ((((b.dQ q.1).dQ q.2.1).gi (t,fB t)).fK (gq t,1)) ((((b.dQ q.1).dQ q.2.1).gi (t,fB t)).fK (gq t,1)) rd) ?_ ?_;refine oC h.own 1 rfl q.1 rfl (CK h.sB oJ f1 fun F1 wf h1 s1=>cond_false rfl ?_);have h:=h.pB h1 s1;refine oC h.own 1 rfl q.2.1 rfl (CK h.sB oJ f2 fun F2 wg h2 s2=>cond_false rfl ?_);have h:=h.pB h2 s2;refine nH (h.own.at (i:=0) rfl) _ (pr _) rfl (qvc h.sB oJ hk fun F3 wh h3 s3=>cond_false rfl ?_);have h:=h.pB h3 s3;refine oC h.own 2 rfl (gq t) rfl (qnK h.sB oJ ⟨C.1,C.2.1⟩ (show (0:Int)<=1/\(1:Int)<=255 from⟨oM,oM⟩) fun F4 wi h4 s4=>⟨rfl,F4,h.pB h4 s4⟩);rintro bo w4 ⟨rfl,F4,h⟩;refine cond_false rfl (oC h.own 2 rfl t rfl (qyb C fun w5 f5=>?_));have h:=h.q7 f5;have R:((((b.dQ q.1).dQ q.2.1).gi (t,fB t)).fK (gq t,1)).gn=0:=hg;unfold qR at u;dsimp only at u;generalize (((b.dQ q.1).dQ q.2.1).gi (t,fB t)).fK (gq t,1)=b4 at h u R z4;cases I:oz t with
 | none=>
  rw[I] at u;exact cond_false rfl (u w5 ⟨F4,rd,h.sub (.cons _ (.cons _ (.cons _ (.cons _ (.refl _)))))⟩ R)
 | some e=>
  rw[I] at u;have he:mu e:=by unfold oz at I;have hN:(0:Int)<=kD t/\kD t<=18446744073709551615:=C.2.2.2.2.2.2.2.2.2.2.2.2.2.2.2;have hO:(0:Int)<=lQ t/\lQ t<=4294967295:=C.2.2.2.2.2.2.2.2.2.2.2.1;split at I;cases I;split at I;cases I;exact⟨oJ,oJ⟩;cases I
  have ar:ee ib (e,kD t,gq t):=⟨rW he,C.2.2.2.2.2.2.2.2.2.2.2.2.2.2.2,C.1,C.2.1⟩;refine cond_true rfl (oA h.own 2 rfl (kD t) rfl (oC h.own 2 rfl (gq t) rfl (oB h.own fun aA w6 _ _ o=>o.st' 0 rfl (HL.mk ib (e,kD t,gq t)).toArray (iI rfl) rfl (zM _) fun w7 o _=>?_)));have h:=h.j8 o;clear o;refine oC h.own 5 rfl rd rfl (oC h.own 0 rfl (e,kD t,gq t) rfl (qu6 h.rb oJ h.lt fun re w8 h8 f8=>?_));have h:=h.pL f8 h8;refine h.own.st' 5 rfl _ (iI rfl) rfl (zM _) fun w9 o _=>?_;have h:=h.j8 o;clear o;refine oC h.own 0 rfl (e,kD t,gq t) rfl (qva h.sB oJ ar fun F5 au av aw=>cond_false rfl ?_);have h:=h.pB av aw;exact u au ⟨F5,re,h.sub (.cons _ (.cons _ (.cons _ (.cons _ (.cons _ (.refl _))))))⟩ R
end
end
section
open Go Go.Pt List
open Go.IntKind (wrap)
open Classical
attribute [local irreducible] ld dK ic nK jx eT st new idx jK jF fV jI jl mp gK nn call dW inv run fl jf join loop held ext kW eU m8 nQ nT IntKind.wrap
variable {K:Option Addr×oW×Bool->WP} {l la:List (HL fq)} {lp:List Pn}
abbrev Bu (a0 a1:Sl):Obj:=.cells #[a0.v,a1.v] 25 (0,0)
def v6 (l:List (HL fq)) (i:Nat):Bk:=⟨(mi l).take i,[],[],[],[],[],[],none,0⟩
def qzQ:v6 l l.length=vG l:=by unfold v6 vG;rw[zS (by rw[mi,length_mapIdx];exact zM _)]
def qzR{i:Nat}(h:i<l.length):(v6 l i).dQ (oU i l[i])=v6 l (i+1):=by
 have C:i<(mi l).length:=(by rw[mi,length_mapIdx];exact h);have e:(mi l)[i]=oU i l[i]:=(by simp only[mi,getElem_mapIdx]);unfold Bk.dQ v6;dsimp only;rw[EV,yG C,e];intro x E u;obtain⟨j,G,rfl⟩:=mem_take_iff_getElem.1 E;simp only[mi,getElem_mapIdx] at u
 have:=congrArg Prod.snd u
 have:(j:Int)+1=(i:Int)+1:=this;omega
def qyo{i:Nat}:(v6 l i).size<=i:=by have:((mi l).take i).length<=i:=length_take_le _ _;unfold v6 Bk.size;simpa using this
def qrL{w:World}{Y:List Nat}{a0 a1:Sl}(ay:∀b∈Y,b<w.heap.size)(hY:HG∉Y)(hv:Hv w)(ha:dX oj 15 [] w a0 la)(hp:dX tG 7 [] w a1 lp)(fa:∀a∈la,ee fq a)(fp:∀x∈lp,ee nW x)(V:la.length<=8)(aV:lp.length<=25)(kk:∀sb F ri w',SB w' Y sb F c9 (iH la lp)->RB F w' ri (iH la lp)->(∀x∈F,w.heap.size<=x)->w.heap.size<=sb->Fr [] w w'->K (pW sb,ri,true) w'): cW 9 [.agg #[a0.v,a1.v]] [.one .ptr,.agg eY,.one .bool] w K:=by
 refine qhw ?_;have hc:=B0;have am:a0.len=la.length:=ha.1;have aY:a1.len=lp.length:=hp.1;have hz:=xe;refine oB (oE [] w) fun r1 w1 e1 f1 o=>oB o fun r3 w2 e2 f2 o=>?_;have g1:r1<w2.heap.size:=fJ (o.at (i:=1) rfl);have g3:r3<w2.heap.size:=fJ (o.at (i:=0) rfl);have a5:=hv.lt;have z1:=f1.size;have z2:=f2.size;refine qxc (n:=900) (r3::r1::Y) (fun b hb=>?_) (fun hm=>?_) (hv.q7 o.fr) oM oM fun sb pb dbk FD F D w3 hS hM f3 n3=>cond_false rfl ?_;rcases zG.1 hb with rfl|hb;exact g3;rcases zG.1 hb with rfl|hb;exact g1
 have:=ay b hb
 omega;rcases zG.1 hm with e|hm;omega;rcases zG.1 hm with e|hm;omega;exact hY hm;have h:=oZ.start (Y:=Y) o hS hc.2 f3 n3;clear o hS hM;refine oB h.own fun r9 w4 _ _ o=>?_;have h:=h.j8 o;clear o;refine oA h.own 2 rfl a0 rfl<|jT (fun x W=>∃i:Nat,∃F ri,x=i/\i<=la.length/\oZ w W Y [(r9,um ri),(r3,um vU),(r1,Bu a0 a1)] sb F c9 (v6 la i) (v6 la i) ri) (fun x _=>la.length-x.toNat) ⟨0,F,vU,rfl,yX _,h⟩ ?_;clear h;rintro x W ⟨i,F,ri,rfl,hi,h⟩ X hX;apply cD<;>intro C;have G:i<la.length:=oJ;have hs:=qyo (l:=la) (i:=i);have hf:=qsO (i:=i) oJ (fa _ (zX G));refine dX.oT (ha.q7 h.fr) i rfl (zA G) rfl rfl ?_;have eu:wrap .u64 (wrap .u64 (i:Int)+1)=(i:Int)+1:=(by rw[qv (i:Int) ⟨oJ,oJ⟩,qv _ ⟨oJ,oJ⟩]);rw[eu];refine oB h.own fun a' w5 _ _ o=>o.st' 0 rfl _ (iI rfl) rfl (zM _) fun w6 o _=>o.st' 0 rfl (HL.mk fq (oU i la[i])).toArray rfl rfl (zO rfl) fun w7 o _=>?_;have h:=h.j8 o;clear o;have ab:=qzR G;generalize oU i la[i]=a at h hf ab;refine oC h.own 1 rfl ri rfl (oC h.own 0 rfl a rfl (Df h.rb oJ h.lt fun rb w8 h8 f8=>?_));have h:=h.pL f8 h8;refine h.own.st' 1 rfl _ (iI rfl) rfl (zM _) fun w9 o _=>?_;have h:=h.j8 o;clear o;refine oC h.own 0 rfl a rfl (CK h.sB oJ hf fun F2 ad aA aB=>cond_false rfl ?_);have h:=h.pB aA aB;rw[ab] at h;rw[gd _ oJ];exact hX _ _ ⟨i+1,F2,rb,rfl,G,h.sub (.cons _ (.refl _))⟩ oJ;have G:i=la.length:=oJ;subst G;rw[qzQ] at h;refine iQ (fun _ W=>Bh w Y sb r9 r3 r1 (Bu a0 a1) (iH la lp) W) ?_ ?_;refine oA h.own 2 rfl a1 rfl ?_;clear hX;refine jT (fun q W=>∃j:Nat,∃b,q.2=j/\j<=lp.length/\Bh w Y sb r9 r3 r1 (Bu a0 a1) b W/\b.gn=0/\(2<=la.length->rN la.length j q.1 b/\nE la.length j q.1 b (lp.drop j)=iH la lp)/\(la.length<2->b=vG la)) (fun q _=>lp.length-q.2.toNat) ⟨0,vG la,rfl,yX _,⟨F,ri,h⟩,rfl,fun E=>⟨rN.start V fa,by unfold iH;rw[iN];rfl⟩,fun _=>rfl⟩ ?_;clear h;rintro⟨s,q⟩ W ⟨j,b,hq,hj,⟨F,ri,h⟩,hg,I,ao⟩ X hX;dsimp only at hq I⊢;subst hq;apply cD<;>intro C;have J:j<lp.length:=oJ;have hx:=zA J;have u:=fp _ (zX J);have hd:=zY J;rw[hd] at I;generalize lp[j]=x at hx u I;refine iQ (fun y W=>2<=la.length/\y=lT s x/\Bh w Y sb r9 r3 r1 (Bu a0 a1) (lB la.length j s b x) W/\(lB la.length j s b x).gn=0) ?_ ?_;refine dX.oT (hp.q7 h.fr) j rfl hx rfl rfl<|oB h.own fun aC w5 _ _ o=>o.st' 0 rfl (HL.mk nW x).toArray (iI rfl) rfl (zM _) fun w6 o _=>oA o 3 rfl a0 rfl (eH (fun ae=>?_) fun ae=>?_);have E:la.length<2:=(by have:=zC ae;omega);have hb:=ao E;have eb:iH la lp=b:=(by unfold iH;rw[if_pos E,hb]);rw[eb];exact⟨F,ri,(h.j8 o).sub (.cons _ (.refl _))⟩;have E:2<=la.length:=(by have:=zB ae;omega);obtain⟨I,ap⟩:=I E;have aE:(0:Int)<=qW x/\qW x<=255:=u.1;have aF:(0:Int)<=rf x/\rf x<=255:=u.2.1;have bi:(0:Int)<=rP x/\rP x<=255:=u.2.2.2.2.2.1;have aG:(0:Int)<=yd x/\yd x<=65535:=u.2.2.2.2.2.2;have bj:=I.st;have es:wrap .u64 (s+wrap .u64 (1+wrap .u64 (rP x)))=lT s x:=by rw[qv (rP x) ⟨oJ,oJ⟩,qv (1+rP x) ⟨oJ,oJ⟩,qv (s+(1+rP x)) ⟨oJ,oJ⟩];rfl
 have em:∀y:Int,0<=y/\y<=255->wrap .u64 (wrap .u64 (Int.tmod (wrap .i64 y) (a0.len:Int))+1)=y%(la.length:Int)+1:=fun y hy=>by have m:0<=y%(la.length:Int)/\y%(la.length:Int)<la.length:=⟨Int.emod_nonneg _ oJ,Int.emod_lt_of_pos _ oJ⟩;rw[gd _ oJ,am,Int.tmod_eq_emod_of_nonneg hy.1,qv (y%(la.length:Int)) ⟨oJ,oJ⟩,qv (y%(la.length:Int)+1) ⟨oJ,oJ⟩]
 have og:=o.drew;refine oA og 0 rfl (qW x) rfl (me oJ (oA og 0 rfl (rf x) rfl (me oJ (oA og 0 rfl (rP x) rfl (oC og 0 rfl (Gj x) rfl (oA og 0 rfl (yd x) rfl (oA og 0 rfl (pnT x) rfl ?_)))))));rw[es,em _ aE,em _ aF,qv (j:Int) ⟨oJ,oJ⟩];refine oB og fun aH w7 _ _ o=>o.st' 0 rfl (HL.mk ig (qD la.length j (lT s x) x)).toArray (iI rfl) rfl (zM _) fun w8 o _=>?_;have o:=o.drew;have hR:=(h.j8 o).rb;have bl:b.size<=b.many:=Nat.le_add_right _ _;have bm:=I.many;have ag:b.size<=100000:=oJ;have aq:mu (lT s x):=(by unfold lT;exact⟨oJ,oJ⟩);have ht:=Gn (i:=j) (x:=x) ⟨E,V⟩ oJ aq u;have aa:hasB (jG (qD la.length j (lT s x) x)) 2=true:=(qxj (x:=yd x) ⟨aG.1,oJ⟩).2;have O:∀i,ee fq ((eG b i).getD kN):=fun i=>by
  cases hx:eG b i with
  | none=>exact AP
  | some a=>exact I.snd.fit a (sO hx).1
 have fD:=O (gb (qD la.length j (lT s x) x));have fC:=O (gc (qD la.length j (lT s x) x));generalize et:qD la.length j (lT s x) x=t at o ht aa fD fC;have ah:∀ {Q:Nat} {w9:World},dR [r9,r3,r1] W w9 [(Q,.cells (kz pX).toArray qh (0,0)),(aH,.cells (HL.mk ig t).toArray wU (0,0)),(aC,.cells (HL.mk nW x).toArray 81 (0,0)),(r9,um ri),(r3,um vU),(r1,Bu a0 a1)]->_:=fun {Q w9} o=>qAH (pp:=pW pb) (K:=K) (X:=fun y W=>2<=la.length/\y=lT s x/\Bh w Y sb r9 r3 r1 (Bu a0 a1) (lB la.length j s b x) W/\(lB la.length j s b x).gn=0) h o et rfl I ⟨E,V⟩ oJ u am hg es fun w' ai aj=>⟨E,rfl,ai,aj⟩;refine⟨?_,?_,?_⟩;refine oC o 0 rfl t rfl (oC o 0 rfl (fB t) rfl (oC o 2 rfl ri rfl (oC o 0 rfl (gb t) rfl (oC o 0 rfl (gc t) rfl (BA (i:=gb t) (j:=gc t) hR ag fun w9 R=>ka ((o.q7 R).cells 0 rfl rfl) ((o.q7 R).cells 0 rfl rfl) (GU ht aa fD fC fun ad U=>oI ((o.q7 R).q7 U) hz fun Q ar _ o=>GC (o.cells 1 rfl rfl) (o.cells 1 rfl rfl) (o.cells 3 rfl rfl) (o.cells 1 rfl rfl) (o.cells 1 rfl rfl) (ah o)))))));refine oC o 0 rfl t rfl (oC o 0 rfl (fB t) rfl (oC o 2 rfl ri rfl (oC o 0 rfl (gb t) rfl (oC o 0 rfl (gc t) rfl (BA (i:=gb t) (j:=gc t) hR ag fun w9 R=>ka ((o.q7 R).cells 0 rfl rfl) ((o.q7 R).cells 0 rfl rfl) (oI (o.q7 R) hz fun Q ar _ o=>GC (o.cells 1 rfl rfl) (o.cells 1 rfl rfl) (o.cells 3 rfl rfl) (o.cells 1 rfl rfl) (o.cells 1 rfl rfl) (GU ht aa fD fC fun ad U=>ah (o.q7 U))))))));refine oC o 0 rfl t rfl (oC o 0 rfl (fB t) rfl (oC o 2 rfl ri rfl (oC o 0 rfl (gb t) rfl (oC o 0 rfl (gc t) rfl (oI o hz fun Q ar _ o=>GC (o.cells 1 rfl rfl) (o.cells 1 rfl rfl) (o.cells 3 rfl rfl) (o.cells 1 rfl rfl) (o.cells 1 rfl rfl) (BA (i:=gb t) (j:=gc t) (h.j8 o).rb ag fun w9 R=>ka ((o.q7 R).cells 1 rfl rfl) ((o.q7 R).cells 1 rfl rfl) (GU ht aa fD fC fun ad U=>ah ((o.q7 R).q7 U))))))));rintro y W' ⟨E,rfl,ai,aj⟩;obtain⟨I,ap⟩:=I E;rw[gd _ oJ];exact hX _ _ ⟨j+1,_,rfl,J,ai,aj,fun _=>⟨I.ul ⟨E,V⟩ oJ u,ap⟩,fun h=>oJ⟩ oN;have J:j=lp.length:=oJ;subst J;have eb:iH la lp=b:=by
  by_cases E:la.length<2;unfold iH;rw[if_pos E,ao E]
  have:=(I oJ).2
  rw[drop_length,nE] at this;exact this.symm
 rw[eb];exact⟨F,ri,h⟩;rintro _ W' ⟨F,ri,h⟩;have o:=h.own.drew;refine oC o 0 rfl ri rfl (o.st' 1 rfl _ (iI rfl) rfl (zM _) fun w' o _=>oC o 1 rfl ri rfl ?_);have h:=h.j8 o;exact kk sb F ri w' (h.sB.x8 fun _ h=>zI _ h) (h.rb.q8 (.refl _ _) fun x hx=>.inl (zI _ hx)) h.nF h.ns.1 h.fr
def qtg(C:la.length<=8)(R:lp.length<=25)(U:∀a∈la,ee fq a)(V:∀x∈lp,ee nW x):p4 (iH la lp)/\(iH la lp).many<=258/\(iH la lp).due.length<=25/\(iH la lp).gn=0:=by
 have go:∀(l:List Pn) (i:Nat) (s:Int) (b:Bk),2<=la.length->i+l.length<=25->(∀x∈l,ee nW x)->rN la.length i s b->b.due.length<=i->b.gn=0->∃J,rN la.length (i+l.length) J (nE la.length i s b l)/\(nE la.length i s b l).due.length<=i+l.length/\(nE la.length i s b l).gn=0:=by
  intro l;induction l with
  | nil=>exact fun i s b _ _ _ h G u=>⟨s,h,G,u⟩
  | cons x l ih=>
   intro i s b O hi Q h G u;rw[yI] at hi;have E:(lB la.length i s b x).due.length<=i+1/\(lB la.length i s b x).gn=0:=by
    unfold lB;dsimp only;split;exact⟨oJ,u⟩;split;exact⟨oJ,u⟩;unfold qR;dsimp only;split;exact⟨by show b.due.length<=_;omega,u⟩;refine⟨?_,u⟩;show (ke _ (ik _ b.due)).length<=_;rw[C1.length_eq,yI]
    have:=(BY (d:=(‹Int›,kD (qD la.length i (lT s x) x),gq (qD la.length i (lT s x) x))) (l:=b.due)).length_le
    omega
   have:=ih (i+1) (lT s x) (lB la.length i s b x) O oJ (fun y hy=>Q y (zN _ hy)) (h.ul ⟨O,C⟩ oJ (Q x mem_cons_self)) E.1 E.2
   rw[yI,show i+(l.length+1)=i+1+l.length by omega];exact this
 have I:=rN.start C U;unfold iH;split
 have:=I.many
 exact⟨I.snd,oJ,yX _,rfl⟩;obtain⟨J,h,G,u⟩:=go lp 0 1 (vG la) oJ oJ V I (zM _) rfl;rw[xS] at h G
 have:=h.many
 exact⟨h.snd,oJ,oJ,u⟩
end
section
open Go Go.ChangeShapes Go.WideShapes Go.ChangeAt Go.RowKit Go.Pt
variable {x:HL [Cell.slice,Cell.slice]}
def Cs:List Cell->List Value->Prop
 | [],[]=>True
 | c::h,v::vs=>(∃x:c.El,v=c.mk x/\t8 c x)/\Cs h vs
 | _,_=>False
def Cs.uC:∀ {a b:List Cell} {u v:List Value},Cs a u->Cs b v->Cs (a++b) (u++v)
 | [],b,[],v,_,h=>h
 | c::a,b,x::u,v,h,g=>⟨h.1,Cs.uC h.2 g⟩
 | [],_,_::_,_,h,_=>h.elim
 | _::_,_,[],_,h,_=>h.elim
def Cs.hl:∀ {cs:List Cell} {vs:List Value},Cs cs vs->∃x:HL cs,vs=HL.mk cs x/\ee cs x
 | [],[],_=>⟨(),rfl,trivial⟩
 | [c],[v],h=>by obtain⟨x,u,C⟩:=h.1;exact⟨x,by rw[u];rfl,C⟩
 | c::E::cs,v::vs,h=>by obtain⟨x,u,C⟩:=h.1;obtain⟨y,G,I⟩:=Cs.hl (cs:=E::cs) h.2;exact⟨(x,y),by rw[u,G];rfl,C,I⟩
 | [],_::_,h=>h.elim
 | [_],[],h=>h.elim
 | [_],_::_::_,h=>h.2.elim
 | _::_::_,[],h=>h.elim
def tP (P:Program) (f:TypeId->Option (List Cell)):Nat->List Field->Option (List Cell)
 | _,[]=>some []
 | k,x::h=>bif Nat.beq x.offset k then match f x.type with
  | some a=>bif Nat.beq (P.cellsOf x.type) a.length then (tP P f (k+a.length) h).map (a++·) else none
  | none=>none else none
def tO (P:Program):Nat->TypeId->Option (List Cell)
 | 0,_=>none
 | d+1,t=>match P.underlying t with
  | some (.int k)=>some [.int k]
  | some .bool=>some [.bool]
  | some (.struct u)=>match tP P (tO P d) 0 u.toList with
   | some h=>bif Nat.beq (P.cellsOf t) h.length then some h else none
   | none=>none
  | _=>none
section
variable {H:Type} {enc:TypeId×Value->H} {P:Program} {W:World} {base:Nat} {spare:Nat->Bool} {held:Bool}
def qrN{f:TypeId->Option (List Cell)}{cells:List Value}(I:∀t cs,f t=some cs->∀n vs y,DataW.trod enc P W base spare held n t vs=some y->Cs cs vs):∀ {u:List Field} {k:Nat} {cs:List Cell},tP P f k u=some cs-> (∀x∈u,∃n y,DataW.trod enc P W base spare held n x.type ((cells.drop x.offset).take (P.cellsOf x.type))=some y)->Cs cs ((cells.drop k).take cs.length)
 | [],k,cs,h,_=>by cases h;exact trivial
 | x::u,k,cs,h,J=>by
  unfold tP at h;cases C:Nat.beq x.offset k with
  | false=>rw[C] at h;cases h
  | true=>
   rw[C] at h;cases E:f x.type with
   | none=>rw[E] at h;cases h
   | some a=>
    rw[E] at h;dsimp only [_root_.cond_true] at h;cases G:Nat.beq (P.cellsOf x.type) a.length with
    | false=>rw[G] at h;cases h
    | true=>
     rw[G] at h;obtain⟨b,Q,rfl⟩:=yT.1 h;have ih:=qrN (cells:=cells) I Q fun z R=>J z (zN _ R);obtain⟨n,y,O⟩:=J x List.mem_cons_self;rw[yW C,yW G] at O;rw[zF,List.take_add,xD];exact (I _ _ E _ _ _ O).uC ih
def qrO:∀(d:Nat) (t:TypeId) (cs:List Cell),tO P d t=some cs->∀n vs y,DataW.trod enc P W base spare held n t vs=some y->Cs cs vs
 | 0,_,_,h,_,_,_,_=>nomatch h
 | d+1,t,cs,h,n,vs,y,u=>by
  unfold tO at h;split at h
  ·next k hu=>
   cases h;obtain⟨m,C,_,O⟩:=DataW.trod_int hu u;rw[C];exact⟨⟨m,rfl,qxX O⟩,trivial⟩
  ·next hu=>
   cases h;obtain⟨m,C,_⟩:=DataW.trod_bool hu u;rw[C];exact⟨⟨m,rfl,trivial⟩,trivial⟩
  ·next fs hu=>
   split at h
   ·next cs' hd=>
    cases E:Nat.beq (P.cellsOf t) cs'.length with
    | false=>rw[E] at h;cases h
    | true=>
     rw[E] at h;cases h;obtain⟨Q,m,_,_,I,R,U⟩:=DataW.trod_struct hu u
     have:=qrN (cells:=vs) (qrO d) hd fun x V=>by obtain⟨i,hi,rfl⟩:=List.getElem_of_mem V;have G:i<fs.size:=(oP hi);have J:=U i fs[i] (by simp[G]);rw[zA (show i<Q.length by omega)] at J;exact⟨_,_,by simpa using J⟩
     rw[xF,zS (by have:=yW E;omega)] at this;exact this
   cases h
  cases h
def qp7{e:TypeId}{cs:List Cell}(d:Nat)(C:tO P d e=some cs):∀n u y,DataW.trod enc P W base spare held n e u=some y->∃x:HL cs,u=HL.mk cs x/\ee cs x:=fun n u y h=>(qrO d e cs C n u y h).hl
abbrev uY:TypeId:=25
def qBD:rF prog uY 0=some 22:=by kernel_rfl
def qBE:rF prog uY 1=some 23:=by kernel_rfl
def qBn{n:Nat}{y:DataW H×List MemPlace}(h:DataW.trod enc prog W base spare held n uY (HL.mk [Cell.slice,Cell.slice] x)=some y):∃u C,(dX oj 15 [] W x.1 u/\∀a∈u,ee fq a)/\dX tG 7 [] W x.2 C/\∀p∈C,ee nW p:=by obtain⟨x',e,_,E⟩:=qwF (cs:=[Cell.slice,Cell.slice]) oK n _ y h;rw[<- e] at E;obtain⟨V,n0,y0,G,J⟩:=E 0 x.1.v rfl;obtain rfl:=yO (qBD.symm.trans G);obtain⟨u1,n1,y1,I,O⟩:=E 1 x.2.v rfl;obtain rfl:=yO (qBE.symm.trans I);obtain⟨u,Q,e1⟩:=qqY (P:=prog) (t:=22) (e:=47) (s:=x.1) (k:=15) (encB:=oj) oK oK oM (qp7 4 oK) J;obtain⟨C,R,U⟩:=qqY (P:=prog) (t:=23) (e:=81) (s:=x.2) (k:=7) (encB:=tG) oK oK oM (qp7 4 oK) O;exact⟨u,C,⟨Q,e1⟩,R,U⟩
end
end
end Go.Proofs.YtfneoijhmknlnaaGreatDoor
namespace Go.Pt
section
open Go
end
end Go.Pt
namespace Go.Proofs.YtfneoijhmknlnaaGreatDoor
section
open Go.Proofs.Tryz (prog)
open Go Go.Pt List
open Classical
attribute [local irreducible] ld dK ic nK jx eT st new idx jK jF fV jI jl mp gK nn call dW inv run fl jf join loop held ext kW eU m8 nQ nT IntKind.wrap
structure Io (yield:Value) (Yc:List Nat) (wb:World) (L:List (HL nd)) (I:Nat->WP) (E:WP):Prop where
 stay:∀ i W W' Z,I i W->Fr Z W W'->(∀ b∈Z,wb.heap.size<=b)->I i W'
 Ij:∀ W W' Z,E W->Fr Z W W'->(∀ b∈Z,wb.heap.size<=b)->E W'
 take:∀ i (hi:i<L.length) W (K:Bool->WP),I i W->wb.heap.size<=W.heap.size->(∀ W',Fr Yc W W'->I (i+1) W'->K true W')->(∀ W',Fr Yc W W'->E W'->K false W')->dW prog yield [.agg (HL.mk nd L[i]).toArray] df W K
end
section
open Go Go.Pt List
open Go.IntKind (wrap)
open Classical
attribute [local irreducible] ld dK ic nK jx eT st new idx jK jF fV jI jl mp gK nn call dW inv run fl jf join loop held ext kW eU m8 nQ nT IntKind.wrap
def qqb{α κ:Type}[DecidableEq κ]{kf:α->κ}{a:α}:∀ {l:List α},(l.map kf).Nodup->a∈l->(l.find? fun x=>decide (kf x=kf a))=some a
 | x::r,h,u=>by rw[xO,nodup_cons] at h;rcases zG.1 u with rfl|u;rw[List.find?_cons,yA rfl];rw[List.find?_cons,zU fun e=>h.1 (by rw[e];exact zZ u)];exact qqb h.2 u
end
section
open Go Go.Pt List
open Go.IntKind (wrap)
open Classical
def rE:List (HL fq):=[kN,kN]
def rz:List Pn:=[((0:Int),(1:Int),(0:Int),(2:Int),(0:Int),(0:Int),(0:Int)),((0:Int),(1:Int),(0:Int),(5:Int),(3:Int),(0:Int),(0:Int))]
def qzX:(ie (iH rE rz).due 9 9).length=1:=by kernel_rfl
def qzW:fG ((eG (fT (iH rE rz) (ie (iH rE rz).due 9 9) 9) ((0:Int),(1:Int))).getD kN)=((0:Int),(2:Int)):=by kernel_rfl
attribute [local irreducible] ld dK ic nK jx eT st new idx jK jF fV jI jl mp gK nn call dW inv run fl jf join loop held ext kW eU m8 nQ nT IntKind.wrap
def qxz{α:Type}{enc:α->List Value}{k:Nat}{w:World}{r:Nat}{cs:Array Value}{T:TypeId}{l:List α}(u:∀x,(enc x).length=k)(E:w.heap[r]?=some (.cells cs T (0,0)))(C:cs.toList=l.flatMap enc):dX enc k [] w ⟨pW r,l.length,l.length⟩ l:=by have G:cs.size=l.length*k:=(by rw[<- Array.length_toList,C,qZ u]);exact eZ.kF (B:=[r]) u (.inr ⟨r,0,cs,T,rfl,rfl,rfl,E,rfl,zM _,by dsimp only;omega,by rw[xF,C];exact zS (by rw[qZ u];exact zM _)⟩) fun _ _ h=>nomatch h
section
variable {w0 W w w':World} {Y F F':List Nat} {L L':List (Nat×Obj)} {sb c:Nat} {b bs br bs' br':Bk} {ri r':oW}
def oZ.init(u:SB W Y sb F c b)(C:RB F W ri b)(f:Fr [] w0 W)(E:∀x∈F,w0.heap.size<=x)(G:w0.heap.size<=sb):oZ w0 W Y [] sb F c b b ri:=⟨oE [] W,u,C,f,(fun _ h=>nomatch h),E,G,(fun h=>nomatch h)⟩
end
structure uK (b:Bk):Prop where
 snd:p4 b
 many:b.many<=258
 gone:b.gn+b.due.length<=25
def uK.built{la:List (HL fq)}{lp:List Pn}(h:la.length<=8)(u:lp.length<=25)(C:∀a∈la,ee fq a)(E:∀x∈lp,ee nW x):uK (iH la lp):=by obtain⟨G,I,J,O⟩:=qtg h u C E;exact⟨G,I,oJ⟩
def uK.ok{b:Bk}(h:uK b)(first most n:Int):oo c9 b (ie b.due first most) n:=(h.snd.rZ Ct (by have:=B0;have:=h.many;omega)).1
def uK.next{b:Bk}(h:uK b)(first most n:Int):uK (ko (fT b (ie b.due first most) n) (b.gn+(ie b.due first most).length)):=by
 obtain⟨_,u,C⟩:=h.snd.rZ (n:=n) (c:=c9) (Ct (j8:=first) (most:=most)) (by have:=B0;have:=h.many;omega);refine⟨u.ko,zL C h.many,?_⟩;show b.gn+(ie b.due first most).length+(fT b (ie b.due first most) n).due.length<=25
 have:=h.gone
 have:=Dt (l:=b.due) (j8:=first) (most:=most)
 rw[qyz h.snd.due,yC];omega
def uK.small{b:Bk}(h:uK b):b.size<=258:=zL (Nat.le_add_right _ _) h.many
def qn4{w:World}{K:Bool->WP}(hv:Hv w)(kk:∀w',Fr [] w w'->K true w'):cW 8 [] df w K:=by
 refine qhx ?_;unfold qdN;refine oB (oE [] w) fun r1 w1 _ f1 o=>oB o fun r3 w2 _ f2 o=>?_;have J:∀a∈rE,ee fq a:=fun a O=>by simp only[rE,zG,xX,or_false] at O;rcases O with rfl|rfl<;>exact AP
 have Q:∀x∈rz,ee nW x:=fun x R=>by simp only[rz,zG,xX,or_false] at R;rcases R with rfl|rfl;exact⟨show (0:Int)<=0/\(0:Int)<=255 from⟨oM,oM⟩,show (0:Int)<=1/\(1:Int)<=255 from⟨oM,oM⟩,qi,rW (x:=2) ⟨oM,oM⟩,show (0:Int)<=0/\(0:Int)<=4294967295 from⟨oM,oM⟩,show (0:Int)<=0/\(0:Int)<=255 from⟨oM,oM⟩,zv (x:=0) ⟨oM,oM⟩⟩;exact⟨show (0:Int)<=0/\(0:Int)<=255 from⟨oM,oM⟩,show (0:Int)<=1/\(1:Int)<=255 from⟨oM,oM⟩,qi,rW (x:=5) ⟨oM,oM⟩,show (0:Int)<=3/\(3:Int)<=4294967295 from⟨oM,oM⟩,show (0:Int)<=0/\(0:Int)<=255 from⟨oM,oM⟩,zv (x:=0) ⟨oM,oM⟩⟩
 have C:=uK.built (la:=rE) (lp:=rz) oM oM J Q;have U:IntKind.u64.has 9:=rW (x:=9) ⟨oM,oM⟩;have ae:=C.small;have hg:=C.gone;have af:=C.many;refine qrL (Y:=[]) (la:=rE) (lp:=rz) (fun _ h=>nomatch h) (fun h=>nomatch h) (hv.q7 o.fr) (qxz (fun _=>rfl) (o.at (i:=1) rfl) rfl) (qxz (fun _=>rfl) (o.at (i:=0) rfl) rfl) J Q oM oM fun sb F ri w3 hS hR nF ns V=>?_;have h:=oZ.init hS hR V nF ns;have o:=o.q7 V;refine oB h.own fun r7 w4 _ _ u=>u.st' 0 rfl _ (iI rfl) rfl (zM _) fun w5 u _=>cond_false rfl ?_;have h:=h.j8 u;clear u;refine qrz h.sB U C.snd.due oJ (C.ok 9 9 9) fun F6 w6 h6 s6=>?_;have h:=h.pB h6 s6;refine D0 h.sB (i0:=0) (i1:=1) ⟨qi,rW (x:=1) ⟨oM,oM⟩⟩ fun w7 f7=>?_;have h:=h.q7 f7;refine oB h.own fun an w8 _ _ u=>u.st' 0 rfl _ (iI rfl) rfl (zM _) fun w9 u _=>?_;have h:=h.j8 u;clear u;refine oC h.own 1 rfl ri rfl (qwk h.rb h.lt C.snd U oJ oJ fun ao ap G I=>?_);have h:=h.pL I G;refine oB h.own fun aq ar _ _ u=>u.st' 0 rfl _ (iI rfl) rfl (zM _) fun E u _=>?_;have h:=h.j8 u;clear u;rw[qzX];refine cond_true rfl (cond_true rfl (cond_true rfl ?_));refine oC h.own 1 rfl (fG ((eG (fT (iH rE rz) (ie (iH rE rz).due 9 9) 9) ((0:Int),(1:Int))).getD kN)) rfl<|vK (b:=((0:Int),(2:Int))) ?_;rw[qzW,yA rfl];have f:Fr [] w E:=(f1.trans f2).trans h.fr;exact kk E f
end
section
open Go Go.Pt List
open Go.IntKind (wrap)
open Classical
attribute [local irreducible] ld dK ic nK jx eT st new idx jK jF fV jI jl mp gK nn call dW inv run fl jf join loop held ext kW eU m8 nQ nT IntKind.wrap
variable {l:List (HL ib)} {side:HL ig->gp}
def qoD{b:Bk}{i:gp}{j:Nat}(h:j<l.length):gl side b i (l.take (j+1))=gl side b i (l.take j)+if side (tK b l[j])=i then wv (fB (tK b l[j])) else 0:=by unfold gl;rw[yG h,xN,sum_append];simp
def qxl{b:Bk}{i:gp}{l':List (HL ib)}:gl side b i (l++l')=gl side b i l+gl side b i l':=by unfold gl;rw[xN,sum_append]
def qoC{b:Bk}{i:gp}{j:Nat}(h:∀d∈l,ee ig (tK b d)):gl side b i (l.take j)<=gl side b i l:=by
 conv=>rhs;rw[<- xE j l]
 rw[qxl]
 have:=qsy (side:=side) (i:=i) fun d u=>h d (yU (i:=j) u)
 omega
def qqR{a b:gp}(h:wv a+wv b<18446744073709551616*18446744073709551616):lN a b=some (rV (wv a+wv b)):=if_pos h
structure Fv (b:Bk) (i:gp) (x y:HL fq) (lD lC:List (HL ib)):Prop where
 fit:ee fq y
 dp:wv (fG y)=wv (fG x)+gl gb b i lD
 cp:wv (fM y)=wv (fM x)+gl gc b i lC
 po:jL y=jL x
def qq2{w:World}{a0 a1:Sl}{la:List (HL fq)}{lp:List Pn}{first:Int}{K:Bool->WP}(hv:Hv w)(ha:dX oj 15 [] w a0 la)(fa:∀a∈la,ee fq a)(hp:dX tG 7 [] w a1 lp)(fp:∀x∈lp,ee nW x)(hf:IntKind.u64.has first)(kk:∀w',Fr [] w w'->K true w'): cW 4 [.agg #[a0.v,a1.v],.int .u64 first] df w K:=by
 refine qe0 ?_;have aJ:a0.len=la.length:=ha.1;have bt:a1.len=lp.length:=hp.1;have aK:=v8;refine oB (oE [] w) fun r1 w1 _ f1 o=>oC o 0 rfl (a0,a1) rfl (qvq fun w2 f2=>?_);have o:=o.q7 f2;have G:=f1.trans f2;refine eH (fun _=>qn4 (hv.q7 G) fun w3 f3=>kk w3 (G.trans f3)) fun I=>?_;rw[Bool.or_eq_false_iff] at I;have c1:¬((a0.len:Int)>8):=zB I.1;have c2:¬((a1.len:Int)>25):=zB I.2;have J:=uK.built (la:=la) (lp:=lp) oJ oJ fa fp;refine oC o 0 rfl (a0,a1) rfl<|qrL (Y:=[]) (fun _ h=>nomatch h) (fun h=>nomatch h) (hv.q7 G) (ha.q7 G) (hp.q7 G) fa fp oJ oJ fun sb F ri w3 hS hR nF ns f3=>?_;generalize iH la lp=b at J hS hR;have bv:=J.small;have hg:=J.gone;have bx:=J.many;have h:=oZ.init hS hR f3 nF ns;clear hS hR nF ns o;refine oB h.own fun ao w4 _ _ o7=>o7.st' 0 rfl _ (iI rfl) rfl (zM _) fun w5 o7 _=>cond_false rfl ?_;have h:=h.j8 o7;clear o7;have ac:=h.lt;obtain⟨T0,ae⟩:=h.sB.hb;have aO:(b.acc.map gE).Nodup:=ae.acc.nodup;have ap:=ae.acc.2;clear ae;refine HZ h.sB hf J.snd.due oJ fun af B w6 hB f6 nB _=>?_;have h:=h.q7 f6;have aJ:(ie b.due first 100).length<=25:=(by have:=Dt (l:=b.due) (j8:=first) (most:=100);omega);have aQ:=qyA (b:=b) (first:=first) (most:=100) (n:=first) oJ;have E:=Ct (l:=b.due) (j8:=first) (most:=100);have aR:=J.ok first 100 first
 have aT:=J.next first 100 first
 have aU:p4 (fT b (ie b.due first 100) first):=(J.snd.rZ (c:=c9) (n:=first) E (by have:=B0;omega)).2.1;have bC:(fT b (ie b.due first 100) first).size<=258:=aT.small;have aV:=fun i a=>J.snd.after (l:=ie b.due first 100) (n:=first) (i:=i) (a:=a) E;have aW:=J.snd.tB (l:=ie b.due first 100) (n:=first) E;have O:dX iB 4 ([ao]++F) w6 af (ie b.due first 100):=hB.kF Bp fun x hx hm=>by have h1:=nB x hx;have h2:=ac x hm;omega
 have aX:af.len=(ie b.due first 100).length:=hB.len;refine qrz h.sB hf J.snd.due oJ aR fun F7 w7 h7 s7=>?_;have O:dX iB 4 [] w7 af (ie b.due first 100):=(O.q8 (s7.fr.mono fun x hx _=>zI _ hx) fun x hx=>.inl hx).j4 fun _ h=>nomatch h;have h:=h.pB h7 s7;generalize hL:ie b.due first 100=l at *
 generalize fT b l first=b' at *
 refine iQ (fun q w'=>q=false/\Fr [] w7 w') (cond_false rfl (cond_false (by rw[aX,beq_self_eq_true];rfl) (HZ h.sB hf aU.due oJ fun bE bF w8 aY f8 _ _=>⟨?_,f8⟩))) ?_;rw[aY.len,aQ];rfl;rintro q V ⟨rfl,f7⟩;have h:=h.q7 f7;have O:=O.q7 f7;have ag:=h.own.at (i:=0) rfl;have ar:=h.sB;have ah:=h.rb;have au:Fr [] w V:=G.trans h.fr;clear h f7 hB ac;have av:∀d∈l,∃k,hU b (mP d)=some k/\rq k:=fun d hd=>by obtain⟨k,_,_,h1,h2,_⟩:=J.snd.has d (E.subset hd);exact⟨k,h1,h2⟩
 have aw:∀d∈l,ee ig (tK b d):=fun d hd=>by obtain⟨k,h1,h2⟩:=av d hd;unfold tK;rw[h1];exact h2.1
 have a3:∀ {W:World},Fr [] V W->W.heap[ao]?=some (um ri):=fun f=>by rw[f.block _ (fJ ag) fun h=>nomatch h];exact ag
 refine cond_false rfl (jM ag ri.1 rfl ?_);have bH:ri.1.len=b.acc.length:=ah.acc.1;have bI:b.acc.length<=b.size:=(by unfold Bk.size;omega);refine jT (fun x W=>∃i:Nat,x=i/\i<=b.acc.length/\Fr [] V W) (fun x _=>b.acc.length-x.toNat) ⟨0,rfl,yX _,.refl _ _⟩ ?_;rintro x W ⟨i,rfl,hi,fW⟩ X hX;refine eH (fun I=>?_) fun I=>?_;have aj:i<b.acc.length:=(by have:=zC I;omega);have hm:=zX aj;have hx:=zA aj;generalize b.acc[i]=a at hm hx;have Q:=ap a hm;have a4:ls (gE a):=⟨Q.1,Q.2.1⟩;have a5:eG b (gE a)=some a:=qqb aO hm;obtain⟨x,a6,a7,wD,wC,po⟩:=aV (gE a) a a5;refine dX.oT (ah.q7 fW).acc i rfl hx rfl rfl<|oB (oE [] W) fun ak wa _ _ o=>o.st' 0 rfl _ (iI rfl) rfl (zM _) fun wb o _=>oC o 0 rfl (gE a) rfl (D0 (ar.q7 (fW.trans o.fr)) a4 fun wc fc=>?_);rw[show eG b' ((gE a).1,(gE a).2)=some x from a6];refine oB (o.q7 fc) fun al wd _ _ o=>o.st' 0 rfl _ (iI rfl) rfl (zM _) fun we o _=>cond_false rfl ?_;have aD:=uF (ut Q);have aC:=uF (uD Q);refine jT (fun q W'=>∃j:Nat,∃y,q=j/\j<=l.length/\dR [] W W' [(al,.cells (HL.mk fq y).toArray 47 (0,0)),(ak,.cells (HL.mk fq a).toArray 47 (0,0))]/\Fv b (gE a) x y (l.take j) (l.take j)) (fun q _=>l.length-q.toNat) ⟨0,x,rfl,yX _,o,⟨a7,(Int.add_zero _).symm,(Int.add_zero _).symm,rfl⟩⟩ ?_;clear o;rintro q W' ⟨j,y,rfl,hj,o,u⟩ Y hY;refine eH (fun I=>?_) fun I=>?_;have C:j<l.length:=(by have:=zC I;omega);have R:=zX C;have U:=zA C;have tD:=qoD (side:=gb) (b:=b) (i:=gE a) C;have tC:=qoD (side:=gc) (b:=b) (i:=gE a) C;have pD:=qoC (side:=gb) (b:=b) (i:=gE a) (j:=j+1) aw;have pC:=qoC (side:=gc) (b:=b) (i:=gE a) (j:=j+1) aw;generalize l[j]=d at R U tD tC;obtain⟨k,hk,aa⟩:=av d R;have et:tK b d=k.1:=(by unfold tK;rw[hk];rfl);rw[et] at tD tC;have hT:=uF (rh aa.1);refine iQ (fun _ w'=>∃y,dR [] W w' [(al,.cells (HL.mk fq y).toArray 47 (0,0)),(ak,.cells (HL.mk fq a).toArray 47 (0,0))]/\Fv b (gE a) x y (l.take (j+1)) (l.take (j+1))) ?_ fun _ w' ⟨y,o,u⟩=>by rw[gd _ oJ];exact hY _ _ ⟨j+1,y,rfl,C,o,u⟩ oJ
 refine dX.oT (O.q7 (fW.trans o.fr)) j rfl U rfl rfl<|oB o fun a' wf _ _ o=>o.st' 0 rfl _ (iI rfl) rfl (zM _) fun wg o _=>wG (a3 (fW.trans o.fr)) ri rfl (oC o 0 rfl (mP d) rfl (If (ah.q7 (fW.trans o.fr)) oJ fun wh fh=>?_));rw[show hU b ((mP d).1,(mP d).2)=some k from hk];refine oI (o.q7 fh) aK fun ba wi _ o=>me (pr k) (o.st' 0 rfl _ (iI rfl) rfl (zM _) fun wj o _=>?_);refine iQ (fun _ w'=>∃y,dR [] W w' [(ba,.cells (pf k).toArray xd (0,0)),(a',.cells (HL.mk ib d).toArray Da (0,0)),(al,.cells (HL.mk fq y).toArray 47 (0,0)),(ak,.cells (HL.mk fq a).toArray 47 (0,0))]/\Fv b (gE a) x y (l.take (j+1)) (l.take j)) ?_ ?_;refine oC o 0 rfl (gb k.1) rfl (oC o 3 rfl (gE a) rfl (vK (a:=gb k.1) (b:=gE a) (eH (fun he=>?_) fun he=>?_)));rw[if_pos (zC he)] at tD;have hs:=qqR (a:=fG y) (b:=fB k.1) (by have:=u.dp;omega);refine oC o 2 rfl (fG y) rfl (oC o 0 rfl (fB k.1) rfl (BZ (ut u.fit) (rh aa.1) fun wk fk=>?_));have hz:=Dw (ut u.fit) (rh aa.1) hs;rw[hs];generalize rV (wv (fG y)+wv (fB k.1))=z at hz;exact (o.q7 fk).st' 2 rfl (HL.mk fq (kJ z y)).toArray rfl rfl (zO rfl) fun wl o _=>⟨kJ z y,o,HC hz.2 u.fit,by show wv z=_;have:=u.dp;omega,u.cp,u.po⟩;rw[if_neg (zB he)] at tD;exact⟨y,o,u.fit,by have:=u.dp;omega,u.cp,u.po⟩;rintro _ W2 ⟨y,o,u⟩;refine oC o 0 rfl (gc k.1) rfl (oC o 3 rfl (gE a) rfl (vK (a:=gc k.1) (b:=gE a) (eH (fun he=>?_) fun he=>?_)));rw[if_pos (zC he)] at tC;have hs:=qqR (a:=fM y) (b:=fB k.1) (by have:=u.cp;omega);refine oC o 2 rfl (fM y) rfl (oC o 0 rfl (fB k.1) rfl (BZ (uD u.fit) (rh aa.1) fun wk fk=>?_));have hz:=Dw (uD u.fit) (rh aa.1) hs;rw[hs];generalize rV (wv (fM y)+wv (fB k.1))=z at hz;exact (o.q7 fk).st' 2 rfl (HL.mk fq (kR z y)).toArray rfl rfl (zO rfl) fun wl o _=>⟨kR z y,o.sub (.cons _ (.cons _ (.refl _))),Ff hz.2 u.fit,u.dp,by show wv z=_;have:=u.cp;omega,u.po⟩;rw[if_neg (zB he)] at tC;exact⟨y,o.sub (.cons _ (.cons _ (.refl _))),u.fit,u.dp,by have:=u.cp;omega,u.po⟩;have C:j=l.length:=(by have:=zB I;omega);subst C;rw[xZ] at u;have eD:fG y=fG a:=qxZ (ut u.fit) (ut Q) (by have:=u.dp;omega);have eC:fM y=fM a:=qxZ (uD u.fit) (uD Q) (by have:=u.cp;omega);have eP:jL y=jL a:=u.po.trans po;refine tN false W' (fun M hM=>?_) (cond_false rfl ?_);refine oC o 0 rfl (fG y) rfl (oC o 1 rfl (fG a) rfl (Ea (a:=fG y) (b:=fG a) (cond_false (by rw[yA eD];rfl) ?_)));refine oC o 0 rfl (fM y) rfl (oC o 1 rfl (fM a) rfl (Ea (a:=fM y) (b:=fM a) (cond_false (by rw[yA eC];rfl) ?_)));refine oC o 0 rfl (jL y).1 rfl (oC o 1 rfl (jL a).1 rfl (Ea (a:=(jL y).1) (b:=(jL a).1) (cond_false (by rw[eP,yA rfl];rfl) ?_)));refine oC o 0 rfl (jL y).2 rfl (oC o 1 rfl (jL a).2 rfl (Ea (a:=(jL y).2) (b:=(jL a).2) ?_));rw[eP,yA rfl];exact hM;rw[gd _ oJ];exact hX _ _ ⟨i+1,rfl,aj,fW.trans o.fr⟩ oJ;clear hX;refine jT (fun q W'=>∃j:Nat,q=j/\j<=l.length/\Fr [] V W') (fun q _=>l.length-q.toNat) ⟨0,rfl,yX _,fW⟩ ?_;rintro q W' ⟨j,rfl,hj,ab⟩ Y hY;refine eH (fun I=>?_) fun I=>qn4 (hv.q7 (au.trans ab)) fun w9 f9=>kk w9 ((au.trans ab).trans f9);have C:j<l.length:=(by have:=zC I;omega);have R:=zX C;have U:=zA C;generalize l[j]=d at R U;have az:=J.snd.Cd d (E.subset R);have h4:=aW d R;refine dX.oT (O.q7 ab) j rfl U rfl rfl (oB (oE [] W') fun bq wa _ _ o=>o.st' 0 rfl _ (iI rfl) rfl (zM _) fun wb o _=>oC o 0 rfl (mP d) rfl (qzI (ar.q7 (ab.trans o.fr)) ⟨az.2.2.1,az.2.2.2⟩ fun wc fc=>?_));rw[show ln b' ((mP d).1,(mP d).2)=4 from h4,gd _ oJ];exact cond_false rfl (hY _ _ ⟨j+1,rfl,C,(ab.trans o.fr).trans fc⟩ oJ)
end
end Go.Proofs.YtfneoijhmknlnaaGreatDoor
