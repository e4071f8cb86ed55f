/- Conditions: those that stand in each line. -/
import Derived.Test.YtfneoijhmknlnaaGreatDoorCXOQ6
import Derived.Test.YtfneoijhmknlnaaGreatDoorCXOQ3
import Derived.Test.YtfneoijhmknlnaaGreatDoorCXOQ1
import Derived.Test.YtfneoijhmknlnaaGreatDoorCXOQ4
set_option linter.unusedVariables false
set_option linter.unusedSimpArgs false
set_option linter.defProp false
namespace Go.Proofs.YtfneoijhmknlnaaGreatDoor
open Go.Proofs.Tryz (prog)
section
open Go Go.Pt List
open Go.IntKind (wrap)
open Classical
attribute [local irreducible] ld dK gW nu js eS st new idx jI jH fP jF jq mj gI nn call dW inv run fw jd join loop held ext kO eT mT nz nH IntKind.wrap
variable {B S:List Nat} {K:Sl->WP} {L:gh} {P:List Int} {T:Nat->gh} {a:HL fx} {b:Bk} {d:HL ig} {i most n x:Int} {k:Nat} {l:List (HL ig)} {s:Sl} {w:World}
abbrev CD:TypeId:=105
def yi (a b:Sl):Array Value:=#[a.v,b.v]
@[reducible] def Fa:List Cell:=[.slice,.slice]
section
variable {dbk pb:Nat} {FD F:List Nat} {D:dL} {M:eP} {k v:Nat} {frm to:Key} {down:Bool} {w0 w wA:World} {cb:Nat} {Y SB:List Nat} {st:Sl} {zs:List rK}
def qy2{n:dN}(h:fT n k v)(E:n.Q1=true):k<=24/\v<=108:=by obtain⟨_,_,_,C⟩:=h;rw[if_pos E] at C;have u:=C.2.2.1;unfold dY at u;split at u;dsimp only at u;omega;omega
def qv5{K:(Sl×Sl)×Bool->WP}(hC:gH dbk pb FD D F M k v frm to down w0 cb Y w st SB zs)(hL:Left D M k v frm to down 1 (zs.map (·.2)) L)(k0:L=[]->∀w',gH dbk pb FD D F M k v frm to down w0 cb Y w' dI [] []->Fr (cb::SB) w w'->K ((dI,dI),false) w')(k1:∀x L',L=x::L'->∀ks vs B1 B2 w' st' SB' zs',gw w' ks x.1 B1->gw w' vs x.2 B2->gH dbk pb FD D F M k v frm to down w0 cb (B1++(B2++Y)) w' st' SB' zs'->Left D M k v frm to down 1 (zs'.map (·.2)) L'->Fr (cb::SB) w w'->(∀b∈SB',b∈SB\/w.heap.size<=b)->(∀b∈B1,w.heap.size<=b)->(∀b∈B2,w.heap.size<=b)->(∀b∈B1,b∉B2)->K ((ks,vs),true) w'): cW 79 [dH cb] [.agg Fa,.one .bool] w K:=by
 refine qhR (c:=pW cb)<|oB (oE [] w) fun r w1 e1 f1 h=>?_;have hrl:=fE (h.at (i:=0) rfl);dsimp only at hrl;have hltw:=hC.lt;have hC1:gH dbk pb FD D F M k v frm to down w0 cb (r::Y) w1 st SB zs:=hC.q8 (f1.mono fun _ h=>nomatch h) (fun b hb=>(zG.1 hb).elim (fun e=>.inr (by rw[e,e1];exact zM _)) .inl) fun b hb=>by rcases zG.1 hb with rfl|hb;exact hrl;exact yD (hltw b (by simp[hb])) f1.size
 have hr1:w1.heap[r]?=some (.cells (yi dI dI) CD (0,0)):=h.at (i:=0) rfl;have hrS:r∉cb::SB:=fun hm=>by
  have:=hltw r (by rcases zG.1 hm with h|h<;>simp[h])
  omega
 have hfr:∀ {w':World},Fr (cb::SB) w1 w'->w'.heap[r]?=some (.cells (yi dI dI) CD (0,0)):=fun f=>by rw[f.block r hrl hrS];exact hr1
 clear h;refine iR (fun _ w'=>L=[]/\Fr (cb::SB) w1 w'/\∃st' SB' zs',gH dbk pb FD D F M k v frm to down w0 cb (r::Y) w' st' SB' zs'/\∀b∈SB',b∈SB\/w1.heap.size<=b) ?_ ?_
 ·refine Eb (fun (n:Nat) (_:PUnit) w'=>Fr (cb::SB) w1 w'/\∃st' SB' zs',gH dbk pb FD D F M k v frm to down w0 cb (r::Y) w' st' SB' zs'/\(∀b∈SB',b∈SB\/w1.heap.size<=b)/\Left D M k v frm to down n (zs'.map (·.2)) L) id 1 ⟨.refl _ _,st,SB,zs,hC1,fun b hb=>.inl hb,hL⟩ ?_;rintro n _ w2 ⟨f2,st2,SB2,zs2,hC2,n2,hL2⟩ X hX;refine gA (hC2.qu ?_);have hsl:st2.len=zs2.length:=hC2.u5.len;apply eH<;>intro hc;rotate_left;have hc:=zB hc;have e0:zs2=[]:=length_eq_zero_iff.1 oJ;refine⟨?_,f2,st2,SB2,zs2,hC2,n2⟩;rcases hL2 with h|⟨hh,T,ht,_,_⟩;exact h.2
  have:=ht.path.len
  rw[e0] at this;simp at this;have hc:=zC hc;have hne:zs2≠[]:=fun e=>by rw[e] at hsl;simp at hsl;omega
  rcases hL2 with ⟨h,_⟩|⟨hh,T,ht,hLT,hnd⟩;exact absurd (map_eq_nil_iff.1 h) hne;have htop:∃(lo:List kU) (x9:gh) (i:Int),zs2.map (·.2)=lo++[(ef x9,i)]/\((pq down hh (zs2.map (·.2))/\¬(0<=i/\i<x9.length))\/∃j:Nat,i=j/\∃hj:j<x9.length,∃T',T=x9[j]::T'/\ma D M k v frm to down hh (lo++[(ef x9,ku down i)]) T'):=by rcases ht.told with hd|⟨x9,j,lo,hj,T',e1,e2,e3⟩;obtain⟨lo,x9,i,e,hi⟩:=hd.rS;exact⟨lo,x9,i,e,.inl ⟨hd,hi⟩⟩;exact⟨lo,x9,j,e1,.inr ⟨j,rfl,hj,T',e2,e3⟩⟩
  obtain⟨lo,x9,i,ez,hcase⟩:=htop;obtain⟨zlo,zr,rfl,rfl,ezr⟩:=map_eq_append_iff.1 ez;obtain⟨⟨zx,zf⟩,rfl,ezf⟩:=map_eq_singleton_iff.1 ezr;have ezf:zf=(ef x9,i):=ezf;subst ezf;have hfew:=hC2.A3;rw[zF,xM] at hfew;have hD2:=hC2.drew;refine gA (hD2.qu ?_);refine gA (hD2.qu ?_);refine quD hD2.u5 oJ fun b hB=>?_;subst hB;have hE2:=hD2.drew;have hny:=hE2.nodes (zx,ef x9,i) oL;have hkl:(ef x9).J3.length=x9.length:=zK ..;have hkl2:x9.length<=498:=(by rw[<- hkl];exact (vN hny.2).1);obtain⟨hzl,hNB,⟨pk,hpk,hpke⟩,⟨pv,hpv,hpve⟩,_⟩:=hny.1;dsimp only at hzl hpk hpke hpv hpve;have hpkl:pk.length=x9.length:=(by rw[<- hkl,<- hpke,zK]);have hpvl:pv.length=x9.length:=by have:(ef x9).J7.length=x9.length:=zK ..;rw[<- this,<- hpve,zK]
  refine iR (fun q w'=>q=decide (0<=i/\i<x9.length)/\w'=w2.drew.drew) ?_ ?_;refine hE2.lf (c:=.bool) (j:=0) oM zx.1 rfl<|cond_true hzl<|hE2.lf (c:=.i) (j:=4) oM i rfl ?_;apply eH<;>intro h;have h:=zC h;exact hE2.lf (c:=.i) (j:=4) oM i rfl<|hE2.lf (c:=.slice) (j:=1) oM zx.2.1 rfl<|⟨decide_eq_decide.2 (by rw[hpk.len,hpkl];omega),rfl⟩;have h:=zB h;exact⟨(zU fun g=>h g.1).symm,rfl⟩;rintro q w3 ⟨rfl,rfl⟩;have hpth:=ht.path;apply eH<;>intro h;rotate_left;have h:=zB h;have hd:pq down hh ((zlo++[(zx,ef x9,i)]).map (·.2)):=by rcases hcase with hd|⟨j,rfl,hj,_⟩;exact hd.1;exact absurd ⟨oJ,oJ⟩ h
  have hn1:n≠0:=fun e=>hnd e hd;refine qwq hpth hE2 fun w4 st4 SB4 zs4 hC4 hz4 f4 n4=>?_;have f14:Fr (cb::SB) w1 w4:=f2.j6 ((Fr.refl _ w2).drew.drew.trans f4) fun b' hb=>by rcases zG.1 hb with rfl|hb;exact .inl oL;exact (n2 b' hb).imp (fun h=>by simp[h]) id
  have n14:∀b'∈SB4,b'∈SB\/w1.heap.size<=b':=fun b' hb=>by rcases n4 b' hb with h|h;exact n2 b' h;exact .inr (zL f2.size h)
  refine hX 0 _ w4 ⟨f14,st4,SB4,zs4,hC4,n14,?_⟩ (by show 0<n;omega);rcases ht.next hd with ⟨e2,rfl⟩|⟨fs',e2,e3,e4⟩
  rw[e2] at hz4;exact .inl ⟨hz4,hLT⟩;rw[e2] at hz4;have hz4:zs4.map (·.2)=fs':=hz4;rw[hz4];exact .inr ⟨hh,T,e3,hLT,fun _=>e4⟩;have h:=zC h;obtain⟨j,rfl,hj,T',hT,ht'⟩:∃j:Nat,i=j/\∃hj:j<x9.length,∃T',T=x9[j]::T'/\ma D M k v frm to down hh (zlo.map (·.2)++[(ef x9,ku down i)]) T':=by rcases hcase with hd|hd;exact absurd h hd.2;exact hd
  have hG2:=hE2.drew;refine hG2.lf (c:=.slice) (j:=1) oM zx.2.1 rfl<|hG2.lf (c:=.i) (j:=4) oM (j:Int) rfl ?_;have hjk:j<pk.length:=oJ;have hjv:j<pv.length:=oJ;refine jK.get (hpk.q7 (Fr.refl [] _).drew) j rfl hjk<|hG2.lf (c:=.slice) (j:=2) oM zx.2.2.1 rfl<|hG2.lf (c:=.i) (j:=4) oM (j:Int) rfl<|jK.get (hpv.q7 (Fr.refl [] _).drew) j rfl hjv ?_;have hH2:=hG2.drew;obtain⟨sf,sto,Tc,hcc⟩:=hH2.at
  refine gA (qv (c:=.any) (mW cb down) (ka hcc) ?_);refine hH2.lf (c:=.i) (j:=4) oM (j:Int) rfl<|qxS oJ<|hH2.xe fun w5 hC5 f5=>?_;have f15:Fr (cb::SB) w1 w5:=f2.j6 ((Fr.refl _ w2).drew.drew.drew.drew.trans f5) fun b' hb=>by rw[zE.1 hb];exact (n2 b oL).imp (fun h=>by simp[h]) id
  obtain⟨sf,sto,Tc,hcc⟩:=hC5.at
  refine gA (qv (c:=.any) (oY cb down) (ka hcc) ?_);have f5':Fr (cb::([b]++(r::Y))) w2.drew.drew w5:=(Fr.refl _ w2.drew.drew).drew.drew.trans (f5.mono fun x hx _=>by rw[zE.1 hx];simp);have hks:eF (cb::([b]++(r::Y))) w5 pk[j].1 pk[j].2:=(hpk.2 _ (zX hjk)).q8 f5' fun x hx=>.inl hx;have hvs:eF (cb::([b]++(r::Y))) w5 pv[j].1 pv[j].2:=(hpv.2 _ (zX hjv)).q8 f5' fun x hx=>.inl hx;have ek:pk[j].2=x9[j].1:=by
   have:=congrArg (·[j]?) hpke
   dsimp only [ef] at this;rw[zQ,zQ,zA hjk,zA hj] at this;exact yO this
  have ev:pv[j].2=x9[j].2:=by
   have:=congrArg (·[j]?) hpve
   dsimp only [ef] at this;rw[zQ,zQ,zA hjv,zA hj] at this;exact yO this
  rw[ek] at hks;rw[ev] at hvs;have hkB:eQ x9[j].1:=hNB.1 _ (zZ (zX hj));have hkn:x9[j].1.length=k:=hny.2.1 _ (zZ (zX hj));have hvn:x9[j].2.length=v:=hny.2.2.1 _ (zZ (zX hj));have hkv:=qy2 hny.2 rfl;refine qAe hC5 hks hkB ?_;apply eH<;>intro ho;refine⟨?_,f15,st2,[b],_,hC5,n2⟩;rw[hLT,hT,takeWhile_cons,ho];rfl;refine An hks oJ fun s1 B1 w6 b6 f6 n6 _ _=>An (hvs.q7 f6) oJ fun s2 B2 w7 b7 f7 n7 _ _=>?_;have hr7:=hfr (f15.trans ((f6.trans f7).mono fun _ h=>nomatch h));refine sL hr7 (yi s1 s2) rfl rfl (zO rfl) fun w8 hr8 f8=>xh hr8 (s1,s2) rfl ?_;have hC7:=(hC5.q7 f6).q7 f7;have hn1:∀b'∈B1,w5.heap.size<=b':=n6;have hn2:∀b'∈B2,w5.heap.size<=b':=fun b' hb=>zL f6.size (n7 b' hb);have hz5:=f15.size;have hz1:=f1.size;have h12:∀b'∈B1,b'∉B2:=fun b' hb hm=>by have:=b6.lt b' hb;have:=n7 b' hm;omega
  have hrn:∀b'∈B1++B2,b'≠r:=fun b' hb e=>by
   rcases zD.1 hb with hb|hb
   have:=hn1 b' hb;omega
   have:=hn2 b' hb;omega
  have b8:gw w8 s1 x9[j].1 B1:=(b6.q7 f7).q8 f8 fun b' hb hm=>hrn b' (by simp[hb]) (zE.1 hm);have b9:gw w8 s2 x9[j].2 B2:=b7.q8 f8 fun b' hb hm=>hrn b' (by simp[hb]) (zE.1 hm);have hC8:gH dbk pb FD D F M k v frm to down w0 cb (B1++(B2++Y)) w8 st2 [b] (zlo++[(zx,ef x9,ku down j)]):=by have hA:gH dbk pb FD D F M k v frm to down w0 cb (B1++(B2++(r::Y))) w7 st2 [b] (zlo++[(zx,ef x9,ku down j)]):=hC5.q8 ((f6.trans f7).mono fun _ h=>nomatch h) (fun b' hb=>?_) fun b' hb=>?_;exact hA.q8 (f8.mono fun b' hb _=>by rw[zE.1 hb];simp) (fun b' hb=>.inl (by simp only[zD] at hb⊢;rcases hb with h|h|h<;>simp[h])) fun b' hb=>yD (hA.lt b' (by simp only[zD,zG] at hb⊢;rcases hb with h|h|h<;>simp[h])) f8.size;rcases zD.1 hb with h|hb;exact .inr (hn1 b' h);rcases zD.1 hb with h|hb;exact .inr (hn2 b' h);exact .inl hb;rcases zD.1 hb with h|hb;exact (b6.q7 f7).lt b' h;rcases zD.1 hb with h|hb;exact b7.lt b' h;exact hC7.lt b' (by simp only[zG,zD];exact .inr (.inr (zG.1 hb)))
  refine k1 x9[j] (T'.takeWhile fun x=>!od down frm to x.1) (by rw[hLT,hT,takeWhile_cons,ho];rfl) s1 s2 B1 B2 w8 st2 [b] _ b8 b9 hC8 (.inr ⟨hh,T',by rw[xN];exact ht',rfl,fun e=>absurd e oM⟩) ?_ (fun b' hb=>(n2 b' hb).imp id fun h=>zL hz1 h) (fun b' hb=>zL (zL hz1 hz5) (hn1 b' hb)) (fun b' hb=>zL (zL hz1 hz5) (hn2 b' hb)) h12;refine ((f1.mono fun _ h=>nomatch h).trans (f15.trans ((f6.trans f7).mono fun _ h=>nomatch h))).j6 f8 fun b' hb=>.inr ?_;rw[zE.1 hb,e1];exact zM _
 rintro _ w2 ⟨hL0,f2,st2,SB2,zs2,hC2,n2⟩;refine gA<|hC2.uN (st':=dI) (SB':=[]) (zs':=[]) w2 (.refl _ _) (.nil _ _ _) (fun z hz=>nomatch hz) (fun b hb=>nomatch hb) (yX _) fun w3 hC3 f3=>?_;have f13:Fr (cb::SB) w1 w3:=f2.j6 f3 fun b hb=>by rcases zG.1 hb with rfl|hb;exact .inl oL;exact (n2 b hb).imp (fun h=>by simp[h]) id
 refine sL (hfr f13) (yi dI dI) rfl rfl (zO rfl) fun w4 hr4 f4=>xh hr4 (dI,dI) rfl<|k0 hL0 w4 (hC3.q8 (f4.mono fun b hb _=>by rw[zE.1 hb];simp) (fun b hb=>.inl (by simp[hb])) fun b hb=>yD (hC3.lt b (by simp[hb])) f4.size) (((f1.mono fun _ h=>nomatch h).trans f13).j6 f4 fun b hb=>.inr ?_);rw[zE.1 hb,e1];exact zM _
end
section
def iL (down:Bool) (frm to:Key) (L:gh):gh:=if down then (lV frm to L).reverse else lV frm to L
def qyX{frm to:Key}(G:fy L):(nm frm L).takeWhile (fun x=>!od false frm to x.1)=lV frm to L:=by
 unfold nm;rw[Hr];rw[filter_filter];unfold lV;congr 1;funext x;unfold BZ od fX
 have:=GF x.1 to
 by_cases C:cmpL x.1 frm<0<;>by_cases u:cmpL x.1 to>0<;>simp[C,u]<;>omega;refine ((pairwise_map.1 G).filter _).imp ?_;intro a b E h;unfold od at h⊢;simp only[Bool.false_eq_true,if_false,zT,decide_eq_false_iff_not] at h⊢;intro I;have C:fX to a.1:=(by unfold fX;rw[vo];omega);have u:=qh C E;unfold fX at u;rw[vo] at u;omega
def qvL{frm to:Key}(C:fy L):(vi to L).reverse.takeWhile (fun x=>!od true frm to x.1)=(lV frm to L).reverse:=by unfold vi;rw[Hr];rw[filter_reverse,filter_filter];unfold lV;congr 2;funext x;have e:fX to x.1↔cmpL x.1 to>0:=(by unfold fX;rw[vo to x.1];omega);have E:decide (cmpL x.1 frm>=0) = !decide (cmpL x.1 frm<0):=(by rw[<- decide_not];exact decide_eq_decide.2 oJ);have G:decide (¬fX to x.1)=decide (cmpL x.1 to<=0):=decide_eq_decide.2 (by rw[e];omega);unfold BZ od;simp only[if_true];rw[E,G];rw[pairwise_reverse];refine ((pairwise_map.1 C).filter _).imp ?_;intro a b u h;unfold od at h⊢;simp only[if_true,zT,decide_eq_false_iff_not] at h⊢;intro I;exact h (qh u I)
section
variable {dbk pb:Nat} {FD F:List Nat} {D:dL} {M:eP} {k v:Nat} {frm to:Key} {down:Bool} {w0 w wA:World} {cb:Nat} {Y SB:List Nat} {st:Sl} {zs:List rK}
def gw.cU{w:World}{l:List Int}(h:gw w s l B)(u:∀b∈B,b∉S):eF S w s l:=h.kB lT u
def qx7{t:Int}{sf sto:Sl}{K:Option Addr->WP}(hT:TW dbk pb FD D 5000 w Y F M)(hs:tX t=((k:Int),(v:Int)))(hL:(k=0/\L=[])\/(k≠0/\gL D M k v t L P))(hLl:L.length<=90000)(hf:eF S w sf frm)(ht:eF S w sto to)(hfl:frm.length<=1000000)(htl:to.length<=1000000)(hfB:eQ frm)(htB:eQ to)(kk:∀cb w' st SB zs,gH dbk pb FD D F M k v frm to down w cb Y w' st SB zs->Left D M k v frm to down 1 (zs.map (·.2)) (iL down frm to L)->Fr [] w w'->K (pW cb) w'): cW 78 [dH pb,.i t,sf.v,sto.v,.bool down] dr w K:=by
 refine qnT (p:=pW pb) (t:=t) (from_:=sf) (to:=sto) (down:=down)<|qrA ?_;rw[hs];refine An hf hfl fun s1 B1 w1 b1 f1 n1 _ _=>An (ht.q7 f1) htl fun s2 B2 w2 b2 f2 n2 _ _=>oB (oE [] w2) fun cb w3 e3 f3 h=>?_;have hnf:(#[dH pb,.i (k:Int),.i (v:Int),s1.v,s2.v,.slice none 0 0,.nilFunc,.nilFunc,.nilFunc]:Array Value)=(qo.cells ⟨pb,k,v,s1,s2,dI,.nilFunc,.nilFunc,.nilFunc⟩):=rfl;refine oD h 0 rfl (qo.cells ⟨pb,k,v,s1,s2,dI,mW cb false,.nilFunc,.nilFunc⟩) fun w4 h f4=>oD h 0 rfl (qo.cells ⟨pb,k,v,s1,s2,dI,mW cb false,nQ cb false,.nilFunc⟩) fun w5 h f5=>oD h 0 rfl (qo.cells ⟨pb,k,v,s1,s2,dI,mW cb false,nQ cb false,oY cb false⟩) fun w6 h f6=>iR (fun _ w'=>∃T,dR [] w2 w' [(cb,.cells (qo.cells ⟨pb,k,v,s1,s2,dI,mW cb down,nQ cb down,oY cb down⟩) T (0,0))]) ?_ ?_;cases down with
 | false=>exact cond_false rfl ⟨_,h⟩
 | true=>
  exact cond_true rfl<|oD h 0 rfl (qo.cells ⟨pb,k,v,s1,s2,dI,mW cb true,nQ cb false,oY cb false⟩) fun w7 h f7=>oD h 0 rfl (qo.cells ⟨pb,k,v,s1,s2,dI,mW cb true,nQ cb true,oY cb false⟩) fun w8 h f8=>oD h 0 rfl (qo.cells ⟨pb,k,v,s1,s2,dI,mW cb true,nQ cb true,oY cb true⟩) fun w9 h f9=>⟨_,h⟩
 rintro _ w7 ⟨T,h⟩;have f07:Fr [] w w7:=(f1.trans f2).trans h.fr;have hcl:=fE (h.at (i:=0) rfl);dsimp only at hcl;have hz1:=f1.size;have hz2:=f2.size;have hT7:=hT.q7 f07;have hylt:=hT.sw;have hcw:w.heap.size<=cb:=oJ;have hC:gH dbk pb FD D F M k v frm to down w cb Y w7 dI [] []:=by
  refine⟨⟨s1,s2,⟨T,h.at (i:=0) rfl⟩,gw.cU ((b1.q7 f2).q7 h.fr) (fun b hb hm=>?_),gw.cU (b2.q7 h.fr) (fun b hb hm=>?_)⟩,?_,.nil _ _ _,(fun z hz=>nomatch hz),(fun h=>nomatch h),(fun hm=>?_),(fun b hb=>nomatch hb),(fun b hb=>?_),hfB,htB,yX _⟩
  have:=b1.lt b hb;have:=n1 b hb
  rcases zG.1 hm with rfl|hm;omega
  have:=hylt b (oP hm);omega
  have:=b2.lt b hb;have:=n2 b hb
  rcases zG.1 hm with rfl|hm;omega
  have:=hylt b (oP hm);omega
  exact hT.CJ (B:=[cb]) (f07.mono fun _ h=>nomatch h) fun b hb=>by rw[zE.1 hb];exact⟨hcw,hcl⟩
  have:=hylt cb hm;omega
  rw[zE.1 hb];exact hcw
 refine iR (fun _ w'=>∃st SB zs,gH dbk pb FD D F M k v frm to down w cb Y w' st SB zs/\Left D M k v frm to down 1 (zs.map (·.2)) (iL down frm to L)/\Fr [] w w') ?_ ?_;refine TW.J2 hT7 fun w8 f8=>?_;have hC8:=hC.q7 f8;refine iR (fun q w'=>q=decide (0<k/\(eE M t).1≠0)/\w'=w8) ?_ ?_;refine eH (fun h=>⟨?_,rfl⟩) (fun h=>⟨?_,rfl⟩);have h:=zC h;rw[Bool.eq_iff_iff,yN,zT,zR];exact⟨fun g=>⟨oJ,g⟩,fun g=>g.2⟩;have h:=zB h;exact (zU fun g=>h oJ).symm;rintro q w9 ⟨rfl,rfl⟩;have h0:L=[]->Left D M k v frm to down 1 ([]:List kU) (iL down frm to L):=fun e=>.inl ⟨rfl,by rw[e];unfold iL lV;simp⟩;apply eH<;>intro hq;obtain⟨hk,hr⟩:=zC hq;obtain⟨_,hTr⟩:k≠0/\gL D M k v t L P:=hL.resolve_left fun h=>by omega
 have hrh:=(qoS hTr).1;rcases hTr with ⟨e,_,_⟩|⟨hh,n,p,hp,e,hHas⟩;rw[e] at hr;exact absurd rfl hr;have hrh2:hh+1<=L.length:=by rw[e] at hrh;exact hrh
 have hpu:iq p:=by
  have:=(Eg hT.wf t).1
  rw[e] at this;exact this
 rw[e];refine qpR (s:=⟨p,n,L,P⟩) hHas hpu hC8 (by show 0+hh+1<=100000;omega) fun w10 st10 SB10 zs10 hC10 hp10 f10 n10=>⟨st10,SB10,zs10,hC10,?_,(f07.trans f8).j6 f10 fun b hb=>.inr ?_⟩;obtain⟨fs,e1,e2⟩:=qvI (frm:=frm) (to:=to) (down:=down) hHas;rw[hp10] at e1;have e1:=yO e1;rw[e1];refine .inr ⟨hh,_,e2,?_,fun e=>absurd e oM⟩;have hso:=hHas.sort;unfold iL;cases down with
 | false=>exact (qyX hso).symm
 | true=>exact (qvL hso).symm
 rw[zE.1 hb];exact hcw;have hq:=zB hq;have hLn:L=[]:=by rcases hL with h|⟨hk,hTr⟩;exact h.2;rcases hTr with ⟨_,h,_⟩|⟨hh,n,p,hp,e,hHas⟩;exact h;exact absurd ⟨oJ,by rw[e];exact hp⟩ hq
 exact⟨dI,[],[],hC8,h0 hLn,f07.trans f8⟩;rintro _ w8 ⟨st8,SB8,zs8,hC8,hL8,f8⟩;exact kk cb w8 st8 SB8 zs8 hC8 hL8 f8
end
end
section
abbrev SS:=Sl×Sl
def mY (x:SS):List Value:=[x.1.v,x.2.v]
def qp0:∀z,(mY z).length=2:=fun _=>rfl
def qwF(z:SS):∀u∈mY z,u.oneCell'=true:=fun u h=>by unfold mY at h;simp only[zG,xX,or_false] at h;rcases h with rfl|rfl<;>rfl
def qAM:∃i,prog.info? CD=some i/\i.zero=some (.agg c8)/\i.size=2/\i.bytes=48:=tV oK
def qA1{zs:List SS}{SB:List Nat}{x:SS}(h:eY mY 2 w s zs SB)(O:zs.length<=1000000)(G:∀E B' w',eY mY 2 w' E (zs++[x]) B'->Fr SB w w'->(∀b∈B',b∈SB\/w.heap.size<=b)->K E w'): Pt.new (.cells (yi x.1 x.2) CD) w fun r w1=>Pt.run de ((Builtin.append_ #[99,99] 99 #[s.v,.slice (pW r) 1 1]).run prog w1) K:=by obtain⟨j,I,J,u,C⟩:=qAM;exact eY.push (e:=CD) (x:=x) h qp0 (qwF _) oK I J u rfl rfl (by rw[C];omega) oJ G
def pY (w:World) (h:List Nat) (ps:List (SS×(Key×Key))):Prop:=∀p∈ps,∃u C,gw w p.1.1 p.2.1 u/\gw w p.1.2 p.2.2 C/\(∀b∈u,b∈h)/\∀b∈C,b∈h
def pY.q8{w w':World}{S E C:List Nat}{ps:List (SS×(Key×Key))}(h:pY w E ps)(f:Fr S w w')(G:∀b∈E,b∉S)(I:∀b∈E,b∈C):pY w' C ps:=fun p Q=>by obtain⟨R,U,V,h2,J,O⟩:=h p Q;exact⟨R,U,V.q8 f fun b u=>G b (J b u),h2.q8 f fun b u=>G b (O b u),fun b u=>I b (J b u),fun b u=>I b (O b u)⟩
section
variable {dbk pb:Nat} {FD F:List Nat} {D:dL} {M:eP} {k v:Nat} {frm to:Key} {down:Bool} {w0 w wA:World} {cb:Nat} {Y SB:List Nat} {st:Sl} {zs:List rK}
def qv4{t:Int}{sf ag:Sl}(hT:TW dbk pb FD D 5000 w [] F M)(hs:tX t=((k:Int),(v:Int)))(hL:(k=0/\L=[])\/(k≠0/\gL D M k v t L P))(au:L.length<=90000)(hf:eF S w sf frm)(ht:eF S w ag to)(av:frm.length<=1000000)(aw:to.length<=1000000)(ax:eQ frm)(ay:eQ to)(kk:∀s w' B C ps,eY mY 2 w' s (ps.map (·.1)) B->pY w' C ps->(∀b∈C,b∉B)->ps.map (·.2)=(iL down frm to L).take most.toNat->Fr [] w w'->(∀b∈B,w.heap.size<=b)->(∀b∈C,w.heap.size<=b)->K s w'): cW 37 [dH pb,.i t,sf.v,ag.v,.bool down,.i most] de w K:=by
 refine qo5<|qx7 hT hs hL au hf ht av aw ax ay fun cb w1 st SB zs ah az f1=>?_;have a4:(iL down frm to L).length<=90000:=by have U:(lV frm to L).length<=L.length:=length_filter_le _ _;unfold iL;split;rw[length_reverse];omega;omega
 have a5:∀b∈cb::SB,w.heap.size<=b:=ah.new;refine iR (fun s w'=>∃B C ps,eY mY 2 w' s (ps.map (·.1)) B/\pY w' C ps/\(∀b∈C,b∉B)/\ps.map (·.2)=(iL down frm to L).take most.toNat/\Fr [] w w'/\(∀b∈B,w.heap.size<=b)/\(∀b∈C,w.heap.size<=b)) ?_ ?_
 ·refine Eb (fun (i:Nat) s w'=>∃B C ps st SB zs,i<=(iL down frm to L).length/\eY mY 2 w' s (ps.map (·.1)) B/\pY w' C ps/\(∀b∈C,b∉B)/\ps.map (·.2)=(iL down frm to L).take i/\(most.toNat<i->i=0)/\Fr [] w w'/\(∀b∈B,w.heap.size<=b)/\(∀b∈C,w.heap.size<=b)/\gH dbk pb FD D F M k v frm to down w cb (B++C) w' st SB zs/\Left D M k v frm to down 1 (zs.map (·.2)) ((iL down frm to L).drop i)) (fun i=>(iL down frm to L).length+1-i) 0 ⟨[],[],[],st,SB,zs,yX _,.nil _ _ _,(fun p hp=>nomatch hp),(fun b u=>nomatch u),rfl,fun _=>rfl,f1,(fun b u=>nomatch u),(fun b u=>nomatch u),ah,by rw[xF];exact az⟩ ?_;rintro i s w2 ⟨B,C,ps,a6,ab,a7,hi,u,hR,hd,O,aC,f2,n2,n3,G,aE⟩ X hX;have a9:s.len=i:=by
   rw[u.len,zK]
   have:=congrArg List.length O
   rw[zK,yL] at this;omega
  apply eH<;>intro hc;rotate_left;have hc:=zB hc;refine⟨B,C,ps,u,hR,hd,?_,f2,n2,n3⟩;rw[O];by_cases h0:most.toNat<i
  have:=aC h0;omega
  have:most.toNat=i:=oJ;rw[this];have hc:=zC hc;have a':i<most.toNat:=oJ;have ba:=G.lt;refine qv5 G aE (fun aF w3 ac f3=>?_) (fun x L' Q ks vs B1 B2 w3 aG aH aI hk hv ac aJ f3 n4 n5 n6 aU=>?_);refine oB (oE [] w3) fun r w4 e4 f4 h=>oD h 0 rfl (yi dI dI) fun w5 h f5=>cond_true rfl ?_;have ad:Fr (cb::ab) w2 w5:=f3.trans (h.fr.mono fun _ h=>nomatch h);have E:∀b∈B++C,b∉cb::ab:=fun b u J=>by rcases zG.1 J with rfl|J;exact G.CP u;exact G.yq b J u
  refine⟨B,C,ps,u.q8 ad fun b u=>E b (by simp[u]),hR.q8 ad (fun b u=>E b (by simp[u])) fun b u=>u,hd,?_,f2.j6 ad fun b u=>.inr (G.new b u),n2,n3⟩;rw[O];have I:(iL down frm to L).length<=i:=by
   have:=congrArg List.length aF
   rw[yC,xK] at this;omega
  rw[zS I,zS oJ];have I:i<(iL down frm to L).length:=by
   have:=congrArg List.length Q
   rw[yC,yI] at this;omega
  have hx:(iL down frm to L).take (i+1)=(iL down frm to L).take i++[x]:=(by rw[yG I];rw[zY I] at Q;rw[(vC Q).1]);have ae:(iL down frm to L).drop (i+1)=L':=(by rw[zY I] at Q;exact (vC Q).2);have E:∀b∈B++C,b∉cb::ab:=fun b u J=>by rcases zG.1 J with rfl|J;exact G.CP u;exact G.yq b J u
  have aL:eY mY 2 w3 s (ps.map (·.1)) B:=u.q8 f3 fun b u=>E b (by simp[u]);have aM:pY w3 (B1++(B2++C)) (ps++[((ks,vs),x)]):=fun p hp=>by rcases zD.1 hp with hp|hp;exact hR.q8 f3 (fun b u=>E b (by simp[u])) (fun b u=>by simp[u]) p hp;rw[zE.1 hp];exact⟨B1,B2,hk,hv,fun b u=>by simp[u],fun b u=>by simp[u]⟩
  have an:∀b∈B1++(B2++C),b∉B:=fun b R J=>by
   have:=u.lt b J
   rcases zD.1 R with h|R
   have:=n5 b h;omega
   rcases zD.1 R with h|R
   have:=n6 b h;omega
   exact hd b R J
  refine oB (oE [] w3) fun r w4 e4 f4 h=>oD h 0 rfl (yi ks vs) fun w5 h f5=>cond_false rfl<|oC h 0 rfl (ks,vs) rfl ?_;have aN:=ac.q7 h.fr;refine qA1 (x:=(ks,vs)) (aL.q7 h.fr) (by rw[zK];have:=congrArg List.length O;rw[zK,yL] at this;omega) fun s6 B6 w6 b6 f6 n7=>?_;have ao:=ac.lt;have V:∀b∈B1++(B2++C),b<w5.heap.size:=fun b u=>yD (ao b (by simp only[zD,zG] at u⊢;rcases u with h|h|h<;>simp[h])) h.fr.size;have aP:Fr [] w w6:=by refine (f2.j6 f3 fun b u=>.inr (G.new b u)).trans (h.fr) |>.j6 f6 fun b u=>.inr (n2 b u)
  have hz:=(f2.j6 f3 fun b u=>.inr (G.new b u)).size;refine hX (i+1) s6 w6 ⟨B6,B1++(B2++C),ps++[((ks,vs),x)],aG,aH,aI,I,by rw[xN];exact b6,(aM.q8 h.fr (fun _ _ h=>nomatch h) fun b u=>u).q8 f6 an fun b u=>u,fun b u J=>?_,by rw[xN,O,hx];rfl,fun h=>oJ,aP,fun b u=>?_,fun b u=>?_,aN.q8 (f6.mono fun b u _=>by simp[u]) (fun b u=>?_) (fun b u=>?_),by rw[ae];exact aJ⟩ ?_;rcases n7 b J with U|U;exact an b u U
  have:=V b u;omega
  rcases n7 b u with U|U;exact n2 b U
  have:=h.fr.size;omega
  have ap:=f2.size;rcases zD.1 u with h|u;exact zL ap (n5 b h);rcases zD.1 u with h|u;exact zL ap (n6 b h);exact n3 b u;rcases zD.1 u with u|u;exact (n7 b u).imp (fun h=>by simp[h]) id;exact .inl (by simp only[zD] at u⊢;rcases u with h|h|h<;>simp[h]);rcases zD.1 u with u|u;exact b6.lt b u;exact yD (V b u) f6.size;show _+1-(i+1)<_+1-i;omega
 rintro s w2 ⟨B,C,ps,U,h2,h3,h4,h5,h6,h7⟩;exact kk s w2 B C ps U h2 h3 h4 h5 h6 h7
end
end
section
def qBx{frm to:Key}{x:Key×Key}:BZ frm to x=true↔¬fX x.1 frm/\¬fX to x.1:=by unfold BZ;rw[yB,yN,yN];have h:cmpL x.1 frm>=0↔¬fX x.1 frm:=(by unfold fX;omega);have u:cmpL x.1 to<=0↔¬fX to x.1:=(by unfold fX;rw[vo x.1 to];omega);rw[h,u]
def qyl(l:List Int):¬cmpL l l<0:=ss
def qA9{x y:List Int}{m:Int}(u:mn n)(C:mn m)(E:x.length=y.length):fX (x++bw 8 n) (y++bw 8 m)↔fX x y\/x=y/\n<m:=by unfold fX;rw[qt4 E];by_cases e:x=y;rw[if_pos e,qwn u C,e];exact⟨fun h=>.inr ⟨rfl,h⟩,fun h=>h.elim (fun h=>absurd h (qyl y)) fun h=>h.2⟩;rw[if_neg e];exact⟨.inl,fun h=>h.elim id fun h=>absurd h.1 e⟩
def quG{a b c d:Int}(u:mn a)(E:mn b)(C:mn c)(G:mn d):fX (lh a b) (lh c d)↔a<c\/a=c/\b<d:=by unfold lh;rw[qA9 E G (by rw[li,li]),show fX (bw 8 a) (bw 8 c)↔a<c from qwn u C];exact⟨fun h=>h.imp id fun h=>⟨Du (by rw[p8];exact u) (by rw[p8];exact C) h.1,h.2⟩,fun h=>h.imp id fun h=>⟨by rw[h.1],h.2⟩⟩
def qf (l:List (HL ig)):Prop:=l.Pairwise fun a b=>mE a b=true
def wP (d:HL ig):Key×Key:=(lh d.1 d.2.1,ir (oV d))
def qyt{a b:HL ig}(h:ee ig a)(u:ee ig b):fX (wP a).1 (wP b).1↔mE a b=true:=by unfold mE;rw[yN];exact quG (ph h.1) (ph h.2.1) (ph u.1) (ph u.2.1)
def lW.eqs{α κ:Type}{K:oW α κ}{l:List α}{f:α->Key×Key}(h:lW K L l)(u:∀a,f a=(K.g (K.key a),K.val a))(C:l.Pairwise fun a b=>fX (f a).1 (f b).1):L=l.map f:=by
 refine List.Perm.eq_of_pairwise (le:=fun x y=>fX x.1 y.1) (fun a b _ _ E G=>absurd G (tN E)) ?_ ?_ ?_
 have:=h.1.sort
 unfold fy fY dU at this;exact pairwise_map.1 this;exact pairwise_map.2 C;rw[show f=fun a=>(K.g (K.key a),K.val a) from funext u];exact h.1.perm
def iy (l:List (HL ig)) (j8 most:Int):List (HL ig):=(l.filter fun d=>decide (d.1<=j8)).take most.toNat
def qwA{j8:Int}(h:lW uQ L l)(G:qf l)(I:mn j8):(iL false [] (lh j8 18446744073709551615) L).take most.toNat=(iy l j8 most).map wP:=by
 have e:L=l.map wP:=h.eqs (fun _=>rfl) (List.Pairwise.imp_of_mem (fun {a b} J O u=>(qyt (h.2 a J) (h.2 b O)).2 u) G);unfold iL lV iy;rw[if_neg oM,e,filter_map,xP];congr 2;refine filter_congr fun d Q=>?_;have E:=h.2 d Q;have u:=ph E.1;have C:=ph E.2.1;rw[Bool.eq_iff_iff,Function.comp,qBx,yN];have R:¬fX (wP d).1 []:=by
  unfold wP lh fX;have:bw 8 d.1≠[]:=fun e=>by have:=congrArg List.length e;rw[li] at this;cases this
  cases U:bw 8 d.1 with
  | nil=>exact absurd U this
  | cons x r=>exact (by decide:¬(1:Int)<0)
 have V:fX (lh j8 18446744073709551615) (wP d).1↔j8<d.1\/j8=d.1/\18446744073709551615<d.2.1:=quG I ⟨oM,oM⟩ u C;rw[V];have key:∀a e:Int,mn e->(¬(j8<a\/j8=a/\18446744073709551615<e)↔a<=j8):=fun a e h=>by omega
 exact⟨fun h=>(key _ _ C).1 h.2,fun h=>⟨R,(key _ _ C).2 h⟩⟩
abbrev EP:TypeId:=53
abbrev iO:HL ig->List Value:=HL.mk ig
def CX(d:HL ig):(iO d).length=4:=rfl
def qAH:∃i,prog.info? EP=some i/\i.zero=some (.agg cZ)/\i.size=4/\i.bytes=32:=tV oK
def qwD(d:HL ig):∀u∈iO d,u.oneCell'=true:=fun u h=>by obtain⟨a,b,c,e⟩:=d;rcases zG.1 h with rfl|h;rfl;rcases zG.1 h with rfl|h;rfl;rcases zG.1 h with rfl|h;rfl;rw[zE.1 h];rfl
def A2{x:HL ig}(h:eY iO 4 w s l B)(O:l.length<=1000000)(G:∀E B' w',eY iO 4 w' E (l++[x]) B'->Fr B w w'->(∀b∈B',b∈B\/w.heap.size<=b)->K E w'): Pt.new (.cells (HL.mk ig x).toArray EP) w fun r w1=>Pt.run de ((Builtin.append_ #[31,31] 31 #[s.v,.slice (pW r) 1 1]).run prog w1) K:=by obtain⟨j,I,J,u,C⟩:=qAH;exact eY.push (e:=EP) (x:=x) h CX (qwD x) oK I J u rfl rfl (by rw[C];omega) oJ G
section
variable {w w' w1:World} {Y F F':List Nat} {sb pb c:Nat} {b b':Bk}
def qzB{j8:Int}(h:SB w Y sb F c b)(hn:IntKind.u64.has j8)(hd:qf b.due)(hl:b.size<=90000)(kk:∀s B w',eY iO 4 w' s (iy b.due j8 most) B->Fr [] w w'->(∀x∈B,w.heap.size<=x)->(∀d∈b.due,ee ig d)->K s w'): cW 12 [dH sb,.int .u64 j8,.i most] de w K:=by
 refine qla ?_;obtain⟨pb,h⟩:=h;have g:=(Fr.refl [] w).drew;refine h.vj g (qtO fun s1 w1 h1 f1=>iI (h.held (g.trans f1)) ?_);obtain⟨dbk,FD,D,M,Fo,hS,hb,hc⟩:=h;have C:=hb.due;have aw:=C.len;have ab:=(hS.q7 g).q7 f1;have hz:b.due.length<=b.size:=(by unfold Bk.size;omega);refine qv4 (S:=[]) (k:=16) (v:=16) (frm:=[]) (L:=(Fo 3).1) (P:=(Fo 3).2) (ab.tw.x8 fun _ h=>nomatch h) rfl (.inr ⟨oM,hS.st.j8.j9 3 oM⟩) oJ (.nil _ _ _ _) h1.rd (yX _) (by rw[Be];decide) (fun _ h=>nomatch h) (qs0 _ _) fun s2 w2 B KB ps hB hR _ E f2 nB _=>?_;rw[qwA C hd (ph hn)] at E;have ac:ps.length=(iy b.due j8 most).length:=(by have:=congrArg List.length E;simpa using this);have az:(iy b.due j8 most).length<=b.due.length:=(by unfold iy;rw[yL];exact zL (Nat.min_le_right _ _) (length_filter_le _ _));have aA:s2.len=ps.length:=(by rw[hB.len,zK]);have ad:dX mY 2 [] w2 s2 (ps.map (·.1)):=hB.kB qp0 fun _ _ h=>nomatch h;refine jS (fun q w'=>∃i:Nat,∃B',q.2=i/\i<=ps.length/\eY iO 4 w' q.1 ((iy b.due j8 most).take i) B'/\Fr [] w2 w'/\∀x∈B',w2.heap.size<=x) (fun q _=>ps.length-q.2.toNat) ⟨0,[],rfl,yX _,eY.nil _ _ _,.refl _ _,fun _ h=>nomatch h⟩ ?_;rintro⟨s3,q⟩ w3 ⟨i,B3,hq,hi,U,J,n3⟩ X hX;dsimp only at hq U⊢;subst hq;apply cD<;>intro G;have u:i<ps.length:=oJ;have I:i<(iy b.due j8 most).length:=oJ;have O:ps[i].2=wP (iy b.due j8 most)[i]:=by
  have:=congrArg (·[i]?) E
  simp only[zQ,zA u,zA I,Option.map_some] at this;exact yO this
 generalize Q:(iy b.due j8 most)[i]=d at O;have hm:d∈b.due:=(by rw[<- Q];exact (mem_filter.1 (yV (zX I))).1);have V:=C.2 d hm;obtain⟨B1,B2,k1,k2,_,_⟩:=hR ps[i] (zX u);rw[O] at k1 k2;have af:eF [] w2 ps[i].1.1 (lh d.1 d.2.1):=k1.kB lT fun _ _ h=>nomatch h;have ag:eF [] w2 ps[i].1.2 (ir (oV d)):=k2.kB lT fun _ _ h=>nomatch h;refine iR (fun q w'=>∃B',eY iO 4 w' q ((iy b.due j8 most).take (i+1)) B'/\Fr [] w2 w'/\∀x∈B',w2.heap.size<=x) ?_ fun s4 w4 ⟨B4,b4,f4,n4⟩=>hX _ _ ⟨i+1,B4,by dsimp only;rw[fV _ oJ];rfl,u,b4,f4,n4⟩ (by dsimp only;rw[fV _ oJ];omega);refine dX.pL (x:=ps[i].1) (y:=ps[i].1) (ad.q7 J) i rfl (by rw[zQ,zA u];rfl) rfl rfl<|oB (oE [] w3) fun r4 w4 _ f4 o=>o.st' 0 rfl _ (iG rfl) rfl (zM _) fun w5 o _=>oA o 0 rfl ps[i].1.1 rfl (oA o 0 rfl ps[i].1.2 rfl ?_);have f5:=J.trans o.fr;refine quU (x:=oV d) (af.q7 f5) (ag.q7 f5) (ph V.1) (ph V.2.1) ⟨ph V.2.2.1,ph V.2.2.2⟩ fun w6 f6=>oB (o.q7 f6) fun r7 w7 _ f7 o=>o.st' 0 rfl _ (iG rfl) rfl (zM _) fun w8 o _=>cond_true rfl (oC o 0 rfl d rfl ?_);refine A2 (U.q7 o.fr) (by rw[yL];omega) fun s9 B9 w9 b9 f9 n9=>⟨B9,?_,(J.trans o.fr).j6 f9 fun x R=>.inr (n3 x R),fun x R=>(n9 x R).elim (n3 x) fun h=>zL (J.trans o.fr).size h⟩;rw[yG I,Q];exact b9;have u:i=ps.length:=oJ;subst u;rw[ac,xZ] at U;have f:=(g.trans f1).trans f2;exact kk s3 B3 w3 U (f.trans J) (fun x R=>zL f.size (n3 x R)) C.2
end
end
section
def rH(h:mn x):IntKind.u64.has x:=show (0:Int)<=x/\x<=18446744073709551615 from⟨h.1,oJ⟩
def yw(h:0<=x/\x<65536):IntKind.u16.has x:=show (0:Int)<=x/\x<=65535 from⟨h.1,oJ⟩
def qb:IntKind.u64.has 0:=rH ⟨oM,oM⟩
def A8:ee fx kE:=⟨qb,qb,qb,qb,qb,qb,qb,qb,qb,qb,qb,show (0:Int)<=0/\(0:Int)<=4294967295 from⟨oM,oM⟩,yw ⟨oM,oM⟩,yw ⟨oM,oM⟩,qb⟩
def qqF{x:gB}(u:mO x)(h:ee fx a):ee fx (kZ x a):=⟨h.1,h.2.1,rH u.1,rH u.2,h.2.2.2.2⟩
def qqE{x:gB}(u:mO x)(h:ee fx a):ee fx (lB x a):=⟨h.1,h.2.1,h.2.2.1,h.2.2.2.1,h.2.2.2.2.1,h.2.2.2.2.2.1,rH u.1,rH u.2,h.2.2.2.2.2.2.2.2⟩
def DX(u:0<=x/\x<65536)(h:ee fx a):ee fx (jY x a):=⟨h.1,h.2.1,h.2.2.1,h.2.2.2.1,h.2.2.2.2.1,h.2.2.2.2.2.1,h.2.2.2.2.2.2.1,h.2.2.2.2.2.2.2.1,h.2.2.2.2.2.2.2.2.1,h.2.2.2.2.2.2.2.2.2.1,h.2.2.2.2.2.2.2.2.2.2.1,h.2.2.2.2.2.2.2.2.2.2.2.1,h.2.2.2.2.2.2.2.2.2.2.2.2.1,yw u,h.2.2.2.2.2.2.2.2.2.2.2.2.2.2⟩
def quw(h:0<=x/\x<65536):0<=mz x 16/\mz x 16<65536:=by
 unfold mz;split
 ·next e=>unfold hasB at e;have:=zC e;omega
 exact h
def BH{t:HL io}{p q:Pa}(E:ee io t)(G:ee fx p.1)(I:ee fx p.2.1)(h:gl t p=some q):ee fx q.1/\ee fx q.2.1:=by unfold gl at h;obtain⟨x,J,h⟩:=Option.bind_eq_some_iff.1 h;obtain⟨y,O,rfl⟩:=yT.1 h;have u:=qqF (Dg (zq G) (ti E) J).2 G;have C:=qqE (Dg (xw I) (ti E) O).2 I;constructor;dsimp only;split;exact DX (quw (tM u)) u;exact u;dsimp only;split;exact DX (quw (tM C)) C;exact C
def Hb.vM(h:Hb T b)(i:gB):ee fx ((eG b i).getD kE):=by
 cases u:eG b i with
 | none=>exact A8
 | some a=>exact h.acc.2 a (mem_of_find?_eq_some u)
def Hb.C2(h:Hb T b){i:gB}{k:Kp}(u:gY b i=some k):rQ k/\qz k=i:=⟨h.jA.2 k (mem_of_find?_eq_some u),by simpa using List.find?_some u⟩
def SB.hb{Y F:List Nat}{sb c:Nat}(h:SB w Y sb F c b):∃T,Hb T b:=by obtain⟨pb,dbk,FD,D,M,Fo,C,u,E⟩:=h;exact⟨_,u⟩
def gc (t:HL io):gB:=(t.2.2.1,t.2.2.2.1)
def gd (t:HL io):gB:=(t.2.2.2.2.1,t.2.2.2.2.2.1)
def lg (b:Bk) (d:HL ig) (n:Int):Bk:=
 let k:=(gY b (oV d)).getD ui
 ((fg b ((gl k.1 (kb b (gc k.1) (gd k.1))).getD pK) n).fN (gj k.1,4)).jz d
def wI (c:Nat) (b:Bk) (d:HL ig):Prop:=d∈b.due/\(∃k q,gY b (oV d)=some k/\gl k.1 (kb b (gc k.1) (gd k.1))=some q)/\3*(b.size+5)+1<=c
def fO:Bk->List (HL ig)->Int->Bk
 | b,[],_=>b
 | b,d::r,n=>fO (lg b d n) r ((n+1)%18446744073709551616)
def ou (c:Nat):Bk->List (HL ig)->Int->Prop
 | _,[],_=>True
 | b,d::r,n=>wI c b d/\ou c (lg b d n) r ((n+1)%18446744073709551616)
section
variable {w w' w1:World} {Y F F':List Nat} {sb pb c:Nat} {b b':Bk}
def Gf{p:Pa}:(fg b p n).size<=b.size+4:=by have h:=wn (b:=b) (a:=p.1);have u:=wn (b:=b.dQ p.1) (a:=p.2.1);have C:=Er (b:=(b.dQ p.1).dQ p.2.1) (a:=p.1) (s:=1) (n:=n);have E:=Er (b:=i8 ((b.dQ p.1).dQ p.2.1) p.1 1 n) (a:=p.2.1) (s:=2) (n:=n);unfold fg;omega
def qnK{p:Pa}:(fg b p n).due=b.due:=by unfold fg i8;split<;>split<;>rfl
def HR{k:Kp}{q:Pa}{C E r6 r1:Nat}{o6:Obj}{K:Int->WP}(h:SB w Y sb F c b)(o:dR [] w w1 [(C,.cells (kj pK).toArray qa (0,0)),(E,.cells (HL.mk io k.1).toArray 55 (0,0)),(r6,o6),(r1,.cells (HL.mk ig d).toArray EP (0,0))])(O:d∈b.due)(Q:gY b (oV d)=some k)(R:gl k.1 (kb b (gc k.1) (gd k.1))=some q)(hr:3*(b.size+5)+1<=c)(hn:IntKind.u64.has n)(U:∀F' w',SB w' Y sb F' c (lg b d n)->nV F w F' w'->K 0 w'):Ci (pW sb) n K (kj q,true) C w1 E r1:=by
 unfold Ci;obtain⟨T,I⟩:=h.hb;have u:=(I.C2 Q).1;have J:ee ig d:=I.due.2 d O;have G:=BH u.1 (I.vM (gc k.1)) (I.vM (gd k.1)) R;have e:lg b d n=((fg b q n).fN (gj k.1,4)).jz d:=(by unfold lg;rw[Q];simp only[xV];rw[R];rfl);rw[e] at U;refine mc (qI q) (o.st' 0 rfl _ (iG rfl) rfl (zM _) fun w2 o _=>cond_false rfl (nI (o.at (i:=0) rfl) _ (qI q) rfl ?_));have f:=o.fr;have h:=h.j8 o;have z:=Gf (b:=b) (p:=q) (n:=n);refine qzw h G.1 G.2 hn oJ fun F3 w3 V s3=>cond_false rfl ?_;have o:=h.own o s3;refine oC o 1 rfl (k.1.1,k.1.2.1) rfl (qnH V oJ ⟨u.1.1,u.1.2.1⟩ (show (0:Int)<=4/\(4:Int)<=255 from⟨oM,oM⟩) fun F4 w4 h4 s4=>cond_false rfl ?_);have o:=V.own o s4;refine oC o 3 rfl d rfl (qu3 h4 ?_ J (by show d∈(fg b q n).due;rw[qnK];exact O) fun F5 w5 h5 s5=>?_)
 have:=sC (kf:=fun x:gB×Int=>x.1) (a:=(gj k.1,4)) (l:=(fg b q n).kA)
 have z2:((fg b q n).fN (gj k.1,4)).size<=(fg b q n).size+1:=(by unfold Bk.size Bk.fN;dsimp only;omega);exact zL (by have:=z2;show 3*((fg b q n).fN (gj k.1,4)).size+1<=3*(b.size+5)+1;omega) hr;exact U F5 w5 (h5.x8 fun _ h=>zI _ h) (.pre f ((s3.trans s4).trans s5))
def qAW{K:Int->WP}(h:SB w Y sb F c b)(ok:wI c b d)(R:IntKind.u64.has n)(U:∀F' w',SB w' Y sb F' c (lg b d n)->nV F w F' w'->K 0 w'): cW 33 [dH sb,.agg #[.int .u64 d.1,.int .u64 d.2.1,.int .u64 d.2.2.1,.int .u64 d.2.2.2],.int .u64 n] df w K:=by
 refine qqZ ?_;obtain⟨O,⟨k,q,G,E⟩,V⟩:=ok;obtain⟨T,Q⟩:=h.hb;have u:=(Q.C2 G).1;have I:ee ig d:=Q.due.2 d O;have hz:=wo;have ab:=wE;have gD:lw (gc k.1):=⟨u.1.2.2.1,u.1.2.2.2.1⟩;have gC:lw (gd k.1):=⟨u.1.2.2.2.2.1,u.1.2.2.2.2.2.1⟩;have hA:=Q.vM (gc k.1);have hC:=Q.vM (gd k.1);refine oB (oE [] w) fun r1 w1 _ f1 o=>oC o 0 rfl (d.2.2.1,d.2.2.2) rfl (qzC (h.q7 f1) ⟨I.2.2.1,I.2.2.2⟩ fun w2 f2=>?_);rw[show gY b (d.2.2.1,d.2.2.2)=some k from G];refine oI (o.q7 f2) ab fun r6 w3 _ o=>mc (po k) (o.st' 0 rfl _ (iG rfl) rfl (zM _) fun w4 o _=>oC o 0 rfl k.1 rfl (oB o fun al w5 _ f5 o=>o.st' 0 rfl _ (iG rfl) rfl (zM _) fun w6 o _=>?_));have o:=o.drew;refine⟨oC o 0 rfl k.1 rfl (oC o 0 rfl (gc k.1) rfl (oC o 0 rfl (gd k.1) rfl (GV (h.q7 o.fr) gD gC fun w7 C=>iI ((o.q7 C).cells 0 rfl rfl) (GG (am:=(0,0)) u.1 hA hC E fun w8 J=>oI ((o.q7 C).q7 J) hz fun r9 w9 _ o=>mN (o.cells 1 rfl rfl) (o.cells 1 rfl rfl) (o.cells 1 rfl rfl) ?_)))),
  oC o 0 rfl k.1 rfl (oC o 0 rfl (gc k.1) rfl (oC o 0 rfl (gd k.1) rfl (GV (h.q7 o.fr) gD gC fun w7 C=>iI ((o.q7 C).cells 0 rfl rfl) (oI (o.q7 C) hz fun r9 w9 _ o=>mN (o.cells 1 rfl rfl) (o.cells 1 rfl rfl) (o.cells 1 rfl rfl) (GG (am:=(0,0)) u.1 hA hC E fun w8 J=>?_))))),
  oC o 0 rfl k.1 rfl (oC o 0 rfl (gc k.1) rfl (oC o 0 rfl (gd k.1) rfl (oI o hz fun r9 w9 _ o=>mN (o.cells 1 rfl rfl) (o.cells 1 rfl rfl) (o.cells 1 rfl rfl) (GV (h.q7 o.fr) gD gC fun w7 C=>iI ((o.q7 C).cells 1 rfl rfl) (GG (am:=(0,0)) u.1 hA hC E fun w8 J=>?_)))))⟩
 exact HR h o O G E V R U;exact HR h (o.q7 J) O G E V R U;exact HR h ((o.q7 C).q7 J) O G E V R U
end
end
section
section
variable {w w' w1:World} {Y F F':List Nat} {sb pb c:Nat} {b b':Bk}
def SB.Ct(h:SB w Y sb F c b):∀x∈F,x<w.heap.size:=by obtain⟨pb,dbk,FD,D,M,Fo,u,E,G⟩:=h;exact fun x C=>u.tw.x5.lt x C
def qrL{j8:Int}:(iy l j8 most).length<=l.length:=by unfold iy;rw[yL];exact zL (Nat.min_le_right _ _) (length_filter_le _ _)
def Fw{first:Int}{K:Int×Int->WP}(h:SB w Y sb F c b)(hn:IntKind.u64.has first)(hd:qf b.due)(hl:b.size<=90000)(ok:ou c b (iy b.due first most) first)(kk:∀F' w',SB w' Y sb F' c (fO b (iy b.due first most) first)->nV F w F' w'->K (((iy b.due first most).length:Int),0) w'): cW 10 [dH sb,.int .u64 first,.i most] dl w K:=by
 refine qnZ ?_;have hz:b.due.length<=b.size:=(by unfold Bk.size;omega);have R:=qrL (l:=b.due) (j8:=first) (most:=most);refine qzB h hn hd hl fun s B w1 U f1 nB _=>?_;generalize iy b.due first most=l at ok kk U R
 have V:s.len=l.length:=U.len;have hR:dX iO 4 F w1 s l:=U.kB CX fun x hx hF=>by have:=nB x hx;have:=h.Ct x hF;omega
 have hu:=ph hn;refine jS (fun q w'=>∃i:Nat,∃F' Q,q=i/\i<=l.length/\SB w' Y sb F' c Q/\dX iO 4 F' w' s l/\nV F w F' w'/\ou c Q (l.drop i) ((first+i)%18446744073709551616)/\fO Q (l.drop i) ((first+i)%18446744073709551616)=fO b l first) (fun q _=>l.length-q.toNat) ⟨0,F,b,rfl,yX _,h.q7 f1,hR,.pre f1 (.refl _ _),by rw[show (first+((0:Nat):Int))%18446744073709551616=first by omega];exact ok,by rw[show (first+((0:Nat):Int))%18446744073709551616=first by omega];rfl⟩ ?_;rintro q w2 ⟨i,F2,Q,rfl,hi,h2,G,s2,C,I⟩ X hX;apply cD<;>intro hc
 ·have u:i<l.length:=oJ;rw[zY u] at C I;have en:wrap .u64 (first+wrap .u64 (i:Int))=(first+i)%18446744073709551616:=(by rw[qs (i:Int) ⟨oJ,oJ⟩];unfold wrap;have:(IntKind.u64.signed)=false:=rfl;simp only[this,Bool.false_and,Bool.false_eq_true,if_false];rfl);rw[en];refine dX.pL (x:=l[i]) (y:=l[i]) G i rfl (zA u) rfl rfl<|oB (oE [] w2) fun r3 w3 _ f3 o=>o.st' 0 rfl _ (iG rfl) rfl (zM _) fun w4 o _=>oC o 0 rfl l[i] rfl<|qAW (h2.q7 o.fr) C.1 (rH ⟨oJ,oJ⟩) fun F5 w5 h5 s5=>cond_false rfl ?_;rw[fV _ oJ];have J:((first+(i:Int))%18446744073709551616+1)%18446744073709551616=(first+((i+1:Nat):Int))%18446744073709551616:=oJ;have O:=C.2;rw[J] at O;rw[fO,J] at I;have E:=nV.pre o.fr s5;exact hX _ _ ⟨i+1,F5,_,rfl,u,h5,G.q8 E.fr E.new,s2.trans E,O,I⟩ oJ
 have u:i=l.length:=oJ;subst u;rw[drop_length,fO] at I;rw[V];rw[I] at h2;exact kk F2 w2 h2 s2
end
end
section
def zz{a b:gB}{x y:Operand}{K:Bool->Prop}(k:K (decide (a=b))): fw [iD.one Cell.bool] (fun w'=>(do eqGuard .eql pd x y (da a.1 a.2) (da b.1 b.2);binOp .eql pd (da a.1 a.2) (da b.1 b.2):Sem Value).run prog w') w K:=by have e:uZ prog 2 pd (da a.1 a.2) (da b.1 b.2)=some (bif a.1==b.1 then (bif a.2==b.2 then true else false) else false):=oK;have h:(bif a.1==b.1 then (bif a.2==b.2 then true else false) else false)=decide (a=b):=(by obtain⟨u,C⟩:=a;obtain⟨E,b1⟩:=b;dsimp only;by_cases h0:u=E;by_cases h1:C=b1;simp[h0,h1];simp[h0,h1];simp[h0]);rw[h] at e;exact qAC 2 oM _ e oK k
def dX.jP{α:Type}{enc:α->List Value}{l:List α}{cl:List Cell}(h:dX enc k S w s l)(n:Nat){x:α}{y:HL cl}{K:HL cl->Prop}(hi:i=n)(u:l[n]?=some x)(C:cl.length<=k)(E:(enc x).take cl.length=HL.mk cl y)(G:K y):idx s i k fun a=>dK cl a w K:=by subst hi;obtain⟨Q,b,o,I,_,R,T,U,J,O⟩:=h.at n u;refine qY I ⟨oJ,oJ⟩ ?_;rw[zJ];refine xh J y ?_ G;rw[<- E,<- O,take_take,xR C]
def dX.Ck{α:Type}{enc:α->List Value}{l:List α}{c:Cell}(h:dX enc k S w s l)(n j:Nat){x:α}{y:c.El}{K:c.El->Prop}(hi:i=n)(C:l[n]?=some x)(E:j<k)(u:(enc x)[j]?=some (c.mk y))(G:K y):idx s i k fun a=>ld c ⟨a.block,a.off+j,none⟩ w K:=by subst hi;obtain⟨Q,b,o,I,_,R,T,U,J,O⟩:=h.at n C;refine qY I ⟨oJ,oJ⟩ ?_;rw[zJ];refine jM J y ?_ G;rw[<- O,xB,if_pos E,xA] at u;rw[<- xL];exact u
def p4 (x:gB×Int):List Value:=[.int .u64 x.1.1,.int .u64 x.1.2,.b x.2]
def pi (m:Mv):List Value:=[.int .u64 m.1.1,.int .u64 m.1.2,.int .u64 m.2.1,.int .u64 m.2.2.1,.int .u64 m.2.2.2]
def ng (x:Ln):List Value:=[.int .u64 x.1.1,.int .u64 x.1.2]++HL.mk nd x.2
def om (x:gB×Int):List Value:=[.int .u64 x.1.1,.int .u64 x.1.2,.int .u64 x.2]
abbrev na:HL fx->List Value:=HL.mk fx
abbrev ol:=HL eX
structure RB (S:List Nat) (w:World) (r:ol) (b:Bk):Prop where
 acc:dX na 15 S w r.1 b.acc
 jA:dX pA 18 S w r.2.1 b.jA
 kA:dX p4 3 S w r.2.2.1 b.kA
 due:dX iO 4 S w r.2.2.2.1 b.due
 mr:dX pi 5 S w r.2.2.2.2.1 b.mr
 mC:dX pi 5 S w r.2.2.2.2.2.1 b.mC
 kH:dX ng 12 S w r.2.2.2.2.2.2.1 b.kH
 told:r.2.2.2.2.2.2.2.2.1=b.last.isSome/\r.2.2.2.2.2.2.2.1=b.last.getD 0
 gone:∃ g:List (gB×Int),g.length<=b.gn/\dX om 3 S w r.2.2.2.2.2.2.2.2.2 g
section
variable {S S':List Nat} {w w':World} {r:ol} {b:Bk}
def RB.q8(h:RB S w r b)(f:Fr S w w')(u:∀x∈S',x∈S\/w.heap.size<=x):RB S' w' r b:=⟨h.acc.q8 f u,h.jA.q8 f u,h.kA.q8 f u,h.due.q8 f u,h.mr.q8 f u,h.mC.q8 f u,h.kH.q8 f u,h.told,h.gone.elim fun g q=>⟨g,q.1,q.2.q8 f u⟩⟩
def RB.q7(h:RB S w r b)(f:Fr [] w w'):RB S w' r b:=h.q8 (f.mono fun _ h _=>nomatch h) fun _ h=>.inl h
def Ai{α:Type}{p:α->Bool}{l:List α}{i:Nat}{x:α}(G:l[i]?=some x)(C:(l.take i).find? p=none):(p x=true->l.find? p=some x)/\(p x=false->(l.take (i+1)).find? p=none):=by obtain⟨E,u⟩:=zP.1 G;constructor;intro h;rw[show l.find? p=(l.take i++l.drop i).find? p by rw[xE],List.find?_append,C,zY E,u,List.find?_cons,h];rfl;intro h;rw[yG E,u,List.find?_append,C,List.find?_cons,h];rfl
def qrT{α:Type}{enc:α->List Value}{j r1 r3:Nat}{key:α->gB}{i:gB}{cs:Array Value}{T1 T3:TypeId}{l:List α}{x y:Operand}{E:WP}{V:Int->WP}(I:∀x,(enc x).take 2=HL.mk u2 (key x))(hk:2<=k)(h1:w.heap[r1]?=some (.cells cs T1 (0,0)))(hj:cs[j]?=some s.v)(h3:w.heap[r3]?=some (.cells #[.int .u64 i.1,.int .u64 i.2] T3 (0,0)))(hR:dX enc k S w s l)(hl:l.length<=1000000)(k0:∀w',Fr [] w w'->(l.find? fun x=>decide (key x=i))=none->E w')(k1:∀(n:Nat) x w',l[n]?=some x->(l.find? fun x=>decide (key x=i))=some x->Fr [] w w'->V n w'): loop Int (fun X q C=>ld .slice (dd r1 j) C fun s=>cond (decide (q<(s.len:Int))) (ld .slice (dd r1 j) C.drew fun s=>idx s q k fun a=>dK u2 a C.drew fun t=>dK u2 (dd r3) C.drew fun J=>fw [iD.one Cell.bool] (fun w'=>(do eqGuard .eql pd x y (da t.1 t.2) (da J.1 J.2);binOp .eql pd (da t.1 t.2) (da J.1 J.2):Sem Value).run prog w') C.drew fun b=>cond b (V q C) (X (wrap .i64 (q+1)) C.drew)) (E C)) 0 w:=by
 have ad:=hR.1;refine jS (fun q w'=>∃n:Nat,q=n/\n<=l.length/\Fr [] w w'/\((l.take n).find? fun x=>decide (key x=i))=none) (fun q _=>l.length-q.toNat) ⟨0,rfl,yX _,.refl _ _,rfl⟩ ?_;rintro q w1 ⟨n,rfl,hn,f,O⟩ X hX;have G:∀ {b:Nat} {o:Obj} {w2:World},w.heap[b]?=some o->Fr [] w w2->w2.heap[b]?=some o:=fun h f=>by rw[f.block _ (fE h) fun h=>nomatch h];exact h
 refine jM (G h1 f) s hj (eH (fun Q=>?_) (fun Q=>?_));have u:n<l.length:=(by have:=zC Q;omega);have g:=f.drew;have R:=zA u;refine jM (G h1 g) s hj (dX.jP (cl:=u2) (hR.q7 g) n rfl R hk (I _) (xh (G h3 g) i rfl (zz ?_)));have st:=Ai (p:=fun x=>decide (key x=i)) R O;apply eH<;>intro U;exact k1 n _ w1 R (st.1 U) f;rw[fV _ oJ];exact hX _ _ ⟨n+1,rfl,u,g,st.2 U⟩ oJ;have u:n=l.length:=(by have:=zB Q;omega);subst u;rw[xZ] at O;exact k0 w1 f O
def qtP{i0 i1:Int}{K:HL fx×Bool->WP}(h:RB S w r b)(G:b.size<=100000)(E:∀w',Fr [] w w'->K ((eG b (i0,i1)).getD kE,(eG b (i0,i1)).isSome) w'): cW 64 [.agg (HL.mk eX r).toArray,da i0 i1] [.agg fx,.one .bool] w K:=by
 refine qee<|oB (oE [] w) fun r1 w1 _ R o=>oB o fun r3 w2 _ U o=>oB o fun V w3 _ f3 o=>qrT (i:=(i0,i1)) (s:=r.1) (key:=gX) (fun _=>rfl) oM (o.at (i:=2) rfl) rfl (o.at (i:=1) rfl) (h.q7 o.fr).acc (by unfold Bk.size at G;omega) (fun I u J=>?_) fun n x I O Q u=>?_;refine (o.q7 u).st' 0 rfl _ (iG rfl) rfl (zM _) fun C o _=>oC o 0 rfl kE rfl ?_
 have:=E C o.fr
 rwa[show eG b (i0,i1)=none from J] at this;have o:=(o.q7 u).drew;refine oA o 2 rfl r.1 rfl (dX.pL (h.q7 o.fr).acc n rfl O rfl rfl (o.st' 0 rfl _ (iG rfl) rfl (zM _) fun C o _=>oC o 0 rfl x rfl ?_))
 have:=E C o.fr
 rwa[show eG b (i0,i1)=some x from Q] at this
def qtS{i0 i1:Int}{K:List Value×Bool->WP}(h:RB S w r b)(G:b.size<=100000)(E:∀w',Fr [] w w'->K (pA ((gY b (i0,i1)).getD ui),(gY b (i0,i1)).isSome) w'): cW 13 [.agg (HL.mk eX r).toArray,da i0 i1] di w K:=by
 refine qdM ?_;have I:=wE;refine oB (oE [] w) fun r1 w1 _ U o=>oB o fun r3 w2 _ V o=>oI o I fun r5 w3 _ o=>qrT (i:=(i0,i1)) (s:=r.2.1) (key:=qz) (fun _=>rfl) oM (o.at (i:=2) rfl) rfl (o.at (i:=1) rfl) (h.q7 o.fr).jA (by unfold Bk.size at G;omega) (fun J u O=>?_) fun n x J Q R u=>?_;refine sA (ts:=[iD.nT]) (pA ui) oK (mc rfl ((o.q7 u).st' 0 rfl _ (iG rfl) rfl (zM _) fun C o _=>nI (o.at (i:=0) rfl) _ (po ui) rfl ?_))
 have:=E C o.fr
 rwa[show gY b (i0,i1)=none from O] at this;have o:=(o.q7 u).drew;refine oA o 2 rfl r.2.1 rfl (dX.iE (h.q7 o.fr).jA po n rfl Q (mc (po x) (o.st' 0 rfl _ (iG rfl) rfl (zM _) fun C o _=>nI (o.at (i:=0) rfl) _ (po x) rfl ?_)))
 have:=E C o.fr
 rwa[show gY b (i0,i1)=some x from R] at this
end
end
section
section
variable {α:Type} {enc:α->List Value} {k:Nat} {w:World} {s:Sl} {l:List α} {B S:List Nat}
def Fs{n:Nat}{x:α}{K:WP}(h:eY enc k w s l B)(C:∀x,(enc x).length=k)(I:∀x,∀u∈enc x,u.oneCell'=true)(hi:i=n)(Q:n<l.length)(kk:∀w',eY enc k w' s (l.set n x) B->Fr B w w'->K w'):idx s i k fun a=>Pt.st a (enc x) w K:=by
 subst hi;have hf:=qT C;rcases h with ⟨_,rfl,_⟩|⟨b,o,G,T,rfl,rfl,ha,hb,h5,h6,h7,h8⟩;cases Q;refine qY ha ⟨oJ,oJ⟩ ?_;rw[zJ,xS];rw[xF] at h8;have h9:l.length*k<=s.cap*k:=Nat.mul_le_mul_right k oJ;have ai:l.length*k<=G.size:=oJ;have E:l=l.take n++l[n]::l.drop (n+1):=(by rw[<- zY Q,xE]);have R:G=((l.take n).flatMap enc++enc l[n]++((l.drop (n+1)).flatMap enc++G.toList.drop (l.length*k))).toArray:=by
  apply Array.ext';have:l.flatMap enc=(l.take n).flatMap enc++enc l[n]++(l.drop (n+1)).flatMap enc:=by
   conv=>lhs;rw[E]
   rw[yQ,yH,zV]
  rw[<- zV,<- this,<- h8,xE]
 have hA:((l.take n).flatMap enc).length=n*k:=(by rw[hf,yL,xR oJ]);have J:dT G (n*k) (enc x)=((l.take n).flatMap enc++enc x++((l.drop (n+1)).flatMap enc++G.toList.drop (l.length*k))).toArray:=by
  have:=ue (A:=(l.take n).flatMap enc) (X:=enc l[n]) (Y:=enc x) (Z:=(l.drop (n+1)).flatMap enc++G.toList.drop (l.length*k)) (by rw[C,C])
  rw[hA,<- R] at this;exact this
 have U:(n+1)*k<=l.length*k:=Nat.mul_le_mul_right k Q;rw[Nat.succ_mul] at U;refine sL hb _ J (all_eq_true.2 (I x)) (by rw[C];omega) fun w' V f=>kk w' (.inr ⟨b,0,_,T,rfl,rfl,ha,V,by rw[xG];exact h5,h6,?_,?_⟩) f
 have:=congrArg Array.size J
 rw[nW] at this;rw[<- this];exact h7;rw[xF,xG];have e:(l.set n x).flatMap enc=(l.take n).flatMap enc++enc x++(l.drop (n+1)).flatMap enc:=by rw[set_eq_take_append_cons_drop,if_pos Q,yQ,yH,zV]
 have O:((l.set n x).flatMap enc).length=l.length*k:=(by rw[hf,xG]);show List.take (l.length*k) (_++_++(_++_))=_;rw[<- zV,<- e,<- O];exact take_left' rfl
def xa{t ty e:TypeId}{i:TypeInfo}{z:Value}{r:Nat}{T:TypeId}(J:w.heap[r]?=some (.cells #[] T (0,0)))(G:dX enc k S w s l)(C:∀x,(enc x).length=k)(E:∀x,∀u∈enc x,u.oneCell'=true)(U:prog.underlying t=some (.slice e))(hi:prog.info? e=some i)(V:i.zero=some z)(O:i.size=k)(Q:z.cells.size=k)(R:i.bytes<=1000)(hl:l.length<=1000000)(kk:∀I B w',eY enc k w' I l B->Fr [r] w w'->(∀b∈B,b=r\/w.heap.size<=b)->K I w'): Pt.run de ((Builtin.append_ #[t,t] ty #[.slice (pW r) 0 0,s.v]).run prog w) K:=by
 refine eY.j0 (s:=⟨pW r,0,0⟩) (l:=[]) (ys:=l) (B:=[r]) (eY.none J) C U hi V O Q (u9 (e':=e) G C E U) G.1 ?_ (by simp;have:=G.1;omega) fun I B' w' b' f' n' _=>kk I B' w' (oP b') f' fun b J=>(n' b J).imp (fun h=>zE.1 h) id
 have:=G.1
 rw[xK,xS,this];calc l.length*i.bytes<=1000000*1000:=Nat.mul_le_mul hl R
  _<=_:=by decide
end
def CT(x:HL fx):(na x).length=15:=rfl
def HZ(x:HL fx):∀u∈na x,u.oneCell'=true:=all_eq_true.1 rfl
def qAG:∃i,prog.info? 47=some i/\i.zero=some (.agg (HL.mk fx kE).toArray)/\i.size=15/\i.bytes=104:=tV oK
section
variable {S:List Nat} {w w':World} {r:ol} {b:Bk}
def wK{α:Type}{enc:α->List Value}{w w0:World}{l:List α}{S:List Nat}(h:eY enc k w s l B)(u:∀x,(enc x).length=k)(C:∀x∈S,x<w0.heap.size)(E:∀x∈B,w0.heap.size<=x):dX enc k S w s l:=h.kB u fun b G I=>by have:=C b I;have:=E b G;omega
def BK{α κ:Type}[DecidableEq κ]{kf:α->κ}{a x:α}{l:List α}{n:Nat}(C:l[n]?=some x)(u:(l.take n).find? (fun y=>decide (kf y=kf a))=none)(h:kf x=kf a):ik kf a l=l.set n a:=by obtain⟨E,rfl⟩:=zP.1 C;refine qsy E h fun j G e=>?_;rw[List.find?_eq_none] at u;refine u (l[j]' oJ) ?_ (oP e);exact mem_take_iff_getElem.2 ⟨j,oJ,rfl⟩
def BF{α κ:Type}[DecidableEq κ]{kf:α->κ}{a:α}{l:List α}(h:l.find? (fun y=>decide (kf y=kf a))=none):ik kf a l=l++[a]:=Ep fun x u e=>by rw[List.find?_eq_none] at h;exact h x u (oP e)
def BJ{K:ol->WP}(h:RB S w r b)(hl:b.size<=100000)(hS:∀x∈S,x<w.heap.size)(kk:∀r' w',RB S w' r' (b.dQ a)->Fr [] w w'->K r' w'): cW 23 [.agg (HL.mk eX r).toArray,.agg (HL.mk fx a).toArray] [.agg eX] w K:=by
 refine qc9 ?_;have aA:b.acc.length<=100000:=(by unfold Bk.size at hl;omega);obtain⟨i,hi,hz,U,V⟩:=qAG;refine oB (oE [] w) fun r1 w1 _ f1 o=>oB o fun r3 w2 _ f2 o=>oB o fun r5 J _ f3 o=>oB (oE [] J) fun r7 w4 e4 f4 o2=>?_;have o4:=o.q7 f4;refine oA o4 2 rfl r.1 rfl (xa (e:=47) (o2.at (i:=0) rfl) (h.q7 o4.fr).acc CT HZ oK hi hz U rfl (by rw[V];decide) oJ fun s5 B5 w5 b5 f5 n5=>?_);have E:∀x∈B5,J.heap.size<=x:=fun x u=>(n5 x u).elim (fun e=>oJ) fun h=>zL f4.size h;have O:Fr [] J w5:=f4.j6 f5 fun x u=>.inr (by rw[zE.1 u];omega);have aa:∀(s:Sl) (l:List (HL fx)) (B:List Nat) R,eY na 15 R s l B->(∀x∈B,J.heap.size<=x)->Fr [] J R->l=ik gX a b.acc->Pt.st (dd r1) [s.v] R fun w7=>dK eX (dd r1) w7 fun t=>Pt.st (dd r5) (HL.mk eX t) w7 fun w8=>dK eX (dd r5) w8 fun t=>K t w8:=fun s l B R hb hB G e=>by
  refine (o.q7 G).st' 2 rfl (HL.mk eX (s,r.2)).toArray rfl rfl (zO rfl) fun w7 o7 f7=>oC o7 2 rfl (s,r.2) rfl (o7.st' 0 rfl _ (iG rfl) rfl (zM _) fun w8 o8 f8=>oC o8 0 rfl (s,r.2) rfl ?_);have I:=h.q7 o8.fr;have l1:r1<J.heap.size:=fE (o.at (i:=2) rfl);have l5:r5<J.heap.size:=fE (o.at (i:=0) rfl);have ak:=(hb.q8 f7 fun x u h=>by have:=hB x u;have:=zE.1 h;omega).q8 f8 fun x u h=>by have:=hB x u;have:=zE.1 h;omega
  have al:dX na 15 S w8 s (ik gX a b.acc):=(by rw[<- e];exact wK ak CT hS fun x u=>zL o.fr.size (hB x u));exact kk (s,r.2) w8 ⟨al,I.jA,I.kA,I.due,I.mr,I.mC,I.kH,I.told,I.gone⟩ o8.fr
 have aH:s5.len=b.acc.length:=b5.len;refine jS (fun q w'=>∃n:Nat,q=n/\n<=b.acc.length/\Fr [] w5 w'/\((b.acc.take n).find? fun x=>decide (gX x=gX a))=none) (fun q _=>b.acc.length-q.toNat) ⟨0,rfl,yX _,.refl _ _,rfl⟩ ?_;rintro q R ⟨n,rfl,hn,G,hf⟩ X hX;apply cD<;>intro hc;have C:n<b.acc.length:=oJ;have u:=zA C;have b6:=(b5.q7 G).q7 (Fr.refl [] R).drew;have o6:=o.q7 ((O.trans G).drew);refine dX.jP (cl:=u2) (S:=[]) (b6.kB CT fun _ _ h=>nomatch h) n rfl u oM rfl (oC o6 1 rfl (gX a) rfl (zz (a:=gX b.acc[n]) ?_));have st:=Ai (p:=fun x=>decide (gX x=gX a)) u hf;apply eH<;>intro hb;refine oC o6 1 rfl a rfl (Fs b6 CT HZ rfl C fun w7 b7 f7=>aa _ _ _ _ b7 E ((O.trans G).drew.j6 f7 fun x u=>.inr (E x u)) (BK u hf (zC hb)).symm);rw[fV _ oJ];exact hX _ _ ⟨n+1,rfl,C,G.drew,st.2 hb⟩ oJ;have C:n=b.acc.length:=oJ;subst C;rw[xZ] at hf;have Q:=O.trans G;refine oC (o.q7 Q) 1 rfl a rfl (eY.push (e:=47) (x:=a) (b5.q7 G) CT (HZ a) oK hi hz U rfl rfl (by rw[V];omega) oJ fun s7 B7 w7 b7 f7 n7=>aa _ _ _ _ b7 (fun x u=>(n7 x u).elim (E x) (zL Q.size)) (Q.j6 f7 fun x u=>.inr (E x u)) (BF hf).symm)
end
end
section
abbrev HD:TypeId:=146
abbrev mvs:List Cell:=[.int .u64,.int .u64,.int .u64,.int .u64,.int .u64]
def Cd(x:Mv):(pi x).length=5:=rfl
def Ft(x:Mv):∀u∈pi x,u.oneCell'=true:=all_eq_true.1 rfl
def qAL:∃i,prog.info? HD=some i/\i.zero=some (.agg #[.int .u64 0,.int .u64 0,.int .u64 0,.int .u64 0,.int .u64 0])/\i.size=5/\i.bytes=40:=tV oK
section
variable {S:List Nat} {w w':World} {s:Sl} {l:List Mv}
def qrx{m:Mv}(h:dX pi 5 S w s l)(hl:l.length<=100000)(hS:∀x∈S,x<w.heap.size)(kk:∀s' w',dX pi 5 S w' s' (ik pz m l)->Fr [] w w'->K s' w'): cW 68 [s.v,.agg #[.int .u64 m.1.1,.int .u64 m.1.2,.int .u64 m.2.1,.int .u64 m.2.2.1,.int .u64 m.2.2.2]] de w K:=by
 refine qhO ?_;obtain⟨i,hi,hz,R,U⟩:=qAL;refine oB (oE [] w) fun r1 V _ f3 o=>oB (oE [] V) fun r7 w4 e4 f4 o2=>?_;have o4:=o.q7 f4;refine xa (e:=HD) (o2.at (i:=0) rfl) (h.q7 o4.fr) Cd Ft oK hi hz R rfl (by rw[U];decide) oJ fun s5 B5 w5 b5 f5 n5=>?_;have G:∀x∈B5,V.heap.size<=x:=fun x u=>(n5 x u).elim (fun e=>oJ) fun h=>zL f4.size h;have O:Fr [] V w5:=f4.j6 f5 fun x u=>.inr (by rw[zE.1 u];omega);have aa:∀(s:Sl) (l':List Mv) (B:List Nat) I,eY pi 5 I s l' B->(∀x∈B,V.heap.size<=x)->Fr [] V I->l'=ik pz m l->K s I:=fun s l' B I C hB J e=>by refine kk s I ?_ (f3.trans J);rw[<- e];exact wK C Cd hS fun x u=>zL f3.size (hB x u)
 have aC:s5.len=l.length:=b5.len;refine jS (fun q w'=>∃n:Nat,q=n/\n<=l.length/\Fr [] w5 w'/\((l.take n).find? fun x=>decide (pz x=pz m))=none) (fun q _=>l.length-q.toNat) ⟨0,rfl,yX _,.refl _ _,rfl⟩ ?_;rintro q I ⟨n,rfl,hn,J,hf⟩ X hX;apply cD<;>intro hc;have E:n<l.length:=oJ;have u:=zA E;have b6:=(b5.q7 J).q7 (Fr.refl [] I).drew;have o6:=o.q7 ((O.trans J).drew);have r6:dX pi 5 [] I.drew s5 l:=b6.kB Cd fun _ _ h=>nomatch h;refine te (decide (pz l[n]=pz m)) I.drew (fun M hM=>?_) ?_;refine dX.jP (cl:=u2) r6 n rfl u oM rfl (oC o6 0 rfl m.1 rfl (zz (a:=l[n].1) ?_));apply eH<;>intro C;have C:=zC C;refine dX.Ck (c:=.int .u64) r6 n 2 rfl u oM (y:=l[n].2.1) rfl (oA o6 0 rfl m.2.1 rfl ?_);rw[show (l[n].2.1==m.2.1)=decide (pz l[n]=pz m) by unfold pz;rw[C];by_cases e:l[n].2.1=m.2.1;simp[e];simp[e]];exact hM;have C:=zB C;rw[show decide (pz l[n]=pz m)=false from zU fun e=>C (vB e).1] at hM;exact hM;have st:=Ai (p:=fun x=>decide (pz x=pz m)) u hf;apply eH<;>intro C;refine oC o6 0 rfl (m.1.1,m.1.2,m.2.1,m.2.2.1,m.2.2.2) rfl (Fs b6 Cd Ft (x:=m) rfl E fun w7 b7 f7=>aa _ _ _ _ b7 G ((O.trans J).drew.j6 f7 fun x u=>.inr (G x u)) (BK u hf (zC C)).symm);rw[fV _ oJ];exact hX _ _ ⟨n+1,rfl,E,J.drew,st.2 C⟩ oJ;have E:n=l.length:=oJ;subst E;rw[xZ] at hf;have Q:=O.trans J;refine oC (o.q7 Q) 0 rfl (m.1.1,m.1.2,m.2.1,m.2.2.1,m.2.2.2) rfl (eY.push (e:=HD) (x:=m) (b5.q7 J) Cd (Ft m) oK hi hz R rfl rfl (by rw[U];omega) oJ fun s7 B7 w7 b7 f7 n7=>aa _ _ _ _ b7 (fun x u=>(n7 x u).elim (G x) (zL Q.size)) (Q.j6 f7 fun x u=>.inr (G x u)) (BF hf).symm)
end
end
section
section
variable {α:Type} {enc:α->List Value} {k:Nat} {w:World} {s:Sl} {l:List α} {B S:List Nat}
def qt2{n j:Nat}{x:α}{vs:List Value}{K:WP}(h:eY enc k w s l B)(E:∀x,(enc x).length=k)(hi:i=n)(U:n<l.length)(I:vs.all Value.oneCell'=true)(hj:j+vs.length<=k)(hx:enc x=(enc l[n]).take j++vs++(enc l[n]).drop (j+vs.length))(kk:∀w',eY enc k w' s (l.set n x) B->Fr B w w'->K w'):idx s i k fun a=>Pt.st ⟨a.block,a.off+j,none⟩ vs w K:=by
 subst hi;have hf:=qT E;rcases h with ⟨_,rfl,_⟩|⟨b,o,u,T,rfl,rfl,ha,hb,h5,h6,h7,V⟩;cases U;refine qY ha ⟨oJ,oJ⟩ ?_;rw[zJ,xS];rw[xF] at V;have h9:l.length*k<=s.cap*k:=Nat.mul_le_mul_right k oJ;have an:l.length*k<=u.size:=oJ;have C:l=l.take n++l[n]::l.drop (n+1):=(by rw[<- zY U,xE]);have J:=E l[n];have he:enc l[n]=(enc l[n]).take j++((enc l[n]).drop j).take vs.length++(enc l[n]).drop (j+vs.length):=(by rw[zV,<- xD,xE,xE]);have O:u=(((l.take n).flatMap enc++(enc l[n]).take j)++((enc l[n]).drop j).take vs.length++((enc l[n]).drop (j+vs.length)++((l.drop (n+1)).flatMap enc++u.toList.drop (l.length*k)))).toArray:=by
  apply Array.ext';have:l.flatMap enc=(l.take n).flatMap enc++enc l[n]++(l.drop (n+1)).flatMap enc:=by
   conv=>lhs;rw[C]
   rw[yQ,yH,zV]
  have h0:u.toList=(l.take n).flatMap enc++enc l[n]++(l.drop (n+1)).flatMap enc++u.toList.drop (l.length*k):=(by rw[<- this,<- V,xE]);rw[h0];conv=>lhs;rw[he]
  rw[<- h0];simp only[zV]
 have hA:((l.take n).flatMap enc++(enc l[n]).take j).length=n*k+j:=(by rw[zF,hf,yL,yL,xR oJ,J];omega);have G:dT u (n*k+j) vs=((l.take n).flatMap enc++enc x++((l.drop (n+1)).flatMap enc++u.toList.drop (l.length*k))).toArray:=by
  have:=ue (A:=(l.take n).flatMap enc++(enc l[n]).take j) (X:=((enc l[n]).drop j).take vs.length) (Y:=vs) (Z:=(enc l[n]).drop (j+vs.length)++((l.drop (n+1)).flatMap enc++u.toList.drop (l.length*k))) (by rw[yL,yC,J];omega)
  rw[hA,<- O] at this;rw[this,hx];simp only[zV]
 have aa:(n+1)*k<=l.length*k:=Nat.mul_le_mul_right k U;rw[Nat.succ_mul] at aa;have Q:n*k+j+vs.length<=u.size:=(by clear O G hx he hA V;omega);refine sL hb _ G I Q fun w' ab f=>kk w' (.inr ⟨b,0,_,T,rfl,rfl,ha,ab,by rw[xG];exact h5,h6,?_,?_⟩) f
 have:=congrArg Array.size G
 rw[nW] at this;rw[<- this];exact h7;rw[xF,xG];have e:(l.set n x).flatMap enc=(l.take n).flatMap enc++enc x++(l.drop (n+1)).flatMap enc:=by rw[set_eq_take_append_cons_drop,if_pos U,yQ,yH,zV]
 have R:((l.set n x).flatMap enc).length=l.length*k:=(by rw[hf,xG]);show List.take (l.length*k) (_++_++(_++_))=_;rw[<- zV,<- e,<- R];exact take_left' rfl
end
abbrev yg:TypeId:=148
def BQ(x:gB×Int):(p4 x).length=3:=rfl
def qp1(x:gB×Int):∀u∈p4 x,u.oneCell'=true:=all_eq_true.1 rfl
def qAN:∃i,prog.info? yg=some i/\i.zero=some (.agg #[.int .u64 0,.int .u64 0,.b 0])/\i.size=3/\i.bytes=24:=tV oK
def qnF{r:ol}{i0 i1:Int}{K:ol->WP}(h:RB S w r b)(hl:b.size<=100000)(hS:∀x∈S,x<w.heap.size)(kk:∀r' w',RB S w' r' (b.fN ((i0,i1),x))->Fr [] w w'->K r' w'): cW 27 [.agg (HL.mk eX r).toArray,da i0 i1,.b x] [.agg eX] w K:=by
 refine qdF ?_;have aA:b.kA.length<=100000:=(by unfold Bk.size at hl;omega);obtain⟨i,hi,hz,U,V⟩:=qAN;refine oB (oE [] w) fun r1 w1 _ f1 o=>oB o fun r3 w2 _ f2 o=>oB o fun r5 J _ f3 o=>oB (oE [] J) fun r7 w4 e4 f4 o2=>?_;have o4:=o.q7 f4;refine oA o4 2 rfl r.2.2.1 rfl (xa (e:=yg) (o2.at (i:=0) rfl) (h.q7 o4.fr).kA BQ qp1 oK hi hz U rfl (by rw[V];decide) oJ fun s5 B5 w5 b5 f5 n5=>?_);have E:∀x∈B5,J.heap.size<=x:=fun x u=>(n5 x u).elim (fun e=>oJ) fun h=>zL f4.size h;have O:Fr [] J w5:=f4.j6 f5 fun x u=>.inr (by rw[zE.1 u];omega);have aa:∀(s:Sl) (l:List (gB×Int)) (B:List Nat) R,eY p4 3 R s l B->(∀x∈B,J.heap.size<=x)->Fr [] J R->l=ik (fun y:gB×Int=>y.1) ((i0,i1),x) b.kA->Pt.st (dd r1 2) [s.v] R fun w7=>dK eX (dd r1) w7 fun t=>Pt.st (dd r5) (HL.mk eX t) w7 fun w8=>dK eX (dd r5) w8 fun t=>K t w8:=fun s l B R hb hB G e=>by
  refine (o.q7 G).st' 2 rfl (HL.mk eX (r.1,r.2.1,s,r.2.2.2)).toArray rfl rfl (zO rfl) fun w7 o7 f7=>oC o7 2 rfl (r.1,r.2.1,s,r.2.2.2) rfl (o7.st' 0 rfl _ (iG rfl) rfl (zM _) fun w8 o8 f8=>oC o8 0 rfl (r.1,r.2.1,s,r.2.2.2) rfl ?_);have I:=h.q7 o8.fr;have l1:r1<J.heap.size:=fE (o.at (i:=2) rfl);have l5:r5<J.heap.size:=fE (o.at (i:=0) rfl);have al:=(hb.q8 f7 fun x u h=>by have:=hB x u;have:=zE.1 h;omega).q8 f8 fun x u h=>by have:=hB x u;have:=zE.1 h;omega
  have am:dX p4 3 S w8 s (ik (fun y:gB×Int=>y.1) ((i0,i1),x) b.kA):=(by rw[<- e];exact wK al BQ hS fun x u=>zL o.fr.size (hB x u));exact kk (r.1,r.2.1,s,r.2.2.2) w8 ⟨I.acc,I.jA,am,I.due,I.mr,I.mC,I.kH,I.told,I.gone⟩ o8.fr
 have aH:s5.len=b.kA.length:=b5.len;refine jS (fun q w'=>∃n:Nat,q=n/\n<=b.kA.length/\Fr [] w5 w'/\((b.kA.take n).find? fun y:gB×Int=>decide (y.1=(((i0,i1),x):gB×Int).1))=none) (fun q _=>b.kA.length-q.toNat) ⟨0,rfl,yX _,.refl _ _,rfl⟩ ?_;rintro q R ⟨n,rfl,hn,G,hf⟩ X hX;apply cD<;>intro hc;have C:n<b.kA.length:=oJ;have u:=zA C;have b6:=(b5.q7 G).q7 (Fr.refl [] R).drew;have o6:=o.q7 ((O.trans G).drew);refine dX.jP (cl:=u2) (S:=[]) (b6.kB BQ fun _ _ h=>nomatch h) n rfl u oM rfl (oC o6 1 rfl (i0,i1) rfl (zz (a:=b.kA[n].1) ?_));have st:=Ai (p:=fun y:gB×Int=>decide (y.1=(((i0,i1),x):gB×Int).1)) u hf;apply eH<;>intro hb;have ae:b.kA[n].1=(i0,i1):=zC hb;refine qt2 (j:=2) (x:=((i0,i1),x)) (vs:=[.b x]) b6 BQ rfl C rfl (zM _) (by rw[show p4 b.kA[n]=p4 (b.kA[n].1,b.kA[n].2) from rfl,ae];rfl) fun w7 b7 f7=>aa _ _ _ _ b7 E ((O.trans G).drew.j6 f7 fun x u=>.inr (E x u)) (BK (kf:=fun y:gB×Int=>y.1) u hf ae).symm;rw[fV _ oJ];exact hX _ _ ⟨n+1,rfl,C,G.drew,st.2 hb⟩ oJ;have C:n=b.kA.length:=oJ;subst C;rw[xZ] at hf;have Q:=O.trans G;refine oC (o.q7 Q) 1 rfl (i0,i1) rfl (eY.push (e:=yg) (x:=(((i0,i1),x):gB×Int)) (b5.q7 G) BQ (qp1 _) oK hi hz U rfl rfl (by rw[V];omega) oJ fun s7 B7 w7 b7 f7 n7=>aa _ _ _ _ b7 (fun x u=>(n7 x u).elim (E x) (zL Q.size)) (Q.j6 f7 fun x u=>.inr (E x u)) (BF (kf:=fun y:gB×Int=>y.1) hf).symm)
end
def dX.BN{α:Type}{enc:α->List Value}{l:List α}{c:Cell}(h:dX enc k S w s l)(n:Nat){x:α}{y:c.El}{K:c.El->Prop}(hi:i=n)(C:l[n]?=some x)(E:0<k)(u:(enc x)[0]?=some (c.mk y))(G:K y):idx s i k fun a=>ld c a w K:=by subst hi;obtain⟨Q,b,o,I,_,R,T,U,J,O⟩:=h.at n C;refine qY I ⟨oJ,oJ⟩ ?_;rw[zJ];refine jM J y ?_ G;rw[<- O,xB,if_pos E,xA,Nat.add_zero] at u;rw[<- xL];exact u
def qyq{n:Nat}(u:n<l.length):ib d (l.take (n+1))=ib d (l.take n)++if lF l[n]≠lF d then [l[n]] else []:=by unfold ib;rw[yG u,xC];congr 1;by_cases h:lF l[n]=lF d;simp[h];simp[h]
def qnD{r:ol}{K:ol×Bool->WP}(h:RB S w r b)(hl:b.size<=100000)(hS:∀x∈S,x<w.heap.size)(kk:∀r' w' t,RB S w' r' (b.jz d)->Fr [] w w'->K (r',t) w'): cW 45 [.agg (HL.mk eX r).toArray,.agg #[.int .u64 d.1,.int .u64 d.2.1,.int .u64 d.2.2.1,.int .u64 d.2.2.2]] [.agg eX,.one .bool] w K:=by
 refine qez ?_;have aq:b.due.length<=100000:=(by unfold Bk.size at hl;omega);refine oB (oE [] w) fun r1 w1 _ f1 o=>oB o fun r3 w2 _ f2 o=>oB o fun r5 G _ f3 o=>oB (oE [] G) fun r7 w4 e4 f4 o2=>?_;have l1:r1<G.heap.size:=fE (o.at (i:=2) rfl);have l5:r5<G.heap.size:=fE (o.at (i:=0) rfl);have ab:=(h.q7 o.fr).due;refine jS (fun t w'=>∃n:Nat,∃B,t.2=n/\n<=b.due.length/\eY iO 4 w' t.1 (ib d (b.due.take n)) B/\Fr [] G w'/\∀x∈B,G.heap.size<=x) (fun t _=>b.due.length-t.2.toNat) ⟨0,[r7],rfl,yX _,eY.none (o2.at (i:=0) rfl),f4,fun x u=>by rw[zE.1 u];omega⟩ ?_;rintro⟨s,q⟩ w5 ⟨n,B,hq,hn,V,Q,O⟩ X hX;dsimp only at hq V⊢;subst hq;have o5:=o.q7 Q;have R:dX iO 4 S w5 r.2.2.2.1 b.due:=ab.q7 Q;have ay:r.2.2.2.1.len=b.due.length:=R.1;refine oA o5 2 rfl r.2.2.2.1 rfl (eH (fun hc=>?_) (fun hc=>?_));have C:n<b.due.length:=(by have:=zC hc;omega);have u:=zA C;have ct:=qyq (d:=d) C;generalize b.due[n]=x at u ct;have U:=o5.drew;have I:=R.drew;have az:(ib d (b.due.take n)).length<=100000:=zL (length_filter_le _ _) (by rw[yL];omega);refine iR (fun s' w'=>∃B',eY iO 4 w' s' (ib d (b.due.take (n+1))) B'/\Fr [] G w'/\∀x∈B',G.heap.size<=x) ?_ fun s' w' ⟨B',b',f',n'⟩=>hX _ _ ⟨n+1,B',by dsimp only;rw[fV _ oJ];rfl,C,b',f',n'⟩ (by dsimp only;rw[fV _ oJ];omega);refine te (decide (lF x≠lF d)) w5.drew (fun M hM=>?_) ?_;refine oA U 2 rfl r.2.2.2.1 rfl (dX.BN (c:=.int .u64) I n rfl u oM (y:=x.1) rfl (oA U 1 rfl d.1 rfl ?_));by_cases e:x.1=d.1;refine cond_false (by rw[e];simp) (oA U 2 rfl r.2.2.2.1 rfl (dX.Ck (c:=.int .u64) I n 1 rfl u oM (y:=x.2.1) rfl (oA U 1 rfl d.2.1 rfl ?_)));rw[show (!x.2.1==d.2.1)=decide (lF x≠lF d) by unfold lF;rw[e];by_cases e2:x.2.1=d.2.1;simp[e2];simp[e2]];exact hM;rw[show decide (lF x≠lF d)=true from yA fun h=>e (vB h).1] at hM;exact cond_true (oP e) hM;rw[ct];have b6:=V.q7 (Fr.refl [] w5).drew;apply cD<;>intro J;rw[if_pos (J)];refine oA U 2 rfl r.2.2.2.1 rfl (dX.pL (y:=x) I n rfl u rfl rfl (A2 b6 oJ fun s7 B7 w7 b7 f7 n7=>⟨B7,b7,Q.drew.j6 f7 fun x u=>.inr (O x u),fun x u=>(n7 x u).elim (O x) (zL Q.drew.size)⟩));rw[if_neg (J),xH];exact⟨B,b6,Q.drew,O⟩;have C:n=b.due.length:=(by have:=zB hc;omega);subst C;rw[xZ] at V;refine oA o5 2 rfl r.2.2.2.1 rfl (o5.st' 2 rfl (HL.mk eX (r.1,r.2.1,r.2.2.1,s,r.2.2.2.2)).toArray rfl rfl (zO rfl) fun w7 o7 f7=>oC o7 2 rfl (r.1,r.2.1,r.2.2.1,s,r.2.2.2.2) rfl (o7.st' 0 rfl _ (iG rfl) rfl (zM _) fun w8 o8 f8=>oC o8 0 rfl (r.1,r.2.1,r.2.2.1,s,r.2.2.2.2) rfl ?_));have E:=h.q7 o8.fr;have ah:=(V.q8 f7 fun x u h=>by have:=O x u;have:=zE.1 h;omega).q8 f8 fun x u h=>by have:=O x u;have:=zE.1 h;omega
 exact kk (r.1,r.2.1,r.2.2.1,s,r.2.2.2.2) w8 _ ⟨E.acc,E.jA,E.kA,wK ah CX hS fun x u=>zL o.fr.size (O x u),E.mr,E.mC,E.kH,E.told,E.gone⟩ o8.fr
def qzA{r:ol}{j8:Int}(h:RB S w r b)(hl:b.size<=100000)(U:∀s B w',eY iO 4 w' s (iy b.due j8 most) B->Fr [] w w'->(∀x∈B,w.heap.size<=x)->K s w'): cW 43 [.agg (HL.mk eX r).toArray,.int .u64 j8,.i most] de w K:=by
 refine qfO ?_;have aj:b.due.length<=100000:=(by unfold Bk.size at hl;omega);refine oB (oE [] w) fun r1 Q _ V o=>oB (oE [] Q) fun r7 w4 e4 f4 o2=>?_;have aa:=(h.q7 V).due;unfold iy at U;generalize hp:(fun d:HL ig=>decide (d.1<=j8))=p at U;refine jS (fun t w'=>∃n:Nat,∃B,t.2=n/\n<=b.due.length/\eY iO 4 w' t.1 ((b.due.take n).filter p) B/\((b.due.take n).filter p).length<=most.toNat/\Fr [] Q w'/\∀x∈B,Q.heap.size<=x) (fun t _=>b.due.length-t.2.toNat) ⟨0,[r7],rfl,yX _,eY.none (o2.at (i:=0) rfl),yX _,f4,fun x C=>by rw[zE.1 C];omega⟩ ?_;rintro⟨s,q⟩ w5 ⟨n,B,hq,hn,J,hm,O,R⟩ X hX;dsimp only at hq J⊢;subst hq;have o5:=o.q7 O;have G:dX iO 4 S w5 r.2.2.2.1 b.due:=aa.q7 O;have ap:r.2.2.2.1.len=b.due.length:=G.1;have hs:=J.len;refine te (decide (n<b.due.length/\(s.len:Int)<most)) w5 (fun M hM=>?_) ?_;refine oA o5 0 rfl r.2.2.2.1 rfl (eH (fun u=>?_) (fun u=>?_));have u:=zC u;rw[show decide ((s.len:Int)<most)=decide (n<b.due.length/\(s.len:Int)<most) from decide_eq_decide.2 ⟨fun h=>⟨oJ,h⟩,fun h=>h.2⟩];exact hM;have u:=zB u;rw[show decide (n<b.due.length/\(s.len:Int)<most)=false from zU fun h=>u oJ] at hM;exact hM;apply eH<;>intro u;obtain⟨E,aq⟩:=zC u;have C:=zA E;have ct:(b.due.take (n+1)).filter p=(b.due.take n).filter p++if p b.due[n] then [b.due[n]] else []:=by rw[yG E,xC];congr 1;by_cases h:p b.due[n];simp[h];simp[h]
 generalize b.due[n]=x at C ct;have ar:((b.due.take n).filter p).length<=100000:=zL (length_filter_le _ _) (by rw[yL];omega);refine iR (fun s' w'=>∃B',eY iO 4 w' s' ((b.due.take (n+1)).filter p) B'/\((b.due.take (n+1)).filter p).length<=most.toNat/\Fr [] Q w'/\∀x∈B',Q.heap.size<=x) ?_ fun s' w' ⟨B',b',m',f',n'⟩=>hX _ _ ⟨n+1,B',by dsimp only;rw[fV _ oJ];rfl,E,b',m',f',n'⟩ (by dsimp only;rw[fV _ oJ];omega);refine oA o5 0 rfl r.2.2.2.1 rfl (dX.BN (c:=.int .u64) G n rfl C oM (y:=x.1) rfl ?_);rw[ct,show (decide (x.1<=j8))=p x by rw[<- hp]];apply eH<;>intro I;rw[if_pos I];refine oA o5 0 rfl r.2.2.2.1 rfl (dX.pL (y:=x) G n rfl C rfl rfl (A2 J oJ fun s7 B7 w7 b7 f7 n7=>⟨B7,b7,by rw[zF,xM];omega,O.j6 f7 fun x C=>.inr (R x C),fun x C=>(n7 x C).elim (R x) (zL O.size)⟩));rw[if_neg (by rw[I];decide),xH];exact⟨B,J,hm,O,R⟩
 ·have u:=zB u;have e:(b.due.filter p).take most.toNat=(b.due.take n).filter p:=by
   conv=>lhs;rw[<- xE n b.due,xC]
   by_cases E:n<b.due.length;have:((b.due.take n).filter p).length=most.toNat:=by have:¬(s.len:Int)<most:=fun h=>u ⟨E,h⟩;omega
   exact take_left' this;rw[drop_of_length_le oJ,filter_nil,xH];exact zS hm
  rw[<- e] at J;exact U s B w5 J (V.trans O) fun x C=>zL V.size (R x C)
section
section
variable {w:World}
def A9{k:Int}{K:Bool->WP}(h:0<=x/\x<65536)(E:0<k)(u:K (hasB x k) w):cW 54 [.int .u16 x,.int .u16 k] dg w K:=by refine qiP ?_;have C:0<=x / k:=Int.ediv_nonneg h.1 oJ;have G:x / k<=x:=Int.ediv_le_self _ h.1;refine mc oJ ?_;rw[Int.tdiv_eq_ediv_of_nonneg h.1,uq _ oJ,Int.tmod_eq_emod_of_nonneg C];rw[show (x / k%2==1)=hasB x k by unfold hasB;by_cases e:x / k%2=1;simp[e];simp[e]];exact u
def u7 (x k:Int):Int:=if hasB x k then x else x+k
def qzi(u:0<=x/\x<65536):(hasB x 16=true->16<=x)/\(hasB x 16=false->x<65520):=by unfold hasB;exact⟨fun h=>by have:=zC h;omega,fun h=>by have:=zB h;omega⟩
def qnG{is:Bool}{K:Int->WP}(E:0<=x/\x<65536)(u:K (if is then u7 x 16 else mz x 16) w):cW 67 [.int .u16 x,.bool is] dw w K:=by refine qgw<|A9 E oM ?_;have h:=qzi E;unfold u7 mz at u;generalize hasB x 16=c at u h;refine te (is&&!c) w (fun M C=>?_) ?_;cases is;exact cond_false rfl C;exact cond_true rfl C;cases is;refine cond_false rfl (te c w (fun M C=>cond_true rfl C) ?_);cases c;exact cond_false rfl u;refine cond_true rfl ?_;rw[uq _ (by have:=h.1 rfl;omega)];exact u;cases c;refine cond_true rfl ?_;rw[uq _ (by have:=h.2 rfl;omega)];exact u;exact cond_false rfl (te false w (fun M C=>cond_false rfl C) (cond_false rfl u))
def qwh{a b:HL ig}{K:Bool->WP}(u:∀w',Fr [] w w'->K (mE a b) w'):cW 71 [.agg #[.int .u64 a.1,.int .u64 a.2.1,.int .u64 a.2.2.1,.int .u64 a.2.2.2],.agg #[.int .u64 b.1,.int .u64 b.2.1,.int .u64 b.2.2.1,.int .u64 b.2.2.2]] dg w K:=by refine qhu<|oB (oE [] w) fun r1 w1 _ C o=>oB o fun r3 w2 _ E o=>oA o 1 rfl a.1 rfl (oA o 0 rfl b.1 rfl ?_);have u:=u w2 o.fr;unfold mE at u;apply eH<;>intro h;rw[yA (.inl (zC h))] at u;exact u;have h:=zB h;refine oA o 1 rfl a.1 rfl (oA o 0 rfl b.1 rfl (eH (fun e=>?_) (fun e=>?_)));have e:a.1=b.1:=eq_of_beq e;refine oA o 1 rfl a.2.1 rfl (oA o 0 rfl b.2.1 rfl ?_);rw[show decide (a.1<b.1\/a.1=b.1/\a.2.1<b.2.1)=decide (a.2.1<b.2.1) from decide_eq_decide.2 ⟨fun q=>q.elim (fun q=>absurd q h) fun q=>q.2,fun q=>.inr ⟨e,q⟩⟩] at u;exact u;have e:a.1≠b.1:=ne_of_beq_false e;rw[zU fun q=>q.elim h fun q=>e q.1] at u;exact u
def qtQ{s:Int}{K:HL nd->WP}(h:∀w',Fr [] w w'->K (rowOf a s n) w'):cW 56 [.agg (HL.mk fx a).toArray,.b s,.int .u64 n] [.agg nd] w K:=by refine qiQ<|oB (oE [] w) fun r1 w1 _ C o=>oB o fun r3 w2 _ E o=>oC o 1 rfl (_,_) rfl (oC o 1 rfl (_,_) rfl (oC o 1 rfl (_,_) rfl (oC o 1 rfl (_,_) rfl ?_)));exact o.st' 0 rfl _ (iG rfl) rfl (zM _) fun u o _=>oC o 0 rfl (rowOf a s n) rfl (h u o.fr)
end
end
def rT (d:HL ig):Bool->List (HL ig)->List (HL ig)
 | c,[]=>if c then [] else [d]
 | c,x::r=>(if c=false/\mE d x=true then [d] else [])++x::rT d (c||mE d x) r
def qp9{d:HL ig}:∀l,rT d true l=l
 | []=>rfl
 | x::r=>by rw[rT,if_neg (fun h=>nomatch h.1),Bool.true_or,qp9 r];rfl
def qug{d:HL ig}:∀l,rT d false l=jZ d l
 | []=>rfl
 | x::r=>by rw[rT,jZ,Bool.false_or];by_cases h:mE d x=true;rw[if_pos ⟨rfl,h⟩,if_pos h,h,qp9];rfl;rw[if_neg fun q=>h q.2,if_neg h,Bool.eq_false_iff.2 h,qug r];rfl
def qu1{r:ol}{K:ol->WP}(h:RB S w r b)(hl:b.size<=100000)(hS:∀x∈S,x<w.heap.size)(kk:∀r' w',RB S w' r' (b.jy d)->Fr [] w w'->K r' w'): cW 31 [.agg (HL.mk eX r).toArray,.agg #[.int .u64 d.1,.int .u64 d.2.1,.int .u64 d.2.2.1,.int .u64 d.2.2.2]] [.agg eX] w K:=by
 refine qeA ?_;have aq:b.due.length<=100000:=(by unfold Bk.size at hl;omega);refine oB (oE [] w) fun r1 w1 _ f1 o=>oB o fun r3 w2 _ f2 o=>oB o fun r5 w3 _ f3 o=>oC o 2 rfl r rfl (oC o 1 rfl d rfl ?_);have ar:=o.fr.size;have l1:r1<w3.heap.size:=fE (o.at (i:=2) rfl);have l5:r5<w3.heap.size:=fE (o.at (i:=0) rfl);have n1:w.heap.size<=r1:=(o.own _ (yF (i:=2) rfl)).elim (fun h=>nomatch h) id;have n5:w.heap.size<=r5:=(o.own _ (yF (i:=0) rfl)).elim (fun h=>nomatch h) id;have au:∀x∈r1::r5::S,x<w3.heap.size:=fun x u=>by rcases zG.1 u with rfl|u;exact l1;rcases zG.1 u with rfl|u;exact l5;exact yD (hS x u) o.fr.size
 have h0:RB (r1::r5::S) w r b:=h.q8 (.refl _ _) fun x u=>by rcases zG.1 u with rfl|u;exact .inr n1;rcases zG.1 u with rfl|u;exact .inr n5;exact .inl u
 refine qnD (d:=d) (h0.q7 o.fr) hl au fun r' w4 _ h4 f4=>(o.q7 f4).st' 2 rfl _ (iG rfl) rfl (zM _) fun I o f5=>?_;have h5:=h4.q8 (f5.mono fun x u _=>by rw[zE.1 u];exact mem_cons_self) fun x u=>.inl u;have z5:w3.heap.size<=I.heap.size:=zL f4.size f5.size;have av:(ib d b.due).length<=100000:=zL (length_filter_le _ _) aq;have Q:dX iO 4 (r1::r5::S) I r'.2.2.2.1 (ib d b.due):=h5.due;have V:(b.jy d).due=jZ d (ib d b.due):=rfl;generalize ib d b.due=L at av Q V;have aU:r'.2.2.2.1.len=L.length:=Q.1;refine oB (oE [] I) fun r7 w6 e6 f6 o2=>jS (fun t w'=>∃n:Nat,∃B C,t.2.2=n/\n<=L.length/\eY iO 4 w' t.1 C B/\C++rT d t.2.1 (L.drop n)=jZ d L/\C.length<=2*n/\Fr [] I w'/\∀x∈B,I.heap.size<=x) (fun t _=>L.length-t.2.2.toNat) ⟨0,[r7],[],rfl,yX _,eY.none (o2.at (i:=0) rfl),qug L,zM _,f6,fun x u=>by rw[zE.1 u];omega⟩ ?_;rintro⟨s,c,q⟩ w7 ⟨n,B,C,hq,hn,hb,R,aY,f7,nB⟩ X hX;dsimp only at hq hb R⊢;subst hq;have o7:=o.q7 f7;have aw:=Q.q7 f7;refine oA o7 2 rfl r'.2.2.2.1 rfl (eH (fun hc=>?_) (fun hc=>?_));have E:n<L.length:=(by have:=zC hc;omega);have u:=zA E;rw[zY E,rT] at R;generalize L[n]=x at u R;refine iR (fun z w'=>∃B',z.2=(c||mE d x)/\eY iO 4 w' z.1 (C++if c=false/\mE d x=true then [d] else []) B'/\Fr [] I w'/\∀x∈B',I.heap.size<=x) ?_ ?_;refine iR (fun z w'=>z=decide (c=false/\mE d x=true)/\Fr [] w7 w') ?_ ?_;cases c;refine cond_true rfl (oC o7.drew 1 rfl d rfl (oA o7.drew 2 rfl r'.2.2.2.1 rfl (dX.pL (y:=x) aw.drew n rfl u rfl rfl (qwh fun w8 f8=>⟨?_,(Fr.refl [] w7).drew.trans f8⟩))));cases mE d x<;>simp;exact cond_false rfl ⟨oL,(Fr.refl [] w7).drew⟩;rintro z w8 ⟨rfl,f8⟩;have ai:=hb.q7 f8;apply eH<;>intro J;have J:=zC J;rw[if_pos J];refine oC (o7.q7 f8) 1 rfl d rfl (A2 ai oJ fun s9 B9 w9 b9 G O=>⟨B9,by dsimp only;rw[J.2,Bool.or_true],b9,(f7.trans f8).j6 G fun x u=>.inr (nB x u),fun x u=>(O x u).elim (nB x) (zL (f7.trans f8).size)⟩);have J:=zB J;rw[if_neg J,xH];exact⟨B,by dsimp only;cases c<;>simp at J⊢;exact J,ai,f7.trans f8,nB⟩;rintro⟨s9,c9⟩ w9 ⟨B9,rfl,b9,G,O⟩;dsimp only at b9⊢;refine oA (o.q7 G) 2 rfl r'.2.2.2.1 rfl (dX.pL (y:=x) (Q.q7 G) n rfl u rfl rfl (A2 b9 (by rw[zF];split<;>simp<;>omega) fun a1 az aA aB U aC=>?_));refine hX _ _ ⟨n+1,az,_,by dsimp only;rw[fV _ oJ];rfl,E,aB,by rw[<- R];simp only[zV,xJ,xI],by rw[zF,zF];split<;>simp<;>omega,G.j6 U fun x u=>.inr (O x u),fun x u=>(aC x u).elim (O x) (zL G.size)⟩ (by dsimp only;rw[fV _ oJ];omega);have E:n=L.length:=(by have:=zB hc;omega);subst E;rw[drop_length,rT] at R;refine iR (fun z w'=>∃B',eY iO 4 w' z (jZ d L) B'/\Fr [] I w'/\∀x∈B',I.heap.size<=x) ?_ ?_;cases c;rw[if_neg oM] at R;refine cond_true rfl (oC o7 1 rfl d rfl (A2 hb oJ fun s9 B9 w9 b9 G O=>⟨B9,by rw[<- R];exact b9,f7.j6 G fun x u=>.inr (nB x u),fun x u=>(O x u).elim (nB x) (zL f7.size)⟩));rw[if_pos rfl,xH] at R;exact cond_false rfl ⟨B,by rw[<- R];exact hb,f7,nB⟩;rintro s9 w9 ⟨B9,b9,G,O⟩;refine (o.q7 G).st' 2 rfl (HL.mk eX (r'.1,r'.2.1,r'.2.2.1,s9,r'.2.2.2.2)).toArray rfl rfl (zO rfl) fun aA ak U=>oC ak 2 rfl (r'.1,r'.2.1,r'.2.2.1,s9,r'.2.2.2.2) rfl (ak.st' 0 rfl _ (iG rfl) rfl (zM _) fun aD al am=>oC al 0 rfl (r'.1,r'.2.1,r'.2.2.1,s9,r'.2.2.2.2) rfl ?_);have g9:=h5.q7 G;have aE:=g9.q8 (U.mono fun x u _=>by rw[zE.1 u];exact mem_cons_self) fun x u=>.inl u;have hr:=aE.q8 (S':=S) (am.mono fun x u _=>by rw[zE.1 u];exact zN _ mem_cons_self) fun x u=>.inl (zN _ (zN _ u));have an:=(b9.q8 U fun x u h=>by have:=O x u;have:=zE.1 h;omega).q8 am fun x u h=>by have:=O x u;have:=zE.1 h;omega
 exact kk (r'.1,r'.2.1,r'.2.2.1,s9,r'.2.2.2.2) aD ⟨hr.acc,hr.jA,hr.kA,by rw[V];exact wK (w0:=I) an CX (fun x u=>yD (hS x u) (zL ar z5)) O,hr.mr,hr.mC,hr.kH,hr.told,hr.gone⟩ al.fr
end
section
open Go Go.Pt List
open Go.IntKind (wrap)
open Classical
attribute [local irreducible] ld dK gW nu js eS st new idx jI jH fP jF jq mj gI nn call dW inv run fw jd join loop held ext kO eT mT nz nH IntKind.wrap
end
section
open Go Go.Pt List
open Go.IntKind (wrap)
open Classical
attribute [local irreducible] ld dK gW nu js eS st new idx jI jH fP jF jq mj gI nn call dW inv run fw jd join loop held ext kO eT mT nz nH IntKind.wrap
variable {K:ol->WP} {S:List Nat} {w:World}
def qzW{s:Sl}{i:Int}{k:Nat}{p:Prop}{K:Addr->Prop}(u:p)(h:idx s i k K):idx s i k fun a=>gI p (K a):=by unfold idx at h⊢;obtain⟨a,C,E,G⟩:=h;exact⟨a,C,E,mc u G⟩
def Hd(x:Kp):∀u∈pA x,u.oneCell'=true:=all_eq_true.1 rfl
def qAJ:∃i,prog.info? ya=some i/\i.zero=some (.agg (pA ui).toArray)/\i.size=18/\i.bytes=128:=tV oK
def qu2{r:ol}{b:Bk}{k:Kp}(h:RB S w r b)(hl:b.size<=100000)(hS:∀x∈S,x<w.heap.size)(kk:∀r' w',RB S w' r' (b.ga k)->Fr [] w w'->K r' w'): cW 26 [.agg (HL.mk eX r).toArray,.agg (pA k).toArray] [.agg eX] w K:=by
 refine qcX ?_;have ah:b.jA.length<=100000/\b.mr.length<=100000/\b.mC.length<=100000:=(by unfold Bk.size at hl;omega);obtain⟨i,hi,hz,ai,aj⟩:=qAJ;refine oB (oE [] w) fun r1 w1 _ f1 o=>oB o fun r3 w2 _ f2 o=>oB o fun E w3 _ f3 o=>oC o 1 rfl k.1 rfl (oB o fun r8 w4 _ f4 o=>o.st' 0 rfl _ (iG rfl) rfl (zM _) fun w5 o f5=>?_);have l1:r1<w5.heap.size:=fE (o.at (i:=3) rfl);have l5:E<w5.heap.size:=fE (o.at (i:=1) rfl);have n1:w.heap.size<=r1:=(o.own _ (yF (i:=3) rfl)).elim (fun h=>nomatch h) id;have n5:w.heap.size<=E:=(o.own _ (yF (i:=1) rfl)).elim (fun h=>nomatch h) id;have ak:∀x∈r1::E::S,x<w5.heap.size:=fun x u=>by rcases zG.1 u with rfl|u;exact l1;rcases zG.1 u with rfl|u;exact l5;exact yD (hS x u) o.fr.size
 have h0:RB (r1::E::S) w r b:=h.q8 (.refl _ _) fun x u=>by rcases zG.1 u with rfl|u;exact .inr n1;rcases zG.1 u with rfl|u;exact .inr n5;exact .inl u
 have h5:=h0.q7 o.fr;have C:∀ {w w':World},Fr [r1] w w'->Fr (r1::E::S) w w':=fun f=>f.mono fun x u _=>by rw[zE.1 u];exact mem_cons_self
 refine oA o 3 rfl r.2.2.2.2.1 rfl (oC o 0 rfl (k.1.2.2.1,k.1.2.2.2.1) rfl (oA o 0 rfl k.1.2.2.2.2.2.2.2.2.2.2.2.2.2.2.2 rfl (oC o 0 rfl (k.1.1,k.1.2.1) rfl (qrx (m:=wu k.1) h5.mr ah.2.1 ak fun s6 w6 d6 I=>?_))));refine (o.q7 I).st' 3 rfl (HL.mk eX (r.1,r.2.1,r.2.2.1,r.2.2.2.1,s6,r.2.2.2.2.2)).toArray rfl rfl (zO rfl) fun w7 o U=>?_;have h7:=(h5.q7 I).q8 (C U) fun x u=>.inl u;have d7:=d6.q8 (C U) fun x u=>.inl u;have z7:w5.heap.size<=w7.heap.size:=zL I.size U.size;refine oA o 3 rfl r.2.2.2.2.2.1 rfl (oC o 0 rfl (k.1.2.2.2.2.1,k.1.2.2.2.2.2.1) rfl (oA o 0 rfl k.1.2.2.2.2.2.2.2.2.2.2.2.2.2.2.2 rfl (oC o 0 rfl (k.1.1,k.1.2.1) rfl (qrx (m:=Ag k.1) h7.mC ah.2.2 (fun x u=>yD (ak x u) z7) fun s8 w8 aA f8=>?_))));refine (o.q7 f8).st' 3 rfl (HL.mk eX (r.1,r.2.1,r.2.2.1,r.2.2.2.1,s6,s8,r.2.2.2.2.2.2)).toArray rfl rfl (zO rfl) fun V o f9=>?_;have h9:=(h7.q7 f8).q8 (C f9) fun x u=>.inl u;have d9:=(d7.q7 f8).q8 (C f9) fun x u=>.inl u;have c9:=aA.q8 (C f9) fun x u=>.inl u;have a7:r1<V.heap.size:=fE (o.at (i:=3) rfl);have a8:E<V.heap.size:=fE (o.at (i:=1) rfl);refine oB (oE [] V) fun r7 a9 e7 J o2=>?_;have aD:=o.q7 J;refine oA aD 3 rfl r.2.1 rfl (xa (e:=ya) (o2.at (i:=0) rfl) (h9.q7 J).jA po Hd oK hi hz ai rfl (by rw[aj];decide) oJ fun am B5 an b5 aF aG=>?_);have O:∀x∈B5,V.heap.size<=x:=fun x u=>(aG x u).elim (fun e=>oJ) fun h=>zL J.size h;have aa:Fr [] V an:=J.j6 aF fun x u=>.inr (by rw[zE.1 u];omega);have ao:∀(s:Sl) (l:List Kp) (B:List Nat) w6,eY pA 18 w6 s l B->(∀x∈B,V.heap.size<=x)->Fr [] V w6->l=ik qz k b.jA->Pt.st (dd r1 1) [s.v] w6 fun w7=>dK eX (dd r1) w7 fun t=>Pt.st (dd E) (HL.mk eX t) w7 fun w8=>dK eX (dd E) w8 fun t=>K t w8:=fun s l B bb hb hB Q e=>by
  refine (o.q7 Q).st' 3 rfl (HL.mk eX (r.1,s,r.2.2.1,r.2.2.2.1,s6,s8,r.2.2.2.2.2.2)).toArray rfl rfl (zO rfl) fun aq ar R=>oC ar 3 rfl (r.1,s,r.2.2.1,r.2.2.2.1,s6,s8,r.2.2.2.2.2.2) rfl (ar.st' 1 rfl _ (iG rfl) rfl (zM _) fun ab au av=>oC au 1 rfl (r.1,s,r.2.2.1,r.2.2.2.1,s6,s8,r.2.2.2.2.2.2) rfl ?_);have ac:Fr (r1::E::S) aq ab:=av.mono fun x u _=>by rw[zE.1 u];exact zN _ mem_cons_self
  have dn:∀x∈S,x∈r1::E::S\/aq.heap.size<=x:=fun x u=>.inl (zN _ (zN _ u));have hr:=((h9.q7 Q).q8 (C R) fun x u=>.inl u).q8 ac dn;have hd:=((d9.q7 Q).q8 (C R) fun x u=>.inl u).q8 ac dn;have hc:=((c9.q7 Q).q8 (C R) fun x u=>.inl u).q8 ac dn;have aJ:=(hb.q8 R fun x u h=>by have:=hB x u;have:=zE.1 h;omega).q8 av fun x u h=>by have:=hB x u;have:=zE.1 h;omega
  have aK:dX pA 18 S ab s (ik qz k b.jA):=(by rw[<- e];exact wK aJ po hS fun x u=>zL o.fr.size (hB x u));exact kk _ ab ⟨hr.acc,aK,hr.kA,hr.due,hd,hc,hr.kH,hr.told,hr.gone⟩ au.fr
 have bd:am.len=b.jA.length:=b5.len;refine jS (fun q w'=>∃n:Nat,q=n/\n<=b.jA.length/\Fr [] an w'/\((b.jA.take n).find? fun x=>decide (qz x=qz k))=none) (fun q _=>b.jA.length-q.toNat) ⟨0,rfl,yX _,.refl _ _,rfl⟩ ?_;rintro q w6 ⟨n,rfl,hn,I,hf⟩ X hX;apply cD<;>intro hc;have G:n<b.jA.length:=oJ;have u:=zA G;have b6:=(b5.q7 I).q7 (Fr.refl [] w6).drew;have o6:=o.q7 ((aa.trans I).drew);refine dX.jP (cl:=u2) (S:=[]) (b6.kB po fun _ _ h=>nomatch h) n rfl u oM rfl (oC o6 0 rfl (qz k) rfl (zz (a:=qz b.jA[n]) ?_));have st:=Ai (p:=fun x=>decide (qz x=qz k)) u hf;apply eH<;>intro hb;refine nI (o6.at (i:=2) rfl) (pA k) (po k) rfl ?_
 have:=Fs (K:=fun aL=>Pt.st (dd r1 1) [am.v] aL fun w7=>dK eX (dd r1) w7 fun t=>Pt.st (dd E) (HL.mk eX t) w7 fun w8=>dK eX (dd E) w8 fun t=>K t w8) b6 po Hd (x:=k) rfl G fun w7 b7 U=>ao _ _ _ _ b7 O ((aa.trans I).drew.j6 U fun x u=>.inr (O x u)) (BK u hf (zC hb)).symm
 exact qzW (po k) this;rw[fV _ oJ];exact hX _ _ ⟨n+1,rfl,G,I.drew,st.2 hb⟩ oJ;have G:n=b.jA.length:=oJ;subst G;rw[xZ] at hf;have ad:=aa.trans I;refine nI ((o.q7 ad).at (i:=2) rfl) (pA k) (po k) rfl (mc (po k) (eY.push (e:=ya) (x:=k) (b5.q7 I) po (Hd k) oK hi hz ai rfl rfl (by rw[aj];omega) oJ fun s7 B7 w7 b7 U n7=>ao _ _ _ _ b7 (fun x u=>(n7 x u).elim (O x) (zL ad.size)) (ad.j6 U fun x u=>.inr (O x u)) (BF hf).symm))
abbrev GU:TypeId:=184
def Bm(x:Ln):(ng x).length=12:=rfl
def qpZ(x:Ln):∀u∈ng x,u.oneCell'=true:=all_eq_true.1 rfl
def qAK:∃i,prog.info? GU=some i/\i.zero=some (.agg (ng ((0,0),Fj)).toArray)/\i.size=12/\i.bytes=96:=tV oK
def qBl{α:Type}{enc:α->List Value}{k:Nat}{s:Sl}{l:List α}(h:dX enc k S w s l)(n:Nat){i:Int}{x:α}{K:Addr->Prop}(hi:i=n)(E:l[n]?=some x)(G:∀b o u T C,w.heap[b]?=some (.cells u T C)->(u.toList.drop o).take k=enc x->K (dd b o)):idx s i k K:=by subst hi;obtain⟨Q,b,o,I,_,u,T,C,J,O⟩:=dX.at h n E;refine qY I ⟨oJ,oJ⟩ ?_;rw[zJ];exact G b _ u T C J O
def qnE{r:ol}{b:Bk}{a0 a1:Int}{x:HL nd}(h:RB S w r b)(hl:b.size<=100000)(hS:∀x∈S,x<w.heap.size)(kk:∀r' w',RB S w' r' (b.nE ((a0,a1),x))->Fr [] w w'->K r' w'): cW 55 [.agg (HL.mk eX r).toArray,da a0 a1,.agg (HL.mk nd x).toArray] [.agg eX] w K:=by
 refine qeB ?_;have aH:b.kH.length<=100000:=(by unfold Bk.size at hl;omega);obtain⟨i,hi,hz,aa,ab⟩:=qAK;have hm:∃m:Ln,m=((a0,a1),x):=⟨_,rfl⟩;obtain⟨m,V⟩:=hm;rw[<- V] at kk;refine oB (oE [] w) fun r1 w1 _ f1 o=>oB o fun r3 w2 _ f2 o=>oB o fun r5 aJ _ aK o=>oB o fun r7 R _ f3 o=>oB (oE [] R) fun r9 w4 e4 f4 o2=>?_;have o4:=o.q7 f4;refine oA o4 3 rfl r.2.2.2.2.2.2.1 rfl (xa (e:=GU) (o2.at (i:=0) rfl) (h.q7 o4.fr).kH Bm qpZ oK hi hz aa rfl (by rw[ab];decide) oJ fun s5 B5 w5 b5 f5 n5=>?_);have G:∀x∈B5,R.heap.size<=x:=fun x u=>(n5 x u).elim (fun e=>oJ) fun h=>zL f4.size h;have U:Fr [] R w5:=f4.j6 f5 fun x u=>.inr (by rw[zE.1 u];omega);have ac:∀(s:Sl) (l:List Ln) (B:List Nat) J,eY ng 12 J s l B->(∀x∈B,R.heap.size<=x)->Fr [] R J->l=ik sD m b.kH->Pt.st (dd r1 6) [s.v] J fun w7=>dK eX (dd r1) w7 fun t=>Pt.st (dd r7) (HL.mk eX t) w7 fun w8=>dK eX (dd r7) w8 fun t=>K t w8:=fun s l B J C hB O e=>by
  refine (o.q7 O).st' 3 rfl (HL.mk eX (r.1,r.2.1,r.2.2.1,r.2.2.2.1,r.2.2.2.2.1,r.2.2.2.2.2.1,s,r.2.2.2.2.2.2.2)).toArray rfl rfl (zO rfl) fun w7 o7 f7=>oC o7 3 rfl (r.1,r.2.1,r.2.2.1,r.2.2.2.1,r.2.2.2.2.1,r.2.2.2.2.2.1,s,r.2.2.2.2.2.2.2) rfl (o7.st' 0 rfl _ (iG rfl) rfl (zM _) fun w8 o8 f8=>oC o8 0 rfl (r.1,r.2.1,r.2.2.1,r.2.2.2.1,r.2.2.2.2.1,r.2.2.2.2.2.1,s,r.2.2.2.2.2.2.2) rfl ?_);have Q:=h.q7 o8.fr;have l1:r1<R.heap.size:=fE (o.at (i:=3) rfl);have l5:r7<R.heap.size:=fE (o.at (i:=0) rfl);have al:=(C.q8 f7 fun x u h=>by have:=hB x u;have:=zE.1 h;omega).q8 f8 fun x u h=>by have:=hB x u;have:=zE.1 h;omega
  have am:dX ng 12 S w8 s (ik sD m b.kH):=(by rw[<- e];exact wK al Bm hS fun x u=>zL o.fr.size (hB x u));exact kk _ w8 ⟨Q.acc,Q.jA,Q.kA,Q.due,Q.mr,Q.mC,am,Q.told,Q.gone⟩ o8.fr
 have aQ:s5.len=b.kH.length:=b5.len;refine jS (fun q w'=>∃n:Nat,q=n/\n<=b.kH.length/\Fr [] w5 w'/\((b.kH.take n).find? fun x=>decide (sD x=sD m))=none) (fun q _=>b.kH.length-q.toNat) ⟨0,rfl,yX _,.refl _ _,rfl⟩ ?_;rintro q J ⟨n,rfl,hn,O,hf⟩ X hX;apply cD<;>intro hc;have E:n<b.kH.length:=oJ;have u:=zA E;have b6:=(b5.q7 O).q7 (Fr.refl [] J).drew;have o6:=o.q7 ((U.trans O).drew);have r6:dX ng 12 [] J.drew s5 b.kH:=b6.kB Bm fun _ _ h=>nomatch h;refine te (decide (sD b.kH[n]=sD m)) J.drew (fun M hM=>?_) ?_;refine dX.jP (cl:=u2) r6 n rfl u oM rfl (oC o6 2 rfl (a0,a1) rfl (zz (a:=b.kH[n].1) ?_));apply eH<;>intro C;have C:=zC C;refine qBl r6 n rfl u fun b' o' cs T fr aq ar=>?_;simp only[Addr.q9];refine jM aq (nM (lZ b.kH[n].2)) ?_ (oA o6 1 rfl (nM (lZ x)) rfl ?_);have e:(ng b.kH[n])[10]?=some (.int .u64 (nM (lZ b.kH[n].2))):=rfl;rw[<- ar,xB,if_pos oM,xA] at e;rw[<- xL];exact e;rw[show (nM (lZ b.kH[n].2)==nM (lZ x))=decide (sD b.kH[n]=sD m) by unfold sD;rw[C,V];by_cases e:nM (lZ b.kH[n].2)=nM (lZ x);simp[e];simp[e]];exact hM;have C:=zB C;rw[show decide (sD b.kH[n]=sD m)=false from zU fun e=>C (by rw[V] at e;exact (vB e).1)] at hM;exact hM;have st:=Ai (p:=fun x=>decide (sD x=sD m)) u hf;apply eH<;>intro C;have hk:=zC C;have h1:b.kH[n].1=(a0,a1):=(by rw[V] at hk;exact (vB hk).1);refine oC o6 1 rfl x rfl (qt2 (j:=2) (x:=m) (vs:=HL.mk nd x) b6 Bm rfl E rfl (zM _) (by rw[V,show ng b.kH[n]=ng (b.kH[n].1,b.kH[n].2) from rfl,h1];rfl) fun w7 b7 f7=>ac _ _ _ _ b7 G ((U.trans O).drew.j6 f7 fun x u=>.inr (G x u)) (BK u hf hk).symm);rw[fV _ oJ];exact hX _ _ ⟨n+1,rfl,E,O.drew,st.2 C⟩ oJ;have E:n=b.kH.length:=oJ;subst E;rw[xZ] at hf;have I:=U.trans O;refine oC (o.q7 I) 2 rfl (a0,a1) rfl (oC (o.q7 I) 1 rfl x rfl (eY.push (e:=GU) (x:=m) (b5.q7 O) Bm (qpZ m) oK hi hz aa rfl (by rw[V];rfl) (by rw[ab];omega) oJ fun s7 B7 w7 b7 f7 n7=>ac _ _ _ _ b7 (fun x u=>(n7 x u).elim (G x) (zL I.size)) (I.j6 f7 fun x u=>.inr (G x u)) (BF hf).symm))
def qx6{r:ol}{b:Bk}{p:Pa}{n:Int}(h:RB S w r b)(hl:b.size+4<=100000)(hS:∀x∈S,x<w.heap.size)(hp:ee fx p.1)(ae:ee fx p.2.1)(kk:∀r' w',RB S w' r' (fg b p n)->Fr [] w w'->K r' w'): cW 19 [.agg (HL.mk eX r).toArray,.agg (kj p).toArray,.int .u64 n] [.agg eX] w K:=by
 refine qhQ ?_;have z1:=wn (b:=b) (a:=p.1);have z2:=wn (b:=b.dQ p.1) (a:=p.2.1);have z3:=Er (b:=(b.dQ p.1).dQ p.2.1) (a:=p.1) (s:=1) (n:=n);refine oB (oE [] w) fun r1 w1 _ f1 o=>oB o fun r3 w2 _ f2 o=>oB o fun I U _ f3 o=>oC o 2 rfl r rfl (oC o 1 rfl p.1 rfl ?_);have l1:r1<U.heap.size:=fE (o.at (i:=2) rfl);have n1:w.heap.size<=r1:=(o.own _ (yF (i:=2) rfl)).elim (fun h=>nomatch h) id;have l5:I<U.heap.size:=fE (o.at (i:=0) rfl);have n5:w.heap.size<=I:=(o.own _ (yF (i:=0) rfl)).elim (fun h=>nomatch h) id;have V:∀x∈r1::I::S,x<U.heap.size:=fun x u=>by rcases zG.1 u with rfl|u;exact l1;rcases zG.1 u with rfl|u;exact l5;exact yD (hS x u) o.fr.size
 have h0:RB (r1::I::S) w r b:=h.q8 (.refl _ _) fun x u=>(zG.1 u).elim (fun e=>.inr (by rw[e];exact n1)) fun u=>(zG.1 u).elim (fun e=>.inr (by rw[e];exact n5)) .inl;have J:∀ {w w':World},Fr [r1] w w'->Fr (r1::I::S) w w':=fun f=>f.mono fun x u _=>by rw[zE.1 u];exact mem_cons_self
 have up:∀ {w':World},U.heap.size<=w'.heap.size->∀x∈r1::I::S,x<w'.heap.size:=fun z x u=>yD (V x u) z;refine BJ (h0.q7 o.fr) oJ V fun r6 w6 h6 f6=>(o.q7 f6).st' 2 rfl _ (iG rfl) rfl (zM _) fun w7 o f7=>oC o 2 rfl r6 rfl (oC o 1 rfl p.2.1 rfl ?_);have z7:=zL f6.size f7.size;refine BJ (h6.q8 (J f7) fun x u=>.inl u) oJ (up z7) fun r8 w8 h8 f8=>(o.q7 f8).st' 2 rfl _ (iG rfl) rfl (zM _) fun w9 o f9=>?_;have z9:=zL z7 (zL f8.size f9.size);have h9:=h8.q8 (J f9) fun x u=>.inl u;simp only[Addr.q9];refine iR (fun _ w'=>∃r',RB (r1::I::S) w' r' (i8 ((b.dQ p.1).dQ p.2.1) p.1 1 n)/\U.heap.size<=w'.heap.size/\dR [] w w' [(I,.cells (HL.mk eX (dI,dI,dI,dI,dI,dI,dI,0,false,dI)).toArray 36 (0,0)),(r3,.cells (kj p).toArray qa (0,0)),(r1,.cells (HL.mk eX r').toArray 36 (0,0))]) ?_ ?_;refine oA o 1 rfl (iX p.1) rfl (A9 (tM hp) oM ?_);unfold i8;apply eH<;>intro e;rw[if_pos e];have o:=o.drew;refine oC o 2 rfl r8 rfl (oC o 1 rfl (gX p.1) rfl (oC o 1 rfl p.1 rfl (qtQ fun aa E=>jU ((o.q7 E).cells 1 rfl rfl) ((o.q7 E).cells 2 rfl rfl) ?_)));refine qnE ((h9.q7 (Fr.refl [] w9).drew).q7 E) oJ (up (zL z9 E.size)) fun ai aj ak C=>((o.q7 E).q7 C).st' 2 rfl _ (iG rfl) rfl (zM _) fun al am G=>⟨ai,ak.q8 (J G) fun x u=>.inl u,zL z9 (zL E.size (zL C.size G.size)),am⟩;rw[if_neg (by rw[e];decide)];exact⟨r8,h9,z9,o⟩;rintro _ aa ⟨ab,O,Q,o⟩;have e5:fg b p n=i8 (i8 ((b.dQ p.1).dQ p.2.1) p.1 1 n) p.2.1 2 n:=rfl;rw[e5] at kk;generalize i8 ((b.dQ p.1).dQ p.2.1) p.1 1 n=b3 at z3 O kk;refine iR (fun _ w'=>∃r',RB (r1::I::S) w' r' (i8 b3 p.2.1 2 n)/\U.heap.size<=w'.heap.size/\dR [] w w' [(I,.cells (HL.mk eX (dI,dI,dI,dI,dI,dI,dI,0,false,dI)).toArray 36 (0,0)),(r3,.cells (kj p).toArray qa (0,0)),(r1,.cells (HL.mk eX r').toArray 36 (0,0))]) ?_ ?_;refine oA o 1 rfl (iX p.2.1) rfl (A9 (tM ae) oM ?_);unfold i8;apply eH<;>intro e;rw[if_pos e];have o:=o.drew;refine oC o 2 rfl ab rfl (oC o 1 rfl (gX p.2.1) rfl (oC o 1 rfl p.2.1 rfl (qtQ fun aj C=>jU ((o.q7 C).cells 1 rfl rfl) ((o.q7 C).cells 2 rfl rfl) ?_)));refine qnE ((O.q7 (Fr.refl [] aa).drew).q7 C) oJ (up (zL Q C.size)) fun an al ao G=>((o.q7 C).q7 G).st' 2 rfl _ (iG rfl) rfl (zM _) fun aQ ap ac=>⟨an,ao.q8 (J ac) fun x u=>.inl u,zL Q (zL C.size (zL G.size ac.size)),ap⟩;rw[if_neg (by rw[e];decide)];exact⟨ab,O,Q,o⟩;rintro _ aR ⟨R,aq,aT,o⟩;refine oC o 2 rfl R rfl (o.st' 0 rfl _ (iG rfl) rfl (zM _) fun ar ad au=>oC ad 0 rfl R rfl (kk R ar (aq.q8 (au.mono fun x u _=>by rw[zE.1 u];exact zN _ mem_cons_self) fun x u=>.inl (zN _ (zN _ u))) ad.fr))
def lN (t:HL io):Int:=t.2.2.2.2.2.2.2.2.2.2.2.1
def kx (t:HL io):Int:=t.2.2.2.2.2.2.2.2.2.2.2.2.2.2.2
def ot (t:HL io):Option Int:=if lN t=0 then none else if kx t+lN t<18446744073709551616 then some (kx t+lN t) else none
def qx5{t:HL io}{K:Int×Bool->WP}(C:ee io t)(u:∀w',Fr [] w w'->K ((ot t).getD 0,(ot t).isSome) w'): cW 30 [.agg (HL.mk io t).toArray] dG w K:=by
 refine qfP ?_;have G:0<=lN t/\lN t<4294967296:=zm C.2.2.2.2.2.2.2.2.2.2.2.1;have I:mn (kx t):=ph C.2.2.2.2.2.2.2.2.2.2.2.2.2.2.2;unfold ot at u;refine oB (oE [] w) fun r1 w1 _ J o=>oA o 0 rfl (lN t) rfl (eH (fun h=>?_) (fun h=>?_));rw[if_pos (eq_of_beq h)] at u;exact u w1 J;rw[if_neg (ne_of_beq_false h)] at u;refine oA o 0 rfl (kx t) rfl (oA o 0 rfl (lN t) rfl ?_);rw[qs (lN t) oJ];refine FX (a:=(0,kx t)) (b:=(0,lN t)) ⟨ph qb,I⟩ ⟨ph qb,G.1,by dsimp only;omega⟩ fun w2 O=>?_;have e:lQ (0,kx t) (0,lN t)=some (tL (kx t+lN t)):=by unfold lQ wv;dsimp only;rw[iP];congr 2;omega
 rw[e];refine oB (o.q7 O) fun r3 Q _ R o=>o.st' 0 rfl _ (iG rfl) rfl (zM _) fun E o _=>oA o 0 rfl ((kx t+lN t) / 18446744073709551616) rfl (eH (fun h=>?_) (fun h=>?_));have h:=zC h;rw[iN] at u;exact u E o.fr;have h:=zB h;rw[iP] at u;refine oA o 0 rfl (kx t+lN t) ?_ (u E o.fr);show some (Value.int .u64 ((kx t+lN t)%18446744073709551616))=_;rw[show (kx t+lN t)%18446744073709551616=kx t+lN t by omega];rfl
section
abbrev WF:FuncId:=134
structure E6 (w:World) (v:Value) (pb:Nat) (t:Int) (frm to:Key) (down:Bool) (WB:List Nat):Prop where
 val:∃ r1 r3 r5 r7 r9 s1 s2 B1 B2,v=.func (.func WF) #[] #[dH r1,dH r3,dH r5,dH r7,dH r9]/\WB=r1::r3::r5::r7::r9::(B1++B2)/\
  w.cell? (dd r1)=some (dH pb)/\w.cell? (dd r3)=some (.i t)/\w.cell? (dd r5)=some s1.v/\w.cell? (dd r7)=some s2.v/\w.cell? (dd r9)=some (.bool down)/\gw w s1 frm B1/\gw w s2 to B2
 lt:∀ b∈WB,b<w.heap.size
section
variable {dbk pb:Nat} {FD F:List Nat} {D:dL} {M:eP} {k v:Nat} {frm to:Key} {down:Bool} {w:World}
structure H7 (yield:Value) (Yc:List Nat) (wb:World) (L:gh) (I:Nat->WP) (E:WP):Prop where
 stay:∀ i W W' Z,I i W->Fr Z W W'->(∀ b∈Z,wb.heap.size<=b)->I i W'
 take:∀ i (hi:i<L.length) W ks vs B1 B2 (K:Bool->WP),I i W->gw W ks L[i].1 B1->gw W vs L[i].2 B2->(∀ b∈B1++B2,wb.heap.size<=b)->wb.heap.size<=W.heap.size->(∀ W',Fr Yc W W'->I (i+1) W'->K true W')->(∀ W',E W'->K false W')->dW prog yield [ks.v,vs.v] dg W K
end
end
end
section
open Go Go.Pt List
open Go.IntKind (wrap)
variable {a:HL fx} {b b':Bk} {d:HL ig} {first n s:Int} {i:gB} {l:List (HL ig)} {side:HL io->gB}
def Hx{α κ:Type}[DecidableEq κ]{kf:α->κ}{a:α}{i:κ}:∀ {l:List α},(ik kf a l).find? (fun x=>decide (kf x=i))=if kf a=i then some a else l.find? fun x=>decide (kf x=i)
 | []=>by unfold ik;by_cases h:kf a=i;simp[h];simp[h]
 | x::r=>by unfold ik;by_cases e:kf x=kf a;rw[if_pos e,List.find?_cons,List.find?_cons,e];by_cases h:kf a=i;simp[h];simp[h];rw[if_neg e,List.find?_cons,List.find?_cons,Hx (l:=r)];by_cases h:kf a=i;rw[if_pos h,if_pos h,zU (by rw[<- h];exact e)];rw[if_neg h,if_neg h]
def Ak:eG (b.dQ a) i=if gX a=i then some a else eG b i:=Hx
def qpM:(i8 b a s n).acc=b.acc/\(i8 b a s n).jA=b.jA/\(i8 b a s n).kA=b.kA/\(i8 b a s n).due=b.due:=by unfold i8;split<;>exact⟨rfl,rfl,rfl,rfl⟩
def qvb{p:Pa}:(fg b p n).acc=((b.dQ p.1).dQ p.2.1).acc/\(fg b p n).jA=b.jA/\(fg b p n).kA=b.kA:=by unfold fg;obtain⟨h,u,C,_⟩:=qpM (b:=i8 ((b.dQ p.1).dQ p.2.1) p.1 1 n) (a:=p.2.1) (s:=2) (n:=n);obtain⟨b1,b2,E,_⟩:=qpM (b:=(b.dQ p.1).dQ p.2.1) (a:=p.1) (s:=1) (n:=n);exact⟨h.trans b1,u.trans b2,C.trans E⟩
def tK (b:Bk) (d:HL ig):HL io:=((gY b (oV d)).getD ui).1
def iQ (side:HL io->gB) (b:Bk) (i:gB) (l:List (HL ig)):Int:=(l.map fun d=>if side (tK b d)=i then wv (fK (tK b d)) else 0).sum
structure rL (b:Bk):Prop where
 fit:∀ a∈b.acc,ee fx a
 DA:∀ d∈b.due,ee ig d
 due:qf b.due
 has:∀ d∈b.due,∃ k x y,gY b (oV d)=some k/\rQ k/\qz k=oV d/\eG b (gc k.1)=some x/\eG b (gd k.1)=some y/\gc k.1≠gd k.1
 mr:∀ i a,eG b i=some a->iQ gc b i b.due<=wv (gf a)
 mC:∀ i a,eG b i=some a->iQ gd b i b.due<=wv (gz a)
def wS{a b:HL ig}:mE a b=true↔(lF a).1<(lF b).1\/(lF a).1=(lF b).1/\(lF a).2<(lF b).2:=yN
def qt9{a b:HL ig}(h:mE a b=true):lF a≠lF b:=by rw[wS] at h;intro e;rw[e] at h;omega
def qf.sY(h:qf (d::l)):ib d (d::l)=l:=by unfold ib;rw[filter_cons,if_neg oL];exact filter_eq_self.2 fun x u=>yA fun e=>qt9 ((yJ.1 h).1 x u) e.symm
def qf.pV{f:HL ig->Int}{d:HL ig}:∀ {l:List (HL ig)},qf l->d∈l->(l.map f).sum=f d+((ib d l).map f).sum
 | x::r,h,u=>by
  by_cases e:x=d;subst e;rw[h.sY,xO,sum_cons];have u:d∈r:=(zG.1 u).resolve_left fun h=>e h.symm;have C:=yJ.1 h;have:ib d (x::r)=x::ib d r:=by unfold ib;rw[filter_cons,if_pos (yA (qt9 (C.1 d u)))]
  rw[this,xO,sum_cons,xO,sum_cons,qf.pV (l:=r) C.2 u];omega
def qf.sub{l':List (HL ig)}(h:qf l)(s:l'.Sublist l):qf l':=List.Pairwise.sublist s h
def BY:(ib d l).Sublist l:=filter_sublist
def qf.rest{r:List (HL ig)}(h:qf l)(s:(d::r).Sublist l):r.Sublist (ib d l):=by
 have:=s.filter fun x=>decide (lF x≠lF d)
 rw[show (d::r).filter (fun x=>decide (lF x≠lF d))=r from (h.sub s).sY] at this;exact this
def qM (a:HL fx):gB×gB:=((a.2.2.2.2.1,a.2.2.2.2.2.1),(a.2.2.2.2.2.2.2.2.1,a.2.2.2.2.2.2.2.2.2.1))
def qtF{t:HL io}{p:Pa}(u:ee io t)(C:ee fx p.1)(E:ee fx p.2.1)(O:wv (fK t)<=wv (gf p.1))(Q:wv (fK t)<=wv (gz p.2.1)): ∃q,gl t p=some q/\ee fx q.1/\ee fx q.2.1/\gX q.1=gX p.1/\gX q.2.1=gX p.2.1/\wv (gf q.1)=wv (gf p.1)-wv (fK t)/\gz q.1=gz p.1/\gf q.2.1=gf p.2.1/\wv (gz q.2.1)=wv (gz p.2.1)-wv (fK t)/\qM q.1=qM p.1/\qM q.2.1=qM p.2.1:=by have e1:pN (gf p.1) (fK t)=some (tL (wv (gf p.1)-wv (fK t))):=if_pos O;have G:pN (gz p.2.1) (fK t)=some (tL (wv (gz p.2.1)-wv (fK t))):=if_pos Q;have I:=(Dg (zq C) (ti u) e1).1;have J:=(Dg (xw E) (ti u) G).1;obtain⟨q,h⟩:∃q,gl t p=some q:=(by unfold gl;rw[e1,Option.bind_some,G,Option.map_some];exact⟨_,rfl⟩);refine⟨q,h,(BH u C E h).1,(BH u C E h).2,?_⟩;unfold gl at h;rw[e1,Option.bind_some,G,Option.map_some] at h;cases h;generalize tL (wv (gf p.1)-wv (fK t))=x at I⊢;generalize tL (wv (gz p.2.1)-wv (fK t))=y at J⊢;rw[<- I,<- J];refine⟨?_,?_,?_,?_,?_,?_,?_,?_⟩<;>dsimp only<;>split<;>rfl
def lX (b:Bk) (d:HL ig):Bk:=let q:=(gl (tK b d) (kb b (gc (tK b d)) (gd (tK b d)))).getD pK;(b.dQ q.1).dQ q.2.1
def vX:(lg b d n).acc=(lX b d).acc/\(lg b d n).jA=b.jA/\(lg b d n).due=ib d b.due/\(lg b d n).kA=(b.fN (gj (tK b d),4)).kA:=by obtain⟨u,C,h⟩:=qvb (b:=b) (p:=(gl (tK b d) (kb b (gc (tK b d)) (gd (tK b d)))).getD pK) (n:=n);refine⟨u,C,?_,?_⟩;show ib d (fg b _ n).due=_;rw[qnK];show ik _ _ (fg b _ n).kA=_;unfold tK at h;rw[h];rfl
def yu(h:b.acc=b'.acc)(i:gB):eG b i=eG b' i:=by unfold eG;rw[h]
def qqR(h:b.jA=b'.jA)(i:gB):gY b i=gY b' i:=by unfold gY;rw[h]
def qxO(h:b.jA=b'.jA)(d:HL ig):tK b d=tK b' d:=by unfold tK;rw[qqR h]
def qqt(h:b.jA=b'.jA)(i:gB)(l:List (HL ig)):iQ side b i l=iQ side b' i l:=by unfold iQ;simp only[qxO h]
def sO(h:eG b i=some a):a∈b.acc/\gX a=i:=⟨mem_of_find?_eq_some h,by simpa using List.find?_some h⟩
def qyQ(h:∀d∈l,ee io (tK b d)):0<=iQ side b i l:=by
 induction l with
 | nil=>exact Int.le_refl _
 | cons x r ih=>
  have:=ih fun d u=>h d (zN _ u)
  have C:=ww (ti (h x mem_cons_self));unfold iQ at this⊢;rw[xO,sum_cons];split<;>omega
structure C4 (b:Bk) (d:HL ig):Prop where
 ok:∃ k q,gY b (oV d)=some k/\gl k.1 (kb b (gc k.1) (gd k.1))=some q
 uD:∀ i a',eG (lX b d) i=some a'->∃ a,eG b i=some a/\ee fx a'/\wv (gf a')=wv (gf a)-(if gc (tK b d)=i then wv (fK (tK b d)) else 0)/\wv (gz a')=wv (gz a)-(if gd (tK b d)=i then wv (fK (tK b d)) else 0)/\qM a'=qM a
 all:∀ i a,eG b i=some a->∃ a',eG (lX b d) i=some a'
 kA:gj (tK b d)=oV d
 len:(lX b d).acc.length=b.acc.length
def CO{α κ:Type}[DecidableEq κ]{kf:α->κ}{a:α}:∀ {l:List α},(l.find? fun x=>decide (kf x=kf a))≠none->(ik kf a l).length=l.length
 | [],h=>absurd rfl h
 | x::r,h=>by unfold ik;by_cases e:kf x=kf a;rw[if_pos e];rfl;rw[if_neg e,yI,yI,CO (l:=r) (by rw[List.find?_cons,zU e] at h;exact h)]
def rL.Q9(h:rL b)(hd:d∈b.due):C4 b d:=by
 obtain⟨k,x,y,hk,ab,ac,G,I,J⟩:=h.has d hd;have O:tK b d=k.1:=(by unfold tK;rw[hk];rfl);have ad:=h.fit x (sO G).1;have ae:=h.fit y (sO I).1;have nn:∀(side:HL io->gB) i,0<=iQ side b i (ib d b.due):=fun side i=>qyQ fun e he=>by obtain⟨k',_,_,af,Q,_⟩:=h.has e (BY.subset he);unfold tK;rw[af];exact Q.1
 have g1:wv (fK k.1)<=wv (gf x):=(by have C:=h.mr _ _ G;unfold iQ at C;rw[h.due.pV hd] at C;have h2:=nn gc (gc k.1);unfold iQ at h2;rw[O,if_pos rfl] at C;omega);have g2:wv (fK k.1)<=wv (gz y):=(by have C:=h.mC _ _ I;unfold iQ at C;rw[h.due.pV hd] at C;have h2:=nn gd (gd k.1);unfold iQ at h2;rw[O,if_pos rfl] at C;omega);have ep:kb b (gc k.1) (gd k.1)=(x,y,true,true):=(by unfold kb;rw[G,I];rfl);obtain⟨q,hq,f1,f2,i1,i2,w1,w2,w3,w4,w5,w6⟩:=qtF (p:=(x,y,true,true)) ab.1 ad ae g1 g2;have w1:wv (gf q.1)=wv (gf x)-wv (fK k.1):=w1;have w2:gz q.1=gz x:=w2;have w3:gf q.2.1=gf y:=w3;have w4:wv (gz q.2.1)=wv (gz y)-wv (fK k.1):=w4;have R:gl k.1 (kb b (gc k.1) (gd k.1))=some q:=(by rw[ep];exact hq);have E:gX q.1=gc k.1:=i1.trans (sO G).2;have U:gX q.2.1=gd k.1:=i2.trans (sO I).2;have e1:lX b d=(b.dQ q.1).dQ q.2.1:=(by unfold lX;rw[O,R];rfl);have V:∀i,eG (lX b d) i=if gd k.1=i then some q.2.1 else if gc k.1=i then some q.1 else eG b i:=fun i=>by rw[e1,Ak,Ak,E,U]
 refine⟨⟨k,q,hk,R⟩,fun i a' u=>?_,fun i a u=>?_,by rw[O];exact ac,?_⟩
 ·rw[V] at u;rw[O];split at u
  ·next e=>
   cases u;subst e;exact⟨y,I,f2,by rw[if_neg J,w3];omega,by rw[if_pos rfl];exact w4,w6⟩
  ·next e=>
   split at u
   ·next e'=>
    cases u;subst e';exact⟨x,G,f1,by rw[if_pos rfl];exact w1,by rw[if_neg e,w2];omega,w5⟩
   ·next e'=>exact⟨a',u,h.fit _ (sO u).1,by rw[if_neg e'];omega,by rw[if_neg e];omega,rfl⟩
 rw[V];split;exact⟨_,rfl⟩;split;exact⟨_,rfl⟩;exact⟨a,u⟩;rw[e1];have l1:(b.dQ q.1).acc.length=b.acc.length:=CO (by rw[E];show eG b _≠none;rw[G];exact fun h=>nomatch h);rw[<- l1];refine CO ?_;show eG (b.dQ q.1) (gX q.2.1)≠none;rw[Ak,E,U,if_neg J,I];exact fun h=>nomatch h
def rL.one(h:rL b)(U:d∈b.due):rL (lg b d n):=by
 obtain⟨I,et,J,_⟩:=vX (b:=b) (d:=d) (n:=n);have t:=h.Q9 U;have O:∀x∈ib d b.due,x∈b.due:=fun x E=>BY.subset E;refine⟨fun a C=>?_,?_,?_,?_,?_,?_⟩;rw[I] at C;unfold lX at C;obtain⟨k,q,V,hq⟩:=t.ok;have e:tK b d=k.1:=(by unfold tK;rw[V];rfl);rw[e,hq] at C;have hT:∀i,ee fx ((eG b i).getD kE):=fun i=>by
  cases E:eG b i with
  | none=>exact A8
  | some a=>exact h.fit a (sO E).1
 obtain⟨k',_,_,Q,R,_⟩:=h.has d U;rw[V] at Q;cases Q;have hf:=BH R.1 (hT _) (hT _) hq;rcases AV C with rfl|C;exact hf.2;rcases AV C with rfl|C;exact hf.1;exact h.fit a C;rw[J];exact fun x E=>h.DA x (O x E);rw[J];exact h.due.sub BY;rw[J];intro x E;obtain⟨k,u,v,V,ab,ac,hu,hv,ad⟩:=h.has x (O x E);obtain⟨u',ae⟩:=t.all _ _ hu;obtain⟨v',af⟩:=t.all _ _ hv;exact⟨k,u',v',by rw[qqR et];exact V,ab,ac,by rw[yu I];exact ae,by rw[yu I];exact af,ad⟩;intro i a C;rw[yu I] at C;obtain⟨a0,G,_,hw,_,_⟩:=t.uD i a C
 have:=h.mr i a0 G
 rw[J,qqt et,hw];unfold iQ at this⊢;rw[h.due.pV U] at this;omega;intro i a C;rw[yu I] at C;obtain⟨a0,G,_,_,hw,_⟩:=t.uD i a C
 have:=h.mC i a0 G
 rw[J,qqt et,hw];unfold iQ at this⊢;rw[h.due.pV U] at this;omega
def Bk.many (b:Bk):Nat:=b.size+5*b.due.length
def qqn(h:d∈b.due):(lg b d n).many<=b.many/\b.size+5<=b.many:=by
 have E:(lg b d n).due.length<b.due.length:=(by rw[(vX (b:=b) (d:=d) (n:=n)).2.2.1];unfold ib;rw[length_filter_lt_length_iff_exists];exact⟨d,h,oL⟩);have z:=Gf (b:=b) (p:=(gl (tK b d) (kb b (gc (tK b d)) (gd (tK b d)))).getD pK) (n:=n);have u:=sC (kf:=fun x:gB×Int=>x.1) (a:=(gj (tK b d),4)) (l:=(fg b ((gl (tK b d) (kb b (gc (tK b d)) (gd (tK b d)))).getD pK) n).kA);have G:(lg b d n).size<=b.size+5:=by
  have e:(lg b d n).size=(((fg b ((gl (tK b d) (kb b (gc (tK b d)) (gd (tK b d)))).getD pK) n).fN (gj (tK b d),4)).jz d).size:=rfl;rw[e];have C:(ib d (fg b ((gl (tK b d) (kb b (gc (tK b d)) (gd (tK b d)))).getD pK) n).due).length<=(fg b ((gl (tK b d) (kb b (gc (tK b d)) (gd (tK b d)))).getD pK) n).due.length:=BY.length_le;generalize fg b ((gl (tK b d) (kb b (gc (tK b d)) (gd (tK b d)))).getD pK) n=B at z u C⊢;unfold Bk.size Bk.jz Bk.fN at *
  dsimp only at *
  omega
 have I:0<b.due.length:=length_pos_of_mem h;unfold Bk.many;omega
def rL.uy{c:Nat}:∀ {l:List (HL ig)} {b:Bk} {n:Int},rL b->l.Sublist b.due->3*b.many+1<=c->ou c b l n/\rL (fO b l n)/\(fO b l n).many<=b.many
 | [],b,n,h,_,_=>⟨trivial,h,zM _⟩
 | d::r,b,n,h,C,I=>by have u:d∈b.due:=C.subset mem_cons_self;have E:=qqn (n:=n) u;have G:=(vX (b:=b) (d:=d) (n:=n)).2.2.1;have ih:=rL.uy (c:=c) (l:=r) (b:=lg b d n) (n:=(n+1)%18446744073709551616) (h.one u) (by rw[G];exact h.due.rest C) oJ;exact⟨⟨⟨u,(h.Q9 u).ok,oJ⟩,ih.1⟩,ih.2.1,zL ih.2.2 E.1⟩
def Dy{j8 most:Int}:(iy l j8 most).Sublist l:=(take_sublist _ _).trans filter_sublist
def qvG{x:HL ig}:∀ {l:List (HL ig)} {b:Bk} {n:Int},x∈(fO b l n).due↔x∈b.due/\∀d∈l,lF x≠lF d
 | [],b,n=>by simp[fO]
 | d::r,b,n=>by rw[fO,qvG,(vX (b:=b) (d:=d) (n:=n)).2.2.1];unfold ib;simp only[mem_filter,forall_mem_cons,decide_eq_true_eq,and_assoc]
def Hf:∀ {l:List (HL ig)} {b:Bk} {n:Int},(fO b l n).jA=b.jA
 | [],b,n=>rfl
 | d::r,b,n=>by rw[fO,Hf,vX.2.1]
def qoz:∀ {l:List (HL ig)} {b:Bk} {n:Int},qf b.due->l.Sublist b.due->(∀x y,x∈l->y∈b.due->y∉l->mE x y=true)->(fO b l n).due=b.due.drop l.length
 | [],b,n,_,_,_=>rfl
 | d::r,b,n,h,u,G=>by
  have I:=(vX (b:=b) (d:=d) (n:=n)).2.2.1;have V:∃t,b.due=d::t:=by
   cases R:b.due with
   | nil=>rw[R] at u;cases u
   | cons x t=>
    refine⟨t,?_⟩;rw[R] at h u G;by_cases e:x=d;rw[e];exfalso;have hd:d∈t:=(zG.1 (u.subset mem_cons_self)).resolve_left fun h=>e h.symm;have lt:=(yJ.1 h).1 d hd;by_cases C:x∈d::r;have C:x∈r:=(zG.1 C).resolve_left e
    have:=(yJ.1 (h.sub u)).1 x C
    rw[wS] at lt this;omega
    have:=G d x mem_cons_self mem_cons_self C
    rw[wS] at lt this;omega
  obtain⟨t,E⟩:=V;rw[E] at h u G;have J:ib d (d::t)=t:=h.sY;rw[fO,qoz (l:=r) (b:=lg b d n) (by rw[I,E,J];exact (yJ.1 h).2) (by rw[I,E,J];exact cons_sublist_cons.1 u) (by
   rw[I,E,J];intro x y C U O;refine G x y (zN _ C) (zN _ U) fun Q=>?_;rcases zG.1 Q with rfl|Q
   have:=(yJ.1 h).1 y U
   rw[wS] at this;omega;exact O Q),I,E,J]
  rfl
def qyu(h:qf b.due)(j8 most n:Int):(fO b (iy b.due j8 most) n).due=b.due.drop (iy b.due j8 most).length:=by refine qoz h Dy fun x y C O I=>?_;have E:x∈b.due.filter (fun d=>decide (d.1<=j8)):=yV C;have Q:(lF x).1<=j8:=zC (mem_filter.1 E).2;have J:qf (b.due.filter fun d=>decide (d.1<=j8)):=h.sub filter_sublist;by_cases hy1:(lF y).1<=j8;have u:y∈b.due.filter (fun d=>decide (d.1<=j8)):=mem_filter.2 ⟨O,yA hy1⟩;unfold iy at C I;rw[<- xE most.toNat (b.due.filter fun d=>decide (d.1<=j8))] at J u;have G:=(zD.1 u).resolve_left I;exact (pairwise_append.1 J).2.2 x C y G;exact wS.2 (.inl oJ)
abbrev nR:List Cell:=[.b,.b,.int .u64,.int .u64,.u,.b,.int .u16]
abbrev Pn:=HL nR
def qO (x:Pn):Int:=x.1
def qG (x:Pn):Int:=x.2.1
def Fc (x:Pn):gB:=(x.2.2.1,x.2.2.2.1)
def pnT (x:Pn):Int:=x.2.2.2.2.1
def rP (x:Pn):Int:=x.2.2.2.2.2.1
def wQ (x:Pn):Int:=x.2.2.2.2.2.2
def C1 (x:Int):Int:=bits .or .u16 x 2
def qxg{x:Int}(C:0<=x/\x<65536):(0<=C1 x/\C1 x<65536)/\hasB (C1 x) 2=true:=by
 obtain⟨n,rfl⟩:∃n:Nat,x=n:=⟨x.toNat,oJ⟩;have e:C1 (n:Int)=wrap .u16 ((BitVec.ofInt 16 (n:Int)||| BitVec.ofInt 16 ((2:Nat):Int)).toNat:Nat):=rfl;rw[BitVec.toNat_or,B0 n oJ,B0 2 oM] at e;have h:n||| 2<2^16:=Nat.or_lt_two_pow oJ oM;rw[uq _ ⟨Int.natCast_nonneg _,Int.ofNat_lt.2 h⟩] at e;rw[e];refine⟨oJ,?_⟩;unfold hasB;have u:(n||| 2).testBit 1=true:=(by rw[Nat.testBit_or];simp[Nat.testBit]);rw[Nat.testBit_eq_decide_div_mod_eq] at u
 have:=zC u
 exact yA oJ
def qC (n i:Nat) (st:Int) (x:Pn):HL io:=((1:Int),(i:Int),(0:Int),qO x%(n:Int)+1,(0:Int),qG x%(n:Int)+1,(Fc x).1,(Fc x).2,(0:Int),(0:Int),(0:Int),pnT x,(0:Int),(0:Int),C1 (wQ x),st)
def px (t:HL io) (p:Pa):Option Pa:=
 (lQ (gf p.1) (fK t)).bind fun x=>(lQ (gz p.2.1) (fK t)).map fun y=>
  (let d:=kZ x p.1;if hasB (jE t) 64 then jY (u7 (iX d) 16) d else d,let c:=lB y p.2.1;if hasB (jE t) 128 then jY (u7 (iX c) 16) c else c,p.2.2)
def qE (b:Bk) (t:HL io) (q:Pa):Bk:=
 let b1:=(((b.dQ q.1).dQ q.2.1).ga (t,fK t)).fN (gj t,1)
 match ot t with
 | none=>b1
 | some e=>b1.jy (e,kx t,gj t)
def lJ (s:Int) (x:Pn):Int:=s+(1+rP x)
def lq (n i:Nat) (s:Int) (b:Bk) (x:Pn):Bk:=
 let t:=qC n i (lJ s x) x
 match px t (kb b (gc t) (gd t)) with
 | none=>b
 | some q=>if qO x%(n:Int)=qG x%(n:Int) then b else qE b t q
def nO (n:Nat):Nat->Int->Bk->List Pn->Bk
 | _,_,b,[]=>b
 | i,s,b,x::r=>nO n (i+1) (lJ s x) (lq n i s b x) r
def oj (i:Nat) (a:HL fx):HL fx:=((0:Int),(i:Int)+1,a.2.2)
def mh (l:List (HL fx)):List (HL fx):=l.mapIdx oj
def vh (l:List (HL fx)):Bk:=⟨mh l,[],[],[],[],[],[],none,0⟩
def iC (l:List (HL fx)) (ps:List Pn):Bk:=if l.length<2 then vh l else nO l.length 0 1 (vh l) ps
structure rA (n i:Nat) (s:Int) (b:Bk):Prop where
 snd:rL b
 acc:∀ j:Nat,j<n->∃ a,eG b (0,(j:Int)+1)=some a
 ids:∀ d∈b.due,∃ j:Nat,j<i/\oV d=(1,(j:Int))
 pM:∀ d∈b.due,(lF d).2<=s
 len:b.acc.length=n
 many:b.many<=n+10*i
 st:1<=s/\s<=1+256*i
def qog{t:HL io}{p q:Pa}(G:ee io t)(I:ee fx p.1)(J:ee fx p.2.1)(h:px t p=some q): ee fx q.1/\ee fx q.2.1/\gX q.1=gX p.1/\gX q.2.1=gX p.2.1/\wv (gf q.1)=wv (gf p.1)+wv (fK t)/\gz q.1=gz p.1/\gf q.2.1=gf p.2.1/\wv (gz q.2.1)=wv (gz p.2.1)+wv (fK t):=by
 unfold px at h;obtain⟨x,Q,h⟩:=Option.bind_eq_some_iff.1 h;obtain⟨y,R,rfl⟩:=yT.1 h;obtain⟨e1,o1⟩:=qqM (zq I) (ti G) Q;obtain⟨U,V⟩:=qqM (xw J) (ti G) R;have C:=qqF o1 I;have E:=qqE V J;have u:∀ {f:Int},0<=f/\f<65536->0<=u7 f 16/\u7 f 16<65536:=fun {f} O=>by
  have:=qzi O
  unfold u7;split;exact O
  ·next e=>
   have:=this.2 (oP e)
   omega
 rw[<- e1,<- U];refine⟨?_,?_,?_,?_,?_,?_,?_,?_⟩<;>dsimp only<;>split;exact DX (u (tM C)) C;exact C;exact DX (u (tM E)) E;exact E;all_goals rfl
def C0{x:HL ig}:x∈jZ d l↔x=d\/x∈l:=by rw[CE.mem_iff,zG]
def qkC{d:HL ig}:∀ {l:List (HL ig)},qf l->(∀x∈l,lF x≠lF d)->qf (jZ d l)
 | [],_,_=>pairwise_singleton _ _
 | x::r,h,E=>by have C:=yJ.1 h;unfold jZ;by_cases e:mE d x=true;rw[if_pos e];refine yJ.2 ⟨fun y u=>?_,h⟩;rcases zG.1 u with rfl|u;exact e;have G:=C.1 y u;rw[wS] at e G⊢;omega;rw[if_neg e];refine yJ.2 ⟨fun y u=>?_,qkC C.2 fun y u=>E y (zN _ u)⟩;rcases C0.1 u with rfl|u;have I:=E x mem_cons_self;rw[wS] at e⊢;have G:¬((lF x).1=(lF y).1/\(lF x).2=(lF y).2):=fun h=>I (Prod.ext h.1 h.2);omega;exact C.1 y u
def Hc{n i:Nat}{x:Pn}(O:2<=n/\n<=8)(hi:i<1000)(u:mn s)(C:ee nR x):ee io (qC n i s x):=by obtain⟨Q,R,E,G,I,U,J⟩:=C;have h:(0:Int)<=wQ x/\wQ x<=65535:=J;have o:=(qxg (x:=wQ x) ⟨h.1,oJ⟩).1;have V:0<=qO x%(n:Int)/\qO x%(n:Int)<n:=⟨Int.emod_nonneg _ oJ,Int.emod_lt_of_pos _ oJ⟩;have m2:0<=qG x%(n:Int)/\qG x%(n:Int)<n:=⟨Int.emod_nonneg _ oJ,Int.emod_lt_of_pos _ oJ⟩;exact⟨rH (x:=1) ⟨oM,oM⟩,rH (x:=(i:Int)) ⟨oJ,oJ⟩,qb,rH (x:=qO x%(n:Int)+1) ⟨oJ,oJ⟩,qb,rH (x:=qG x%(n:Int)+1) ⟨oJ,oJ⟩,E,G,qb,qb,qb,I,show (0:Int)<=0/\(0:Int)<=4294967295 from⟨oM,oM⟩,yw (x:=0) ⟨oM,oM⟩,yw o,rH u⟩
def G8{side:HL io->gB}{b:Bk}{i:gB}{d:HL ig}:∀ {l:List (HL ig)},iQ side b i (jZ d l)=(if side (tK b d)=i then wv (fK (tK b d)) else 0)+iQ side b i l
 | []=>by unfold jZ iQ;simp
 | x::r=>by have ih:=G8 (side:=side) (b:=b) (i:=i) (d:=d) (l:=r);unfold jZ;unfold iQ at ih⊢;split;rw[xO,sum_cons];rw[xO,sum_cons,ih,xO,sum_cons];omega
def qxQ{k:Kp}:gY (b.ga k) i=if qz k=i then some k else gY b i:=Hx
def qmK(h:∀d∈l,tK b d=tK b' d):iQ side b i l=iQ side b' i l:=by unfold iQ;rw[map_congr_left fun d u=>by rw[h d u]]
def rA.made{n i:Nat}{x:Pn}{q:Pa}(h:rA n i s b)(hn:2<=n/\n<=8)(hi:i<25)(hx:ee nR x)(am:qO x%(n:Int)≠qG x%(n:Int))(hq:px (qC n i (lJ s x) x) (kb b (gc (qC n i (lJ s x) x)) (gd (qC n i (lJ s x) x)))=some q):rA n (i+1) (lJ s x) (qE b (qC n i (lJ s x) x) q):=by
 have aX:(0:Int)<=rP x/\rP x<=255:=hx.2.2.2.2.2.1;have aY:=h.st;have es:lJ s x=s+(1+rP x):=rfl;have an:mn (lJ s x):=⟨oJ,oJ⟩;have O:=Hc (i:=i) hn oJ an hx;have eI:gj (qC n i (lJ s x) x)=(1,(i:Int)):=rfl;have eN:kx (qC n i (lJ s x) x)=lJ s x:=rfl;have m1:0<=qO x%(n:Int)/\qO x%(n:Int)<n:=⟨Int.emod_nonneg _ oJ,Int.emod_lt_of_pos _ oJ⟩;have m2:0<=qG x%(n:Int)/\qG x%(n:Int)<n:=⟨Int.emod_nonneg _ oJ,Int.emod_lt_of_pos _ oJ⟩;have eD:gc (qC n i (lJ s x) x)=(0,(((qO x%(n:Int)).toNat:Nat):Int)+1):=(by rw[Int.toNat_of_nonneg m1.1];rfl);have eC:gd (qC n i (lJ s x) x)=(0,(((qG x%(n:Int)).toNat:Nat):Int)+1):=(by rw[Int.toNat_of_nonneg m2.1];rfl);obtain⟨u,hu⟩:=h.acc (qO x%(n:Int)).toNat oJ;obtain⟨v,hv⟩:=h.acc (qG x%(n:Int)).toNat oJ;have Q:gc (qC n i (lJ s x) x)≠gd (qC n i (lJ s x) x):=by
  rw[eD,eC];intro e
  have:=congrArg Prod.snd e
  dsimp only at this;omega
 rw[<- eD] at hu;rw[<- eC] at hv;generalize qC n i (lJ s x) x=t at O eI eN Q hu hv hq⊢;clear eD eC;have ep:kb b (gc t) (gd t)=(u,v,true,true):=(by unfold kb;rw[hu,hv];rfl);rw[ep] at hq;obtain⟨f1,f2,i1,i2,w1,w2,w3,w4⟩:=qog (p:=(u,v,true,true)) O (h.snd.fit u (sO hu).1) (h.snd.fit v (sO hv).1) hq;have ah:gX q.1=gc t:=i1.trans (sO hu).2;have ao:gX q.2.1=gd t:=i2.trans (sO hv).2;have a8:=ww (ti O);have w1:wv (gf q.1)=wv (gf u)+wv (fK t):=w1;have w2:gz q.1=gz u:=w2;have w3:gf q.2.1=gf v:=w3;have w4:wv (gz q.2.1)=wv (gz v)+wv (fK t):=w4;have aJ:∀j,eG ((b.dQ q.1).dQ q.2.1) j=if gd t=j then some q.2.1 else if gc t=j then some q.1 else eG b j:=fun j=>by rw[Ak,Ak,ah,ao]
 have ab:((b.dQ q.1).dQ q.2.1).acc.length=b.acc.length:=(by have l1:(b.dQ q.1).acc.length=b.acc.length:=CO (by rw[ah];show eG b _≠none;rw[hu];exact fun h=>nomatch h);rw[<- l1];refine CO ?_;show eG (b.dQ q.1) (gX q.2.1)≠none;rw[Ak,ah,ao,if_neg Q,hv];exact fun h=>nomatch h);have ap:∀a∈((b.dQ q.1).dQ q.2.1).acc,ee fx a:=fun a C=>by rcases AV C with rfl|C;exact f2;rcases AV C with rfl|C;exact f1;exact h.snd.fit a C
 generalize J:(((b.dQ q.1).dQ q.2.1).ga (t,fK t)).fN (gj t,1)=b1;have a1:b1.acc=((b.dQ q.1).dQ q.2.1).acc:=(by rw[<- J];rfl);have U:b1.due=b.due:=(by rw[<- J];rfl);have t1:∀j,gY b1 j=if gj t=j then some (t,fK t) else gY b j:=fun j=>by rw[<- J];exact qxQ (b:=(b.dQ q.1).dQ q.2.1)
 have z1:b1.size<=b.size+4:=(by have y1:=sC (kf:=qz) (a:=(t,fK t)) (l:=b.jA);have y2:=sC (kf:=fun x:gB×Int=>x.1) (a:=(gj t,1)) (l:=b.kA);have y3:=sC (kf:=pz) (a:=wu t) (l:=b.mr);have y4:=sC (kf:=pz) (a:=Ag t) (l:=b.mC);have e:b1.size=((b.dQ q.1).dQ q.2.1).acc.length+(ik qz (t,fK t) b.jA).length+(ik (fun x:gB×Int=>x.1) (gj t,1) b.kA).length+b.due.length+(ik pz (wu t) b.mr).length+(ik pz (Ag t) b.mC).length+b.kH.length+b.last.toList.length:=(by rw[<- J];rfl);rw[e,ab];unfold Bk.size;omega);have eM:qE b t q=match ot t with
  | none=>b1
  | some e=>b1.jy (e,kx t,gj t):=by rw[<- J];rfl
 clear J;have aq:∀d∈b.due,gj t≠oV d:=fun d G e=>by
  obtain⟨j,hj,e2⟩:=h.ids d G;rw[eI,e2] at e
  have:=congrArg Prod.snd e
  dsimp only at this;omega
 have ar:∀d∈b.due,tK b1 d=tK b d:=fun d G=>by unfold tK;rw[t1,if_neg (aq d G)]
 have V:∀j,eG b1 j=if gd t=j then some q.2.1 else if gc t=j then some q.1 else eG b j:=fun j=>by rw[yu a1,aJ]
 have R:∀j a,eG b j=some a->∃a',eG b1 j=some a':=fun j a C=>by rw[V];split;exact⟨_,rfl⟩;split;exact⟨_,rfl⟩;exact⟨a,C⟩
 have au:∀j a,eG b1 j=some a->∃a0,eG b j=some a0/\wv (gf a)=wv (gf a0)+(if gc t=j then wv (fK t) else 0)/\wv (gz a)=wv (gz a0)+(if gd t=j then wv (fK t) else 0):=fun j a C=>by
  rw[V] at C;split at C
  ·next e=>
   cases C;subst e;exact⟨v,hv,by rw[if_neg Q,w3];omega,by rw[if_pos rfl];exact w4⟩
  ·next e=>
   split at C
   ·next e'=>
    cases C;subst e';exact⟨u,hu,by rw[if_pos rfl];exact w1,by rw[if_neg e,w2];omega⟩
   ·next e'=>exact⟨a,C,by rw[if_neg e'];omega,by rw[if_neg e];omega⟩
 have ac:∀d∈b.due,∃k x y,gY b1 (oV d)=some k/\rQ k/\qz k=oV d/\eG b1 (gc k.1)=some x/\eG b1 (gd k.1)=some y/\gc k.1≠gd k.1:=fun d G=>by obtain⟨k,x,y,hk,aL,aM,hx,E,am⟩:=h.snd.has d G;obtain⟨x',aN⟩:=R _ _ hx;obtain⟨y',aO⟩:=R _ _ E;exact⟨k,x',y',by rw[t1,if_neg (aq d G)];exact hk,aL,aM,aN,aO,am⟩
 have pI:∀j:Nat,j<n->∃a,eG b1 (0,(j:Int)+1)=some a:=fun j hj=>by obtain⟨a,C⟩:=h.acc j hj;exact R _ _ C
 have ad:b1.acc.length=n:=(by rw[a1,ab];exact h.len);have hm:=h.many;have ae:∀a∈b1.acc,ee fx a:=(by rw[a1];exact ap);have av:∀j a,eG b1 j=some a->iQ gc b1 j b.due+(if gc t=j then wv (fK t) else 0)<=wv (gf a):=fun j a C=>by
  obtain⟨a0,aj,e1,_⟩:=au j a C
  have:=h.snd.mr j a0 aj
  rw[qmK ar,e1];omega
 have aw:∀j a,eG b1 j=some a->iQ gd b1 j b.due+(if gd t=j then wv (fK t) else 0)<=wv (gz a):=fun j a C=>by
  obtain⟨a0,aj,_,e1⟩:=au j a C
  have:=h.snd.mC j a0 aj
  rw[qmK ar,e1];omega
 rw[eM];have ax:∀(p:Prop) [Decidable p],0<=if p then wv (fK t) else 0:=fun p _=>by split<;>omega
 cases G:ot t with
 | none=>
  show rA n (i+1) (lJ s x) b1;refine⟨⟨ae,by rw[U];exact h.snd.DA,by rw[U];exact h.snd.due,by rw[U];exact ac,fun j a C=>?_,fun j a C=>?_⟩,pI,by rw[U];exact fun d G=>(h.ids d G).elim fun j hj=>⟨j,oJ,hj.2⟩,by rw[U];exact fun d G=>by have:=h.pM d G;omega,ad,?_,oJ,oJ⟩;rw[U]
  have:=av j a C
  have:=ax (gc t=j)
  omega;rw[U]
  have:=aw j a C
  have:=ax (gd t=j)
  omega;unfold Bk.many at hm⊢;rw[U];omega
 | some e=>
  have he:mn e:=(by unfold ot at G;have hN:=O.2.2.2.2.2.2.2.2.2.2.2.2.2.2.2;have hO:=O.2.2.2.2.2.2.2.2.2.2.2.1;have hN:(0:Int)<=kx t/\kx t<=18446744073709551615:=hN;have hO:(0:Int)<=lN t/\lN t<=4294967295:=hO;split at G;cases G;split at G;cases G;exact⟨oJ,oJ⟩;cases G);show rA n (i+1) (lJ s x) (b1.jy (e,kx t,gj t));generalize ak:((e,kx t,gj t):HL ig)=I;have k0:oV I=gj t:=(by rw[<- ak];rfl);have k1:(lF I).2=lJ s x:=(by rw[<- ak];exact eN);have f0:ee ig I:=(by rw[<- ak];exact⟨rH he,O.2.2.2.2.2.2.2.2.2.2.2.2.2.2.2,O.1,O.2.1⟩);have nk:∀y∈b.due,lF y≠lF I:=fun y E e=>by
   have:=h.pM y E
   rw[e] at this;omega
  have ec:ib I b.due=b.due:=filter_eq_self.2 fun y E=>yA (nk y E);have e3:(b1.jy I).due=jZ I b.due:=(by show jZ I (ib I b1.due)=_;rw[U,ec]);have ay:tK b1 I=t:=(by unfold tK;rw[k0,t1,if_pos rfl];rfl);have az:∀d,tK (b1.jy I) d=tK b1 d:=fun d=>rfl;have u1:eG b1 (gc t)=some q.1:=(by rw[V,if_neg Q.symm,if_pos rfl]);have u2:eG b1 (gd t)=some q.2.1:=(by rw[V,if_pos rfl]);refine⟨⟨ae,?_,?_,?_,fun j a C=>?_,fun j a C=>?_⟩,pI,?_,?_,ad,?_,oJ,oJ⟩;rw[e3];exact fun y E=>(C0.1 E).elim (fun e=>by rw[e];exact f0) (h.snd.DA y);rw[e3];exact qkC h.snd.due nk;rw[e3];intro y E;rcases C0.1 E with rfl|E;exact⟨(t,fK t),q.1,q.2.1,by show gY b1 (oV y)=_;rw[k0,t1,if_pos rfl],⟨O,O.2.2.2.2.2.2.1,O.2.2.2.2.2.2.2.1⟩,k0.symm,u1,u2,Q⟩;exact ac y E;rw[e3,G8,az,ay]
  have:=av j a C
  have e4:iQ gc (b1.jy I) j b.due=iQ gc b1 j b.due:=rfl;omega;rw[e3,G8,az,ay]
  have:=aw j a C
  have e4:iQ gd (b1.jy I) j b.due=iQ gd b1 j b.due:=rfl;omega;rw[e3];intro y E;rcases C0.1 E with rfl|E;exact⟨i,oJ,k0.trans eI⟩;exact (h.ids y E).elim fun j hj=>⟨j,oJ,hj.2⟩;rw[e3];intro y E;rcases C0.1 E with rfl|E;omega
  have:=h.pM y E
  omega;have l3:(jZ I b.due).length=b.due.length+1:=(by rw[CE.length_eq];rfl);have z3:(b1.jy I).size=b1.size+1:=by have e5:(b1.jy I).size=b1.acc.length+b1.jA.length+b1.kA.length+(b1.jy I).due.length+b1.mr.length+b1.mC.length+b1.kH.length+b1.last.toList.length:=rfl;have e6:b1.size=b1.acc.length+b1.jA.length+b1.kA.length+b1.due.length+b1.mr.length+b1.mC.length+b1.kH.length+b1.last.toList.length:=rfl;rw[e5,e3,l3,e6,U];omega
  unfold Bk.many at hm⊢;rw[z3,e3,l3];omega
def rA.mono{n i:Nat}{u:Int}(h:rA n i s b)(G:s<=u)(I:u<=s+256):rA n (i+1) u b:=
 ⟨h.snd,h.acc,fun d C=>(h.ids d C).elim fun j E=>⟨j,oJ,E.2⟩,fun d C=>by have:=h.pM d C;omega,h.len,by have:=h.many;omega,by have:=h.st;omega,by have:=h.st;omega⟩
def rA.uD{n i:Nat}{x:Pn}(h:rA n i s b)(C:2<=n/\n<=8)(hi:i<25)(u:ee nR x):rA n (i+1) (lJ s x) (lq n i s b x):=by
 have E:(0:Int)<=rP x/\rP x<=255:=u.2.2.2.2.2.1;have G:lJ s x=s+(1+rP x):=rfl;unfold lq;dsimp only;split;exact h.mono oJ oJ
 ·next q hq=>
  split;exact h.mono oJ oJ
  ·next hne=>exact h.made C hi u hne hq
def qwL{l:List (HL fx)}{j:Nat}(h:j<l.length):∃a,(mh l).find? (fun x=>decide (gX x=(0,(j:Int)+1)))=some a:=by
 have C:oj j l[j]∈mh l:=mem_mapIdx.2 ⟨j,h,rfl⟩;cases u:(mh l).find? (fun x=>decide (gX x=(0,(j:Int)+1))) with
 | some a=>exact⟨a,rfl⟩
 | none=>
  rw[List.find?_eq_none] at u;exact absurd (by simp[gX,oj]) (u _ C)
def qsK{i:Nat}(hi:i<1000)(h:ee fx a):ee fx (oj i a):=⟨qb,rH (x:=(i:Int)+1) ⟨oJ,oJ⟩,h.2.2⟩
def rA.start{l:List (HL fx)}(O:l.length<=8)(G:∀a∈l,ee fx a):rA l.length 0 1 (vh l):=by
 have e:(vh l).acc.length=l.length:=length_mapIdx;have nn:∀a,ee fx a->0<=wv (gf a)/\0<=wv (gz a):=fun a h=>⟨(ww (zq h)).1,(ww (xw h)).1⟩;have u:∀a∈(vh l).acc,ee fx a:=fun a E=>by obtain⟨i,I,rfl⟩:=mem_mapIdx.1 E;exact qsK oJ (G _ (zX I))
 refine⟨⟨u,(fun d C=>nomatch C),List.Pairwise.nil,(fun d C=>nomatch C),fun i a E=>(nn a (u a (sO E).1)).1,fun i a E=>(nn a (u a (sO E).1)).2⟩,fun j J=>qwL J,(fun d C=>nomatch C),(fun d C=>nomatch C),e,?_,oM,oM⟩;unfold Bk.many Bk.size;rw[e];show l.length+0+0+0+0+0+0+0+5*0<=_;omega
def DF:∀ {l:List (HL ig)} {b b':Bk} {n n':Int},b.acc=b'.acc->b.jA=b'.jA->(fO b l n).acc=(fO b' l n').acc
 | [],_,_,_,_,h,_=>h
 | d::r,b,b',n,n',h,u=>by have C:=vX (b:=b) (d:=d) (n:=n);have E:=vX (b:=b') (d:=d) (n:=n');refine DF (l:=r) ?_ (by rw[C.2.1,E.2.1,u]);rw[C.1,E.1];unfold lX Bk.dQ kb;simp only[qxO u,yu h,h]
def qqw:∀ {l1 h:List (HL ig)} {b:Bk} {n n':Int},(fO b (l1++h) n).acc=(fO (fO b l1 n) h n').acc
 | [],h,b,n,n'=>DF rfl rfl
 | d::r,h,b,n,n'=>qqw (l1:=r)
def lP (b:Bk) (first:Int):List (HL ig):=b.due.filter fun d=>decide (d.1<=first)
def qwB(h:qf l):l=(l.filter fun d=>decide (d.1<=first))++l.filter fun d=>!decide (d.1<=first):=by
 induction l with
 | nil=>rfl
 | cons x r ih=>
  have E:=yJ.1 h;by_cases e:(lF x).1<=first
  ·have G:decide (x.1<=first)=true:=yA e;rw[filter_cons,if_pos G,filter_cons,if_neg (by rw[G];decide),xJ,<- ih E.2]
  ·have I:∀y∈x::r,¬y.1<=first:=fun y u=>by
    rcases zG.1 u with rfl|u;exact e
    ·exact fun C=>e (by have J:=wS.1 (E.1 y u);have O:(lF y).1<=first:=C;omega)
   rw[filter_eq_nil_iff.2 fun y u=>by simpa using I y u,xI];exact (filter_eq_self.2 fun y u=>by simpa using I y u).symm
def qys{k:Nat}(h:qf l)(C:k<=(l.filter fun d=>decide (d.1<=first)).length):(l.drop k).filter (fun d=>decide (d.1<=first))=(l.filter fun d=>decide (d.1<=first)).drop k:=by
 have e0:=qwB (first:=first) h;have e1:(l.drop k).filter (fun d=>decide (d.1<=first))=(((l.filter fun d=>decide (d.1<=first))++l.filter fun d=>!decide (d.1<=first)).drop k).filter fun d=>decide (d.1<=first):=(by rw[<- e0]);have E:((l.filter fun d=>decide (d.1<=first)).drop k).filter (fun d=>decide (d.1<=first))=(l.filter fun d=>decide (d.1<=first)).drop k:=filter_eq_self.2 fun y u=>(mem_filter.1 (yU u)).2;have G:(l.filter fun d=>!decide (d.1<=first)).filter (fun d=>decide (d.1<=first))=[]:=filter_eq_nil_iff.2 fun y u=>by simpa using (mem_filter.1 u).2
 rw[e1,drop_append_of_le_length C,xC,E,G,xH]
structure oo (b:Bk) (first:Int) (k:Nat) (x:Bk):Prop where
 le:k<=(lP b first).length
 acc:x.acc=(fO b ((lP b first).take k) 0).acc
 jA:x.jA=b.jA
 due:x.due=b.due.drop k
def oo.next{x:Bk}{k m:Nat}(h:oo b first k x)(E:qf b.due)(n:Int): iy x.due first m=((lP b first).drop k).take m/\oo b first (k+min m ((lP b first).length-k)) (fO x (iy x.due first m) n):=by
 have e1:iy x.due first m=((lP b first).drop k).take m:=by unfold iy;rw[h.due,zJ];rw[qys E h.le];rfl
 have C:(iy x.due first m).length=min m ((lP b first).length-k):=(by rw[e1,yL,yC]);refine⟨e1,⟨by have:=h.le;omega,?_,by rw[Hf];exact h.jA,?_⟩⟩
 ·have G:(lP b first).take (k+min m ((lP b first).length-k))=(lP b first).take k++iy x.due first m:=by rw[e1,take_add];congr 1;rw[<- yC];rcases Nat.le_total m ((lP b first).drop k).length with u|u;rw[xR u];rw[Nat.min_eq_right u,zS u,xZ]
  rw[G,qqw (n':=n)];exact DF h.acc (by rw[Hf];exact h.jA)
 ·have I:qf x.due:=by rw[h.due];exact E.sub (drop_sublist _ _)
  have:=qyu (b:=x) I first m n
  rw[this,C,h.due,xD]
def oo.start:oo b first 0 b:=⟨yX _,rfl,rfl,rfl⟩
def oo.all{x:Bk}{most:Int}{k:Nat}(h:oo b first k x)(u:(lP b first).length<=k)(C:(b.due.length:Int)<=most):x.acc=(fO b (iy b.due first most) n).acc:=by
 have e:iy b.due first most=lP b first:=zS (by have:=length_filter_le (fun d:HL ig=>decide (d.1<=first)) b.due;omega)
 rw[h.acc,e,zS u];exact DF rfl rfl
end
section
open Go Go.Pt List
open Go.IntKind (wrap)
open Classical
section
variable {α:Type} {p:α->Bool} {x:α} {l A B:List α} {lt:α->α->Prop}
end
end
section
open Go Go.Pt List
open Go.IntKind (wrap)
open Classical
def qBB{P:Program}{t:TypeId}{x y:Operand}{cs ds:Array Value}{w:World}{K:Bool->Prop}(d:Nat)(G:d<=10000)(r:Bool)(h:uZ P d t (.agg cs) (.agg ds)=some r)(C:P.eqGuardType P.depth t=false)(k:K (!r)): fw [iD.one Cell.bool] (fun w'=>(do eqGuard .neq t x y (.agg cs) (.agg ds);binOp .neq t (.agg cs) (.agg ds):Sem Value).run P w') w K:=by have u:=ER d t _ _ r h (10000-d) w;rw[show d+(10000-d)=10000 by omega] at u;have E:(binOp .neq t (.agg cs) (.agg ds)).run P w=.ok (.bool (!r)) w:=uh (P:=P) true u oL oL oL oL;refine sA (ts:=[iD.one Cell.bool]) (!r) ?_ k;show ((do eqGuard .neq t x y (.agg cs) (.agg ds);binOp .neq t (.agg cs) (.agg ds):Sem Value).run P w)=Result.ok (Value.bool (!r)) w;simp[eqGuard,C,E]
attribute [local irreducible] ld dK gW nu js eS st new idx jI jH fP jF jq mj gI nn call dW inv run fw jd join loop held ext kO eT mT nz nH IntKind.wrap
end
section
open Go Go.Pt List
open Go.IntKind (wrap)
open Classical
attribute [local irreducible] ld dK gW nu js eS st new idx jI jH fP jF jq mj gI nn call dW inv run fw jd join loop held ext kO eT mT nz nH IntKind.wrap
variable {K:List Value×Bool->WP} {t:HL io} {w:World}
def pX (is:Bool) (x:Int):Int:=if is then u7 x 16 else mz x 16
def xn (is:Bool) (t:HL io) (d c:HL fx) (q:Bool×Bool):Pa:=(if hasB (jE t) 64 then jY (pX is (iX d)) d else d,if hasB (jE t) 128 then jY (pX is (iX c)) c else c,q)
abbrev wL:TypeId:=55
def qrV{is:Bool}{d c:HL fx}{q:Bool×Bool}{r1 r3 u C:Nat}{G:Obj}{w0:World}(J:0<=jE t/\jE t<65536)(R:0<=iX d/\iX d<65536)(U:0<=iX c/\iX c<65536)(o:dR [] w w0 [(C,.cells (kj pK).toArray qa (0,0)),(u,.cells (kj (d,c,q)).toArray qa (0,0)),(r3,G),(r1,.cells (HL.mk io t).toArray wL (0,0))])(I:∀w',Fr [] w w'->K (kj (xn is t d c q),true) w'): join PUnit (fun X=>ld (.int .u16) (dd r1 14) w0 fun x=>cW 54 [.int .u16 x,.int .u16 64] dg w0 fun b w1=>cond b (ld (.int .u16) (dd u 13) w1 fun x=>cW 67 [.int .u16 x,.bool is] dw w1 fun x w2=>st (dd u 13) [.int .u16 x] w2 fun E=>X () E) (X () w1)) fun _ wa=> join PUnit (fun X=>ld (.int .u16) (dd r1 14) wa fun x=>cW 54 [.int .u16 x,.int .u16 128] dg wa fun b w1=>cond b (ld (.int .u16) (dd u 28) w1 fun x=>cW 67 [.int .u16 x,.bool is] dw w1 fun x w2=>st (dd u 28) [.int .u16 x] w2 fun E=>X () E) (X () w1)) fun _ O=> gW 32 (dd u) O fun vs=>gI (vs.length=32) (st (dd C) vs O fun w1=>gW 32 (dd C) w1 fun vs=>K (vs,true) w1):=by refine iR (fun _ w'=>dR [] w w' [(C,.cells (kj pK).toArray qa (0,0)),(u,.cells (kj (if hasB (jE t) 64 then jY (pX is (iX d)) d else d,c,q)).toArray qa (0,0)),(r3,G),(r1,.cells (HL.mk io t).toArray wL (0,0))]) ?_ fun _ w1 o=>?_;refine oA o 3 rfl (jE t) rfl (A9 J oM ?_);refine eH (fun h=>?_) fun h=>?_;rw[if_pos h];exact oA o 1 rfl (iX d) rfl (qnG R (o.st' 1 rfl (kj (jY (pX is (iX d)) d,c,q)).toArray rfl rfl (zO rfl) fun w1 o _=>o));rw[if_neg (by rw[h];decide)];exact o;unfold xn at I;generalize (if hasB (jE t) 64 then jY (pX is (iX d)) d else d)=Q at o I;refine iR (fun _ w'=>dR [] w w' [(C,.cells (kj pK).toArray qa (0,0)),(u,.cells (kj (Q,if hasB (jE t) 128 then jY (pX is (iX c)) c else c,q)).toArray qa (0,0)),(r3,G),(r1,.cells (HL.mk io t).toArray wL (0,0))]) ?_ fun _ w2 o=>?_;refine oA o 3 rfl (jE t) rfl (A9 J oM ?_);refine eH (fun h=>?_) fun h=>?_;rw[if_pos h];exact oA o 1 rfl (iX c) rfl (qnG U (o.st' 1 rfl (kj (Q,jY (pX is (iX c)) c,q)).toArray rfl rfl (zO rfl) fun w1 o _=>o));rw[if_neg (by rw[h];decide)];exact o;exact nI (o.at (i:=1) rfl) _ (qI _) rfl (mc (qI _) (o.st' 0 rfl _ (iG rfl) rfl (zM _) fun E o _=>nI (o.at (i:=0) rfl) _ (qI _) rfl (I E o.fr)))
def Hj{p q:Pa}{am:gB}(C:ee io t)(E:ee fx p.1)(h:ee fx p.2.1)(u:gl t p=some q)(G:∀w',Fr [] w w'->K (kj q,true) w'): cW 44 [.agg (HL.mk io t).toArray,da am.1 am.2,.bool false,.agg (kj p).toArray] di w K:=by refine qgv ?_;unfold gl at u;obtain⟨x,I,u⟩:=Option.bind_eq_some_iff.1 u;obtain⟨y,J,rfl⟩:=yT.1 u;have O:=wo;refine oB (oE [] w) fun r1 w1 _ V o=>oB o fun r3 w2 _ f2 o=>oB o fun r5 w3 _ f3 o=>oI o O fun r7 w4 _ o=>oC o 1 rfl (gf p.1) rfl (oC o 3 rfl (fK t) rfl (qtR (zq E) (ti C) fun w5 Q=>?_));rw[I];refine (o.q7 Q).st' 1 rfl (kj (kZ x p.1,p.2)).toArray rfl rfl (zO rfl) fun w6 o _=>oC o 1 rfl (gz p.2.1) rfl (oC o 3 rfl (fK t) rfl (qtR (xw h) (ti C) fun w7 R=>?_));rw[J];refine (o.q7 R).st' 1 rfl (kj (kZ x p.1,lB y p.2.1,p.2.2)).toArray rfl rfl (zO rfl) fun U o _=>iR (fun b w'=>b=false/\w'=U) (cond_false rfl ⟨rfl,rfl⟩) ?_;rintro b w9 ⟨rfl,rfl⟩;exact cond_false rfl (cond_false rfl (qrV (is:=false) (t:=t) (d:=kZ x p.1) (c:=lB y p.2.1) (q:=p.2.2) (EI C) (tM (a:=p.1) E) (tM (a:=p.2.1) h) o G))
def Hz{p:Pa}(G:ee io t)(V:hasB (jE t) 2=true)(O:ee fx p.1)(C:ee fx p.2.1)(E:∀w',Fr [] w w'->K (kj ((px t p).getD pK),(px t p).isSome) w'): cW 25 [.agg (HL.mk io t).toArray,.agg #[.int .u64 (fK t).1,.int .u64 (fK t).2],.agg (kj p).toArray] di w K:=by
 refine qhP ?_;have hz:=wo;unfold px at E;refine oB (oE [] w) fun r1 w1 _ f1 o=>oB o fun r3 w2 _ f2 o=>oB o fun r5 w3 _ f3 o=>oI o hz fun I w4 _ o=>iR (fun q w'=>q=((lQ (gf p.1) (fK t)).isSome,(lQ (gz p.2.1) (fK t)).isSome)/\dR [] w w' [(I,.cells (kj pK).toArray qa (0,0)),(r5,.cells (kj (kZ ((lQ (gf p.1) (fK t)).getD (0,0)) p.1,lB ((lQ (gz p.2.1) (fK t)).getD (0,0)) p.2.1,p.2.2)).toArray qa (0,0)),(r3,.cells #[.int .u64 (fK t).1,.int .u64 (fK t).2] pd (0,0)),(r1,.cells (HL.mk io t).toArray wL (0,0))]) ?_ ?_;refine oA o 3 rfl (jE t) rfl (A9 (EI G) oM (cond_true V ?_));refine oC o 1 rfl (gf p.1) rfl (oC o 2 rfl (fK t) rfl (FX (zq O) (ti G) fun u f5=>?_));refine (o.q7 f5).st' 1 rfl (kj (kZ ((lQ (gf p.1) (fK t)).getD (0,0)) p.1,p.2)).toArray rfl rfl (zO rfl) fun Q o _=>oC o 1 rfl (gz p.2.1) rfl (oC o 2 rfl (fK t) rfl (FX (xw C) (ti G) fun w7 f7=>?_));exact (o.q7 f7).st' 1 rfl (kj (kZ ((lQ (gf p.1) (fK t)).getD (0,0)) p.1,lB ((lQ (gz p.2.1) (fK t)).getD (0,0)) p.2.1,p.2.2)).toArray rfl rfl (zO rfl) fun w8 o _=>⟨rfl,o⟩;rintro _ u ⟨rfl,o⟩;have h:(((lQ (gf p.1) (fK t)).bind fun x=>(lQ (gz p.2.1) (fK t)).map fun y=>((let d:=kZ x p.1;if hasB (jE t) 64 then jY (u7 (iX d) 16) d else d,let c:=lB y p.2.1;if hasB (jE t) 128 then jY (u7 (iX c) 16) c else c,p.2.2):Pa))=none)->
   fw [iD.nT] (fun w'=>(Instr.build qa #[]).run prog w') u fun vs=>gI (vs.length=32) (st (dd I) vs u fun w1=>gW 32 (dd I) w1 fun vs=>K (vs,false) w1):=fun e=>by
  rw[e] at E;exact sA (ts:=[iD.nT]) (kj pK) oK (mc (qI _) (o.st' 0 rfl _ (iG rfl) rfl (zM _) fun Q o _=>nI (o.at (i:=0) rfl) _ (qI _) rfl (E Q o.fr)))
 cases J:lQ (gf p.1) (fK t) with
 | none=>
  rw[J] at h;refine iR (fun b w'=>b=true/\w'=u) (cond_true rfl ⟨rfl,rfl⟩) ?_;rintro b R ⟨rfl,rfl⟩;exact cond_true rfl (h rfl)
 | some x=>
  cases U:lQ (gz p.2.1) (fK t) with
  | none=>
   rw[J,U] at h;refine iR (fun b w'=>b=true/\w'=u) (cond_false rfl ⟨rfl,rfl⟩) ?_;rintro b R ⟨rfl,rfl⟩;exact cond_true rfl (h rfl)
  | some y=>
   rw[J,U] at E o;refine iR (fun b w'=>b=false/\w'=u) (cond_false rfl ⟨rfl,rfl⟩) ?_;rintro b R ⟨rfl,rfl⟩;exact cond_false rfl (qrV (is:=true) (t:=t) (d:=kZ x p.1) (c:=lB y p.2.1) (q:=p.2.2) (EI G) (tM (a:=p.1) O) (tM (a:=p.2.1) C) o E)
def AC{S:List Nat}{r:ol}{b:Bk}{i j:gB}{K:List Value->WP}(h:RB S w r b)(E:b.size<=100000)(I:∀w',Fr [] w w'->K (kj (kb b i j)) w'): cW 22 [.agg (HL.mk eX r).toArray,da i.1 i.2,da j.1 j.2] dt w K:=by refine qf4 ?_;have G:=wo;refine oB (oE [] w) fun r1 w1 _ V o=>oB o fun r3 w2 _ f2 o=>oB o fun r5 w3 _ f3 o=>oI o G fun r7 w4 _ o=>sA (ts:=[iD.nT]) (kj pK) oK (oI o G fun J w5 _ o=>mc (qI _) (o.st' 0 rfl _ (iG rfl) rfl (zM _) fun w6 o _=>?_));refine oC o 4 rfl r rfl (oC o 3 rfl i rfl (qtP (h.q7 o.fr) E fun w7 O=>?_));have o:=o.q7 O;refine o.st' 0 rfl _ qzl rfl (zO rfl) fun w8 o _=>o.st' 0 rfl (kj ((eG b i).getD kE,kE,(eG b i).isSome,false)).toArray rfl rfl (zO rfl) fun w9 o _=>oC o 4 rfl r rfl (oC o 2 rfl j rfl (qtP (h.q7 o.fr) E fun Q u=>?_));have o:=o.q7 u;exact o.st' 0 rfl _ qzm rfl (zO rfl) fun R o _=>o.st' 0 rfl (kj (kb b i j)).toArray rfl rfl (zO rfl) fun U o _=>nI (o.at (i:=0) rfl) _ (qI _) rfl (mc (qI _) (o.st' 1 rfl _ (iG rfl) rfl (zM _) fun C o _=>nI (o.at (i:=1) rfl) _ (qI _) rfl (I C o.fr)))
end
section
open Go Go.Pt List
open Go.IntKind (wrap)
open Classical
attribute [local irreducible] ld dK gW nu js eS st new idx jI jH fP jF jq mj gI nn call dW inv run fw jd join loop held ext kO eT mT nz nH IntKind.wrap
end
section
open Go Go.Pt List
open Go.IntKind (wrap)
open Classical
variable {L:List (Nat×Obj)} {S:List Nat} {first:Int} {w:World}
def FM{h u C E:WP}{K:Prop}(G:h w)(I:u w)(J:C w)(O:E w)(k:K):held [h,u,C,E] w K:=⟨⟨G,I,J,O⟩,k⟩
attribute [local irreducible] ld dK gW nu js eS st new idx jI jH fP jF jq mj gI nn call dW inv run fw jd join loop held ext kO eT mT nz nH IntKind.wrap
def qyO{w0 w':World}{p:Nat×Obj}{r:Nat}{o:Obj}(h:dR S w0 w (p::(r,o)::L))(f:Fr [r] w w'):dR S w0 w' (p::L):=
 (qAf h).q8 f (fun i G=>by rw[zE.1 G];exact h.own (r,o) oL) fun q C u=>by have E:=h.nodup;rw[xO,xO,nodup_cons,nodup_cons] at E;have u:=zE.1 u;rcases zG.1 C with rfl|C;exact E.1 (by rw[u];exact mem_cons_self);exact E.2.1 (mem_map.2 ⟨q,C,u⟩)
def quy{w0 w':World}{r:Nat}{o:Obj}(h:dR S w0 w ((r,o)::L))(f:Fr [r] w w'):dR S w0 w' L:=
 (qAY h).q8 f (fun i C=>by rw[zE.1 C];exact h.own (r,o) oL) fun q E G=>by have u:=h.nodup;rw[xO,nodup_cons] at u;exact u.1 (mem_map.2 ⟨q,E,zE.1 G⟩)
def qyP{w0 w':World}{a b:Nat}{x y x' C:Obj}(h:dR S w0 w [(a,x),(b,y)])(f:Fr [a,b] w w')(E:w'.heap[a]?=some x')(G:w'.heap[b]?=some C):dR S w0 w' [(a,x'),(b,C)]:=
 ⟨fun q u=>by
  rcases zG.1 u with rfl|u;exact E;rw[zE.1 u];exact G,h.nodup,h.back f,fun q u=>by
  rcases zG.1 u with rfl|u;exact h.own (a,x) oL;rw[zE.1 u];exact h.own (b,y) oL⟩
def qxq{α:Type}{enc:α->List Value}{k:Nat}{s:Sl}{l:List α}(h:dX enc k S w s l)(n:Nat){i:Int}{x:α}{K:Addr->Prop}(hi:i=n)(E:l[n]?=some x)(G:∀b o u T C,w.heap[b]?=some (.cells u T C)->b∉S->(u.toList.drop o).take k=enc x->K (dd b o)):idx s i k K:=by subst hi;obtain⟨R,b,o,I,J,u,T,C,O,Q⟩:=dX.at h n E;refine qY I ⟨oJ,oJ⟩ ?_;rw[zJ];exact G b _ u T C O J Q
def qzn{cs:List Value}{off j m:Nat}{x:List Value}(h:(cs.drop off).take m=x):(cs.drop (off+j)).take (m-j)=x.drop j:=by rw[<- h,drop_take,xD]
def kF (b:Bk) (m:Nat):Bk:={ b with gn:=m }
def rL.kF{b:Bk}{m:Nat}(h:rL b):rL (kF b m):=⟨h.fit,h.DA,h.due,h.has,h.mr,h.mC⟩
def qw6{b:Bk}{m:Nat}{a:HL fx}{s n:Int}:i8 (kF b m) a s n=kF (i8 b a s n) m:=by unfold i8;split<;>rfl
def qAV{b:Bk}{m:Nat}{d:HL ig}{n:Int}:lg (kF b m) d n=kF (lg b d n) m:=by
 have h:∀p,fg (kF b m) p n=kF (fg b p n) m:=fun p=>by unfold fg;rw[show ((kF b m).dQ p.1).dQ p.2.1=kF ((b.dQ p.1).dQ p.2.1) m from rfl,qw6,qw6]
 show ((fg (kF b m) _ n).fN _).jz d=_;rw[h];rfl
def qsx{m:Nat}:∀ {l:List (HL ig)} {b:Bk} {n:Int},fO (kF b m) l n=kF (fO b l n) m
 | [],_,_=>rfl
 | d::r,b,n=>by rw[fO,qAV,qsx];rfl
abbrev tT:TypeId:=36
abbrev AA:TypeId:=115
def At(x:gB×Int):(om x).length=3:=rfl
def Di(x:gB×Int):∀u∈om x,u.oneCell'=true:=all_eq_true.1 rfl
def qwR:∃i,prog.info? AA=some i/\i.zero=some (.agg #[.int .u64 0,.int .u64 0,.int .u64 0])/\i.size=3/\i.bytes=24:=tV oK
def pR (r:ol) (s:Sl):ol:=(r.1,r.2.1,r.2.2.1,r.2.2.2.1,r.2.2.2.2.1,r.2.2.2.2.2.1,r.2.2.2.2.2.2.1,r.2.2.2.2.2.2.2.1,r.2.2.2.2.2.2.2.2.1,s)
section
variable {S:List Nat} {W w:World} {r:ol} {b:Bk} {s:Sl} {l:List (HL ig)} {i r1 r3:Nat} {X:Int->WP}
def qBF{G:Sl}{C:Nat}{R:TypeId}{g:List (gB×Int)}{B:List Nat}{x:gB×Int}(h1:W.heap[r1]?=some (.cells (HL.mk eX r).toArray tT (0,0)))(h:RB S W r b)(ac:r1∈S)(hS:∀x∈S,x<W.heap.size)(fa:Fr [] W w)(bs:eY om 3 w G g B)(hB:∀x∈B,W.heap.size<=x)(hg:g.length<=b.gn)(ax:b.gn<=99000)(ad:w.heap[C]?=some (.cells (om x).toArray R (0,0)))(hl:dX iO 4 [r1] W s l)(hi:i<l.length)(hb:b.size<=100000)(kk:∀r' w',RB S w' r' (kF (b.jz l[i]) (b.gn+1))->w'.heap[r1]?=some (.cells (HL.mk eX r').toArray tT (0,0))->Fr [r1] W w'->X (wrap .i64 ((i:Int)+1)) w'):Ar G C w r1 s i X:=by
 unfold Ar;obtain⟨j,hj,hz,ae,af⟩:=qwR;have ag:dX om 3 [] w ⟨pW C,1,1⟩ [x]:=⟨rfl,zM _,.inr ⟨C,0,_,R,_,rfl,ad,(fun h=>nomatch h),fun i y hy=>by obtain⟨hi,rfl⟩:=zP.1 hy;have:i=0:=(oP hi);subst this;rfl⟩⟩;refine eY.j0 (s:=G) (l:=g) (ys:=[x]) (B:=B) bs At (e:=AA) oK hj hz ae rfl (u9 (e':=AA) ag At Di oK) rfl (by show (g.length+1)*j.bytes<=_;rw[af];omega) (by show g.length+1<=_;omega) fun U B5 w5 b5 f5 n5 _=>?_;have I:Fr [] W w5:=fa.j6 f5 fun x u=>.inr (hB x u);have V:∀x∈B5,W.heap.size<=x:=fun x u=>(n5 x u).elim (hB x) (zL fa.size);have l1:=fE h1;have ah:w5.heap[r1]?=some (.cells (HL.mk eX r).toArray tT (0,0)):=(by rw[I.block r1 l1 (fun h=>nomatch h)];exact h1);refine sL ah (HL.mk eX (pR r U)).toArray rfl rfl (zO rfl) fun Q J f6=>?_;have O:Fr [r1] W Q:=(I.mono fun _ h _=>nomatch h).trans f6;have aa:∀ {x},x∈[r1]->x∈S:=fun h=>by rw[zE.1 h];exact ac
 have E:=(h.q7 I).q8 (f6.mono fun x u _=>aa u) fun x u=>.inl u;have b6:eY om 3 Q U (g++[x]) B5:=b5.q8 f6 fun x u h=>by
  have:=V x u
  have:=zE.1 h
  omega
 have h6:RB S Q (pR r U) (kF b (b.gn+1)):=⟨E.acc,E.jA,E.kA,E.due,E.mr,E.mC,E.kH,E.told,g++[x],by rw[zF,xM];exact Nat.succ_le_succ hg,wK b6 At hS V⟩;have g6:=(Fr.refl [] Q).drew;refine xh (w:=Q.drew) J (pR r U) rfl<|dX.pL (x:=l[i]) (y:=l[i]) (w:=Q.drew) ((hl.q8 O fun x u=>.inl u).q7 g6) i rfl (zA hi) rfl rfl<|qnD (h6.q7 g6) hb (fun x u=>yD (hS x u) O.size) fun r7 w7 t h7 f7=>?_;have aj:w7.heap[r1]?=some (.cells (HL.mk eX (pR r U)).toArray tT (0,0)):=(by rw[(g6.trans f7).block r1 (fE J) (fun h=>nomatch h)];exact J);exact sL aj (HL.mk eX r7).toArray (iG rfl) rfl (zM _) fun w8 ak f8=>kk r7 w8 (h7.q8 (f8.mono fun x u _=>aa u) fun x u=>.inl u) ak ((O.trans ((g6.trans f7).mono fun _ h _=>nomatch h)).trans f8)
def Hl{n:Int}{t:HL io}{q:Pa}{ab ac aj:Nat}{au o3:Obj}(o:dR [r3,r1] W w [(ab,.cells (kj pK).toArray qa (0,0)),(ac,.cells (HL.mk io t).toArray wL (0,0)),(aj,au),(r3,o3),(r1,.cells (HL.mk eX r).toArray tT (0,0))])(h:RB (r3::r1::S) W r b)(hS:∀x∈r3::r1::S,x<W.heap.size)(hl:dX iO 4 [r3,r1] W s l)(hi:i<l.length)(hb:b.size+5<=100000)(R:b.gn<=99000)(f1:ee fx q.1)(f2:ee fx q.2.1)(en:wrap .u64 (first+wrap .u64 (i:Int))=n)(kk:∀r' w',RB (r3::r1::S) w' r' (kF (((fg b q n).fN (gj t,4)).jz l[i]) (b.gn+1))->w'.heap[r1]?=some (.cells (HL.mk eX r').toArray tT (0,0))->w'.heap[r3]?=some o3->Fr [r3,r1] W w'->X (wrap .i64 ((i:Int)+1)) w'):Cm first (kj q,true) ab w r1 i ac s X:=by
 unfold Cm;rw[en];have ak:∀ {w w':World},Fr [r1] w w'->Fr (r3::r1::S) w w':=fun f=>f.mono fun x u _=>by rw[zE.1 u];simp
 have al:∀ {w w':World},Fr [r3,r1] w w'->Fr (r3::r1::S) w w':=fun f=>f.mono fun x u _=>by simp only[zG,xX,or_false] at u;rcases u with rfl|rfl<;>simp
 have up:∀ {w':World},W.heap.size<=w'.heap.size->∀x∈r3::r1::S,x<w'.heap.size:=fun z x u=>yD (hS x u) z;refine mc (qI q) (o.st' 0 rfl _ (iG rfl) rfl (zM _) fun w2 o _=>oC o 4 rfl r rfl (nI (o.at (i:=0) rfl) _ (qI q) rfl ?_));have z:=Gf (b:=b) (p:=q) (n:=n);refine qx6 (h.q8 (al o.fr) fun x u=>.inl u) oJ (up o.fr.size) f1 f2 fun ax w3 h3 f3=>(o.q7 f3).st' 4 rfl _ (iG rfl) rfl (zM _) fun w4 o f4=>oC o 4 rfl ax rfl (oC o 1 rfl (gj t) rfl ?_);have h4:=h3.q8 (ak f4) fun x u=>.inl u;refine qnF h4 oJ (up o.fr.size) fun r5 w5 h5 f5=>(o.q7 f5).st' 4 rfl _ (iG rfl) rfl (zM _) fun w6 o f6=>?_;have h6:=h5.q8 (ak f6) fun x u=>.inl u;have am:((fg b q n).fN (gj t,4)).gn=b.gn:=(by show (fg b q n).gn=b.gn;unfold fg i8;split<;>split<;>rfl);have z2:((fg b q n).fN (gj t,4)).size<=(fg b q n).size+1:=by
  have:=sC (kf:=fun x:gB×Int=>x.1) (a:=(gj t,4)) (l:=(fg b q n).kA)
  unfold Bk.size Bk.fN;dsimp only;omega
 have kk:∀r' w',RB (r3::r1::S) w' r' (kF (((fg b q n).fN (gj t,4)).jz l[i]) (((fg b q n).fN (gj t,4)).gn+1))->w'.heap[r1]?=some (.cells (HL.mk eX r').toArray tT (0,0))->w'.heap[r3]?=some o3->Fr [r3,r1] W w'->X (wrap .i64 ((i:Int)+1)) w':=(by rw[am];exact kk);have R:((fg b q n).fN (gj t,4)).gn<=99000:=(by rw[am];exact R);have an:((fg b q n).fN (gj t,4)).size<=100000:=oJ;generalize (fg b q n).fN (gj t,4)=b6 at h6 kk R an;obtain⟨g,hg,hG⟩:=h6.gone;obtain⟨j,hj,hz,ae,af⟩:=qwR;have aD:dX iO 4 [r1] w6 s l:=dX.j4 (hl.q8 o.fr fun x u=>.inl u) fun x u=>.inl (by rw[zE.1 u];simp);have e1:=o.at (i:=4) rfl;have O:=(Fr.refl [] w6).drew;have z6:=o.fr.size;have ag:g.length<=1000000:=oJ;have e3:=o.at (i:=3) rfl;have aE:r3≠r1:=fun e=>by have hn:[ab,ac,aj,r3,r1].Nodup:=o.nodup;exact (nodup_cons.1 (nodup_cons.1 (nodup_cons.1 (nodup_cons.1 hn).2).2).2).1 (by rw[e];exact zE.2 rfl)
 have ah:∀ {ao:Sl} {E:Nat} {B:List Nat} {w9:World} {aF:TypeId},Fr [] w6 w9->eY om 3 w9 ao g B->(∀x∈B,w6.heap.size<=x)->w9.heap[E]?=some (.cells (om (gj t,n)).toArray aF (0,0))->Ar ao E w9 r1 s i X:=fun fa bs hB aG=>
  qBF e1 h6 oL (up z6) fa bs hB hg R aG aD hi an fun r' w' h' aH f'=>kk r' w' h' aH (by rw[f'.block r3 (fE e3) (fun hm=>aE (zE.1 hm))];exact e3) (o.fr.trans (f'.mono fun x u _=>by rw[zE.1 u];simp))
 have U:=o.drew;refine⟨?_,?_,?_⟩;refine oA U 4 rfl r5.2.2.2.2.2.2.2.2.2 rfl (oC U 1 rfl (gj t) rfl (oB U fun G w7 e7 C I=>jU (I.cells 2 rfl rfl) (I.cell 5 rfl rfl) ?_));refine xa (e:=AA) (I.at (i:=0) rfl) (hG.q7 (O.trans C)) At Di oK hj hz ae rfl (by rw[af];decide) ag fun s8 B8 w8 b8 Q n8=>?_;have aI:G=w6.heap.size:=e7;have J:=quy I Q;refine iI (J.cells 1 rfl rfl) (oB J fun E w9 e9 V o9=>iI (o9.cell 5 rfl rfl) ?_);exact ah (((O.trans C).j6 Q fun x u=>.inr (by rw[zE.1 u];omega)).trans V) (b8.q7 V) (fun x u=>(n8 x u).elim (fun e=>oJ) (zL (O.trans C).size)) (o9.at (i:=0) rfl);refine oA U 4 rfl r5.2.2.2.2.2.2.2.2.2 rfl (oC U 1 rfl (gj t) rfl (oB U fun G w7 e7 C I=>jU (I.cells 2 rfl rfl) (I.cell 5 rfl rfl) ?_));refine oB I fun E w8 e8 Q J=>iI (J.cell 6 rfl rfl)<|xa (e:=AA) (J.at (i:=1) rfl) (hG.q7 ((O.trans C).trans Q)) At Di oK hj hz ae rfl (by rw[af];decide) ag fun s9 B9 w9 b9 V n9=>?_;have aI:G=w6.heap.size:=e7;have o9:=qyO J V;exact iI (o9.cells 2 rfl rfl) (ah (((O.trans C).trans Q).j6 V fun x u=>.inr (by rw[zE.1 u];omega)) b9 (fun x u=>(n9 x u).elim (fun e=>oJ) (zL ((O.trans C).trans Q).size)) (o9.at (i:=0) rfl));refine oA U 4 rfl r5.2.2.2.2.2.2.2.2.2 rfl (oC U 1 rfl (gj t) rfl (oB U fun E w7 e7 C I=>iI (I.cell 5 rfl rfl) ?_));refine oB I fun G w8 e8 Q J=>jU (J.cells 3 rfl rfl) (J.cell 6 rfl rfl)<|xa (e:=AA) (J.at (i:=0) rfl) (hG.q7 ((O.trans C).trans Q)) At Di oK hj hz ae rfl (by rw[af];decide) ag fun s9 B9 w9 b9 V n9=>?_;have ap:w6.heap.size<=G:=(by rw[e8];exact (O.trans C).size);have o9:=quy J V;exact iI (o9.cells 2 rfl rfl) (ah (((O.trans C).trans Q).j6 V fun x u=>.inr (by rw[zE.1 u];exact ap)) b9 (fun x u=>(n9 x u).elim (fun e=>by rw[e];exact ap) (zL ((O.trans C).trans Q).size)) (o9.at (i:=0) rfl))
def qA4{n:Int}{k:Kp}{q:Pa}{I:Nat}{o3:Obj}(o:dR [r3,r1] W w [(I,.cells (pA ui).toArray ya (0,0)),(r3,o3),(r1,.cells (HL.mk eX r).toArray tT (0,0))])(h:RB (r3::r1::S) W r b)(hS:∀x∈r3::r1::S,x<W.heap.size)(hl:dX iO 4 [r3,r1] W s l)(hi:i<l.length)(hb:b.size+5<=100000)(E:b.gn<=99000)(Q:ee io k.1)(R:ee fx (kb b (gc k.1) (gd k.1)).1)(f2:ee fx (kb b (gc k.1) (gd k.1)).2.1)(U:gl k.1 (kb b (gc k.1) (gd k.1))=some q)(en:wrap .u64 (first+wrap .u64 (i:Int))=n)(kk:∀r' w',RB (r3::r1::S) w' r' (kF (((fg b q n).fN (gj k.1,4)).jz l[i]) (b.gn+1))->w'.heap[r1]?=some (.cells (HL.mk eX r').toArray tT (0,0))->w'.heap[r3]?=some o3->Fr [r3,r1] W w'->X (wrap .i64 ((i:Int)+1)) w'):DJ first (pA k,true) I w r1 i s X:=by
 unfold DJ;have hz:=wo;have u:=BH Q R f2 U;have J:∀ {w w':World},Fr [r3,r1] w w'->Fr (r3::r1::S) w w':=fun f=>f.mono fun x V _=>by simp only[zG,xX,or_false] at V;rcases V with rfl|rfl<;>simp
 refine mc (po k) (o.st' 0 rfl _ (iG rfl) rfl (zM _) fun w2 o _=>oC o 0 rfl k.1 rfl (oB o fun ak w3 _ f3 o=>o.st' 0 rfl _ (iG rfl) rfl (zM _) fun w4 o _=>?_));have o:=o.drew;have hR:∀ {w'},Fr [r3,r1] W w'->RB (r3::r1::S) w' r b:=fun f=>h.q8 (J f) fun x V=>.inl V;have G:b.size<=100000:=oJ;refine⟨oC o 0 rfl k.1 rfl (oC o 3 rfl r rfl (oC o 0 rfl (gc k.1) rfl (oC o 0 rfl (gd k.1) rfl (AC (i:=gc k.1) (j:=gd k.1) (hR o.fr) G fun w7 C=>iI ((o.q7 C).cells 0 rfl rfl) (Hj (am:=(0,0)) Q R f2 U fun w8 O=>oI ((o.q7 C).q7 O) hz fun r9 w9 _ o=>FM (o.cells 1 rfl rfl) (o.cells 1 rfl rfl) (o.cells 4 rfl rfl) (o.cells 1 rfl rfl) ?_))))),
  oC o 0 rfl k.1 rfl (oC o 3 rfl r rfl (oC o 0 rfl (gc k.1) rfl (oC o 0 rfl (gd k.1) rfl (AC (i:=gc k.1) (j:=gd k.1) (hR o.fr) G fun w7 C=>iI ((o.q7 C).cells 0 rfl rfl) (oI (o.q7 C) hz fun r9 w9 _ o=>FM (o.cells 1 rfl rfl) (o.cells 1 rfl rfl) (o.cells 4 rfl rfl) (o.cells 1 rfl rfl) (Hj (am:=(0,0)) Q R f2 U fun w8 O=>?_)))))),
  oC o 0 rfl k.1 rfl (oC o 3 rfl r rfl (oC o 0 rfl (gc k.1) rfl (oC o 0 rfl (gd k.1) rfl (oI o hz fun r9 w9 _ o=>FM (o.cells 1 rfl rfl) (o.cells 1 rfl rfl) (o.cells 4 rfl rfl) (o.cells 1 rfl rfl) (AC (i:=gc k.1) (j:=gd k.1) (hR o.fr) G fun w7 C=>iI ((o.q7 C).cells 1 rfl rfl) (Hj (am:=(0,0)) Q R f2 U fun w8 O=>?_))))))⟩
 exact Hl o h hS hl hi hb E u.1 u.2 en kk;exact Hl (o.q7 O) h hS hl hi hb E u.1 u.2 en kk;exact Hl ((o.q7 C).q7 O) h hS hl hi hb E u.1 u.2 en kk
end
def qwg{r:ol}{b:Bk}{most:Int}{K:ol×Int->WP}(h:RB S w r b)(hS:∀x∈S,x<w.heap.size)(R:rL b)(hn:IntKind.u64.has first)(hm:b.many<=90000)(aW:b.gn+b.due.length<=90000)(kk:∀r' w',RB S w' r' (kF (fO b (iy b.due first most) first) (b.gn+(iy b.due first most).length))->Fr [] w w'->K (r',((iy b.due first most).length:Int)) w'): cW 16 [.agg (HL.mk eX r).toArray,.int .u64 first,.i most] [.agg eX,.one .i] w K:=by
 refine qhv ?_;have ad:=wE;have ar:=qrL (l:=b.due) (j8:=first) (most:=most);have ae:=Dy (l:=b.due) (j8:=first) (most:=most);have hu:=ph hn;have U:b.size<=b.many:=Nat.le_add_right _ _;refine oB (oE [] w) fun r1 w1 e1 f1 o=>oB o fun r3 w2 e2 f2 o=>oC o 1 rfl r rfl ?_;have aY:r1<w2.heap.size:=fE (o.at (i:=1) rfl);have aZ:r3<w2.heap.size:=fE (o.at (i:=0) rfl);have n1:w.heap.size<=r1:=oJ;have n3:w.heap.size<=r3:=(by have:=f1.size;omega);refine qzA (h.q7 o.fr) oJ fun s B w3 hB f3 nB=>?_;have o:=o.q7 f3;generalize iy b.due first most=l at kk hB ar ae
 have av:s.len=l.length:=hB.len;have aw:dX iO 4 [r3,r1] w3 s l:=hB.kB CX fun x u hF=>by
  have:=nB x u
  simp only[zG,xX,or_false] at hF;omega
 have ax:∀ {w':World},w3.heap.size<=w'.heap.size->∀x∈r3::r1::S,x<w'.heap.size:=fun z x u=>by
  have:=f3.size
  rcases zG.1 u with rfl|u;omega;rcases zG.1 u with rfl|u;omega
  have:=hS x u
  have:=f1.size
  have:=f2.size
  omega
 have h3:RB (r3::r1::S) w3 r b:=h.q8 (o.fr.mono fun _ h _=>nomatch h) fun x u=>by rcases zG.1 u with rfl|u;exact .inr n3;rcases zG.1 u with rfl|u;exact .inr n1;exact .inl u
 generalize ay:(Obj.cells #[Value.slice none 0 0,Value.slice none 0 0,Value.slice none 0 0,Value.slice none 0 0,Value.slice none 0 0,Value.slice none 0 0,Value.slice none 0 0,Value.int IntKind.u64 0,Value.bool false,Value.slice none 0 0] tT (0,0))=o3 at o;have e0:(first+((0:Nat):Int))%18446744073709551616=first:=by omega
 refine jS (fun x W=>∃i:Nat,∃ri B,x=i/\i<=l.length/\RB (r3::r1::S) W ri B/\dR [] w W [(r3,o3),(r1,.cells (HL.mk eX ri).toArray tT (0,0))]/\w3.heap.size<=W.heap.size/\dX iO 4 [r3,r1] W s l/\rL B/\(l.drop i).Sublist B.due/\B.many<=b.many/\B.gn=b.gn+i/\kF (fO B (l.drop i) ((first+i)%18446744073709551616)) 0=kF (fO b l first) 0) (fun x _=>l.length-x.toNat) ⟨0,r,b,rfl,yX _,h3,o,zM _,aw,R,ae,zM _,rfl,by rw[e0];rfl⟩ ?_;rintro x W ⟨i,ri,B,rfl,hi,hR,o,zW,hl,R,E,az,aA,hp⟩ X hX;apply eH<;>intro V
 ·have C:i<l.length:=(by have:=zC V;omega);have aB:=zY C;rw[aB] at E hp;have J:l[i]∈B.due:=E.subset mem_cons_self;obtain⟨k,q,hk,hq⟩:=(R.Q9 J).ok;obtain⟨k',_,_,ag,ah,_⟩:=R.has _ J;rw[hk] at ag;cases ag;have hA:∀j,ee fx ((eG B j).getD kE):=fun j=>by
   cases u:eG B j with
   | none=>exact A8
   | some a=>exact R.fit a (sO u).1
  have a6:B.size<=B.many:=Nat.le_add_right _ _;have en:wrap .u64 (first+wrap .u64 (i:Int))=(first+i)%18446744073709551616:=(by rw[qs (i:Int) ⟨oJ,oJ⟩];unfold wrap;have:(IntKind.u64.signed)=false:=rfl;simp only[this,Bool.false_and,Bool.false_eq_true,if_false];rfl);have aD:=qqn (n:=(first+i)%18446744073709551616) J;have ai:∀r' w',RB (r3::r1::S) w' r' (kF (((fg B q ((first+i)%18446744073709551616)).fN (gj k.1,4)).jz l[i]) (B.gn+1))->w'.heap[r1]?=some (.cells (HL.mk eX r').toArray tT (0,0))->w'.heap[r3]?=some o3->Fr [r3,r1] W w'->X (wrap .i64 ((i:Int)+1)) w':=fun r' w' O aE aF f'=>by have eo:lg B l[i] ((first+i)%18446744073709551616)=((fg B q ((first+i)%18446744073709551616)).fN (gj k.1,4)).jz l[i]:=(by unfold lg;rw[hk];simp only[xV];rw[hq];rfl);rw[<- eo] at O;rw[fV _ oJ];have aH:((first+(i:Int))%18446744073709551616+1)%18446744073709551616=(first+((i+1:Nat):Int))%18446744073709551616:=oJ;refine hX _ _ ⟨i+1,r',_,rfl,C,O,qyP o f' aF aE,zL zW f'.size,hl.q8 f' fun x u=>.inl u,(R.one J).kF,?_,?_,?_,?_⟩ oJ;show (l.drop (i+1)).Sublist (lg B l[i] _).due;rw[(vX (b:=B) (d:=l[i])).2.2.1];exact R.due.rest E;exact zL aD.1 az;show B.gn+1=_;omega;rw[qsx,<- hp,fO,aH];rfl
  have aj:=ax zW;have o:=o.k8.drew;have O:RB (r3::r1::S) W.drew ri B:=hR.q7 (Fr.refl [] W).drew;have aT:=E.length_le;have Q:B.gn<=99000:=oJ;have ak:B.size+5<=100000:=oJ;have u:=zA C;have al:=hA (gc k.1);have am:=hA (gd k.1);have U:B.size<=100000:=oJ;refine⟨?_,?_⟩;refine oC o 1 rfl ri rfl (qxq hl i rfl u fun c aa cs T fr hb ab V=>?_);have G:(cs.toList.drop (aa+2)).take 2=HL.mk u2 (oV l[i]):=(qzn (j:=2) V).trans rfl;refine xh (w:=W.drew) hb (oV l[i]) G (qtS O U fun w7 f7=>?_);rw[show gY B ((oV l[i]).1,(oV l[i]).2)=some k from hk];exact oI (o.q7 f7) ad fun aJ w8 _ I=>jU (uU (I.pM hb ab) _ _ 0 G) (I.cells 2 rfl rfl) (qA4 I hR aj hl C ak Q ah.1 al am hq en ai);refine oC o 1 rfl ri rfl (qxq hl i rfl u fun c aa cs T fr hb ab V=>?_);have G:(cs.toList.drop (aa+2)).take 2=HL.mk u2 (oV l[i]):=(qzn (j:=2) V).trans rfl;refine xh (w:=W.drew) hb (oV l[i]) G (oI o ad fun aJ w8 _ I=>jU (uU (I.pM hb ab) _ _ 0 G) (I.cells 2 rfl rfl) ?_);refine qtS (hR.q8 (I.fr.mono fun x u _=>by have u:x∈[r3,r1]:=u;simp only[zG,xX,or_false] at u;rcases u with rfl|rfl<;>simp) fun x u=>.inl u) U fun w9 f9=>?_;rw[show gY B ((oV l[i]).1,(oV l[i]).2)=some k from hk];exact qA4 (I.q7 f9) hR aj hl C ak Q ah.1 al am hq en ai
 ·have C:i=l.length:=(by have:=zB V;omega);subst C;rw[drop_length,fO] at hp;have eB:B=kF (fO b l first) (b.gn+l.length):=(by have:B=kF (kF B 0) B.gn:=rfl;rw[this,hp,aA];rfl);rw[av];refine oC o 1 rfl ri rfl ?_;subst ay;refine o.st' 0 rfl _ (iG rfl) rfl (zM _) fun w8 I f8=>oC I 0 rfl ri rfl ?_;rw[eB] at hR;exact kk ri w8 (hR.q8 (f8.mono fun x u _=>by rw[zE.1 u];simp) fun x u=>.inl (by simp[u])) I.fr
end
section
open Go Go.Pt List
open Go.IntKind (wrap)
open Classical
attribute [local irreducible] ld dK gW nu js eS st new idx jI jH fP jF jq mj gI nn call dW inv run fw jd join loop held ext kO eT mT nz nH IntKind.wrap
variable {K:Option Addr×Option Addr->WP}
def qw9{w:World}{n:Nat}(Y:List Nat)(h:∀b∈Y,b<w.heap.size)(J:HG∉Y)(O:Hv w)(C:8<=n)(E:n<=4096)(Q:∀sb pb dbk FD F D w',rE w' Y sb dbk pb FD F D (nc n) ((n-2)-gx (n-2)) (fun _=>([],[]))->Made D n->Fr [] w w'->(∀b∈sb::(FD++F),w.heap.size<=b)->K (pW sb,pW pb) w'): cW 18 [.i n] dD w K:=by exact qhN<|qw8 (n:=n) Y h J O C E fun dbk pb FD F D w1 u R G U=>cond_false rfl<|qsP<|oB (oE [] w1) fun r w2 V I o=>Q r pb dbk FD F D w2 ⟨u.q7 I,sG.made C E u.wf,o.at (i:=0) rfl,fun hm=>by have:=u.x5.lt r hm;omega⟩ R (G.trans I) fun b hb=>(zG.1 hb).elim (fun e=>by rw[e,V];exact G.size) (U b)
def qvl{w:World}{a0 a1:Sl}{K:Bool->WP}(u:∀w',Fr [] w w'->K (decide ((a0.len:Int)>8)||decide ((a1.len:Int)>25)) w'):cW 7 [.agg #[a0.v,a1.v]] dg w K:=by
 refine qfN<|oB (oE [] w) fun r w1 _ C o=>oA o 0 rfl a0 rfl (eH (fun h=>?_) fun h=>?_)
 have:=u w1 C
 rwa[h] at this
 have:=u w1 C
 rw[h,Bool.false_or] at this;exact oA o 0 rfl a1 rfl this
structure oQ (w0 W:World) (Y:List Nat) (L:List (Nat×Obj)) (sb:Nat) (F:List Nat) (c:Nat) (bs br:Bk) (ri:ol):Prop where
 own:dR (fu L) W W L
 sB:SB W (fu L++Y) sb F c bs
 rb:RB (fu L++F) W ri br
 fr:Fr [] w0 W
 nL:∀ x∈fu L,w0.heap.size<=x
 nF:∀ x∈F,w0.heap.size<=x
 ns:w0.heap.size<=sb/\sb∉fu L
section
variable {w0 W w':World} {Y F F':List Nat} {L L':List (Nat×Obj)} {sb c:Nat} {bs br bs' br':Bk} {ri r':ol}
def oQ.lt(h:oQ w0 W Y L sb F c bs br ri):∀x∈fu L++F,x<W.heap.size:=fun x u=>(zD.1 u).elim (vI h.own x) (h.sB.Ct x)
def oQ.j8(h:oQ w0 W Y L sb F c bs br ri)(o:dR (fu L) W w' L'):oQ w0 w' Y L' sb F c bs br ri where
 own:=o.k8
 sB:=h.sB.Gu h.ns.2 o
 rb:=h.rb.q8 (o.fr.mono fun x u _=>zH _ u) fun x u=>(zD.1 u).elim (fun u=>by obtain⟨p,C,rfl⟩:=mem_map.1 u;exact (o.own p C).imp (zH _) id) fun u=>.inl (zI _ u)
 fr:=h.fr.j6 o.fr fun x u=>.inr (h.nL x u)
 nL:=fun x u=>by obtain⟨p,C,rfl⟩:=mem_map.1 u;exact (o.own p C).elim (h.nL _) (zL h.fr.size)
 nF:=h.nF
 ns:=⟨h.ns.1,fun u=>by
  obtain⟨p,C,e⟩:=mem_map.1 u;rcases o.own p C with E|E;exact h.ns.2 (by rw[<- e];exact E)
  have:=h.sB.lt
  omega⟩
def oQ.sub(h:oQ w0 W Y L sb F c bs br ri)(u:L'.Sublist L):oQ w0 W Y L' sb F c bs br ri where
 own:=(h.own.sub u).k8
 sB:=h.sB.x8 fun b C=>(zD.1 C).elim (fun C=>zH _ ((u.map _).subset C)) (zI _)
 rb:=h.rb.q8 (.refl _ _) fun x E=>.inl ((zD.1 E).elim (fun C=>zH _ ((u.map _).subset C)) (zI _))
 fr:=h.fr
 nL:=fun x E=>h.nL x ((u.map _).subset E)
 nF:=h.nF
 ns:=⟨h.ns.1,fun E=>h.ns.2 ((u.map _).subset E)⟩
def oQ.pr(h:oQ w0 W Y L sb F c bs br ri)(f:Fr [] W w')(u:RB (fu L++F) w' r' br'):oQ w0 w' Y L sb F c bs br' r':=
 ⟨(h.own.q7 f).k8,h.sB.q7 f,u,h.fr.trans f,h.nL,h.nF,h.ns⟩
def oQ.q7(h:oQ w0 W Y L sb F c bs br ri)(f:Fr [] W w'):oQ w0 w' Y L sb F c bs br ri:=h.pr f (h.rb.q7 f)
def oQ.qj(h:oQ w0 W Y L sb F c bs br ri)(C:SB w' (fu L++Y) sb F' c bs')(s:nV F W F' w'):oQ w0 w' Y L sb F' c bs' br ri where
 own:=h.sB.own h.own s
 sB:=C
 rb:=h.rb.q8 (s.fr.mono fun x u _=>zI _ u) fun x u=>(zD.1 u).elim (fun u=>.inl (zH _ u)) fun u=>(s.new x u).imp (zI _) id
 fr:=h.fr.j6 s.fr fun x u=>.inr (h.nF x u)
 nL:=h.nL
 nF:=fun x u=>(s.new x u).elim (h.nF x) (zL h.fr.size)
 ns:=h.ns
end
abbrev vU:ol:=(dI,dI,dI,dI,dI,dI,dI,0,false,dI)
def Ge:Bk:=⟨[],[],[],[],[],[],[],none,0⟩
def qA2(S:List Nat)(w:World):RB S w vU Ge:=⟨.nil _ _ _ _,.nil _ _ _ _,.nil _ _ _ _,.nil _ _ _ _,.nil _ _ _ _,.nil _ _ _ _,.nil _ _ _ _,⟨rfl,rfl⟩,[],zM _,.nil _ _ _ _⟩
def oQ.start{w0 w w':World}{Y:List Nat}{L:List (Nat×Obj)}{sb dbk pb c:Nat}{FD F:List Nat}{D:dL}{M:eP}(o:dR [] w0 w L)(h:rE w' (fu L++Y) sb dbk pb FD F D M c (fun _=>([],[])))(E:c<=100000)(f:Fr [] w w')(u:∀b∈sb::(FD++F),w.heap.size<=b):oQ w0 w' Y L sb F c Ge Ge vU where
 own:=(o.q7 f).k8
 sB:=⟨pb,dbk,FD,D,M,_,h,qAD,E⟩
 rb:=qA2 _ _
 fr:=o.fr.trans f
 nL:=fun x C=>by obtain⟨p,G,rfl⟩:=mem_map.1 C;exact (o.own p G).elim (fun h=>nomatch h) id
 nF:=fun x C=>zL o.fr.size (u x (by simp[C]))
 ns:=⟨zL o.fr.size (u sb oL),fun I=>by have:=vI o sb I;have:=u sb oL;omega⟩
def qtB{b:Bk}{k:Kp}:(b.ga k).size<=b.size+3:=by have h:=sC (kf:=qz) (a:=k) (l:=b.jA);have u:=sC (kf:=pz) (a:=wu k.1) (l:=b.mr);have C:=sC (kf:=pz) (a:=Ag k.1) (l:=b.mC);unfold Bk.ga Bk.lY Bk.nP Bk.qd Bk.size;dsimp only;omega
def qtA{b:Bk}{x:gB×Int}:(b.fN x).size<=b.size+1:=by
 have:=sC (kf:=fun x:gB×Int=>x.1) (a:=x) (l:=b.kA)
 unfold Bk.fN Bk.size;dsimp only;omega
end
section
open Go Go.Pt List
open Go.IntKind (wrap)
open Classical
variable {K:Option Addr×ol×Bool->WP}
def Ga{h u C E G:WP}{w:World}{K:Prop}(I:h w)(J:u w)(O:C w)(Q:E w)(R:G w)(k:K):held [h,u,C,E,G] w K:=⟨⟨I,J,O,Q,R⟩,k⟩
attribute [local irreducible] ld dK gW nu js eS st new idx jI jH fP jF jq mj gI nn call dW inv run fw jd join loop held ext kO eT mT nz nH IntKind.wrap
abbrev c9:Nat:=(900-2)-gx (900-2)
def EK:800<=c9/\c9<=100000:=by decide
abbrev tC:Pn->List Value:=HL.mk nR
abbrev tG (r:ol):Obj:=.cells (HL.mk eX r).toArray tT (0,0)
section
variable {w0:World} {Y:List Nat} {sb:Nat} {r1 r3 r9:Nat} {o1:Obj}
def Bh (w0:World) (Y:List Nat) (sb r9 r3 r1:Nat) (o1:Obj) (b:Bk) (W:World):Prop:=∃F ri,oQ w0 W Y [(r9,tG ri),(r3,tG vU),(r1,o1)] sb F c9 b b ri
def qAA{W w:World}{F:List Nat}{b:Bk}{ri:ol}{J V O n j:Nat}{t:HL io}{mv:Option Pa}{ab:Obj}{s:Int}{x:Pn}{a0:Sl}{pp:Option Addr}{X:Int->WP}(h:oQ w0 W Y [(r9,tG ri),(r3,tG vU),(r1,o1)] sb F c9 b b ri)(o:dR [r9,r3,r1] W w [(O,.cells (kj pK).toArray qa (0,0)),(J,.cells (HL.mk io t).toArray wL (0,0)),(V,ab),(r9,tG ri),(r3,tG vU),(r1,o1)])(et:qC n j (lJ s x) x=t)(Q:px t (kb b (gc t) (gd t))=mv)(hB:rA n j s b)(hn:2<=n/\n<=8)(hj:j<25)(U:ee nR x)(ha:a0.len=n)(hg:b.gn=0)(es:wrap .u64 (s+wrap .u64 (1+wrap .u64 (rP x)))=lJ s x)(u:∀w',Bh w0 Y sb r9 r3 r1 o1 (lq n j s b x) w'->(lq n j s b x).gn=0->X (lJ s x) w'): Bw K (kj (mv.getD pK),mv.isSome) O w (qO x) a0 (qG x) X (s,(j:Int)) (rP x) J r9 (pW sb,pp) r3:=by
 unfold Bw;dsimp only;rw[es];have aj:(0:Int)<=qO x/\qO x<=255:=U.1;have ak:(0:Int)<=qG x/\qG x<=255:=U.2.1;have aC:(0:Int)<=rP x/\rP x<=255:=U.2.2.2.2.2.1;have aD:=hB.st;have ac:mn (lJ s x):=(by unfold lJ;exact⟨oJ,oJ⟩);have em:∀y:Int,0<=y/\y<=255->Int.tmod (wrap .i64 y) (a0.len:Int)=y%(n:Int):=fun y hy=>by rw[fV _ oJ,ha,Int.tmod_eq_emod_of_nonneg hy.1]
 rw[em _ aj,em _ ak];have C:ee io t:=(by rw[<- et];exact Hc (i:=j) (x:=x) hn oJ ac U);have ep:lq n j s b x=match (generalizing:=false) mv with
  | none=>b
  | some q=>if qO x%(n:Int)=qG x%(n:Int) then b else qE b t q:=by rw[<- Q,<- et];rfl
 rw[ep] at u;have aF:=hB.many;have aG:b.size<=b.many:=Nat.le_add_right _ _;have hc:=EK;refine mc (qI _) (o.st' 0 rfl _ (iG rfl) rfl (zM _) fun w1 o _=>?_);have E:∀i,ee fx ((eG b i).getD kE):=fun i=>by
  cases U:eG b i with
  | none=>exact A8
  | some a=>exact hB.snd.fit a (sO U).1
 have fD:=E (gc t);have fC:=E (gd t);have skip:((qO x%(n:Int)==qG x%(n:Int))||!mv.isSome)=true->X (lJ s x) w1:=fun G=>by
  have h2:Bh w0 Y sb r9 r3 r1 o1 b w1:=⟨F,ri,(h.j8 o).sub (.cons _ (.cons _ (.cons _ (.refl _))))⟩;cases mv with
  | none=>exact u w1 h2 hg
  | some q=>
   have he:qO x%(n:Int)=qG x%(n:Int):=(oP G);dsimp only at u;rw[if_pos he] at u;exact u w1 h2 hg
 refine te ((qO x%(n:Int)==qG x%(n:Int))||!mv.isSome) w1 (fun M hM=>?_) ?_;refine eH (fun G=>?_) fun G=>?_;rw[G] at hM;exact hM;rw[G] at hM;exact hM;refine eH skip fun G=>?_;clear skip;rw[Bool.or_eq_false_iff,zR,yE] at G;obtain⟨am,hq⟩:=G;obtain⟨q,rfl⟩:=Option.isSome_iff_exists.1 hq;dsimp only at u o;rw[if_neg am] at u;obtain⟨f1,f2,_⟩:=qog C fD fC Q;clear ep Q et;have hk:rQ (t,fK t):=⟨C,C.2.2.2.2.2.2.1,C.2.2.2.2.2.2.2.1⟩;have an:=wE;have z1:(b.dQ q.1).size<=b.size+1:=wn;have z2:((b.dQ q.1).dQ q.2.1).size<=(b.dQ q.1).size+1:=wn;have z3:(((b.dQ q.1).dQ q.2.1).ga (t,fK t)).size<=((b.dQ q.1).dQ q.2.1).size+3:=qtB;have z4:((((b.dQ q.1).dQ q.2.1).ga (t,fK t)).fN (gj t,1)).size<=(((b.dQ q.1).dQ q.2.1).ga (t,fK t)).size+1:=qtA;refine oC o 1 rfl t rfl (oC o 1 rfl (fK t) rfl (sA (ts:=[iD.nT]) (pA (t,fK t)) (qrG (k:=(t,fK t)) _) (oI o an fun ao w2 _ o=>mc (po _) (o.st' 0 rfl _ (iG rfl) rfl (zM _) fun w3 o _=>?_))));have o:=o.drew;have h:=h.j8 o;refine oC o 4 rfl ri rfl (oC o 1 rfl q.1 rfl (oC o 1 rfl q.2.1 rfl (nI (o.at (i:=0) rfl) _ (po _) rfl (oC o 2 rfl (gj t) rfl ?_))));refine BJ h.rb oJ h.lt fun ra wa ha fa=>?_;have h:=h.pr fa ha;refine mN (h.own.cells 2 rfl rfl) (uU (h.own.at (i:=0) rfl) _ _ 0 rfl) (h.own.cells 1 rfl rfl)<|BJ h.rb oJ h.lt fun rb wb G fb=>?_;have h:=h.pr fb G;refine jU (h.own.cells 2 rfl rfl) (uU (h.own.at (i:=0) rfl) _ _ 0 rfl)<|qu2 h.rb oJ h.lt fun rc wc ap fc=>?_;have h:=h.pr fc ap;refine iI (h.own.cells 2 rfl rfl)<|qnF h.rb oJ h.lt fun rd wd I fd=>?_;have h:=h.pr fd I;refine h.own.st' 4 rfl _ (iG rfl) rfl (zM _) fun we o _=>?_;have h:=h.j8 o;clear o;refine iR (fun bo w'=>bo=false/\∃F',oQ w0 w' Y [(ao,.cells (pA (t,fK t)).toArray ya (0,0)),(O,.cells (kj q).toArray qa (0,0)),(J,.cells (HL.mk io t).toArray wL (0,0)),(V,ab),(r9,tG rd),(r3,tG vU),(r1,o1)] sb F' c9 ((((b.dQ q.1).dQ q.2.1).ga (t,fK t)).fN (gj t,1)) ((((b.dQ q.1).dQ q.2.1).ga (t,fK t)).fN (gj t,1)) rd) ?_ ?_;refine oC h.own 1 rfl q.1 rfl (CI h.sB oJ f1 fun F1 wf h1 s1=>cond_false rfl ?_);have h:=h.qj h1 s1;refine oC h.own 1 rfl q.2.1 rfl (CI h.sB oJ f2 fun F2 wg h2 s2=>cond_false rfl ?_);have h:=h.qj h2 s2;refine nI (h.own.at (i:=0) rfl) _ (po _) rfl (qu7 h.sB oJ hk fun F3 wh h3 s3=>cond_false rfl ?_);have h:=h.qj h3 s3;refine oC h.own 2 rfl (gj t) rfl (qnH h.sB oJ ⟨C.1,C.2.1⟩ (show (0:Int)<=1/\(1:Int)<=255 from⟨oM,oM⟩) fun F4 wi h4 s4=>⟨rfl,F4,h.qj h4 s4⟩);rintro bo w4 ⟨rfl,F4,h⟩;refine cond_false rfl (oC h.own 2 rfl t rfl (qx5 C fun w5 f5=>?_));have h:=h.q7 f5;have R:((((b.dQ q.1).dQ q.2.1).ga (t,fK t)).fN (gj t,1)).gn=0:=hg;unfold qE at u;dsimp only at u;generalize (((b.dQ q.1).dQ q.2.1).ga (t,fK t)).fN (gj t,1)=b4 at h u R z4;cases I:ot t with
 | none=>
  rw[I] at u;exact cond_false rfl (u w5 ⟨F4,rd,h.sub (.cons _ (.cons _ (.cons _ (.cons _ (.refl _)))))⟩ R)
 | some e=>
  rw[I] at u;have he:mn e:=by unfold ot at I;have hN:(0:Int)<=kx t/\kx t<=18446744073709551615:=C.2.2.2.2.2.2.2.2.2.2.2.2.2.2.2;have hO:(0:Int)<=lN t/\lN t<=4294967295:=C.2.2.2.2.2.2.2.2.2.2.2.1;split at I;cases I;split at I;cases I;exact⟨oJ,oJ⟩;cases I
  have ar:ee ig (e,kx t,gj t):=⟨rH he,C.2.2.2.2.2.2.2.2.2.2.2.2.2.2.2,C.1,C.2.1⟩;refine cond_true rfl (oA h.own 2 rfl (kx t) rfl (oC h.own 2 rfl (gj t) rfl (oB h.own fun aA w6 _ _ o=>o.st' 0 rfl (HL.mk ig (e,kx t,gj t)).toArray (iG rfl) rfl (zM _) fun w7 o _=>?_)));have h:=h.j8 o;clear o;refine oC h.own 5 rfl rd rfl (oC h.own 0 rfl (e,kx t,gj t) rfl (qu1 h.rb oJ h.lt fun re w8 h8 f8=>?_));have h:=h.pr f8 h8;refine h.own.st' 5 rfl _ (iG rfl) rfl (zM _) fun w9 o _=>?_;have h:=h.j8 o;clear o;refine oC h.own 0 rfl (e,kx t,gj t) rfl (qu5 h.sB oJ ar fun F5 au av aw=>cond_false rfl ?_);have h:=h.qj av aw;exact u au ⟨F5,re,h.sub (.cons _ (.cons _ (.cons _ (.cons _ (.cons _ (.refl _))))))⟩ R
end
end
section
open Go Go.Pt List
open Go.IntKind (wrap)
open Classical
attribute [local irreducible] ld dK gW nu js eS st new idx jI jH fP jF jq mj gI nn call dW inv run fw jd join loop held ext kO eT mT nz nH IntKind.wrap
variable {K:Option Addr×ol×Bool->WP} {l la:List (HL fx)} {lp:List Pn}
abbrev Ao (a0 a1:Sl):Obj:=.cells #[a0.v,a1.v] 25 (0,0)
def vW (l:List (HL fx)) (i:Nat):Bk:=⟨(mh l).take i,[],[],[],[],[],[],none,0⟩
def qzJ:vW l l.length=vh l:=by unfold vW vh;rw[zS (by rw[mh,length_mapIdx];exact zM _)]
def qzK{i:Nat}(h:i<l.length):(vW l i).dQ (oj i l[i])=vW l (i+1):=by
 have C:i<(mh l).length:=(by rw[mh,length_mapIdx];exact h);have e:(mh l)[i]=oj i l[i]:=(by simp only[mh,getElem_mapIdx]);unfold Bk.dQ vW;dsimp only;rw[Ep,yG C,e];intro x E u;obtain⟨j,G,rfl⟩:=mem_take_iff_getElem.1 E;simp only[mh,getElem_mapIdx] at u
 have:=congrArg Prod.snd u
 have:(j:Int)+1=(i:Int)+1:=this;omega
def qyi{i:Nat}:(vW l i).size<=i:=by have:((mh l).take i).length<=i:=length_take_le _ _;unfold vW Bk.size;simpa using this
def EZ{w:World}{Y:List Nat}{a0 a1:Sl}(ay:∀b∈Y,b<w.heap.size)(hY:HG∉Y)(hv:Hv w)(ha:dX na 15 [] w a0 la)(hp:dX tC 7 [] w a1 lp)(fa:∀a∈la,ee fx a)(fp:∀x∈lp,ee nR x)(V:la.length<=8)(aV:lp.length<=25)(kk:∀sb F ri w',SB w' Y sb F c9 (iC la lp)->RB F w' ri (iC la lp)->(∀x∈F,w.heap.size<=x)->w.heap.size<=sb->Fr [] w w'->K (pW sb,ri,true) w'): cW 9 [.agg #[a0.v,a1.v]] [.one .ptr,.agg eX,.one .bool] w K:=by
 refine qhs ?_;have hc:=EK;have am:a0.len=la.length:=ha.1;have aY:a1.len=lp.length:=hp.1;have hz:=wo;refine oB (oE [] w) fun r1 w1 e1 f1 o=>oB o fun r3 w2 e2 f2 o=>?_;have g1:r1<w2.heap.size:=fE (o.at (i:=1) rfl);have g3:r3<w2.heap.size:=fE (o.at (i:=0) rfl);have a5:=hv.lt;have z1:=f1.size;have z2:=f2.size;refine qw9 (n:=900) (r3::r1::Y) (fun b hb=>?_) (fun hm=>?_) (hv.q7 o.fr) oM oM fun sb pb dbk FD F D w3 hS hM f3 n3=>cond_false rfl ?_;rcases zG.1 hb with rfl|hb;exact g3;rcases zG.1 hb with rfl|hb;exact g1
 have:=ay b hb
 omega;rcases zG.1 hm with e|hm;omega;rcases zG.1 hm with e|hm;omega;exact hY hm;have h:=oQ.start (Y:=Y) o hS hc.2 f3 n3;clear o hS hM;refine oB h.own fun r9 w4 _ _ o=>?_;have h:=h.j8 o;clear o;refine oA h.own 2 rfl a0 rfl<|jS (fun x W=>∃i:Nat,∃F ri,x=i/\i<=la.length/\oQ w W Y [(r9,tG ri),(r3,tG vU),(r1,Ao a0 a1)] sb F c9 (vW la i) (vW la i) ri) (fun x _=>la.length-x.toNat) ⟨0,F,vU,rfl,yX _,h⟩ ?_;clear h;rintro x W ⟨i,F,ri,rfl,hi,h⟩ X hX;apply cD<;>intro C;have G:i<la.length:=oJ;have hs:=qyi (l:=la) (i:=i);have hf:=qsK (i:=i) oJ (fa _ (zX G));refine dX.pL (ha.q7 h.fr) i rfl (zA G) rfl rfl ?_;have eu:wrap .u64 (wrap .u64 (i:Int)+1)=(i:Int)+1:=(by rw[qs (i:Int) ⟨oJ,oJ⟩,qs _ ⟨oJ,oJ⟩]);rw[eu];refine oB h.own fun a' w5 _ _ o=>o.st' 0 rfl _ (iG rfl) rfl (zM _) fun w6 o _=>o.st' 0 rfl (HL.mk fx (oj i la[i])).toArray rfl rfl (zO rfl) fun w7 o _=>?_;have h:=h.j8 o;clear o;have ab:=qzK G;generalize oj i la[i]=a at h hf ab;refine oC h.own 1 rfl ri rfl (oC h.own 0 rfl a rfl (BJ h.rb oJ h.lt fun rb w8 h8 f8=>?_));have h:=h.pr f8 h8;refine h.own.st' 1 rfl _ (iG rfl) rfl (zM _) fun w9 o _=>?_;have h:=h.j8 o;clear o;refine oC h.own 0 rfl a rfl (CI h.sB oJ hf fun F2 ad aA aB=>cond_false rfl ?_);have h:=h.qj aA aB;rw[ab] at h;rw[fV _ oJ];exact hX _ _ ⟨i+1,F2,rb,rfl,G,h.sub (.cons _ (.refl _))⟩ oJ;have G:i=la.length:=oJ;subst G;rw[qzJ] at h;refine iR (fun _ W=>Bh w Y sb r9 r3 r1 (Ao a0 a1) (iC la lp) W) ?_ ?_;refine oA h.own 2 rfl a1 rfl ?_;clear hX;refine jS (fun q W=>∃j:Nat,∃b,q.2=j/\j<=lp.length/\Bh w Y sb r9 r3 r1 (Ao a0 a1) b W/\b.gn=0/\(2<=la.length->rA la.length j q.1 b/\nO la.length j q.1 b (lp.drop j)=iC la lp)/\(la.length<2->b=vh la)) (fun q _=>lp.length-q.2.toNat) ⟨0,vh la,rfl,yX _,⟨F,ri,h⟩,rfl,fun E=>⟨rA.start V fa,by unfold iC;rw[iN];rfl⟩,fun _=>rfl⟩ ?_;clear h;rintro⟨s,q⟩ W ⟨j,b,hq,hj,⟨F,ri,h⟩,hg,I,ao⟩ X hX;dsimp only at hq I⊢;subst hq;apply cD<;>intro C;have J:j<lp.length:=oJ;have hx:=zA J;have u:=fp _ (zX J);have hd:=zY J;rw[hd] at I;generalize lp[j]=x at hx u I;refine iR (fun y W=>2<=la.length/\y=lJ s x/\Bh w Y sb r9 r3 r1 (Ao a0 a1) (lq la.length j s b x) W/\(lq la.length j s b x).gn=0) ?_ ?_;refine dX.pL (hp.q7 h.fr) j rfl hx rfl rfl<|oB h.own fun aC w5 _ _ o=>o.st' 0 rfl (HL.mk nR x).toArray (iG rfl) rfl (zM _) fun w6 o _=>oA o 3 rfl a0 rfl (eH (fun ae=>?_) fun ae=>?_);have E:la.length<2:=(by have:=zC ae;omega);have hb:=ao E;have eb:iC la lp=b:=(by unfold iC;rw[if_pos E,hb]);rw[eb];exact⟨F,ri,(h.j8 o).sub (.cons _ (.refl _))⟩;have E:2<=la.length:=(by have:=zB ae;omega);obtain⟨I,ap⟩:=I E;have aE:(0:Int)<=qO x/\qO x<=255:=u.1;have aF:(0:Int)<=qG x/\qG x<=255:=u.2.1;have bi:(0:Int)<=rP x/\rP x<=255:=u.2.2.2.2.2.1;have aG:(0:Int)<=wQ x/\wQ x<=65535:=u.2.2.2.2.2.2;have bj:=I.st;have es:wrap .u64 (s+wrap .u64 (1+wrap .u64 (rP x)))=lJ s x:=by rw[qs (rP x) ⟨oJ,oJ⟩,qs (1+rP x) ⟨oJ,oJ⟩,qs (s+(1+rP x)) ⟨oJ,oJ⟩];rfl
 have em:∀y:Int,0<=y/\y<=255->wrap .u64 (wrap .u64 (Int.tmod (wrap .i64 y) (a0.len:Int))+1)=y%(la.length:Int)+1:=fun y hy=>by have m:0<=y%(la.length:Int)/\y%(la.length:Int)<la.length:=⟨Int.emod_nonneg _ oJ,Int.emod_lt_of_pos _ oJ⟩;rw[fV _ oJ,am,Int.tmod_eq_emod_of_nonneg hy.1,qs (y%(la.length:Int)) ⟨oJ,oJ⟩,qs (y%(la.length:Int)+1) ⟨oJ,oJ⟩]
 have og:=o.drew;refine oA og 0 rfl (qO x) rfl (mc oJ (oA og 0 rfl (qG x) rfl (mc oJ (oA og 0 rfl (rP x) rfl (oC og 0 rfl (Fc x) rfl (oA og 0 rfl (wQ x) rfl (oA og 0 rfl (pnT x) rfl ?_)))))));rw[es,em _ aE,em _ aF,qs (j:Int) ⟨oJ,oJ⟩];refine oB og fun aH w7 _ _ o=>o.st' 0 rfl (HL.mk io (qC la.length j (lJ s x) x)).toArray (iG rfl) rfl (zM _) fun w8 o _=>?_;have o:=o.drew;have hR:=(h.j8 o).rb;have bl:b.size<=b.many:=Nat.le_add_right _ _;have bm:=I.many;have ag:b.size<=100000:=oJ;have aq:mn (lJ s x):=(by unfold lJ;exact⟨oJ,oJ⟩);have ht:=Hc (i:=j) (x:=x) ⟨E,V⟩ oJ aq u;have aa:hasB (jE (qC la.length j (lJ s x) x)) 2=true:=(qxg (x:=wQ x) ⟨aG.1,oJ⟩).2;have O:∀i,ee fx ((eG b i).getD kE):=fun i=>by
  cases hx:eG b i with
  | none=>exact A8
  | some a=>exact I.snd.fit a (sO hx).1
 have fD:=O (gc (qC la.length j (lJ s x) x));have fC:=O (gd (qC la.length j (lJ s x) x));generalize et:qC la.length j (lJ s x) x=t at o ht aa fD fC;have ah:∀ {Q:Nat} {w9:World},dR [r9,r3,r1] W w9 [(Q,.cells (kj pK).toArray qa (0,0)),(aH,.cells (HL.mk io t).toArray wL (0,0)),(aC,.cells (HL.mk nR x).toArray 81 (0,0)),(r9,tG ri),(r3,tG vU),(r1,Ao a0 a1)]->_:=fun {Q w9} o=>qAA (pp:=pW pb) (K:=K) (X:=fun y W=>2<=la.length/\y=lJ s x/\Bh w Y sb r9 r3 r1 (Ao a0 a1) (lq la.length j s b x) W/\(lq la.length j s b x).gn=0) h o et rfl I ⟨E,V⟩ oJ u am hg es fun w' ai aj=>⟨E,rfl,ai,aj⟩;refine⟨?_,?_,?_⟩;refine oC o 0 rfl t rfl (oC o 0 rfl (fK t) rfl (oC o 2 rfl ri rfl (oC o 0 rfl (gc t) rfl (oC o 0 rfl (gd t) rfl (AC (i:=gc t) (j:=gd t) hR ag fun w9 R=>jU ((o.q7 R).cells 0 rfl rfl) ((o.q7 R).cells 0 rfl rfl) (Hz ht aa fD fC fun ad U=>oI ((o.q7 R).q7 U) hz fun Q ar _ o=>Ga (o.cells 1 rfl rfl) (o.cells 1 rfl rfl) (o.cells 3 rfl rfl) (o.cells 1 rfl rfl) (o.cells 1 rfl rfl) (ah o)))))));refine oC o 0 rfl t rfl (oC o 0 rfl (fK t) rfl (oC o 2 rfl ri rfl (oC o 0 rfl (gc t) rfl (oC o 0 rfl (gd t) rfl (AC (i:=gc t) (j:=gd t) hR ag fun w9 R=>jU ((o.q7 R).cells 0 rfl rfl) ((o.q7 R).cells 0 rfl rfl) (oI (o.q7 R) hz fun Q ar _ o=>Ga (o.cells 1 rfl rfl) (o.cells 1 rfl rfl) (o.cells 3 rfl rfl) (o.cells 1 rfl rfl) (o.cells 1 rfl rfl) (Hz ht aa fD fC fun ad U=>ah (o.q7 U))))))));refine oC o 0 rfl t rfl (oC o 0 rfl (fK t) rfl (oC o 2 rfl ri rfl (oC o 0 rfl (gc t) rfl (oC o 0 rfl (gd t) rfl (oI o hz fun Q ar _ o=>Ga (o.cells 1 rfl rfl) (o.cells 1 rfl rfl) (o.cells 3 rfl rfl) (o.cells 1 rfl rfl) (o.cells 1 rfl rfl) (AC (i:=gc t) (j:=gd t) (h.j8 o).rb ag fun w9 R=>jU ((o.q7 R).cells 1 rfl rfl) ((o.q7 R).cells 1 rfl rfl) (Hz ht aa fD fC fun ad U=>ah ((o.q7 R).q7 U))))))));rintro y W' ⟨E,rfl,ai,aj⟩;obtain⟨I,ap⟩:=I E;rw[fV _ oJ];exact hX _ _ ⟨j+1,_,rfl,J,ai,aj,fun _=>⟨I.uD ⟨E,V⟩ oJ u,ap⟩,fun h=>oJ⟩ oN;have J:j=lp.length:=oJ;subst J;have eb:iC la lp=b:=by
  by_cases E:la.length<2;unfold iC;rw[if_pos E,ao E]
  have:=(I oJ).2
  rw[drop_length,nO] at this;exact this.symm
 rw[eb];exact⟨F,ri,h⟩;rintro _ W' ⟨F,ri,h⟩;have o:=h.own.drew;refine oC o 0 rfl ri rfl (o.st' 1 rfl _ (iG rfl) rfl (zM _) fun w' o _=>oC o 1 rfl ri rfl ?_);have h:=h.j8 o;exact kk sb F ri w' (h.sB.x8 fun _ h=>zI _ h) (h.rb.q8 (.refl _ _) fun x hx=>.inl (zI _ hx)) h.nF h.ns.1 h.fr
def qtb(C:la.length<=8)(R:lp.length<=25)(U:∀a∈la,ee fx a)(V:∀x∈lp,ee nR x):rL (iC la lp)/\(iC la lp).many<=258/\(iC la lp).due.length<=25/\(iC la lp).gn=0:=by
 have go:∀(l:List Pn) (i:Nat) (s:Int) (b:Bk),2<=la.length->i+l.length<=25->(∀x∈l,ee nR x)->rA la.length i s b->b.due.length<=i->b.gn=0->∃J,rA la.length (i+l.length) J (nO la.length i s b l)/\(nO la.length i s b l).due.length<=i+l.length/\(nO la.length i s b l).gn=0:=by
  intro l;induction l with
  | nil=>exact fun i s b _ _ _ h G u=>⟨s,h,G,u⟩
  | cons x l ih=>
   intro i s b O hi Q h G u;rw[yI] at hi;have E:(lq la.length i s b x).due.length<=i+1/\(lq la.length i s b x).gn=0:=by
    unfold lq;dsimp only;split;exact⟨oJ,u⟩;split;exact⟨oJ,u⟩;unfold qE;dsimp only;split;exact⟨by show b.due.length<=_;omega,u⟩;refine⟨?_,u⟩;show (jZ _ (ib _ b.due)).length<=_;rw[CE.length_eq,yI]
    have:=(BY (d:=(‹Int›,kx (qC la.length i (lJ s x) x),gj (qC la.length i (lJ s x) x))) (l:=b.due)).length_le
    omega
   have:=ih (i+1) (lJ s x) (lq la.length i s b x) O oJ (fun y hy=>Q y (zN _ hy)) (h.uD ⟨O,C⟩ oJ (Q x mem_cons_self)) E.1 E.2
   rw[yI,show i+(l.length+1)=i+1+l.length by omega];exact this
 have I:=rA.start C U;unfold iC;split
 have:=I.many
 exact⟨I.snd,oJ,yX _,rfl⟩;obtain⟨J,h,G,u⟩:=go lp 0 1 (vh la) oJ oJ V I (zM _) rfl;rw[xS] at h G
 have:=h.many
 exact⟨h.snd,oJ,oJ,u⟩
end
section
open Go Go.ChangeShapes Go.WideShapes Go.ChangeAt Go.RowKit Go.Pt
variable {x:HL [Cell.slice,Cell.slice]}
def Cs:List Cell->List Value->Prop
 | [],[]=>True
 | c::h,v::vs=>(∃x:c.El,v=c.mk x/\tQ c x)/\Cs h vs
 | _,_=>False
def Cs.ul:∀ {a b:List Cell} {u v:List Value},Cs a u->Cs b v->Cs (a++b) (u++v)
 | [],b,[],v,_,h=>h
 | c::a,b,x::u,v,h,g=>⟨h.1,Cs.ul h.2 g⟩
 | [],_,_::_,_,h,_=>h.elim
 | _::_,_,[],_,h,_=>h.elim
def Cs.hl:∀ {cs:List Cell} {vs:List Value},Cs cs vs->∃x:HL cs,vs=HL.mk cs x/\ee cs x
 | [],[],_=>⟨(),rfl,trivial⟩
 | [c],[v],h=>by obtain⟨x,u,C⟩:=h.1;exact⟨x,by rw[u];rfl,C⟩
 | c::E::cs,v::vs,h=>by obtain⟨x,u,C⟩:=h.1;obtain⟨y,G,I⟩:=Cs.hl (cs:=E::cs) h.2;exact⟨(x,y),by rw[u,G];rfl,C,I⟩
 | [],_::_,h=>h.elim
 | [_],[],h=>h.elim
 | [_],_::_::_,h=>h.2.elim
 | _::_::_,[],h=>h.elim
def tp (P:Program) (f:TypeId->Option (List Cell)):Nat->List Field->Option (List Cell)
 | _,[]=>some []
 | k,x::h=>bif Nat.beq x.offset k then match f x.type with
  | some a=>bif Nat.beq (P.cellsOf x.type) a.length then (tp P f (k+a.length) h).map (a++·) else none
  | none=>none else none
def tA (P:Program):Nat->TypeId->Option (List Cell)
 | 0,_=>none
 | d+1,t=>match P.underlying t with
  | some (.int k)=>some [.int k]
  | some .bool=>some [.bool]
  | some (.struct u)=>match tp P (tA P d) 0 u.toList with
   | some h=>bif Nat.beq (P.cellsOf t) h.length then some h else none
   | none=>none
  | _=>none
section
variable {H:Type} {enc:TypeId×Value->H} {P:Program} {W:World} {base:Nat} {spare:Nat->Bool} {held:Bool}
def qrI{f:TypeId->Option (List Cell)}{cells:List Value}(I:∀t cs,f t=some cs->∀n vs y,DataW.trod enc P W base spare held n t vs=some y->Cs cs vs):∀ {u:List Field} {k:Nat} {cs:List Cell},tp P f k u=some cs-> (∀x∈u,∃n y,DataW.trod enc P W base spare held n x.type ((cells.drop x.offset).take (P.cellsOf x.type))=some y)->Cs cs ((cells.drop k).take cs.length)
 | [],k,cs,h,_=>by cases h;exact trivial
 | x::u,k,cs,h,J=>by
  unfold tp at h;cases C:Nat.beq x.offset k with
  | false=>rw[C] at h;cases h
  | true=>
   rw[C] at h;cases E:f x.type with
   | none=>rw[E] at h;cases h
   | some a=>
    rw[E] at h;dsimp only [_root_.cond_true] at h;cases G:Nat.beq (P.cellsOf x.type) a.length with
    | false=>rw[G] at h;cases h
    | true=>
     rw[G] at h;obtain⟨b,Q,rfl⟩:=yT.1 h;have ih:=qrI (cells:=cells) I Q fun z R=>J z (zN _ R);obtain⟨n,y,O⟩:=J x List.mem_cons_self;rw[yW C,yW G] at O;rw[zF,List.take_add,xD];exact (I _ _ E _ _ _ O).ul ih
def qrJ:∀(d:Nat) (t:TypeId) (cs:List Cell),tA P d t=some cs->∀n vs y,DataW.trod enc P W base spare held n t vs=some y->Cs cs vs
 | 0,_,_,h,_,_,_,_=>nomatch h
 | d+1,t,cs,h,n,vs,y,u=>by
  unfold tA at h;split at h
  ·next k hu=>
   cases h;obtain⟨m,C,_,O⟩:=DataW.trod_int hu u;rw[C];exact⟨⟨m,rfl,qxT O⟩,trivial⟩
  ·next hu=>
   cases h;obtain⟨m,C,_⟩:=DataW.trod_bool hu u;rw[C];exact⟨⟨m,rfl,trivial⟩,trivial⟩
  ·next fs hu=>
   split at h
   ·next cs' hd=>
    cases E:Nat.beq (P.cellsOf t) cs'.length with
    | false=>rw[E] at h;cases h
    | true=>
     rw[E] at h;cases h;obtain⟨Q,m,_,_,I,R,U⟩:=DataW.trod_struct hu u
     have:=qrI (cells:=vs) (qrJ d) hd fun x V=>by obtain⟨i,hi,rfl⟩:=List.getElem_of_mem V;have G:i<fs.size:=(oP hi);have J:=U i fs[i] (by simp[G]);rw[zA (show i<Q.length by omega)] at J;exact⟨_,_,by simpa using J⟩
     rw[xF,zS (by have:=yW E;omega)] at this;exact this
   cases h
  cases h
def qpY{e:TypeId}{cs:List Cell}(d:Nat)(C:tA P d e=some cs):∀n u y,DataW.trod enc P W base spare held n e u=some y->∃x:HL cs,u=HL.mk cs x/\ee cs x:=fun n u y h=>(qrJ d e cs C n u y h).hl
abbrev uO:TypeId:=25
def qBv:rg prog uO 0=some 22:=by kernel_rfl
def qBw:rg prog uO 1=some 23:=by kernel_rfl
def qBf{n:Nat}{y:DataW H×List MemPlace}(h:DataW.trod enc prog W base spare held n uO (HL.mk [Cell.slice,Cell.slice] x)=some y):∃la u,(dX na 15 [] W x.1 la/\∀a∈la,ee fx a)/\dX tC 7 [] W x.2 u/\∀p∈u,ee nR p:=by obtain⟨x',e,_,C⟩:=qwC (cs:=[Cell.slice,Cell.slice]) oK n _ y h;rw[<- e] at C;obtain⟨U,V,y0,E,I⟩:=C 0 x.1.v rfl;obtain rfl:=yO (qBv.symm.trans E);obtain⟨u1,n1,y1,G,J⟩:=C 1 x.2.v rfl;obtain rfl:=yO (qBw.symm.trans G);obtain⟨la,O,e1⟩:=qqT (P:=prog) (t:=22) (e:=47) (s:=x.1) (k:=15) (encB:=na) oK oK oM (qpY 4 oK) I;obtain⟨u,Q,R⟩:=qqT (P:=prog) (t:=23) (e:=81) (s:=x.2) (k:=7) (encB:=tC) oK oK oM (qpY 4 oK) J;exact⟨la,u,⟨O,e1⟩,Q,R⟩
end
end
end Go.Proofs.YtfneoijhmknlnaaGreatDoor
namespace Go.Pt
section
open Go
end
end Go.Pt
namespace Go.Proofs.YtfneoijhmknlnaaGreatDoor
section
open Go.Proofs.Tryz (prog)
open Go Go.Pt List
open Classical
attribute [local irreducible] ld dK gW nu js eS st new idx jI jH fP jF jq mj gI nn call dW inv run fw jd join loop held ext kO eT mT nz nH IntKind.wrap
structure H9 (yield:Value) (Yc:List Nat) (wb:World) (L:List (HL nd)) (I:Nat->WP) (E:WP):Prop where
 stay:∀ i W W' Z,I i W->Fr Z W W'->(∀ b∈Z,wb.heap.size<=b)->I i W'
 H6:∀ W W' Z,E W->Fr Z W W'->(∀ b∈Z,wb.heap.size<=b)->E W'
 take:∀ i (hi:i<L.length) W (K:Bool->WP),I i W->wb.heap.size<=W.heap.size->(∀ W',Fr Yc W W'->I (i+1) W'->K true W')->(∀ W',Fr Yc W W'->E W'->K false W')->dW prog yield [.agg (HL.mk nd L[i]).toArray] dg W K
end
section
open Go Go.Pt List
open Go.IntKind (wrap)
open Classical
def HU{P:Program}{f:TypeId->Value->Value->Option Bool}{C:Array Value}(u:∀t x r,f t x x=some r->r=true):∀ {E:List Field} {r:Bool},rq P f C C E=some r->r=true
 | [],r,h=>by simp[rq] at h;exact h
 | x::E,r,h=>by simp only[rq] at h;split at h;split at h;rename_i a b I G;rw[I] at G;cases G;split at h;rename_i r1 q J O;cases h;rw[u _ _ _ J,HU u O];rfl;cases h;cases h;exact HU u h
def qp2{P:Program}{f:TypeId->Value->Value->Option Bool}{e n:Nat}{u:Array Value}(C:∀t x r,f t x x=some r->r=true):∀ {is:List Nat} {r:Bool},sh P f e n u u is=some r->r=true
 | [],r,h=>by simp[sh] at h;exact h
 | i::is,r,h=>by simp only[sh] at h;split at h;rename_i a b G E;rw[G] at E;cases E;split at h;rename_i r1 q I J;cases h;rw[C _ _ _ I,qp2 C J];rfl;cases h;cases h
def Gw{P:Program}:∀(d:Nat) (t:TypeId) (x:Value) (r:Bool),uZ P d t x x=some r->r=true
 | 0,_,_,_,h=>nomatch h
 | d+1,t,x,r,h=>by
  unfold uZ at h;split at h
  ·next heq=>cases heq;cases h;exact beq_self_eq_true _
  ·next heq=>cases heq;simp at h;exact h
  ·next heq=>cases heq;cases h;exact beq_self_eq_true _
  ·next heq=>
   cases heq;cases u:P.stoodInHeld t with
   | true=>rw[u] at h;cases h
   | false=>rw[u] at h;exact HU (Gw d) h
  ·next heq=>
   cases heq;next _ e _ _=>
   cases u:nS P e with
   | false=>rw[u] at h;cases h
   | true=>rw[u] at h;exact qp2 (Gw d) h
  cases h
def qBC{P:Program}{t:TypeId}{x y:Operand}{cs:Array Value}{w:World}{K:Bool->Prop}(d:Nat)(C:d<=10000)(h:(uZ P d t (.agg cs) (.agg cs)).isSome=true)(E:P.eqGuardType P.depth t=false)(k:K false): fw [iD.one Cell.bool] (fun w'=>(do eqGuard .neq t x y (.agg cs) (.agg cs);binOp .neq t (.agg cs) (.agg cs):Sem Value).run P w') w K:=by
 obtain⟨r,u⟩:=Option.isSome_iff_exists.1 h
 have:=Gw _ _ _ _ u
 subst this;exact qBB d C true u E k
attribute [local irreducible] ld dK gW nu js eS st new idx jI jH fP jF jq mj gI nn call dW inv run fw jd join loop held ext kO eT mT nz nH IntKind.wrap
end
section
open Go Go.Pt List
open Go.IntKind (wrap)
open Classical
def rm:List (HL fx):=[kE,kE]
def ru:List Pn:=[((0:Int),(1:Int),(0:Int),(2:Int),(0:Int),(0:Int),(0:Int)),((0:Int),(1:Int),(0:Int),(5:Int),(3:Int),(0:Int),(0:Int))]
def qzQ:(iy (iC rm ru).due 9 9).length=1:=by kernel_rfl
def qzP:gf ((eG (fO (iC rm ru) (iy (iC rm ru).due 9 9) 9) ((0:Int),(1:Int))).getD kE)=((0:Int),(2:Int)):=by kernel_rfl
attribute [local irreducible] ld dK gW nu js eS st new idx jI jH fP jF jq mj gI nn call dW inv run fw jd join loop held ext kO eT mT nz nH IntKind.wrap
def qxv{α:Type}{enc:α->List Value}{k:Nat}{w:World}{r:Nat}{cs:Array Value}{T:TypeId}{l:List α}(u:∀x,(enc x).length=k)(E:w.heap[r]?=some (.cells cs T (0,0)))(C:cs.toList=l.flatMap enc):dX enc k [] w ⟨pW r,l.length,l.length⟩ l:=by have G:cs.size=l.length*k:=(by rw[<- Array.length_toList,C,qT u]);exact eY.kB (B:=[r]) u (.inr ⟨r,0,cs,T,rfl,rfl,rfl,E,rfl,zM _,by dsimp only;omega,by rw[xF,C];exact zS (by rw[qT u];exact zM _)⟩) fun _ _ h=>nomatch h
section
variable {w0 W w w':World} {Y F F':List Nat} {L L':List (Nat×Obj)} {sb c:Nat} {b bs br bs' br':Bk} {ri r':ol}
def oQ.init(u:SB W Y sb F c b)(C:RB F W ri b)(f:Fr [] w0 W)(E:∀x∈F,w0.heap.size<=x)(G:w0.heap.size<=sb):oQ w0 W Y [] sb F c b b ri:=⟨oE [] W,u,C,f,(fun _ h=>nomatch h),E,G,(fun h=>nomatch h)⟩
end
structure wD (b:Bk):Prop where
 snd:rL b
 many:b.many<=258
 gone:b.gn+b.due.length<=25
def wD.built{la:List (HL fx)}{lp:List Pn}(h:la.length<=8)(u:lp.length<=25)(C:∀a∈la,ee fx a)(E:∀x∈lp,ee nR x):wD (iC la lp):=by obtain⟨G,I,J,O⟩:=qtb h u C E;exact⟨G,I,oJ⟩
def wD.ok{b:Bk}(h:wD b)(first most n:Int):ou c9 b (iy b.due first most) n:=(h.snd.uy Dy (by have:=EK;have:=h.many;omega)).1
def wD.small{b:Bk}(h:wD b):b.size<=258:=zL (Nat.le_add_right _ _) h.many
def qn0{w:World}{K:Bool->WP}(hv:Hv w)(kk:∀w',Fr [] w w'->K true w'):cW 8 [] dg w K:=by
 refine qht ?_;unfold qdL;refine oB (oE [] w) fun r1 w1 _ f1 o=>oB o fun r3 w2 _ f2 o=>?_;have J:∀a∈rm,ee fx a:=fun a O=>by simp only[rm,zG,xX,or_false] at O;rcases O with rfl|rfl<;>exact A8
 have Q:∀x∈ru,ee nR x:=fun x R=>by simp only[ru,zG,xX,or_false] at R;rcases R with rfl|rfl;exact⟨show (0:Int)<=0/\(0:Int)<=255 from⟨oM,oM⟩,show (0:Int)<=1/\(1:Int)<=255 from⟨oM,oM⟩,qb,rH (x:=2) ⟨oM,oM⟩,show (0:Int)<=0/\(0:Int)<=4294967295 from⟨oM,oM⟩,show (0:Int)<=0/\(0:Int)<=255 from⟨oM,oM⟩,yw (x:=0) ⟨oM,oM⟩⟩;exact⟨show (0:Int)<=0/\(0:Int)<=255 from⟨oM,oM⟩,show (0:Int)<=1/\(1:Int)<=255 from⟨oM,oM⟩,qb,rH (x:=5) ⟨oM,oM⟩,show (0:Int)<=3/\(3:Int)<=4294967295 from⟨oM,oM⟩,show (0:Int)<=0/\(0:Int)<=255 from⟨oM,oM⟩,yw (x:=0) ⟨oM,oM⟩⟩
 have C:=wD.built (la:=rm) (lp:=ru) oM oM J Q;have U:IntKind.u64.has 9:=rH (x:=9) ⟨oM,oM⟩;have ae:=C.small;have hg:=C.gone;have af:=C.many;refine EZ (Y:=[]) (la:=rm) (lp:=ru) (fun _ h=>nomatch h) (fun h=>nomatch h) (hv.q7 o.fr) (qxv (fun _=>rfl) (o.at (i:=1) rfl) rfl) (qxv (fun _=>rfl) (o.at (i:=0) rfl) rfl) J Q oM oM fun sb F ri w3 hS hR nF ns V=>?_;have h:=oQ.init hS hR V nF ns;have o:=o.q7 V;refine oB h.own fun r7 w4 _ _ u=>u.st' 0 rfl _ (iG rfl) rfl (zM _) fun w5 u _=>cond_false rfl ?_;have h:=h.j8 u;clear u;refine Fw h.sB U C.snd.due oJ (C.ok 9 9 9) fun F6 w6 h6 s6=>?_;have h:=h.qj h6 s6;refine CH h.sB (i0:=0) (i1:=1) ⟨qb,rH (x:=1) ⟨oM,oM⟩⟩ fun w7 f7=>?_;have h:=h.q7 f7;refine oB h.own fun an w8 _ _ u=>u.st' 0 rfl _ (iG rfl) rfl (zM _) fun w9 u _=>?_;have h:=h.j8 u;clear u;refine oC h.own 1 rfl ri rfl (qwg h.rb h.lt C.snd U oJ oJ fun ao ap G I=>?_);have h:=h.pr I G;refine oB h.own fun aq ar _ _ u=>u.st' 0 rfl _ (iG rfl) rfl (zM _) fun E u _=>?_;have h:=h.j8 u;clear u;rw[qzQ];refine cond_true rfl (cond_true rfl (cond_true rfl ?_));refine oC h.own 1 rfl (gf ((eG (fO (iC rm ru) (iy (iC rm ru).due 9 9) 9) ((0:Int),(1:Int))).getD kE)) rfl<|zz (b:=((0:Int),(2:Int))) ?_;rw[qzP,yA rfl];have f:Fr [] w E:=(f1.trans f2).trans h.fr;exact kk E f
end
section
open Go Go.Pt List
open Go.IntKind (wrap)
open Classical
attribute [local irreducible] ld dK gW nu js eS st new idx jI jH fP jF jq mj gI nn call dW inv run fw jd join loop held ext kO eT mT nz nH IntKind.wrap
def SB.cN{w w':World}{Y Y' F:List Nat}{sb c:Nat}{b:Bk}(h:SB w Y sb F c b)(f:Fr Y w w')(C:sb∉Y)(E:∀b∈Y',b<w'.heap.size)(G:∀b∈Y',b∈Y\/w.heap.size<=b):SB w' Y' sb F c b:=by obtain⟨pb,dbk,FD,D,M,Fo,u,I,J⟩:=h;exact⟨pb,dbk,FD,D,M,Fo,⟨u.tw.cN f E G,u.st,by rw[f.block sb (fE u.cell) C];exact u.cell,u.out⟩,I,J⟩
structure uS (w0 W:World) (L:List (Nat×Obj)) (s1:Nat) (F1:List Nat) (b1:Bk) (s2:Nat) (F2:List Nat) (b2:Bk) (sl:Sl) (la:List (HL fx)):Prop where
 own:dR (fu L) W W L
 t1:SB W (fu L++F2) s1 F1 c9 b1
 t2:SB W (fu L++F1) s2 F2 c9 b2
 rows:dX na 15 (fu L++(F1++F2)) W sl la
 fr:Fr [] w0 W
 nL:∀ x∈fu L,w0.heap.size<=x
 Au:∀ x∈F1,w0.heap.size<=x
 Bc:∀ x∈F2,w0.heap.size<=x
 n1:s1∉fu L++F2
 n2:s2∉fu L++F1
section
variable {w0 W w':World} {L L':List (Nat×Obj)} {s1 s2:Nat} {F1 F2 F':List Nat} {b1 b2 b':Bk} {sl:Sl} {la:List (HL fx)}
def uS.q7(h:uS w0 W L s1 F1 b1 s2 F2 b2 sl la)(f:Fr [] W w'):uS w0 w' L s1 F1 b1 s2 F2 b2 sl la:=
 ⟨(h.own.q7 f).k8,h.t1.q7 f,h.t2.q7 f,h.rows.q7 f,h.fr.trans f,h.nL,h.Au,h.Bc,h.n1,h.n2⟩
def uS.BA(h:uS w0 W L s1 F1 b1 s2 F2 b2 sl la)(E:SB w' (fu L++F2) s1 F' c9 b')(s:nV F1 W F' w'):uS w0 w' L s1 F' b' s2 F2 b2 sl la where
 own:=h.t1.own h.own s
 t1:=E
 t2:=h.t2.cN (s.fr.mono fun x u _=>zI _ u) h.n2 (fun x u=>(zD.1 u).elim (fun u=>yD (vI h.own x u) s.fr.size) (E.Ct x)) fun x u=>(zD.1 u).elim (fun u=>.inl (zH _ u)) fun u=>(s.new x u).imp (zI _) id
 rows:=h.rows.q8 (s.fr.mono fun x u _=>zI _ (zH _ u)) fun x u=>(zD.1 u).elim (fun u=>.inl (zH _ u)) fun u=>(zD.1 u).elim (fun u=>(s.new x u).imp (fun h=>zI _ (zH _ h)) id) fun u=>.inl (zI _ (zI _ u))
 fr:=h.fr.j6 s.fr fun x u=>.inr (h.Au x u)
 nL:=h.nL
 Au:=fun x u=>(s.new x u).elim (h.Au x) (zL h.fr.size)
 Bc:=h.Bc
 n1:=h.n1
 n2:=fun C=>(zD.1 C).elim (fun C=>h.n2 (zH _ C)) fun C=>(s.new _ C).elim (fun C=>h.n2 (zI _ C)) fun C=>by have:=h.t2.lt;omega
def uS.Bs(h:uS w0 W L s1 F1 b1 s2 F2 b2 sl la)(E:SB w' (fu L++F1) s2 F' c9 b')(s:nV F2 W F' w'):uS w0 w' L s1 F1 b1 s2 F' b' sl la where
 own:=h.t2.own h.own s
 t2:=E
 t1:=h.t1.cN (s.fr.mono fun x u _=>zI _ u) h.n1 (fun x u=>(zD.1 u).elim (fun u=>yD (vI h.own x u) s.fr.size) (E.Ct x)) fun x u=>(zD.1 u).elim (fun u=>.inl (zH _ u)) fun u=>(s.new x u).imp (zI _) id
 rows:=h.rows.q8 (s.fr.mono fun x u _=>zI _ (zI _ u)) fun x u=>(zD.1 u).elim (fun u=>.inl (zH _ u)) fun u=>(zD.1 u).elim (fun u=>.inl (zI _ (zH _ u))) fun u=>(s.new x u).imp (fun h=>zI _ (zI _ h)) id
 fr:=h.fr.j6 s.fr fun x u=>.inr (h.Bc x u)
 nL:=h.nL
 Au:=h.Au
 Bc:=fun x u=>(s.new x u).elim (h.Bc x) (zL h.fr.size)
 n2:=h.n2
 n1:=fun C=>(zD.1 C).elim (fun C=>h.n1 (zH _ C)) fun C=>(s.new _ C).elim (fun C=>h.n1 (zI _ C)) fun C=>by have:=h.t1.lt;omega
end
def qqX{w:World}{a0 a1:Sl}{la:List (HL fx)}{lp:List Pn}{first most:Int}{K:Bool->WP}(hv:Hv w)(ha:dX na 15 [] w a0 la)(fa:∀a∈la,ee fx a)(hp:dX tC 7 [] w a1 lp)(fp:∀x∈lp,ee nR x)(hf:IntKind.u64.has first)(E:0<=most/\most<256)(kk:∀w',Fr [] w w'->K true w'): cW 3 [.agg #[a0.v,a1.v],.int .u64 first,.b most] dg w K:=by
 refine qeX ?_;have aV:a0.len=la.length:=ha.1;have aW:a1.len=lp.length:=hp.1;refine oB (oE [] w) fun r1 w1 _ f1 o=>oC o 0 rfl (a0,a1) rfl (qvl fun w2 f2=>?_);have o:=o.q7 f2;have C:=f1.trans f2;refine eH (fun _=>qn0 (hv.q7 C) fun w3 f3=>kk w3 (C.trans f3)) fun O=>?_;rw[Bool.or_eq_false_iff] at O;have c1:¬((a0.len:Int)>8):=zB O.1;have c2:¬((a1.len:Int)>25):=zB O.2;have V:=wD.built (la:=la) (lp:=lp) oJ oJ fa fp;refine oC o 0 rfl (a0,a1) rfl<|EZ (Y:=[]) (fun _ h=>nomatch h) (fun h=>nomatch h) (hv.q7 C) (ha.q7 C) (hp.q7 C) fa fp oJ oJ fun sb F ri w3 hS hR nF ns f3=>?_;have h:=oQ.init hS hR f3 nF ns;have o:=o.q7 f3;clear hS hR nF ns;refine oB h.own fun R w4 _ f4 Q=>Q.st' 0 rfl _ (iG rfl) rfl (zM _) fun w5 Q _=>?_;have o:=o.q7 (Q.fr.mono fun _ h _=>nomatch h);have h:=h.j8 Q;clear Q;refine oC o 0 rfl (a0,a1) rfl ?_;have ab:=h.fr;refine EZ (Y:=R::F) (fun b hb=>h.lt b hb) (fun E=>?_) (hv.q7 (C.trans ab)) (ha.q7 (C.trans ab)) (hp.q7 (C.trans ab)) fa fp oJ oJ fun s2 F2 aZ w6 U ay G a2 f6=>?_
 have:=hv.lt
 have:=C.size
 rcases zG.1 E with e|E
 have:=h.nL R (by simp[fu])
 omega
 have:=h.nF _ E
 omega;generalize iC la lp=b at V h U;clear ay;have a3:=V.small;have az:=V.many;have hg:=V.gone;have ac:=h.lt;have sl:=h.sB.lt;have hT:uS w2 w6 [(R,tG ri)] sb F b s2 F2 b ri.1 b.acc:=⟨(h.own.q7 f6).k8,h.sB.cN (f6.mono fun _ h _=>nomatch h) (fun E=>h.ns.2 (by simpa[fu] using E)) (fun x u=>(zD.1 u).elim (fun u=>yD (ac x (zH _ u)) f6.size) (U.Ct x)) fun x u=>(zD.1 u).elim (fun u=>.inl (zH _ u)) fun u=>.inr (G x u),U,(h.rb.acc.q8 (f6.mono fun _ h _=>nomatch h) fun x u=>(zD.1 u).elim (fun u=>.inl (zH _ u)) fun u=>(zD.1 u).elim (fun u=>.inl (zI _ u)) fun u=>.inr (G x u)),h.fr.trans f6,h.nL,h.nF,(fun x u=>zL h.fr.size (G x u)),(fun E=>(zD.1 E).elim (fun E=>h.ns.2 E) fun E=>by have:=G _ E;omega),(fun E=>by have:=ac _ E;omega)⟩;obtain⟨T0,ad⟩:=h.sB.hb;have a4:(b.acc.map gX).Nodup:=ad.acc.nodup;have ak:=ad.acc.2;clear ad h U G ac sl;refine oB (oE [] w6) fun a5 w7 _ _ Q=>Q.st' 0 rfl _ (iG rfl) rfl (zM _) fun w8 Q _=>?_;have h:=hT.q7 Q.fr;clear hT Q;refine te false w8 (fun M hM=>cond_false rfl hM) (cond_false rfl ?_);have em:wrap .i64 (1+wrap .i64 (Int.tmod most 5))=(((1+most%5).toNat:Nat):Int):=by
  have:=Int.emod_nonneg most (show (5:Int)≠0 by decide)
  have:=Int.emod_lt_of_pos most (show (0:Int)<5 by decide)
  rw[Int.tmod_eq_emod_of_nonneg E.1,fV (most%5) oJ,fV (1+most%5) oJ,Int.toNat_of_nonneg oJ]
 have I:1<=(1+most%5).toNat:=by
  have:=Int.emod_nonneg most (show (5:Int)≠0 by decide)
  omega
 rw[em];generalize (1+most%5).toNat=m at I;have aB:(lP b first).length<=25:=(by have:(lP b first).length<=b.due.length:=length_filter_le _ _;omega);refine jS (fun q W=>∃r k:Nat,∃F1 x,q.2=r/\q.1=k/\r<=30/\k=min (r*m) (lP b first).length/\uS w2 W [(R,tG ri)] sb F1 x s2 F2 b ri.1 b.acc/\oo b first k x/\rL x/\x.many<=258) (fun q _=>30-q.2.toNat) ⟨0,0,F,b,rfl,rfl,oM,oL,h,oo.start,V.snd,az⟩ ?_;clear h;rintro⟨t,q⟩ W ⟨r,k,F1,x,hq,ht,hr,hk,h,hS,u,aC⟩ X hX;dsimp only at hq ht⊢;subst hq;subst ht;have a8:=EK;have a9:k<=25:=oJ;refine eH (fun O=>?_) fun O=>?_
 ·have J:r<30:=(by have:=zC O;omega);obtain⟨e1,hn⟩:=hS.next (m:=m) V.snd.due first
  have ae:=u.uy (c:=c9) (l:=iy x.due first (m:Int)) (n:=first) Dy oJ;have ba:x.size<=x.many:=Nat.le_add_right _ _;have al:(iy x.due first (m:Int)).length=min m ((lP b first).length-k):=(by rw[e1,yL,yC]);refine Fw h.t1 hf u.due oJ ae.1 fun F' w9 h9 s9=>cond_false rfl ?_;rw[al,fV _ oJ,fV _ oJ];have bb:(r+1)*m=r*m+m:=Nat.succ_mul r m;exact hX _ _ ⟨r+1,k+min m ((lP b first).length-k),F',_,rfl,rfl,J,oJ,h.BA h9 s9,hn,ae.2.1,zL ae.2.2 aC⟩ oN
 ·have J:r=30:=(by have:=zB O;omega);subst J;have aG:k=(lP b first).length:=(by have:30<=30*m:=Nat.le_mul_of_pos_right 30 I;omega);have aa:=hS.all (most:=100) (n:=first) oJ oJ;have aH:(iy b.due first 100).length=k:=(by rw[aG];unfold iy lP;exact congrArg List.length (zS (by unfold lP at aB;show _<=100;omega)));refine Fw h.t2 hf V.snd.due oJ (V.ok first 100 first) fun F' w9 h9 s9=>?_;have h:=h.Bs h9 s9;generalize fO b (iy b.due first 100) first=y at h aa
  have aI:∀i,eG y i=eG x i:=fun i=>(yu aa i).symm;refine te false w9 (fun M hM=>cond_false rfl (by rw[aH,beq_self_eq_true];exact hM)) (cond_false rfl ?_);refine oA h.own 0 rfl ri.1 rfl ?_;have bc:ri.1.len=b.acc.length:=h.rows.1;have bd:b.acc.length<=b.size:=(by unfold Bk.size;omega);clear hX;refine jS (fun q W=>∃i:Nat,q=i/\i<=b.acc.length/\Fr [] w9 W) (fun q _=>b.acc.length-q.toNat) ⟨0,rfl,yX _,.refl _ _⟩ ?_;rintro q W ⟨i,rfl,hi,fW⟩ X hX;refine eH (fun O=>?_) fun O=>qn0 (hv.q7 ((C.trans h.fr).trans fW)) fun wz fz=>kk wz (((C.trans h.fr).trans fW).trans fz);have af:i<b.acc.length:=(by have:=zC O;omega);have am:=zX af;have an:=zA af;generalize b.acc[i]=a at am an;have ao:=ak a am;have ap:lw (gX a):=⟨ao.1,ao.2.1⟩;refine dX.pL (h.rows.q7 fW) i rfl an rfl rfl<|oB (oE [] W) fun bh wa _ _ o=>o.st' 0 rfl _ (iG rfl) rfl (zM _) fun wb o _=>oC o 0 rfl (gX a) rfl (CH (h.t1.q7 (fW.trans o.fr)) ap fun wc fc=>?_);refine oB (o.q7 fc) fun bj wd _ _ o=>o.st' 0 rfl _ (iG rfl) rfl (zM _) fun we o _=>oC o 1 rfl (gX a) rfl (CH (h.t2.q7 (fW.trans o.fr)) ap fun wf ff=>?_);rw[aI];refine oB (o.q7 ff) fun bl wg _ _ o=>o.st' 0 rfl _ (iG rfl) rfl (zM _) fun wh o _=>?_;generalize (eG x ((gX a).1,(gX a).2)).getD kE=z at o;refine oC o 1 rfl z rfl (oC o 0 rfl z rfl (qBC (t:=47) 3 oM oK oK (cond_false rfl ?_)));rw[fV _ oJ];exact hX _ _ ⟨i+1,rfl,af,fW.trans o.fr⟩ oJ
end
end Go.Proofs.YtfneoijhmknlnaaGreatDoor
