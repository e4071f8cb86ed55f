/- Conditions: those that stand in each line. -/
import Derived.Test.YtfneoijhmknlnaaGreatDoorCXKR6
import Derived.Test.YtfneoijhmknlnaaGreatDoorCXKR3
import Derived.Test.YtfneoijhmknlnaaGreatDoorCXKR1
import Derived.Test.YtfneoijhmknlnaaGreatDoorCXKR4
set_option linter.unusedVariables false
set_option linter.unusedSimpArgs false
set_option linter.defProp false
namespace Go.Pt
section
open Go
def qzA{o:Obj}{w:Kj}{H:WP}{R:Nat->WP}(h:Pt.new o w R)(u:∀w',Fr [] w w'->H w'):Pt.new o w λr w1=>held [H] w1 (R r w1):=⟨u _ ((Fr.refl [] w).alloc o),h⟩
end
end Go.Pt
namespace Go.Proofs.YtfneoijhmknlnaaGreatDoor
open Go.Proofs.Tryz (prog)
section
open Go Go.Pt List
open Classical
attribute [local irreducible] ld dT iF pC kc fv st new idx kN kG fZ kJ jX nt ib nn call eF inv run fK i3 join loop held ext kC fl oW pD pG IntKind.wrap
abbrev FT:Kl:=231
def qBD:∃i,prog.info? FT=some i/\i.zero=some (.agg di)/\i.size=5/\i.bytes=88:=uH oL
def qBW{w:Kj}{s:Sl}{zs:List sC}{SB:Kr}{x:lJ}{n:dW}{i:Int}{H:WP}{K:Sl->WP}(h:fB jU 5 w s zs SB)(Q:zs.length<=1000000)(G:∀w',Fr [] w w'->H w')(I:∀E B' w',fB jU 5 w' E (zs++[(x,n,i)]) B'->Fr SB w w'->(∀b∈B',b∈SB\/w.heap.size<=b)->K E w'): Pt.new (.cells (Dr x i) FT) w λr w1=>held [H] w1 (Pt.run dp ((Builtin.append_ #[222,222] 222 #[s.v,.slice (pW r) 1 1]).run prog w1) K):=by obtain⟨j,J,O,u,C⟩:=qBD;exact qzA (fB.push (e:=FT) (x:=((x,n,i):sC)) h Ay (qxt _) oL J O u rfl rfl (by rw[C];omega) oK I) G
section
variable {dbk pb:Nat} {FD F:Kr} {D:dV} {M:eZ} {k v:Nat} {frm to:Key} {down:Bool} {w0 w wA:Kj} {cb:Nat} {Y SB:Kr} {st:Sl} {zs:List sC} {x:lJ} {n:dW} {i:Int}
def qsA{S:Kr}{K:Int->WP}(h:gW dbk pb FD D F M k v frm to down w0 cb Y w st SB zs)(u:eY (cb::(SB++Y)) w x n)(C:gz n.J5)(E:n.J5.length<=1000000)(G:∀w',Fr [] w w'->K (k8 down frm to n) w'):eF prog (pi cb down) [.agg (fE x)] dq w K:=by
 obtain⟨R,J,I,O,Q⟩:=h.cell;cases down with
 | false=>exact Cb (ra:=[dQ cb]) rfl oL (qzd I u O h.A1 C E G)
 | true=>exact Cb (ra:=[dQ cb]) rfl oL (qxg I u Q h.Jl C E G)
def qyH{K:Int->WP}(hi:-1000000<=i/\i<=1000000)(h:K (ll down i) w):eF prog (oT cb down) [.i i] dq w K:=by
 cases down with
 | false=>exact Cb (ra:=[dQ cb]) rfl oL (qCm hi h)
 | true=>exact Cb (ra:=[dQ cb]) rfl oL (qAG hi h)
def qA9{ks:Sl}{key:Key}{K:Bool->WP}(h:gW dbk pb FD D F M k v frm to down w0 cb Y w st SB zs)(u:eK (cb::(SB++Y)) w ks key)(C:ft key)(E:K (pJ down frm to key) w):eF prog (qi cb down) [ks.v] dr w K:=by
 obtain⟨Q,I,G,J,O⟩:=h.cell;cases down with
 | false=>exact Cb (ra:=[dQ cb]) rfl oL (qy1 G u O C h.Jl E)
 | true=>exact Cb (ra:=[dQ cb]) rfl oL (qy8 G u J C h.A1 E)
def gW.J0{T:Kr}{L:Kz}(C:gW dbk pb FD D F M k v frm to down w0 cb Y wA st SB zs)(h:ed T wA w L)(E:∀b∈T,b∈Y):gW dbk pb FD D F M k v frm to down w0 cb Y w st SB zs:=
 C.j0 (h.fr.mono λb u _=>E b u) (λb u=>.inl u) λb u=>yE (C.lt b (by simp[u])) h.fr.size
def eY.A3{T:Kr}{L:Kz}(C:eY (cb::(SB++Y)) wA x n)(h:ed T wA w L)(E:∀b∈T,b∈Y):eY (cb::(SB++Y)) w x n:=
 C.j0 (h.fr.mono λb u _=>by simp[E b u]) λb u=>.inl u
def qre{T:Kr}{C E:Nat}{X:Int->WP}{K:Unit->WP}(hA:gW dbk pb FD D F M k v frm to down w0 cb Y wA st SB zs)(hN:eY (cb::(SB++Y)) wA x n)(h:ed T wA w [(C,.c (Dr gp 0) FT),(E,.c (fE x) ND)])(hT:∀b∈T,b∈Y)(hl:zs.length+1<=100000)(ag:gx n k v)(hI:n.Q3=false->∃j:Nat,i=j/\j<n.J8.length)(G:∀w' st' SB',gW dbk pb FD D F M k v frm to down w0 cb Y w' st' SB' (zs++[(x,n,i)])->Fr (cb::(SB++T)) wA w'->(∀b∈SB',b∈SB\/wA.heap.size<=b)->if n.Q3 then K () w' else X (n.J8.getD i.toNat 0) w'): FG (pW cb) K C x i w E X:=by
 unfold FG;refine oE h 0 rfl (Dr x i) λw1 h f1=>?_;have h:=oG h;have hC:=hA.J0 h hT;refine gX (hC.rW ?_);refine Kq h 0 rfl (x.1,x.2.1,x.2.2.1,x.2.2.2,i)<|qBW (x:=x) (n:=n) (i:=i) hC.wI oK (λw' f=>?_) λs' B' w2 ah f2 n2=>?_;obtain⟨sf,ax,T,J⟩:=(hC.q8 f).at
 exact kA J;refine gX ?_;have O:=fq (h.at (i:=1) rfl);have Q:=fq (h.at (i:=0) rfl);have aj:=h.fr.size;have ak:=hN.A3 h hT;refine hC.vY w2 f2 ah (λz hz=>(zD.1 hz).imp id λhz=>?_) n2 (by rw[zF];exact hl) λR h3 f3=>?_;rw[zE.1 hz];refine⟨ak.j0 (f2.mono λb u _=>by simp[u]) λb u=>?_,ag⟩;rcases zG.1 u with rfl|u;exact .inl oM;rcases zD.1 u with u|u;exact (n2 b u).imp (λh=>by simp[h]) id;exact .inl (by simp[u]);have f4:Fr (cb::(SB++T)) wA R:=(h.fr.mono λb u _=>by simp[u]).trans (f3.mono λb u _=>by rcases zG.1 u with rfl|u<;>simp[*]);have U:∀r,r∈T\/wA.heap.size<=r->r∉cb::SB:=λr V hm=>by
  rcases V with V|V;rcases zG.1 hm with rfl|hm;exact hA.Db (hT _ V);exact hA.Ba r hm (hT r V);have:=hA.lt r (by rcases zG.1 hm with rfl|hm<;>simp[*]);omega
 have ab:R.heap[E]?=some (.c (fE x) ND):=(by rw[f3.block E O (U E (h.own (E,.c (fE x) ND) oM))];exact h.at (i:=1) rfl);have an:R.heap[C]?=some (.c (Dr x i) FT):=(by rw[f3.block C Q (U C (h.own (C,.c (Dr x i) FT) oM))];exact h.at (i:=0) rfl);have G:=G R s' B' h3 f4 λb u=>(n2 b u).imp id λh=>zL aj h;have I:x.1=n.Q3:=hN.1;refine jG ab x.1 rfl ?_;apply eV<;>intro J;rw[<- I,J,iP rfl] at G;exact G;rw[<- I,J,iN oN] at G;refine jG ab x.2.2.2 rfl<|jG an i rfl ?_;obtain⟨j,rfl,hj⟩:=hI (by rw[<- I,J]);have ac:eE jC 1 (cb::(B'++Y)) R x.2.2.2 n.J8:=(h3.nodes (x,n,(j:Int)) oM).1.2.2.2.2;refine eE.get ac j rfl (zA hj) (y:=n.J8[j]) rfl ?_;rw[zJ,yS,zA hj] at G;exact G
def qx8{T:Kr}{J:Nat}{X:Int->WP}{K:Unit->WP}(E:gW dbk pb FD D F M k v frm to down w0 cb Y wA st SB zs)(O:eY (cb::(SB++Y)) wA x n)(h:ed T wA w [(J,.c (fE gp) ND)])(C:∀b∈T,b∈Y)(V:zs.length+1<=100000)(u:gx n k v)(hI:n.Q3=false->∃j:Nat,k8 down frm to n=j/\j<n.J8.length)(kk:∀w' st' SB',gW dbk pb FD D F M k v frm to down w0 cb Y w' st' SB' (zs++[(x,n,k8 down frm to n)])->Fr (cb::(SB++T)) wA w'->(∀b∈SB',b∈SB\/wA.heap.size<=b)->if n.Q3 then K () w' else X (n.J8.getD (k8 down frm to n).toNat 0) w'): DO (pW cb) K J (x,0) w X:=by
 unfold DO;refine oE h 0 rfl (fE x) λw1 h f1=>?_;have h:=oG h;refine JK rfl<|⟨?_,?_⟩;refine Kq h 0 rfl x ?_;obtain⟨Q,G,T,I⟩:=(E.J0 h C).at;refine gX (qm (pi cb down) (kA I) ?_);refine Kq h 0 rfl x<|qsA (S:=[]) (E.J0 h C) (O.A3 h C) u.2.2.1 (by have:=(yb u).1;omega) λw2 R=>?_;have h:=h.q8 R;refine ja (h.cells 0)<|oB h λU w3 e3 f3 h=>?_;obtain⟨Q,G,T,I⟩:=(E.J0 h C).at
 exact nA (h.cells 1) (kA I) (h.cells 1)<|qre E O h C V u hI kk;refine Kq h 0 rfl x ?_;obtain⟨Q,G,T,I⟩:=(E.J0 h C).at;refine gX (qm (pi cb down) (kA I) ?_);refine Kq h 0 rfl x<|oB h λU w3 e3 f3 h=>?_;obtain⟨Q,G,T,I⟩:=(E.J0 h C).at
 refine nA (h.cells 1) (kA I) (h.cells 1)<|qsA (S:=[]) (E.J0 h C) (O.A3 h C) u.2.2.1 (by have:=(yb u).1;omega) λw2 R=>?_;have h:=h.q8 R;exact ja (h.cells 1)<|qre E O h C V u hI kk
def qqz{s:jg}{h:Nat}{K:Unit->WP}(hs:Has D M k v h s)(hu:iX s.x4)(hC:gW dbk pb FD D F M k v frm to down w0 cb Y w st SB zs)(hl:zs.length+h+1<=100000)(kk:∀w' st' SB' zs',gW dbk pb FD D F M k v frm to down w0 cb Y w' st' SB' (zs++zs')->jB D k v M (k8 down frm to) (h+1) s.x4=some (zs'.map (·.2))->Fr (cb::SB) w w'->(∀b∈SB',b∈SB\/w.heap.size<=b)->K () w'): cW 122 [dQ cb,.u s.x4] [] w K:=by
 refine qim<|Ds (λ(hh:Nat) p w'=>∃(sg:jg) (E:List sC) (ac:Sl) (J:Kr),p=sg.x4/\iX sg.x4/\Has D M k v hh sg/\gW dbk pb FD D F M k v frm to down w0 cb Y w' ac J (zs++E)/\(jB D k v M (k8 down frm to) (hh+1) sg.x4).map (E.map (·.2)++·)=jB D k v M (k8 down frm to) (h+1) s.x4/\E.length+hh=h/\Fr (cb::SB) w w'/\∀b∈J,b∈SB\/w.heap.size<=b) id h ⟨s,[],st,SB,rfl,hu,hs,by rw[xJ];exact hC,oM,oM,.refl _ _,λb C=>.inl C⟩ ?_;rintro hh p w1 ⟨sg,E,ac,J,rfl,aG,ar,U,au,aZ,f1,n1⟩ X hX;have I:∃n,dU D M k v sg.x4=(n,0)/\(n.Q3=true->hh=0)/\(n.Q3=false->∃h2 Q,hh=h2+1/\n=dX Q/\∃hj:eT n.J5 (if down then to else frm)<Q.length,n.J8.getD (eT n.J5 (if down then to else frm)) 0=Q[eT n.J5 (if down then to else frm)].2.x4/\Has D M k v h2 Q[eT n.J5 (if down then to else frm)].2):=by
  cases hh with
  | zero=>
   obtain⟨h1,h2,h3,h4⟩:=ar;exact⟨_,h3.load h4,λ_=>rfl,(λe=>nomatch e)⟩
  | succ h2=>
   obtain⟨Q,e1,hj,e2,e3⟩:=qzs (key:=if down then to else frm) ar;exact⟨_,e1,(λe=>nomatch e),λ_=>⟨h2,Q,rfl,rfl,hj,e2,e3⟩⟩
 obtain⟨n,I,aI,av⟩:=I;have aw:=CZ I;obtain⟨l1,l2,l3,l4,l5⟩:=yb aw;have ak:(dS D M sg.x4).2.2=0/\jw (dS D M sg.x4).1 (dS D M sg.x4).2.1 k v=(n,0):=by unfold dU at I;split at I;rename_i ad;exact absurd (vD I).2 ad;rename_i he;exact⟨oK,I⟩
 have ax:ft (dS D M sg.x4).2.1:=qiA U.tw.lim.ok (λe he=>(U.tw.wf.body e he).2.2) _;have aJ:(zs++E).length+1<=100000:=(by rw[zF];omega);have hI:n.Q3=false->∃j:Nat,k8 down frm to n=j/\j<n.J8.length:=λe=>by
  obtain⟨h2,Q,_,rfl,hj,_⟩:=av e;refine⟨_,?_,by show _<(Q.map _).length;rw[zK];exact hj⟩;cases down with
  | false=>
   show lw (dX Q) frm=_;exact iN (λg=>nomatch g)
  | true=>
   show jp (dX Q) to=_;exact iN (λg=>nomatch g)
 have ag:∀(x:lJ) (Y' T:Kr) (wA wB:Kj) (r:Nat),gW dbk pb FD D F M k v frm to down w0 cb Y' wA ac J (zs++E)->eY (cb::(J++Y')) wA x n->ed T wA wB [(r,.c (fE gp) ND)]->(∀b∈T,b∈Y')->(∀b∈T,w1.heap.size<=b)->(∀b∈Y,b∈Y')->Fr [] w1 wA->DO (pW cb) K r (x,0) wB X:=by
  intro x Y' T wA wB r hA hN hO hT aL hY fA;refine qx8 hA hN hO hT aJ aw hI λw2 al ae G f2 n2=>?_;have G:gW dbk pb FD D F M k v frm to down w0 cb Y w2 al ae (zs++(E++[(x,n,k8 down frm to n)])):=by rw[<- zV];exact G.j0 (.refl _ _) (λb C=>.inl (hY b C)) λb C=>G.lt b (by simp[hY b C])
  have f3:Fr (cb::SB) w w2:=f1.j8 ((fA.mono λ_ h=>nomatch h).trans f2) λb C=>by rcases zG.1 C with rfl|C;exact .inl oM;rcases zD.1 C with C|C;exact (n1 b C).imp (λh=>by simp[h]) id;exact .inr (zL f1.size (aL b C))
  have n3:∀b∈ae,b∈SB\/w.heap.size<=b:=λb C=>by rcases n2 b C with h|h;exact n1 b h;exact .inr (zL f1.size (zL fA.size h))
  by_cases hlf2:n.Q3=true;rw[iP hlf2];obtain rfl:=aI hlf2;refine kk w2 al ae (E++[(x,n,k8 down frm to n)]) G ?_ f3 n3;rw[<- au,jB,I,iN λh=>h rfl,iP hlf2];simp
  ·rw[iN hlf2];have ay:n.Q3=false:=(oQ hlf2);obtain⟨h2,Q,rfl,ad,hj,am,hk⟩:=av ay;have az:k8 down frm to n=((eT n.J5 (if down then to else frm):Nat):Int):=by
    cases down with
    | false=>
     show lw n frm=_;exact iN hlf2
    | true=>
     show jp n to=_;exact iN hlf2
   rw[az,zJ,am];refine hX h2 _ w2 ⟨_,E++[(x,n,k8 down frm to n)],al,ae,rfl,?_,hk,G,?_,by rw[zF,xO];omega,f3,n3⟩ (Nat.lt_succ_self _);rw[<- am];have aA:eT n.J5 (if down then to else frm)<n.J8.length:=(by rw[ad];show _<(Q.map _).length;rw[zK,<- ad];exact hj);rw[yS,zA aA];exact hN.2.1.2.2 _ (zX aA)
   ·rw[<- au];conv=>rhs;rw[jB,I,iN λh=>h rfl,iN hlf2]
    dsimp only;rw[az,zJ,am,Option.map_map];simp[Function.comp_def]
 obtain⟨sf,an,T,R⟩:=U.at;refine gX (qm (pW pb) (kA R) ?_);refine TW.read U.tw aG λsb w2 aB f2=>?_;have G:=(U.q8 f2).drew;refine JK (by dsimp only;rw[ak.1];rfl) ?_;obtain⟨sf,an,T,R⟩:=G.at;have V:=G.lt;refine⟨?_,?_⟩;refine gX (qm (k:Int) (kA R) ?_);refine gX (qm (v:Int) (kA R) ?_);refine I7 (k:=k) (v:=v) (aB [] λ_ h=>nomatch h) ax λx B w3 hN f3 ao=>?_;rw[ak.2] at hN⊢;have O:=G.q8 f3;refine oB (oF [] w3) λr w4 e4 f4 h=>?_;obtain⟨sf,an,T,R⟩:=(O.q8 f4).at;refine kH (kA R) (kA R)<|ag x Y [] w3 w4 r O (hN.rd (λb C hm=>?_) λb C=>.inl ?_) h (λ_ h=>nomatch h) (λ_ h=>nomatch h) (λb C=>C) (f2.drew.trans f3);have:=ao b C;have:=V b hm;omega;have:b<w2.heap.size:=V b C;exact zH _ (mem_range.2 this);refine gX (qm (k:Int) (kA R) ?_);refine gX (qm (v:Int) (kA R) ?_);refine oB (oF [] w2.drew) λr w3 e3 f3 h=>?_;have aO:=fq (h.at (i:=0) rfl);have O:gW dbk pb FD D F M k v frm to down w0 cb (r::Y) w3 ac J (zs++E):=G.j0 (f3.mono λ_ h=>nomatch h) (λb C=>(zG.1 C).elim (λe=>.inr (by rw[e,e3];exact zM _)) .inl) λb C=>by rcases zG.1 C with rfl|C;exact aO;exact yE (V b (by simp[C])) f3.size
 obtain⟨sf,an,T,R⟩:=O.at;refine kH (kA R) (kA R)<|I7 (k:=k) (v:=v) (eE.q8 (w:=w2.drew) (aB [] λ_ h=>nomatch h) f3) ax λx B w4 hN f4 ao=>?_;rw[ak.2] at hN⊢;have ai:=O.lt;refine ag x (r::Y) [r] w4 w4 r (O.q8 f4) (hN.rd (λb C hm=>?_) λb C=>.inl ?_) (EW ((h.q8 f4).at (i:=0) rfl)) (λb C=>by rw[zE.1 C];simp) (λb C=>?_) (λb C=>by simp[C]) ((f2.drew.trans f3).trans f4)
 have:=ao b C;have:=ai b hm;omega;exact zH _ (mem_range.2 (ai b C));rw[zE.1 C,e3];exact f2.size
end
end
section
open Go Go.Pt List
open Go.IntKind (wrap)
open Classical
attribute [local irreducible] ld dT iF pC kc fv st new idx kN kG fZ kJ jX nt ib nn call eF inv run fK i3 join loop held ext kC fl oW pD pG IntKind.wrap
section
variable {dbk pb:Nat} {FD F:Kr} {D:dV} {M:eZ} {k v:Nat} {frm to:Key} {down:Bool} {w0 w wA:Kj} {cb:Nat} {Y SB:Kr} {st:Sl} {zs:List sC}
def gW.lY{c:Cell}{b j:Nat}{z:sC}{K:c.El->Prop}(h:gW dbk pb FD D F M k v frm to down w0 cb Y w st [b] (zs++[z]))(u:j<5)(x:c.El)(C:(jU z)[j]?=some (c.mk x))(E:K x):ld c ⟨b,zs.length*5+j,none⟩ w K:=
 qm x ((qzZ h.wI u).trans C) E
def qxh{h:Nat}{K:Unit->WP}(hp:Path D M k v (ll down) h (zs.map (·.2)))(hC:gW dbk pb FD D F M k v frm to down w0 cb Y w st SB zs)(kk:∀w' st' SB' zs',gW dbk pb FD D F M k v frm to down w0 cb Y w' st' SB' zs'->zs'.map (·.2)=(jq D k v M (k8 down frm to) (ll down) h (zs.map (·.2))).getD []->Fr (cb::SB) w w'->(∀b∈SB',b∈SB\/w.heap.size<=b)->K () w'): cW 123 [dQ cb] [] w K:=by
 refine qil ?_;have J:=hp.len;have aR:=hC.CY;rw[zK] at J;refine Ds (λ(V:List lO) (_:PUnit) w'=>∃(u:List sC) (z:sC) (C:List lO) (h1:Nat) (aj:Sl) (aa:Kr),u.map (·.2)=V/\gW dbk pb FD D F M k v frm to down w0 cb Y w' aj aa (u++[z])/\zs.map (·.2)=V++C/\V.length+h1=h/\jq D k v M (k8 down frm to) (ll down) h1 C=none/\Fr (cb::SB) w w'/\∀b∈aa,b∈SB\/w.heap.size<=b) List.length (zs.map (·.2)).dropLast ?_ ?_
 ·have I:zs≠[]:=λe=>by rw[e] at J;simp at J
  have U:=(vC I).symm;refine⟨zs.dropLast,zs.getLast I,[(zs.getLast I).2],0,st,SB,by rw[map_dropLast],by rw[<- U];exact hC,?_,by simp;omega,rfl,.refl _ _,λb G=>.inl G⟩;conv=>lhs;rw[U]
  simp
 rintro V _ w1 ⟨u,z,C,h1,aj,aa,rfl,ab,U,hh,hn,f1,n1⟩ X hX;have ar:=ab.CY;rw[zF,xO] at ar;have aD:aj.len=u.length+1:=(by rw[ab.wI.len,zF];rfl);refine gX (ab.rW (JJ (by rw[aD];exact yA oK) ?_));have ac:=ab.drew;refine gX (ac.rW ?_);refine gX (ac.rW ?_);refine qBk ac.wI oK λs2 av=>?_;refine gX ?_;refine ac.vY w1.drew (.refl _ _) av (λz U=>.inl (zH _ U)) (λb G=>.inl G) oK λw2 ak f2=>?_;have aw:Fr (cb::SB) w w2:=f1.j8 ((Fr.refl _ w1).drew.trans f2) λb G=>by rcases zG.1 G with rfl|G;exact .inl oM;exact (n1 b G).imp (λh=>by simp[h]) id
 refine gX (ak.rW ?_);have ax:s2.len=u.length:=av.len;apply eV<;>intro hc;have hc:(s2.len:Int)=0:=yQ.1 hc;have e0:u=[]:=length_eq_zero_iff.1 oK;subst e0;refine kk w2 s2 aa [] ak ?_ aw n1;rw[U,map_nil,xK];have:h1=h:=(oQ hh);rw[<- this,hn];rfl;have hc:¬(s2.len:Int)=0:=zR.1 hc;have I:u≠[]:=λe=>by rw[e] at ax;simp at ax;omega
 obtain⟨O,y,rfl⟩:∃O y,u=O++[y]:=⟨u.dropLast,u.getLast I,(vC I).symm⟩;rw[xP,xQ,map_nil,zV,singleton_append] at U;rw[xP,xQ,map_nil,zF,xO] at hh;have ad:(O.map (·.2)).length+(h1+1)=h:=oK;have al:Path D M k v (ll down) (h1+1) (y.2::C):=by rw[U,<- ad] at hp;exact hp.drop
 obtain⟨E,i,up,ey,a1,a2,az,_⟩:=al;obtain⟨yx,yf⟩:=y;have aE:yf=(dX E,i):=(vE ey).1;subst aE;have ae:=ak.drew;rw[zF,xO] at ar;refine gX (ae.rW ?_);refine gX (ae.rW ?_);refine qvl ae.wI oK λb hB=>?_;subst hB;have af:=ae.drew;obtain⟨sf,a5,T,aF⟩:=af.at;have an:=af.nodes (yx,dX E,i) oM;have ag:(dX E).J8.length=E.length:=(by show (E.map (·.2.x4)).length=_;rw[zK]);have aV:E.length<=498:=(by rw[<- ag];exact (yb an.2).2.2.1);refine gX (qm (oT cb down) (kA aF) ?_);refine af.lY (j:=4) oN i rfl ?_;refine qyH oK ?_;have aW:-1<=ll down i/\ll down i<=1000000:=(by unfold ll;split<;>omega);refine af.zh λw3 aG f3=>?_;have Q:=aG.drew;have ao:Fr (cb::SB) w w3:=aw.j8 (((Fr.refl _ w2).drew.drew).trans f3) λb' G=>by rw[zE.1 G];exact (n1 b oM).imp (λh=>by simp[h]) id
 have aH:yx.2.2.2.len=E.length:=(by rw[an.1.2.2.2.2.1,ag]);have R:=qwr (x:=(dX E,i)) hn;refine je (λq w'=>q=decide (0<=ll down i/\ll down i<E.length)/\w'=w3.drew) ?_ ?_;refine Q.lY (j:=4) oN (ll down i) rfl ?_;apply eV<;>intro h;have h:=zC h;refine Q.lY (j:=4) oN (ll down i) rfl ?_;refine Q.lY (j:=3) oN yx.2.2.2 rfl ?_;exact⟨decide_eq_decide.2 (by rw[aH];omega),rfl⟩;have h:=zB h;exact⟨(zU λg=>h g.1).symm,rfl⟩;rintro q w4 ⟨rfl,rfl⟩;have ah:=Q.drew;apply eV<;>intro h;obtain⟨h5,h6⟩:=zC h;obtain⟨j,hj⟩:∃j:Nat,ll down i=j:=⟨(ll down i).toNat,oK⟩;have aA:j<E.length:=oK;refine ah.lY (j:=3) oN yx.2.2.2 rfl ?_;refine ah.lY (j:=4) oN (ll down i) rfl ?_;have aJ:eE jC 1 _ w3.drew.drew yx.2.2.2 (dX E).J8:=(ah.nodes (yx,dX E,ll down i) oM).1.2.2.2.2;have ap:(dX E).J8[j]?=some E[j].2.x4:=(by show (E.map (·.2.x4))[j]?=_;rw[zQ,zA aA];rfl);refine eE.get aJ j hj ap (y:=E[j].2.x4) rfl ?_;refine qqz (az j hj aA) (an.1.2.1.2.2 _ (yG ap)) ah (by rw[zF,xO];rw[zK] at ad;omega) λw5 aK aL aM aN aO f5 n5=>?_;refine kk w5 aK aL _ aN ?_ (ao.j8 ((Fr.refl _ w3).drew.drew.trans f5) λb' G=>?_) λb' G=>?_;have e1:jq D k v M (k8 down frm to) (ll down) (h1+1) ((dX E,i)::C)=some ((dX E,ll down i)::aM.map (·.2)):=(by rw[R,v6,iP ⟨by dsimp only;omega,by dsimp only;rw[ag];exact h6⟩];dsimp only;rw[hj,zJ,yS,ap];simp only[xX];rw[aO];rfl);rw[U,<- ad,qq1 e1];simp;rcases zG.1 G with rfl|G;exact .inl oM;exact (n1 b' G).imp (λh=>by simp[h]) id;rcases n5 b' G with h|h;exact n1 b' h;exact .inr (zL ao.size h);have h:=zB h;refine hX (O.map (·.2)) _ _ ⟨O,(yx,dX E,ll down i),(dX E,i)::C,h1+1,s2,[b],rfl,Q,U,ad,?_,ao.drew,n1⟩ ?_;rw[R,v6,iN λg=>h ⟨g.1,by have:=g.2;dsimp only at this;rw[ag] at this;exact this⟩];simp
end
end
section
open Go Go.Pt List
open Go.IntKind (wrap)
open Classical
section
variable {D:dV} {M:eZ} {k v:Nat} {frm to:Key} {down:Bool}
def m7 (D:dV) (M:eZ) (k v:Nat) (frm to:Key) (down:Bool) (h:Nat) (u:List lO) (T:gJ):Prop:=if down then oh D M k v to h u T else nQ D M k v frm h u T
def qJ (down:Bool) (h:Nat) (u:List lO):Prop:=if down then lI h u else lH h u
def m7.path{h:Nat}{u:List lO}{T:gJ}(C:m7 D M k v frm to down h u T):Path D M k v (ll down) h u:=by
 cases down with
 | false=>exact nQ.path (frm:=frm) C
 | true=>exact oh.path (to:=to) C
def m7.told{h:Nat}{C:List lO}{T:gJ}(E:m7 D M k v frm to down h C T):qJ down h C\/∃(u:gJ) (i:Nat) (lo:List lO) (hi:i<u.length) (T':gJ),C=lo++[(eP u,(i:Int))]/\T=u[i]::T'/\m7 D M k v frm to down h (lo++[(eP u,ll down i)]) T':=by
 cases down with
 | false=>exact qvm (frm:=frm) E
 | true=>exact qru (to:=to) E
def m7.next{h:Nat}{E:List lO}{T:gJ}(G:m7 D M k v frm to down h E T)(I:qJ down h E):(jq D k v M (k8 down frm to) (ll down) h E=none/\T=[])\/∃u,jq D k v M (k8 down frm to) (ll down) h E=some u/\m7 D M k v frm to down h u T/\¬qJ down h u:=by
 cases down with
 | false=>
  rcases qvd (frm:=frm) G I with C|⟨u,C,J⟩;exact .inl C;exact .inr ⟨u,C,J,qj8 (frm:=frm) G I C⟩
 | true=>
  rcases qq2 (to:=to) G I with C|⟨u,C,J⟩;exact .inl C;exact .inr ⟨u,C,J,qhu (to:=to) G I C⟩
def lH.tB:∀ {h:Nat} {C:List lO},lH h C->∃(lo:List lO) (u:gJ),C=lo++[(eP u,(u.length:Int))]
 | 0,_,⟨u,e⟩=>⟨[],u,e⟩
 | _+1,[],h=>h.elim
 | h+1,x::G,E=>by obtain⟨lo,u,e⟩:=lH.tB (h:=h) E;exact⟨x::lo,u,by rw[e];rfl⟩
def lI.tB:∀ {h:Nat} {C:List lO},lI h C->∃(lo:List lO) (u:gJ),C=lo++[(eP u,-1)]
 | 0,_,⟨u,e⟩=>⟨[],u,e⟩
 | _+1,[],h=>h.elim
 | h+1,x::G,E=>by obtain⟨lo,u,e⟩:=lI.tB (h:=h) E;exact⟨x::lo,u,by rw[e];rfl⟩
def qJ.tB{h:Nat}{C:List lO}(E:qJ down h C):∃(lo:List lO) (u:gJ) (i:Int),C=lo++[(eP u,i)]/\¬(0<=i/\i<u.length):=by
 cases down with
 | false=>
  obtain⟨lo,u,e⟩:=lH.tB E;exact⟨lo,u,_,e,oK⟩
 | true=>
  obtain⟨lo,u,e⟩:=lI.tB E;exact⟨lo,u,_,e,oK⟩
def Left (D:dV) (M:eZ) (k v:Nat) (frm to:Key) (down:Bool) (n:Nat) (u:List lO) (L:gJ):Prop:=
 (u=[]/\L=[])\/∃h T,m7 D M k v frm to down h u T/\L=T.takeWhile (λx=>!pJ down frm to x.1)/\(n=0->¬qJ down h u)
def qww{h:Nat}{s:jg}(u:Has D M k v h s):∃C,jB D k v M (k8 down frm to) (h+1) s.x4=some C/\m7 D M k v frm to down h C (if down then (wR to s.y5).reverse else oZ frm s.y5):=by
 cases down with
 | false=>exact HU u
 | true=>exact HH u
def G2{α:Type}{p:α->Bool}:∀ {l:List α},l.Pairwise (λa b=>p b=true->p a=true)->l.takeWhile p=l.filter p
 | [],_=>rfl
 | a::l,h=>by have C:=yK.1 h;rw[takeWhile_cons,filter_cons];split;rw[G2 C.2];rename_i E;exact (filter_eq_nil_iff.2 λb G u=>E (C.1 b G u)).symm
end
end
section
open Go Go.Pt List
open Go.IntKind (wrap)
open Classical
attribute [local irreducible] ld dT iF pC kc fv st new idx kN kG fZ kJ jX nt ib nn call eF inv run fK i3 join loop held ext kC fl oW pD pG IntKind.wrap
variable {B S:Kr} {K:Sl->WP} {L:gJ} {P:Kt} {T:Nat->gJ} {a:HL fS} {b:Bk} {d:HL jd} {i most n t x:Int} {k:Nat} {l:List (HL jd)} {p:Pa} {s:Sl} {w:Kj}
abbrev zt:Kl:=105
def vd (a b:Sl):Array Kk:=#[a.v,b.v]
@[reducible] def Ei:List Cell:=[.slice,.slice]
section
variable {dbk pb:Nat} {FD F:Kr} {D:dV} {M:eZ} {k v:Nat} {frm to:Key} {down:Bool} {w0 w wA:Kj} {cb:Nat} {Y SB:Kr} {st:Sl} {zs:List sC}
def qzS{n:dW}(h:gx n k v)(E:n.Q3=true):k<=24/\v<=108:=by obtain⟨_,_,_,C⟩:=h;rw[iP E] at C;have u:=C.2.2.1;unfold eG at u;split at u;dsimp only at u;omega;omega
def qqq{K:(Sl×Sl)×Bool->WP}(hC:gW dbk pb FD D F M k v frm to down w0 cb Y w st SB zs)(hL:Left D M k v frm to down 1 (zs.map (·.2)) L)(k0:L=[]->∀w',gW dbk pb FD D F M k v frm to down w0 cb Y w' dR [] []->Fr (cb::SB) w w'->K ((dR,dR),false) w')(k1:∀x L',L=x::L'->∀ks vs B1 B2 w' st' SB' zs',gA w' ks x.1 B1->gA w' vs x.2 B2->gW dbk pb FD D F M k v frm to down w0 cb (B1++(B2++Y)) w' st' SB' zs'->Left D M k v frm to down 1 (zs'.map (·.2)) L'->Fr (cb::SB) w w'->(∀b∈SB',b∈SB\/w.heap.size<=b)->(∀b∈B1,w.heap.size<=b)->(∀b∈B2,w.heap.size<=b)->(∀b∈B1,b∉B2)->K ((ks,vs),true) w'): cW 79 [dQ cb] [.agg Ei,.one .bool] w K:=by
 refine qii (c:=pW cb)<|oB (oF [] w) λr w1 e1 f1 h=>?_;have hrl:=fq (h.at (i:=0) rfl);dsimp only at hrl;have hltw:=hC.lt;have hC1:gW dbk pb FD D F M k v frm to down w0 cb (r::Y) w1 st SB zs:=hC.j0 (f1.mono λ_ h=>nomatch h) (λb hb=>(zG.1 hb).elim (λe=>.inr (by rw[e,e1];exact zM _)) .inl) λb hb=>by rcases zG.1 hb with rfl|hb;exact hrl;exact yE (hltw b (by simp[hb])) f1.size
 have hr1:w1.heap[r]?=some (.c (vd dR dR) zt):=h.at (i:=0) rfl;have hrS:r∉cb::SB:=λhm=>by
  have:=hltw r (by rcases zG.1 hm with h|h<;>simp[h]);omega
 have hfr:∀ {w':Kj},Fr (cb::SB) w1 w'->w'.heap[r]?=some (.c (vd dR dR) zt):=λf=>by rw[f.block r hrl hrS];exact hr1
 clear h;refine je (λ_ w'=>L=[]/\Fr (cb::SB) w1 w'/\∃st' SB' zs',gW dbk pb FD D F M k v frm to down w0 cb (r::Y) w' st' SB' zs'/\∀b∈SB',b∈SB\/w1.heap.size<=b) ?_ ?_
 ·refine Ds (λ(n:Nat) (_:PUnit) w'=>Fr (cb::SB) w1 w'/\∃st' SB' zs',gW dbk pb FD D F M k v frm to down w0 cb (r::Y) w' st' SB' zs'/\(∀b∈SB',b∈SB\/w1.heap.size<=b)/\Left D M k v frm to down n (zs'.map (·.2)) L) id 1 ⟨.refl _ _,st,SB,zs,hC1,λb hb=>.inl hb,hL⟩ ?_;rintro n _ w2 ⟨f2,st2,SB2,zs2,hC2,n2,hL2⟩ X hX;refine gX (hC2.rW ?_);have hsl:st2.len=zs2.length:=hC2.wI.len;apply eV<;>intro hc;rotate_left;have hc:=zB hc;have e0:zs2=[]:=length_eq_zero_iff.1 oK;refine⟨?_,f2,st2,SB2,zs2,hC2,n2⟩;rcases hL2 with h|⟨hh,T,ht,_,_⟩;exact h.2
  have:=ht.path.len;rw[e0] at this;simp at this;have hc:=zC hc;have hne:zs2≠[]:=λe=>by rw[e] at hsl;simp at hsl;omega
  rcases hL2 with ⟨h,_⟩|⟨hh,T,ht,hLT,hnd⟩;exact absurd (map_eq_nil_iff.1 h) hne;have htop:∃(lo:List lO) (y5:gJ) (i:Int),zs2.map (·.2)=lo++[(eP y5,i)]/\((qJ down hh (zs2.map (·.2))/\¬(0<=i/\i<y5.length))\/∃j:Nat,i=j/\∃hj:j<y5.length,∃T',T=y5[j]::T'/\m7 D M k v frm to down hh (lo++[(eP y5,ll down i)]) T'):=by rcases ht.told with hd|⟨y5,j,lo,hj,T',e1,e2,e3⟩;obtain⟨lo,y5,i,e,hi⟩:=hd.tB;exact⟨lo,y5,i,e,.inl ⟨hd,hi⟩⟩;exact⟨lo,y5,j,e1,.inr ⟨j,rfl,hj,T',e2,e3⟩⟩
  obtain⟨lo,y5,i,ez,hcase⟩:=htop;obtain⟨zlo,zr,rfl,rfl,ezr⟩:=map_eq_append_iff.1 ez;obtain⟨⟨zx,zf⟩,rfl,ezf⟩:=map_eq_singleton_iff.1 ezr;have ezf:zf=(eP y5,i):=ezf;subst ezf;have hfew:=hC2.CY;rw[zF,xO] at hfew;have hD2:=hC2.drew;refine gX (hD2.rW ?_);refine gX (hD2.rW ?_);refine qvl hD2.wI oK λb hB=>?_;subst hB;have hE2:=hD2.drew;have hny:=hE2.nodes (zx,eP y5,i) oM;have hkl:(eP y5).J5.length=y5.length:=zK ..;have hkl2:y5.length<=498:=(by rw[<- hkl];exact (yb hny.2).1);obtain⟨hzl,hNB,⟨pk,hpk,hpke⟩,⟨pv,hpv,hpve⟩,_⟩:=hny.1;dsimp only at hzl hpk hpke hpv hpve;have hpkl:pk.length=y5.length:=(by rw[<- hkl,<- hpke,zK]);have hpvl:pv.length=y5.length:=by have:(eP y5).J9.length=y5.length:=zK ..;rw[<- this,<- hpve,zK]
  refine je (λq w'=>q=decide (0<=i/\i<y5.length)/\w'=w2.drew.drew) ?_ ?_;refine hE2.lY (c:=.bool) (j:=0) oN zx.1 rfl<|JJ hzl<|hE2.lY (c:=.i) (j:=4) oN i rfl ?_;apply eV<;>intro h;have h:=zC h;exact hE2.lY (c:=.i) (j:=4) oN i rfl<|hE2.lY (c:=.slice) (j:=1) oN zx.2.1 rfl<|⟨decide_eq_decide.2 (by rw[hpk.len,hpkl];omega),rfl⟩;have h:=zB h;exact⟨(zU λg=>h g.1).symm,rfl⟩;rintro q w3 ⟨rfl,rfl⟩;have hpth:=ht.path;apply eV<;>intro h;rotate_left;have h:=zB h;have hd:qJ down hh ((zlo++[(zx,eP y5,i)]).map (·.2)):=by rcases hcase with hd|⟨j,rfl,hj,_⟩;exact hd.1;exact absurd ⟨oK,oK⟩ h
  have hn1:n≠0:=λe=>hnd e hd;refine qxh hpth hE2 λw4 st4 SB4 zs4 hC4 hz4 f4 n4=>?_;have f14:Fr (cb::SB) w1 w4:=f2.j8 ((Fr.refl _ w2).drew.drew.trans f4) λb' hb=>by rcases zG.1 hb with rfl|hb;exact .inl oM;exact (n2 b' hb).imp (λh=>by simp[h]) id
  have n14:∀b'∈SB4,b'∈SB\/w1.heap.size<=b':=λb' hb=>by rcases n4 b' hb with h|h;exact n2 b' h;exact .inr (zL f2.size h)
  refine hX 0 _ w4 ⟨f14,st4,SB4,zs4,hC4,n14,?_⟩ (by show 0<n;omega);rcases ht.next hd with ⟨e2,rfl⟩|⟨fs',e2,e3,e4⟩
  rw[e2] at hz4;exact .inl ⟨hz4,hLT⟩;rw[e2] at hz4;have hz4:zs4.map (·.2)=fs':=hz4;rw[hz4];exact .inr ⟨hh,T,e3,hLT,λ_=>e4⟩;have h:=zC h;obtain⟨j,rfl,hj,T',hT,ht'⟩:∃j:Nat,i=j/\∃hj:j<y5.length,∃T',T=y5[j]::T'/\m7 D M k v frm to down hh (zlo.map (·.2)++[(eP y5,ll down i)]) T':=by rcases hcase with hd|hd;exact absurd h hd.2;exact hd
  have hG2:=hE2.drew;refine hG2.lY (c:=.slice) (j:=1) oN zx.2.1 rfl<|hG2.lY (c:=.i) (j:=4) oN (j:Int) rfl ?_;have hjk:j<pk.length:=oK;have hjv:j<pv.length:=oK;refine kD.get (hpk.q8 (Fr.refl [] _).drew) j rfl hjk<|hG2.lY (c:=.slice) (j:=2) oN zx.2.2.1 rfl<|hG2.lY (c:=.i) (j:=4) oN (j:Int) rfl<|kD.get (hpv.q8 (Fr.refl [] _).drew) j rfl hjv ?_;have hH2:=hG2.drew;obtain⟨sf,sto,Tc,hcc⟩:=hH2.at;refine gX (qm (c:=.any) (oT cb down) (kA hcc) ?_);refine hH2.lY (c:=.i) (j:=4) oN (j:Int) rfl<|qyH oK<|hH2.zh λw5 hC5 f5=>?_;have f15:Fr (cb::SB) w1 w5:=f2.j8 ((Fr.refl _ w2).drew.drew.drew.drew.trans f5) λb' hb=>by rw[zE.1 hb];exact (n2 b oM).imp (λh=>by simp[h]) id
  obtain⟨sf,sto,Tc,hcc⟩:=hC5.at;refine gX (qm (c:=.any) (qi cb down) (kA hcc) ?_);have f5':Fr (cb::([b]++(r::Y))) w2.drew.drew w5:=(Fr.refl _ w2.drew.drew).drew.drew.trans (f5.mono λx hx _=>by rw[zE.1 hx];simp);have hks:eK (cb::([b]++(r::Y))) w5 pk[j].1 pk[j].2:=(hpk.2 _ (zX hjk)).j0 f5' λx hx=>.inl hx;have hvs:eK (cb::([b]++(r::Y))) w5 pv[j].1 pv[j].2:=(hpv.2 _ (zX hjv)).j0 f5' λx hx=>.inl hx;have ek:pk[j].2=y5[j].1:=by
   have:=Kg (·[j]?) hpke;dsimp only [eP] at this;rw[zQ,zQ,zA hjk,zA hj] at this;exact yP this
  have ev:pv[j].2=y5[j].2:=by
   have:=Kg (·[j]?) hpve;dsimp only [eP] at this;rw[zQ,zQ,zA hjv,zA hj] at this;exact yP this
  rw[ek] at hks;rw[ev] at hvs;have hkB:ft y5[j].1:=hNB.1 _ (zZ (zX hj));have hkn:y5[j].1.length=k:=hny.2.1 _ (zZ (zX hj));have hvn:y5[j].2.length=v:=hny.2.2.1 _ (zZ (zX hj));have hkv:=qzS hny.2 rfl;refine qA9 hC5 hks hkB ?_;apply eV<;>intro ho;refine⟨?_,f15,st2,[b],_,hC5,n2⟩;rw[hLT,hT,takeWhile_cons,ho];rfl;refine An hks oK λs1 B1 w6 b6 f6 n6 _ _=>An (hvs.q8 f6) oK λs2 B2 w7 b7 f7 n7 _ _=>?_;have hr7:=hfr (f15.trans ((f6.trans f7).mono λ_ h=>nomatch h));refine tU hr7 (vd s1 s2) rfl rfl (zO rfl) λw8 hr8 f8=>vr hr8 (s1,s2) rfl ?_;have hC7:=(hC5.q8 f6).q8 f7;have hn1:∀b'∈B1,w5.heap.size<=b':=n6;have hn2:∀b'∈B2,w5.heap.size<=b':=λb' hb=>zL f6.size (n7 b' hb);have hz5:=f15.size;have hz1:=f1.size;have h12:∀b'∈B1,b'∉B2:=λb' hb hm=>by have:=b6.lt b' hb;have:=n7 b' hm;omega
  have hrn:∀b'∈B1++B2,b'≠r:=λb' hb e=>by
   rcases zD.1 hb with hb|hb;have:=hn1 b' hb;omega;have:=hn2 b' hb;omega
  have b8:gA w8 s1 y5[j].1 B1:=(b6.q8 f7).j0 f8 λb' hb hm=>hrn b' (by simp[hb]) (zE.1 hm);have b9:gA w8 s2 y5[j].2 B2:=b7.j0 f8 λb' hb hm=>hrn b' (by simp[hb]) (zE.1 hm);have hC8:gW dbk pb FD D F M k v frm to down w0 cb (B1++(B2++Y)) w8 st2 [b] (zlo++[(zx,eP y5,ll down j)]):=by have hA:gW dbk pb FD D F M k v frm to down w0 cb (B1++(B2++(r::Y))) w7 st2 [b] (zlo++[(zx,eP y5,ll down j)]):=hC5.j0 ((f6.trans f7).mono λ_ h=>nomatch h) (λb' hb=>?_) λb' hb=>?_;exact hA.j0 (f8.mono λb' hb _=>by rw[zE.1 hb];simp) (λb' hb=>.inl (by simp only[zD] at hb⊢;rcases hb with h|h|h<;>simp[h])) λb' hb=>yE (hA.lt b' (by simp only[zD,zG] at hb⊢;rcases hb with h|h|h<;>simp[h])) f8.size;rcases zD.1 hb with h|hb;exact .inr (hn1 b' h);rcases zD.1 hb with h|hb;exact .inr (hn2 b' h);exact .inl hb;rcases zD.1 hb with h|hb;exact (b6.q8 f7).lt b' h;rcases zD.1 hb with h|hb;exact b7.lt b' h;exact hC7.lt b' (by simp only[zG,zD];exact .inr (.inr (zG.1 hb)))
  refine k1 y5[j] (T'.takeWhile λx=>!pJ down frm to x.1) (by rw[hLT,hT,takeWhile_cons,ho];rfl) s1 s2 B1 B2 w8 st2 [b] _ b8 b9 hC8 (.inr ⟨hh,T',by rw[xP];exact ht',rfl,λe=>absurd e oN⟩) ?_ (λb' hb=>(n2 b' hb).imp id λh=>zL hz1 h) (λb' hb=>zL (zL hz1 hz5) (hn1 b' hb)) (λb' hb=>zL (zL hz1 hz5) (hn2 b' hb)) h12;refine ((f1.mono λ_ h=>nomatch h).trans (f15.trans ((f6.trans f7).mono λ_ h=>nomatch h))).j8 f8 λb' hb=>.inr ?_;rw[zE.1 hb,e1];exact zM _
 rintro _ w2 ⟨hL0,f2,st2,SB2,zs2,hC2,n2⟩;refine gX<|hC2.vY (st':=dR) (SB':=[]) (zs':=[]) w2 (.refl _ _) (.nil _ _ _) (λz hz=>nomatch hz) (λb hb=>nomatch hb) (yY _) λw3 hC3 f3=>?_;have f13:Fr (cb::SB) w1 w3:=f2.j8 f3 λb hb=>by rcases zG.1 hb with rfl|hb;exact .inl oM;exact (n2 b hb).imp (λh=>by simp[h]) id
 refine tU (hfr f13) (vd dR dR) rfl rfl (zO rfl) λw4 hr4 f4=>vr hr4 (dR,dR) rfl<|k0 hL0 w4 (hC3.j0 (f4.mono λb hb _=>by rw[zE.1 hb];simp) (λb hb=>.inl (by simp[hb])) λb hb=>yE (hC3.lt b (by simp[hb])) f4.size) (((f1.mono λ_ h=>nomatch h).trans f13).j8 f4 λb hb=>.inr ?_);rw[zE.1 hb,e1];exact zM _
end
section
def iw (down:Bool) (frm to:Key) (L:gJ):gJ:=if down then (mu frm to L).reverse else mu frm to L
def qzO{frm to:Key}(G:fT L):(oZ frm L).takeWhile (λx=>!pJ false frm to x.1)=mu frm to L:=by
 unfold oZ;rw[G2];rw[filter_filter];unfold mu;congr 1;funext x;unfold wS pJ gq;have:=Ie x.1 to;by_cases C:cmpL x.1 frm<0<;>by_cases u:cmpL x.1 to>0<;>simp[C,u]<;>omega;refine ((pairwise_map.1 G).filter _).imp ?_;intro a b E h;unfold pJ at h⊢;simp only[Bool.false_eq_true,if_false,zT,Kc] at h⊢;intro I;have C:gq to a.1:=(by unfold gq;rw[vU];omega);have u:=rL C E;unfold gq at u;rw[vU] at u;omega
def qwz{frm to:Key}(C:fT L):(wR to L).reverse.takeWhile (λx=>!pJ true frm to x.1)=(mu frm to L).reverse:=by unfold wR;rw[G2];rw[filter_reverse,filter_filter];unfold mu;congr 2;funext x;have e:gq to x.1↔cmpL x.1 to>0:=(by unfold gq;rw[vU to x.1];omega);have E:decide (cmpL x.1 frm>=0) = !decide (cmpL x.1 frm<0):=(by rw[<- decide_not];exact decide_eq_decide.2 oK);have G:decide (¬gq to x.1)=decide (cmpL x.1 to<=0):=decide_eq_decide.2 (by rw[e];omega);unfold wS pJ;simp only[if_true];rw[E,G];rw[pairwise_reverse];refine ((pairwise_map.1 C).filter _).imp ?_;intro a b u h;unfold pJ at h⊢;simp only[if_true,zT,Kc] at h⊢;intro I;exact h (rL u I)
section
variable {dbk pb:Nat} {FD F:Kr} {D:dV} {M:eZ} {k v:Nat} {frm to:Key} {down:Bool} {w0 w wA:Kj} {cb:Nat} {Y SB:Kr} {st:Sl} {zs:List sC}
def gA.cV{w:Kj}{l:Kt}(h:gA w s l B)(u:∀b∈B,b∉S):eK S w s l:=h.kZ mW u
def qsg{sf sto:Sl}{K:Option Addr->WP}(hT:TW dbk pb FD D 5000 w Y F M)(hs:uL t=((k:Int),(v:Int)))(hL:(k=0/\L=[])\/(k≠0/\ig D M k v t L P))(hLl:L.length<=90000)(hf:eK S w sf frm)(ht:eK S w sto to)(hfl:frm.length<=1000000)(htl:to.length<=1000000)(hfB:ft frm)(htB:ft to)(kk:∀cb w' st SB zs,gW dbk pb FD D F M k v frm to down w cb Y w' st SB zs->Left D M k v frm to down 1 (zs.map (·.2)) (iw down frm to L)->Fr [] w w'->K (pW cb) w'): cW 78 [dQ pb,.i t,sf.v,sto.v,.bool down] dE w K:=by
 refine qou (p:=pW pb) (t:=t) (from_:=sf) (to:=sto) (down:=down)<|qsf ?_;rw[hs];refine An hf hfl λs1 B1 w1 b1 f1 n1 _ _=>An (ht.q8 f1) htl λs2 B2 w2 b2 f2 n2 _ _=>oB (oF [] w2) λcb w3 e3 f3 h=>?_;have hnf:(#[dQ pb,.i (k:Int),.i (v:Int),s1.v,s2.v,.slice none 0 0,.nilFunc,.nilFunc,.nilFunc]:Array Kk)=(rO.cells ⟨pb,k,v,s1,s2,dR,.nilFunc,.nilFunc,.nilFunc⟩):=rfl;refine oE h 0 rfl (rO.cells ⟨pb,k,v,s1,s2,dR,oT cb false,.nilFunc,.nilFunc⟩) λw4 h f4=>oE h 0 rfl (rO.cells ⟨pb,k,v,s1,s2,dR,oT cb false,pi cb false,.nilFunc⟩) λw5 h f5=>oE h 0 rfl (rO.cells ⟨pb,k,v,s1,s2,dR,oT cb false,pi cb false,qi cb false⟩) λw6 h f6=>je (λ_ w'=>∃T,ed [] w2 w' [(cb,.c (rO.cells ⟨pb,k,v,s1,s2,dR,oT cb down,pi cb down,qi cb down⟩) T)]) ?_ ?_;cases down with
 | false=>exact JK rfl ⟨_,h⟩
 | true=>
  exact JJ rfl<|oE h 0 rfl (rO.cells ⟨pb,k,v,s1,s2,dR,oT cb true,pi cb false,qi cb false⟩) λw7 h f7=>oE h 0 rfl (rO.cells ⟨pb,k,v,s1,s2,dR,oT cb true,pi cb true,qi cb false⟩) λw8 h f8=>oE h 0 rfl (rO.cells ⟨pb,k,v,s1,s2,dR,oT cb true,pi cb true,qi cb true⟩) λw9 h f9=>⟨_,h⟩
 rintro _ w7 ⟨T,h⟩;have f07:Fr [] w w7:=(f1.trans f2).trans h.fr;have hcl:=fq (h.at (i:=0) rfl);dsimp only at hcl;have hz1:=f1.size;have hz2:=f2.size;have hT7:=hT.q8 f07;have hylt:=hT.tA;have hcw:w.heap.size<=cb:=oK;have hC:gW dbk pb FD D F M k v frm to down w cb Y w7 dR [] []:=by
  refine⟨⟨s1,s2,⟨T,h.at (i:=0) rfl⟩,gA.cV ((b1.q8 f2).q8 h.fr) λb hb hm=>?_,gA.cV (b2.q8 h.fr) λb hb hm=>?_⟩,?_,.nil _ _ _,(λz hz=>nomatch hz),(λh=>nomatch h),(λhm=>?_),(λb hb=>nomatch hb),(λb hb=>?_),hfB,htB,yY _⟩;have:=b1.lt b hb;have:=n1 b hb;rcases zG.1 hm with rfl|hm;omega;have:=hylt b (oQ hm);omega;have:=b2.lt b hb;have:=n2 b hb;rcases zG.1 hm with rfl|hm;omega;have:=hylt b (oQ hm);omega;exact hT.A5 (B:=[cb]) (f07.mono λ_ h=>nomatch h) λb hb=>by rw[zE.1 hb];exact⟨hcw,hcl⟩
  have:=hylt cb hm;omega;rw[zE.1 hb];exact hcw
 refine je (λ_ w'=>∃st SB zs,gW dbk pb FD D F M k v frm to down w cb Y w' st SB zs/\Left D M k v frm to down 1 (zs.map (·.2)) (iw down frm to L)/\Fr [] w w') ?_ ?_;refine TW.J4 hT7 λw8 f8=>?_;have hC8:=hC.q8 f8;refine je (λq w'=>q=decide (0<k/\(eU M t).1≠0)/\w'=w8) ?_ ?_;refine eV (λh=>⟨?_,rfl⟩) λh=>⟨?_,rfl⟩;have h:=zC h;rw[JQ,yO,zT,zR];exact⟨λg=>⟨oK,g⟩,λg=>g.2⟩;have h:=zB h;exact (zU λg=>h oK).symm;rintro q w9 ⟨rfl,rfl⟩;have h0:L=[]->Left D M k v frm to down 1 ([]:List lO) (iw down frm to L):=λe=>.inl ⟨rfl,by rw[e];unfold iw mu;simp⟩;apply eV<;>intro hq;obtain⟨hk,hr⟩:=zC hq;obtain⟨_,hTr⟩:k≠0/\ig D M k v t L P:=hL.resolve_left λh=>by omega
 have hrh:=(qhK hTr).1;rcases hTr with ⟨e,_,_⟩|⟨hh,n,p,hp,e,hHas⟩;rw[e] at hr;exact absurd rfl hr;have hrh2:hh+1<=L.length:=by rw[e] at hrh;exact hrh
 have hpu:iX p:=by
  have:=(Gn hT.wf t).1;rw[e] at this;exact this
 rw[e];refine qqz (s:=⟨p,n,L,P⟩) hHas hpu hC8 (by show 0+hh+1<=100000;omega) λw10 st10 SB10 zs10 hC10 hp10 f10 n10=>⟨st10,SB10,zs10,hC10,?_,(f07.trans f8).j8 f10 λb hb=>.inr ?_⟩;obtain⟨fs,e1,e2⟩:=qww (frm:=frm) (to:=to) (down:=down) hHas;rw[hp10] at e1;have e1:=yP e1;rw[e1];refine .inr ⟨hh,_,e2,?_,λe=>absurd e oN⟩;have hso:=hHas.sort;unfold iw;cases down with
 | false=>exact (qzO hso).symm
 | true=>exact (qwz hso).symm
 rw[zE.1 hb];exact hcw;have hq:=zB hq;have hLn:L=[]:=by rcases hL with h|⟨hk,hTr⟩;exact h.2;rcases hTr with ⟨_,h,_⟩|⟨hh,n,p,hp,e,hHas⟩;exact h;exact absurd ⟨oK,by rw[e];exact hp⟩ hq
 exact⟨dR,[],[],hC8,h0 hLn,f07.trans f8⟩;rintro _ w8 ⟨st8,SB8,zs8,hC8,hL8,f8⟩;exact kk cb w8 st8 SB8 zs8 hC8 hL8 f8
end
end
section
abbrev SS:=Sl×Sl
def oY (x:SS):List Kk:=[x.1.v,x.2.v]
def qqH:∀z,(oY z).length=2:=λ_=>rfl
def qxu(z:SS):∀u∈oY z,u.oneCell'=true:=λu h=>by unfold oY at h;simp only[zG,xZ,or_false] at h;rcases h with rfl|rfl<;>rfl
def qBI:∃i,prog.info? zt=some i/\i.zero=some (.agg dh)/\i.size=2/\i.bytes=48:=uH oL
def qBX{zs:List SS}{SB:Kr}{x:SS}(h:fB oY 2 w s zs SB)(O:zs.length<=1000000)(G:∀E B' w',fB oY 2 w' E (zs++[x]) B'->Fr SB w w'->(∀b∈B',b∈SB\/w.heap.size<=b)->K E w'): Pt.new (.cells (vd x.1 x.2) zt) w λr w1=>Pt.run dp ((Builtin.append_ #[99,99] 99 #[s.v,.slice (pW r) 1 1]).run prog w1) K:=by obtain⟨j,I,J,u,C⟩:=qBI;exact fB.push (e:=zt) (x:=x) h qqH (qxu _) oL I J u rfl rfl (by rw[C];omega) oK G
def rH (w:Kj) (h:Kr) (ps:List (SS×(Key×Key))):Prop:=∀p∈ps,∃u C,gA w p.1.1 p.2.1 u/\gA w p.1.2 p.2.2 C/\(∀b∈u,b∈h)/\∀b∈C,b∈h
def rH.j0{w w':Kj}{S E C:Kr}{ps:List (SS×(Key×Key))}(h:rH w E ps)(f:Fr S w w')(G:∀b∈E,b∉S)(I:∀b∈E,b∈C):rH w' C ps:=λp Q=>by obtain⟨R,U,V,h2,J,O⟩:=h p Q;exact⟨R,U,V.j0 f λb u=>G b (J b u),h2.j0 f λb u=>G b (O b u),λb u=>I b (J b u),λb u=>I b (O b u)⟩
section
variable {dbk pb:Nat} {FD F:Kr} {D:dV} {M:eZ} {k v:Nat} {frm to:Key} {down:Bool} {w0 w wA:Kj} {cb:Nat} {Y SB:Kr} {st:Sl} {zs:List sC}
def qwT{sf ag:Sl}(hT:TW dbk pb FD D 5000 w [] F M)(hs:uL t=((k:Int),(v:Int)))(hL:(k=0/\L=[])\/(k≠0/\ig D M k v t L P))(au:L.length<=90000)(hf:eK S w sf frm)(ht:eK S w ag to)(av:frm.length<=1000000)(aw:to.length<=1000000)(ax:ft frm)(ay:ft to)(kk:∀s w' B C ps,fB oY 2 w' s (ps.map (·.1)) B->rH w' C ps->(∀b∈C,b∉B)->ps.map (·.2)=(iw down frm to L).take most.toNat->Fr [] w w'->(∀b∈B,w.heap.size<=b)->(∀b∈C,w.heap.size<=b)->K s w'): cW 37 [dQ pb,.i t,sf.v,ag.v,.bool down,.i most] dp w K:=by
 refine qpJ<|qsg hT hs hL au hf ht av aw ax ay λcb w1 st SB zs ah az f1=>?_;have a4:(iw down frm to L).length<=90000:=by have U:(mu frm to L).length<=L.length:=length_filter_le _ _;unfold iw;split;rw[length_reverse];omega;omega
 have a5:∀b∈cb::SB,w.heap.size<=b:=ah.new;refine je (λs w'=>∃B C ps,fB oY 2 w' s (ps.map (·.1)) B/\rH w' C ps/\(∀b∈C,b∉B)/\ps.map (·.2)=(iw down frm to L).take most.toNat/\Fr [] w w'/\(∀b∈B,w.heap.size<=b)/\(∀b∈C,w.heap.size<=b)) ?_ ?_
 ·refine Ds (λ(i:Nat) s w'=>∃B C ps st SB zs,i<=(iw down frm to L).length/\fB oY 2 w' s (ps.map (·.1)) B/\rH w' C ps/\(∀b∈C,b∉B)/\ps.map (·.2)=(iw down frm to L).take i/\(most.toNat<i->i=0)/\Fr [] w w'/\(∀b∈B,w.heap.size<=b)/\(∀b∈C,w.heap.size<=b)/\gW dbk pb FD D F M k v frm to down w cb (B++C) w' st SB zs/\Left D M k v frm to down 1 (zs.map (·.2)) ((iw down frm to L).drop i)) (λi=>(iw down frm to L).length+1-i) 0 ⟨[],[],[],st,SB,zs,yY _,.nil _ _ _,(λp hp=>nomatch hp),(λb u=>nomatch u),rfl,λ_=>rfl,f1,(λb u=>nomatch u),(λb u=>nomatch u),ah,by rw[xH];exact az⟩ ?_;rintro i s w2 ⟨B,C,ps,a6,ab,a7,hi,u,hR,hd,O,aC,f2,n2,n3,G,aE⟩ X hX;have a9:s.len=i:=by
   rw[u.len,zK];have:=Kg List.length O;rw[zK,yM] at this;omega
  apply eV<;>intro hc;rotate_left;have hc:=zB hc;refine⟨B,C,ps,u,hR,hd,?_,f2,n2,n3⟩;rw[O];by_cases h0:most.toNat<i;have:=aC h0;omega;have:most.toNat=i:=oK;rw[this];have hc:=zC hc;have a':i<most.toNat:=oK;have ba:=G.lt;refine qqq G aE (λaF w3 ac f3=>?_) λx L' Q ks vs B1 B2 w3 aG aH aI hk hv ac aJ f3 n4 n5 n6 aU=>?_;refine oB (oF [] w3) λr w4 e4 f4 h=>oE h 0 rfl (vd dR dR) λw5 h f5=>JJ rfl ?_;have ad:Fr (cb::ab) w2 w5:=f3.trans (h.fr.mono λ_ h=>nomatch h);have E:∀b∈B++C,b∉cb::ab:=λb u J=>by rcases zG.1 J with rfl|J;exact G.Db u;exact G.Ba b J u
  refine⟨B,C,ps,u.j0 ad λb u=>E b (by simp[u]),hR.j0 ad (λb u=>E b (by simp[u])) λb u=>u,hd,?_,f2.j8 ad λb u=>.inr (G.new b u),n2,n3⟩;rw[O];have I:(iw down frm to L).length<=i:=by
   have:=Kg List.length aF;rw[yC,xM] at this;omega
  rw[zS I,zS oK];have I:i<(iw down frm to L).length:=by
   have:=Kg List.length Q;rw[yC,yJ] at this;omega
  have hx:(iw down frm to L).take (i+1)=(iw down frm to L).take i++[x]:=(by rw[yH I];rw[zY I] at Q;rw[(vE Q).1]);have ae:(iw down frm to L).drop (i+1)=L':=(by rw[zY I] at Q;exact (vE Q).2);have E:∀b∈B++C,b∉cb::ab:=λb u J=>by rcases zG.1 J with rfl|J;exact G.Db u;exact G.Ba b J u
  have aL:fB oY 2 w3 s (ps.map (·.1)) B:=u.j0 f3 λb u=>E b (by simp[u]);have aM:rH w3 (B1++(B2++C)) (ps++[((ks,vs),x)]):=λp hp=>by rcases zD.1 hp with hp|hp;exact hR.j0 f3 (λb u=>E b (by simp[u])) (λb u=>by simp[u]) p hp;rw[zE.1 hp];exact⟨B1,B2,hk,hv,λb u=>by simp[u],λb u=>by simp[u]⟩
  have an:∀b∈B1++(B2++C),b∉B:=λb R J=>by
   have:=u.lt b J;rcases zD.1 R with h|R;have:=n5 b h;omega;rcases zD.1 R with h|R;have:=n6 b h;omega;exact hd b R J
  refine oB (oF [] w3) λr w4 e4 f4 h=>oE h 0 rfl (vd ks vs) λw5 h f5=>JK rfl<|Kq h 0 rfl (ks,vs) ?_;have aN:=ac.q8 h.fr;refine qBX (x:=(ks,vs)) (aL.q8 h.fr) (by rw[zK];have:=Kg List.length O;rw[zK,yM] at this;omega) λs6 B6 w6 b6 f6 n7=>?_;have ao:=ac.lt;have V:∀b∈B1++(B2++C),b<w5.heap.size:=λb u=>yE (ao b (by simp only[zD,zG] at u⊢;rcases u with h|h|h<;>simp[h])) h.fr.size;have aP:Fr [] w w6:=by refine (f2.j8 f3 λb u=>.inr (G.new b u)).trans (h.fr) |>.j8 f6 λb u=>.inr (n2 b u)
  have hz:=(f2.j8 f3 λb u=>.inr (G.new b u)).size;refine hX (i+1) s6 w6 ⟨B6,B1++(B2++C),ps++[((ks,vs),x)],aG,aH,aI,I,by rw[xP];exact b6,(aM.j0 h.fr (λ_ _ h=>nomatch h) λb u=>u).j0 f6 an λb u=>u,λb u J=>?_,by rw[xP,O,hx];rfl,λh=>oK,aP,λb u=>?_,λb u=>?_,aN.j0 (f6.mono λb u _=>by simp[u]) (λb u=>?_) λb u=>?_,by rw[ae];exact aJ⟩ ?_;rcases n7 b J with U|U;exact an b u U;have:=V b u;omega;rcases n7 b u with U|U;exact n2 b U;have:=h.fr.size;omega;have ap:=f2.size;rcases zD.1 u with h|u;exact zL ap (n5 b h);rcases zD.1 u with h|u;exact zL ap (n6 b h);exact n3 b u;rcases zD.1 u with u|u;exact (n7 b u).imp (λh=>by simp[h]) id;exact .inl (by simp only[zD] at u⊢;rcases u with h|h|h<;>simp[h]);rcases zD.1 u with u|u;exact b6.lt b u;exact yE (V b u) f6.size;show _+1-(i+1)<_+1-i;omega
 rintro s w2 ⟨B,C,ps,U,h2,h3,h4,h5,h6,h7⟩;exact kk s w2 B C ps U h2 h3 h4 h5 h6 h7
end
end
section
def qBA{frm to:Key}{x:Key×Key}:wS frm to x=true↔¬gq x.1 frm/\¬gq to x.1:=by unfold wS;rw[yB,yO,yO];have h:cmpL x.1 frm>=0↔¬gq x.1 frm:=(by unfold gq;omega);have u:cmpL x.1 to<=0↔¬gq to x.1:=(by unfold gq;rw[vU x.1 to];omega);rw[h,u]
def Ii(l:Kt):¬cmpL l l<0:=tT
def Fk{x y:Kt}{m:Int}(u:lA n)(C:lA m)(E:x.length=y.length):gq (x++bw 8 n) (y++bw 8 m)↔gq x y\/x=y/\n<m:=by unfold gq;rw[quP E];by_cases e:x=y;rw[iP e,qxe u C,e];exact⟨λh=>.inr ⟨rfl,h⟩,λh=>h.elim (λh=>absurd h (Ii y)) λh=>h.2⟩;rw[iN e];exact⟨.inl,λh=>h.elim id λh=>absurd h.1 e⟩
def qvo{a b c d:Int}(u:lA a)(E:lA b)(C:lA c)(G:lA d):gq (mh a b) (mh c d)↔a<c\/a=c/\b<d:=by unfold mh;rw[Fk E G (by rw[mf,mf]),show gq (bw 8 a) (bw 8 c)↔a<c from qxe u C];exact⟨λh=>h.imp id λh=>⟨Gv (by rw[p8];exact u) (by rw[p8];exact C) h.1,h.2⟩,λh=>h.imp id λh=>⟨by rw[h.1],h.2⟩⟩
def t7 (l:List (HL jd)):Prop:=l.Pairwise λa b=>ou a b=true
def Aa (d:HL jd):Key×Key:=(mh d.1 d.2.1,iR (qs d))
def qzj{a b:HL jd}(h:eQ jd a)(u:eQ jd b):gq (Aa a).1 (Aa b).1↔ou a b=true:=by unfold ou;rw[yO];exact qvo (pS h.1) (pS h.2.1) (pS u.1) (pS u.2.1)
def mP.eqs{α κ:Type}{K:qg α κ}{l:List α}{f:α->Key×Key}(h:mP K L l)(u:∀a,f a=(K.g (K.key a),K.val a))(C:l.Pairwise λa b=>gq (f a).1 (f b).1):L=l.map f:=by
 refine List.Perm.eq_of_pairwise (le:=λx y=>gq x.1 y.1) (λa b _ _ E G=>absurd G (uK E)) ?_ ?_ ?_;have:=h.1.sort;unfold fT gz eh at this;exact pairwise_map.1 this;exact pairwise_map.2 C;rw[show f=λa=>(K.g (K.key a),K.val a) from funext u];exact h.1.perm
def k5 (l:List (HL jd)) (J0 most:Int):List (HL jd):=(l.filter λd=>decide (d.1<=J0)).take most.toNat
def qxr{J0:Int}(h:mP wl L l)(G:t7 l)(I:lA J0):(iw false [] (mh J0 18446744073709551615) L).take most.toNat=(k5 l J0 most).map Aa:=by
 have e:L=l.map Aa:=h.eqs (λ_=>rfl) (List.Pairwise.imp_of_mem (λ{a b} J O u=>(qzj (h.2 a J) (h.2 b O)).2 u) G);unfold iw mu k5;rw[iN oN,e,filter_map,xR];congr 2;refine filter_congr λd Q=>?_;have E:=h.2 d Q;have u:=pS E.1;have C:=pS E.2.1;rw[JQ,Function.comp,qBA,yO];have R:¬gq (Aa d).1 []:=by
  unfold Aa mh gq;have:bw 8 d.1≠[]:=λe=>by have:=Kg List.length e;rw[mf] at this;cases this
  cases U:bw 8 d.1 with
  | nil=>exact absurd U this
  | cons x r=>exact (by decide:¬(1:Int)<0)
 have V:gq (mh J0 18446744073709551615) (Aa d).1↔J0<d.1\/J0=d.1/\18446744073709551615<d.2.1:=qvo I ⟨oN,oN⟩ u C;rw[V];have key:∀a e:Int,lA e->(¬(J0<a\/J0=a/\18446744073709551615<e)↔a<=J0):=λa e h=>by omega
 exact⟨λh=>(key _ _ C).1 h.2,λh=>⟨R,(key _ _ C).2 h⟩⟩
abbrev Gs:Kl:=53
abbrev ji:HL jd->List Kk:=HL.mk jd
def DB(d:HL jd):(ji d).length=4:=rfl
def qBC:∃i,prog.info? Gs=some i/\i.zero=some (.agg df)/\i.size=4/\i.bytes=32:=uH oL
def qxs(d:HL jd):∀u∈ji d,u.oneCell'=true:=λu h=>by obtain⟨a,b,c,e⟩:=d;rcases zG.1 h with rfl|h;rfl;rcases zG.1 h with rfl|h;rfl;rcases zG.1 h with rfl|h;rfl;rw[zE.1 h];rfl
def Cy{x:HL jd}(h:fB ji 4 w s l B)(O:l.length<=1000000)(G:∀E B' w',fB ji 4 w' E (l++[x]) B'->Fr B w w'->(∀b∈B',b∈B\/w.heap.size<=b)->K E w'): Pt.new (.cells (HL.mk jd x).toArray Gs) w λr w1=>Pt.run dp ((Builtin.append_ #[31,31] 31 #[s.v,.slice (pW r) 1 1]).run prog w1) K:=by obtain⟨j,I,J,u,C⟩:=qBC;exact fB.push (e:=Gs) (x:=x) h DB (qxs x) oL I J u rfl rfl (by rw[C];omega) oK G
section
variable {w w' w1:Kj} {Y F F':Kr} {sb pb c:Nat} {b b':Bk}
def qAs{J0:Int}(h:SB w Y sb F c b)(hn:IntKind.u64.has J0)(hd:t7 b.due)(hl:b.size<=90000)(kk:∀s B w',fB ji 4 w' s (k5 b.due J0 most) B->Fr [] w w'->(∀x∈B,w.heap.size<=x)->(∀d∈b.due,eQ jd d)->K s w'): cW 12 [dQ sb,.w J0,.i most] dp w K:=by
 refine qlG ?_;obtain⟨pb,h⟩:=h;have g:=(Fr.refl [] w).drew;refine h.u7 g (qux λs1 w1 h1 f1=>ja (h.held (g.trans f1)) ?_);obtain⟨dbk,FD,D,M,Fo,hS,hb,hc⟩:=h;have C:=hb.due;have ax:=C.len;have ab:=(hS.q8 g).q8 f1;have hz:b.due.length<=b.size:=(by unfold Bk.size;omega);refine qwT (S:=[]) (k:=16) (v:=16) (frm:=[]) (L:=(Fo 3).1) (P:=(Fo 3).2) (ab.tw.y0 λ_ h=>nomatch h) rfl (.inr ⟨oN,hS.st.J0.J1 3 oN⟩) oK (.nil _ _ _ _) h1.rd (yY _) (by rw[Cn];decide) (λ_ h=>nomatch h) (qtJ _ _) λs2 w2 B KB ps hB hR _ E f2 nB _=>?_;rw[qxr C hd (pS hn)] at E;have ac:ps.length=(k5 b.due J0 most).length:=(by have:=Kg List.length E;simpa using this);have aA:(k5 b.due J0 most).length<=b.due.length:=(by unfold k5;rw[yM];exact zL (Nat.min_le_right _ _) (length_filter_le _ _));have aB:s2.len=ps.length:=(by rw[hB.len,zK]);have ad:eE oY 2 [] w2 s2 (ps.map (·.1)):=hB.kZ qqH λ_ _ h=>nomatch h;refine kx (λq w'=>∃i:Nat,∃B',q.2=i/\i<=ps.length/\fB ji 4 w' q.1 ((k5 b.due J0 most).take i) B'/\Fr [] w2 w'/\∀x∈B',w2.heap.size<=x) (λq _=>ps.length-q.2.toNat) ⟨0,[],rfl,yY _,fB.nil _ _ _,.refl _ _,λ_ h=>nomatch h⟩ ?_;rintro⟨s3,q⟩ w3 ⟨i,B3,hq,hi,U,J,n3⟩ X hX;dsimp only at hq U⊢;subst hq;apply cD<;>intro G;have u:i<ps.length:=oK;have I:i<(k5 b.due J0 most).length:=oK;have O:ps[i].2=Aa (k5 b.due J0 most)[i]:=by
  have:=Kg (·[i]?) E;simp only[zQ,zA u,zA I,Option.map_some] at this;exact yP this
 generalize Q:(k5 b.due J0 most)[i]=d at O;have hm:d∈b.due:=(by rw[<- Q];exact (mem_filter.1 (yW (zX I))).1);have V:=C.2 d hm;obtain⟨B1,B2,k1,k2,_,_⟩:=hR ps[i] (zX u);rw[O] at k1 k2;have af:eK [] w2 ps[i].1.1 (mh d.1 d.2.1):=k1.kZ mW λ_ _ h=>nomatch h;have ag:eK [] w2 ps[i].1.2 (iR (qs d)):=k2.kZ mW λ_ _ h=>nomatch h;refine je (λq w'=>∃B',fB ji 4 w' q ((k5 b.due J0 most).take (i+1)) B'/\Fr [] w2 w'/\∀x∈B',w2.heap.size<=x) ?_ λs4 w4 ⟨B4,b4,f4,n4⟩=>hX _ _ ⟨i+1,B4,by dsimp only;rw[gu _ oK];rfl,u,b4,f4,n4⟩ (by dsimp only;rw[gu _ oK];omega);refine eE.pY (x:=ps[i].1) (y:=ps[i].1) (ad.q8 J) i rfl (by rw[zQ,zA u];rfl) rfl rfl<|oB (oF [] w3) λr4 w4 _ f4 o=>o.st' 0 rfl _ (iJ rfl) rfl (zM _) λw5 o _=>oA o 0 rfl ps[i].1.1 rfl (oA o 0 rfl ps[i].1.2 rfl ?_);have f5:=J.trans o.fr;refine qvC (x:=qs d) (af.q8 f5) (ag.q8 f5) (pS V.1) (pS V.2.1) ⟨pS V.2.2.1,pS V.2.2.2⟩ λw6 f6=>oB (o.q8 f6) λr7 w7 _ f7 o=>o.st' 0 rfl _ (iJ rfl) rfl (zM _) λw8 o _=>JJ rfl (Kq o 0 rfl d ?_);refine Cy (U.q8 o.fr) (by rw[yM];omega) λs9 B9 w9 b9 f9 n9=>⟨B9,?_,(J.trans o.fr).j8 f9 λx R=>.inr (n3 x R),λx R=>(n9 x R).elim (n3 x) λh=>zL (J.trans o.fr).size h⟩;rw[yH I,Q];exact b9;have u:i=ps.length:=oK;subst u;rw[ac,vB] at U;have f:=(g.trans f1).trans f2;exact kk s3 B3 w3 U (f.trans J) (λx R=>zL f.size (n3 x R)) C.2
end
end
section
def tc(h:lA x):IntKind.u64.has x:=show (0:Int)<=x/\x<=18446744073709551615 from⟨h.1,oK⟩
def AR(h:0<=x/\x<65536):IntKind.u16.has x:=show (0:Int)<=x/\x<=65535 from⟨h.1,oK⟩
def rG:IntKind.u64.has 0:=tc ⟨oN,oN⟩
def BN:eQ fS lC:=⟨rG,rG,rG,rG,rG,rG,rG,rG,rG,rG,rG,show (0:Int)<=0/\(0:Int)<=4294967295 from⟨oN,oN⟩,AR ⟨oN,oN⟩,AR ⟨oN,oN⟩,rG⟩
def qrm{x:gK}(u:nY x)(h:eQ fS a):eQ fS (md x a):=⟨h.1,h.2.1,tc u.1,tc u.2,h.2.2.2.2⟩
def qrl{x:gK}(u:nY x)(h:eQ fS a):eQ fS (mj x a):=⟨h.1,h.2.1,h.2.2.1,h.2.2.2.1,h.2.2.2.2.1,h.2.2.2.2.2.1,tc u.1,tc u.2,h.2.2.2.2.2.2.2.2⟩
def FB(u:0<=x/\x<65536)(h:eQ fS a):eQ fS (kU x a):=⟨h.1,h.2.1,h.2.2.1,h.2.2.2.1,h.2.2.2.2.1,h.2.2.2.2.2.1,h.2.2.2.2.2.2.1,h.2.2.2.2.2.2.2.1,h.2.2.2.2.2.2.2.2.1,h.2.2.2.2.2.2.2.2.2.1,h.2.2.2.2.2.2.2.2.2.2.1,h.2.2.2.2.2.2.2.2.2.2.2.1,h.2.2.2.2.2.2.2.2.2.2.2.2.1,AR u,h.2.2.2.2.2.2.2.2.2.2.2.2.2.2⟩
def qvg(h:0<=x/\x<65536):0<=nP x 16/\nP x 16<65536:=by
 unfold nP;split
 ·next e=>unfold hasB at e;have:=zC e;omega
 exact h
def DN{t:HL iT}{q:Pa}(E:eQ iT t)(G:eQ fS p.1)(I:eQ fS p.2.1)(h:gS t p=some q):eQ fS q.1/\eQ fS q.2.1:=by unfold gS at h;obtain⟨x,J,h⟩:=Option.bind_eq_some_iff.1 h;obtain⟨y,O,rfl⟩:=yU.1 h;have u:=qrm (EQ (AN G) (uG E) J).2 G;have C:=qrl (EQ (AQ I) (uG E) O).2 I;constructor;dsimp only;split;exact FB (qvg (vc u)) u;exact u;dsimp only;split;exact FB (qvg (vc C)) C;exact C
def Hb.xw(h:Hb T b)(i:gK):eQ fS ((eX b i).getD lC):=by
 cases u:eX b i with
 | none=>exact BN
 | some a=>exact h.acc.2 a (mem_of_find?_eq_some u)
def Hb.DF(h:Hb T b){i:gK}{k:Kp}(u:iG b i=some k):tH k/\pV k=i:=⟨h.jE.2 k (mem_of_find?_eq_some u),by simpa using List.find?_some u⟩
def SB.hb{Y F:Kr}{sb c:Nat}(h:SB w Y sb F c b):∃T,Hb T b:=by obtain⟨pb,dbk,FD,D,M,Fo,C,u,E⟩:=h;exact⟨_,u⟩
def gL (t:HL iT):gK:=(t.2.2.1,t.2.2.2.1)
def gM (t:HL iT):gK:=(t.2.2.2.2.1,t.2.2.2.2.2.1)
def mw (b:Bk) (d:HL jd) (n:Int):Bk:=
 let k:=(iG b (qs d)).getD vI
 ((fI b ((gS k.1 (lg b (gL k.1) (gM k.1))).getD qU) n).gj (gQ k.1,4)).kb d
def Az (c:Nat) (b:Bk) (d:HL jd):Prop:=d∈b.due/\(∃k q,iG b (qs d)=some k/\gS k.1 (lg b (gL k.1) (gM k.1))=some q)/\3*(b.size+5)+1<=c
def jo:Bk->List (HL jd)->Int->Bk
 | b,[],_=>b
 | b,d::r,n=>jo (mw b d n) r ((n+1)%18446744073709551616)
def pN (c:Nat):Bk->List (HL jd)->Int->Prop
 | _,[],_=>True
 | b,d::r,n=>Az c b d/\pN c (mw b d n) r ((n+1)%18446744073709551616)
section
variable {w w' w1:Kj} {Y F F':Kr} {sb pb c:Nat} {b b':Bk}
def EZ:(fI b p n).size<=b.size+4:=by have h:=Al (b:=b) (a:=p.1);have u:=Al (b:=b.dZ p.1) (a:=p.2.1);have C:=E6 (b:=(b.dZ p.1).dZ p.2.1) (a:=p.1) (s:=1) (n:=n);have E:=E6 (b:=jA ((b.dZ p.1).dZ p.2.1) p.1 1 n) (a:=p.2.1) (s:=2) (n:=n);unfold fI;omega
def qom:(fI b p n).due=b.due:=by unfold fI jA;split<;>split<;>rfl
def HY{k:Kp}{q:Pa}{C E r6 r1:Nat}{o6:Obj}{K:Int->WP}(h:SB w Y sb F c b)(o:ed [] w w1 [(C,.c (kM qU).toArray qb),(E,JH iT k.1 55),(r6,o6),(r1,JH jd d Gs)])(O:d∈b.due)(Q:iG b (qs d)=some k)(R:gS k.1 (lg b (gL k.1) (gM k.1))=some q)(hr:3*(b.size+5)+1<=c)(hn:IntKind.u64.has n)(U:∀F' w',SB w' Y sb F' c (mw b d n)->qd F w F' w'->K 0 w'):DW (pW sb) n K (kM q,true) C w1 E r1:=by
 unfold DW;obtain⟨T,I⟩:=h.hb;have u:=(I.DF Q).1;have J:eQ jd d:=I.due.2 d O;have G:=DN u.1 (I.xw (gL k.1)) (I.xw (gM k.1)) R;have e:mw b d n=((fI b q n).gj (gQ k.1,4)).kb d:=(by unfold mw;rw[Q];simp only[xX];rw[R];rfl);rw[e] at U;refine mE (rf q) (o.st' 0 rfl _ (iJ rfl) rfl (zM _) λw2 o _=>JK rfl (nI (o.at (i:=0) rfl) _ (rf q) rfl ?_));have f:=o.fr;have h:=h.J0 o;have z:=EZ (b:=b) (p:=q) (n:=n);refine quy h G.1 G.2 hn oK λF3 w3 V s3=>JK rfl ?_;have o:=h.own o s3;refine Kq o 1 rfl (k.1.1,k.1.2.1) (qoj V oK ⟨u.1.1,u.1.2.1⟩ (show (0:Int)<=4/\(4:Int)<=255 from⟨oN,oN⟩) λF4 w4 h4 s4=>JK rfl ?_);have o:=V.own o s4;refine Kq o 3 rfl d (qvO h4 ?_ J (by show d∈(fI b q n).due;rw[qom];exact O) λF5 w5 h5 s5=>?_);have:=t8 (kf:=λx:gK×Int=>x.1) (a:=(gQ k.1,4)) (l:=(fI b q n).ki);have z2:((fI b q n).gj (gQ k.1,4)).size<=(fI b q n).size+1:=(by unfold Bk.size Bk.gj;dsimp only;omega);exact zL (by have:=z2;show 3*((fI b q n).gj (gQ k.1,4)).size+1<=3*(b.size+5)+1;omega) hr;exact U F5 w5 (h5.y0 λ_ h=>zI _ h) (.pre f ((s3.trans s4).trans s5))
def qBT{K:Int->WP}(h:SB w Y sb F c b)(ok:Az c b d)(R:IntKind.u64.has n)(U:∀F' w',SB w' Y sb F' c (mw b d n)->qd F w F' w'->K 0 w'): cW 33 [dQ sb,.agg #[.w d.1,.w d.2.1,.w d.2.2.1,.w d.2.2.2],.w n] dq w K:=by
 refine qrE ?_;obtain⟨O,⟨k,q,G,E⟩,V⟩:=ok;obtain⟨T,Q⟩:=h.hb;have u:=(Q.DF G).1;have I:eQ jd d:=Q.due.2 d O;have hz:=xd;have ab:=xj;have gD:ln (gL k.1):=⟨u.1.2.2.1,u.1.2.2.2.1⟩;have gC:ln (gM k.1):=⟨u.1.2.2.2.2.1,u.1.2.2.2.2.2.1⟩;have hA:=Q.xw (gL k.1);have hC:=Q.xw (gM k.1);refine oB (oF [] w) λr1 w1 _ f1 o=>Kq o 0 rfl (d.2.2.1,d.2.2.2) (quD (h.q8 f1) ⟨I.2.2.1,I.2.2.2⟩ λw2 f2=>?_);rw[show iG b (d.2.2.1,d.2.2.2)=some k from G];refine oJ (o.q8 f2) ab λr6 w3 _ o=>mE (pj k) (o.st' 0 rfl _ (iJ rfl) rfl (zM _) λw4 o _=>Kq o 0 rfl k.1 (oB o λal w5 _ f5 o=>o.st' 0 rfl _ (iJ rfl) rfl (zM _) λw6 o _=>?_));have o:=o.drew;refine⟨Kq o 0 rfl k.1 (Kq o 0 rfl (gL k.1) (Kq o 0 rfl (gM k.1) (E1 (h.q8 o.fr) gD gC λw7 C=>ja ((o.q8 C).cells 0) (Jx (am:=(0,0)) u.1 hA hC E λw8 J=>oJ ((o.q8 C).q8 J) hz λr9 w9 _ o=>nA (o.cells 1) (o.cells 1) (o.cells 1) ?_)))),
  Kq o 0 rfl k.1 (Kq o 0 rfl (gL k.1) (Kq o 0 rfl (gM k.1) (E1 (h.q8 o.fr) gD gC λw7 C=>ja ((o.q8 C).cells 0) (oJ (o.q8 C) hz λr9 w9 _ o=>nA (o.cells 1) (o.cells 1) (o.cells 1) (Jx (am:=(0,0)) u.1 hA hC E λw8 J=>?_))))),
  Kq o 0 rfl k.1 (Kq o 0 rfl (gL k.1) (Kq o 0 rfl (gM k.1) (oJ o hz λr9 w9 _ o=>nA (o.cells 1) (o.cells 1) (o.cells 1) (E1 (h.q8 o.fr) gD gC λw7 C=>ja ((o.q8 C).cells 1) (Jx (am:=(0,0)) u.1 hA hC E λw8 J=>?_)))))⟩
 exact HY h o O G E V R U;exact HY h (o.q8 J) O G E V R U;exact HY h ((o.q8 C).q8 J) O G E V R U
end
end
section
section
variable {w w' w1:Kj} {Y F F':Kr} {sb pb c:Nat} {b b':Bk}
def SB.flt(h:SB w Y sb F c b):∀x∈F,x<w.heap.size:=by obtain⟨pb,dbk,FD,D,M,Fo,u,E,G⟩:=h;exact λx C=>u.tw.x7.lt x C
def qsr{J0:Int}:(k5 l J0 most).length<=l.length:=by unfold k5;rw[yM];exact zL (Nat.min_le_right _ _) (length_filter_le _ _)
def qyV{first:Int}{K:Kx->WP}(h:SB w Y sb F c b)(hn:IntKind.u64.has first)(hd:t7 b.due)(hl:b.size<=90000)(ok:pN c b (k5 b.due first most) first)(kk:∀F' w',SB w' Y sb F' c (jo b (k5 b.due first most) first)->qd F w F' w'->K (((k5 b.due first most).length:Int),0) w'): cW 10 [dQ sb,.w first,.i most] dA w K:=by
 refine qoB ?_;have hz:b.due.length<=b.size:=(by unfold Bk.size;omega);have R:=qsr (l:=b.due) (J0:=first) (most:=most);refine qAs h hn hd hl λs B w1 U f1 nB _=>?_;generalize k5 b.due first most=l at ok kk U R;have V:s.len=l.length:=U.len;have hR:eE ji 4 F w1 s l:=U.kZ DB λx hx hF=>by have:=nB x hx;have:=h.flt x hF;omega
 have hu:=pS hn;refine kx (λq w'=>∃i:Nat,∃F' Q,q=i/\i<=l.length/\SB w' Y sb F' c Q/\eE ji 4 F' w' s l/\qd F w F' w'/\pN c Q (l.drop i) ((first+i)%18446744073709551616)/\jo Q (l.drop i) ((first+i)%18446744073709551616)=jo b l first) (λq _=>l.length-q.toNat) ⟨0,F,b,rfl,yY _,h.q8 f1,hR,.pre f1 (.refl _ _),by rw[show (first+((0:Nat):Int))%18446744073709551616=first by omega];exact ok,by rw[show (first+((0:Nat):Int))%18446744073709551616=first by omega];rfl⟩ ?_;rintro q w2 ⟨i,F2,Q,rfl,hi,h2,G,s2,C,I⟩ X hX;apply cD<;>intro hc
 ·have u:i<l.length:=oK;rw[zY u] at C I;have en:wrap .u64 (first+wrap .u64 (i:Int))=(first+i)%18446744073709551616:=(by rw[rz (i:Int) ⟨oK,oK⟩];unfold wrap;have:(IntKind.u64.signed)=false:=rfl;simp only[this,Bool.false_and,Bool.false_eq_true,if_false];rfl);rw[en];refine eE.pY (x:=l[i]) (y:=l[i]) G i rfl (zA u) rfl rfl<|oB (oF [] w2) λr3 w3 _ f3 o=>o.st' 0 rfl _ (iJ rfl) rfl (zM _) λw4 o _=>oC o 0 rfl l[i] rfl<|qBT (h2.q8 o.fr) C.1 (tc ⟨oK,oK⟩) λF5 w5 h5 s5=>JK rfl ?_;rw[gu _ oK];have J:((first+(i:Int))%18446744073709551616+1)%18446744073709551616=(first+((i+1:Nat):Int))%18446744073709551616:=oK;have O:=C.2;rw[J] at O;rw[jo,J] at I;have E:=qd.pre o.fr s5;exact hX _ _ ⟨i+1,F5,_,rfl,u,h5,G.j0 E.fr E.new,s2.trans E,O,I⟩ oK
 have u:i=l.length:=oK;subst u;rw[drop_length,jo] at I;rw[V];rw[I] at h2;exact kk F2 w2 h2 s2
end
end
section
def AI{a b:gK}{x y:Operand}{K:Bool->Prop}(k:K (decide (a=b))): fK [iY.one Cell.bool] (λw'=>(do eqGuard .eql pd x y (dk a.1 a.2) (dk b.1 b.2);binOp .eql pd (dk a.1 a.2) (dk b.1 b.2):Sem Kk).run prog w') w K:=by have e:vT prog 2 pd (dk a.1 a.2) (dk b.1 b.2)=some (bif a.1==b.1 then (bif a.2==b.2 then true else false) else false):=oL;have h:(bif a.1==b.1 then (bif a.2==b.2 then true else false) else false)=decide (a=b):=(by obtain⟨u,C⟩:=a;obtain⟨E,G⟩:=b;dsimp only;by_cases h0:u=E;by_cases h1:C=G;simp[h0,h1];simp[h0,h1];simp[h0]);rw[h] at e;exact qBv 2 oN _ e oL k
def eE.kY{α:Type}{enc:α->List Kk}{l:List α}{cl:List Cell}(h:eE enc k S w s l)(n:Nat){x:α}{y:HL cl}{K:HL cl->Prop}(hi:i=n)(u:l[n]?=some x)(C:cl.length<=k)(E:(enc x).take cl.length=HL.mk cl y)(G:K y):idx s i k λa=>dT cl a w K:=by subst hi;obtain⟨Q,b,o,I,_,R,T,U,J,O⟩:=h.at n u;refine sJ I ⟨oK,oK⟩ ?_;rw[zJ];refine vr J y ?_ G;rw[<- E,<- O,take_take,xT C]
def eE.wZ{α:Type}{enc:α->List Kk}{l:List α}{c:Cell}(h:eE enc k S w s l)(n j:Nat){x:α}{y:c.El}{K:c.El->Prop}(hi:i=n)(C:l[n]?=some x)(E:j<k)(u:(enc x)[j]?=some (c.mk y))(G:K y):idx s i k λa=>ld c ⟨a.block,a.off+j,none⟩ w K:=by subst hi;obtain⟨Q,b,o,I,_,R,T,U,J,O⟩:=h.at n C;refine sJ I ⟨oK,oK⟩ ?_;rw[zJ];refine jG J y ?_ G;rw[<- O,xC,iP E,xB] at u;rw[<- xN];exact u
def rC (x:gK×Int):List Kk:=[.w x.1.1,.w x.1.2,.b x.2]
def qE (m:Mv):List Kk:=[.w m.1.1,.w m.1.2,.w m.2.1,.w m.2.2.1,.w m.2.2.2]
def nO (x:Ln):List Kk:=[.w x.1.1,.w x.1.2]++HL.mk k6 x.2
def pL (x:gK×Int):List Kk:=[.w x.1.1,.w x.1.2,.w x.2]
abbrev sq:HL fS->List Kk:=HL.mk fS
abbrev oq:=HL fw
structure RB (S:Kr) (w:Kj) (r:oq) (b:Bk):Prop where
 acc:eE sq 15 S w r.1 b.acc
 jE:eE qA 18 S w r.2.1 b.jE
 ki:eE rC 3 S w r.2.2.1 b.ki
 due:eE ji 4 S w r.2.2.2.1 b.due
 mN:eE qE 5 S w r.2.2.2.2.1 b.mN
 mO:eE qE 5 S w r.2.2.2.2.2.1 b.mO
 iI:eE nO 12 S w r.2.2.2.2.2.2.1 b.iI
 told:r.2.2.2.2.2.2.2.2.1=b.last.isSome/\r.2.2.2.2.2.2.2.1=b.last.getD 0
 gone:∃ g:List (gK×Int),g.length<=b.gn/\eE pL 3 S w r.2.2.2.2.2.2.2.2.2 g
section
variable {S S':Kr} {w w':Kj} {r:oq} {b:Bk}
def RB.j0(h:RB S w r b)(f:Fr S w w')(u:∀x∈S',x∈S\/w.heap.size<=x):RB S' w' r b:=⟨h.acc.j0 f u,h.jE.j0 f u,h.ki.j0 f u,h.due.j0 f u,h.mN.j0 f u,h.mO.j0 f u,h.iI.j0 f u,h.told,h.gone.elim λg q=>⟨g,q.1,q.2.j0 f u⟩⟩
def RB.q8(h:RB S w r b)(f:Fr [] w w'):RB S w' r b:=h.j0 (f.mono λ_ h _=>nomatch h) λ_ h=>.inl h
def CO{α:Type}{p:α->Bool}{l:List α}{i:Nat}{x:α}(G:l[i]?=some x)(C:(l.take i).find? p=none):(p x=true->l.find? p=some x)/\(p x=false->(l.take (i+1)).find? p=none):=by obtain⟨E,u⟩:=zP.1 G;constructor;intro h;rw[show l.find? p=(l.take i++l.drop i).find? p by rw[xG],List.find?_append,C,zY E,u,List.find?_cons,h];rfl;intro h;rw[yH E,u,List.find?_append,C,List.find?_cons,h];rfl
def Id{α:Type}{enc:α->List Kk}{j r1 r3:Nat}{key:α->gK}{i:gK}{cs:Array Kk}{T1 T3:Kl}{l:List α}{x y:Operand}{E:WP}{V:Int->WP}(I:∀x,(enc x).take 2=HL.mk u2 (key x))(hk:2<=k)(h1:w.heap[r1]?=some (.c cs T1))(hj:cs[j]?=some s.v)(h3:w.heap[r3]?=some (.c #[.w i.1,.w i.2] T3))(hR:eE enc k S w s l)(hl:l.length<=1000000)(k0:∀w',Fr [] w w'->(l.find? λx=>decide (key x=i))=none->E w')(k1:∀(n:Nat) x w',l[n]?=some x->(l.find? λx=>decide (key x=i))=some x->Fr [] w w'->V n w'): loop Int (λX q C=>ld .slice (dm r1 j) C λs=>cond (decide (q<(s.len:Int))) (ld .slice (dm r1 j) C.drew λs=>idx s q k λa=>dT u2 a C.drew λt=>dT u2 (dm r3) C.drew λJ=>fK [iY.one Cell.bool] (λw'=>(do eqGuard .eql pd x y (dk t.1 t.2) (dk J.1 J.2);binOp .eql pd (dk t.1 t.2) (dk J.1 J.2):Sem Kk).run prog w') C.drew λb=>cond b (V q C) (X (wrap .i64 (q+1)) C.drew)) (E C)) 0 w:=by
 have ad:=hR.1;refine kx (λq w'=>∃n:Nat,q=n/\n<=l.length/\Fr [] w w'/\((l.take n).find? λx=>decide (key x=i))=none) (λq _=>l.length-q.toNat) ⟨0,rfl,yY _,.refl _ _,rfl⟩ ?_;rintro q w1 ⟨n,rfl,hn,f,O⟩ X hX;have G:∀ {b:Nat} {o:Obj} {w2:Kj},w.heap[b]?=some o->Fr [] w w2->w2.heap[b]?=some o:=λh f=>by rw[f.block _ (fq h) λh=>nomatch h];exact h
 refine jG (G h1 f) s hj (eV (λQ=>?_) λQ=>?_);have u:n<l.length:=(by have:=zC Q;omega);have g:=f.drew;have R:=zA u;refine jG (G h1 g) s hj (eE.kY (cl:=u2) (hR.q8 g) n rfl R hk (I _) (vr (G h3 g) i rfl (AI ?_)));have st:=CO (p:=λx=>decide (key x=i)) R O;apply eV<;>intro U;exact k1 n _ w1 R (st.1 U) f;rw[gu _ oK];exact hX _ _ ⟨n+1,rfl,u,g,st.2 U⟩ oK;have u:n=l.length:=(by have:=zB Q;omega);subst u;rw[vB] at O;exact k0 w1 f O
def quz{i0 i1:Int}{K:HL fS×Bool->WP}(h:RB S w r b)(G:b.size<=100000)(E:∀w',Fr [] w w'->K ((eX b (i0,i1)).getD lC,(eX b (i0,i1)).isSome) w'): cW 64 [JI fw r,dk i0 i1] [.agg fS,.one .bool] w K:=by
 refine qeq<|oB (oF [] w) λr1 w1 _ R o=>oB o λr3 w2 _ U o=>oB o λV w3 _ f3 o=>Id (i:=(i0,i1)) (s:=r.1) (key:=gB) (λ_=>rfl) oN (o.at (i:=2) rfl) rfl (o.at (i:=1) rfl) (h.q8 o.fr).acc (by unfold Bk.size at G;omega) (λI u J=>?_) λn x I O Q u=>?_;refine (o.q8 u).st' 0 rfl _ (iJ rfl) rfl (zM _) λC o _=>Kq o 0 rfl lC ?_
 have:=E C o.fr;rwa[show eX b (i0,i1)=none from J] at this;have o:=(o.q8 u).drew;refine Ko o 2 rfl r.1 (eE.pY (h.q8 o.fr).acc n rfl O rfl rfl (o.st' 0 rfl _ (iJ rfl) rfl (zM _) λC o _=>Kq o 0 rfl x ?_));have:=E C o.fr;rwa[show eX b (i0,i1)=some x from Q] at this
def quC{i0 i1:Int}{K:List Kk×Bool->WP}(h:RB S w r b)(G:b.size<=100000)(E:∀w',Fr [] w w'->K (qA ((iG b (i0,i1)).getD vI),(iG b (i0,i1)).isSome) w'): cW 13 [JI fw r,dk i0 i1] du w K:=by
 refine qdX ?_;have I:=xj;refine oB (oF [] w) λr1 w1 _ U o=>oB o λr3 w2 _ V o=>oJ o I λr5 w3 _ o=>Id (i:=(i0,i1)) (s:=r.2.1) (key:=pV) (λ_=>rfl) oN (o.at (i:=2) rfl) rfl (o.at (i:=1) rfl) (h.q8 o.fr).jE (by unfold Bk.size at G;omega) (λJ u O=>?_) λn x J Q R u=>?_;refine tL (ts:=[iY.pE]) (qA vI) oL (mE rfl ((o.q8 u).st' 0 rfl _ (iJ rfl) rfl (zM _) λC o _=>nI (o.at (i:=0) rfl) _ (pj vI) rfl ?_));have:=E C o.fr;rwa[show iG b (i0,i1)=none from O] at this;have o:=(o.q8 u).drew;refine Ko o 2 rfl r.2.1 (eE.i4 (h.q8 o.fr).jE pj n rfl Q (mE (pj x) (o.st' 0 rfl _ (iJ rfl) rfl (zM _) λC o _=>nI (o.at (i:=0) rfl) _ (pj x) rfl ?_)));have:=E C o.fr;rwa[show iG b (i0,i1)=some x from R] at this
def qAr{i0 i1:Int}{K:Int->WP}(h:RB S w r b)(G:b.size<=100000)(E:∀w',Fr [] w w'->K (sK b (i0,i1)) w'): cW 51 [JI fw r,dk i0 i1] [.one .b] w K:=by
 refine qeT<|oB (oF [] w) λr1 w1 _ Q o=>oB o λr3 w2 _ R o=>Id (i:=(i0,i1)) (s:=r.2.2.1) (key:=λx:gK×Int=>x.1) (λ_=>rfl) oN (o.at (i:=1) rfl) rfl (o.at (i:=0) rfl) (h.q8 o.fr).ki (by unfold Bk.size at G;omega) (λu C I=>?_) λn x u J O C=>?_
 have:=E u (o.fr.trans C);unfold sK at this;rwa[I] at this;have o:=(o.q8 C).drew;refine Ko o 1 rfl r.2.2.1 (eE.wZ (c:=.b) (h.q8 o.fr).ki n 2 rfl J oN (y:=x.2) rfl ?_);have:=E u.drew o.fr;unfold sK at this;rwa[O] at this
end
end
section
section
variable {α:Type} {enc:α->List Kk} {k:Nat} {w:Kj} {s:Sl} {l:List α} {B S:Kr}
def Hx{n:Nat}{x:α}{K:WP}(h:fB enc k w s l B)(C:∀x,(enc x).length=k)(I:∀x,∀u∈enc x,u.oneCell'=true)(hi:i=n)(Q:n<l.length)(kk:∀w',fB enc k w' s (l.set n x) B->Fr B w w'->K w'):idx s i k λa=>Pt.st a (enc x) w K:=by
 subst hi;have hf:=rQ C;rcases h with ⟨_,rfl,_⟩|⟨b,o,G,T,rfl,rfl,ha,hb,h5,h6,h7,h8⟩;cases Q;refine sJ ha ⟨oK,oK⟩ ?_;rw[zJ,xU];rw[xH] at h8;have h9:l.length*k<=s.cap*k:=JZ k oK;have ai:l.length*k<=G.size:=oK;have E:l=l.take n++l[n]::l.drop (n+1):=(by rw[<- zY Q,xG]);have R:G=((l.take n).flatMap enc++enc l[n]++((l.drop (n+1)).flatMap enc++G.toList.drop (l.length*k))).toArray:=by
  apply Array.ext';have:l.flatMap enc=(l.take n).flatMap enc++enc l[n]++(l.drop (n+1)).flatMap enc:=by
   conv=>lhs;rw[E]
   rw[yR,yI,zV]
  rw[<- zV,<- this,<- h8,xG]
 have hA:((l.take n).flatMap enc).length=n*k:=(by rw[hf,yM,xT oK]);have J:ef G (n*k) (enc x)=((l.take n).flatMap enc++enc x++((l.drop (n+1)).flatMap enc++G.toList.drop (l.length*k))).toArray:=by
  have:=vh (A:=(l.take n).flatMap enc) (X:=enc l[n]) (Y:=enc x) (Z:=(l.drop (n+1)).flatMap enc++G.toList.drop (l.length*k)) (by rw[C,C]);rw[hA,<- R] at this;exact this
 have U:(n+1)*k<=l.length*k:=JZ k Q;rw[Nat.succ_mul] at U;refine tU hb _ J (all_eq_true.2 (I x)) (by rw[C];omega) λw' V f=>kk w' (.inr ⟨b,0,_,T,rfl,rfl,ha,V,by rw[xI];exact h5,h6,?_,?_⟩) f;have:=Kg Array.size J;rw[pB] at this;rw[<- this];exact h7;rw[xH,xI];have e:(l.set n x).flatMap enc=(l.take n).flatMap enc++enc x++(l.drop (n+1)).flatMap enc:=by rw[set_eq_take_append_cons_drop,iP Q,yR,yI,zV]
 have O:((l.set n x).flatMap enc).length=l.length*k:=(by rw[hf,xI]);show List.take (l.length*k) (_++_++(_++_))=_;rw[<- zV,<- e,<- O];exact take_left' rfl
def xz{t ty e:Kl}{i:TypeInfo}{z:Kk}{r:Nat}{T:Kl}(J:w.heap[r]?=some (.c #[] T))(G:eE enc k S w s l)(C:∀x,(enc x).length=k)(E:∀x,∀u∈enc x,u.oneCell'=true)(U:prog.underlying t=some (.slice e))(hi:prog.info? e=some i)(V:i.zero=some z)(O:i.size=k)(Q:z.cells.size=k)(R:i.bytes<=1000)(hl:l.length<=1000000)(kk:∀I B w',fB enc k w' I l B->Fr [r] w w'->(∀b∈B,b=r\/w.heap.size<=b)->K I w'): Pt.run dp ((Builtin.append_ #[t,t] ty #[.slice (pW r) 0 0,s.v]).run prog w) K:=by
 refine fB.j2 (s:=⟨pW r,0,0⟩) (l:=[]) (ys:=l) (B:=[r]) (fB.none J) C U hi V O Q (wn (e':=e) G C E U) G.1 ?_ (by simp;have:=G.1;omega) λI B' w' b' f' n' _=>kk I B' w' (oQ b') f' λb J=>(n' b J).imp (λh=>zE.1 h) id;have:=G.1;rw[xM,xU,this];calc l.length*i.bytes<=1000000*1000:=Nat.mul_le_mul hl R
  _<=_:=by decide
end
def DH(x:HL fS):(sq x).length=15:=rfl
def GQ(x:HL fS):∀u∈sq x,u.oneCell'=true:=all_eq_true.1 rfl
def qBB:∃i,prog.info? 47=some i/\i.zero=some (JI fS lC)/\i.size=15/\i.bytes=104:=uH oL
section
variable {S:Kr} {w w':Kj} {r:oq} {b:Bk}
def Ab{α:Type}{enc:α->List Kk}{w w0:Kj}{l:List α}{S:Kr}(h:fB enc k w s l B)(u:∀x,(enc x).length=k)(C:∀x∈S,x<w0.heap.size)(E:∀x∈B,w0.heap.size<=x):eE enc k S w s l:=h.kZ u λb G I=>by have:=C b I;have:=E b G;omega
def Ea{α κ:Type}[DecidableEq κ]{kf:α->κ}{a x:α}{l:List α}{n:Nat}(C:l[n]?=some x)(u:(l.take n).find? (λy=>decide (kf y=kf a))=none)(h:kf x=kf a):iS kf a l=l.set n a:=by obtain⟨E,rfl⟩:=zP.1 C;refine qtg E h λj G e=>?_;rw[List.find?_eq_none] at u;refine u (l[j]' oK) ?_ (oQ e);exact mem_take_iff_getElem.2 ⟨j,oK,rfl⟩
def Dt{α κ:Type}[DecidableEq κ]{kf:α->κ}{a:α}{l:List α}(h:l.find? (λy=>decide (kf y=kf a))=none):iS kf a l=l++[a]:=EV λx u e=>by rw[List.find?_eq_none] at h;exact h x u (oQ e)
def Ec{K:oq->WP}(h:RB S w r b)(hl:b.size<=100000)(hS:∀x∈S,x<w.heap.size)(kk:∀r' w',RB S w' r' (b.dZ a)->Fr [] w w'->K r' w'): cW 23 [JI fw r,JI fS a] [.agg fw] w K:=by
 refine qdj ?_;have aA:b.acc.length<=100000:=(by unfold Bk.size at hl;omega);obtain⟨i,hi,hz,U,V⟩:=qBB;refine oB (oF [] w) λr1 w1 _ f1 o=>oB o λr3 w2 _ f2 o=>oB o λr5 J _ f3 o=>oB (oF [] J) λr7 w4 e4 f4 o2=>?_;have o4:=o.q8 f4;refine Ko o4 2 rfl r.1 (xz (e:=47) (o2.at (i:=0) rfl) (h.q8 o4.fr).acc DH GQ oL hi hz U rfl (by rw[V];decide) oK λs5 B5 w5 b5 f5 n5=>?_);have E:∀x∈B5,J.heap.size<=x:=λx u=>(n5 x u).elim (λe=>oK) λh=>zL f4.size h;have O:Fr [] J w5:=f4.j8 f5 λx u=>.inr (by rw[zE.1 u];omega);have aa:∀(s:Sl) (l:List (HL fS)) (B:Kr) R,fB sq 15 R s l B->(∀x∈B,J.heap.size<=x)->Fr [] J R->l=iS gB a b.acc->Pt.st (dm r1) [s.v] R λw7=>dT fw (dm r1) w7 λt=>Pt.st (dm r5) (HL.mk fw t) w7 λw8=>dT fw (dm r5) w8 λt=>K t w8:=λs l B R hb hB G e=>by
  refine (o.q8 G).st' 2 rfl (HL.mk fw (s,r.2)).toArray rfl rfl (zO rfl) λw7 o7 f7=>Kq o7 2 rfl (s,r.2) (o7.st' 0 rfl _ (iJ rfl) rfl (zM _) λw8 o8 f8=>Kq o8 0 rfl (s,r.2) ?_);have I:=h.q8 o8.fr;have l1:r1<J.heap.size:=fq (o.at (i:=2) rfl);have l5:r5<J.heap.size:=fq (o.at (i:=0) rfl);have ak:=(hb.j0 f7 λx u h=>by have:=hB x u;have:=zE.1 h;omega).j0 f8 λx u h=>by have:=hB x u;have:=zE.1 h;omega
  have al:eE sq 15 S w8 s (iS gB a b.acc):=(by rw[<- e];exact Ab ak DH hS λx u=>zL o.fr.size (hB x u));exact kk (s,r.2) w8 ⟨al,I.jE,I.ki,I.due,I.mN,I.mO,I.iI,I.told,I.gone⟩ o8.fr
 have aH:s5.len=b.acc.length:=b5.len;refine kx (λq w'=>∃n:Nat,q=n/\n<=b.acc.length/\Fr [] w5 w'/\((b.acc.take n).find? λx=>decide (gB x=gB a))=none) (λq _=>b.acc.length-q.toNat) ⟨0,rfl,yY _,.refl _ _,rfl⟩ ?_;rintro q R ⟨n,rfl,hn,G,hf⟩ X hX;apply cD<;>intro hc;have C:n<b.acc.length:=oK;have u:=zA C;have b6:=(b5.q8 G).q8 (Fr.refl [] R).drew;have o6:=o.q8 ((O.trans G).drew);refine eE.kY (cl:=u2) (S:=[]) (b6.kZ DH λ_ _ h=>nomatch h) n rfl u oN rfl (Kq o6 1 rfl (gB a) (AI (a:=gB b.acc[n]) ?_));have st:=CO (p:=λx=>decide (gB x=gB a)) u hf;apply eV<;>intro hb;refine Kq o6 1 rfl a (Hx b6 DH GQ rfl C λw7 b7 f7=>aa _ _ _ _ b7 E ((O.trans G).drew.j8 f7 λx u=>.inr (E x u)) (Ea u hf (zC hb)).symm);rw[gu _ oK];exact hX _ _ ⟨n+1,rfl,C,G.drew,st.2 hb⟩ oK;have C:n=b.acc.length:=oK;subst C;rw[vB] at hf;have Q:=O.trans G;refine Kq (o.q8 Q) 1 rfl a (fB.push (e:=47) (x:=a) (b5.q8 G) DH (GQ a) oL hi hz U rfl rfl (by rw[V];omega) oK λs7 B7 w7 b7 f7 n7=>aa _ _ _ _ b7 (λx u=>(n7 x u).elim (E x) (zL Q.size)) (Q.j8 f7 λx u=>.inr (E x u)) (Dt hf).symm)
end
end
section
abbrev Jp:Kl:=146
abbrev mvs:List Cell:=[.w,.w,.w,.w,.w]
def DZ(x:Mv):(qE x).length=5:=rfl
def Hy(x:Mv):∀u∈qE x,u.oneCell'=true:=all_eq_true.1 rfl
def qBG:∃i,prog.info? Jp=some i/\i.zero=some (.agg #[.w 0,.w 0,.w 0,.w 0,.w 0])/\i.size=5/\i.bytes=40:=uH oL
section
variable {S:Kr} {w w':Kj} {s:Sl} {l:List Mv}
def qsc{m:Mv}(h:eE qE 5 S w s l)(hl:l.length<=100000)(hS:∀x∈S,x<w.heap.size)(kk:∀s' w',eE qE 5 S w' s' (iS qv m l)->Fr [] w w'->K s' w'): cW 68 [s.v,.agg #[.w m.1.1,.w m.1.2,.w m.2.1,.w m.2.2.1,.w m.2.2.2]] dp w K:=by
 refine qif ?_;obtain⟨i,hi,hz,R,U⟩:=qBG;refine oB (oF [] w) λr1 V _ f3 o=>oB (oF [] V) λr7 w4 e4 f4 o2=>?_;have o4:=o.q8 f4;refine xz (e:=Jp) (o2.at (i:=0) rfl) (h.q8 o4.fr) DZ Hy oL hi hz R rfl (by rw[U];decide) oK λs5 B5 w5 b5 f5 n5=>?_;have G:∀x∈B5,V.heap.size<=x:=λx u=>(n5 x u).elim (λe=>oK) λh=>zL f4.size h;have O:Fr [] V w5:=f4.j8 f5 λx u=>.inr (by rw[zE.1 u];omega);have aa:∀(s:Sl) (l':List Mv) (B:Kr) I,fB qE 5 I s l' B->(∀x∈B,V.heap.size<=x)->Fr [] V I->l'=iS qv m l->K s I:=λs l' B I C hB J e=>by refine kk s I ?_ (f3.trans J);rw[<- e];exact Ab C DZ hS λx u=>zL f3.size (hB x u)
 have aC:s5.len=l.length:=b5.len;refine kx (λq w'=>∃n:Nat,q=n/\n<=l.length/\Fr [] w5 w'/\((l.take n).find? λx=>decide (qv x=qv m))=none) (λq _=>l.length-q.toNat) ⟨0,rfl,yY _,.refl _ _,rfl⟩ ?_;rintro q I ⟨n,rfl,hn,J,hf⟩ X hX;apply cD<;>intro hc;have E:n<l.length:=oK;have u:=zA E;have b6:=(b5.q8 J).q8 (Fr.refl [] I).drew;have o6:=o.q8 ((O.trans J).drew);have r6:eE qE 5 [] I.drew s5 l:=b6.kZ DZ λ_ _ h=>nomatch h;refine th (decide (qv l[n]=qv m)) I.drew (λM hM=>?_) ?_;refine eE.kY (cl:=u2) r6 n rfl u oN rfl (Kq o6 0 rfl m.1 (AI (a:=l[n].1) ?_));apply eV<;>intro C;have C:=zC C;refine eE.wZ (c:=.w) r6 n 2 rfl u oN (y:=l[n].2.1) rfl (Ko o6 0 rfl m.2.1 ?_);rw[show (l[n].2.1==m.2.1)=decide (qv l[n]=qv m) by unfold qv;rw[C];by_cases e:l[n].2.1=m.2.1;simp[e];simp[e]];exact hM;have C:=zB C;rw[show decide (qv l[n]=qv m)=false from zU λe=>C (vD e).1] at hM;exact hM;have st:=CO (p:=λx=>decide (qv x=qv m)) u hf;apply eV<;>intro C;refine Kq o6 0 rfl (m.1.1,m.1.2,m.2.1,m.2.2.1,m.2.2.2) (Hx b6 DZ Hy (x:=m) rfl E λw7 b7 f7=>aa _ _ _ _ b7 G ((O.trans J).drew.j8 f7 λx u=>.inr (G x u)) (Ea u hf (zC C)).symm);rw[gu _ oK];exact hX _ _ ⟨n+1,rfl,E,J.drew,st.2 C⟩ oK;have E:n=l.length:=oK;subst E;rw[vB] at hf;have Q:=O.trans J;refine Kq (o.q8 Q) 0 rfl (m.1.1,m.1.2,m.2.1,m.2.2.1,m.2.2.2) (fB.push (e:=Jp) (x:=m) (b5.q8 J) DZ (Hy m) oL hi hz R rfl rfl (by rw[U];omega) oK λs7 B7 w7 b7 f7 n7=>aa _ _ _ _ b7 (λx u=>(n7 x u).elim (G x) (zL Q.size)) (Q.j8 f7 λx u=>.inr (G x u)) (Dt hf).symm)
end
end
section
section
variable {α:Type} {enc:α->List Kk} {k:Nat} {w:Kj} {s:Sl} {l:List α} {B S:Kr}
def quN{n j:Nat}{x:α}{vs:List Kk}{K:WP}(h:fB enc k w s l B)(E:∀x,(enc x).length=k)(hi:i=n)(U:n<l.length)(I:vs.all Value.oneCell'=true)(hj:j+vs.length<=k)(hx:enc x=(enc l[n]).take j++vs++(enc l[n]).drop (j+vs.length))(kk:∀w',fB enc k w' s (l.set n x) B->Fr B w w'->K w'):idx s i k λa=>Pt.st ⟨a.block,a.off+j,none⟩ vs w K:=by
 subst hi;have hf:=rQ E;rcases h with ⟨_,rfl,_⟩|⟨b,o,u,T,rfl,rfl,ha,hb,h5,h6,h7,V⟩;cases U;refine sJ ha ⟨oK,oK⟩ ?_;rw[zJ,xU];rw[xH] at V;have h9:l.length*k<=s.cap*k:=JZ k oK;have an:l.length*k<=u.size:=oK;have C:l=l.take n++l[n]::l.drop (n+1):=(by rw[<- zY U,xG]);have J:=E l[n];have he:enc l[n]=(enc l[n]).take j++((enc l[n]).drop j).take vs.length++(enc l[n]).drop (j+vs.length):=(by rw[zV,<- xF,xG,xG]);have O:u=(((l.take n).flatMap enc++(enc l[n]).take j)++((enc l[n]).drop j).take vs.length++((enc l[n]).drop (j+vs.length)++((l.drop (n+1)).flatMap enc++u.toList.drop (l.length*k)))).toArray:=by
  apply Array.ext';have:l.flatMap enc=(l.take n).flatMap enc++enc l[n]++(l.drop (n+1)).flatMap enc:=by
   conv=>lhs;rw[C]
   rw[yR,yI,zV]
  have h0:u.toList=(l.take n).flatMap enc++enc l[n]++(l.drop (n+1)).flatMap enc++u.toList.drop (l.length*k):=(by rw[<- this,<- V,xG]);rw[h0];conv=>lhs;rw[he]
  rw[<- h0];simp only[zV]
 have hA:((l.take n).flatMap enc++(enc l[n]).take j).length=n*k+j:=(by rw[zF,hf,yM,yM,xT oK,J];omega);have G:ef u (n*k+j) vs=((l.take n).flatMap enc++enc x++((l.drop (n+1)).flatMap enc++u.toList.drop (l.length*k))).toArray:=by
  have:=vh (A:=(l.take n).flatMap enc++(enc l[n]).take j) (X:=((enc l[n]).drop j).take vs.length) (Y:=vs) (Z:=(enc l[n]).drop (j+vs.length)++((l.drop (n+1)).flatMap enc++u.toList.drop (l.length*k))) (by rw[yM,yC,J];omega);rw[hA,<- O] at this;rw[this,hx];simp only[zV]
 have aa:(n+1)*k<=l.length*k:=JZ k U;rw[Nat.succ_mul] at aa;have Q:n*k+j+vs.length<=u.size:=(by clear O G hx he hA V;omega);refine tU hb _ G I Q λw' ab f=>kk w' (.inr ⟨b,0,_,T,rfl,rfl,ha,ab,by rw[xI];exact h5,h6,?_,?_⟩) f;have:=Kg Array.size G;rw[pB] at this;rw[<- this];exact h7;rw[xH,xI];have e:(l.set n x).flatMap enc=(l.take n).flatMap enc++enc x++(l.drop (n+1)).flatMap enc:=by rw[set_eq_take_append_cons_drop,iP U,yR,yI,zV]
 have R:((l.set n x).flatMap enc).length=l.length*k:=(by rw[hf,xI]);show List.take (l.length*k) (_++_++(_++_))=_;rw[<- zV,<- e,<- R];exact take_left' rfl
end
abbrev A0:Kl:=148
def Dz(x:gK×Int):(rC x).length=3:=rfl
def qqI(x:gK×Int):∀u∈rC x,u.oneCell'=true:=all_eq_true.1 rfl
def qBJ:∃i,prog.info? A0=some i/\i.zero=some (.agg #[.w 0,.w 0,.b 0])/\i.size=3/\i.bytes=24:=uH oL
def qoh{r:oq}{i0 i1:Int}{K:oq->WP}(h:RB S w r b)(hl:b.size<=100000)(hS:∀x∈S,x<w.heap.size)(kk:∀r' w',RB S w' r' (b.gj ((i0,i1),x))->Fr [] w w'->K r' w'): cW 27 [JI fw r,dk i0 i1,.b x] [.agg fw] w K:=by
 refine qdO ?_;have aA:b.ki.length<=100000:=(by unfold Bk.size at hl;omega);obtain⟨i,hi,hz,U,V⟩:=qBJ;refine oB (oF [] w) λr1 w1 _ f1 o=>oB o λr3 w2 _ f2 o=>oB o λr5 J _ f3 o=>oB (oF [] J) λr7 w4 e4 f4 o2=>?_;have o4:=o.q8 f4;refine Ko o4 2 rfl r.2.2.1 (xz (e:=A0) (o2.at (i:=0) rfl) (h.q8 o4.fr).ki Dz qqI oL hi hz U rfl (by rw[V];decide) oK λs5 B5 w5 b5 f5 n5=>?_);have E:∀x∈B5,J.heap.size<=x:=λx u=>(n5 x u).elim (λe=>oK) λh=>zL f4.size h;have O:Fr [] J w5:=f4.j8 f5 λx u=>.inr (by rw[zE.1 u];omega);have aa:∀(s:Sl) (l:List (gK×Int)) (B:Kr) R,fB rC 3 R s l B->(∀x∈B,J.heap.size<=x)->Fr [] J R->l=iS (λy:gK×Int=>y.1) ((i0,i1),x) b.ki->Pt.st (dm r1 2) [s.v] R λw7=>dT fw (dm r1) w7 λt=>Pt.st (dm r5) (HL.mk fw t) w7 λw8=>dT fw (dm r5) w8 λt=>K t w8:=λs l B R hb hB G e=>by
  refine (o.q8 G).st' 2 rfl (HL.mk fw (r.1,r.2.1,s,r.2.2.2)).toArray rfl rfl (zO rfl) λw7 o7 f7=>Kq o7 2 rfl (r.1,r.2.1,s,r.2.2.2) (o7.st' 0 rfl _ (iJ rfl) rfl (zM _) λw8 o8 f8=>Kq o8 0 rfl (r.1,r.2.1,s,r.2.2.2) ?_);have I:=h.q8 o8.fr;have l1:r1<J.heap.size:=fq (o.at (i:=2) rfl);have l5:r5<J.heap.size:=fq (o.at (i:=0) rfl);have al:=(hb.j0 f7 λx u h=>by have:=hB x u;have:=zE.1 h;omega).j0 f8 λx u h=>by have:=hB x u;have:=zE.1 h;omega
  have am:eE rC 3 S w8 s (iS (λy:gK×Int=>y.1) ((i0,i1),x) b.ki):=(by rw[<- e];exact Ab al Dz hS λx u=>zL o.fr.size (hB x u));exact kk (r.1,r.2.1,s,r.2.2.2) w8 ⟨I.acc,I.jE,am,I.due,I.mN,I.mO,I.iI,I.told,I.gone⟩ o8.fr
 have aH:s5.len=b.ki.length:=b5.len;refine kx (λq w'=>∃n:Nat,q=n/\n<=b.ki.length/\Fr [] w5 w'/\((b.ki.take n).find? λy:gK×Int=>decide (y.1=(((i0,i1),x):gK×Int).1))=none) (λq _=>b.ki.length-q.toNat) ⟨0,rfl,yY _,.refl _ _,rfl⟩ ?_;rintro q R ⟨n,rfl,hn,G,hf⟩ X hX;apply cD<;>intro hc;have C:n<b.ki.length:=oK;have u:=zA C;have b6:=(b5.q8 G).q8 (Fr.refl [] R).drew;have o6:=o.q8 ((O.trans G).drew);refine eE.kY (cl:=u2) (S:=[]) (b6.kZ Dz λ_ _ h=>nomatch h) n rfl u oN rfl (Kq o6 1 rfl (i0,i1) (AI (a:=b.ki[n].1) ?_));have st:=CO (p:=λy:gK×Int=>decide (y.1=(((i0,i1),x):gK×Int).1)) u hf;apply eV<;>intro hb;have ae:b.ki[n].1=(i0,i1):=zC hb;refine quN (j:=2) (x:=((i0,i1),x)) (vs:=[.b x]) b6 Dz rfl C rfl (zM _) (by rw[show rC b.ki[n]=rC (b.ki[n].1,b.ki[n].2) from rfl,ae];rfl) λw7 b7 f7=>aa _ _ _ _ b7 E ((O.trans G).drew.j8 f7 λx u=>.inr (E x u)) (Ea (kf:=λy:gK×Int=>y.1) u hf ae).symm;rw[gu _ oK];exact hX _ _ ⟨n+1,rfl,C,G.drew,st.2 hb⟩ oK;have C:n=b.ki.length:=oK;subst C;rw[vB] at hf;have Q:=O.trans G;refine Kq (o.q8 Q) 1 rfl (i0,i1) (fB.push (e:=A0) (x:=(((i0,i1),x):gK×Int)) (b5.q8 G) Dz (qqI _) oL hi hz U rfl rfl (by rw[V];omega) oK λs7 B7 w7 b7 f7 n7=>aa _ _ _ _ b7 (λx u=>(n7 x u).elim (E x) (zL Q.size)) (Q.j8 f7 λx u=>.inr (E x u)) (Dt (kf:=λy:gK×Int=>y.1) hf).symm)
end
def eE.BG{α:Type}{enc:α->List Kk}{l:List α}{c:Cell}(h:eE enc k S w s l)(n:Nat){x:α}{y:c.El}{K:c.El->Prop}(hi:i=n)(C:l[n]?=some x)(E:0<k)(u:(enc x)[0]?=some (c.mk y))(G:K y):idx s i k λa=>ld c a w K:=by subst hi;obtain⟨Q,b,o,I,_,R,T,U,J,O⟩:=h.at n C;refine sJ I ⟨oK,oK⟩ ?_;rw[zJ];refine jG J y ?_ G;rw[<- O,xC,iP E,xB,Nat.add_zero] at u;rw[<- xN];exact u
def qzh{n:Nat}(u:n<l.length):i9 d (l.take (n+1))=i9 d (l.take n)++if nu l[n]≠nu d then [l[n]] else []:=by unfold i9;rw[yH u,xE];congr 1;by_cases h:nu l[n]=nu d;simp[h];simp[h]
def qof{r:oq}{K:oq×Bool->WP}(h:RB S w r b)(hl:b.size<=100000)(hS:∀x∈S,x<w.heap.size)(kk:∀r' w' t,RB S w' r' (b.kb d)->Fr [] w w'->K (r',t) w'): cW 45 [JI fw r,.agg #[.w d.1,.w d.2.1,.w d.2.2.1,.w d.2.2.2]] [.agg fw,.one .bool] w K:=by
 refine qeQ ?_;have aq:b.due.length<=100000:=(by unfold Bk.size at hl;omega);refine oB (oF [] w) λr1 w1 _ f1 o=>oB o λr3 w2 _ f2 o=>oB o λr5 G _ f3 o=>oB (oF [] G) λr7 w4 e4 f4 o2=>?_;have l1:r1<G.heap.size:=fq (o.at (i:=2) rfl);have l5:r5<G.heap.size:=fq (o.at (i:=0) rfl);have ab:=(h.q8 o.fr).due;refine kx (λt w'=>∃n:Nat,∃B,t.2=n/\n<=b.due.length/\fB ji 4 w' t.1 (i9 d (b.due.take n)) B/\Fr [] G w'/\∀x∈B,G.heap.size<=x) (λt _=>b.due.length-t.2.toNat) ⟨0,[r7],rfl,yY _,fB.none (o2.at (i:=0) rfl),f4,λx u=>by rw[zE.1 u];omega⟩ ?_;rintro⟨s,q⟩ w5 ⟨n,B,hq,hn,V,Q,O⟩ X hX;dsimp only at hq V⊢;subst hq;have o5:=o.q8 Q;have R:eE ji 4 S w5 r.2.2.2.1 b.due:=ab.q8 Q;have ay:r.2.2.2.1.len=b.due.length:=R.1;refine Ko o5 2 rfl r.2.2.2.1 (eV (λhc=>?_) λhc=>?_);have C:n<b.due.length:=(by have:=zC hc;omega);have u:=zA C;have ct:=qzh (d:=d) C;generalize b.due[n]=x at u ct;have U:=o5.drew;have I:=R.drew;have az:(i9 d (b.due.take n)).length<=100000:=zL (length_filter_le _ _) (by rw[yM];omega);refine je (λs' w'=>∃B',fB ji 4 w' s' (i9 d (b.due.take (n+1))) B'/\Fr [] G w'/\∀x∈B',G.heap.size<=x) ?_ λs' w' ⟨B',b',f',n'⟩=>hX _ _ ⟨n+1,B',by dsimp only;rw[gu _ oK];rfl,C,b',f',n'⟩ (by dsimp only;rw[gu _ oK];omega);refine th (decide (nu x≠nu d)) w5.drew (λM hM=>?_) ?_;refine Ko U 2 rfl r.2.2.2.1 (eE.BG (c:=.w) I n rfl u oN (y:=x.1) rfl (Ko U 1 rfl d.1 ?_));by_cases e:x.1=d.1;refine JK (by rw[e];simp) (Ko U 2 rfl r.2.2.2.1 (eE.wZ (c:=.w) I n 1 rfl u oN (y:=x.2.1) rfl (Ko U 1 rfl d.2.1 ?_)));rw[show (!x.2.1==d.2.1)=decide (nu x≠nu d) by unfold nu;rw[e];by_cases e2:x.2.1=d.2.1;simp[e2];simp[e2]];exact hM;rw[show decide (nu x≠nu d)=true from yA λh=>e (vD h).1] at hM;exact JJ (oQ e) hM;rw[ct];have b6:=V.q8 (Fr.refl [] w5).drew;apply cD<;>intro J;rw[iP (J)];refine Ko U 2 rfl r.2.2.2.1 (eE.pY (y:=x) I n rfl u rfl rfl (Cy b6 oK λs7 B7 w7 b7 f7 n7=>⟨B7,b7,Q.drew.j8 f7 λx u=>.inr (O x u),λx u=>(n7 x u).elim (O x) (zL Q.drew.size)⟩));rw[iN (J),xJ];exact⟨B,b6,Q.drew,O⟩;have C:n=b.due.length:=(by have:=zB hc;omega);subst C;rw[vB] at V;refine Ko o5 2 rfl r.2.2.2.1 (o5.st' 2 rfl (HL.mk fw (r.1,r.2.1,r.2.2.1,s,r.2.2.2.2)).toArray rfl rfl (zO rfl) λw7 o7 f7=>Kq o7 2 rfl (r.1,r.2.1,r.2.2.1,s,r.2.2.2.2) (o7.st' 0 rfl _ (iJ rfl) rfl (zM _) λw8 o8 f8=>Kq o8 0 rfl (r.1,r.2.1,r.2.2.1,s,r.2.2.2.2) ?_));have E:=h.q8 o8.fr;have ah:=(V.j0 f7 λx u h=>by have:=O x u;have:=zE.1 h;omega).j0 f8 λx u h=>by have:=O x u;have:=zE.1 h;omega
 exact kk (r.1,r.2.1,r.2.2.1,s,r.2.2.2.2) w8 _ ⟨E.acc,E.jE,E.ki,Ab ah DB hS λx u=>zL o.fr.size (O x u),E.mN,E.mO,E.iI,E.told,E.gone⟩ o8.fr
def qAq{r:oq}{J0:Int}(h:RB S w r b)(hl:b.size<=100000)(U:∀s B w',fB ji 4 w' s (k5 b.due J0 most) B->Fr [] w w'->(∀x∈B,w.heap.size<=x)->K s w'): cW 43 [JI fw r,.w J0,.i most] dp w K:=by
 refine qf7 ?_;have aj:b.due.length<=100000:=(by unfold Bk.size at hl;omega);refine oB (oF [] w) λr1 Q _ V o=>oB (oF [] Q) λr7 w4 e4 f4 o2=>?_;have aa:=(h.q8 V).due;unfold k5 at U;generalize hp:(λd:HL jd=>decide (d.1<=J0))=p at U;refine kx (λt w'=>∃n:Nat,∃B,t.2=n/\n<=b.due.length/\fB ji 4 w' t.1 ((b.due.take n).filter p) B/\((b.due.take n).filter p).length<=most.toNat/\Fr [] Q w'/\∀x∈B,Q.heap.size<=x) (λt _=>b.due.length-t.2.toNat) ⟨0,[r7],rfl,yY _,fB.none (o2.at (i:=0) rfl),yY _,f4,λx C=>by rw[zE.1 C];omega⟩ ?_;rintro⟨s,q⟩ w5 ⟨n,B,hq,hn,J,hm,O,R⟩ X hX;dsimp only at hq J⊢;subst hq;have o5:=o.q8 O;have G:eE ji 4 S w5 r.2.2.2.1 b.due:=aa.q8 O;have ap:r.2.2.2.1.len=b.due.length:=G.1;have hs:=J.len;refine th (decide (n<b.due.length/\(s.len:Int)<most)) w5 (λM hM=>?_) ?_;refine Ko o5 0 rfl r.2.2.2.1 (eV (λu=>?_) λu=>?_);have u:=zC u;rw[show decide ((s.len:Int)<most)=decide (n<b.due.length/\(s.len:Int)<most) from decide_eq_decide.2 ⟨λh=>⟨oK,h⟩,λh=>h.2⟩];exact hM;have u:=zB u;rw[show decide (n<b.due.length/\(s.len:Int)<most)=false from zU λh=>u oK] at hM;exact hM;apply eV<;>intro u;obtain⟨E,aq⟩:=zC u;have C:=zA E;have ct:(b.due.take (n+1)).filter p=(b.due.take n).filter p++if p b.due[n] then [b.due[n]] else []:=by rw[yH E,xE];congr 1;by_cases h:p b.due[n];simp[h];simp[h]
 generalize b.due[n]=x at C ct;have ar:((b.due.take n).filter p).length<=100000:=zL (length_filter_le _ _) (by rw[yM];omega);refine je (λs' w'=>∃B',fB ji 4 w' s' ((b.due.take (n+1)).filter p) B'/\((b.due.take (n+1)).filter p).length<=most.toNat/\Fr [] Q w'/\∀x∈B',Q.heap.size<=x) ?_ λs' w' ⟨B',b',m',f',n'⟩=>hX _ _ ⟨n+1,B',by dsimp only;rw[gu _ oK];rfl,E,b',m',f',n'⟩ (by dsimp only;rw[gu _ oK];omega);refine Ko o5 0 rfl r.2.2.2.1 (eE.BG (c:=.w) G n rfl C oN (y:=x.1) rfl ?_);rw[ct];unfold JG;rw[show (decide (x.1<=J0))=p x by rw[<- hp]];apply eV<;>intro I;rw[iP I];refine Ko o5 0 rfl r.2.2.2.1 (eE.pY (y:=x) G n rfl C rfl rfl (Cy J oK λs7 B7 w7 b7 f7 n7=>⟨B7,b7,by rw[zF,xO];omega,O.j8 f7 λx C=>.inr (R x C),λx C=>(n7 x C).elim (R x) (zL O.size)⟩));rw[iN (by rw[I];decide),xJ];exact⟨B,J,hm,O,R⟩
 ·have u:=zB u;have e:(b.due.filter p).take most.toNat=(b.due.take n).filter p:=by
   conv=>lhs;rw[<- xG n b.due,xE]
   by_cases E:n<b.due.length;have:((b.due.take n).filter p).length=most.toNat:=by have:¬(s.len:Int)<most:=λh=>u ⟨E,h⟩;omega
   exact take_left' this;rw[JT oK,filter_nil,xJ];exact zS hm
  rw[<- e] at J;exact U s B w5 J (V.trans O) λx C=>zL V.size (R x C)
section
section
variable {w:Kj}
def BO{k:Int}{K:Bool->WP}(h:0<=x/\x<65536)(E:0<k)(u:K (hasB x k) w):cW 54 [.int .u16 x,.int .u16 k] dr w K:=by refine qjf ?_;have C:0<=x / k:=Int.ediv_nonneg h.1 oK;have G:x / k<=x:=Int.ediv_le_self _ h.1;refine mE oK ?_;rw[JX h.1,vp _ oK,JY C];rw[show (x / k%2==1)=hasB x k by unfold hasB;by_cases e:x / k%2=1;simp[e];simp[e]];exact u
def wQ (x k:Int):Int:=if hasB x k then x else x+k
def qz8(u:0<=x/\x<65536):(hasB x 16=true->16<=x)/\(hasB x 16=false->x<65520):=by unfold hasB;exact⟨λh=>by have:=zC h;omega,λh=>by have:=zB h;omega⟩
def qoi{is:Bool}{K:Int->WP}(E:0<=x/\x<65536)(u:K (if is then wQ x 16 else nP x 16) w):cW 67 [.int .u16 x,.bool is] dI w K:=by refine qgT<|BO E oN ?_;have h:=qz8 E;unfold wQ nP at u;generalize hasB x 16=c at u h;refine th (is&&!c) w (λM C=>?_) ?_;cases is;exact JK rfl C;exact JJ rfl C;cases is;refine JK rfl (th c w (λM C=>JJ rfl C) ?_);cases c;exact JK rfl u;refine JJ rfl ?_;rw[vp _ (by have:=h.1 rfl;omega)];exact u;cases c;refine JJ rfl ?_;rw[vp _ (by have:=h.2 rfl;omega)];exact u;exact JK rfl (th false w (λM C=>JK rfl C) (JK rfl u))
def qw6{a b:HL jd}{K:Bool->WP}(u:∀w',Fr [] w w'->K (ou a b) w'):cW 71 [.agg #[.w a.1,.w a.2.1,.w a.2.2.1,.w a.2.2.2],.agg #[.w b.1,.w b.2.1,.w b.2.2.1,.w b.2.2.2]] dr w K:=by refine qhV<|oB (oF [] w) λr1 w1 _ C o=>oB o λr3 w2 _ E o=>Ko o 1 rfl a.1 (Ko o 0 rfl b.1 ?_);have u:=u w2 o.fr;unfold ou at u;apply eV<;>intro h;rw[yA (.inl (zC h))] at u;exact u;have h:=zB h;refine Ko o 1 rfl a.1 (Ko o 0 rfl b.1 (eV (λe=>?_) λe=>?_));have e:a.1=b.1:=eq_of_beq e;refine Ko o 1 rfl a.2.1 (Ko o 0 rfl b.2.1 ?_);rw[show decide (a.1<b.1\/a.1=b.1/\a.2.1<b.2.1)=decide (a.2.1<b.2.1) from decide_eq_decide.2 ⟨λq=>q.elim (λq=>absurd q h) λq=>q.2,λq=>.inr ⟨e,q⟩⟩] at u;exact u;have e:a.1≠b.1:=ne_of_beq_false e;rw[zU λq=>q.elim h λq=>e q.1] at u;exact u
def quA{s:Int}{K:HL k6->WP}(h:∀w',Fr [] w w'->K (rowOf a s n) w'):cW 56 [JI fS a,.b s,.w n] [.agg k6] w K:=by refine qjg<|oB (oF [] w) λr1 w1 _ C o=>oB o λr3 w2 _ E o=>oC o 1 rfl (_,_) rfl (oC o 1 rfl (_,_) rfl (oC o 1 rfl (_,_) rfl (oC o 1 rfl (_,_) rfl ?_)));exact o.st' 0 rfl _ (iJ rfl) rfl (zM _) λu o _=>Kq o 0 rfl (rowOf a s n) (h u o.fr)
end
end
def tG (d:HL jd):Bool->List (HL jd)->List (HL jd)
 | c,[]=>if c then [] else [d]
 | c,x::r=>(if c=false/\ou d x=true then [d] else [])++x::tG d (c||ou d x) r
def qqQ{d:HL jd}:∀l,tG d true l=l
 | []=>rfl
 | x::r=>by rw[tG,iN (λh=>nomatch h.1),Bool.true_or,qqQ r];rfl
def qu1{d:HL jd}:∀l,tG d false l=kX d l
 | []=>rfl
 | x::r=>by rw[tG,kX,Bool.false_or];by_cases h:ou d x=true;rw[iP ⟨rfl,h⟩,iP h,h,qqQ];rfl;rw[iN λq=>h q.2,iN h,Bool.eq_false_iff.2 h,qu1 r];rfl
def qvL{r:oq}{K:oq->WP}(h:RB S w r b)(hl:b.size<=100000)(hS:∀x∈S,x<w.heap.size)(kk:∀r' w',RB S w' r' (b.jZ d)->Fr [] w w'->K r' w'): cW 31 [JI fw r,.agg #[.w d.1,.w d.2.1,.w d.2.2.1,.w d.2.2.2]] [.agg fw] w K:=by
 refine qeR ?_;have aq:b.due.length<=100000:=(by unfold Bk.size at hl;omega);refine oB (oF [] w) λr1 w1 _ f1 o=>oB o λr3 w2 _ f2 o=>oB o λr5 w3 _ f3 o=>Kq o 2 rfl r (Kq o 1 rfl d ?_);have ar:=o.fr.size;have l1:r1<w3.heap.size:=fq (o.at (i:=2) rfl);have l5:r5<w3.heap.size:=fq (o.at (i:=0) rfl);have n1:w.heap.size<=r1:=(o.own _ (yG (i:=2) rfl)).elim (λh=>nomatch h) id;have n5:w.heap.size<=r5:=(o.own _ (yG (i:=0) rfl)).elim (λh=>nomatch h) id;have au:∀x∈r1::r5::S,x<w3.heap.size:=λx u=>by rcases zG.1 u with rfl|u;exact l1;rcases zG.1 u with rfl|u;exact l5;exact yE (hS x u) o.fr.size
 have h0:RB (r1::r5::S) w r b:=h.j0 (.refl _ _) λx u=>by rcases zG.1 u with rfl|u;exact .inr n1;rcases zG.1 u with rfl|u;exact .inr n5;exact .inl u
 refine qof (d:=d) (h0.q8 o.fr) hl au λr' w4 _ h4 f4=>(o.q8 f4).st' 2 rfl _ (iJ rfl) rfl (zM _) λI o f5=>?_;have h5:=h4.j0 (f5.mono λx u _=>by rw[zE.1 u];exact JP) λx u=>.inl u;have z5:w3.heap.size<=I.heap.size:=zL f4.size f5.size;have av:(i9 d b.due).length<=100000:=zL (length_filter_le _ _) aq;have Q:eE ji 4 (r1::r5::S) I r'.2.2.2.1 (i9 d b.due):=h5.due;have V:(b.jZ d).due=kX d (i9 d b.due):=rfl;generalize i9 d b.due=L at av Q V;have aU:r'.2.2.2.1.len=L.length:=Q.1;refine oB (oF [] I) λr7 w6 e6 f6 o2=>kx (λt w'=>∃n:Nat,∃B C,t.2.2=n/\n<=L.length/\fB ji 4 w' t.1 C B/\C++tG d t.2.1 (L.drop n)=kX d L/\C.length<=2*n/\Fr [] I w'/\∀x∈B,I.heap.size<=x) (λt _=>L.length-t.2.2.toNat) ⟨0,[r7],[],rfl,yY _,fB.none (o2.at (i:=0) rfl),qu1 L,zM _,f6,λx u=>by rw[zE.1 u];omega⟩ ?_;rintro⟨s,c,q⟩ w7 ⟨n,B,C,hq,hn,hb,R,aY,f7,nB⟩ X hX;dsimp only at hq hb R⊢;subst hq;have o7:=o.q8 f7;have aw:=Q.q8 f7;refine Ko o7 2 rfl r'.2.2.2.1 (eV (λhc=>?_) λhc=>?_);have E:n<L.length:=(by have:=zC hc;omega);have u:=zA E;rw[zY E,tG] at R;generalize L[n]=x at u R;refine je (λz w'=>∃B',z.2=(c||ou d x)/\fB ji 4 w' z.1 (C++if c=false/\ou d x=true then [d] else []) B'/\Fr [] I w'/\∀x∈B',I.heap.size<=x) ?_ ?_;refine je (λz w'=>z=decide (c=false/\ou d x=true)/\Fr [] w7 w') ?_ ?_;cases c;refine JJ rfl (Kq o7.drew 1 rfl d (Ko o7.drew 2 rfl r'.2.2.2.1 (eE.pY (y:=x) aw.drew n rfl u rfl rfl (qw6 λw8 f8=>⟨?_,(Fr.refl [] w7).drew.trans f8⟩))));cases ou d x<;>simp;exact JK rfl ⟨oM,(Fr.refl [] w7).drew⟩;rintro z w8 ⟨rfl,f8⟩;have ai:=hb.q8 f8;apply eV<;>intro J;have J:=zC J;rw[iP J];refine Kq (o7.q8 f8) 1 rfl d (Cy ai oK λs9 B9 w9 b9 G O=>⟨B9,by dsimp only;rw[J.2,Bool.or_true],b9,(f7.trans f8).j8 G λx u=>.inr (nB x u),λx u=>(O x u).elim (nB x) (zL (f7.trans f8).size)⟩);have J:=zB J;rw[iN J,xJ];exact⟨B,by dsimp only;cases c<;>simp at J⊢;exact J,ai,f7.trans f8,nB⟩;rintro⟨s9,c9⟩ w9 ⟨B9,rfl,b9,G,O⟩;dsimp only at b9⊢;refine Ko (o.q8 G) 2 rfl r'.2.2.2.1 (eE.pY (y:=x) (Q.q8 G) n rfl u rfl rfl (Cy b9 (by rw[zF];split<;>simp<;>omega) λa1 az aA aB U aC=>?_));refine hX _ _ ⟨n+1,az,_,by dsimp only;rw[gu _ oK];rfl,E,aB,by rw[<- R];simp only[zV,xL,xK],by rw[zF,zF];split<;>simp<;>omega,G.j8 U λx u=>.inr (O x u),λx u=>(aC x u).elim (O x) (zL G.size)⟩ (by dsimp only;rw[gu _ oK];omega);have E:n=L.length:=(by have:=zB hc;omega);subst E;rw[drop_length,tG] at R;refine je (λz w'=>∃B',fB ji 4 w' z (kX d L) B'/\Fr [] I w'/\∀x∈B',I.heap.size<=x) ?_ ?_;cases c;rw[iN oN] at R;refine JJ rfl (Kq o7 1 rfl d (Cy hb oK λs9 B9 w9 b9 G O=>⟨B9,by rw[<- R];exact b9,f7.j8 G λx u=>.inr (nB x u),λx u=>(O x u).elim (nB x) (zL f7.size)⟩));rw[iP rfl,xJ] at R;exact JK rfl ⟨B,by rw[<- R];exact hb,f7,nB⟩;rintro s9 w9 ⟨B9,b9,G,O⟩;refine (o.q8 G).st' 2 rfl (HL.mk fw (r'.1,r'.2.1,r'.2.2.1,s9,r'.2.2.2.2)).toArray rfl rfl (zO rfl) λaA ak U=>Kq ak 2 rfl (r'.1,r'.2.1,r'.2.2.1,s9,r'.2.2.2.2) (ak.st' 0 rfl _ (iJ rfl) rfl (zM _) λaD al am=>Kq al 0 rfl (r'.1,r'.2.1,r'.2.2.1,s9,r'.2.2.2.2) ?_);have g9:=h5.q8 G;have aE:=g9.j0 (U.mono λx u _=>by rw[zE.1 u];exact JP) λx u=>.inl u;have hr:=aE.j0 (S':=S) (am.mono λx u _=>by rw[zE.1 u];exact zN _ JP) λx u=>.inl (zN _ (zN _ u));have an:=(b9.j0 U λx u h=>by have:=O x u;have:=zE.1 h;omega).j0 am λx u h=>by have:=O x u;have:=zE.1 h;omega
 exact kk (r'.1,r'.2.1,r'.2.2.1,s9,r'.2.2.2.2) aD ⟨hr.acc,hr.jE,hr.ki,by rw[V];exact Ab (w0:=I) an DB (λx u=>yE (hS x u) (zL ar z5)) O,hr.mN,hr.mO,hr.iI,hr.told,hr.gone⟩ al.fr
def qvK{r:oq}{K:HL c8->WP}(h:RB S w r b)(E:b.size<=100000)(G:∀w',Fr [] w w'->K (vQ b) w'): cW 47 [JI fw r] [.agg c8] w K:=by
 refine qeP ?_;have e1:r.1.len=b.acc.length:=h.acc.1;have I:r.2.1.len=b.jE.length:=h.jE.1;have J:r.2.2.1.len=b.ki.length:=h.ki.1;have O:r.2.2.2.1.len=b.due.length:=h.due.1;have Q:r.2.2.2.2.1.len=b.mN.length:=h.mN.1;have R:r.2.2.2.2.2.1.len=b.mO.length:=h.mO.1;have U:r.2.2.2.2.2.2.1.len=b.iI.length:=h.iI.1;unfold Bk.size at E;refine oB (oF [] w) λr1 w1 _ f1 o=>oB o λr3 w2 _ f2 o=>th (b.last.toList.length:Int) w2 (λM u=>Ko o 1 rfl r.2.2.2.2.2.2.2.2.1 ?_) ?_;rw[h.told.1];cases C:b.last with
 | none=>rw[C] at u;exact JK rfl u
 | some x=>rw[C] at u;exact JJ rfl u
 refine Ko o 1 rfl r.1 (Ko o 1 rfl r.2.1 (Ko o 1 rfl r.2.2.1 (Ko o 1 rfl r.2.2.2.1 (Ko o 1 rfl r.2.2.2.2.1 (Ko o 1 rfl r.2.2.2.2.2.1 (Ko o 1 rfl r.2.2.2.2.2.2.1 ?_))))));rw[e1,I,J,O,Q,R,U,nR _ oK,nR _ oK,nR _ oK,nR _ oK,nR _ oK,nR _ oK,nR _ oK];exact o.st' 0 rfl _ (iJ rfl) rfl (zM _) λV o _=>Kq o 0 rfl (vQ b) (G V o.fr)
def qAQ{p:Prop}{K:Addr->Prop}(u:p)(h:idx s i k K):idx s i k λa=>ib p (K a):=by unfold idx at h⊢;obtain⟨a,C,E,G⟩:=h;exact⟨a,C,E,mE u G⟩
def Jc(x:Kp):∀u∈qA x,u.oneCell'=true:=all_eq_true.1 rfl
def qBE:∃i,prog.info? zy=some i/\i.zero=some (.agg (qA vI).toArray)/\i.size=18/\i.bytes=128:=uH oL
def qvM{r:oq}{k:Kp}{K:oq->WP}(h:RB S w r b)(hl:b.size<=100000)(hS:∀x∈S,x<w.heap.size)(kk:∀r' w',RB S w' r' (b.gH k)->Fr [] w w'->K r' w'): cW 26 [JI fw r,.agg (qA k).toArray] [.agg fw] w K:=by
 refine qc5 ?_;have ah:b.jE.length<=100000/\b.mN.length<=100000/\b.mO.length<=100000:=(by unfold Bk.size at hl;omega);obtain⟨i,hi,hz,ai,aj⟩:=qBE;refine oB (oF [] w) λr1 w1 _ f1 o=>oB o λr3 w2 _ f2 o=>oB o λE w3 _ f3 o=>Kq o 1 rfl k.1 (oB o λr8 w4 _ f4 o=>o.st' 0 rfl _ (iJ rfl) rfl (zM _) λw5 o f5=>?_);have l1:r1<w5.heap.size:=fq (o.at (i:=3) rfl);have l5:E<w5.heap.size:=fq (o.at (i:=1) rfl);have n1:w.heap.size<=r1:=(o.own _ (yG (i:=3) rfl)).elim (λh=>nomatch h) id;have n5:w.heap.size<=E:=(o.own _ (yG (i:=1) rfl)).elim (λh=>nomatch h) id;have ak:∀x∈r1::E::S,x<w5.heap.size:=λx u=>by rcases zG.1 u with rfl|u;exact l1;rcases zG.1 u with rfl|u;exact l5;exact yE (hS x u) o.fr.size
 have h0:RB (r1::E::S) w r b:=h.j0 (.refl _ _) λx u=>by rcases zG.1 u with rfl|u;exact .inr n1;rcases zG.1 u with rfl|u;exact .inr n5;exact .inl u
 have h5:=h0.q8 o.fr;have C:∀ {w w':Kj},Fr [r1] w w'->Fr (r1::E::S) w w':=λf=>f.mono λx u _=>by rw[zE.1 u];exact JP
 refine Ko o 3 rfl r.2.2.2.2.1 (Kq o 0 rfl (k.1.2.2.1,k.1.2.2.2.1) (Ko o 0 rfl k.1.2.2.2.2.2.2.2.2.2.2.2.2.2.2.2 (Kq o 0 rfl (k.1.1,k.1.2.1) (qsc (m:=zi k.1) h5.mN ah.2.1 ak λs6 w6 d6 I=>?_))));refine (o.q8 I).st' 3 rfl (HL.mk fw (r.1,r.2.1,r.2.2.1,r.2.2.2.1,s6,r.2.2.2.2.2)).toArray rfl rfl (zO rfl) λw7 o U=>?_;have h7:=(h5.q8 I).j0 (C U) λx u=>.inl u;have d7:=d6.j0 (C U) λx u=>.inl u;have z7:w5.heap.size<=w7.heap.size:=zL I.size U.size;refine Ko o 3 rfl r.2.2.2.2.2.1 (Kq o 0 rfl (k.1.2.2.2.2.1,k.1.2.2.2.2.2.1) (Ko o 0 rfl k.1.2.2.2.2.2.2.2.2.2.2.2.2.2.2.2 (Kq o 0 rfl (k.1.1,k.1.2.1) (qsc (m:=Cf k.1) h7.mO ah.2.2 (λx u=>yE (ak x u) z7) λs8 w8 aA f8=>?_))));refine (o.q8 f8).st' 3 rfl (HL.mk fw (r.1,r.2.1,r.2.2.1,r.2.2.2.1,s6,s8,r.2.2.2.2.2.2)).toArray rfl rfl (zO rfl) λV o f9=>?_;have h9:=(h7.q8 f8).j0 (C f9) λx u=>.inl u;have d9:=(d7.q8 f8).j0 (C f9) λx u=>.inl u;have c9:=aA.j0 (C f9) λx u=>.inl u;have a7:r1<V.heap.size:=fq (o.at (i:=3) rfl);have a8:E<V.heap.size:=fq (o.at (i:=1) rfl);refine oB (oF [] V) λr7 a9 e7 J o2=>?_;have aD:=o.q8 J;refine Ko aD 3 rfl r.2.1 (xz (e:=zy) (o2.at (i:=0) rfl) (h9.q8 J).jE pj Jc oL hi hz ai rfl (by rw[aj];decide) oK λam B5 an b5 aF aG=>?_);have O:∀x∈B5,V.heap.size<=x:=λx u=>(aG x u).elim (λe=>oK) λh=>zL J.size h;have aa:Fr [] V an:=J.j8 aF λx u=>.inr (by rw[zE.1 u];omega);have ao:∀(s:Sl) (l:List Kp) (B:Kr) w6,fB qA 18 w6 s l B->(∀x∈B,V.heap.size<=x)->Fr [] V w6->l=iS pV k b.jE->Pt.st (dm r1 1) [s.v] w6 λw7=>dT fw (dm r1) w7 λt=>Pt.st (dm E) (HL.mk fw t) w7 λw8=>dT fw (dm E) w8 λt=>K t w8:=λs l B bb hb hB Q e=>by
  refine (o.q8 Q).st' 3 rfl (HL.mk fw (r.1,s,r.2.2.1,r.2.2.2.1,s6,s8,r.2.2.2.2.2.2)).toArray rfl rfl (zO rfl) λaq ar R=>Kq ar 3 rfl (r.1,s,r.2.2.1,r.2.2.2.1,s6,s8,r.2.2.2.2.2.2) (ar.st' 1 rfl _ (iJ rfl) rfl (zM _) λab au av=>Kq au 1 rfl (r.1,s,r.2.2.1,r.2.2.2.1,s6,s8,r.2.2.2.2.2.2) ?_);have ac:Fr (r1::E::S) aq ab:=av.mono λx u _=>by rw[zE.1 u];exact zN _ JP
  have dn:∀x∈S,x∈r1::E::S\/aq.heap.size<=x:=λx u=>.inl (zN _ (zN _ u));have hr:=((h9.q8 Q).j0 (C R) λx u=>.inl u).j0 ac dn;have hd:=((d9.q8 Q).j0 (C R) λx u=>.inl u).j0 ac dn;have hc:=((c9.q8 Q).j0 (C R) λx u=>.inl u).j0 ac dn;have aJ:=(hb.j0 R λx u h=>by have:=hB x u;have:=zE.1 h;omega).j0 av λx u h=>by have:=hB x u;have:=zE.1 h;omega
  have aK:eE qA 18 S ab s (iS pV k b.jE):=(by rw[<- e];exact Ab aJ pj hS λx u=>zL o.fr.size (hB x u));exact kk _ ab ⟨hr.acc,aK,hr.ki,hr.due,hd,hc,hr.iI,hr.told,hr.gone⟩ au.fr
 have bd:am.len=b.jE.length:=b5.len;refine kx (λq w'=>∃n:Nat,q=n/\n<=b.jE.length/\Fr [] an w'/\((b.jE.take n).find? λx=>decide (pV x=pV k))=none) (λq _=>b.jE.length-q.toNat) ⟨0,rfl,yY _,.refl _ _,rfl⟩ ?_;rintro q w6 ⟨n,rfl,hn,I,hf⟩ X hX;apply cD<;>intro hc;have G:n<b.jE.length:=oK;have u:=zA G;have b6:=(b5.q8 I).q8 (Fr.refl [] w6).drew;have o6:=o.q8 ((aa.trans I).drew);refine eE.kY (cl:=u2) (S:=[]) (b6.kZ pj λ_ _ h=>nomatch h) n rfl u oN rfl (Kq o6 0 rfl (pV k) (AI (a:=pV b.jE[n]) ?_));have st:=CO (p:=λx=>decide (pV x=pV k)) u hf;apply eV<;>intro hb;refine nI (o6.at (i:=2) rfl) (qA k) (pj k) rfl ?_;have:=Hx (K:=λaL=>Pt.st (dm r1 1) [am.v] aL λw7=>dT fw (dm r1) w7 λt=>Pt.st (dm E) (HL.mk fw t) w7 λw8=>dT fw (dm E) w8 λt=>K t w8) b6 pj Jc (x:=k) rfl G λw7 b7 U=>ao _ _ _ _ b7 O ((aa.trans I).drew.j8 U λx u=>.inr (O x u)) (Ea u hf (zC hb)).symm;exact qAQ (pj k) this;rw[gu _ oK];exact hX _ _ ⟨n+1,rfl,G,I.drew,st.2 hb⟩ oK;have G:n=b.jE.length:=oK;subst G;rw[vB] at hf;have ad:=aa.trans I;refine nI ((o.q8 ad).at (i:=2) rfl) (qA k) (pj k) rfl (mE (pj k) (fB.push (e:=zy) (x:=k) (b5.q8 I) pj (Jc k) oL hi hz ai rfl rfl (by rw[aj];omega) oK λs7 B7 w7 b7 U n7=>ao _ _ _ _ b7 (λx u=>(n7 x u).elim (O x) (zL ad.size)) (ad.j8 U λx u=>.inr (O x u)) (Dt hf).symm))
abbrev I2:Kl:=184
def DQ(x:Ln):(nO x).length=12:=rfl
def qqG(x:Ln):∀u∈nO x,u.oneCell'=true:=all_eq_true.1 rfl
def qBF:∃i,prog.info? I2=some i/\i.zero=some (.agg (nO ((0,0),AK)).toArray)/\i.size=12/\i.bytes=96:=uH oL
def qCj{α:Type}{enc:α->List Kk}{l:List α}(h:eE enc k S w s l)(n:Nat){x:α}{K:Addr->Prop}(hi:i=n)(E:l[n]?=some x)(G:∀b o u T C,w.heap[b]?=some (.cells u T C)->(u.toList.drop o).take k=enc x->K (dm b o)):idx s i k K:=by subst hi;obtain⟨Q,b,o,I,_,u,T,C,J,O⟩:=eE.at h n E;refine sJ I ⟨oK,oK⟩ ?_;rw[zJ];exact G b _ u T C J O
def qog{r:oq}{a0 a1:Int}{x:HL k6}{K:oq->WP}(h:RB S w r b)(hl:b.size<=100000)(hS:∀x∈S,x<w.heap.size)(kk:∀r' w',RB S w' r' (b.po ((a0,a1),x))->Fr [] w w'->K r' w'): cW 55 [JI fw r,dk a0 a1,JI k6 x] [.agg fw] w K:=by
 refine qeS ?_;have aH:b.iI.length<=100000:=(by unfold Bk.size at hl;omega);obtain⟨i,hi,hz,aa,ab⟩:=qBF;have hm:∃m:Ln,m=((a0,a1),x):=⟨_,rfl⟩;obtain⟨m,V⟩:=hm;rw[<- V] at kk;refine oB (oF [] w) λr1 w1 _ f1 o=>oB o λr3 w2 _ f2 o=>oB o λr5 aJ _ aK o=>oB o λr7 R _ f3 o=>oB (oF [] R) λr9 w4 e4 f4 o2=>?_;have o4:=o.q8 f4;refine Ko o4 3 rfl r.2.2.2.2.2.2.1 (xz (e:=I2) (o2.at (i:=0) rfl) (h.q8 o4.fr).iI DQ qqG oL hi hz aa rfl (by rw[ab];decide) oK λs5 B5 w5 b5 f5 n5=>?_);have G:∀x∈B5,R.heap.size<=x:=λx u=>(n5 x u).elim (λe=>oK) λh=>zL f4.size h;have U:Fr [] R w5:=f4.j8 f5 λx u=>.inr (by rw[zE.1 u];omega);have ac:∀(s:Sl) (l:List Ln) (B:Kr) J,fB nO 12 J s l B->(∀x∈B,R.heap.size<=x)->Fr [] R J->l=iS sR m b.iI->Pt.st (dm r1 6) [s.v] J λw7=>dT fw (dm r1) w7 λt=>Pt.st (dm r7) (HL.mk fw t) w7 λw8=>dT fw (dm r7) w8 λt=>K t w8:=λs l B J C hB O e=>by
  refine (o.q8 O).st' 3 rfl (HL.mk fw (r.1,r.2.1,r.2.2.1,r.2.2.2.1,r.2.2.2.2.1,r.2.2.2.2.2.1,s,r.2.2.2.2.2.2.2)).toArray rfl rfl (zO rfl) λw7 o7 f7=>Kq o7 3 rfl (r.1,r.2.1,r.2.2.1,r.2.2.2.1,r.2.2.2.2.1,r.2.2.2.2.2.1,s,r.2.2.2.2.2.2.2) (o7.st' 0 rfl _ (iJ rfl) rfl (zM _) λw8 o8 f8=>Kq o8 0 rfl (r.1,r.2.1,r.2.2.1,r.2.2.2.1,r.2.2.2.2.1,r.2.2.2.2.2.1,s,r.2.2.2.2.2.2.2) ?_);have Q:=h.q8 o8.fr;have l1:r1<R.heap.size:=fq (o.at (i:=3) rfl);have l5:r7<R.heap.size:=fq (o.at (i:=0) rfl);have al:=(C.j0 f7 λx u h=>by have:=hB x u;have:=zE.1 h;omega).j0 f8 λx u h=>by have:=hB x u;have:=zE.1 h;omega
  have am:eE nO 12 S w8 s (iS sR m b.iI):=(by rw[<- e];exact Ab al DQ hS λx u=>zL o.fr.size (hB x u));exact kk _ w8 ⟨Q.acc,Q.jE,Q.ki,Q.due,Q.mN,Q.mO,am,Q.told,Q.gone⟩ o8.fr
 have aQ:s5.len=b.iI.length:=b5.len;refine kx (λq w'=>∃n:Nat,q=n/\n<=b.iI.length/\Fr [] w5 w'/\((b.iI.take n).find? λx=>decide (sR x=sR m))=none) (λq _=>b.iI.length-q.toNat) ⟨0,rfl,yY _,.refl _ _,rfl⟩ ?_;rintro q J ⟨n,rfl,hn,O,hf⟩ X hX;apply cD<;>intro hc;have E:n<b.iI.length:=oK;have u:=zA E;have b6:=(b5.q8 O).q8 (Fr.refl [] J).drew;have o6:=o.q8 ((U.trans O).drew);have r6:eE nO 12 [] J.drew s5 b.iI:=b6.kZ DQ λ_ _ h=>nomatch h;refine th (decide (sR b.iI[n]=sR m)) J.drew (λM hM=>?_) ?_;refine eE.kY (cl:=u2) r6 n rfl u oN rfl (Kq o6 2 rfl (a0,a1) (AI (a:=b.iI[n].1) ?_));apply eV<;>intro C;have C:=zC C;refine qCj r6 n rfl u λb' o' cs T fr aq ar=>?_;simp only[Addr.j1];refine jG aq (mL (kI b.iI[n].2)) ?_ (Ko o6 1 rfl (mL (kI x)) ?_);have e:(nO b.iI[n])[10]?=some (.w (mL (kI b.iI[n].2))):=rfl;rw[<- ar,xC,iP oN,xB] at e;rw[<- xN];exact e;rw[show (mL (kI b.iI[n].2)==mL (kI x))=decide (sR b.iI[n]=sR m) by unfold sR;rw[C,V];by_cases e:mL (kI b.iI[n].2)=mL (kI x);simp[e];simp[e]];exact hM;have C:=zB C;rw[show decide (sR b.iI[n]=sR m)=false from zU λe=>C (by rw[V] at e;exact (vD e).1)] at hM;exact hM;have st:=CO (p:=λx=>decide (sR x=sR m)) u hf;apply eV<;>intro C;have hk:=zC C;have h1:b.iI[n].1=(a0,a1):=(by rw[V] at hk;exact (vD hk).1);refine Kq o6 1 rfl x (quN (j:=2) (x:=m) (vs:=HL.mk k6 x) b6 DQ rfl E rfl (zM _) (by rw[V,show nO b.iI[n]=nO (b.iI[n].1,b.iI[n].2) from rfl,h1];rfl) λw7 b7 f7=>ac _ _ _ _ b7 G ((U.trans O).drew.j8 f7 λx u=>.inr (G x u)) (Ea u hf hk).symm);rw[gu _ oK];exact hX _ _ ⟨n+1,rfl,E,O.drew,st.2 C⟩ oK;have E:n=b.iI.length:=oK;subst E;rw[vB] at hf;have I:=U.trans O;refine Kq (o.q8 I) 2 rfl (a0,a1) (Kq (o.q8 I) 1 rfl x (fB.push (e:=I2) (x:=m) (b5.q8 O) DQ (qqG m) oL hi hz aa rfl (by rw[V];rfl) (by rw[ab];omega) oK λs7 B7 w7 b7 f7 n7=>ac _ _ _ _ b7 (λx u=>(n7 x u).elim (G x) (zL I.size)) (I.j8 f7 λx u=>.inr (G x u)) (Dt hf).symm))
def qsb{r:oq}{K:oq->WP}(h:RB S w r b)(hl:b.size+4<=100000)(hS:∀x∈S,x<w.heap.size)(hp:eQ fS p.1)(ae:eQ fS p.2.1)(kk:∀r' w',RB S w' r' (fI b p n)->Fr [] w w'->K r' w'): cW 19 [JI fw r,.agg (kM p).toArray,.w n] [.agg fw] w K:=by
 refine qih ?_;have z1:=Al (b:=b) (a:=p.1);have z2:=Al (b:=b.dZ p.1) (a:=p.2.1);have z3:=E6 (b:=(b.dZ p.1).dZ p.2.1) (a:=p.1) (s:=1) (n:=n);refine oB (oF [] w) λr1 w1 _ f1 o=>oB o λr3 w2 _ f2 o=>oB o λI U _ f3 o=>Kq o 2 rfl r (Kq o 1 rfl p.1 ?_);have l1:r1<U.heap.size:=fq (o.at (i:=2) rfl);have n1:w.heap.size<=r1:=(o.own _ (yG (i:=2) rfl)).elim (λh=>nomatch h) id;have l5:I<U.heap.size:=fq (o.at (i:=0) rfl);have n5:w.heap.size<=I:=(o.own _ (yG (i:=0) rfl)).elim (λh=>nomatch h) id;have V:∀x∈r1::I::S,x<U.heap.size:=λx u=>by rcases zG.1 u with rfl|u;exact l1;rcases zG.1 u with rfl|u;exact l5;exact yE (hS x u) o.fr.size
 have h0:RB (r1::I::S) w r b:=h.j0 (.refl _ _) λx u=>(zG.1 u).elim (λe=>.inr (by rw[e];exact n1)) λu=>(zG.1 u).elim (λe=>.inr (by rw[e];exact n5)) .inl;have J:∀ {w w':Kj},Fr [r1] w w'->Fr (r1::I::S) w w':=λf=>f.mono λx u _=>by rw[zE.1 u];exact JP
 have up:∀ {w':Kj},U.heap.size<=w'.heap.size->∀x∈r1::I::S,x<w'.heap.size:=λz x u=>yE (V x u) z;refine Ec (h0.q8 o.fr) oK V λr6 w6 h6 f6=>(o.q8 f6).st' 2 rfl _ (iJ rfl) rfl (zM _) λw7 o f7=>Kq o 2 rfl r6 (Kq o 1 rfl p.2.1 ?_);have z7:=zL f6.size f7.size;refine Ec (h6.j0 (J f7) λx u=>.inl u) oK (up z7) λr8 w8 h8 f8=>(o.q8 f8).st' 2 rfl _ (iJ rfl) rfl (zM _) λw9 o f9=>?_;have z9:=zL z7 (zL f8.size f9.size);have h9:=h8.j0 (J f9) λx u=>.inl u;simp only[Addr.j1];refine je (λ_ w'=>∃r',RB (r1::I::S) w' r' (jA ((b.dZ p.1).dZ p.2.1) p.1 1 n)/\U.heap.size<=w'.heap.size/\ed [] w w' [(I,JH fw (dR,dR,dR,dR,dR,dR,dR,0,false,dR) 36),(r3,.c (kM p).toArray qb),(r1,JH fw r' 36)]) ?_ ?_;refine Ko o 1 rfl (jv p.1) (BO (vc hp) oN ?_);unfold jA;apply eV<;>intro e;rw[iP e];have o:=o.drew;refine Kq o 2 rfl r8 (Kq o 1 rfl (gB p.1) (Kq o 1 rfl p.1 (quA λaa E=>kH ((o.q8 E).cells 1) ((o.q8 E).cells 2) ?_)));refine qog ((h9.q8 (Fr.refl [] w9).drew).q8 E) oK (up (zL z9 E.size)) λai aj ak C=>((o.q8 E).q8 C).st' 2 rfl _ (iJ rfl) rfl (zM _) λal am G=>⟨ai,ak.j0 (J G) λx u=>.inl u,zL z9 (zL E.size (zL C.size G.size)),am⟩;rw[iN (by rw[e];decide)];exact⟨r8,h9,z9,o⟩;rintro _ aa ⟨ab,O,Q,o⟩;have e5:fI b p n=jA (jA ((b.dZ p.1).dZ p.2.1) p.1 1 n) p.2.1 2 n:=rfl;rw[e5] at kk;generalize jA ((b.dZ p.1).dZ p.2.1) p.1 1 n=b3 at z3 O kk;refine je (λ_ w'=>∃r',RB (r1::I::S) w' r' (jA b3 p.2.1 2 n)/\U.heap.size<=w'.heap.size/\ed [] w w' [(I,JH fw (dR,dR,dR,dR,dR,dR,dR,0,false,dR) 36),(r3,.c (kM p).toArray qb),(r1,JH fw r' 36)]) ?_ ?_;refine Ko o 1 rfl (jv p.2.1) (BO (vc ae) oN ?_);unfold jA;apply eV<;>intro e;rw[iP e];have o:=o.drew;refine Kq o 2 rfl ab (Kq o 1 rfl (gB p.2.1) (Kq o 1 rfl p.2.1 (quA λaj C=>kH ((o.q8 C).cells 1) ((o.q8 C).cells 2) ?_)));refine qog ((O.q8 (Fr.refl [] aa).drew).q8 C) oK (up (zL Q C.size)) λan al ao G=>((o.q8 C).q8 G).st' 2 rfl _ (iJ rfl) rfl (zM _) λaQ ap ac=>⟨an,ao.j0 (J ac) λx u=>.inl u,zL Q (zL C.size (zL G.size ac.size)),ap⟩;rw[iN (by rw[e];decide)];exact⟨ab,O,Q,o⟩;rintro _ aR ⟨R,aq,aT,o⟩;refine Kq o 2 rfl R (o.st' 0 rfl _ (iJ rfl) rfl (zM _) λar ad au=>Kq ad 0 rfl R (kk R ar (aq.j0 (au.mono λx u _=>by rw[zE.1 u];exact zN _ JP) λx u=>.inl (zN _ (zN _ u))) ad.fr))
def mG (t:HL iT):Int:=t.2.2.2.2.2.2.2.2.2.2.2.1
def li (t:HL iT):Int:=t.2.2.2.2.2.2.2.2.2.2.2.2.2.2.2
def pU (t:HL iT):Option Int:=if mG t=0 then none else if li t+mG t<18446744073709551616 then some (li t+mG t) else none
def qyW{t:HL iT}{K:KK->WP}(C:eQ iT t)(u:∀w',Fr [] w w'->K ((pU t).getD 0,(pU t).isSome) w'): cW 30 [JI iT t] dP w K:=by
 refine qf8 ?_;have G:0<=mG t/\mG t<4294967296:=Bc C.2.2.2.2.2.2.2.2.2.2.2.1;have I:lA (li t):=pS C.2.2.2.2.2.2.2.2.2.2.2.2.2.2.2;unfold pU at u;refine oB (oF [] w) λr1 w1 _ J o=>Ko o 0 rfl (mG t) (eV (λh=>?_) λh=>?_);rw[iP (eq_of_beq h)] at u;exact u w1 J;rw[iN (ne_of_beq_false h)] at u;refine Ko o 0 rfl (li t) (Ko o 0 rfl (mG t) ?_);rw[rz (mG t) oK];refine Js (a:=(0,li t)) (b:=(0,mG t)) ⟨pS rG,I⟩ ⟨pS rG,G.1,by dsimp only;omega⟩ λw2 O=>?_;have e:mM (0,li t) (0,mG t)=some (u9 (li t+mG t)):=by unfold mM wv;dsimp only;rw[iP];congr 2;omega
 rw[e];refine oB (o.q8 O) λr3 Q _ R o=>o.st' 0 rfl _ (iJ rfl) rfl (zM _) λE o _=>Ko o 0 rfl ((li t+mG t) / 18446744073709551616) (eV (λh=>?_) λh=>?_);have h:=zC h;rw[iN] at u;exact u E o.fr;have h:=zB h;rw[iP] at u;refine oA o 0 rfl (li t+mG t) ?_ (u E o.fr);show some (Value.int .u64 ((li t+mG t)%18446744073709551616))=_;rw[show (li t+mG t)%18446744073709551616=li t+mG t by omega];rfl
section
abbrev WF:FuncId:=134
structure rr (w:Kj) (v:Kk) (pb:Nat) (t:Int) (frm to:Key) (down:Bool) (WB:Kr):Prop where
 val:∃ r1 r3 r5 r7 r9 s1 s2 B1 B2,v=.func (.func WF) #[] #[dQ r1,dQ r3,dQ r5,dQ r7,dQ r9]/\WB=r1::r3::r5::r7::r9::(B1++B2)/\
  w.cell? (dm r1)=some (dQ pb)/\w.cell? (dm r3)=some (.i t)/\w.cell? (dm r5)=some s1.v/\w.cell? (dm r7)=some s2.v/\w.cell? (dm r9)=some (.bool down)/\gA w s1 frm B1/\gA w s2 to B2
 lt:∀ b∈WB,b<w.heap.size
def qv2{w':Kj}{b off:Nat}(f:Fr S w w')(h:b<w.heap.size)(u:b∉S):w'.cell? (dm b off)=w.cell? (dm b off):=by simp only[World.cell?,f.block b h u]
def rr.j0{S:Kr}{w w':Kj}{v:Kk}{pb:Nat}{t:Int}{frm to:Key}{down:Bool}{C:Kr}(h:rr w v pb t frm to down C)(f:Fr S w w')(E:∀b∈C,b∉S):rr w' v pb t frm to down C:=by obtain⟨⟨r1,r3,G,I,r9,R,U,J,O,e,rfl,V,c3,c5,c7,c9,b1,b2⟩,Q⟩:=h;have g:∀b∈r1::r3::G::I::r9::(J++O),w'.cell? (dm b)=w.cell? (dm b):=λb u=>qv2 f (Q b u) (E b u);exact⟨⟨r1,r3,G,I,r9,R,U,J,O,e,rfl,by rw[g r1 oM];exact V,by rw[g r3 oM];exact c3,by rw[g G oM];exact c5,by rw[g I oM];exact c7,by rw[g r9 oM];exact c9,b1.j0 f λb u=>E b (by simp[u]),b2.j0 f λb u=>E b (by simp[u])⟩,λb u=>yE (Q b u) f.size⟩
section
variable {dbk pb:Nat} {FD F:Kr} {D:dV} {M:eZ} {k v:Nat} {frm to:Key} {down:Bool} {w:Kj}
def qAv{O C:Sl}{p:Option Addr}{K:Kk->WP}(hp:p=pW pb)(hf:eK S w O frm)(ht:eK S w C to)(Q:frm.length<=1000000)(R:to.length<=1000000)(kk:∀v w' WB,rr w' v pb t frm to down WB->(∀b∈WB,w.heap.size<=b)->Fr [] w w'->K v w'): cW 92 [.p p,.i t,O.v,C.v,.bool down] dC w K:=by
 subst hp;refine qpK ?_;have h:=oF [] w;refine oB h λr1 w1 e1 f1 h=>oB h λr3 w3 e3 f3 h=>oB h λU w5 e5 f5 h=>oB h λV w7 e7 f7 h=>oB h λr9 J e9 f9 h=>?_;have h:=oG h;have l1:=fq (h.at (i:=4) rfl);have l3:=fq (h.at (i:=3) rfl);have l5:=fq (h.at (i:=2) rfl);have l7:=fq (h.at (i:=1) rfl);have l9:=fq (h.at (i:=0) rfl);dsimp only at l1 l3 l5 l7 l9;have n1:=f1.size;have n3:=f3.size;have n5:=f5.size;have n7:=f7.size;refine Ko h 2 rfl O<|Ko h 1 rfl C<|An (hf.q8 h.fr) Q λs1 B1 wa b1 fa na _ _=>?_;have h:=h.q8 fa;refine ja (h.cell 1)<|An (ht.q8 h.fr) R λs2 B2 wb b2 fb nb _ _=>?_;have h:=h.q8 fb;have za:=fa.size;have zb:=fb.size;refine oE h 2 rfl #[s1.v] λwc h fc=>oE h 1 rfl #[s2.v] λG h fd=>?_;have E:Fr [U,V] wb G:=(fc.mono λb u _=>by rw[zE.1 u];simp).trans (fd.mono λb u _=>by rw[zE.1 u];simp);have z0:w.heap.size<=J.heap.size:=(by have:=f9.size;omega);have ns:∀b,J.drew.heap.size<=b->b∉[U,V]:=λb u hm=>by simp only[zG,xZ,or_false] at hm;rcases hm with rfl|rfl<;>omega
 have q1:gA G s1 frm B1:=(b1.q8 fb).j0 E λb u=>ns b (na b u);have q2:gA G s2 to B2:=b2.j0 E λb u=>ns b (zL za (nb b u));have aK:=h.fr.size;have zd:J.drew.heap.size<=G.heap.size:=zL (zL za zb) E.size;refine kk _ G _ ⟨⟨r1,r3,U,V,r9,s1,s2,B1,B2,rfl,rfl,h.cell 4,h.cell 3,h.cell 2,h.cell 1,h.cell 0,q1,q2⟩,λb u=>?_⟩ (λb u=>?_) h.fr;simp only[zG,zD] at u;rcases u with rfl|rfl|rfl|rfl|rfl|u|u;omega;omega;omega;omega;omega;exact q1.lt b u;exact q2.lt b u;have I:w.heap.size<=J.drew.heap.size:=z0;simp only[zG,zD] at u;rcases u with rfl|rfl|rfl|rfl|rfl|u|u;omega;omega;omega;omega;omega;exact zL I (na b u);exact zL I (zL za (nb b u))
structure Di (yield:Kk) (Yc:Kr) (wb:Kj) (L:gJ) (I:Nat->WP) (E:WP):Prop where
 stay:∀ i W W' Z,I i W->Fr Z W W'->(∀ b∈Z,wb.heap.size<=b)->I i W'
 take:∀ i (hi:i<L.length) W ks vs B1 B2 (K:Bool->WP),I i W->gA W ks L[i].1 B1->gA W vs L[i].2 B2->(∀ b∈B1++B2,wb.heap.size<=b)->wb.heap.size<=W.heap.size->(∀ W',Fr Yc W W'->I (i+1) W'->K true W')->(∀ W',E W'->K false W')->eF prog yield [ks.v,vs.v] dr W K
def qyZ{Yc WB:Kr}{v0 aa:Kk}{I:Nat->WP}{E:WP}{K:Unit->WP}{lb:List Kk}(hv:v0=.func (.func WF) #[] lb.toArray)(hW:rr w v0 pb t frm to down WB)(hT:TW dbk pb FD D 5000 w Yc F M)(hs:uL t=((k:Int),(v:Int)))(hL:k≠0/\ig D M k v t L P)(aH:L.length<=90000)(aI:frm.length<=1000000)(aJ:to.length<=1000000)(aK:ft frm)(aL:ft to)(hY:Di aa Yc w (iw down frm to L) I E)(h0:I 0 w)(k1:∀C,I (iw down frm to L).length C->K () C)(k2:∀C,E C->K () C): cW WF (aa::lb) [] w K:=by
 obtain⟨⟨r1,r3,r5,r7,r9,s1,s2,B1,B2,e,rfl,c1,c3,c5,c7,c9,b1,b2⟩,G⟩:=hW;rw[e] at hv;have aM:lb=[dQ r1,dQ r3,dQ r5,dQ r7,dQ r9]:=by
  injection hv with _ _ h3;simpa using (Kg Array.toList h3).symm
 subst aM;refine qmn<|qm (pW pb) c1<|qm t c3<|qm s1 c5<|qm s2 c7<|qm down c9<|qsg (S:=[]) hT hs (.inr hL) aH (b1.cV λb _=>oM) (b2.cV λb _=>oM) aI aJ aK aL λcb w1 st SB zs hC O f1=>?_;generalize iw down frm to L=R at O hY k1;have an:=hY.stay 0 w w1 [] h0 f1 λb u=>nomatch u;let J:Nat->Option Addr×Bool->WP:=λi s W=>∃(st:Sl) (SB:Kr) (zs:List sC) (ks vs:Sl) (C1 C2:Kr) (r:Nat) (T:Kl),s=(pW r,decide (i<R.length))/\i<=R.length/\W.heap[r]?=some (.c (vd ks vs) T)/\gW dbk pb FD D F M k v frm to down w cb Yc W st SB zs/\I i W/\(∀h:i<R.length,gA W ks R[i].1 C1/\gA W vs R[i].2 C2)/\Left D M k v frm to down 1 (zs.map (·.2)) (R.drop (i+1))/\r∉Yc/\w.heap.size<=W.heap.size/\∀b∈C1++C2,w.heap.size<=b;have ad:∀(Y:Kr) (i:Nat) (W:Kj) (st:Sl) (SB:Kr) (zs:List sC) (K':(Sl×Sl)×Bool->WP),gW dbk pb FD D F M k v frm to down w cb Y W st SB zs->I i W->Left D M k v frm to down 1 (zs.map (·.2)) (R.drop i)->i<=R.length->w.heap.size<=W.heap.size->
   (∀ks vs C1 C2 C Z st' SB' zs',gW dbk pb FD D F M k v frm to down w cb Y C st' SB' zs'->I i C->(∀h:i<R.length,gA C ks R[i].1 C1/\gA C vs R[i].2 C2)->(∀b∈C1++C2,W.heap.size<=b)->Left D M k v frm to down 1 (zs'.map (·.2)) (R.drop (i+1))->Fr Z W C->(∀b∈Z,b∈cb::SB)->w.heap.size<=C.heap.size->K' ((ks,vs),decide (i<R.length)) C)->
   cW 79 [dQ cb] [.agg Ei,.one .bool] W K':=by
  intro Y i W st SB zs K' hC hI O bz ae kK;refine qqq hC O (λhn C Q U=>?_) λx L' hx ks vs C1 C2 C st' SB' zs' hk hv Q aQ U _ n1 n2 _=>?_;have aR:R.length<=i:=by
   have:=Kg List.length hn;rw[yC,xM] at this;omega
  have:=kK dR dR [] [] C (cb::SB) _ _ _ Q (hY.stay i W C _ hI U hC.new) (λh=>absurd h oK) (λb u=>nomatch u) (.inl ⟨rfl,vG oK⟩) U (λb u=>u) (zL ae U.size);rw[zU (show ¬i<R.length by omega)] at this;exact this;have G:i<R.length:=by
   have:=Kg List.length hx;rw[yC,yJ] at this;omega
  rw[zY G] at hx;obtain⟨rfl,rfl⟩:=vE hx;have:=kK ks vs C1 C2 C (cb::SB) st' SB' zs' (Q.j0 (.refl _ _) (λb u=>.inl (by simp[u])) λb u=>Q.lt b (by simp[u])) (hY.stay i W C _ hI U hC.new) (λ_=>⟨hk,hv⟩) (λb u=>(zD.1 u).elim (n1 b) (n2 b)) aQ U (λb u=>u) (zL ae U.size);rw[yA G] at this;exact this
 refine ad Yc 0 w1 st SB zs _ hC an O (yY _) f1.size λks vs C1 C2 w2 Z aT aU aV aj ap ak nC aq f2 hZ aW=>oB (oF [] w2) λr w3 e3 f3 h=>oE h 0 rfl (vd ks vs) λw4 h f4=>?_;have ar:=aj.lt;refine Ds J (λi=>R.length+1-i) 0 ⟨aT,aU,aV,ks,vs,C1,C2,r,zt,rfl,yY _,h.at (i:=0) rfl,aj.q8 h.fr,hY.stay 0 w2 w4 [] ap h.fr (λb u=>nomatch u),λhl=>⟨(ak hl).1.q8 h.fr,(ak hl).2.q8 h.fr⟩,aq,λhm=>by have:=ar r (by simp[hm]);omega,zL aW h.fr.size,λb u=>zL f1.size (nC b u)⟩ ?_;clear aj ap ak aq h an hC O nC;rintro i s W ⟨st,SB,zs,ks,vs,C1,C2,r,T,rfl,hi,hr,hC,hI,hB,O,aX,ae,nC⟩ X hX;dsimp only;apply cD<;>intro hc;have G:=hc;obtain⟨q1,q2⟩:=hB G;refine gX (jG hr ks rfl ?_);refine gX (jG hr vs rfl ?_);refine hY.take i G W ks vs C1 C2 _ hI q1 q2 nC ae (λC U aZ=>?_) λC hE=>JJ rfl (k2 C hE);refine JK rfl ?_;have a0:C.heap[r]?=some (.c (vd ks vs) T):=(by rw[U.block r (fq hr) aX];exact hr);refine gX (vr a0 (ks,vs) rfl ?_);have Q:=hC.j0 U (λb u=>.inl u) λb u=>yE (hC.lt b (by simp[u])) U.size;refine oB (oF [] C) λV Wa ea fa h=>oE h 0 rfl (vd ks vs) λWb h fb=>?_;have af:=Q.lt;have a2:gW dbk pb FD D F M k v frm to down w cb (V::Yc) Wb st SB zs:=Q.j0 (h.fr.mono λ_ h=>nomatch h) (λb u=>(zG.1 u).elim (λe=>.inr (by rw[e,ea];exact zM _)) .inl) λb u=>by rcases zG.1 u with rfl|u;exact fq (h.at (i:=0) rfl);exact yE (af b (by simp[u])) h.fr.size
 have av:=fq (h.at (i:=0) rfl);dsimp only at av;have ag:w.heap.size<=C.heap.size:=zL ae U.size;refine ad (V::Yc) (i+1) Wb st SB zs _ a2 (hY.stay _ C Wb [] aZ h.fr λb u=>nomatch u) O G (zL ag h.fr.size) λaw ax D1 D2 Wc Z st' SB' zs' ay a3 az aA a4 fc a5 a6=>?_;have aB:V∉Z:=λhm=>by
  have:=af V (by rcases zG.1 (a5 V hm) with h|h<;>simp[h]);omega
 have a7:Wc.heap[V]?=some (.c (vd ks vs) zt):=(by rw[fc.block V av aB];exact h.at (i:=0) rfl);have aC:V∉Yc:=λhm=>by have:=af V (by simp[hm]);omega
 refine tU a7 (vd aw ax) rfl rfl (zO rfl) λWd hd fd=>?_;have hn:∀b∈D1++D2,b∉[V]:=λb u hm=>by
  have:=aA b u;rw[zE.1 hm] at this;omega
 refine hX (i+1) _ Wd ⟨st',SB',zs',aw,ax,D1,D2,V,zt,rfl,G,hd,ay.j0 (fd.mono λb u _=>by rw[zE.1 u];simp) (λb u=>.inl (by simp[u])) (λb u=>yE (ay.lt b (by simp[u])) fd.size),hY.stay _ Wc Wd [V] a3 fd (λb u=>by rw[zE.1 u,ea];exact ag),λhl=>⟨(az hl).1.j0 fd λb u=>hn b (by simp[u]),(az hl).2.j0 fd λb u=>hn b (by simp[u])⟩,a4,aC,zL a6 fd.size,λb u=>zL (zL ag h.fr.size) (aA b u)⟩ oK;have aR:=hc;have:i=R.length:=oK;subst this;exact k1 W hI
end
end
end
section
open Go Go.Pt List
open Go.IntKind (wrap)
variable {a:HL fS} {b b':Bk} {d:HL jd} {down:Bool} {frm n s:Int} {i:gK} {l:List (HL jd)} {side:HL iT->gK}
def Jn{α κ:Type}[DecidableEq κ]{kf:α->κ}{a:α}{i:κ}:∀ {l:List α},(iS kf a l).find? (λx=>decide (kf x=i))=if kf a=i then some a else l.find? λx=>decide (kf x=i)
 | []=>by unfold iS;by_cases h:kf a=i;simp[h];simp[h]
 | x::r=>by unfold iS;by_cases e:kf x=kf a;rw[iP e,List.find?_cons,List.find?_cons,e];by_cases h:kf a=i;simp[h];simp[h];rw[iN e,List.find?_cons,List.find?_cons,Jn (l:=r)];by_cases h:kf a=i;rw[iP h,iP h,zU (by rw[<- h];exact e)];rw[iN h,iN h]
def BQ:eX (b.dZ a) i=if gB a=i then some a else eX b i:=Jn
def qqu:(jA b a s n).acc=b.acc/\(jA b a s n).jE=b.jE/\(jA b a s n).ki=b.ki/\(jA b a s n).due=b.due:=by unfold jA;split<;>exact⟨rfl,rfl,rfl,rfl⟩
def qvW{p:Pa}:(fI b p n).acc=((b.dZ p.1).dZ p.2.1).acc/\(fI b p n).jE=b.jE/\(fI b p n).ki=b.ki:=by unfold fI;obtain⟨h,u,C,_⟩:=qqu (b:=jA ((b.dZ p.1).dZ p.2.1) p.1 1 n) (a:=p.2.1) (s:=2) (n:=n);obtain⟨E,G,I,_⟩:=qqu (b:=(b.dZ p.1).dZ p.2.1) (a:=p.1) (s:=1) (n:=n);exact⟨h.trans E,u.trans G,C.trans I⟩
def tK (b:Bk) (d:HL jd):HL iT:=((iG b (qs d)).getD vI).1
def jn (side:HL iT->gK) (b:Bk) (i:gK) (l:List (HL jd)):Int:=(l.map λd=>if side (tK b d)=i then wv (gf (tK b d)) else 0).sum
structure tM (b:Bk):Prop where
 fit:∀ a∈b.acc,eQ fS a
 ER:∀ d∈b.due,eQ jd d
 due:t7 b.due
 has:∀ d∈b.due,∃ k x y,iG b (qs d)=some k/\tH k/\pV k=qs d/\eX b (gL k.1)=some x/\eX b (gM k.1)=some y/\gL k.1≠gM k.1
 mN:∀ i a,eX b i=some a->jn gL b i b.due<=wv (gO a)
 mO:∀ i a,eX b i=some a->jn gM b i b.due<=wv (gY a)
def IZ{a b:HL jd}:ou a b=true↔(nu a).1<(nu b).1\/(nu a).1=(nu b).1/\(nu a).2<(nu b).2:=yO
def quU{a b:HL jd}(h:ou a b=true):nu a≠nu b:=by rw[IZ] at h;intro e;rw[e] at h;omega
def t7.wG(h:t7 (d::l)):i9 d (d::l)=l:=by unfold i9;rw[filter_cons,iN oM];exact filter_eq_self.2 λx u=>yA λe=>quU ((yK.1 h).1 x u) e.symm
def t7.rN{f:HL jd->Int}{d:HL jd}:∀ {l:List (HL jd)},t7 l->d∈l->(l.map f).sum=f d+((i9 d l).map f).sum
 | x::r,h,u=>by
  by_cases e:x=d;subst e;rw[h.wG,xQ,sum_cons];have u:d∈r:=(zG.1 u).resolve_left λh=>e h.symm;have C:=yK.1 h;have:i9 d (x::r)=x::i9 d r:=by unfold i9;rw[filter_cons,iP (yA (quU (C.1 d u)))]
  rw[this,xQ,sum_cons,xQ,sum_cons,t7.rN (l:=r) C.2 u];omega
def t7.sub{l':List (HL jd)}(h:t7 l)(s:l'.Sublist l):t7 l':=List.Pairwise.sublist s h
def DE:(i9 d l).Sublist l:=filter_sublist
def t7.rest{r:List (HL jd)}(h:t7 l)(s:(d::r).Sublist l):r.Sublist (i9 d l):=by
 have:=s.filter λx=>decide (nu x≠nu d);rw[show (d::r).filter (λx=>decide (nu x≠nu d))=r from (h.sub s).wG] at this;exact this
def sv (a:HL fS):gK×gK:=((a.2.2.2.2.1,a.2.2.2.2.2.1),(a.2.2.2.2.2.2.2.2.1,a.2.2.2.2.2.2.2.2.2.1))
def qun{t:HL iT}{p:Pa}(u:eQ iT t)(C:eQ fS p.1)(E:eQ fS p.2.1)(O:wv (gf t)<=wv (gO p.1))(Q:wv (gf t)<=wv (gY p.2.1)): ∃q,gS t p=some q/\eQ fS q.1/\eQ fS q.2.1/\gB q.1=gB p.1/\gB q.2.1=gB p.2.1/\wv (gO q.1)=wv (gO p.1)-wv (gf t)/\gY q.1=gY p.1/\gO q.2.1=gO p.2.1/\wv (gY q.2.1)=wv (gY p.2.1)-wv (gf t)/\sv q.1=sv p.1/\sv q.2.1=sv p.2.1:=by have e1:qM (gO p.1) (gf t)=some (u9 (wv (gO p.1)-wv (gf t))):=iP O;have G:qM (gY p.2.1) (gf t)=some (u9 (wv (gY p.2.1)-wv (gf t))):=iP Q;have I:=(EQ (AN C) (uG u) e1).1;have J:=(EQ (AQ E) (uG u) G).1;obtain⟨q,h⟩:∃q,gS t p=some q:=(by unfold gS;rw[e1,Option.bind_some,G,Option.map_some];exact⟨_,rfl⟩);refine⟨q,h,(DN u C E h).1,(DN u C E h).2,?_⟩;unfold gS at h;rw[e1,Option.bind_some,G,Option.map_some] at h;cases h;generalize u9 (wv (gO p.1)-wv (gf t))=x at I⊢;generalize u9 (wv (gY p.2.1)-wv (gf t))=y at J⊢;rw[<- I,<- J];refine⟨?_,?_,?_,?_,?_,?_,?_,?_⟩<;>dsimp only<;>split<;>rfl
def nJ (b:Bk) (d:HL jd):Bk:=let q:=(gS (tK b d) (lg b (gL (tK b d)) (gM (tK b d)))).getD qU;(b.dZ q.1).dZ q.2.1
def FV:(mw b d n).acc=(nJ b d).acc/\(mw b d n).jE=b.jE/\(mw b d n).due=i9 d b.due/\(mw b d n).ki=(b.gj (gQ (tK b d),4)).ki:=by obtain⟨u,C,h⟩:=qvW (b:=b) (p:=(gS (tK b d) (lg b (gL (tK b d)) (gM (tK b d)))).getD qU) (n:=n);refine⟨u,C,?_,?_⟩;show i9 d (fI b _ n).due=_;rw[qom];show iS _ _ (fI b _ n).ki=_;unfold tK at h;rw[h];rfl
def Dp(h:b.acc=b'.acc)(i:gK):eX b i=eX b' i:=by unfold eX;rw[h]
def qry(h:b.jE=b'.jE)(i:gK):iG b i=iG b' i:=by unfold iG;rw[h]
def qB5(h:b.jE=b'.jE)(d:HL jd):tK b d=tK b' d:=by unfold tK;rw[qry h]
def qrb(h:b.jE=b'.jE)(i:gK)(l:List (HL jd)):jn side b i l=jn side b' i l:=by unfold jn;simp only[qB5 h]
def uh(h:eX b i=some a):a∈b.acc/\gB a=i:=⟨mem_of_find?_eq_some h,by simpa using List.find?_some h⟩
def qzG(h:∀d∈l,eQ iT (tK b d)):0<=jn side b i l:=by
 induction l with
 | nil=>exact Int.le_refl _
 | cons x r ih=>
  have:=ih λd u=>h d (zN _ u);have C:=yz (uG (h x JP));unfold jn at this⊢;rw[xQ,sum_cons];split<;>omega
structure Dq (b:Bk) (d:HL jd):Prop where
 ok:∃ k q,iG b (qs d)=some k/\gS k.1 (lg b (gL k.1) (gM k.1))=some q
 wq:∀ i a',eX (nJ b d) i=some a'->∃ a,eX b i=some a/\eQ fS a'/\wv (gO a')=wv (gO a)-(if gL (tK b d)=i then wv (gf (tK b d)) else 0)/\wv (gY a')=wv (gY a)-(if gM (tK b d)=i then wv (gf (tK b d)) else 0)/\sv a'=sv a
 all:∀ i a,eX b i=some a->∃ a',eX (nJ b d) i=some a'
 ki:gQ (tK b d)=qs d
 len:(nJ b d).acc.length=b.acc.length
def DD{α κ:Type}[DecidableEq κ]{kf:α->κ}{a:α}:∀ {l:List α},(l.find? λx=>decide (kf x=kf a))≠none->(iS kf a l).length=l.length
 | [],h=>absurd rfl h
 | x::r,h=>by unfold iS;by_cases e:kf x=kf a;rw[iP e];rfl;rw[iN e,yJ,yJ,DD (l:=r) (by rw[List.find?_cons,zU e] at h;exact h)]
def tM.x5(h:tM b)(hd:d∈b.due):Dq b d:=by
 obtain⟨k,x,y,hk,ab,ac,G,I,J⟩:=h.has d hd;have O:tK b d=k.1:=(by unfold tK;rw[hk];rfl);have ad:=h.fit x (uh G).1;have ae:=h.fit y (uh I).1;have nn:∀(side:HL iT->gK) i,0<=jn side b i (i9 d b.due):=λside i=>qzG λe he=>by obtain⟨k',_,_,af,Q,_⟩:=h.has e (DE.subset he);unfold tK;rw[af];exact Q.1
 have g1:wv (gf k.1)<=wv (gO x):=(by have C:=h.mN _ _ G;unfold jn at C;rw[h.due.rN hd] at C;have h2:=nn gL (gL k.1);unfold jn at h2;rw[O,iP rfl] at C;omega);have g2:wv (gf k.1)<=wv (gY y):=(by have C:=h.mO _ _ I;unfold jn at C;rw[h.due.rN hd] at C;have h2:=nn gM (gM k.1);unfold jn at h2;rw[O,iP rfl] at C;omega);have ep:lg b (gL k.1) (gM k.1)=(x,y,true,true):=(by unfold lg;rw[G,I];rfl);obtain⟨q,hq,f1,f2,i1,i2,w1,w2,w3,w4,w5,w6⟩:=qun (p:=(x,y,true,true)) ab.1 ad ae g1 g2;have w1:wv (gO q.1)=wv (gO x)-wv (gf k.1):=w1;have w2:gY q.1=gY x:=w2;have w3:gO q.2.1=gO y:=w3;have w4:wv (gY q.2.1)=wv (gY y)-wv (gf k.1):=w4;have R:gS k.1 (lg b (gL k.1) (gM k.1))=some q:=(by rw[ep];exact hq);have E:gB q.1=gL k.1:=i1.trans (uh G).2;have U:gB q.2.1=gM k.1:=i2.trans (uh I).2;have e1:nJ b d=(b.dZ q.1).dZ q.2.1:=(by unfold nJ;rw[O,R];rfl);have V:∀i,eX (nJ b d) i=if gM k.1=i then some q.2.1 else if gL k.1=i then some q.1 else eX b i:=λi=>by rw[e1,BQ,BQ,E,U]
 refine⟨⟨k,q,hk,R⟩,λi a' u=>?_,λi a u=>?_,by rw[O];exact ac,?_⟩
 ·rw[V] at u;rw[O];split at u
  ·next e=>
   cases u;subst e;exact⟨y,I,f2,by rw[iN J,w3];omega,by rw[iP rfl];exact w4,w6⟩
  ·next e=>
   split at u
   ·next e'=>
    cases u;subst e';exact⟨x,G,f1,by rw[iP rfl];exact w1,by rw[iN e,w2];omega,w5⟩
   ·next e'=>exact⟨a',u,h.fit _ (uh u).1,by rw[iN e'];omega,by rw[iN e];omega,rfl⟩
 rw[V];split;exact⟨_,rfl⟩;split;exact⟨_,rfl⟩;exact⟨a,u⟩;rw[e1];have l1:(b.dZ q.1).acc.length=b.acc.length:=DD (by rw[E];show eX b _≠none;rw[G];exact λh=>nomatch h);rw[<- l1];refine DD ?_;show eX (b.dZ q.1) (gB q.2.1)≠none;rw[BQ,E,U,iN J,I];exact λh=>nomatch h
def tM.one(h:tM b)(U:d∈b.due):tM (mw b d n):=by
 obtain⟨I,et,J,_⟩:=FV (b:=b) (d:=d) (n:=n);have t:=h.x5 U;have O:∀x∈i9 d b.due,x∈b.due:=λx E=>DE.subset E;refine⟨λa C=>?_,?_,?_,?_,?_,?_⟩;rw[I] at C;unfold nJ at C;obtain⟨k,q,V,hq⟩:=t.ok;have e:tK b d=k.1:=(by unfold tK;rw[V];rfl);rw[e,hq] at C;have hT:∀i,eQ fS ((eX b i).getD lC):=λi=>by
  cases E:eX b i with
  | none=>exact BN
  | some a=>exact h.fit a (uh E).1
 obtain⟨k',_,_,Q,R,_⟩:=h.has d U;rw[V] at Q;cases Q;have hf:=DN R.1 (hT _) (hT _) hq;rcases BY C with rfl|C;exact hf.2;rcases BY C with rfl|C;exact hf.1;exact h.fit a C;rw[J];exact λx E=>h.ER x (O x E);rw[J];exact h.due.sub DE;rw[J];intro x E;obtain⟨k,u,v,V,ab,ac,hu,hv,ad⟩:=h.has x (O x E);obtain⟨u',ae⟩:=t.all _ _ hu;obtain⟨v',af⟩:=t.all _ _ hv;exact⟨k,u',v',by rw[qry et];exact V,ab,ac,by rw[Dp I];exact ae,by rw[Dp I];exact af,ad⟩;intro i a C;rw[Dp I] at C;obtain⟨a0,G,_,hw,_,_⟩:=t.wq i a C
 have:=h.mN i a0 G;rw[J,qrb et,hw];unfold jn at this⊢;rw[h.due.rN U] at this;omega;intro i a C;rw[Dp I] at C;obtain⟨a0,G,_,_,hw,_⟩:=t.wq i a C;have:=h.mO i a0 G;rw[J,qrb et,hw];unfold jn at this⊢;rw[h.due.rN U] at this;omega
def Bk.many (b:Bk):Nat:=b.size+5*b.due.length
def qq5(h:d∈b.due):(mw b d n).many<=b.many/\b.size+5<=b.many:=by
 have E:(mw b d n).due.length<b.due.length:=(by rw[(FV (b:=b) (d:=d) (n:=n)).2.2.1];unfold i9;rw[length_filter_lt_length_iff_exists];exact⟨d,h,oM⟩);have z:=EZ (b:=b) (p:=(gS (tK b d) (lg b (gL (tK b d)) (gM (tK b d)))).getD qU) (n:=n);have u:=t8 (kf:=λx:gK×Int=>x.1) (a:=(gQ (tK b d),4)) (l:=(fI b ((gS (tK b d) (lg b (gL (tK b d)) (gM (tK b d)))).getD qU) n).ki);have G:(mw b d n).size<=b.size+5:=by
  have e:(mw b d n).size=(((fI b ((gS (tK b d) (lg b (gL (tK b d)) (gM (tK b d)))).getD qU) n).gj (gQ (tK b d),4)).kb d).size:=rfl;rw[e];have C:(i9 d (fI b ((gS (tK b d) (lg b (gL (tK b d)) (gM (tK b d)))).getD qU) n).due).length<=(fI b ((gS (tK b d) (lg b (gL (tK b d)) (gM (tK b d)))).getD qU) n).due.length:=DE.length_le;generalize fI b ((gS (tK b d) (lg b (gL (tK b d)) (gM (tK b d)))).getD qU) n=B at z u C⊢;unfold Bk.size Bk.kb Bk.gj at *;dsimp only at *;omega
 have I:0<b.due.length:=length_pos_of_mem h;unfold Bk.many;omega
def tM.yv{c:Nat}:∀ {l:List (HL jd)} {b:Bk} {n:Int},tM b->l.Sublist b.due->3*b.many+1<=c->pN c b l n/\tM (jo b l n)/\(jo b l n).many<=b.many
 | [],b,n,h,_,_=>⟨trivial,h,zM _⟩
 | d::r,b,n,h,C,I=>by have u:d∈b.due:=C.subset JP;have E:=qq5 (n:=n) u;have G:=(FV (b:=b) (d:=d) (n:=n)).2.2.1;have ih:=tM.yv (c:=c) (l:=r) (b:=mw b d n) (n:=(n+1)%18446744073709551616) (h.one u) (by rw[G];exact h.due.rest C) oK;exact⟨⟨⟨u,(h.x5 u).ok,oK⟩,ih.1⟩,ih.2.1,zL ih.2.2 E.1⟩
def qss{J0 most:Int}:(k5 l J0 most).Sublist l:=(take_sublist _ _).trans filter_sublist
abbrev qu:List Cell:=[.b,.b,.w,.w,.u,.b,.int .u16]
abbrev Pn:=HL qu
def sI (x:Pn):Int:=x.1
def sM (x:Pn):Int:=x.2.1
def Hz (x:Pn):gK:=(x.2.2.1,x.2.2.2.1)
def pnT (x:Pn):Int:=x.2.2.2.2.1
def tt (x:Pn):Int:=x.2.2.2.2.2.1
def Av (x:Pn):Int:=x.2.2.2.2.2.2
def Er (x:Int):Int:=bits .or .u16 x 2
def qx4{x:Int}(C:0<=x/\x<65536):(0<=Er x/\Er x<65536)/\hasB (Er x) 2=true:=by
 obtain⟨n,rfl⟩:∃n:Nat,x=n:=⟨x.toNat,oK⟩;have e:Er (n:Int)=wrap .u16 ((BitVec.ofInt 16 (n:Int)||| BitVec.ofInt 16 ((2:Nat):Int)).toNat:Nat):=rfl;rw[BitVec.toNat_or,Ek n oK,Ek 2 oN] at e;have h:n||| 2<2^16:=Nat.or_lt_two_pow oK oN;rw[vp _ ⟨Int.natCast_nonneg _,Int.ofNat_lt.2 h⟩] at e;rw[e];refine⟨oK,?_⟩;unfold hasB;have u:(n||| 2).testBit 1=true:=(by rw[Nat.testBit_or];simp[Nat.testBit]);rw[Nat.testBit_eq_decide_div_mod_eq] at u;have:=zC u;exact yA oK
def rU (n i:Nat) (st:Int) (x:Pn):HL iT:=((1:Int),(i:Int),(0:Int),sI x%(n:Int)+1,(0:Int),sM x%(n:Int)+1,(Hz x).1,(Hz x).2,(0:Int),(0:Int),(0:Int),pnT x,(0:Int),(0:Int),Er (Av x),st)
def qz (t:HL iT) (p:Pa):Option Pa:=
 (mM (gO p.1) (gf t)).bind λx=>(mM (gY p.2.1) (gf t)).map λy=>
  (let d:=md x p.1;if hasB (ku t) 64 then kU (wQ (jv d) 16) d else d,let c:=mj y p.2.1;if hasB (ku t) 128 then kU (wQ (jv c) 16) c else c,p.2.2)
def sF (b:Bk) (t:HL iT) (q:Pa):Bk:=
 let h:=(((b.dZ q.1).dZ q.2.1).gH (t,gf t)).gj (gQ t,1)
 match pU t with
 | none=>h
 | some e=>h.jZ (e,li t,gQ t)
def mI (s:Int) (x:Pn):Int:=s+(1+tt x)
def mp (n i:Nat) (s:Int) (b:Bk) (x:Pn):Bk:=
 let t:=rU n i (mI s x) x
 match qz t (lg b (gL t) (gM t)) with
 | none=>b
 | some q=>if sI x%(n:Int)=sM x%(n:Int) then b else sF b t q
def ph (n:Nat):Nat->Int->Bk->List Pn->Bk
 | _,_,b,[]=>b
 | i,s,b,x::r=>ph n (i+1) (mI s x) (mp n i s b x) r
def pZ (i:Nat) (a:HL fS):HL fS:=((0:Int),(i:Int)+1,a.2.2)
def mZ (l:List (HL fS)):List (HL fS):=l.mapIdx pZ
def wW (l:List (HL fS)):Bk:=⟨mZ l,[],[],[],[],[],[],none,0⟩
def jm (l:List (HL fS)) (ps:List Pn):Bk:=if l.length<2 then wW l else ph l.length 0 1 (wW l) ps
structure tq (n i:Nat) (s:Int) (b:Bk):Prop where
 snd:tM b
 acc:∀ j:Nat,j<n->∃ a,eX b (0,(j:Int)+1)=some a
 ids:∀ d∈b.due,∃ j:Nat,j<i/\qs d=(1,(j:Int))
 np:∀ d∈b.due,(nu d).2<=s
 len:b.acc.length=n
 many:b.many<=n+10*i
 st:1<=s/\s<=1+256*i
def qoS{t:HL iT}{p q:Pa}(G:eQ iT t)(I:eQ fS p.1)(J:eQ fS p.2.1)(h:qz t p=some q): eQ fS q.1/\eQ fS q.2.1/\gB q.1=gB p.1/\gB q.2.1=gB p.2.1/\wv (gO q.1)=wv (gO p.1)+wv (gf t)/\gY q.1=gY p.1/\gO q.2.1=gO p.2.1/\wv (gY q.2.1)=wv (gY p.2.1)+wv (gf t):=by
 unfold qz at h;obtain⟨x,Q,h⟩:=Option.bind_eq_some_iff.1 h;obtain⟨y,R,rfl⟩:=yU.1 h;obtain⟨e1,o1⟩:=qrt (AN I) (uG G) Q;obtain⟨U,V⟩:=qrt (AQ J) (uG G) R;have C:=qrm o1 I;have E:=qrl V J;have u:∀ {f:Int},0<=f/\f<65536->0<=wQ f 16/\wQ f 16<65536:=λ{f} O=>by
  have:=qz8 O;unfold wQ;split;exact O
  ·next e=>
   have:=this.2 (oQ e);omega
 rw[<- e1,<- U];refine⟨?_,?_,?_,?_,?_,?_,?_,?_⟩<;>dsimp only<;>split;exact FB (u (vc C)) C;exact C;exact FB (u (vc E)) E;exact E;all_goals rfl
def DP{x:HL jd}:x∈kX d l↔x=d\/x∈l:=by rw[D8.mem_iff,zG]
def qk9{d:HL jd}:∀ {l:List (HL jd)},t7 l->(∀x∈l,nu x≠nu d)->t7 (kX d l)
 | [],_,_=>pairwise_singleton _ _
 | x::r,h,E=>by have C:=yK.1 h;unfold kX;by_cases e:ou d x=true;rw[iP e];refine yK.2 ⟨λy u=>?_,h⟩;rcases zG.1 u with rfl|u;exact e;have G:=C.1 y u;rw[IZ] at e G⊢;omega;rw[iN e];refine yK.2 ⟨λy u=>?_,qk9 C.2 λy u=>E y (zN _ u)⟩;rcases DP.1 u with rfl|u;have I:=E x JP;rw[IZ] at e⊢;have G:¬((nu x).1=(nu y).1/\(nu x).2=(nu y).2):=λh=>I (Prod.ext h.1 h.2);omega;exact C.1 y u
def IN{n i:Nat}{x:Pn}(O:2<=n/\n<=8)(hi:i<1000)(u:lA s)(C:eQ qu x):eQ iT (rU n i s x):=by obtain⟨Q,R,E,G,I,U,J⟩:=C;have h:(0:Int)<=Av x/\Av x<=65535:=J;have o:=(qx4 (x:=Av x) ⟨h.1,oK⟩).1;have V:0<=sI x%(n:Int)/\sI x%(n:Int)<n:=⟨Int.emod_nonneg _ oK,Int.emod_lt_of_pos _ oK⟩;have m2:0<=sM x%(n:Int)/\sM x%(n:Int)<n:=⟨Int.emod_nonneg _ oK,Int.emod_lt_of_pos _ oK⟩;exact⟨tc (x:=1) ⟨oN,oN⟩,tc (x:=(i:Int)) ⟨oK,oK⟩,rG,tc (x:=sI x%(n:Int)+1) ⟨oK,oK⟩,rG,tc (x:=sM x%(n:Int)+1) ⟨oK,oK⟩,E,G,rG,rG,rG,I,show (0:Int)<=0/\(0:Int)<=4294967295 from⟨oN,oN⟩,AR (x:=0) ⟨oN,oN⟩,AR o,tc u⟩
def IC{side:HL iT->gK}{b:Bk}{i:gK}{d:HL jd}:∀ {l:List (HL jd)},jn side b i (kX d l)=(if side (tK b d)=i then wv (gf (tK b d)) else 0)+jn side b i l
 | []=>by unfold kX jn;simp
 | x::r=>by have ih:=IC (side:=side) (b:=b) (i:=i) (d:=d) (l:=r);unfold kX;unfold jn at ih⊢;split;rw[xQ,sum_cons];rw[xQ,sum_cons,ih,xQ,sum_cons];omega
def qyF{k:Kp}:iG (b.gH k) i=if pV k=i then some k else iG b i:=Jn
def qnk(h:∀d∈l,tK b d=tK b' d):jn side b i l=jn side b' i l:=by unfold jn;rw[map_congr_left λd u=>by rw[h d u]]
def tq.made{n i:Nat}{x:Pn}{q:Pa}(h:tq n i s b)(hn:2<=n/\n<=8)(hi:i<25)(hx:eQ qu x)(an:sI x%(n:Int)≠sM x%(n:Int))(hq:qz (rU n i (mI s x) x) (lg b (gL (rU n i (mI s x) x)) (gM (rU n i (mI s x) x)))=some q):tq n (i+1) (mI s x) (sF b (rU n i (mI s x) x) q):=by
 have aY:(0:Int)<=tt x/\tt x<=255:=hx.2.2.2.2.2.1;have aZ:=h.st;have es:mI s x=s+(1+tt x):=rfl;have ao:lA (mI s x):=⟨oK,oK⟩;have Q:=IN (i:=i) hn oK ao hx;have eI:gQ (rU n i (mI s x) x)=(1,(i:Int)):=rfl;have eN:li (rU n i (mI s x) x)=mI s x:=rfl;have m1:0<=sI x%(n:Int)/\sI x%(n:Int)<n:=⟨Int.emod_nonneg _ oK,Int.emod_lt_of_pos _ oK⟩;have m2:0<=sM x%(n:Int)/\sM x%(n:Int)<n:=⟨Int.emod_nonneg _ oK,Int.emod_lt_of_pos _ oK⟩;have eD:gL (rU n i (mI s x) x)=(0,(((sI x%(n:Int)).toNat:Nat):Int)+1):=(by rw[Int.toNat_of_nonneg m1.1];rfl);have eC:gM (rU n i (mI s x) x)=(0,(((sM x%(n:Int)).toNat:Nat):Int)+1):=(by rw[Int.toNat_of_nonneg m2.1];rfl);obtain⟨u,hu⟩:=h.acc (sI x%(n:Int)).toNat oK;obtain⟨v,hv⟩:=h.acc (sM x%(n:Int)).toNat oK;have R:gL (rU n i (mI s x) x)≠gM (rU n i (mI s x) x):=by
  rw[eD,eC];intro e;have:=Kg Prod.snd e;dsimp only at this;omega
 rw[<- eD] at hu;rw[<- eC] at hv;generalize rU n i (mI s x) x=t at Q eI eN R hu hv hq⊢;clear eD eC;have ep:lg b (gL t) (gM t)=(u,v,true,true):=(by unfold lg;rw[hu,hv];rfl);rw[ep] at hq;obtain⟨f1,f2,i1,i2,w1,w2,w3,w4⟩:=qoS (p:=(u,v,true,true)) Q (h.snd.fit u (uh hu).1) (h.snd.fit v (uh hv).1) hq;have ai:gB q.1=gL t:=i1.trans (uh hu).2;have ap:gB q.2.1=gM t:=i2.trans (uh hv).2;have a9:=yz (uG Q);have w1:wv (gO q.1)=wv (gO u)+wv (gf t):=w1;have w2:gY q.1=gY u:=w2;have w3:gO q.2.1=gO v:=w3;have w4:wv (gY q.2.1)=wv (gY v)+wv (gf t):=w4;have aK:∀j,eX ((b.dZ q.1).dZ q.2.1) j=if gM t=j then some q.2.1 else if gL t=j then some q.1 else eX b j:=λj=>by rw[BQ,BQ,ai,ap]
 have ac:((b.dZ q.1).dZ q.2.1).acc.length=b.acc.length:=(by have l1:(b.dZ q.1).acc.length=b.acc.length:=DD (by rw[ai];show eX b _≠none;rw[hu];exact λh=>nomatch h);rw[<- l1];refine DD ?_;show eX (b.dZ q.1) (gB q.2.1)≠none;rw[BQ,ai,ap,iN R,hv];exact λh=>nomatch h);have aq:∀a∈((b.dZ q.1).dZ q.2.1).acc,eQ fS a:=λa E=>by rcases BY E with rfl|E;exact f2;rcases BY E with rfl|E;exact f1;exact h.snd.fit a E
 generalize O:(((b.dZ q.1).dZ q.2.1).gH (t,gf t)).gj (gQ t,1)=C;have a1:C.acc=((b.dZ q.1).dZ q.2.1).acc:=(by rw[<- O];rfl);have V:C.due=b.due:=(by rw[<- O];rfl);have t1:∀j,iG C j=if gQ t=j then some (t,gf t) else iG b j:=λj=>by rw[<- O];exact qyF (b:=(b.dZ q.1).dZ q.2.1)
 have z1:C.size<=b.size+4:=(by have y1:=t8 (kf:=pV) (a:=(t,gf t)) (l:=b.jE);have y2:=t8 (kf:=λx:gK×Int=>x.1) (a:=(gQ t,1)) (l:=b.ki);have y3:=t8 (kf:=qv) (a:=zi t) (l:=b.mN);have y4:=t8 (kf:=qv) (a:=Cf t) (l:=b.mO);have e:C.size=((b.dZ q.1).dZ q.2.1).acc.length+(iS pV (t,gf t) b.jE).length+(iS (λx:gK×Int=>x.1) (gQ t,1) b.ki).length+b.due.length+(iS qv (zi t) b.mN).length+(iS qv (Cf t) b.mO).length+b.iI.length+b.last.toList.length:=(by rw[<- O];rfl);rw[e,ac];unfold Bk.size;omega);have eM:sF b t q=match pU t with
  | none=>C
  | some e=>C.jZ (e,li t,gQ t):=by rw[<- O];rfl
 clear O;have ar:∀d∈b.due,gQ t≠qs d:=λd I e=>by
  obtain⟨j,hj,e2⟩:=h.ids d I;rw[eI,e2] at e;have:=Kg Prod.snd e;dsimp only at this;omega
 have au:∀d∈b.due,tK C d=tK b d:=λd I=>by unfold tK;rw[t1,iN (ar d I)]
 have aa:∀j,eX C j=if gM t=j then some q.2.1 else if gL t=j then some q.1 else eX b j:=λj=>by rw[Dp a1,aK]
 have U:∀j a,eX b j=some a->∃a',eX C j=some a':=λj a E=>by rw[aa];split;exact⟨_,rfl⟩;split;exact⟨_,rfl⟩;exact⟨a,E⟩
 have av:∀j a,eX C j=some a->∃a0,eX b j=some a0/\wv (gO a)=wv (gO a0)+(if gL t=j then wv (gf t) else 0)/\wv (gY a)=wv (gY a0)+(if gM t=j then wv (gf t) else 0):=λj a E=>by
  rw[aa] at E;split at E
  ·next e=>
   cases E;subst e;exact⟨v,hv,by rw[iN R,w3];omega,by rw[iP rfl];exact w4⟩
  ·next e=>
   split at E
   ·next e'=>
    cases E;subst e';exact⟨u,hu,by rw[iP rfl];exact w1,by rw[iN e,w2];omega⟩
   ·next e'=>exact⟨a,E,by rw[iN e'];omega,by rw[iN e];omega⟩
 have ad:∀d∈b.due,∃k x y,iG C (qs d)=some k/\tH k/\pV k=qs d/\eX C (gL k.1)=some x/\eX C (gM k.1)=some y/\gL k.1≠gM k.1:=λd I=>by obtain⟨k,x,y,hk,aM,aN,hx,G,an⟩:=h.snd.has d I;obtain⟨x',aO⟩:=U _ _ hx;obtain⟨y',aP⟩:=U _ _ G;exact⟨k,x',y',by rw[t1,iN (ar d I)];exact hk,aM,aN,aO,aP,an⟩
 have qP:∀j:Nat,j<n->∃a,eX C (0,(j:Int)+1)=some a:=λj hj=>by obtain⟨a,E⟩:=h.acc j hj;exact U _ _ E
 have ae:C.acc.length=n:=(by rw[a1,ac];exact h.len);have hm:=h.many;have af:∀a∈C.acc,eQ fS a:=(by rw[a1];exact aq);have aw:∀j a,eX C j=some a->jn gL C j b.due+(if gL t=j then wv (gf t) else 0)<=wv (gO a):=λj a E=>by
  obtain⟨a0,ak,e1,_⟩:=av j a E;have:=h.snd.mN j a0 ak;rw[qnk au,e1];omega
 have ax:∀j a,eX C j=some a->jn gM C j b.due+(if gM t=j then wv (gf t) else 0)<=wv (gY a):=λj a E=>by
  obtain⟨a0,ak,_,e1⟩:=av j a E;have:=h.snd.mO j a0 ak;rw[qnk au,e1];omega
 rw[eM];have ay:∀(p:Prop) [Decidable p],0<=if p then wv (gf t) else 0:=λp _=>by split<;>omega
 cases I:pU t with
 | none=>
  show tq n (i+1) (mI s x) C;refine⟨⟨af,by rw[V];exact h.snd.ER,by rw[V];exact h.snd.due,by rw[V];exact ad,λj a E=>?_,λj a E=>?_⟩,qP,by rw[V];exact λd I=>(h.ids d I).elim λj hj=>⟨j,oK,hj.2⟩,by rw[V];exact λd I=>by have:=h.np d I;omega,ae,?_,oK,oK⟩;rw[V];have:=aw j a E;have:=ay (gL t=j);omega;rw[V];have:=ax j a E;have:=ay (gM t=j);omega;unfold Bk.many at hm⊢;rw[V];omega
 | some e=>
  have he:lA e:=(by unfold pU at I;have hN:=Q.2.2.2.2.2.2.2.2.2.2.2.2.2.2.2;have hO:=Q.2.2.2.2.2.2.2.2.2.2.2.1;have hN:(0:Int)<=li t/\li t<=18446744073709551615:=hN;have hO:(0:Int)<=mG t/\mG t<=4294967295:=hO;split at I;cases I;split at I;cases I;exact⟨oK,oK⟩;cases I);show tq n (i+1) (mI s x) (C.jZ (e,li t,gQ t));generalize al:((e,li t,gQ t):HL jd)=J;have k0:qs J=gQ t:=(by rw[<- al];rfl);have k1:(nu J).2=mI s x:=(by rw[<- al];exact eN);have f0:eQ jd J:=(by rw[<- al];exact⟨tc he,Q.2.2.2.2.2.2.2.2.2.2.2.2.2.2.2,Q.1,Q.2.1⟩);have nk:∀y∈b.due,nu y≠nu J:=λy G e=>by
   have:=h.np y G;rw[e] at this;omega
  have ec:i9 J b.due=b.due:=filter_eq_self.2 λy G=>yA (nk y G);have e3:(C.jZ J).due=kX J b.due:=(by show kX J (i9 J C.due)=_;rw[V,ec]);have az:tK C J=t:=(by unfold tK;rw[k0,t1,iP rfl];rfl);have aA:∀d,tK (C.jZ J) d=tK C d:=λd=>rfl;have u1:eX C (gL t)=some q.1:=(by rw[aa,iN R.symm,iP rfl]);have u2:eX C (gM t)=some q.2.1:=(by rw[aa,iP rfl]);refine⟨⟨af,?_,?_,?_,λj a E=>?_,λj a E=>?_⟩,qP,?_,?_,ae,?_,oK,oK⟩;rw[e3];exact λy G=>(DP.1 G).elim (λe=>by rw[e];exact f0) (h.snd.ER y);rw[e3];exact qk9 h.snd.due nk;rw[e3];intro y G;rcases DP.1 G with rfl|G;exact⟨(t,gf t),q.1,q.2.1,by show iG C (qs y)=_;rw[k0,t1,iP rfl],⟨Q,Q.2.2.2.2.2.2.1,Q.2.2.2.2.2.2.2.1⟩,k0.symm,u1,u2,R⟩;exact ad y G;rw[e3,IC,aA,az];have:=aw j a E;have e4:jn gL (C.jZ J) j b.due=jn gL C j b.due:=rfl;omega;rw[e3,IC,aA,az];have:=ax j a E;have e4:jn gM (C.jZ J) j b.due=jn gM C j b.due:=rfl;omega;rw[e3];intro y G;rcases DP.1 G with rfl|G;exact⟨i,oK,k0.trans eI⟩;exact (h.ids y G).elim λj hj=>⟨j,oK,hj.2⟩;rw[e3];intro y G;rcases DP.1 G with rfl|G;omega;have:=h.np y G;omega;have l3:(kX J b.due).length=b.due.length+1:=(by rw[D8.length_eq];rfl);have z3:(C.jZ J).size=C.size+1:=by have e5:(C.jZ J).size=C.acc.length+C.jE.length+C.ki.length+(C.jZ J).due.length+C.mN.length+C.mO.length+C.iI.length+C.last.toList.length:=rfl;have e6:C.size=C.acc.length+C.jE.length+C.ki.length+C.due.length+C.mN.length+C.mO.length+C.iI.length+C.last.toList.length:=rfl;rw[e5,e3,l3,e6,V];omega
  unfold Bk.many at hm⊢;rw[z3,e3,l3];omega
def tq.mono{n i:Nat}{u:Int}(h:tq n i s b)(G:s<=u)(I:u<=s+256):tq n (i+1) u b:=
 ⟨h.snd,h.acc,λd C=>(h.ids d C).elim λj E=>⟨j,oK,E.2⟩,λd C=>by have:=h.np d C;omega,h.len,by have:=h.many;omega,by have:=h.st;omega,by have:=h.st;omega⟩
def tq.wq{n i:Nat}{x:Pn}(h:tq n i s b)(C:2<=n/\n<=8)(hi:i<25)(u:eQ qu x):tq n (i+1) (mI s x) (mp n i s b x):=by
 have E:(0:Int)<=tt x/\tt x<=255:=u.2.2.2.2.2.1;have G:mI s x=s+(1+tt x):=rfl;unfold mp;dsimp only;split;exact h.mono oK oK
 ·next q hq=>
  split;exact h.mono oK oK
  ·next hne=>exact h.made C hi u hne hq
def qxA{l:List (HL fS)}{j:Nat}(h:j<l.length):∃a,(mZ l).find? (λx=>decide (gB x=(0,(j:Int)+1)))=some a:=by
 have C:pZ j l[j]∈mZ l:=mem_mapIdx.2 ⟨j,h,rfl⟩;cases u:(mZ l).find? (λx=>decide (gB x=(0,(j:Int)+1))) with
 | some a=>exact⟨a,rfl⟩
 | none=>
  rw[List.find?_eq_none] at u;exact absurd (by simp[gB,pZ]) (u _ C)
def qtt{i:Nat}(hi:i<1000)(h:eQ fS a):eQ fS (pZ i a):=⟨rG,tc (x:=(i:Int)+1) ⟨oK,oK⟩,h.2.2⟩
def tq.start{l:List (HL fS)}(O:l.length<=8)(G:∀a∈l,eQ fS a):tq l.length 0 1 (wW l):=by
 have e:(wW l).acc.length=l.length:=length_mapIdx;have nn:∀a,eQ fS a->0<=wv (gO a)/\0<=wv (gY a):=λa h=>⟨(yz (AN h)).1,(yz (AQ h)).1⟩;have u:∀a∈(wW l).acc,eQ fS a:=λa E=>by obtain⟨i,I,rfl⟩:=mem_mapIdx.1 E;exact qtt oK (G _ (zX I))
 refine⟨⟨u,(λd C=>nomatch C),List.Pairwise.nil,(λd C=>nomatch C),λi a E=>(nn a (u a (uh E).1)).1,λi a E=>(nn a (u a (uh E).1)).2⟩,λj J=>qxA J,(λd C=>nomatch C),(λd C=>nomatch C),e,?_,oN,oN⟩;unfold Bk.many Bk.size;rw[e];show l.length+0+0+0+0+0+0+0+5*0<=_;omega
section
def putAt {α:Type} (p:α->Bool) (x:α) (l:List α):List α:=(l.reverse.dropWhile p).reverse++x::(l.reverse.takeWhile p).reverse
section
variable {α:Type} {p:α->Bool} {x:α} {l A B:List α} {lt:α->α->Prop}
def qzK(C:∀y∈B,p y=true)(G:∀h z,A=h++[z]->p z=false):putAt p x (A++B)=A++x::B:=by
 have E:(A++B).reverse.takeWhile p=B.reverse/\(A++B).reverse.dropWhile p=A.reverse:=by rw[reverse_append,takeWhile_append_of_pos λy u=>C y (mem_reverse.1 u),dropWhile_append_of_pos λy u=>C y (mem_reverse.1 u)];rcases eq_nil_or_concat A with rfl|⟨h,z,rfl⟩;simp;rw[concat_eq_append,reverse_append,reverse_singleton,singleton_append,takeWhile_cons,dropWhile_cons,G h z (by rw[concat_eq_append])];simp
 unfold putAt;rw[E.1,E.2,reverse_reverse,reverse_reverse]
def qnl(p:α->Bool)(x:α)(l:List α):∃A B,l=A++B/\putAt p x l=A++x::B/\(∀y∈B,p y=true)/\∀h z,A=h++[z]->p z=false:=by
 refine⟨(l.reverse.dropWhile p).reverse,(l.reverse.takeWhile p).reverse,?_,rfl,λy u=>?_,λh z e=>?_⟩;rw[<- reverse_append,takeWhile_append_dropWhile,reverse_reverse];have:=all_takeWhile (l:=l.reverse) (p:=p);exact all_eq_true.1 this y (mem_reverse.1 u);have C:l.reverse.dropWhile p=z::h.reverse:=by rw[<- reverse_reverse (l.reverse.dropWhile p),e,reverse_append];rfl
 have:=List.head?_dropWhile_not p l.reverse;rw[C] at this;simpa using this
def EO:(putAt p x l).Perm (x::l):=by obtain⟨A,B,rfl,e,_⟩:=qnl p x l;rw[e];exact perm_middle
def qtf(O:l.Pairwise lt)(Q:∀a b c,lt a b->lt b c->lt a c)(R:∀y∈l,p y=true->lt x y)(E:∀y∈l,p y=false->lt y x):(putAt p x l).Pairwise lt:=by
 obtain⟨A,B,rfl,e,U,G⟩:=qnl p x l;rw[e];obtain⟨u,V,h3⟩:=pairwise_append.1 O;refine pairwise_append.2 ⟨u,yK.2 ⟨λy I=>R y (zI _ I) (U y I),V⟩,λa h b C=>?_⟩;have ax:lt a x:=by rcases eq_nil_or_concat A with rfl|⟨A',z,rfl⟩;cases h;rw[concat_eq_append] at h u G E;have J:=E z oM (G A' z rfl);rcases zD.1 h with h|h;exact Q _ _ _ ((pairwise_append.1 u).2.2 a h z oM) J;rw[zE.1 h];exact J
 rcases zG.1 C with rfl|C;exact ax;exact h3 a h b C
end
def ls (r:HL k6):Int:=mL (kI r)
def mg (n:Int) (down:Bool) (y:HL k6):Bool:=decide (ls y>n) != down
def mz (i:gK) (frm to:Int) (x:Ln):Bool:=decide (x.1=i/\frm<=ls x.2/\ls x.2<=to)
def kj (l:List Ln) (i:gK) (frm to:Int) (down:Bool):List (HL k6):=(l.filter (mz i frm to)).foldl (λh x=>putAt (mg (ls x.2) down) x.2 h) []
def Bp (x:Ln):Key×Key:=(gP x.1 (ls x.2),qQ x.2)
def qx (down:Bool) (a b:HL k6):Prop:=if down then ls b<ls a else ls a<ls b
def qph{down:Bool}:∀ {l:List Ln} {out:List (HL k6)},(out.map ls++l.map λx=>ls x.2).Nodup->out.Pairwise (qx down)-> (l.foldl (λout x=>putAt (mg (ls x.2) down) x.2 out) out).Pairwise (qx down)/\(l.foldl (λout x=>putAt (mg (ls x.2) down) x.2 out) out).Perm (out++l.map (·.2))
 | [],out,_,G=>⟨G,by rw[map_nil,xJ];exact .refl _⟩
 | x::r,out,O,G=>by
  rw[foldl_cons];have u:(putAt (mg (ls x.2) down) x.2 out).Perm (x.2::out):=EO;have C:∀y∈out,ls y≠ls x.2:=λy E=>(yN.1 O).2.2 _ (zZ E) _ oM;have I:(putAt (mg (ls x.2) down) x.2 out).Pairwise (qx down):=by
   refine qtf G (λa b c Q R=>?_) (λy E h=>?_) λy E h=>?_;unfold qx at *
   cases down<;>simp at *<;>omega
   have:=C y E;unfold qx mg at *
   cases down<;>simp at *<;>omega
   have:=C y E;unfold qx mg at *
   cases down<;>simp at *<;>omega
  have J:((putAt (mg (ls x.2) down) x.2 out).map ls++r.map λx=>ls x.2).Nodup:=(by refine (List.Perm.nodup_iff ?_).2 O;rw[xQ];exact ((u.map ls).append_right _).trans perm_middle.symm);obtain⟨Q,R⟩:=qph (l:=r) J I;refine⟨Q,R.trans ?_⟩;rw[xQ];exact (u.append_right _).trans perm_middle.symm
def qys{l:List Ln}{to:Int}:(kj l i frm to down).length<=l.length:=by
 have:∀(k:List Ln) (h:List (HL k6)),(k.foldl (λh x=>putAt (mg (ls x.2) down) x.2 h) h).length=h.length+k.length:=by
  intro k;induction k with
  | nil=>intro h;rfl
  | cons x k ih=>intro h;rw[foldl_cons,ih,EO.length_eq,yJ,yJ];omega
 unfold kj;rw[this,xM,xU];exact length_filter_le _ _
def qyt{l:List Ln}{to:Int}{r:HL k6}(h:r∈kj l i frm to down):∃x∈l,x.2=r:=by
 have:∀(k:List Ln) (u:List (HL k6)),r∈k.foldl (λu x=>putAt (mg (ls x.2) down) x.2 u) u->r∈u\/∃x∈k,x.2=r:=by
  intro k;induction k with
  | nil=>exact λu h=>.inl h
  | cons x k ih=>
   intro u h;rw[foldl_cons] at h;rcases ih _ h with h|⟨y,C,e⟩;rcases zG.1 (EO.mem_iff.1 h) with rfl|h;exact .inr ⟨x,JP,rfl⟩;exact .inl h;exact .inr ⟨y,zN _ C,e⟩
 rcases this _ [] h with h|⟨x,E,e⟩;cases h;exact⟨x,(mem_filter.1 E).1,e⟩
def qAX{x y:Key}(u:¬gq x y)(h:¬gq y x):x=y:=FC (by unfold gq at u h;rw[vU x y] at h;omega)
def qBa{a:gK}{to:Int}(hi:ln i)(G:ln a)(I:lA frm)(J:lA to)(E:lA n){v:Key}:wS (gP i frm) (gP i to) (gP a n,v)=decide (a=i/\frm<=n/\n<=to):=by rw[JQ,qBA,yO];unfold gP;dsimp only;rw[Fk E I (by rw[me,me]),Fk J E (by rw[me,me])];constructor;rintro⟨u,C⟩;have e:iR a=iR i:=qAX (λh=>u (.inl h)) λh=>C (.inl h);have:a=i:=ln.inj G hi e;exact⟨this,by have:¬n<frm:=λh=>u (.inr ⟨e,h⟩);omega,by have:¬to<n:=λh=>C (.inr ⟨e.symm,h⟩);omega⟩;rintro⟨rfl,u,C⟩;exact⟨λh=>h.elim (Ii _) λh=>oK,λh=>h.elim (Ii _) λh=>oK⟩
def qwG{L:gJ}{l:List Ln}{to:Int}(h:mP ui L l)(hi:ln i)(hf:lA frm)(ht:lA to): iw down (gP i frm) (gP i to) L=(kj l i frm to down).map λr=>(gP i (ls r),qQ r):=by
 have R:∀x∈l,ln x.1/\lA (ls x.2):=λx u=>⟨(h.2 x u).1,pS (ui.GP x (h.2 x u)).2⟩;have hL:(L.filter (wS (gP i frm) (gP i to))).Perm ((l.filter (mz i frm to)).map Bp):=by
  have:=h.1.perm.filter (wS (gP i frm) (gP i to));refine this.trans ?_;rw[filter_map];have:l.filter (wS (gP i frm) (gP i to)∘λa=>(ui.g (ui.key a),ui.val a))=l.filter (mz i frm to):=filter_congr λx u=>qBa hi (R x u).1 hf ht (R x u).2;rw[this];exact .refl _
 have hS:(L.filter (wS (gP i frm) (gP i to))).Pairwise λx y=>gq x.1 y.1:=by
  have:=h.1.sort;unfold fT gz eh at this;exact (pairwise_map.1 this).sublist filter_sublist
 have C:∀x∈l.filter (mz i frm to),x.1=i/\lA (ls x.2):=λx u=>⟨(zC (mem_filter.1 u).2).1,(R x (mem_filter.1 u).1).2⟩;have U:((l.filter (mz i frm to)).map λx=>ls x.2).Nodup:=(by have hk:(l.map sR).Nodup:=h.nodup;have E:((l.filter (mz i frm to)).map sR).Nodup:=hk.sublist (filter_sublist.map _);have e:(l.filter (mz i frm to)).map sR=((l.filter (mz i frm to)).map λx=>ls x.2).map λn=>(i,n):=(by rw[map_map];exact map_congr_left λx u=>Prod.ext (C x u).1 rfl);rw[e] at E;exact E.of_map _ λa b h e=>h (by rw[e]));obtain⟨q1,V⟩:=qph (down:=down) (l:=l.filter (mz i frm to)) (out:=[]) (oQ U) .nil;rw[xK] at V;have hR:((kj l i frm to down).map λr=>(gP i (ls r),qQ r)).Perm ((l.filter (mz i frm to)).map Bp):=(by refine (V.map _).trans ?_;rw[map_map];refine List.Perm.of_eq (map_congr_left λx u=>?_);unfold Bp;rw[(C x u).1];rfl);have Q:∀r∈kj l i frm to down,lA (ls r):=λr hr=>by obtain⟨x,u,rfl⟩:=mem_map.1 (V.mem_iff.1 hr);exact (C x u).2
 have lt:∀a b,lA (ls a)->lA (ls b)->ls a<ls b->gq (gP i (ls a)) (gP i (ls b)):=λa b G I h=>(Fk G I rfl).2 (.inr ⟨rfl,h⟩);have J:∀a b:Key×Key,gq a.1 b.1->gq b.1 a.1->a=b:=λa b h1 h2=>absurd h2 (uK h1);unfold iw mu;cases down with
 | false=>
  rw[iN oN];refine List.Perm.eq_of_pairwise (le:=λx y=>gq x.1 y.1) (λa b _ _=>J a b) hS (pairwise_map.2 (List.Pairwise.imp_of_mem (λ{a b} G I O=>?_) q1)) (hL.trans hR.symm);exact lt a b (Q a G) (Q b I) (by unfold qx at O;simpa using O)
 | true=>
  rw[iP rfl];refine List.Perm.eq_of_pairwise (le:=λx y=>gq y.1 x.1) (λa b _ _ h1 h2=>J a b h2 h1) (pairwise_reverse.2 hS) (pairwise_map.2 (List.Pairwise.imp_of_mem (λ{a b} G I O=>?_) q1)) (((reverse_perm _).trans hL).trans hR.symm);exact lt b a (Q b I) (Q a G) (by unfold qx at O;simpa using O)
end
def De (b:Bk) (first:Int):List (HL jd):=b.due.filter λd=>decide (d.1<=first)
structure Jz (b:Bk) (first:Int) (k:Nat) (x:Bk):Prop where
 le:k<=(De b first).length
 acc:x.acc=(jo b ((De b first).take k) 0).acc
 jE:x.jE=b.jE
 due:x.due=b.due.drop k
end
section
open Go Go.Pt List
open Go.IntKind (wrap)
open Classical
attribute [local irreducible] ld dT iF pC kc fv st new idx kN kG fZ kJ jX nt ib nn call eF inv run fK i3 join loop held ext kC fl oW pD pG IntKind.wrap
variable {K:List Kk×Bool->WP} {t:HL iT} {w:Kj}
def rK (is:Bool) (x:Int):Int:=if is then wQ x 16 else nP x 16
def Ac (is:Bool) (t:HL iT) (d c:HL fS) (q:Bool×Bool):Pa:=(if hasB (ku t) 64 then kU (rK is (jv d)) d else d,if hasB (ku t) 128 then kU (rK is (jv c)) c else c,q)
abbrev zj:Kl:=55
def qsB{is:Bool}{d c:HL fS}{q:Bool×Bool}{r1 r3 u C:Nat}{G:Obj}{w0:Kj}(J:0<=ku t/\ku t<65536)(R:0<=jv d/\jv d<65536)(U:0<=jv c/\jv c<65536)(o:ed [] w w0 [(C,.c (kM qU).toArray qb),(u,.c (kM (d,c,q)).toArray qb),(r3,G),(r1,JH iT t zj)])(I:∀w',Fr [] w w'->K (kM (Ac is t d c q),true) w'): join PUnit (λX=>ld (.int .u16) (dm r1 14) w0 λx=>cW 54 [.int .u16 x,.int .u16 64] dr w0 λb w1=>cond b (ld (.int .u16) (dm u 13) w1 λx=>cW 67 [.int .u16 x,.bool is] dI w1 λx w2=>st (dm u 13) [.int .u16 x] w2 λE=>X () E) (X () w1)) λ_ wa=> join PUnit (λX=>ld (.int .u16) (dm r1 14) wa λx=>cW 54 [.int .u16 x,.int .u16 128] dr wa λb w1=>cond b (ld (.int .u16) (dm u 28) w1 λx=>cW 67 [.int .u16 x,.bool is] dI w1 λx w2=>st (dm u 28) [.int .u16 x] w2 λE=>X () E) (X () w1)) λ_ O=> iF 32 (dm u) O λvs=>ib (vs.length=32) (st (dm C) vs O λw1=>iF 32 (dm C) w1 λvs=>K (vs,true) w1):=by refine je (λ_ w'=>ed [] w w' [(C,.c (kM qU).toArray qb),(u,.c (kM (if hasB (ku t) 64 then kU (rK is (jv d)) d else d,c,q)).toArray qb),(r3,G),(r1,JH iT t zj)]) ?_ λ_ w1 o=>?_;refine Ko o 3 rfl (ku t) (BO J oN ?_);refine eV (λh=>?_) λh=>?_;rw[iP h];exact Ko o 1 rfl (jv d) (qoi R (o.st' 1 rfl (kM (kU (rK is (jv d)) d,c,q)).toArray rfl rfl (zO rfl) λw1 o _=>o));rw[iN (by rw[h];decide)];exact o;unfold Ac at I;generalize (if hasB (ku t) 64 then kU (rK is (jv d)) d else d)=Q at o I;refine je (λ_ w'=>ed [] w w' [(C,.c (kM qU).toArray qb),(u,.c (kM (Q,if hasB (ku t) 128 then kU (rK is (jv c)) c else c,q)).toArray qb),(r3,G),(r1,JH iT t zj)]) ?_ λ_ w2 o=>?_;refine Ko o 3 rfl (ku t) (BO J oN ?_);refine eV (λh=>?_) λh=>?_;rw[iP h];exact Ko o 1 rfl (jv c) (qoi U (o.st' 1 rfl (kM (Q,kU (rK is (jv c)) c,q)).toArray rfl rfl (zO rfl) λw1 o _=>o));rw[iN (by rw[h];decide)];exact o;exact nI (o.at (i:=1) rfl) _ (rf _) rfl (mE (rf _) (o.st' 0 rfl _ (iJ rfl) rfl (zM _) λE o _=>nI (o.at (i:=0) rfl) _ (rf _) rfl (I E o.fr)))
def G3{p q:Pa}{am:gK}(C:eQ iT t)(E:eQ fS p.1)(h:eQ fS p.2.1)(u:gS t p=some q)(G:∀w',Fr [] w w'->K (kM q,true) w'): cW 44 [JI iT t,dk am.1 am.2,.bool false,.agg (kM p).toArray] du w K:=by refine qgS ?_;unfold gS at u;obtain⟨x,I,u⟩:=Option.bind_eq_some_iff.1 u;obtain⟨y,J,rfl⟩:=yU.1 u;have O:=xd;refine oB (oF [] w) λr1 w1 _ V o=>oB o λr3 w2 _ f2 o=>oB o λr5 w3 _ f3 o=>oJ o O λr7 w4 _ o=>Kq o 1 rfl (gO p.1) (Kq o 3 rfl (gf t) (quB (AN E) (uG C) λw5 Q=>?_));rw[I];refine (o.q8 Q).st' 1 rfl (kM (md x p.1,p.2)).toArray rfl rfl (zO rfl) λw6 o _=>Kq o 1 rfl (gY p.2.1) (Kq o 3 rfl (gf t) (quB (AQ h) (uG C) λw7 R=>?_));rw[J];refine (o.q8 R).st' 1 rfl (kM (md x p.1,mj y p.2.1,p.2.2)).toArray rfl rfl (zO rfl) λU o _=>je (λb w'=>b=false/\w'=U) (JK rfl ⟨rfl,rfl⟩) ?_;rintro b w9 ⟨rfl,rfl⟩;exact JK rfl (JK rfl (qsB (is:=false) (t:=t) (d:=md x p.1) (c:=mj y p.2.1) (q:=p.2.2) (GB C) (vc (a:=p.1) E) (vc (a:=p.2.1) h) o G))
def Hg{p:Pa}(G:eQ iT t)(V:hasB (ku t) 2=true)(O:eQ fS p.1)(C:eQ fS p.2.1)(E:∀w',Fr [] w w'->K (kM ((qz t p).getD qU),(qz t p).isSome) w'): cW 25 [JI iT t,.agg #[.w (gf t).1,.w (gf t).2],.agg (kM p).toArray] du w K:=by
 refine qig ?_;have hz:=xd;unfold qz at E;refine oB (oF [] w) λr1 w1 _ f1 o=>oB o λr3 w2 _ f2 o=>oB o λr5 w3 _ f3 o=>oJ o hz λI w4 _ o=>je (λq w'=>q=((mM (gO p.1) (gf t)).isSome,(mM (gY p.2.1) (gf t)).isSome)/\ed [] w w' [(I,.c (kM qU).toArray qb),(r5,.c (kM (md ((mM (gO p.1) (gf t)).getD (0,0)) p.1,mj ((mM (gY p.2.1) (gf t)).getD (0,0)) p.2.1,p.2.2)).toArray qb),(r3,.c #[.w (gf t).1,.w (gf t).2] pd),(r1,JH iT t zj)]) ?_ ?_;refine Ko o 3 rfl (ku t) (BO (GB G) oN (JJ V ?_));refine Kq o 1 rfl (gO p.1) (Kq o 2 rfl (gf t) (Js (AN O) (uG G) λu f5=>?_));refine (o.q8 f5).st' 1 rfl (kM (md ((mM (gO p.1) (gf t)).getD (0,0)) p.1,p.2)).toArray rfl rfl (zO rfl) λQ o _=>Kq o 1 rfl (gY p.2.1) (Kq o 2 rfl (gf t) (Js (AQ C) (uG G) λw7 f7=>?_));exact (o.q8 f7).st' 1 rfl (kM (md ((mM (gO p.1) (gf t)).getD (0,0)) p.1,mj ((mM (gY p.2.1) (gf t)).getD (0,0)) p.2.1,p.2.2)).toArray rfl rfl (zO rfl) λw8 o _=>⟨rfl,o⟩;rintro _ u ⟨rfl,o⟩;have h:(((mM (gO p.1) (gf t)).bind λx=>(mM (gY p.2.1) (gf t)).map λy=>((let d:=md x p.1;if hasB (ku t) 64 then kU (wQ (jv d) 16) d else d,let c:=mj y p.2.1;if hasB (ku t) 128 then kU (wQ (jv c) 16) c else c,p.2.2):Pa))=none)->
   fK [iY.pE] (λw'=>(Instr.build qb #[]).run prog w') u λvs=>ib (vs.length=32) (st (dm I) vs u λw1=>iF 32 (dm I) w1 λvs=>K (vs,false) w1):=λe=>by
  rw[e] at E;exact tL (ts:=[iY.pE]) (kM qU) oL (mE (rf _) (o.st' 0 rfl _ (iJ rfl) rfl (zM _) λQ o _=>nI (o.at (i:=0) rfl) _ (rf _) rfl (E Q o.fr)))
 cases J:mM (gO p.1) (gf t) with
 | none=>
  rw[J] at h;refine je (λb w'=>b=true/\w'=u) (JJ rfl ⟨rfl,rfl⟩) ?_;rintro b R ⟨rfl,rfl⟩;exact JJ rfl (h rfl)
 | some x=>
  cases U:mM (gY p.2.1) (gf t) with
  | none=>
   rw[J,U] at h;refine je (λb w'=>b=true/\w'=u) (JK rfl ⟨rfl,rfl⟩) ?_;rintro b R ⟨rfl,rfl⟩;exact JJ rfl (h rfl)
  | some y=>
   rw[J,U] at E o;refine je (λb w'=>b=false/\w'=u) (JK rfl ⟨rfl,rfl⟩) ?_;rintro b R ⟨rfl,rfl⟩;exact JK rfl (qsB (is:=true) (t:=t) (d:=md x p.1) (c:=mj y p.2.1) (q:=p.2.2) (GB G) (vc (a:=p.1) O) (vc (a:=p.2.1) C) o E)
def Bs{S:Kr}{r:oq}{b:Bk}{i j:gK}{K:List Kk->WP}(h:RB S w r b)(E:b.size<=100000)(I:∀w',Fr [] w w'->K (kM (lg b i j)) w'): cW 22 [JI fw r,dk i.1 i.2,dk j.1 j.2] dF w K:=by refine qgp ?_;have G:=xd;refine oB (oF [] w) λr1 w1 _ V o=>oB o λr3 w2 _ f2 o=>oB o λr5 w3 _ f3 o=>oJ o G λr7 w4 _ o=>tL (ts:=[iY.pE]) (kM qU) oL (oJ o G λJ w5 _ o=>mE (rf _) (o.st' 0 rfl _ (iJ rfl) rfl (zM _) λw6 o _=>?_));refine Kq o 4 rfl r (Kq o 3 rfl i (quz (h.q8 o.fr) E λw7 O=>?_));have o:=o.q8 O;refine o.st' 0 rfl _ qAb rfl (zO rfl) λw8 o _=>o.st' 0 rfl (kM ((eX b i).getD lC,lC,(eX b i).isSome,false)).toArray rfl rfl (zO rfl) λw9 o _=>Kq o 4 rfl r (Kq o 2 rfl j (quz (h.q8 o.fr) E λQ u=>?_));have o:=o.q8 u;exact o.st' 0 rfl _ qAc rfl (zO rfl) λR o _=>o.st' 0 rfl (kM (lg b i j)).toArray rfl rfl (zO rfl) λU o _=>nI (o.at (i:=0) rfl) _ (rf _) rfl (mE (rf _) (o.st' 1 rfl _ (iJ rfl) rfl (zM _) λC o _=>nI (o.at (i:=1) rfl) _ (rf _) rfl (I C o.fr)))
end
section
open Go Go.Pt List
open Go.IntKind (wrap)
open Classical
variable {L:Kz} {S:Kr} {first:Int} {w:Kj}
def H9{h u C E:WP}{K:Prop}(G:h w)(I:u w)(J:C w)(O:E w)(k:K):held [h,u,C,E] w K:=⟨⟨G,I,J,O⟩,k⟩
attribute [local irreducible] ld dT iF pC kc fv st new idx kN kG fZ kJ jX nt ib nn call eF inv run fK i3 join loop held ext kC fl oW pD pG IntKind.wrap
def qzE{w0 w':Kj}{p:Nat×Obj}{r:Nat}{o:Obj}(h:ed S w0 w (p::(r,o)::L))(f:Fr [r] w w'):ed S w0 w' (p::L):=
 (FU h).j0 f (λi G=>by rw[zE.1 G];exact h.own (r,o) oM) λq C u=>by have E:=h.nodup;rw[xQ,xQ,JO,JO] at E;have u:=zE.1 u;rcases zG.1 C with rfl|C;exact E.1 (by rw[u];exact JP);exact E.2.1 (mem_map.2 ⟨q,C,u⟩)
def qvh{w0 w':Kj}{r:Nat}{o:Obj}(h:ed S w0 w ((r,o)::L))(f:Fr [r] w w'):ed S w0 w' L:=
 (Hl h).j0 f (λi C=>by rw[zE.1 C];exact h.own (r,o) oM) λq E G=>by have u:=h.nodup;rw[xQ,JO] at u;exact u.1 (mem_map.2 ⟨q,E,zE.1 G⟩)
def qzF{w0 w':Kj}{a b:Nat}{x y x' C:Obj}(h:ed S w0 w [(a,x),(b,y)])(f:Fr [a,b] w w')(E:w'.heap[a]?=some x')(G:w'.heap[b]?=some C):ed S w0 w' [(a,x'),(b,C)]:=
 ⟨λq u=>by
  rcases zG.1 u with rfl|u;exact E;rw[zE.1 u];exact G,h.nodup,h.back f,λq u=>by
  rcases zG.1 u with rfl|u;exact h.own (a,x) oM;rw[zE.1 u];exact h.own (b,y) oM⟩
def qye{α:Type}{enc:α->List Kk}{k:Nat}{s:Sl}{l:List α}(h:eE enc k S w s l)(n:Nat){i:Int}{x:α}{K:Addr->Prop}(hi:i=n)(E:l[n]?=some x)(G:∀b o u T C,w.heap[b]?=some (.cells u T C)->b∉S->(u.toList.drop o).take k=enc x->K (dm b o)):idx s i k K:=by subst hi;obtain⟨R,b,o,I,J,u,T,C,O,Q⟩:=eE.at h n E;refine sJ I ⟨oK,oK⟩ ?_;rw[zJ];exact G b _ u T C O J Q
def qAd{cs:List Kk}{off j m:Nat}{x:List Kk}(h:(cs.drop off).take m=x):(cs.drop (off+j)).take (m-j)=x.drop j:=by rw[<- h,drop_take,xF]
def lz (b:Bk) (m:Nat):Bk:={ b with gn:=m }
def tM.lz{b:Bk}{m:Nat}(h:tM b):tM (lz b m):=⟨h.fit,h.ER,h.due,h.has,h.mN,h.mO⟩
def qxV{b:Bk}{m:Nat}{a:HL fS}{s n:Int}:jA (lz b m) a s n=lz (jA b a s n) m:=by unfold jA;split<;>rfl
def qBS{b:Bk}{m:Nat}{d:HL jd}{n:Int}:mw (lz b m) d n=lz (mw b d n) m:=by
 have h:∀p,fI (lz b m) p n=lz (fI b p n) m:=λp=>by unfold fI;rw[show ((lz b m).dZ p.1).dZ p.2.1=lz ((b.dZ p.1).dZ p.2.1) m from rfl,qxV,qxV]
 show ((fI (lz b m) _ n).gj _).kb d=_;rw[h];rfl
def qte{m:Nat}:∀ {l:List (HL jd)} {b:Bk} {n:Int},jo (lz b m) l n=lz (jo b l n) m
 | [],_,_=>rfl
 | d::r,b,n=>by rw[jo,qBS,qte];rfl
abbrev uN:Kl:=36
abbrev Cl:Kl:=115
def BJ(x:gK×Int):(pL x).length=3:=rfl
def FF(x:gK×Int):∀u∈pL x,u.oneCell'=true:=all_eq_true.1 rfl
def qxG:∃i,prog.info? Cl=some i/\i.zero=some (.agg #[.w 0,.w 0,.w 0])/\i.size=3/\i.bytes=24:=uH oL
def rg (r:oq) (s:Sl):oq:=(r.1,r.2.1,r.2.2.1,r.2.2.2.1,r.2.2.2.2.1,r.2.2.2.2.2.1,r.2.2.2.2.2.2.1,r.2.2.2.2.2.2.2.1,r.2.2.2.2.2.2.2.2.1,s)
section
variable {S:Kr} {W w:Kj} {r:oq} {b:Bk} {s:Sl} {l:List (HL jd)} {i r1 r3:Nat} {X:Int->WP}
def qCz{G:Sl}{C:Nat}{R:Kl}{g:List (gK×Int)}{B:Kr}{x:gK×Int}(h1:W.heap[r1]?=some (JH fw r uN))(h:RB S W r b)(ac:r1∈S)(hS:∀x∈S,x<W.heap.size)(fa:Fr [] W w)(bs:fB pL 3 w G g B)(hB:∀x∈B,W.heap.size<=x)(hg:g.length<=b.gn)(ax:b.gn<=99000)(ad:w.heap[C]?=some (.c (pL x).toArray R))(hl:eE ji 4 [r1] W s l)(hi:i<l.length)(hb:b.size<=100000)(kk:∀r' w',RB S w' r' (lz (b.kb l[i]) (b.gn+1))->w'.heap[r1]?=some (JH fw r' uN)->Fr [r1] W w'->X (wrap .i64 ((i:Int)+1)) w'):Cd G C w r1 s i X:=by
 unfold Cd;obtain⟨j,hj,hz,ae,af⟩:=qxG;have ag:eE pL 3 [] w ⟨pW C,1,1⟩ [x]:=⟨rfl,zM _,.inr ⟨C,0,_,R,_,rfl,ad,(λh=>nomatch h),λi y hy=>by obtain⟨hi,rfl⟩:=zP.1 hy;have:i=0:=(oQ hi);subst this;rfl⟩⟩;refine fB.j2 (s:=G) (l:=g) (ys:=[x]) (B:=B) bs BJ (e:=Cl) oL hj hz ae rfl (wn (e':=Cl) ag BJ FF oL) rfl (by show (g.length+1)*j.bytes<=_;rw[af];omega) (by show g.length+1<=_;omega) λU B5 w5 b5 f5 n5 _=>?_;have I:Fr [] W w5:=fa.j8 f5 λx u=>.inr (hB x u);have V:∀x∈B5,W.heap.size<=x:=λx u=>(n5 x u).elim (hB x) (zL fa.size);have l1:=fq h1;have ah:w5.heap[r1]?=some (JH fw r uN):=(by rw[I.block r1 l1 λh=>nomatch h];exact h1);refine tU ah (HL.mk fw (rg r U)).toArray rfl rfl (zO rfl) λQ J f6=>?_;have O:Fr [r1] W Q:=(I.mono λ_ h _=>nomatch h).trans f6;have aa:∀ {x},x∈[r1]->x∈S:=λh=>by rw[zE.1 h];exact ac
 have E:=(h.q8 I).j0 (f6.mono λx u _=>aa u) λx u=>.inl u;have b6:fB pL 3 Q U (g++[x]) B5:=b5.j0 f6 λx u h=>by
  have:=V x u;have:=zE.1 h;omega
 have h6:RB S Q (rg r U) (lz b (b.gn+1)):=⟨E.acc,E.jE,E.ki,E.due,E.mN,E.mO,E.iI,E.told,g++[x],by rw[zF,xO];exact Nat.succ_le_succ hg,Ab b6 BJ hS V⟩;have g6:=(Fr.refl [] Q).drew;refine vr (w:=Q.drew) J (rg r U) rfl<|eE.pY (x:=l[i]) (y:=l[i]) (w:=Q.drew) ((hl.j0 O λx u=>.inl u).q8 g6) i rfl (zA hi) rfl rfl<|qof (h6.q8 g6) hb (λx u=>yE (hS x u) O.size) λr7 w7 t h7 f7=>?_;have aj:w7.heap[r1]?=some (JH fw (rg r U) uN):=(by rw[(g6.trans f7).block r1 (fq J) λh=>nomatch h];exact J);exact tU aj (HL.mk fw r7).toArray (iJ rfl) rfl (zM _) λw8 ak f8=>kk r7 w8 (h7.j0 (f8.mono λx u _=>aa u) λx u=>.inl u) ak ((O.trans ((g6.trans f7).mono λ_ h _=>nomatch h)).trans f8)
def Im{n:Int}{t:HL iT}{q:Pa}{ab ac aj:Nat}{au o3:Obj}(o:ed [r3,r1] W w [(ab,.c (kM qU).toArray qb),(ac,JH iT t zj),(aj,au),(r3,o3),(r1,JH fw r uN)])(h:RB (r3::r1::S) W r b)(hS:∀x∈r3::r1::S,x<W.heap.size)(hl:eE ji 4 [r3,r1] W s l)(hi:i<l.length)(hb:b.size+5<=100000)(R:b.gn<=99000)(f1:eQ fS q.1)(f2:eQ fS q.2.1)(en:wrap .u64 (first+wrap .u64 (i:Int))=n)(kk:∀r' w',RB (r3::r1::S) w' r' (lz (((fI b q n).gj (gQ t,4)).kb l[i]) (b.gn+1))->w'.heap[r1]?=some (JH fw r' uN)->w'.heap[r3]?=some o3->Fr [r3,r1] W w'->X (wrap .i64 ((i:Int)+1)) w'):Dk first (kM q,true) ab w r1 i ac s X:=by
 unfold Dk;rw[en];have ak:∀ {w w':Kj},Fr [r1] w w'->Fr (r3::r1::S) w w':=λf=>f.mono λx u _=>by rw[zE.1 u];simp
 have al:∀ {w w':Kj},Fr [r3,r1] w w'->Fr (r3::r1::S) w w':=λf=>f.mono λx u _=>by simp only[zG,xZ,or_false] at u;rcases u with rfl|rfl<;>simp
 have up:∀ {w':Kj},W.heap.size<=w'.heap.size->∀x∈r3::r1::S,x<w'.heap.size:=λz x u=>yE (hS x u) z;refine mE (rf q) (o.st' 0 rfl _ (iJ rfl) rfl (zM _) λw2 o _=>Kq o 4 rfl r (nI (o.at (i:=0) rfl) _ (rf q) rfl ?_));have z:=EZ (b:=b) (p:=q) (n:=n);refine qsb (h.j0 (al o.fr) λx u=>.inl u) oK (up o.fr.size) f1 f2 λax w3 h3 f3=>(o.q8 f3).st' 4 rfl _ (iJ rfl) rfl (zM _) λw4 o f4=>Kq o 4 rfl ax (Kq o 1 rfl (gQ t) ?_);have h4:=h3.j0 (ak f4) λx u=>.inl u;refine qoh h4 oK (up o.fr.size) λr5 w5 h5 f5=>(o.q8 f5).st' 4 rfl _ (iJ rfl) rfl (zM _) λw6 o f6=>?_;have h6:=h5.j0 (ak f6) λx u=>.inl u;have am:((fI b q n).gj (gQ t,4)).gn=b.gn:=(by show (fI b q n).gn=b.gn;unfold fI jA;split<;>split<;>rfl);have z2:((fI b q n).gj (gQ t,4)).size<=(fI b q n).size+1:=by
  have:=t8 (kf:=λx:gK×Int=>x.1) (a:=(gQ t,4)) (l:=(fI b q n).ki);unfold Bk.size Bk.gj;dsimp only;omega
 have kk:∀r' w',RB (r3::r1::S) w' r' (lz (((fI b q n).gj (gQ t,4)).kb l[i]) (((fI b q n).gj (gQ t,4)).gn+1))->w'.heap[r1]?=some (JH fw r' uN)->w'.heap[r3]?=some o3->Fr [r3,r1] W w'->X (wrap .i64 ((i:Int)+1)) w':=(by rw[am];exact kk);have R:((fI b q n).gj (gQ t,4)).gn<=99000:=(by rw[am];exact R);have an:((fI b q n).gj (gQ t,4)).size<=100000:=oK;generalize (fI b q n).gj (gQ t,4)=b6 at h6 kk R an;obtain⟨g,hg,hG⟩:=h6.gone;obtain⟨j,hj,hz,ae,af⟩:=qxG;have aD:eE ji 4 [r1] w6 s l:=eE.j6 (hl.j0 o.fr λx u=>.inl u) λx u=>.inl (by rw[zE.1 u];simp);have e1:=o.at (i:=4) rfl;have O:=(Fr.refl [] w6).drew;have z6:=o.fr.size;have ag:g.length<=1000000:=oK;have e3:=o.at (i:=3) rfl;have aE:r3≠r1:=λe=>by have hn:[ab,ac,aj,r3,r1].Nodup:=o.nodup;exact (nodup_cons.1 (nodup_cons.1 (nodup_cons.1 (nodup_cons.1 hn).2).2).2).1 (by rw[e];exact zE.2 rfl)
 have ah:∀ {ao:Sl} {E:Nat} {B:Kr} {w9:Kj} {aF:Kl},Fr [] w6 w9->fB pL 3 w9 ao g B->(∀x∈B,w6.heap.size<=x)->w9.heap[E]?=some (.c (pL (gQ t,n)).toArray aF)->Cd ao E w9 r1 s i X:=λfa bs hB aG=>
  qCz e1 h6 oM (up z6) fa bs hB hg R aG aD hi an λr' w' h' aH f'=>kk r' w' h' aH (by rw[f'.block r3 (fq e3) λhm=>aE (zE.1 hm)];exact e3) (o.fr.trans (f'.mono λx u _=>by rw[zE.1 u];simp))
 have U:=o.drew;refine⟨?_,?_,?_⟩;refine Ko U 4 rfl r5.2.2.2.2.2.2.2.2.2 (Kq U 1 rfl (gQ t) (oB U λG w7 e7 C I=>kH (I.cells 2) (I.cell 5) ?_));refine xz (e:=Cl) (I.at (i:=0) rfl) (hG.q8 (O.trans C)) BJ FF oL hj hz ae rfl (by rw[af];decide) ag λs8 B8 w8 b8 Q n8=>?_;have aI:G=w6.heap.size:=e7;have J:=qvh I Q;refine ja (J.cells 1) (oB J λE w9 e9 V o9=>ja (o9.cell 5) ?_);exact ah (((O.trans C).j8 Q λx u=>.inr (by rw[zE.1 u];omega)).trans V) (b8.q8 V) (λx u=>(n8 x u).elim (λe=>oK) (zL (O.trans C).size)) (o9.at (i:=0) rfl);refine Ko U 4 rfl r5.2.2.2.2.2.2.2.2.2 (Kq U 1 rfl (gQ t) (oB U λG w7 e7 C I=>kH (I.cells 2) (I.cell 5) ?_));refine oB I λE w8 e8 Q J=>ja (J.cell 6)<|xz (e:=Cl) (J.at (i:=1) rfl) (hG.q8 ((O.trans C).trans Q)) BJ FF oL hj hz ae rfl (by rw[af];decide) ag λs9 B9 w9 b9 V n9=>?_;have aI:G=w6.heap.size:=e7;have o9:=qzE J V;exact ja (o9.cells 2) (ah (((O.trans C).trans Q).j8 V λx u=>.inr (by rw[zE.1 u];omega)) b9 (λx u=>(n9 x u).elim (λe=>oK) (zL ((O.trans C).trans Q).size)) (o9.at (i:=0) rfl));refine Ko U 4 rfl r5.2.2.2.2.2.2.2.2.2 (Kq U 1 rfl (gQ t) (oB U λE w7 e7 C I=>ja (I.cell 5) ?_));refine oB I λG w8 e8 Q J=>kH (J.cells 3) (J.cell 6)<|xz (e:=Cl) (J.at (i:=0) rfl) (hG.q8 ((O.trans C).trans Q)) BJ FF oL hj hz ae rfl (by rw[af];decide) ag λs9 B9 w9 b9 V n9=>?_;have ap:w6.heap.size<=G:=(by rw[e8];exact (O.trans C).size);have o9:=qvh J V;exact ja (o9.cells 2) (ah (((O.trans C).trans Q).j8 V λx u=>.inr (by rw[zE.1 u];exact ap)) b9 (λx u=>(n9 x u).elim (λe=>by rw[e];exact ap) (zL ((O.trans C).trans Q).size)) (o9.at (i:=0) rfl))
def qB0{n:Int}{k:Kp}{q:Pa}{I:Nat}{o3:Obj}(o:ed [r3,r1] W w [(I,.c (qA vI).toArray zy),(r3,o3),(r1,JH fw r uN)])(h:RB (r3::r1::S) W r b)(hS:∀x∈r3::r1::S,x<W.heap.size)(hl:eE ji 4 [r3,r1] W s l)(hi:i<l.length)(hb:b.size+5<=100000)(E:b.gn<=99000)(Q:eQ iT k.1)(R:eQ fS (lg b (gL k.1) (gM k.1)).1)(f2:eQ fS (lg b (gL k.1) (gM k.1)).2.1)(U:gS k.1 (lg b (gL k.1) (gM k.1))=some q)(en:wrap .u64 (first+wrap .u64 (i:Int))=n)(kk:∀r' w',RB (r3::r1::S) w' r' (lz (((fI b q n).gj (gQ k.1,4)).kb l[i]) (b.gn+1))->w'.heap[r1]?=some (JH fw r' uN)->w'.heap[r3]?=some o3->Fr [r3,r1] W w'->X (wrap .i64 ((i:Int)+1)) w'):E5 first (qA k,true) I w r1 i s X:=by
 unfold E5;have hz:=xd;have u:=DN Q R f2 U;have J:∀ {w w':Kj},Fr [r3,r1] w w'->Fr (r3::r1::S) w w':=λf=>f.mono λx V _=>by simp only[zG,xZ,or_false] at V;rcases V with rfl|rfl<;>simp
 refine mE (pj k) (o.st' 0 rfl _ (iJ rfl) rfl (zM _) λw2 o _=>Kq o 0 rfl k.1 (oB o λak w3 _ f3 o=>o.st' 0 rfl _ (iJ rfl) rfl (zM _) λw4 o _=>?_));have o:=o.drew;have hR:∀ {w'},Fr [r3,r1] W w'->RB (r3::r1::S) w' r b:=λf=>h.j0 (J f) λx V=>.inl V;have G:b.size<=100000:=oK;refine⟨Kq o 0 rfl k.1 (Kq o 3 rfl r (Kq o 0 rfl (gL k.1) (Kq o 0 rfl (gM k.1) (Bs (i:=gL k.1) (j:=gM k.1) (hR o.fr) G λw7 C=>ja ((o.q8 C).cells 0) (G3 (am:=(0,0)) Q R f2 U λw8 O=>oJ ((o.q8 C).q8 O) hz λr9 w9 _ o=>H9 (o.cells 1) (o.cells 1) (o.cells 4) (o.cells 1) ?_))))),
  Kq o 0 rfl k.1 (Kq o 3 rfl r (Kq o 0 rfl (gL k.1) (Kq o 0 rfl (gM k.1) (Bs (i:=gL k.1) (j:=gM k.1) (hR o.fr) G λw7 C=>ja ((o.q8 C).cells 0) (oJ (o.q8 C) hz λr9 w9 _ o=>H9 (o.cells 1) (o.cells 1) (o.cells 4) (o.cells 1) (G3 (am:=(0,0)) Q R f2 U λw8 O=>?_)))))),
  Kq o 0 rfl k.1 (Kq o 3 rfl r (Kq o 0 rfl (gL k.1) (Kq o 0 rfl (gM k.1) (oJ o hz λr9 w9 _ o=>H9 (o.cells 1) (o.cells 1) (o.cells 4) (o.cells 1) (Bs (i:=gL k.1) (j:=gM k.1) (hR o.fr) G λw7 C=>ja ((o.q8 C).cells 1) (G3 (am:=(0,0)) Q R f2 U λw8 O=>?_))))))⟩
 exact Im o h hS hl hi hb E u.1 u.2 en kk;exact Im (o.q8 O) h hS hl hi hb E u.1 u.2 en kk;exact Im ((o.q8 C).q8 O) h hS hl hi hb E u.1 u.2 en kk
end
def qw5{r:oq}{b:Bk}{most:Int}{K:oq×Int->WP}(h:RB S w r b)(hS:∀x∈S,x<w.heap.size)(R:tM b)(hn:IntKind.u64.has first)(hm:b.many<=90000)(aW:b.gn+b.due.length<=90000)(kk:∀r' w',RB S w' r' (lz (jo b (k5 b.due first most) first) (b.gn+(k5 b.due first most).length))->Fr [] w w'->K (r',((k5 b.due first most).length:Int)) w'): cW 16 [JI fw r,.w first,.i most] [.agg fw,.one .i] w K:=by
 refine qhW ?_;have ad:=xj;have ar:=qsr (l:=b.due) (J0:=first) (most:=most);have ae:=qss (l:=b.due) (J0:=first) (most:=most);have hu:=pS hn;have U:b.size<=b.many:=Nat.le_add_right _ _;refine oB (oF [] w) λr1 w1 e1 f1 o=>oB o λr3 w2 e2 f2 o=>Kq o 1 rfl r ?_;have aY:r1<w2.heap.size:=fq (o.at (i:=1) rfl);have aZ:r3<w2.heap.size:=fq (o.at (i:=0) rfl);have n1:w.heap.size<=r1:=oK;have n3:w.heap.size<=r3:=(by have:=f1.size;omega);refine qAq (h.q8 o.fr) oK λs B w3 hB f3 nB=>?_;have o:=o.q8 f3;generalize k5 b.due first most=l at kk hB ar ae;have av:s.len=l.length:=hB.len;have aw:eE ji 4 [r3,r1] w3 s l:=hB.kZ DB λx u hF=>by
  have:=nB x u;simp only[zG,xZ,or_false] at hF;omega
 have ax:∀ {w':Kj},w3.heap.size<=w'.heap.size->∀x∈r3::r1::S,x<w'.heap.size:=λz x u=>by
  have:=f3.size;rcases zG.1 u with rfl|u;omega;rcases zG.1 u with rfl|u;omega;have:=hS x u;have:=f1.size;have:=f2.size;omega
 have h3:RB (r3::r1::S) w3 r b:=h.j0 (o.fr.mono λ_ h _=>nomatch h) λx u=>by rcases zG.1 u with rfl|u;exact .inr n3;rcases zG.1 u with rfl|u;exact .inr n1;exact .inl u
 generalize ay:(Obj.cells #[Value.slice none 0 0,Value.slice none 0 0,Value.slice none 0 0,Value.slice none 0 0,Value.slice none 0 0,Value.slice none 0 0,Value.slice none 0 0,Value.int IntKind.u64 0,Value.bool false,Value.slice none 0 0] uN (0,0))=o3 at o;have e0:(first+((0:Nat):Int))%18446744073709551616=first:=by omega
 refine kx (λx W=>∃i:Nat,∃ri B,x=i/\i<=l.length/\RB (r3::r1::S) W ri B/\ed [] w W [(r3,o3),(r1,JH fw ri uN)]/\w3.heap.size<=W.heap.size/\eE ji 4 [r3,r1] W s l/\tM B/\(l.drop i).Sublist B.due/\B.many<=b.many/\B.gn=b.gn+i/\lz (jo B (l.drop i) ((first+i)%18446744073709551616)) 0=lz (jo b l first) 0) (λx _=>l.length-x.toNat) ⟨0,r,b,rfl,yY _,h3,o,zM _,aw,R,ae,zM _,rfl,by rw[e0];rfl⟩ ?_;rintro x W ⟨i,ri,B,rfl,hi,hR,o,zW,hl,R,E,az,aA,hp⟩ X hX;apply eV<;>intro V
 ·have C:i<l.length:=(by have:=zC V;omega);have aB:=zY C;rw[aB] at E hp;have J:l[i]∈B.due:=E.subset JP;obtain⟨k,q,hk,hq⟩:=(R.x5 J).ok;obtain⟨k',_,_,ag,ah,_⟩:=R.has _ J;rw[hk] at ag;cases ag;have hA:∀j,eQ fS ((eX B j).getD lC):=λj=>by
   cases u:eX B j with
   | none=>exact BN
   | some a=>exact R.fit a (uh u).1
  have a6:B.size<=B.many:=Nat.le_add_right _ _;have en:wrap .u64 (first+wrap .u64 (i:Int))=(first+i)%18446744073709551616:=(by rw[rz (i:Int) ⟨oK,oK⟩];unfold wrap;have:(IntKind.u64.signed)=false:=rfl;simp only[this,Bool.false_and,Bool.false_eq_true,if_false];rfl);have aD:=qq5 (n:=(first+i)%18446744073709551616) J;have ai:∀r' w',RB (r3::r1::S) w' r' (lz (((fI B q ((first+i)%18446744073709551616)).gj (gQ k.1,4)).kb l[i]) (B.gn+1))->w'.heap[r1]?=some (JH fw r' uN)->w'.heap[r3]?=some o3->Fr [r3,r1] W w'->X (wrap .i64 ((i:Int)+1)) w':=λr' w' O aE aF f'=>by have eo:mw B l[i] ((first+i)%18446744073709551616)=((fI B q ((first+i)%18446744073709551616)).gj (gQ k.1,4)).kb l[i]:=(by unfold mw;rw[hk];simp only[xX];rw[hq];rfl);rw[<- eo] at O;rw[gu _ oK];have aH:((first+(i:Int))%18446744073709551616+1)%18446744073709551616=(first+((i+1:Nat):Int))%18446744073709551616:=oK;refine hX _ _ ⟨i+1,r',_,rfl,C,O,qzF o f' aF aE,zL zW f'.size,hl.j0 f' λx u=>.inl u,(R.one J).lz,?_,?_,?_,?_⟩ oK;show (l.drop (i+1)).Sublist (mw B l[i] _).due;rw[(FV (b:=B) (d:=l[i])).2.2.1];exact R.due.rest E;exact zL aD.1 az;show B.gn+1=_;omega;rw[qte,<- hp,jo,aH];rfl
  have aj:=ax zW;have o:=o.mQ.drew;have O:RB (r3::r1::S) W.drew ri B:=hR.q8 (Fr.refl [] W).drew;have aT:=E.length_le;have Q:B.gn<=99000:=oK;have ak:B.size+5<=100000:=oK;have u:=zA C;have al:=hA (gL k.1);have am:=hA (gM k.1);have U:B.size<=100000:=oK;refine⟨?_,?_⟩;refine Kq o 1 rfl ri (qye hl i rfl u λc aa cs T fr hb ab V=>?_);have G:(cs.toList.drop (aa+2)).take 2=HL.mk u2 (qs l[i]):=(qAd (j:=2) V).trans rfl;refine vr (w:=W.drew) hb (qs l[i]) G (quC O U λw7 f7=>?_);rw[show iG B ((qs l[i]).1,(qs l[i]).2)=some k from hk];exact oJ (o.q8 f7) ad λaJ w8 _ I=>kH (vw (I.np hb ab) _ _ 0 G) (I.cells 2) (qB0 I hR aj hl C ak Q ah.1 al am hq en ai);refine Kq o 1 rfl ri (qye hl i rfl u λc aa cs T fr hb ab V=>?_);have G:(cs.toList.drop (aa+2)).take 2=HL.mk u2 (qs l[i]):=(qAd (j:=2) V).trans rfl;refine vr (w:=W.drew) hb (qs l[i]) G (oJ o ad λaJ w8 _ I=>kH (vw (I.np hb ab) _ _ 0 G) (I.cells 2) ?_);refine quC (hR.j0 (I.fr.mono λx u _=>by have u:x∈[r3,r1]:=u;simp only[zG,xZ,or_false] at u;rcases u with rfl|rfl<;>simp) λx u=>.inl u) U λw9 f9=>?_;rw[show iG B ((qs l[i]).1,(qs l[i]).2)=some k from hk];exact qB0 (I.q8 f9) hR aj hl C ak Q ah.1 al am hq en ai
 ·have C:i=l.length:=(by have:=zB V;omega);subst C;rw[drop_length,jo] at hp;have eB:B=lz (jo b l first) (b.gn+l.length):=(by have:B=lz (lz B 0) B.gn:=rfl;rw[this,hp,aA];rfl);rw[av];refine Kq o 1 rfl ri ?_;subst ay;refine o.st' 0 rfl _ (iJ rfl) rfl (zM _) λw8 I f8=>Kq I 0 rfl ri ?_;rw[eB] at hR;exact kk ri w8 (hR.j0 (f8.mono λx u _=>by rw[zE.1 u];simp) λx u=>.inl (by simp[u])) I.fr
end
section
open Go Go.Pt List
open Go.IntKind (wrap)
open Classical
variable {K:Bool->Prop}
def qBR{P:Km}{t:Kl}{x y:Operand}{cs ds:Array Kk}{w:Kj}(d:Nat)(G:d<=10000)(r:Bool)(h:vT P d t (.agg cs) (.agg ds)=some r)(C:P.eqGuardType P.depth t=false)(k:K (!r)): fK [iY.one Cell.bool] (λw'=>(do eqGuard .neq t x y (.agg cs) (.agg ds);binOp .neq t (.agg cs) (.agg ds):Sem Kk).run P w') w K:=by have u:=Gh d t _ _ r h (10000-d) w;rw[show d+(10000-d)=10000 by omega] at u;have E:(binOp .neq t (.agg cs) (.agg ds)).run P w=.ok (.bool (!r)) w:=vn (P:=P) true u oM oM oM oM;refine tL (ts:=[iY.one Cell.bool]) (!r) ?_ k;show ((do eqGuard .neq t x y (.agg cs) (.agg ds);binOp .neq t (.agg cs) (.agg ds):Sem Kk).run P w)=Result.ok (Value.bool (!r)) w;simp[eqGuard,C,E]
attribute [local irreducible] ld dT iF pC kc fv st new idx kN kG fZ kJ jX nt ib nn call eF inv run fK i3 join loop held ext kC fl oW pD pG IntKind.wrap
def qCw{a b:gK}{x y:Operand}{w:Kj}(k:K (!decide (a=b))): fK [iY.one Cell.bool] (λw'=>(do eqGuard .neq pd x y (dk a.1 a.2) (dk b.1 b.2);binOp .neq pd (dk a.1 a.2) (dk b.1 b.2):Sem Kk).run prog w') w K:=by have e:vT prog 2 pd (dk a.1 a.2) (dk b.1 b.2)=some (bif a.1==b.1 then (bif a.2==b.2 then true else false) else false):=oL;have h:(bif a.1==b.1 then (bif a.2==b.2 then true else false) else false)=decide (a=b):=(by obtain⟨u,C⟩:=a;obtain⟨E,G⟩:=b;dsimp only;by_cases h0:u=E;by_cases h1:C=G;simp[h0,h1];simp[h0,h1];simp[h0]);rw[h] at e;exact qBR 2 oN _ e oL k
end
section
open Go Go.Pt List
open Go.IntKind (wrap)
open Classical
attribute [local irreducible] ld dT iF pC kc fv st new idx kN kG fZ kJ jX nt ib nn call eF inv run fK i3 join loop held ext kC fl oW pD pG IntKind.wrap
variable {K:KL->WP} {w:Kj}
def qqZ{n:Nat}(Y:Kr)(h:∀b∈Y,b<w.heap.size)(J:HG∉Y)(O:Hv w)(C:8<=n)(E:n<=4096)(Q:∀sb pb dbk FD F D w',tj w' Y sb dbk pb FD F D (oU n) ((n-2)-gV (n-2)) (λ_=>([],[]))->Made D n->Fr [] w w'->(∀b∈sb::(FD++F),w.heap.size<=b)->K (pW sb,pW pb) w'): cW 18 [.i n] dH w K:=by exact qie<|qxX (n:=n) Y h J O C E λdbk pb FD F D w1 u R G U=>JK rfl<|qty<|oB (oF [] w1) λr w2 V I o=>Q r pb dbk FD F D w2 ⟨u.q8 I,t6.made C E u.wf,o.at (i:=0) rfl,λhm=>by have:=u.x7.lt r hm;omega⟩ R (G.trans I) λb hb=>(zG.1 hb).elim (λe=>by rw[e,V];exact G.size) (U b)
structure pF (w0 W:Kj) (Y:Kr) (L:Kz) (sb:Nat) (F:Kr) (c:Nat) (bs br:Bk) (ri:oq):Prop where
 own:ed (fY L) W W L
 sB:SB W (fY L++Y) sb F c bs
 rb:RB (fY L++F) W ri br
 fr:Fr [] w0 W
 nL:∀ x∈fY L,w0.heap.size<=x
 nF:∀ x∈F,w0.heap.size<=x
 ns:w0.heap.size<=sb/\sb∉fY L
section
variable {w0 W w':Kj} {Y F F':Kr} {L L':Kz} {sb c:Nat} {bs br bs' br':Bk} {ri r':oq}
def pF.lt(h:pF w0 W Y L sb F c bs br ri):∀x∈fY L++F,x<W.heap.size:=λx u=>(zD.1 u).elim (Bb h.own x) (h.sB.flt x)
def pF.J0(h:pF w0 W Y L sb F c bs br ri)(o:ed (fY L) W w' L'):pF w0 w' Y L' sb F c bs br ri where
 own:=o.mQ
 sB:=h.sB.I9 h.ns.2 o
 rb:=h.rb.j0 (o.fr.mono λx u _=>zH _ u) λx u=>(zD.1 u).elim (λu=>by obtain⟨p,C,rfl⟩:=mem_map.1 u;exact (o.own p C).imp (zH _) id) λu=>.inl (zI _ u)
 fr:=h.fr.j8 o.fr λx u=>.inr (h.nL x u)
 nL:=λx u=>by obtain⟨p,C,rfl⟩:=mem_map.1 u;exact (o.own p C).elim (h.nL _) (zL h.fr.size)
 nF:=h.nF
 ns:=⟨h.ns.1,λu=>by
  obtain⟨p,C,e⟩:=mem_map.1 u;rcases o.own p C with E|E;exact h.ns.2 (by rw[<- e];exact E);have:=h.sB.lt;omega⟩
def pF.sub(h:pF w0 W Y L sb F c bs br ri)(u:L'.Sublist L):pF w0 W Y L' sb F c bs br ri where
 own:=(h.own.sub u).mQ
 sB:=h.sB.y0 λb C=>(zD.1 C).elim (λC=>zH _ ((u.map _).subset C)) (zI _)
 rb:=h.rb.j0 (.refl _ _) λx E=>.inl ((zD.1 E).elim (λC=>zH _ ((u.map _).subset C)) (zI _))
 fr:=h.fr
 nL:=λx E=>h.nL x ((u.map _).subset E)
 nF:=h.nF
 ns:=⟨h.ns.1,λE=>h.ns.2 ((u.map _).subset E)⟩
def pF.qa(h:pF w0 W Y L sb F c bs br ri)(f:Fr [] W w')(u:RB (fY L++F) w' r' br'):pF w0 w' Y L sb F c bs br' r':=
 ⟨(h.own.q8 f).mQ,h.sB.q8 f,u,h.fr.trans f,h.nL,h.nF,h.ns⟩
def pF.q8(h:pF w0 W Y L sb F c bs br ri)(f:Fr [] W w'):pF w0 w' Y L sb F c bs br ri:=h.qa f (h.rb.q8 f)
def pF.qB(h:pF w0 W Y L sb F c bs br ri)(C:SB w' (fY L++Y) sb F' c bs')(s:qd F W F' w'):pF w0 w' Y L sb F' c bs' br ri where
 own:=h.sB.own h.own s
 sB:=C
 rb:=h.rb.j0 (s.fr.mono λx u _=>zI _ u) λx u=>(zD.1 u).elim (λu=>.inl (zH _ u)) λu=>(s.new x u).imp (zI _) id
 fr:=h.fr.j8 s.fr λx u=>.inr (h.nF x u)
 nL:=h.nL
 nF:=λx u=>(s.new x u).elim (h.nF x) (zL h.fr.size)
 ns:=h.ns
end
abbrev wO:oq:=(dR,dR,dR,dR,dR,dR,dR,0,false,dR)
def FP:Bk:=⟨[],[],[],[],[],[],[],none,0⟩
def qBY(S:Kr)(w:Kj):RB S w wO FP:=⟨.nil _ _ _ _,.nil _ _ _ _,.nil _ _ _ _,.nil _ _ _ _,.nil _ _ _ _,.nil _ _ _ _,.nil _ _ _ _,⟨rfl,rfl⟩,[],zM _,.nil _ _ _ _⟩
def pF.start{w0 w':Kj}{Y:Kr}{L:Kz}{sb dbk pb c:Nat}{FD F:Kr}{D:dV}{M:eZ}(o:ed [] w0 w L)(h:tj w' (fY L++Y) sb dbk pb FD F D M c λ_=>([],[]))(E:c<=100000)(f:Fr [] w w')(u:∀b∈sb::(FD++F),w.heap.size<=b):pF w0 w' Y L sb F c FP FP wO where
 own:=(o.q8 f).mQ
 sB:=⟨pb,dbk,FD,D,M,_,h,qBw,E⟩
 rb:=qBY _ _
 fr:=o.fr.trans f
 nL:=λx C=>by obtain⟨p,G,rfl⟩:=mem_map.1 C;exact (o.own p G).elim (λh=>nomatch h) id
 nF:=λx C=>zL o.fr.size (u x (by simp[C]))
 ns:=⟨zL o.fr.size (u sb oM),λI=>by have:=Bb o sb I;have:=u sb oM;omega⟩
def quj{b:Bk}{k:Kp}:(b.gH k).size<=b.size+3:=by have h:=t8 (kf:=pV) (a:=k) (l:=b.jE);have u:=t8 (kf:=qv) (a:=zi k.1) (l:=b.mN);have C:=t8 (kf:=qv) (a:=Cf k.1) (l:=b.mO);unfold Bk.gH Bk.mT Bk.pu Bk.rm Bk.size;dsimp only;omega
def qui{b:Bk}{x:gK×Int}:(b.gj x).size<=b.size+1:=by
 have:=t8 (kf:=λx:gK×Int=>x.1) (a:=x) (l:=b.ki);unfold Bk.gj Bk.size;dsimp only;omega
def qAD{α:Type}{enc:α->List Kk}{k:Nat}{s:Sl}{l:List α}{B:Kr}(u:∀x,(enc x).length=k)(h:fB enc k w s l B){hi:Int}(n:Nat){K:Sl->Prop}(E:hi=n)(G:n<=l.length)(J:∀O,fB enc k w O (l.take n) B->K O):fZ s none (some hi) none k K:=by
 subst E;rcases h with ⟨rfl,rfl,rfl⟩|⟨b,o,R,T,rfl,rfl,U,V,h5,h6,h7,h8⟩;have:n=0:=(oQ G);subst this;exact Ar ⟨Int.le_refl _,Int.le_refl _⟩ (J _ (.inl ⟨rfl,rfl,rfl⟩))
 ·refine Ar ⟨oK,oK⟩ ?_;rw[zJ];have C:(l.take n).length=n:=(by rw[yM];exact xT G);refine J _ (.inr ⟨b,0,R,T,rfl,rfl,U,V,C.symm,by dsimp only;omega,h7,?_⟩);have I:n*k<=l.length*k:=JZ k G;have Q:=Kg (List.take (n*k)) h8;rw[take_take,xT I] at Q;rw[C,Q];conv=>lhs;rw[<- xG n l]
  rw[yR,JN (by rw[rQ u,C];exact zM _)];exact zS (by rw[rQ u,C];exact zM _)
abbrev nT:HL k6->List Kk:=HL.mk k6
def xg(x:HL k6):(nT x).length=10:=rfl
def Iy(x:HL k6):∀u∈nT x,u.oneCell'=true:=all_eq_true.1 rfl
def qBH:∃i,prog.info? Bg=some i/\i.zero=some (.agg (nT AK).toArray)/\i.size=10/\i.bytes=80:=uH oL
def qyX{S:Kr}{r:oq}{b:Bk}{i0 i1 frm to:Int}{down:Bool}{K:Sl->WP}(h:RB S w r b)(hl:b.size<=100000)(kk:∀s B w',fB nT 10 w' s (kj b.iI (i0,i1) frm to down) B->Fr [] w w'->(∀x∈B,w.heap.size<=x)->K s w'): cW 48 [JI fw r,dk i0 i1,.w frm,.w to,.bool down] dp w K:=by
 refine qfK ?_;have aR:b.iI.length<=100000:=(by unfold Bk.size at hl;omega);obtain⟨j,hj,hz,ac,ad⟩:=qBH;unfold kj at kk;refine oB (oF [] w) λr1 w1 _ f1 o=>oB o λr3 w2 _ f2 o=>oB (oF [] w2) λr5 w3 e3 f3 o2=>?_;have ay:=(h.q8 o.fr).iI;have ext:∀n (hn:n<b.iI.length),((b.iI.take (n+1)).filter (mz (i0,i1) frm to)).foldl (λu x=>putAt (mg (ls x.2) down) x.2 u) []=if mz (i0,i1) frm to b.iI[n] then putAt (mg (ls b.iI[n].2) down) b.iI[n].2 (((b.iI.take n).filter (mz (i0,i1) frm to)).foldl (λu x=>putAt (mg (ls x.2) down) x.2 u) []) else ((b.iI.take n).filter (mz (i0,i1) frm to)).foldl (λu x=>putAt (mg (ls x.2) down) x.2 u) []:=λn hn=>by rw[yH hn,xE,foldl_append];by_cases hc:mz (i0,i1) frm to b.iI[n]=true;rw[iP hc,filter_cons,iP hc];rfl;rw[iN hc,filter_cons,iN hc];rfl
 have len:∀n,(((b.iI.take n).filter (mz (i0,i1) frm to)).foldl (λu x=>putAt (mg (ls x.2) down) x.2 u) []).length<=n:=λn=>by
  have:∀(l:List Ln) (u:List (HL k6)),(l.foldl (λu x=>putAt (mg (ls x.2) down) x.2 u) u).length=u.length+l.length:=by
   intro l;induction l with
   | nil=>intro u;rfl
   | cons x l ih=>intro u;rw[foldl_cons,ih,EO.length_eq,yJ,yJ];omega
  rw[this,xM,xU];exact zL (length_filter_le _ _) (by rw[yM];omega)
 refine kx (λt w'=>∃n:Nat,∃B,t.2=n/\n<=b.iI.length/\fB nT 10 w' t.1 (((b.iI.take n).filter (mz (i0,i1) frm to)).foldl (λu x=>putAt (mg (ls x.2) down) x.2 u) []) B/\Fr [] w2 w'/\∀x∈B,w2.heap.size<=x) (λt _=>b.iI.length-t.2.toNat) ⟨0,[r5],rfl,yY _,fB.none (o2.at (i:=0) rfl),f3,λx C=>by rw[zE.1 C];omega⟩ ?_;rintro⟨s,q⟩ w5 ⟨n,B,hq,hn,E,f5,nB⟩ X hX;dsimp only at hq E⊢;subst hq;have o5:=o.q8 f5;have ak:eE nO 12 S w5 r.2.2.2.2.2.2.1 b.iI:=ay.q8 f5;have aX:r.2.2.2.2.2.2.1.len=b.iI.length:=ak.1;refine Ko o5 1 rfl r.2.2.2.2.2.2.1 (eV (λhc=>?_) λhc=>?_)
 ·have J:n<b.iI.length:=(by have:=zC hc;omega);have C:=zA J;have U:=ext n J;have aC:=len n;generalize b.iI[n]=x at C U;generalize ((b.iI.take n).filter (mz (i0,i1) frm to)).foldl (λu x=>putAt (mg (ls x.2) down) x.2 u) []=u at E U aC;refine je (λs' w'=>∃B',fB nT 10 w' s' (((b.iI.take (n+1)).filter (mz (i0,i1) frm to)).foldl (λu x=>putAt (mg (ls x.2) down) x.2 u) []) B'/\Fr [] w2 w'/\∀x∈B',w2.heap.size<=x) ?_ λs' w' ⟨B',b',f',n'⟩=>hX _ _ ⟨n+1,B',by dsimp only;rw[gu _ oK];rfl,J,b',f',n'⟩ (by dsimp only;rw[gu _ oK];omega);rw[U];clear U ext len;refine Ko o5 1 rfl r.2.2.2.2.2.2.1 (eE.pY (x:=x) (y:=(x.1.1,x.1.2,x.2)) ak n rfl C rfl rfl ?_);refine oB o5 λaZ w6 e6 f6 o6=>o6.st' 0 rfl _ (iJ rfl) rfl (zM _) λw7 o7 f7=>?_;have O:Fr [] w5 w7:=f6.j8 f7 λx C=>.inr (by rw[zE.1 C];omega);refine Ko o7 0 rfl (ls x.2)<|th (!mz (i0,i1) frm to x) w7 (λM Q=>?_) ?_;refine Kq o7 0 rfl x.1 (Kq o7 1 rfl (i0,i1) (qCw (a:=x.1) (b:=(i0,i1)) ?_));unfold mz at Q;apply eV<;>intro E;rw[zU (λh=>by rw[yA h.1] at E;cases E)] at Q;exact Q;have h1:x.1=(i0,i1):=zC (oQ E);apply eV<;>intro E
  have:=zC E;rw[zU λh=>oK] at Q;exact Q;have:=zB E;rw[show decide (ls x.2>to) = !decide (x.1=(i0,i1)/\frm<=ls x.2/\ls x.2<=to) by rw[<- decide_not,decide_eq_decide];exact⟨λh1 h=>oK,λh=>by have:¬(ls x.2<=to):=λh2=>h ⟨h1,oK,h2⟩;omega⟩];exact Q;apply eV<;>intro V;rw[iN (by rw[zT,] at V;rw[V];decide)];exact⟨B,E.q8 O,f5.trans O,nB⟩;rw[iP (oQ V)];have b7:=E.q8 O;have ab:s.len=u.length:=E.len;refine kx (λq w'=>∃a:Nat,q=a/\a<=u.length/\w'=w7/\∀y∈u.drop a,mg (ls x.2) down y=true) (λq _=>q.toNat) ⟨u.length,by rw[ab],zM _,rfl,by rw[drop_length];exact λy h=>nomatch h⟩ ?_;rintro q w8 ⟨a,rfl,ha,rfl,hp⟩ Y hY;refine th (if h:a=0 then false else mg (ls x.2) down (u[a-1]' oK)) w8 (λM Q=>?_) ?_;apply eV<;>intro E;have h0:a≠0:=λe=>by have:=zC E;omega
  rw[dif_neg h0] at Q;rw[gu _ oK];exact eE.wZ (c:=.w) (j:=8) (b7.kZ xg (S:=[]) λ_ _ h=>nomatch h) (a-1) oK (zA oK) oN rfl<|Q;have h0:a=0:=(by have:=zB E;omega);rw[dif_pos h0] at Q;exact Q;apply eV<;>intro G
  ·split at G;cases G;next h0=>
   rw[gu _ oK];refine hY _ _ ⟨a-1,oK,oK,rfl,λy hy=>?_⟩ oK;rw[show u.drop (a-1)=u[a-1]' oK::u.drop a by rw[zY oK,show a-1+1=a by omega]] at hy;rcases zG.1 hy with rfl|hy;exact G;exact hp y hy
  have hA:putAt (mg (ls x.2) down) x.2 u=u.take a++x.2::u.drop a:=by
   conv=>lhs;rw[<- xG a u]
   refine qzK hp λA' z e=>?_;have hz:z=u[a-1]'(by
     have:=Kg List.length e;rw[yM,zF,xO] at this;omega):=by
    have hl:=Kg List.length e;rw[yM,zF,xO] at hl;have:=Kg (·[a-1]?) e;simp only[xC,List.getElem?_append] at this;rw[iP,iN,show a-1-A'.length=0 by omega,zA oK] at this;exact (yP this).symm
   have h0:a≠0:=λh=>by subst h;simp at e
   rw[dif_neg h0] at G;rw[hz];exact G
  rw[hA];have z7:=(f5.trans O).size;refine oB o7 λa7 w9 e9 f9 o9=>?_;have R9:eE nT 10 [] w9 s u:=(b7.q8 f9).kZ xg λ_ _ h=>nomatch h;refine eE.part R9 (lo:=some (a:Int)) (hi:=none) a u.length rfl (by rw[<- ab];rfl) ha (zM _) λbb _ am _=>?_;rw[vB] at am;refine xz (e:=Bg) (o9.at (i:=0) rfl) am xg Iy oL hj hz ac rfl (by rw[ad];decide) (by rw[yC];omega) λaF an wa aG fa aH=>?_;have ao:∀x∈an,w8.heap.size<=x:=λx C=>(aH x C).elim (λe=>by rw[e,e9];exact zM _) (zL f9.size);have I:Fr [] w8 wa:=f9.j8 fa λx C=>.inr (by rw[zE.1 C];omega);refine qAD xg (b7.q8 I) a rfl ha λbd aI=>?_;have oa:=(o7.q8 I).drew;have ga:=(Fr.refl [] wa).drew;refine Kq oa 0 rfl x.2 ?_;have lt:(u.take a).length=a:=(by rw[yM];exact xT ha);refine fB.push (e:=Bg) (x:=x.2) (aI.q8 ga) xg (Iy x.2) oL hj hz ac rfl rfl (by rw[ad,lt];omega) oK λbg bh wb aJ fb ap=>?_;have lB:∀x∈B,x<w8.heap.size:=λx C=>b7.lt x C;have R:fB nT 10 wb aF (u.drop a) an:=(aG.q8 ga).j0 fb λx C h=>by have:=ao x C;have:=lB x h;omega
  have ae:=R.len;rw[yC] at ae;refine fB.j2 aJ xg (e:=Bg) oL hj hz ac rfl (wn (e':=Bg) (R.kZ xg (S:=[]) λ_ _ h=>nomatch h) xg Iy oL) R.len ?_ ?_ λbk aK wc aq fc aL _=>⟨aK,?_,?_,?_⟩;rw[zF,lt,xO,ae,ad];omega;rw[zF,lt,xO,ae];omega;rw[zV] at aq;exact aq;exact (((f5.trans O).trans I).trans ga).j8 fb (λx C=>.inr (nB x C)) |>.j8 fc λx C=>.inr ((ap x C).elim (nB x) λh=>by have:=(I.trans ga).size;omega);exact λx C=>(aL x C).elim (λh=>(ap x h).elim (nB x) λh=>by have:=(I.trans ga).size;omega) λh=>by have:=(I.trans ga).size;have:=fb.size;omega
 have J:n=b.iI.length:=(by have:=zB hc;omega);subst J;rw[vB] at E;exact kk s B w5 E ((o.fr).trans f5) λx C=>zL o.fr.size (nB x C)
end
section
open Go Go.Pt List
open Go.IntKind (wrap)
open Classical
variable {K:Option Addr×oq×Bool->WP}
def Il{h u C E G:WP}{w:Kj}{K:Prop}(I:h w)(J:u w)(O:C w)(Q:E w)(R:G w)(k:K):held [h,u,C,E,G] w K:=⟨⟨I,J,O,Q,R⟩,k⟩
attribute [local irreducible] ld dT iF pC kc fv st new idx kN kG fZ kJ jX nt ib nn call eF inv run fK i3 join loop held ext kC fl oW pD pG IntKind.wrap
abbrev c9:Nat:=(900-2)-gV (900-2)
def H7:800<=c9/\c9<=100000:=by decide
abbrev DK:Pn->List Kk:=HL.mk qu
abbrev uW (r:oq):Obj:=JH fw r uN
section
variable {w0:Kj} {Y:Kr} {sb:Nat} {r1 r3 r9:Nat} {o1:Obj}
def Bh (w0:Kj) (Y:Kr) (sb r9 r3 r1:Nat) (o1:Obj) (b:Bk) (W:Kj):Prop:=∃F ri,pF w0 W Y [(r9,uW ri),(r3,uW wO),(r1,o1)] sb F c9 b b ri
def qBu{W w:Kj}{F:Kr}{b:Bk}{ri:oq}{J V O n j:Nat}{t:HL iT}{mv:Option Pa}{ab:Obj}{s:Int}{x:Pn}{a0:Sl}{pp:Option Addr}{X:Int->WP}(h:pF w0 W Y [(r9,uW ri),(r3,uW wO),(r1,o1)] sb F c9 b b ri)(o:ed [r9,r3,r1] W w [(O,.c (kM qU).toArray qb),(J,JH iT t zj),(V,ab),(r9,uW ri),(r3,uW wO),(r1,o1)])(et:rU n j (mI s x) x=t)(Q:qz t (lg b (gL t) (gM t))=mv)(hB:tq n j s b)(hn:2<=n/\n<=8)(hj:j<25)(U:eQ qu x)(ha:a0.len=n)(hg:b.gn=0)(es:wrap .u64 (s+wrap .u64 (1+wrap .u64 (tt x)))=mI s x)(u:∀w',Bh w0 Y sb r9 r3 r1 o1 (mp n j s b x) w'->(mp n j s b x).gn=0->X (mI s x) w'): DV K (kM (mv.getD qU),mv.isSome) O w (sI x) a0 (sM x) X (s,(j:Int)) (tt x) J r9 (pW sb,pp) r3:=by
 unfold DV;dsimp only;rw[es];have aj:(0:Int)<=sI x/\sI x<=255:=U.1;have ak:(0:Int)<=sM x/\sM x<=255:=U.2.1;have aC:(0:Int)<=tt x/\tt x<=255:=U.2.2.2.2.2.1;have aD:=hB.st;have ac:lA (mI s x):=(by unfold mI;exact⟨oK,oK⟩);have em:∀y:Int,0<=y/\y<=255->Int.tmod (wrap .i64 y) (a0.len:Int)=y%(n:Int):=λy hy=>by rw[gu _ oK,ha,JY hy.1]
 rw[em _ aj,em _ ak];have C:eQ iT t:=(by rw[<- et];exact IN (i:=j) (x:=x) hn oK ac U);have ep:mp n j s b x=match (generalizing:=false) mv with
  | none=>b
  | some q=>if sI x%(n:Int)=sM x%(n:Int) then b else sF b t q:=by rw[<- Q,<- et];rfl
 rw[ep] at u;have aF:=hB.many;have aG:b.size<=b.many:=Nat.le_add_right _ _;have hc:=H7;refine mE (rf _) (o.st' 0 rfl _ (iJ rfl) rfl (zM _) λw1 o _=>?_);have E:∀i,eQ fS ((eX b i).getD lC):=λi=>by
  cases U:eX b i with
  | none=>exact BN
  | some a=>exact hB.snd.fit a (uh U).1
 have fD:=E (gL t);have fC:=E (gM t);have skip:((sI x%(n:Int)==sM x%(n:Int))||!mv.isSome)=true->X (mI s x) w1:=λG=>by
  have h2:Bh w0 Y sb r9 r3 r1 o1 b w1:=⟨F,ri,(h.J0 o).sub (.cons _ (.cons _ (.cons _ (.refl _))))⟩;cases mv with
  | none=>exact u w1 h2 hg
  | some q=>
   have he:sI x%(n:Int)=sM x%(n:Int):=(oQ G);dsimp only at u;rw[iP he] at u;exact u w1 h2 hg
 refine th ((sI x%(n:Int)==sM x%(n:Int))||!mv.isSome) w1 (λM hM=>?_) ?_;refine eV (λG=>?_) λG=>?_;rw[G] at hM;exact hM;rw[G] at hM;exact hM;refine eV skip λG=>?_;clear skip;rw[Kb,zR,yF] at G;obtain⟨am,hq⟩:=G;obtain⟨q,rfl⟩:=Option.isSome_iff_exists.1 hq;dsimp only at u o;rw[iN am] at u;obtain⟨f1,f2,_⟩:=qoS C fD fC Q;clear ep Q et;have hk:tH (t,gf t):=⟨C,C.2.2.2.2.2.2.1,C.2.2.2.2.2.2.2.1⟩;have an:=xj;have z1:(b.dZ q.1).size<=b.size+1:=Al;have z2:((b.dZ q.1).dZ q.2.1).size<=(b.dZ q.1).size+1:=Al;have z3:(((b.dZ q.1).dZ q.2.1).gH (t,gf t)).size<=((b.dZ q.1).dZ q.2.1).size+3:=quj;have z4:((((b.dZ q.1).dZ q.2.1).gH (t,gf t)).gj (gQ t,1)).size<=(((b.dZ q.1).dZ q.2.1).gH (t,gf t)).size+1:=qui;refine Kq o 1 rfl t (Kq o 1 rfl (gf t) (tL (ts:=[iY.pE]) (qA (t,gf t)) (qsl (k:=(t,gf t)) _) (oJ o an λao w2 _ o=>mE (pj _) (o.st' 0 rfl _ (iJ rfl) rfl (zM _) λw3 o _=>?_))));have o:=o.drew;have h:=h.J0 o;refine Kq o 4 rfl ri (Kq o 1 rfl q.1 (Kq o 1 rfl q.2.1 (nI (o.at (i:=0) rfl) _ (pj _) rfl (Kq o 2 rfl (gQ t) ?_))));refine Ec h.rb oK h.lt λra wa ha fa=>?_;have h:=h.qa fa ha;refine nA (h.own.cells 2) (vw (h.own.at (i:=0) rfl) _ _ 0 rfl) (h.own.cells 1)<|Ec h.rb oK h.lt λrb wb G fb=>?_;have h:=h.qa fb G;refine kH (h.own.cells 2) (vw (h.own.at (i:=0) rfl) _ _ 0 rfl)<|qvM h.rb oK h.lt λrc wc ap fc=>?_;have h:=h.qa fc ap;refine ja (h.own.cells 2)<|qoh h.rb oK h.lt λrd wd I fd=>?_;have h:=h.qa fd I;refine h.own.st' 4 rfl _ (iJ rfl) rfl (zM _) λwe o _=>?_;have h:=h.J0 o;clear o;refine je (λbo w'=>bo=false/\∃F',pF w0 w' Y [(ao,.c (qA (t,gf t)).toArray zy),(O,.c (kM q).toArray qb),(J,JH iT t zj),(V,ab),(r9,uW rd),(r3,uW wO),(r1,o1)] sb F' c9 ((((b.dZ q.1).dZ q.2.1).gH (t,gf t)).gj (gQ t,1)) ((((b.dZ q.1).dZ q.2.1).gH (t,gf t)).gj (gQ t,1)) rd) ?_ ?_;refine Kq h.own 1 rfl q.1 (Ey h.sB oK f1 λF1 wf h1 s1=>JK rfl ?_);have h:=h.qB h1 s1;refine Kq h.own 1 rfl q.2.1 (Ey h.sB oK f2 λF2 wg h2 s2=>JK rfl ?_);have h:=h.qB h2 s2;refine nI (h.own.at (i:=0) rfl) _ (pj _) rfl (qvS h.sB oK hk λF3 wh h3 s3=>JK rfl ?_);have h:=h.qB h3 s3;refine Kq h.own 2 rfl (gQ t) (qoj h.sB oK ⟨C.1,C.2.1⟩ (show (0:Int)<=1/\(1:Int)<=255 from⟨oN,oN⟩) λF4 wi h4 s4=>⟨rfl,F4,h.qB h4 s4⟩);rintro bo w4 ⟨rfl,F4,h⟩;refine JK rfl (Kq h.own 2 rfl t (qyW C λw5 f5=>?_));have h:=h.q8 f5;have R:((((b.dZ q.1).dZ q.2.1).gH (t,gf t)).gj (gQ t,1)).gn=0:=hg;unfold sF at u;dsimp only at u;generalize (((b.dZ q.1).dZ q.2.1).gH (t,gf t)).gj (gQ t,1)=b4 at h u R z4;cases I:pU t with
 | none=>
  rw[I] at u;exact JK rfl (u w5 ⟨F4,rd,h.sub (.cons _ (.cons _ (.cons _ (.cons _ (.refl _)))))⟩ R)
 | some e=>
  rw[I] at u;have he:lA e:=by unfold pU at I;have hN:(0:Int)<=li t/\li t<=18446744073709551615:=C.2.2.2.2.2.2.2.2.2.2.2.2.2.2.2;have hO:(0:Int)<=mG t/\mG t<=4294967295:=C.2.2.2.2.2.2.2.2.2.2.2.1;split at I;cases I;split at I;cases I;exact⟨oK,oK⟩;cases I
  have ar:eQ jd (e,li t,gQ t):=⟨tc he,C.2.2.2.2.2.2.2.2.2.2.2.2.2.2.2,C.1,C.2.1⟩;refine JJ rfl (Ko h.own 2 rfl (li t) (Kq h.own 2 rfl (gQ t) (oB h.own λaA w6 _ _ o=>o.st' 0 rfl (HL.mk jd (e,li t,gQ t)).toArray (iJ rfl) rfl (zM _) λw7 o _=>?_)));have h:=h.J0 o;clear o;refine Kq h.own 5 rfl rd (Kq h.own 0 rfl (e,li t,gQ t) (qvL h.rb oK h.lt λre w8 h8 f8=>?_));have h:=h.qa f8 h8;refine h.own.st' 5 rfl _ (iJ rfl) rfl (zM _) λw9 o _=>?_;have h:=h.J0 o;clear o;refine Kq h.own 0 rfl (e,li t,gQ t) (qvQ h.sB oK ar λF5 au av aw=>JK rfl ?_);have h:=h.qB av aw;exact u au ⟨F5,re,h.sub (.cons _ (.cons _ (.cons _ (.cons _ (.cons _ (.refl _))))))⟩ R
end
end
section
open Go Go.Pt List
open Go.IntKind (wrap)
open Classical
attribute [local irreducible] ld dT iF pC kc fv st new idx kN kG fZ kJ jX nt ib nn call eF inv run fK i3 join loop held ext kC fl oW pD pG IntKind.wrap
variable {K:Option Addr×oq×Bool->WP} {l la:List (HL fS)} {lp:List Pn}
abbrev CL (a0 a1:Sl):Obj:=.c #[a0.v,a1.v] 25
def xv (l:List (HL fS)) (i:Nat):Bk:=⟨(mZ l).take i,[],[],[],[],[],[],none,0⟩
def qAB:xv l l.length=wW l:=by unfold xv wW;rw[zS (by rw[mZ,length_mapIdx];exact zM _)]
def qAC{i:Nat}(h:i<l.length):(xv l i).dZ (pZ i l[i])=xv l (i+1):=by
 have C:i<(mZ l).length:=(by rw[mZ,length_mapIdx];exact h);have e:(mZ l)[i]=pZ i l[i]:=(by simp only[mZ,getElem_mapIdx]);unfold Bk.dZ xv;dsimp only;rw[EV,yH C,e];intro x E u;obtain⟨j,G,rfl⟩:=mem_take_iff_getElem.1 E;simp only[mZ,getElem_mapIdx] at u;have:=Kg Prod.snd u;have:(j:Int)+1=(i:Int)+1:=this;omega
def qy9{i:Nat}:(xv l i).size<=i:=by have:((mZ l).take i).length<=i:=length_take_le _ _;unfold xv Bk.size;simpa using this
def qzb{w:Kj}{Y:Kr}{a0 a1:Sl}(ay:∀b∈Y,b<w.heap.size)(hY:HG∉Y)(hv:Hv w)(ha:eE sq 15 [] w a0 la)(hp:eE DK 7 [] w a1 lp)(fa:∀a∈la,eQ fS a)(fp:∀x∈lp,eQ qu x)(V:la.length<=8)(aV:lp.length<=25)(kk:∀sb F ri w',SB w' Y sb F c9 (jm la lp)->RB F w' ri (jm la lp)->(∀x∈F,w.heap.size<=x)->w.heap.size<=sb->Fr [] w w'->K (pW sb,ri,true) w'): cW 9 [.agg #[a0.v,a1.v]] [.one .ptr,.agg fw,.one .bool] w K:=by
 refine qhT ?_;have hc:=H7;have am:a0.len=la.length:=ha.1;have aY:a1.len=lp.length:=hp.1;have hz:=xd;refine oB (oF [] w) λr1 w1 e1 f1 o=>oB o λr3 w2 e2 f2 o=>?_;have g1:r1<w2.heap.size:=fq (o.at (i:=1) rfl);have g3:r3<w2.heap.size:=fq (o.at (i:=0) rfl);have a5:=hv.lt;have z1:=f1.size;have z2:=f2.size;refine qqZ (n:=900) (r3::r1::Y) (λb hb=>?_) (λhm=>?_) (hv.q8 o.fr) oN oN λsb pb dbk FD F D w3 hS hM f3 n3=>JK rfl ?_;rcases zG.1 hb with rfl|hb;exact g3;rcases zG.1 hb with rfl|hb;exact g1;have:=ay b hb;omega;rcases zG.1 hm with e|hm;omega;rcases zG.1 hm with e|hm;omega;exact hY hm;have h:=pF.start (Y:=Y) o hS hc.2 f3 n3;clear o hS hM;refine oB h.own λr9 w4 _ _ o=>?_;have h:=h.J0 o;clear o;refine Ko h.own 2 rfl a0<|kx (λx W=>∃i:Nat,∃F ri,x=i/\i<=la.length/\pF w W Y [(r9,uW ri),(r3,uW wO),(r1,CL a0 a1)] sb F c9 (xv la i) (xv la i) ri) (λx _=>la.length-x.toNat) ⟨0,F,wO,rfl,yY _,h⟩ ?_;clear h;rintro x W ⟨i,F,ri,rfl,hi,h⟩ X hX;apply cD<;>intro C;have G:i<la.length:=oK;have hs:=qy9 (l:=la) (i:=i);have hf:=qtt (i:=i) oK (fa _ (zX G));refine eE.pY (ha.q8 h.fr) i rfl (zA G) rfl rfl ?_;have eu:wrap .u64 (wrap .u64 (i:Int)+1)=(i:Int)+1:=(by rw[rz (i:Int) ⟨oK,oK⟩,rz _ ⟨oK,oK⟩]);rw[eu];refine oB h.own λa' w5 _ _ o=>o.st' 0 rfl _ (iJ rfl) rfl (zM _) λw6 o _=>o.st' 0 rfl (HL.mk fS (pZ i la[i])).toArray rfl rfl (zO rfl) λw7 o _=>?_;have h:=h.J0 o;clear o;have ab:=qAC G;generalize pZ i la[i]=a at h hf ab;refine Kq h.own 1 rfl ri (Kq h.own 0 rfl a (Ec h.rb oK h.lt λrb w8 h8 f8=>?_));have h:=h.qa f8 h8;refine h.own.st' 1 rfl _ (iJ rfl) rfl (zM _) λw9 o _=>?_;have h:=h.J0 o;clear o;refine Kq h.own 0 rfl a (Ey h.sB oK hf λF2 ad aA aB=>JK rfl ?_);have h:=h.qB aA aB;rw[ab] at h;rw[gu _ oK];exact hX _ _ ⟨i+1,F2,rb,rfl,G,h.sub (.cons _ (.refl _))⟩ oK;have G:i=la.length:=oK;subst G;rw[qAB] at h;refine je (λ_ W=>Bh w Y sb r9 r3 r1 (CL a0 a1) (jm la lp) W) ?_ ?_;refine Ko h.own 2 rfl a1 ?_;clear hX;refine kx (λq W=>∃j:Nat,∃b,q.2=j/\j<=lp.length/\Bh w Y sb r9 r3 r1 (CL a0 a1) b W/\b.gn=0/\(2<=la.length->tq la.length j q.1 b/\ph la.length j q.1 b (lp.drop j)=jm la lp)/\(la.length<2->b=wW la)) (λq _=>lp.length-q.2.toNat) ⟨0,wW la,rfl,yY _,⟨F,ri,h⟩,rfl,λE=>⟨tq.start V fa,by unfold jm;rw[iN];rfl⟩,λ_=>rfl⟩ ?_;clear h;rintro⟨s,q⟩ W ⟨j,b,hq,hj,⟨F,ri,h⟩,hg,I,ao⟩ X hX;dsimp only at hq I⊢;subst hq;apply cD<;>intro C;have J:j<lp.length:=oK;have hx:=zA J;have u:=fp _ (zX J);have hd:=zY J;rw[hd] at I;generalize lp[j]=x at hx u I;refine je (λy W=>2<=la.length/\y=mI s x/\Bh w Y sb r9 r3 r1 (CL a0 a1) (mp la.length j s b x) W/\(mp la.length j s b x).gn=0) ?_ ?_;refine eE.pY (hp.q8 h.fr) j rfl hx rfl rfl<|oB h.own λaC w5 _ _ o=>o.st' 0 rfl (HL.mk qu x).toArray (iJ rfl) rfl (zM _) λw6 o _=>Ko o 3 rfl a0 (eV (λae=>?_) λae=>?_);have E:la.length<2:=(by have:=zC ae;omega);have hb:=ao E;have eb:jm la lp=b:=(by unfold jm;rw[iP E,hb]);rw[eb];exact⟨F,ri,(h.J0 o).sub (.cons _ (.refl _))⟩;have E:2<=la.length:=(by have:=zB ae;omega);obtain⟨I,ap⟩:=I E;have aE:(0:Int)<=sI x/\sI x<=255:=u.1;have aF:(0:Int)<=sM x/\sM x<=255:=u.2.1;have bi:(0:Int)<=tt x/\tt x<=255:=u.2.2.2.2.2.1;have aG:(0:Int)<=Av x/\Av x<=65535:=u.2.2.2.2.2.2;have bj:=I.st;have es:wrap .u64 (s+wrap .u64 (1+wrap .u64 (tt x)))=mI s x:=by rw[rz (tt x) ⟨oK,oK⟩,rz (1+tt x) ⟨oK,oK⟩,rz (s+(1+tt x)) ⟨oK,oK⟩];rfl
 have em:∀y:Int,0<=y/\y<=255->wrap .u64 (wrap .u64 (Int.tmod (wrap .i64 y) (a0.len:Int))+1)=y%(la.length:Int)+1:=λy hy=>by have m:0<=y%(la.length:Int)/\y%(la.length:Int)<la.length:=⟨Int.emod_nonneg _ oK,Int.emod_lt_of_pos _ oK⟩;rw[gu _ oK,am,JY hy.1,rz (y%(la.length:Int)) ⟨oK,oK⟩,rz (y%(la.length:Int)+1) ⟨oK,oK⟩]
 have og:=o.drew;refine Ko og 0 rfl (sI x) (mE oK (Ko og 0 rfl (sM x) (mE oK (Ko og 0 rfl (tt x) (Kq og 0 rfl (Hz x) (Ko og 0 rfl (Av x) (Ko og 0 rfl (pnT x) ?_)))))));rw[es,em _ aE,em _ aF,rz (j:Int) ⟨oK,oK⟩];refine oB og λaH w7 _ _ o=>o.st' 0 rfl (HL.mk iT (rU la.length j (mI s x) x)).toArray (iJ rfl) rfl (zM _) λw8 o _=>?_;have o:=o.drew;have hR:=(h.J0 o).rb;have bl:b.size<=b.many:=Nat.le_add_right _ _;have bm:=I.many;have ag:b.size<=100000:=oK;have aq:lA (mI s x):=(by unfold mI;exact⟨oK,oK⟩);have ht:=IN (i:=j) (x:=x) ⟨E,V⟩ oK aq u;have aa:hasB (ku (rU la.length j (mI s x) x)) 2=true:=(qx4 (x:=Av x) ⟨aG.1,oK⟩).2;have O:∀i,eQ fS ((eX b i).getD lC):=λi=>by
  cases hx:eX b i with
  | none=>exact BN
  | some a=>exact I.snd.fit a (uh hx).1
 have fD:=O (gL (rU la.length j (mI s x) x));have fC:=O (gM (rU la.length j (mI s x) x));generalize et:rU la.length j (mI s x) x=t at o ht aa fD fC;have ah:∀ {Q:Nat} {w9:Kj},ed [r9,r3,r1] W w9 [(Q,.c (kM qU).toArray qb),(aH,JH iT t zj),(aC,JH qu x 81),(r9,uW ri),(r3,uW wO),(r1,CL a0 a1)]->_:=λ{Q w9} o=>qBu (pp:=pW pb) (K:=K) (X:=λy W=>2<=la.length/\y=mI s x/\Bh w Y sb r9 r3 r1 (CL a0 a1) (mp la.length j s b x) W/\(mp la.length j s b x).gn=0) h o et rfl I ⟨E,V⟩ oK u am hg es λw' ai aj=>⟨E,rfl,ai,aj⟩;refine⟨?_,?_,?_⟩;refine Kq o 0 rfl t (Kq o 0 rfl (gf t) (Kq o 2 rfl ri (Kq o 0 rfl (gL t) (Kq o 0 rfl (gM t) (Bs (i:=gL t) (j:=gM t) hR ag λw9 R=>kH ((o.q8 R).cells 0) ((o.q8 R).cells 0) (Hg ht aa fD fC λad U=>oJ ((o.q8 R).q8 U) hz λQ ar _ o=>Il (o.cells 1) (o.cells 1) (o.cells 3) (o.cells 1) (o.cells 1) (ah o)))))));refine Kq o 0 rfl t (Kq o 0 rfl (gf t) (Kq o 2 rfl ri (Kq o 0 rfl (gL t) (Kq o 0 rfl (gM t) (Bs (i:=gL t) (j:=gM t) hR ag λw9 R=>kH ((o.q8 R).cells 0) ((o.q8 R).cells 0) (oJ (o.q8 R) hz λQ ar _ o=>Il (o.cells 1) (o.cells 1) (o.cells 3) (o.cells 1) (o.cells 1) (Hg ht aa fD fC λad U=>ah (o.q8 U))))))));refine Kq o 0 rfl t (Kq o 0 rfl (gf t) (Kq o 2 rfl ri (Kq o 0 rfl (gL t) (Kq o 0 rfl (gM t) (oJ o hz λQ ar _ o=>Il (o.cells 1) (o.cells 1) (o.cells 3) (o.cells 1) (o.cells 1) (Bs (i:=gL t) (j:=gM t) (h.J0 o).rb ag λw9 R=>kH ((o.q8 R).cells 1) ((o.q8 R).cells 1) (Hg ht aa fD fC λad U=>ah ((o.q8 R).q8 U))))))));rintro y W' ⟨E,rfl,ai,aj⟩;obtain⟨I,ap⟩:=I E;rw[gu _ oK];exact hX _ _ ⟨j+1,_,rfl,J,ai,aj,λ_=>⟨I.wq ⟨E,V⟩ oK u,ap⟩,λh=>oK⟩ oO;have J:j=lp.length:=oK;subst J;have eb:jm la lp=b:=by
  by_cases E:la.length<2;unfold jm;rw[iP E,ao E];have:=(I oK).2;rw[drop_length,ph] at this;exact this.symm
 rw[eb];exact⟨F,ri,h⟩;rintro _ W' ⟨F,ri,h⟩;have o:=h.own.drew;refine Kq o 0 rfl ri (o.st' 1 rfl _ (iJ rfl) rfl (zM _) λw' o _=>Kq o 1 rfl ri ?_);have h:=h.J0 o;exact kk sb F ri w' (h.sB.y0 λ_ h=>zI _ h) (h.rb.j0 (.refl _ _) λx hx=>.inl (zI _ hx)) h.nF h.ns.1 h.fr
def qtU(C:la.length<=8)(R:lp.length<=25)(U:∀a∈la,eQ fS a)(V:∀x∈lp,eQ qu x):tM (jm la lp)/\(jm la lp).many<=258/\(jm la lp).due.length<=25/\(jm la lp).gn=0:=by
 have go:∀(l:List Pn) (i:Nat) (s:Int) (b:Bk),2<=la.length->i+l.length<=25->(∀x∈l,eQ qu x)->tq la.length i s b->b.due.length<=i->b.gn=0->∃J,tq la.length (i+l.length) J (ph la.length i s b l)/\(ph la.length i s b l).due.length<=i+l.length/\(ph la.length i s b l).gn=0:=by
  intro l;induction l with
  | nil=>exact λi s b _ _ _ h G u=>⟨s,h,G,u⟩
  | cons x l ih=>
   intro i s b O hi Q h G u;rw[yJ] at hi;have E:(mp la.length i s b x).due.length<=i+1/\(mp la.length i s b x).gn=0:=by
    unfold mp;dsimp only;split;exact⟨oK,u⟩;split;exact⟨oK,u⟩;unfold sF;dsimp only;split;exact⟨by show b.due.length<=_;omega,u⟩;refine⟨?_,u⟩;show (kX _ (i9 _ b.due)).length<=_;rw[D8.length_eq,yJ];have:=(DE (d:=(‹Int›,li (rU la.length i (mI s x) x),gQ (rU la.length i (mI s x) x))) (l:=b.due)).length_le;omega
   have:=ih (i+1) (mI s x) (mp la.length i s b x) O oK (λy hy=>Q y (zN _ hy)) (h.wq ⟨O,C⟩ oK (Q x JP)) E.1 E.2;rw[yJ,show i+(l.length+1)=i+1+l.length by omega];exact this
 have I:=tq.start C U;unfold jm;split;have:=I.many;exact⟨I.snd,oK,yY _,rfl⟩;obtain⟨J,h,G,u⟩:=go lp 0 1 (wW la) oK oK V I (zM _) rfl;rw[xU] at h G;have:=h.many;exact⟨h.snd,oK,oK,u⟩
end
section
open Go Go.ChangeShapes Go.WideShapes Go.ChangeAt Go.RowKit Go.Pt
def Cs:List Cell->List Kk->Prop
 | [],[]=>True
 | c::h,v::vs=>(∃x:c.El,v=c.mk x/\vV c x)/\Cs h vs
 | _,_=>False
def Cs.vv:∀ {a b:List Cell} {u v:List Kk},Cs a u->Cs b v->Cs (a++b) (u++v)
 | [],b,[],v,_,h=>h
 | c::a,b,x::u,v,h,g=>⟨h.1,Cs.vv h.2 g⟩
 | [],_,_::_,_,h,_=>h.elim
 | _::_,_,[],_,h,_=>h.elim
def Cs.split:∀ {a b:List Cell} {vs:List Kk},Cs (a++b) vs->∃u v,vs=u++v/\Cs a u/\Cs b v
 | [],b,vs,h=>⟨[],vs,rfl,trivial,h⟩
 | c::a,b,x::vs,h=>by obtain⟨u,v,e,C,E⟩:=Cs.split h.2;exact⟨x::u,v,by rw[e];rfl,⟨h.1,C⟩,E⟩
 | _::_,_,[],h=>h.elim
def Cs.hl:∀ {cs:List Cell} {vs:List Kk},Cs cs vs->∃x:HL cs,vs=HL.mk cs x/\eQ cs x
 | [],[],_=>⟨(),rfl,trivial⟩
 | [c],[v],h=>by obtain⟨x,u,C⟩:=h.1;exact⟨x,by rw[u];rfl,C⟩
 | c::E::cs,v::vs,h=>by obtain⟨x,u,C⟩:=h.1;obtain⟨y,G,I⟩:=Cs.hl (cs:=E::cs) h.2;exact⟨(x,y),by rw[u,G];rfl,C,I⟩
 | [],_::_,h=>h.elim
 | [_],[],h=>h.elim
 | [_],_::_::_,h=>h.2.elim
 | _::_::_,[],h=>h.elim
def uT (P:Km) (f:Kl->Option (List Cell)):Nat->List Field->Option (List Cell)
 | _,[]=>some []
 | k,x::h=>bif Nat.beq x.offset k then match f x.type with
  | some a=>bif Nat.beq (P.cellsOf x.type) a.length then (uT P f (k+a.length) h).map (a++·) else none
  | none=>none else none
def wp (P:Km):Nat->Kl->Option (List Cell)
 | 0,_=>none
 | d+1,t=>match P.underlying t with
  | some (.int k)=>some [.int k]
  | some .bool=>some [.bool]
  | some (.struct u)=>match uT P (wp P d) 0 u.toList with
   | some h=>bif Nat.beq (P.cellsOf t) h.length then some h else none
   | none=>none
  | _=>none
section
variable {H:Type} {enc:Kl×Kk->H} {P:Km} {W:Kj} {base:Nat} {spare:Nat->Bool} {held:Bool}
def qsn{f:Kl->Option (List Cell)}{cells:List Kk}(I:∀t cs,f t=some cs->∀n vs y,DataW.trod enc P W base spare held n t vs=some y->Cs cs vs):∀ {u:List Field} {k:Nat} {cs:List Cell},uT P f k u=some cs-> (∀x∈u,∃n y,DataW.trod enc P W base spare held n x.type ((cells.drop x.offset).take (P.cellsOf x.type))=some y)->Cs cs ((cells.drop k).take cs.length)
 | [],k,cs,h,_=>by cases h;exact trivial
 | x::u,k,cs,h,J=>by
  unfold uT at h;cases C:Nat.beq x.offset k with
  | false=>rw[C] at h;cases h
  | true=>
   rw[C] at h;cases E:f x.type with
   | none=>rw[E] at h;cases h
   | some a=>
    rw[E] at h;dsimp only [_root_.cond_true] at h;cases G:Nat.beq (P.cellsOf x.type) a.length with
    | false=>rw[G] at h;cases h
    | true=>
     rw[G] at h;obtain⟨b,Q,rfl⟩:=yU.1 h;have ih:=qsn (cells:=cells) I Q λz R=>J z (zN _ R);obtain⟨n,y,O⟩:=J x JP;rw[yX C,yX G] at O;rw[zF,List.take_add,xF];exact (I _ _ E _ _ _ O).vv ih
def qso:∀(d:Nat) (t:Kl) (cs:List Cell),wp P d t=some cs->∀n vs y,DataW.trod enc P W base spare held n t vs=some y->Cs cs vs
 | 0,_,_,h,_,_,_,_=>nomatch h
 | d+1,t,cs,h,n,vs,y,u=>by
  unfold wp at h;split at h
  ·next k hu=>
   cases h;obtain⟨m,C,_,O⟩:=DataW.trod_int hu u;rw[C];exact⟨⟨m,rfl,qyI O⟩,trivial⟩
  ·next hu=>
   cases h;obtain⟨m,C,_⟩:=DataW.trod_bool hu u;rw[C];exact⟨⟨m,rfl,trivial⟩,trivial⟩
  ·next fs hu=>
   split at h
   ·next cs' hd=>
    cases E:Nat.beq (P.cellsOf t) cs'.length with
    | false=>rw[E] at h;cases h
    | true=>
     rw[E] at h;cases h;obtain⟨Q,m,_,_,I,R,U⟩:=DataW.trod_struct hu u
     have:=qsn (cells:=vs) (qso d) hd λx V=>by obtain⟨i,hi,rfl⟩:=List.getElem_of_mem V;have G:i<fs.size:=(oQ hi);have J:=U i fs[i] (by simp[G]);rw[zA (show i<Q.length by omega)] at J;exact⟨_,_,by simpa using J⟩
     rw[xH,zS (by have:=yX E;omega)] at this;exact this
   cases h
  cases h
def qAH:∀n C y,DataW.trod enc prog W base spare held n qb C=some y->∃p:Pa,C=kM p/\eQ fS p.1/\eQ fS p.2.1:=λn C y h=>by have E:=qso 5 qb (fS++(fS++[.bool,.bool])) oL n C y h;obtain⟨u,v,rfl,G,I⟩:=E.split;obtain⟨u2,R,rfl,J,O⟩:=I.split;obtain⟨a,rfl,Q⟩:=G.hl;obtain⟨b,rfl,fb⟩:=J.hl;obtain⟨q,rfl,_⟩:=O.hl;exact⟨(a,b,q.1,q.2),by unfold kM;rw[zV];rfl,Q,fb⟩
end
end
end Go.Proofs.YtfneoijhmknlnaaGreatDoor
namespace Go.Pt
section
open Go
def qpw{D:Nat}{w:Kj}{K:WP}(h:w.heap[D]?=some (.deferred (some [])))(k:∀w',Fr [D] w w'->K w'):Pt.fl D w K:=⟨h,k _ (rI (fq h) _)⟩
def qCd{h u C E G:WP}{w:Kj}{K:Prop}(I:h w)(J:u w)(O:C w)(Q:E w)(R:G w)(k:K):held [h,u,C,E,G] w K:=⟨⟨I,J,O,Q,R⟩,k⟩
end
end Go.Pt
namespace Go.Proofs.YtfneoijhmknlnaaGreatDoor
open Go.Proofs.Tryz (prog)
section
open Go Go.Pt List
open Classical
attribute [local irreducible] ld dT iF pC kc fv st new idx kN kG fZ kJ jX nt ib nn call eF inv run fK i3 join loop held ext kC fl oW pD pG IntKind.wrap
abbrev FO:FuncId:=91
def rF (w:Kj) (v:Kk) (sb:Nat) (i:gK) (frm to:Int) (down:Bool):Prop:=∃(r1 r3 h u r9:Nat) (T1 C E G I:Kl),v=.func (.func FO) #[] #[dQ r1,dQ r3,dQ h,dQ u,dQ r9]/\
 w.heap[r1]?=some (.c #[dQ sb] T1)/\w.heap[r3]?=some (.c #[.w i.1,.w i.2] C)/\w.heap[h]?=some (.c #[.w frm] E)/\w.heap[u]?=some (.c #[.w to] G)/\w.heap[r9]?=some (.c #[.bool down] I)
def rF.q8{w w':Kj}{v:Kk}{sb:Nat}{i:gK}{frm to:Int}{down:Bool}(h:rF w v sb i frm to down)(f:Fr [] w w'):rF w' v sb i frm to down:=by
 obtain⟨r1,r3,C,E,r9,T1,G,I,J,O,e,Q,R,U,V,c9⟩:=h;have u:∀ {b:Nat} {o:Obj},w.heap[b]?=some o->w'.heap[b]?=some o:=λh=>by rw[f.block _ (fq h) λh=>nomatch h];exact h
 exact⟨r1,r3,C,E,r9,T1,G,I,J,O,e,u Q,u R,u U,u V,u c9⟩
def qyY{w:Kj}{sb:Nat}{i:gK}{frm to:Int}{down:Bool}{K:Kk->WP}(h:∀v w',rF w' v sb i frm to down->Fr [] w w'->K v w'): cW 49 [dQ sb,dk i.1 i.2,.w frm,.w to,.bool down] dC w K:=by exact qky<|oB (oF [] w) λr1 w1 _ _ o=>oB o λr3 w2 _ _ o=>oB o λu G _ _ o=>oB o λC I _ _ o=>oB o λr9 E _ _ o=>h _ E ⟨r1,r3,u,C,r9,_,_,_,_,_,rfl,o.at (i:=4) rfl,o.at (i:=3) rfl,o.at (i:=2) rfl,o.at (i:=1) rfl,o.at (i:=0) rfl⟩ o.fr
structure Jk (yield:Kk) (Yc:Kr) (wb:Kj) (L:List (HL k6)) (I:Nat->WP) (E:WP):Prop where
 stay:∀ i W W' Z,I i W->Fr Z W W'->(∀ b∈Z,wb.heap.size<=b)->I i W'
 ww:∀ W W' Z,E W->Fr Z W W'->(∀ b∈Z,wb.heap.size<=b)->E W'
 take:∀ i (hi:i<L.length) W (K:Bool->WP),I i W->wb.heap.size<=W.heap.size->(∀ W',Fr Yc W W'->I (i+1) W'->K true W')->(∀ W',Fr Yc W W'->E W'->K false W')->eF prog yield [.agg (HL.mk k6 L[i]).toArray] dr W K
def qw8{w:Kj}{Y Yc F:Kr}{sb c l0:Nat}{b:Bk}{i:gK}{frm to:Int}{down:Bool}{v0:Kk}{lb:List Kk}{I:Nat->WP}{E:WP}{K:Unit->WP}(hv:v0=.func (.func FO) #[] lb.toArray)(hR:rF w v0 sb i frm to down)(hS:SB w Yc sb F c b)(hi:ln i)(hf:lA frm)(ht:lA to)(hl:b.size<=90000)(hY:Jk (.func (.yield l0) #[] #[]) Yc w (kj b.iI i frm to down) I E)(h0:I 0 w)(k1:∀O,I (kj b.iI i frm to down).length O->K () O)(k2:∀O,E O->K () O): cW FO (.func (.yield l0) #[] #[]::lb) [] w K:=by
 obtain⟨q1,q3,q5,q7,q9,T1,T3,T5,T7,T9,e,c1,c3,c5,c7,c9⟩:=hR;rw[e] at hv;have aU:lb=[dQ q1,dQ q3,dQ q5,dQ q7,dQ q9]:=by
  injection hv with _ _ h3;simpa using (Kg Array.toList h3).symm
 subst aU;obtain⟨pb,ai⟩:=hS;refine qh7<|oB (oF [] w) λr1 w1 e1 f1 o=>?_;have o:=o.drew;have nh:∀ {x:Nat},x∉([]:Kr):=λh=>nomatch h;refine jG (o.np c1 nh) (pW sb) rfl (ai.u7 o.fr ?_);refine vr (o.np c3 nh) i rfl (jG (o.np c5 nh) frm rfl (vr (o.np c3 nh) i rfl (jG (o.np c7 nh) to rfl (jG (o.np c9 nh) down rfl ?_))));refine Ck λbM bN aV aW=>?_;have o2:=o.q8 aW;have V:∀ {w':Kj} {b aB:Nat} {cs:Array Kk} {T:Kl} {v:Kk},w'.heap[b]?=some (.c cs T)->cs[aB]?=some v->w'.cell? (dm b aB)=some v:=λh C=>by rw[kA h];exact C
 refine qCd (V (o2.np c9 nh) rfl) (V (o2.np c7 nh) rfl) (vw (o2.np c3 nh) _ _ 0 rfl) (ai.held o2.fr) (V (o2.np c1 nh) rfl)<|Ck λbO bP aX aC=>?_;have o3:=o2.q8 aC;refine nA (V (o3.np c9 nh) rfl) (ai.held o3.fr) (V (o3.np c1 nh) rfl) ?_;have aj:∀n,(gP i n).length=24:=λn=>zw _ _;refine qAv (S:=[]) rfl (aV.rd.q8 aC) aX.rd (by rw[aj];decide) (by rw[aj];decide) λaY bQ WB hW nW aZ=>?_;obtain⟨bR,am⟩:∃lb:List Kk,aY=.func (.func WF) #[] lb.toArray:=by obtain⟨r1,r3,r5,r7,r9,s1,s2,B1,B2,e,_⟩:=hW.val;exact⟨[_,_,_,_,_],e⟩
 have o4:=o3.q8 aZ;refine ed.kC o4 am oL λD l R B J X E0 w9 el eD f9 h hy=>?_;obtain⟨dbk,FD,Dm,M,Fo,aq,hb,hc⟩:=ai;have ql:w9.heap[l]?=some R:=h.at (i:=0) rfl;have qD:w9.heap[D]?=some (.deferred (some [])):=h.at (i:=1) rfl;obtain⟨Ty,qy⟩:∃T,w9.heap[r1]?=some (.c #[.func (.yield l0) #[] #[]] T):=⟨_,h.at (i:=2) rfl⟩;have nl:w.heap.size<=l:=(h.own (l,R) oM).resolve_left λh=>nomatch h;have nD:w.heap.size<=D:=(h.own (D,.deferred (some [])) oM).resolve_left λh=>nomatch h;have n1:w.heap.size<=r1:=oK;obtain⟨af,aG,bX⟩:l≠D/\l≠r1/\D≠r1:=by have:=h.nodup;simp at this;exact⟨this.1.1,this.1.2,this.2⟩
 have gl:=fq ql;have gD:=fq qD;have g1:=fq qy;have sw:=h.fr.size;have f0:Fr [] w w9:=h.fr;have hT:TW dbk pb FD Dm 5000 w9 (l::Yc) F M:=aq.tw.A5 (B:=[l]) (f0.mono λ_ h _=>nomatch h) λx C=>by rw[zE.1 C];exact⟨nl,gl⟩
 have a0:∀x∈Yc,x<w.heap.size:=aq.tw.tA;have b3:=hb.iI.len;have hz:b.iI.length<=b.size:=(by unfold Bk.size;omega);have ar:=qwG (down:=down) hb.iI hi hf ht;clear h o o2 o3 o4;have G:∀ {Z:Kj} {u y:Nat} {o v:Obj},u<Z.heap.size->u≠y->Z.heap[y]?=some v->(Z.putObj u o).heap[y]?=some v:=λ{Z u y o v} hl hy hu=>((rI hl o).block y (fq hu) λhm=>hy (zE.1 hm).symm).trans hu;have au:∀ {Z:Kj} {u:Nat} {o:Obj},u<Z.heap.size->(Z.putObj u o).heap[u]?=some o:=λ{Z u o} hl=>(qX Z u o u hl).trans (iP rfl);have aH:∀ {W O:Kj},Fr [l] W O->Fr (l::Yc) W O:=λf=>f.mono λx C _=>by rw[zE.1 C];simp
 have a1:∀ {W O:Kj},Fr Yc W O->Fr (l::Yc) W O:=λf=>f.mono λx C _=>zN _ C;have aa:∀ {x:Nat},x∈[l]->w.heap.size<=x:=λC=>by rw[zE.1 C];exact nl
 refine qyZ (t:=6) (pb:=pb) (L:=(Fo 6).1) (P:=(Fo 6).2) (k:=24) (v:=65) (Yc:=l::Yc) (I:=λn Z=>I n Z/\Z.heap[l]?=some R/\Z.heap[r1]?=some (.c #[.func (.yield l0) #[] #[]] Ty)/\Z.heap[D]?=some (.deferred (some []))/\w9.heap.size<=Z.heap.size) (E:=λZ=>E Z/\Z.heap[l]?=some (J 0)/\Z.heap[D]?=some (.deferred (some [])))
  am (hW.j0 f9 λ_ _ h=>nomatch h) hT rfl ⟨oN,aq.st.J0.J1 6 oN⟩ oK (by rw[aj];decide) (by rw[aj];decide) (Dg _ _) (Dg _ _) ⟨λn Z Z' U ⟨z1,z2,z3,z4,z5⟩ f hU=>?_,λn hn Z ks vs C1 C2 K' ⟨z1,z2,z3,z4,z5⟩ p1 p2 nC b9 kT kE=>?_⟩ ⟨hY.stay 0 w w9 [] h0 f0 λb hb=>(nomatch hb),ql,qy,qD,zM _⟩ (λZ ⟨z1,z2,z3,z4,z5⟩=>.inl ⟨z2,?_⟩) λZ ⟨z1,z2,z4⟩=>.inr ⟨0,_,rfl,z2,?_⟩
 have nU:∀x,x<w9.heap.size->x∉U:=λx C hm=>by have:=hU x hm;omega
 exact⟨hY.stay n Z Z' U z1 f λx C=>zL sw (hU x C),by rw[f.block _ (fq z2) (nU _ gl)];exact z2,by rw[f.block _ (fq z3) (nU _ g1)];exact z3,by rw[f.block _ (fq z4) (nU _ gD)];exact z4,zL z5 f.size⟩;have gZ:=fq z2;have aJ:n<(kj b.iI i frm to down).length:=by
  have:=hn;rw[ar,zK] at this;exact this
 have aK:(iw down (gP i frm) (gP i to) (Fo 6).1)[n]=(gP i (ls (kj b.iI i frm to down)[n]),qQ (kj b.iI i frm to down)[n]):=(by simp only[ar,getElem_map]);rw[aK] at p1 p2;generalize hr:(kj b.iI i frm to down)[n]=r at p1 p2;have a5:eQ k6 r:=(by have hm:r∈kj b.iI i frm to down:=(by rw[<- hr];exact zX aJ);obtain⟨x,C,e⟩:=qyt hm;rw[<- e];exact (hb.iI.2 x C).2);refine hy (ks,vs) Z K' z2 ⟨z2,?_⟩;have fu:Fr [l] Z (Z.putObj l B):=rI gZ B;have yl:(Z.putObj l B).heap[l]?=some B:=au gZ;have y1:=G (o:=B) gZ aG z3;have yD:=G (o:=B) gZ af z4;have iB:I n (Z.putObj l B):=hY.stay n _ _ [l] z1 fu λx C=>aa C;generalize Z.putObj l B=Zb at fu yl y1 yD iB⊢;have aL:∀x∈C1++C2,x∉[l]:=λx C hm=>by
  have:=nC x C;rw[zE.1 hm] at this;omega
 have b1:=(gA.cV (p1.j0 fu λx C=>aL x (by simp[C])) λx _=>(by simp:x∉([]:Kr)));have b2:=(gA.cV (p2.j0 fu λx C=>aL x (by simp[C])) λx _=>(by simp:x∉([]:Kr)));refine qvD (x:=i) (r:=r) b1 b2 hi a5 λwa fa=>oB (oF [] wa) λcg wb _ fb o=>oB o λch wc _ fc o=>o.st' 1 rfl _ (iJ rfl) rfl (zM _) λwd o _=>o.st' 0 rfl _ (iJ rfl) rfl (zM _) λwe o _=>?_;have fe:Fr [] Zb we:=fa.trans o.fr;have aw:∀ {y:Nat} {v:Obj},Zb.heap[y]?=some v->we.heap[y]?=some v:=λhv=>by rw[fe.block _ (fq hv) λh=>nomatch h];exact hv
 have ie:I n we:=hY.stay n _ _ [] iB fe λx C=>nomatch C;have se:w9.heap.size<=we.heap.size:=zL z5 (zL fu.size fe.size);have a9:∀ {x:Nat},w.heap.size<=x->x∉Yc:=λC hm=>by have:=a0 _ hm;omega
 have a':Fr (l::Yc) Z we:=(aH fu).trans (fe.mono λ_ h _=>nomatch h);refine je (λq O=>(q=false/\I (n+1) O\/q=true/\E O)/\Fr Yc we O) ?_ ?_;refine JJ rfl (jG (aw y1) (.func (.yield l0) #[] #[]) rfl (Kq o 0 rfl r ?_));rw[<- hr];exact hY.take n aJ we _ ie (zL sw se) (λO f i'=>⟨.inl ⟨rfl,i'⟩,f⟩) λO f e'=>⟨.inr ⟨rfl,e'⟩,f⟩;rintro q O ⟨hq,f'⟩;have ab:∀ {y:Nat} {v:Obj},w.heap.size<=y->Zb.heap[y]?=some v->O.heap[y]?=some v:=λhy hv=>by rw[f'.block _ (fq (aw hv)) (a9 hy)];exact aw hv
 have ax:=ab nl yl;have Q:=fq ax;have ff:∀o',Fr (l::Yc) Z (O.putObj l o'):=λo'=>(a'.trans (a1 f')).trans (aH (rI Q o'));have ss:∀o',w9.heap.size<=(O.putObj l o').heap.size:=λo'=>zL se (zL f'.size (rI Q o').size);rcases hq with ⟨rfl,i'⟩|⟨rfl,e'⟩;refine JK rfl ⟨ax,kT _ (ff R) ⟨hY.stay _ _ _ [l] i' (rI Q R) λx C=>aa C,au Q,G Q aG (ab n1 y1),G Q af (ab nD yD),ss R⟩⟩;exact JJ rfl ⟨ax,kE _ ⟨hY.ww _ _ [l] e' (rI Q (J 0)) λx C=>aa C,au Q,G Q af (ab nD yD)⟩⟩;have gZ:=fq z2;rw[ar,zK] at z1;have f1:=rI gZ E0;refine qpw (G gZ af z4) λw' f2=>k1 w' (hY.stay _ _ _ [D] (hY.stay _ _ _ [l] z1 f1 λx C=>aa C) f2 λx C=>by rw[zE.1 C];exact nD);have gZ:=fq z2;have f1:=rI gZ (X 0);refine qpw (G gZ af z4) λw' f2=>k2 w' (hY.ww _ _ [D] (hY.ww _ _ [l] z1 f1 λx C=>aa C) f2 λx C=>by rw[zE.1 C];exact nD)
end
section
open Go Go.Pt List
open Go.IntKind (wrap)
open Classical
variable {w:Kj}
def qCl{P:Km}{m:Kr}{K:WP}(h:∀D∈m,w.heap[D]?=some (.deferred (some [])))(u:m.Nodup)(C:∀w',Fr m w w'->K w'):i3 ((jJ m).run P w) K:=by obtain⟨w',E,G⟩:=qpr (P:=P) h u;exact⟨w',E,C w' G⟩
def H8{P:Km}{f:Kl->Kk->Kk->Option Bool}{C:Array Kk}(u:∀t x r,f t x x=some r->r=true):∀ {E:List Field} {r:Bool},sU P f C C E=some r->r=true
 | [],r,h=>by simp[sU] at h;exact h
 | x::E,r,h=>by simp only[sU] at h;split at h;split at h;rename_i a b I G;rw[I] at G;cases G;split at h;rename_i r1 q J O;cases h;rw[u _ _ _ J,H8 u O];rfl;cases h;cases h;exact H8 u h
def qqJ{P:Km}{f:Kl->Kk->Kk->Option Bool}{e n:Nat}{u:Array Kk}(C:∀t x r,f t x x=some r->r=true):∀ {is:Kr} {r:Bool},tX P f e n u u is=some r->r=true
 | [],r,h=>by simp[tX] at h;exact h
 | i::is,r,h=>by simp only[tX] at h;split at h;rename_i a b G E;rw[G] at E;cases E;split at h;rename_i r1 q I J;cases h;rw[C _ _ _ I,qqJ C J];rfl;cases h;cases h
def IL{P:Km}:∀(d:Nat) (t:Kl) (x:Kk) (r:Bool),vT P d t x x=some r->r=true
 | 0,_,_,_,h=>nomatch h
 | d+1,t,x,r,h=>by
  unfold vT at h;split at h
  ·next heq=>cases heq;cases h;exact beq_self_eq_true _
  ·next heq=>cases heq;simp at h;exact h
  ·next heq=>cases heq;cases h;exact beq_self_eq_true _
  ·next heq=>
   cases heq;cases u:P.stoodInHeld t with
   | true=>rw[u] at h;cases h
   | false=>rw[u] at h;exact H8 (IL d) h
  ·next heq=>
   cases heq;next _ e _ _=>
   cases u:pH P e with
   | false=>rw[u] at h;cases h
   | true=>rw[u] at h;exact qqJ (IL d) h
  cases h
def Eu{P:Km}{t:Kl}{x y:Operand}{cs:Array Kk}{K:Bool->Prop}(d:Nat)(C:d<=10000)(h:(vT P d t (.agg cs) (.agg cs)).isSome=true)(E:P.eqGuardType P.depth t=false)(k:K false): fK [iY.one Cell.bool] (λw'=>(do eqGuard .neq t x y (.agg cs) (.agg cs);binOp .neq t (.agg cs) (.agg cs):Sem Kk).run P w') w K:=by
 obtain⟨r,u⟩:=Option.isSome_iff_exists.1 h;have:=IL _ _ _ _ u;subst this;exact qBR d C true u E k
attribute [local irreducible] ld dT iF pC kc fv st new idx kN kG fZ kJ jX nt ib nn call eF inv run fK i3 join loop held ext kC fl oW pD pG IntKind.wrap
def I3{α κ:Type}[DecidableEq κ]{kf:α->κ}{a:α}:∀ {l:List α},(l.map kf).Nodup->a∈l->(l.find? λx=>decide (kf x=kf a))=some a
 | x::r,h,u=>by rw[xQ,JO] at h;rcases zG.1 u with rfl|u;rw[List.find?_cons,yA rfl];rw[List.find?_cons,zU λe=>h.1 (by rw[e];exact zZ u)];exact I3 h.2 u
abbrev C8T:Kl:=118
def qy3{Y F S:Kr}{sb c:Nat}{b:Bk}{ri:oq}{K:Bool->WP}(hS:SB w Y sb F c b)(hR:RB S w ri b)(hl:b.size<=90000)(kk:∀w',Fr [] w w'->K true w'): cW 17 [dQ sb,JI fw ri] dr w K:=by
 refine qhS ?_;have hS:=hS.y0 (Y':=[]) λ_ h=>nomatch h;obtain⟨T,hb⟩:=hS.hb;have aN:=xj;refine oB (oF [] w) λr1 w1 _ f1 o=>oB o λr3 w2 _ f2 o=>?_;have og:=o.drew;refine Kq og 1 rfl ri (qvN (hS.q8 og.fr) λw3 f3=>ja ((og.q8 f3).cells 1) (qvK (hR.q8 (og.fr.trans f3)) oK λw4 f4=>?_));refine Eu (t:=C8T) 2 oN oL oL (JK rfl ?_);have o:=(og.q8 f3).q8 f4;clear og;refine Ko o 1 rfl ri.1 ?_;have b7:ri.1.len=b.acc.length:=hR.acc.1;have b8:ri.2.1.len=b.jE.length:=hR.jE.1;have zz:b.acc.length+b.jE.length+b.iI.length<=b.size:=(by unfold Bk.size;omega);have bi:(b.acc.map gB).Nodup:=hb.acc.nodup;have bj:(b.jE.map pV).Nodup:=hb.jE.nodup;refine kx (λq W=>∃i:Nat,q.1=i/\i<=b.acc.length/\ed [] w W [(r3,.c #[.bool false] 4),(r1,JH fw ri uN)]/\q.2.Nodup/\Fr [] w4 W/\∀D∈q.2,W.heap[D]?=some (.deferred (some []))/\w4.heap.size<=D) (λq _=>b.acc.length-q.1.toNat) ⟨0,rfl,yY _,o,nodup_nil,.refl _ _,λ_ h=>nomatch h⟩ ?_;have l3:=fq (o.at (i:=0) rfl);have l1:=fq (o.at (i:=1) rfl);dsimp only at l1 l3;clear o;rintro⟨q,ms⟩ W ⟨i,hq,hi,o,ax,aO,af⟩ X hX;dsimp only at hq ax af⊢;subst hq;apply cD<;>intro hc;have an:i<b.acc.length:=oK;have Q:=zX an;have O:=zA an;generalize b.acc[i]=a at Q O;have aP:=hb.acc.2 a Q;have aQ:ln (gB a):=⟨aP.1,aP.2.1⟩;have ay:eX b (gB a)=some a:=I3 bi Q;refine eE.pY (hR.q8 o.fr).acc i rfl O rfl rfl<|oB (oF [] W) λbk wa _ fa C=>C.st' 0 rfl _ (iJ rfl) rfl (zM _) λwb C _=>Kq C 0 rfl (gB a) (FJ (hS.q8 (o.fr.trans C.fr)) aQ λwc fc=>?_);rw[show eX b ((gB a).1,(gB a).2)=some a from ay];refine oB (C.q8 fc) λbl wd _ _ C=>C.st' 0 rfl _ (iJ rfl) rfl (zM _) λwe C _=>th false we (λM hM=>JK rfl (Kq C 0 rfl a (Kq C 1 rfl a (Eu (t:=47) 3 oN oL oL hM)))) (JK rfl ?_);refine Kq (o.q8 C.fr) 1 rfl ri (Kq C 1 rfl (gB a) (qyX (hR.q8 (o.fr.trans C.fr)) oK λV aT wf az ff nB=>?_));have C:=C.q8 ff;have ch:=fq (C.at (i:=1) rfl);refine oB C λac wg cj fg C=>C.st' 0 rfl _ (iJ rfl) rfl (zM _) λwh C fh=>oB C λG wi ck fi C=>C.st' 0 rfl _ (iJ rfl) rfl (zM _) λwj C fj=>Kq C 3 rfl (gB a) (qyY λbn wk hV fk=>?_);have C:=C.q8 fk;obtain⟨lb,aV⟩:∃lb:List Kk,bn=.func (.func FO) #[] lb.toArray:=by obtain⟨r1,r3,r5,r7,r9,_,_,_,_,_,e,_⟩:=hV;exact⟨[_,_,_,_,_],e⟩
 have bp:=fq (C.at (i:=1) rfl);have bq:=fq (C.at (i:=0) rfl);dsimp only at bp bq;have z1:=fg.size;have z2:=fh.size;have z3:=fi.size;have z4:=fj.size;have au:fB nT 10 wk V (kj b.iI (gB a) 0 18446744073709551615 false) aT:=by
  have fx:Fr [ac,G] wf wj:=((fg.mono λ_ h _=>nomatch h).trans (fh.mono λx O _=>by rw[zE.1 O];simp)).trans ((fi.mono λ_ h _=>nomatch h).trans (fj.mono λx O _=>by rw[zE.1 O];simp));exact (az.j0 fx λx O h=>by
   have:=az.lt x O;simp only[zG,xZ,or_false] at h;omega).q8 fk
 have lB:∀x∈aT,x<wf.heap.size:=az.lt;refine ed.kC C aV oL λD l R B J E E0 w9 el eD f9 h hy=>?_;have bv:SB w9 [l,G] sb F c b:=((hS.q8 o.fr).J0 h).y0 λx O=>zH _ (by simp only[zG,xZ,or_false] at O;rcases O with rfl|rfl<;>simp[fY]);obtain⟨aW,ao⟩:∃T,w9.heap[ac]?=some (.c #[V.v] T):=⟨_,h.at (i:=3) rfl⟩;obtain⟨bx,aX⟩:∃T,w9.heap[G]?=some (.c #[.i 0] T):=⟨_,h.at (i:=2) rfl⟩;have ql:w9.heap[l]?=some R:=h.at (i:=0) rfl;have qD:w9.heap[D]?=some (.deferred (some [])):=h.at (i:=1) rfl;have bz:Fr [] W w9:=h.fr;have oD:W.heap.size<=D:=(h.own (D,.deferred (some [])) oM).resolve_left λh=>nomatch h;have ol:W.heap.size<=l:=(h.own (l,R) oM).resolve_left λh=>nomatch h;have cq:W.heap.size<=G:=(by have:=(h.own _ (yG (i:=2) rfl)).resolve_left λh=>nomatch h;exact this);have aa:[l,D,G,ac,bl,bk].Nodup:=h.nodup;have bA:l≠D:=λe=>(nodup_cons.1 aa).1 (by simp[e]);have ae:l≠G:=λe=>(nodup_cons.1 aa).1 (by simp[e]);have ai:l≠ac:=λe=>(nodup_cons.1 aa).1 (by simp[e]);have aY:D≠G:=λe=>(nodup_cons.1 (nodup_cons.1 aa).2).1 (by simp[e]);have aj:G≠ac:=λe=>(nodup_cons.1 (nodup_cons.1 (nodup_cons.1 aa).2).2).1 (by simp[e]);clear h C;have gl:=fq ql;have gD:=fq qD;have sk:=fk.size;have s9:=f9.size;have aZ:V.len=(kj b.iI (gB a) 0 18446744073709551615 false).length:=au.len;have bB:eE nT 10 [l,G] w9 V (kj b.iI (gB a) 0 18446744073709551615 false):=(au.q8 f9).kZ xg λx O Q=>by
  have:=lB x O;simp only[zG,xZ,or_false] at Q;omega
 have bC:(kj b.iI (gB a) 0 18446744073709551615 false).length<=90000:=by
  have:=qys (l:=b.iI) (i:=gB a) (frm:=0) (to:=18446744073709551615) (down:=false);omega
 have ab:∀ {Z:Kj} {u y:Nat} {o v:Obj},u<Z.heap.size->u≠y->Z.heap[y]?=some v->(Z.putObj u o).heap[y]?=some v:=λ{Z u y o v} hl hy hu=>((rI hl o).block y (fq hu) λQ=>hy (zE.1 Q).symm).trans hu;have a0:∀ {Z:Kj} {u:Nat} {o:Obj},u<Z.heap.size->(Z.putObj u o).heap[u]?=some o:=λ{Z u o} hl=>(qX Z u o u hl).trans (iP rfl);have aB:∀ {Z Z':Kj},Fr [l] Z Z'->Fr [l,G] Z Z':=λf=>f.mono λx O _=>by rw[zE.1 O];simp
 refine qw8 (Y:=[]) (Yc:=[l,G]) (I:=λn Z=>Z.heap[l]?=some R/\Z.heap[G]?=some (.c #[.i n] bx)/\Fr [l,G] w9 Z) (E:=λ_=>False) aV (hV.q8 f9) bv aQ ⟨oN,oN⟩ ⟨oN,oN⟩ hl ⟨λn Z Z' U ⟨y1,y2,y3⟩ f hU=>?_,λ_ _ _ h=>h.elim,λn hn Z K' ⟨y1,y2,y3⟩ cu kT _=>?_⟩ ⟨ql,aX,.refl _ _⟩ (λZ ⟨y1,y2,y3⟩=>.inl ⟨y1,?_⟩) λ_ h=>h.elim;have nU:∀x,x<w9.heap.size->x∉U:=λx O Q=>by have:=hU x Q;omega
 exact⟨by rw[f.block _ (fq y1) (nU _ gl)];exact y1,by rw[f.block _ (fq y2) (nU _ (fq aX))];exact y2,y3.j8 f λx O=>.inr (hU x O)⟩;generalize hr:(kj b.iI (gB a) 0 18446744073709551615 false)[n]=r;have a1:=zA hn;rw[hr] at a1;refine hy r Z K' y1 (oB (oF [] Z) λbD za _ fa o=>o.st' 0 rfl _ (iJ rfl) rfl (zM _) λzb o _=>?_);have a2:Fr [] Z zb:=o.fr;have aD:∀ {y:Nat} {v:Obj},Z.heap[y]?=some v->zb.heap[y]?=some v:=λhv=>by rw[a2.block _ (fq hv) λh=>nomatch h];exact hv
 have yl:=aD y1;have ak:=fq yl;have bE:l≠bD:=λe=>by
  have h1:=(o.own _ (yG (i:=0) rfl)).resolve_left λh=>nomatch h
  have:=fq y1;dsimp only at h1;omega
 refine⟨yl,?_⟩;have fu:Fr [l] zb (zb.putObj l B):=rI ak B;have xl:(zb.putObj l B).heap[l]?=some B:=a0 ak;have ad:=ab (o:=B) ak ae (aD y2);have a4:=ab (o:=B) ak bE (o.at (i:=0) rfl);have bF:Z.heap[ac]?=some (.c #[V.v] aW):=by rw[y3.block _ (fq ao) λQ=>by simp only[zG,xZ,or_false] at Q;exact Q.elim (λe=>ai e.symm) λe=>aj e.symm];exact ao
 have al:=ab (o:=B) ak ai (aD bF);have fz:Fr [l,G] Z (zb.putObj l B):=(a2.mono λ_ h _=>nomatch h).trans (aB fu);have a5:eE nT 10 [l,G] (zb.putObj l B) V (kj b.iI (gB a) 0 18446744073709551615 false):=bB.j0 (y3.trans fz) λx O=>.inl O;generalize zb.putObj l B=Zb at fz fu xl ad a4 al a5⊢;refine th false Zb.drew (λM hM=>?_) ?_;refine jG (w:=Zb.drew) ad (n:Int) rfl (jG (w:=Zb.drew) al V rfl (JK (zU oK) ?_));refine vr (w:=Zb.drew) a4 r rfl (jG (w:=Zb.drew) al V rfl (jG (w:=Zb.drew) ad (n:Int) rfl (eE.pY (w:=Zb.drew) (a5.q8 (Fr.refl [] Zb).drew) n rfl a1 rfl rfl ?_)));exact Eu (t:=Bg) 4 oN oL oL hM;refine JK rfl (jG (w:=Zb.drew) ad (n:Int) rfl ?_);refine tU (w:=Zb.drew) ad #[.i ((n+1:Nat):Int)] (by rw[gu _ oK];rfl) rfl (zO rfl) λzc hd fc=>?_;have a6:Fr [G] Zb zc:=((Fr.refl [] Zb).drew.mono λ_ h _=>nomatch h).trans fc;have cl:zc.heap[l]?=some B:=(by rw[a6.block _ (fq xl) λQ=>ae (zE.1 Q)];exact xl);have gc:=fq cl;have fe:Fr [l,G] Z (zc.putObj l R):=(fz.trans (a6.mono λx O _=>by rw[zE.1 O];simp)).trans (aB (rI gc R));exact⟨cl,kT _ fe ⟨a0 gc,ab gc ae hd,y3.trans fe⟩⟩;have gZ:=fq y1;have fu:Fr [l] Z (Z.putObj l E0):=rI gZ E0;have aE:Fr [l,G] w9 (Z.putObj l E0):=y3.trans (aB fu);have ad:=ab (o:=E0) gZ ae y2;have al:(Z.putObj l E0).heap[ac]?=some (.c #[V.v] aW):=by rw[aE.block _ (fq ao) λQ=>by simp only[zG,xZ,or_false] at Q;exact Q.elim (λe=>ai e.symm) λe=>aj e.symm];exact ao
 have xD:(Z.putObj l E0).heap[D]?=some (.deferred (some [])):=(by rw[aE.block _ gD λQ=>by simp only[zG,xZ,or_false] at Q;exact Q.elim (λe=>bA e.symm) aY];exact qD);have fW:Fr [] W (Z.putObj l E0):=bz.j8 aE λx O=>.inr (by simp only[zG,xZ,or_false] at O;rcases O with rfl|rfl<;>assumption);refine jG ad _ rfl (jG al V rfl (JK (by rw[aZ,beq_self_eq_true];rfl) ?_));rw[gu _ oK];have sW:=o.fr.size;refine hX _ _ ⟨i+1,rfl,an,o.q8 fW,nodup_cons.2 ⟨λQ=>?_,ax⟩,aO.trans fW,λx O=>?_⟩ oO;have:=fq (af D Q).1;omega;rcases zG.1 O with rfl|O;exact⟨xD,zL aO.size oD⟩;exact⟨(fW.block _ (fq (af x O).1) λh=>nomatch h).trans (af x O).1,(af x O).2⟩;have an:i=b.acc.length:=oK;clear hX;refine Ko o 1 rfl ri.2.1<|kx (λq W'=>∃n:Nat,q=n/\n<=b.jE.length/\Fr [] W W') (λq _=>b.jE.length-q.toNat) ⟨0,rfl,yY _,.refl _ _⟩ ?_;rintro q W' ⟨n,rfl,hn,fW⟩ X hX;have o':=o.q8 fW;apply cD<;>intro hc;have aH:n<b.jE.length:=oK;have Q:=zX aH;have O:=zA aH;generalize b.jE[n]=k at Q O;have hk:=hb.jE.2 k Q;have a8:ln (pV k):=⟨hk.1.1,hk.1.2.1⟩;have ay:iG b (pV k)=some k:=I3 bj Q;refine eE.i4 (hR.q8 o'.fr).jE pj n rfl O (oJ (oF [] W') aN λcz wa _ C=>mE (pj k) (C.st' 0 rfl _ (iJ rfl) rfl (zM _) λwb C _=>Kq C 0 rfl (pV k) (quD (hS.q8 (o'.fr.trans C.fr)) a8 λwc fc=>?_)));rw[show iG b ((pV k).1,(pV k).2)=some k from ay];refine oJ (C.q8 fc) aN λb1 wd _ C=>mE (pj k) (C.st' 0 rfl _ (iJ rfl) rfl (zM _) λwe C _=>?_);have o3:=C.drew;refine je (λq w'=>q=false/\Fr [] W' w') (JK rfl (nI (o3.at (i:=0) rfl) _ (pj k) rfl (nI (o3.at (i:=1) rfl) _ (pj k) rfl (Eu (t:=zy) 5 oN oL oL (JK rfl ?_))))) ?_;refine Kq o3 1 rfl (pV k) (Kq (o'.q8 o3.fr) 1 rfl ri (Kq o3 1 rfl (pV k) (qAt (hS.q8 (o'.fr.trans o3.fr)) a8 λwf ff=>kH ((o3.q8 ff).cells 1) (((o'.q8 o3.fr).q8 ff).cells 1) (qAr (hR.q8 ((o'.fr.trans o3.fr).trans ff)) oK λwg fg=>⟨?_,(o3.fr.trans ff).trans fg⟩))));rw[beq_self_eq_true];rfl;rintro q w' ⟨rfl,f'⟩;rw[gu _ oK];exact JK rfl (hX _ _ ⟨n+1,rfl,aH,fW.trans f'⟩ oK);refine o'.st' 0 rfl #[.bool true] rfl rfl (zO rfl) λwe C fe=>?_;have aI:∀D∈ms,we.heap[D]?=some (.deferred (some []))/\w4.heap.size<=D:=λD hD=>by have h1:=af D hD;have h2:W'.heap[D]?=some (.deferred (some [])):=(by rw[fW.block _ (fq h1.1) λh=>nomatch h];exact h1.1);exact⟨by rw[fe.block _ (fq h2) λQ=>by have:=zE.1 Q;omega];exact h2,h1.2⟩
 refine qCl (λD hD=>(aI D hD).1) ax λwf ff=>?_;have o3:=C.j0 ff (λD hD=>.inr (zL (by have:=f1.size;have:=f2.size;have:=f3.size;have:=f4.size;have:w2.heap.size=w2.drew.heap.size:=rfl;omega) (aI D hD).2)) λp hp Q=>by
  have:=(aI _ Q).2;simp only[set_cons_zero,zG,xZ,or_false] at hp;rcases hp with rfl|rfl<;>(dsimp only at this;omega)
 exact Ko o3 0 rfl true (kk wf o3.fr)
end
end Go.Proofs.YtfneoijhmknlnaaGreatDoor
