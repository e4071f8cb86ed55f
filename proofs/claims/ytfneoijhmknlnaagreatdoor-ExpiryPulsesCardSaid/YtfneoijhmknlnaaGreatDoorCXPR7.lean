/- Conditions: those that stand in each line. -/
import Derived.Test.YtfneoijhmknlnaaGreatDoorCXPR6
import Derived.Test.YtfneoijhmknlnaaGreatDoorCXPR3
import Derived.Test.YtfneoijhmknlnaaGreatDoorCXPR1
import Derived.Test.YtfneoijhmknlnaaGreatDoorCXPR4
set_option linter.unusedVariables false
set_option linter.unusedSimpArgs false
set_option linter.defProp false
namespace Go.Pt
section
open Go
def qzN{o:Obj}{w:Kv}{H:WP}{R:Nat->WP}(h:Pt.new o w R)(u:∀w',Fr [] w w'->H w'):Pt.new o w λr w1=>held [H] w1 (R r w1):=⟨u _ ((Fr.refl [] w).alloc o),h⟩
end
end Go.Pt
namespace Go.Proofs.YtfneoijhmknlnaaGreatDoor
open Go.Proofs.Tryz (prog)
section
open Go Go.Pt List
open Classical
attribute [local irreducible] ld dT iH pK ku fw st new idx kZ kM gb kV ke nz ig nn call eF inv run fM i9 join loop held ext kJ ft pw pQ pT IntKind.wrap
abbrev FT:Kx:=231
def qBP:∃i,prog.info? FT=some i/\i.zero=some (.agg di)/\i.size=5/\i.bytes=88:=uN oL
def qB8{w:Kv}{s:Sl}{zs:List sC}{SB:KD}{x:lJ}{n:dW}{i:Int}{H:WP}{K:Sl->WP}(h:fB jW 5 w s zs SB)(Q:zs.length<=1000000)(G:∀w',Fr [] w w'->H w')(I:∀E B' w',fB jW 5 w' E (zs++[(x,n,i)]) B'->Fr SB w w'->(∀b∈B',b∈SB\/w.heap.size<=b)->K E w'): Pt.new (.cells (Dq x i) FT) w λr w1=>held [H] w1 (Pt.run dp ((Builtin.append_ #[222,222] 222 #[s.v,.slice (pW r) 1 1]).run prog w1) K):=by obtain⟨j,J,O,u,C⟩:=qBP;exact qzN (fB.push (e:=FT) (x:=((x,n,i):sC)) h AD (qxF _) oL J O u rfl rfl (by rw[C];omega) oK I) G
section
variable {dbk pb:Nat} {FD F:KD} {D:dV} {M:eZ} {k v:Nat} {frm to:Key} {down:Bool} {w0 w wA:Kv} {cb:Nat} {Y SB:KD} {st:Sl} {zs:List sC} {x:lJ} {n:dW} {i:Int}
def qsK{S:KD}{K:Int->WP}(h:gU dbk pb FD D F M k v frm to down w0 cb Y w st SB zs)(u:eY (cb::(SB++Y)) w x n)(C:gz n.J5)(E:n.J5.length<=1000000)(G:∀w',Fr [] w w'->K (k8 down frm to n) w'):eF prog (pj cb down) [.agg (fE x)] dq w K:=by
 obtain⟨R,J,I,O,Q⟩:=h.cell;cases down with
 | false=>exact Cg (ra:=[dQ cb]) rfl oL (qzp I u O h.A8 C E G)
 | true=>exact Cg (ra:=[dQ cb]) rfl oL (qxr I u Q h.Jx C E G)
def qyU{K:Int->WP}(hi:-1000000<=i/\i<=1000000)(h:K (ln down i) w):eF prog (oT cb down) [.i i] dq w K:=by
 cases down with
 | false=>exact Cg (ra:=[dQ cb]) rfl oL (qCy hi h)
 | true=>exact Cg (ra:=[dQ cb]) rfl oL (qAT hi h)
def qBl{ks:Sl}{key:Key}{K:Bool->WP}(h:gU dbk pb FD D F M k v frm to down w0 cb Y w st SB zs)(u:eO (cb::(SB++Y)) w ks key)(C:fq key)(E:K (pI down frm to key) w):eF prog (qn cb down) [ks.v] dr w K:=by
 obtain⟨Q,I,G,J,O⟩:=h.cell;cases down with
 | false=>exact Cg (ra:=[dQ cb]) rfl oL (qzd G u O C h.Jx E)
 | true=>exact Cg (ra:=[dQ cb]) rfl oL (qzl G u J C h.A8 E)
def gU.J0{T:KD}{L:KK}(C:gU dbk pb FD D F M k v frm to down w0 cb Y wA st SB zs)(h:ed T wA w L)(E:∀b∈T,b∈Y):gU dbk pb FD D F M k v frm to down w0 cb Y w st SB zs:=
 C.j0 (h.fr.mono λb u _=>E b u) (λb u=>.inl u) λb u=>yE (C.lt b (by simp[u])) h.fr.size
def eY.Ba{T:KD}{L:KK}(C:eY (cb::(SB++Y)) wA x n)(h:ed T wA w L)(E:∀b∈T,b∈Y):eY (cb::(SB++Y)) w x n:=
 C.j0 (h.fr.mono λb u _=>by simp[E b u]) λb u=>.inl u
def qrp{T:KD}{C E:Nat}{X:Int->WP}{K:Unit->WP}(hA:gU dbk pb FD D F M k v frm to down w0 cb Y wA st SB zs)(hN:eY (cb::(SB++Y)) wA x n)(h:ed T wA w [(C,.c (Dq gp 0) FT),(E,.c (fE x) ND)])(hT:∀b∈T,b∈Y)(hl:zs.length+1<=100000)(ag:gx n k v)(hI:n.Q3=false->∃j:Nat,i=j/\j<n.J8.length)(G:∀w' st' SB',gU dbk pb FD D F M k v frm to down w0 cb Y w' st' SB' (zs++[(x,n,i)])->Fr (cb::(SB++T)) wA w'->(∀b∈SB',b∈SB\/wA.heap.size<=b)->if n.Q3 then K () w' else X (n.J8.getD i.toNat 0) w'): FI (pW cb) K C x i w E X:=by
 unfold FI;refine oE h 0 rfl (Dq x i) λw1 h f1=>?_;have h:=oG h;have hC:=hA.J0 h hT;refine gV (hC.rX ?_);refine KC h 0 rfl (x.1,x.2.1,x.2.2.1,x.2.2.2,i)<|qB8 (x:=x) (n:=n) (i:=i) hC.wP oK (λw' f=>?_) λs' B' w2 ah f2 n2=>?_;obtain⟨sf,ax,T,J⟩:=(hC.q8 f).at
 exact kD J;refine gV ?_;have O:=fl (h.at (i:=1) rfl);have Q:=fl (h.at (i:=0) rfl);have aj:=h.fr.size;have ak:=hN.Ba h hT;refine hC.wm w2 f2 ah (λz hz=>(zD.1 hz).imp id λhz=>?_) n2 (by rw[zF];exact hl) λR h3 f3=>?_;rw[zE.1 hz];refine⟨ak.j0 (f2.mono λb u _=>by simp[u]) λb u=>?_,ag⟩;rcases zG.1 u with rfl|u;exact .inl oM;rcases zD.1 u with u|u;exact (n2 b u).imp (λh=>by simp[h]) id;exact .inl (by simp[u]);have f4:Fr (cb::(SB++T)) wA R:=(h.fr.mono λb u _=>by simp[u]).trans (f3.mono λb u _=>by rcases zG.1 u with rfl|u<;>simp[*]);have U:∀r,r∈T\/wA.heap.size<=r->r∉cb::SB:=λr V hm=>by
  rcases V with V|V;rcases zG.1 hm with rfl|hm;exact hA.C8 (hT _ V);exact hA.Bp r hm (hT r V);have:=hA.lt r (by rcases zG.1 hm with rfl|hm<;>simp[*]);omega
 have ab:R.heap[E]?=some (.c (fE x) ND):=(by rw[f3.block E O (U E (h.own (E,.c (fE x) ND) oM))];exact h.at (i:=1) rfl);have an:R.heap[C]?=some (.c (Dq x i) FT):=(by rw[f3.block C Q (U C (h.own (C,.c (Dq x i) FT) oM))];exact h.at (i:=0) rfl);have G:=G R s' B' h3 f4 λb u=>(n2 b u).imp id λh=>zL aj h;have I:x.1=n.Q3:=hN.1;refine jH ab x.1 rfl ?_;apply eV<;>intro J;rw[<- I,J,iP rfl] at G;exact G;rw[<- I,J,iN oN] at G;refine jH ab x.2.2.2 rfl<|jH an i rfl ?_;obtain⟨j,rfl,hj⟩:=hI (by rw[<- I,J]);have ac:eE jD 1 (cb::(B'++Y)) R x.2.2.2 n.J8:=(h3.nodes (x,n,(j:Int)) oM).1.2.2.2.2;refine eE.get ac j rfl (zA hj) (y:=n.J8[j]) rfl ?_;rw[zJ,yS,zA hj] at G;exact G
def qyl{T:KD}{J:Nat}{X:Int->WP}{K:Unit->WP}(E:gU dbk pb FD D F M k v frm to down w0 cb Y wA st SB zs)(O:eY (cb::(SB++Y)) wA x n)(h:ed T wA w [(J,.c (fE gp) ND)])(C:∀b∈T,b∈Y)(V:zs.length+1<=100000)(u:gx n k v)(hI:n.Q3=false->∃j:Nat,k8 down frm to n=j/\j<n.J8.length)(kk:∀w' st' SB',gU dbk pb FD D F M k v frm to down w0 cb Y w' st' SB' (zs++[(x,n,k8 down frm to n)])->Fr (cb::(SB++T)) wA w'->(∀b∈SB',b∈SB\/wA.heap.size<=b)->if n.Q3 then K () w' else X (n.J8.getD (k8 down frm to n).toNat 0) w'): DN (pW cb) K J (x,0) w X:=by
 unfold DN;refine oE h 0 rfl (fE x) λw1 h f1=>?_;have h:=oG h;refine JU rfl<|⟨?_,?_⟩;refine KC h 0 rfl x ?_;obtain⟨Q,G,T,I⟩:=(E.J0 h C).at;refine gV (qj (pj cb down) (kD I) ?_);refine KC h 0 rfl x<|qsK (S:=[]) (E.J0 h C) (O.Ba h C) u.2.2.1 (by have:=(yi u).1;omega) λw2 R=>?_;have h:=h.q8 R;refine ja (h.cells 0)<|oB h λU w3 e3 f3 h=>?_;obtain⟨Q,G,T,I⟩:=(E.J0 h C).at
 exact nM (h.cells 1) (kD I) (h.cells 1)<|qrp E O h C V u hI kk;refine KC h 0 rfl x ?_;obtain⟨Q,G,T,I⟩:=(E.J0 h C).at;refine gV (qj (pj cb down) (kD I) ?_);refine KC h 0 rfl x<|oB h λU w3 e3 f3 h=>?_;obtain⟨Q,G,T,I⟩:=(E.J0 h C).at
 refine nM (h.cells 1) (kD I) (h.cells 1)<|qsK (S:=[]) (E.J0 h C) (O.Ba h C) u.2.2.1 (by have:=(yi u).1;omega) λw2 R=>?_;have h:=h.q8 R;exact ja (h.cells 1)<|qrp E O h C V u hI kk
def qqK{s:jh}{h:Nat}{K:Unit->WP}(hs:Has D M k v h s)(hu:iZ s.x4)(hC:gU dbk pb FD D F M k v frm to down w0 cb Y w st SB zs)(hl:zs.length+h+1<=100000)(kk:∀w' st' SB' zs',gU dbk pb FD D F M k v frm to down w0 cb Y w' st' SB' (zs++zs')->jC D k v M (k8 down frm to) (h+1) s.x4=some (zs'.map (·.2))->Fr (cb::SB) w w'->(∀b∈SB',b∈SB\/w.heap.size<=b)->K () w'): cW 122 [dQ cb,.u s.x4] [] w K:=by
 refine qip<|Dj (λ(hh:Nat) p w'=>∃(sg:jh) (E:List sC) (ac:Sl) (J:KD),p=sg.x4/\iZ sg.x4/\Has D M k v hh sg/\gU dbk pb FD D F M k v frm to down w0 cb Y w' ac J (zs++E)/\(jC D k v M (k8 down frm to) (hh+1) sg.x4).map (E.map (·.2)++·)=jC D k v M (k8 down frm to) (h+1) s.x4/\E.length+hh=h/\Fr (cb::SB) w w'/\∀b∈J,b∈SB\/w.heap.size<=b) id h ⟨s,[],st,SB,rfl,hu,hs,by rw[xJ];exact hC,oM,oM,.refl _ _,λb C=>.inl C⟩ ?_;rintro hh p w1 ⟨sg,E,ac,J,rfl,aG,ar,U,au,aZ,f1,n1⟩ X hX;have I:∃n,dU D M k v sg.x4=(n,0)/\(n.Q3=true->hh=0)/\(n.Q3=false->∃h2 Q,hh=h2+1/\n=dX Q/\∃hj:eT n.J5 (if down then to else frm)<Q.length,n.J8.getD (eT n.J5 (if down then to else frm)) 0=Q[eT n.J5 (if down then to else frm)].2.x4/\Has D M k v h2 Q[eT n.J5 (if down then to else frm)].2):=by
  cases hh with
  | zero=>
   obtain⟨h1,h2,h3,h4⟩:=ar;exact⟨_,h3.load h4,λ_=>rfl,(λe=>nomatch e)⟩
  | succ h2=>
   obtain⟨Q,e1,hj,e2,e3⟩:=qzF (key:=if down then to else frm) ar;exact⟨_,e1,(λe=>nomatch e),λ_=>⟨h2,Q,rfl,rfl,hj,e2,e3⟩⟩
 obtain⟨n,I,aI,av⟩:=I;have aw:=Do I;obtain⟨l1,l2,l3,l4,l5⟩:=yi aw;have ak:(dS D M sg.x4).2.2=0/\jw (dS D M sg.x4).1 (dS D M sg.x4).2.1 k v=(n,0):=by unfold dU at I;split at I;rename_i ad;exact absurd (vD I).2 ad;rename_i he;exact⟨oK,I⟩
 have ax:fq (dS D M sg.x4).2.1:=qiD U.tw.lim.ok (λe he=>(U.tw.wf.body e he).2.2) _;have aJ:(zs++E).length+1<=100000:=(by rw[zF];omega);have hI:n.Q3=false->∃j:Nat,k8 down frm to n=j/\j<n.J8.length:=λe=>by
  obtain⟨h2,Q,_,rfl,hj,_⟩:=av e;refine⟨_,?_,by show _<(Q.map _).length;rw[zK];exact hj⟩;cases down with
  | false=>
   show lw (dX Q) frm=_;exact iN (λg=>nomatch g)
  | true=>
   show jp (dX Q) to=_;exact iN (λg=>nomatch g)
 have ag:∀(x:lJ) (Y' T:KD) (wA wB:Kv) (r:Nat),gU dbk pb FD D F M k v frm to down w0 cb Y' wA ac J (zs++E)->eY (cb::(J++Y')) wA x n->ed T wA wB [(r,.c (fE gp) ND)]->(∀b∈T,b∈Y')->(∀b∈T,w1.heap.size<=b)->(∀b∈Y,b∈Y')->Fr [] w1 wA->DN (pW cb) K r (x,0) wB X:=by
  intro x Y' T wA wB r hA hN hO hT aL hY fA;refine qyl hA hN hO hT aJ aw hI λw2 al ae G f2 n2=>?_;have G:gU dbk pb FD D F M k v frm to down w0 cb Y w2 al ae (zs++(E++[(x,n,k8 down frm to n)])):=by rw[<- zV];exact G.j0 (.refl _ _) (λb C=>.inl (hY b C)) λb C=>G.lt b (by simp[hY b C])
  have f3:Fr (cb::SB) w w2:=f1.j8 ((fA.mono λ_ h=>nomatch h).trans f2) λb C=>by rcases zG.1 C with rfl|C;exact .inl oM;rcases zD.1 C with C|C;exact (n1 b C).imp (λh=>by simp[h]) id;exact .inr (zL f1.size (aL b C))
  have n3:∀b∈ae,b∈SB\/w.heap.size<=b:=λb C=>by rcases n2 b C with h|h;exact n1 b h;exact .inr (zL f1.size (zL fA.size h))
  by_cases hlf2:n.Q3=true;rw[iP hlf2];obtain rfl:=aI hlf2;refine kk w2 al ae (E++[(x,n,k8 down frm to n)]) G ?_ f3 n3;rw[<- au,jC,I,iN λh=>h rfl,iP hlf2];simp
  ·rw[iN hlf2];have ay:n.Q3=false:=(oQ hlf2);obtain⟨h2,Q,rfl,ad,hj,am,hk⟩:=av ay;have az:k8 down frm to n=((eT n.J5 (if down then to else frm):Nat):Int):=by
    cases down with
    | false=>
     show lw n frm=_;exact iN hlf2
    | true=>
     show jp n to=_;exact iN hlf2
   rw[az,zJ,am];refine hX h2 _ w2 ⟨_,E++[(x,n,k8 down frm to n)],al,ae,rfl,?_,hk,G,?_,by rw[zF,xO];omega,f3,n3⟩ (Nat.lt_succ_self _);rw[<- am];have aA:eT n.J5 (if down then to else frm)<n.J8.length:=(by rw[ad];show _<(Q.map _).length;rw[zK,<- ad];exact hj);rw[yS,zA aA];exact hN.2.1.2.2 _ (zX aA)
   ·rw[<- au];conv=>rhs;rw[jC,I,iN λh=>h rfl,iN hlf2]
    dsimp only;rw[az,zJ,am,Option.map_map];simp[Function.comp_def]
 obtain⟨sf,an,T,R⟩:=U.at;refine gV (qj (pW pb) (kD R) ?_);refine TW.read U.tw aG λsb w2 aB f2=>?_;have G:=(U.q8 f2).drew;refine JU (by dsimp only;rw[ak.1];rfl) ?_;obtain⟨sf,an,T,R⟩:=G.at;have V:=G.lt;refine⟨?_,?_⟩;refine gV (qj (k:Int) (kD R) ?_);refine gV (qj (v:Int) (kD R) ?_);refine HY (k:=k) (v:=v) (aB [] λ_ h=>nomatch h) ax λx B w3 hN f3 ao=>?_;rw[ak.2] at hN⊢;have O:=G.q8 f3;refine oB (oF [] w3) λr w4 e4 f4 h=>?_;obtain⟨sf,an,T,R⟩:=(O.q8 f4).at;refine kH (kD R) (kD R)<|ag x Y [] w3 w4 r O (hN.rd (λb C hm=>?_) λb C=>.inl ?_) h (λ_ h=>nomatch h) (λ_ h=>nomatch h) (λb C=>C) (f2.drew.trans f3);have:=ao b C;have:=V b hm;omega;have:b<w2.heap.size:=V b C;exact zH _ (mem_range.2 this);refine gV (qj (k:Int) (kD R) ?_);refine gV (qj (v:Int) (kD R) ?_);refine oB (oF [] w2.drew) λr w3 e3 f3 h=>?_;have aO:=fl (h.at (i:=0) rfl);have O:gU dbk pb FD D F M k v frm to down w0 cb (r::Y) w3 ac J (zs++E):=G.j0 (f3.mono λ_ h=>nomatch h) (λb C=>(zG.1 C).elim (λe=>.inr (by rw[e,e3];exact zM _)) .inl) λb C=>by rcases zG.1 C with rfl|C;exact aO;exact yE (V b (by simp[C])) f3.size
 obtain⟨sf,an,T,R⟩:=O.at;refine kH (kD R) (kD R)<|HY (k:=k) (v:=v) (eE.q8 (w:=w2.drew) (aB [] λ_ h=>nomatch h) f3) ax λx B w4 hN f4 ao=>?_;rw[ak.2] at hN⊢;have ai:=O.lt;refine ag x (r::Y) [r] w4 w4 r (O.q8 f4) (hN.rd (λb C hm=>?_) λb C=>.inl ?_) (Gg ((h.q8 f4).at (i:=0) rfl)) (λb C=>by rw[zE.1 C];simp) (λb C=>?_) (λb C=>by simp[C]) ((f2.drew.trans f3).trans f4)
 have:=ao b C;have:=ai b hm;omega;exact zH _ (mem_range.2 (ai b C));rw[zE.1 C,e3];exact f2.size
end
end
section
open Go Go.Pt List
open Go.IntKind (wrap)
open Classical
attribute [local irreducible] ld dT iH pK ku fw st new idx kZ kM gb kV ke nz ig nn call eF inv run fM i9 join loop held ext kJ ft pw pQ pT IntKind.wrap
section
variable {dbk pb:Nat} {FD F:KD} {D:dV} {M:eZ} {k v:Nat} {frm to:Key} {down:Bool} {w0 w wA:Kv} {cb:Nat} {Y SB:KD} {st:Sl} {zs:List sC}
def gU.lY{c:Cell}{b j:Nat}{z:sC}{K:c.El->Prop}(h:gU dbk pb FD D F M k v frm to down w0 cb Y w st [b] (zs++[z]))(u:j<5)(x:c.El)(C:(jW z)[j]?=some (c.mk x))(E:K x):ld c ⟨b,zs.length*5+j,none⟩ w K:=
 qj x ((qAc h.wP u).trans C) E
def qxs{h:Nat}{K:Unit->WP}(hp:Path D M k v (ln down) h (zs.map (·.2)))(hC:gU dbk pb FD D F M k v frm to down w0 cb Y w st SB zs)(kk:∀w' st' SB' zs',gU dbk pb FD D F M k v frm to down w0 cb Y w' st' SB' zs'->zs'.map (·.2)=(jq D k v M (k8 down frm to) (ln down) h (zs.map (·.2))).getD []->Fr (cb::SB) w w'->(∀b∈SB',b∈SB\/w.heap.size<=b)->K () w'): cW 123 [dQ cb] [] w K:=by
 refine qio ?_;have J:=hp.len;have aR:=hC.C0;rw[zK] at J;refine Dj (λ(V:List lO) (_:PUnit) w'=>∃(u:List sC) (z:sC) (C:List lO) (h1:Nat) (aj:Sl) (aa:KD),u.map (·.2)=V/\gU dbk pb FD D F M k v frm to down w0 cb Y w' aj aa (u++[z])/\zs.map (·.2)=V++C/\V.length+h1=h/\jq D k v M (k8 down frm to) (ln down) h1 C=none/\Fr (cb::SB) w w'/\∀b∈aa,b∈SB\/w.heap.size<=b) List.length (zs.map (·.2)).dropLast ?_ ?_
 ·have I:zs≠[]:=λe=>by rw[e] at J;simp at J
  have U:=(vC I).symm;refine⟨zs.dropLast,zs.getLast I,[(zs.getLast I).2],0,st,SB,by rw[map_dropLast],by rw[<- U];exact hC,?_,by simp;omega,rfl,.refl _ _,λb G=>.inl G⟩;conv=>lhs;rw[U]
  simp
 rintro V _ w1 ⟨u,z,C,h1,aj,aa,rfl,ab,U,hh,hn,f1,n1⟩ X hX;have ar:=ab.C0;rw[zF,xO] at ar;have aD:aj.len=u.length+1:=(by rw[ab.wP.len,zF];rfl);refine gV (ab.rX (JT (by rw[aD];exact yA oK) ?_));have ac:=ab.drew;refine gV (ac.rX ?_);refine gV (ac.rX ?_);refine qBw ac.wP oK λs2 av=>?_;refine gV ?_;refine ac.wm w1.drew (.refl _ _) av (λz U=>.inl (zH _ U)) (λb G=>.inl G) oK λw2 ak f2=>?_;have aw:Fr (cb::SB) w w2:=f1.j8 ((Fr.refl _ w1).drew.trans f2) λb G=>by rcases zG.1 G with rfl|G;exact .inl oM;exact (n1 b G).imp (λh=>by simp[h]) id
 refine gV (ak.rX ?_);have ax:s2.len=u.length:=av.len;apply eV<;>intro hc;have hc:(s2.len:Int)=0:=yQ.1 hc;have e0:u=[]:=length_eq_zero_iff.1 oK;subst e0;refine kk w2 s2 aa [] ak ?_ aw n1;rw[U,map_nil,xK];have:h1=h:=(oQ hh);rw[<- this,hn];rfl;have hc:¬(s2.len:Int)=0:=zR.1 hc;have I:u≠[]:=λe=>by rw[e] at ax;simp at ax;omega
 obtain⟨O,y,rfl⟩:∃O y,u=O++[y]:=⟨u.dropLast,u.getLast I,(vC I).symm⟩;rw[xP,xQ,map_nil,zV,singleton_append] at U;rw[xP,xQ,map_nil,zF,xO] at hh;have ad:(O.map (·.2)).length+(h1+1)=h:=oK;have al:Path D M k v (ln down) (h1+1) (y.2::C):=by rw[U,<- ad] at hp;exact hp.drop
 obtain⟨E,i,up,ey,a1,a2,az,_⟩:=al;obtain⟨yx,yf⟩:=y;have aE:yf=(dX E,i):=(vE ey).1;subst aE;have ae:=ak.drew;rw[zF,xO] at ar;refine gV (ae.rX ?_);refine gV (ae.rX ?_);refine qvw ae.wP oK λb hB=>?_;subst hB;have af:=ae.drew;obtain⟨sf,a5,T,aF⟩:=af.at;have an:=af.nodes (yx,dX E,i) oM;have ag:(dX E).J8.length=E.length:=(by show (E.map (·.2.x4)).length=_;rw[zK]);have aV:E.length<=498:=(by rw[<- ag];exact (yi an.2).2.2.1);refine gV (qj (oT cb down) (kD aF) ?_);refine af.lY (j:=4) oN i rfl ?_;refine qyU oK ?_;have aW:-1<=ln down i/\ln down i<=1000000:=(by unfold ln;split<;>omega);refine af.zk λw3 aG f3=>?_;have Q:=aG.drew;have ao:Fr (cb::SB) w w3:=aw.j8 (((Fr.refl _ w2).drew.drew).trans f3) λb' G=>by rw[zE.1 G];exact (n1 b oM).imp (λh=>by simp[h]) id
 have aH:yx.2.2.2.len=E.length:=(by rw[an.1.2.2.2.2.1,ag]);have R:=qwD (x:=(dX E,i)) hn;refine jf (λq w'=>q=decide (0<=ln down i/\ln down i<E.length)/\w'=w3.drew) ?_ ?_;refine Q.lY (j:=4) oN (ln down i) rfl ?_;apply eV<;>intro h;have h:=zC h;refine Q.lY (j:=4) oN (ln down i) rfl ?_;refine Q.lY (j:=3) oN yx.2.2.2 rfl ?_;exact⟨decide_eq_decide.2 (by rw[aH];omega),rfl⟩;have h:=zB h;exact⟨(zU λg=>h g.1).symm,rfl⟩;rintro q w4 ⟨rfl,rfl⟩;have ah:=Q.drew;apply eV<;>intro h;obtain⟨h5,h6⟩:=zC h;obtain⟨j,hj⟩:∃j:Nat,ln down i=j:=⟨(ln down i).toNat,oK⟩;have aA:j<E.length:=oK;refine ah.lY (j:=3) oN yx.2.2.2 rfl ?_;refine ah.lY (j:=4) oN (ln down i) rfl ?_;have aJ:eE jD 1 _ w3.drew.drew yx.2.2.2 (dX E).J8:=(ah.nodes (yx,dX E,ln down i) oM).1.2.2.2.2;have ap:(dX E).J8[j]?=some E[j].2.x4:=(by show (E.map (·.2.x4))[j]?=_;rw[zQ,zA aA];rfl);refine eE.get aJ j hj ap (y:=E[j].2.x4) rfl ?_;refine qqK (az j hj aA) (an.1.2.1.2.2 _ (yG ap)) ah (by rw[zF,xO];rw[zK] at ad;omega) λw5 aK aL aM aN aO f5 n5=>?_;refine kk w5 aK aL _ aN ?_ (ao.j8 ((Fr.refl _ w3).drew.drew.trans f5) λb' G=>?_) λb' G=>?_;have e1:jq D k v M (k8 down frm to) (ln down) (h1+1) ((dX E,i)::C)=some ((dX E,ln down i)::aM.map (·.2)):=(by rw[R,wo,iP ⟨by dsimp only;omega,by dsimp only;rw[ag];exact h6⟩];dsimp only;rw[hj,zJ,yS,ap];simp only[xX];rw[aO];rfl);rw[U,<- ad,qrc e1];simp;rcases zG.1 G with rfl|G;exact .inl oM;exact (n1 b' G).imp (λh=>by simp[h]) id;rcases n5 b' G with h|h;exact n1 b' h;exact .inr (zL ao.size h);have h:=zB h;refine hX (O.map (·.2)) _ _ ⟨O,(yx,dX E,ln down i),(dX E,i)::C,h1+1,s2,[b],rfl,Q,U,ad,?_,ao.drew,n1⟩ ?_;rw[R,wo,iN λg=>h ⟨g.1,by have:=g.2;dsimp only at this;rw[ag] at this;exact this⟩];simp
end
end
section
open Go Go.Pt List
open Go.IntKind (wrap)
open Classical
section
variable {D:dV} {M:eZ} {k v:Nat} {frm to:Key} {down:Bool}
def m8 (D:dV) (M:eZ) (k v:Nat) (frm to:Key) (down:Bool) (h:Nat) (u:List lO) (T:gH):Prop:=if down then oh D M k v to h u T else nQ D M k v frm h u T
def qK (down:Bool) (h:Nat) (u:List lO):Prop:=if down then lI h u else lH h u
def m8.path{h:Nat}{u:List lO}{T:gH}(C:m8 D M k v frm to down h u T):Path D M k v (ln down) h u:=by
 cases down with
 | false=>exact nQ.path (frm:=frm) C
 | true=>exact oh.path (to:=to) C
def m8.told{h:Nat}{C:List lO}{T:gH}(E:m8 D M k v frm to down h C T):qK down h C\/∃(u:gH) (i:Nat) (lo:List lO) (hi:i<u.length) (T':gH),C=lo++[(eQ u,(i:Int))]/\T=u[i]::T'/\m8 D M k v frm to down h (lo++[(eQ u,ln down i)]) T':=by
 cases down with
 | false=>exact qvx (frm:=frm) E
 | true=>exact qrF (to:=to) E
def m8.next{h:Nat}{E:List lO}{T:gH}(G:m8 D M k v frm to down h E T)(I:qK down h E):(jq D k v M (k8 down frm to) (ln down) h E=none/\T=[])\/∃u,jq D k v M (k8 down frm to) (ln down) h E=some u/\m8 D M k v frm to down h u T/\¬qK down h u:=by
 cases down with
 | false=>
  rcases qvo (frm:=frm) G I with C|⟨u,C,J⟩;exact .inl C;exact .inr ⟨u,C,J,qkc (frm:=frm) G I C⟩
 | true=>
  rcases qrd (to:=to) G I with C|⟨u,C,J⟩;exact .inl C;exact .inr ⟨u,C,J,qhw (to:=to) G I C⟩
def lH.tr:∀ {h:Nat} {C:List lO},lH h C->∃(lo:List lO) (u:gH),C=lo++[(eQ u,(u.length:Int))]
 | 0,_,⟨u,e⟩=>⟨[],u,e⟩
 | _+1,[],h=>h.elim
 | h+1,x::G,E=>by obtain⟨lo,u,e⟩:=lH.tr (h:=h) E;exact⟨x::lo,u,by rw[e];rfl⟩
def lI.tr:∀ {h:Nat} {C:List lO},lI h C->∃(lo:List lO) (u:gH),C=lo++[(eQ u,-1)]
 | 0,_,⟨u,e⟩=>⟨[],u,e⟩
 | _+1,[],h=>h.elim
 | h+1,x::G,E=>by obtain⟨lo,u,e⟩:=lI.tr (h:=h) E;exact⟨x::lo,u,by rw[e];rfl⟩
def qK.tr{h:Nat}{C:List lO}(E:qK down h C):∃(lo:List lO) (u:gH) (i:Int),C=lo++[(eQ u,i)]/\¬(0<=i/\i<u.length):=by
 cases down with
 | false=>
  obtain⟨lo,u,e⟩:=lH.tr E;exact⟨lo,u,_,e,oK⟩
 | true=>
  obtain⟨lo,u,e⟩:=lI.tr E;exact⟨lo,u,_,e,oK⟩
def Left (D:dV) (M:eZ) (k v:Nat) (frm to:Key) (down:Bool) (n:Nat) (u:List lO) (L:gH):Prop:=
 (u=[]/\L=[])\/∃h T,m8 D M k v frm to down h u T/\L=T.takeWhile (λx=>!pI down frm to x.1)/\(n=0->¬qK down h u)
def qwI{h:Nat}{s:jh}(u:Has D M k v h s):∃C,jC D k v M (k8 down frm to) (h+1) s.x4=some C/\m8 D M k v frm to down h C (if down then (wW to s.y6).reverse else oY frm s.y6):=by
 cases down with
 | false=>exact JB u
 | true=>exact HZ u
def GT{α:Type}{p:α->Bool}:∀ {l:List α},l.Pairwise (λa b=>p b=true->p a=true)->l.takeWhile p=l.filter p
 | [],_=>rfl
 | a::l,h=>by have C:=yK.1 h;rw[takeWhile_cons,filter_cons];split;rw[GT C.2];rename_i E;exact (filter_eq_nil_iff.2 λb G u=>E (C.1 b G u)).symm
end
end
section
open Go Go.Pt List
open Go.IntKind (wrap)
open Classical
attribute [local irreducible] ld dT iH pK ku fw st new idx kZ kM gb kV ke nz ig nn call eF inv run fM i9 join loop held ext kJ ft pw pQ pT IntKind.wrap
variable {B S:KD} {K:Sl->WP} {L:gH} {P:KE} {T:Nat->gH} {a:HL fV} {b:Bk} {d:HL jb} {i most n t x:Int} {k:Nat} {l:List (HL jb)} {p:Pa} {s:Sl} {w:Kv}
abbrev zv:Kx:=105
def vo (a b:Sl):Array Kw:=#[a.v,b.v]
@[reducible] def Ei:List Cell:=[.slice,.slice]
section
variable {dbk pb:Nat} {FD F:KD} {D:dV} {M:eZ} {k v:Nat} {frm to:Key} {down:Bool} {w0 w wA:Kv} {cb:Nat} {Y SB:KD} {st:Sl} {zs:List sC}
def qz5{n:dW}(h:gx n k v)(E:n.Q3=true):k<=24/\v<=108:=by obtain⟨_,_,_,C⟩:=h;rw[iP E] at C;have u:=C.2.2.1;unfold eG at u;split at u;dsimp only at u;omega;omega
def qqA{K:(Sl×Sl)×Bool->WP}(hC:gU dbk pb FD D F M k v frm to down w0 cb Y w st SB zs)(hL:Left D M k v frm to down 1 (zs.map (·.2)) L)(k0:L=[]->∀w',gU dbk pb FD D F M k v frm to down w0 cb Y w' dR [] []->Fr (cb::SB) w w'->K ((dR,dR),false) w')(k1:∀x L',L=x::L'->∀ks vs B1 B2 w' st' SB' zs',gA w' ks x.1 B1->gA w' vs x.2 B2->gU dbk pb FD D F M k v frm to down w0 cb (B1++(B2++Y)) w' st' SB' zs'->Left D M k v frm to down 1 (zs'.map (·.2)) L'->Fr (cb::SB) w w'->(∀b∈SB',b∈SB\/w.heap.size<=b)->(∀b∈B1,w.heap.size<=b)->(∀b∈B2,w.heap.size<=b)->(∀b∈B1,b∉B2)->K ((ks,vs),true) w'): cW 79 [dQ cb] [.agg Ei,.one .bool] w K:=by
 refine qil (c:=pW cb)<|oB (oF [] w) λr w1 e1 f1 h=>?_;have hrl:=fl (h.at (i:=0) rfl);dsimp only at hrl;have hltw:=hC.lt;have hC1:gU dbk pb FD D F M k v frm to down w0 cb (r::Y) w1 st SB zs:=hC.j0 (f1.mono λ_ h=>nomatch h) (λb hb=>(zG.1 hb).elim (λe=>.inr (by rw[e,e1];exact zM _)) .inl) λb hb=>by rcases zG.1 hb with rfl|hb;exact hrl;exact yE (hltw b (by simp[hb])) f1.size
 have hr1:w1.heap[r]?=some (.c (vo dR dR) zv):=h.at (i:=0) rfl;have hrS:r∉cb::SB:=λhm=>by
  have:=hltw r (by rcases zG.1 hm with h|h<;>simp[h]);omega
 have hfr:∀ {w':Kv},Fr (cb::SB) w1 w'->w'.heap[r]?=some (.c (vo dR dR) zv):=λf=>by rw[f.block r hrl hrS];exact hr1
 clear h;refine jf (λ_ w'=>L=[]/\Fr (cb::SB) w1 w'/\∃st' SB' zs',gU dbk pb FD D F M k v frm to down w0 cb (r::Y) w' st' SB' zs'/\∀b∈SB',b∈SB\/w1.heap.size<=b) ?_ ?_
 ·refine Dj (λ(n:Nat) (_:PUnit) w'=>Fr (cb::SB) w1 w'/\∃st' SB' zs',gU dbk pb FD D F M k v frm to down w0 cb (r::Y) w' st' SB' zs'/\(∀b∈SB',b∈SB\/w1.heap.size<=b)/\Left D M k v frm to down n (zs'.map (·.2)) L) id 1 ⟨.refl _ _,st,SB,zs,hC1,λb hb=>.inl hb,hL⟩ ?_;rintro n _ w2 ⟨f2,st2,SB2,zs2,hC2,n2,hL2⟩ X hX;refine gV (hC2.rX ?_);have hsl:st2.len=zs2.length:=hC2.wP.len;apply eV<;>intro hc;rotate_left;have hc:=zB hc;have e0:zs2=[]:=length_eq_zero_iff.1 oK;refine⟨?_,f2,st2,SB2,zs2,hC2,n2⟩;rcases hL2 with h|⟨hh,T,ht,_,_⟩;exact h.2
  have:=ht.path.len;rw[e0] at this;simp at this;have hc:=zC hc;have hne:zs2≠[]:=λe=>by rw[e] at hsl;simp at hsl;omega
  rcases hL2 with ⟨h,_⟩|⟨hh,T,ht,hLT,hnd⟩;exact absurd (map_eq_nil_iff.1 h) hne;have htop:∃(lo:List lO) (y6:gH) (i:Int),zs2.map (·.2)=lo++[(eQ y6,i)]/\((qK down hh (zs2.map (·.2))/\¬(0<=i/\i<y6.length))\/∃j:Nat,i=j/\∃hj:j<y6.length,∃T',T=y6[j]::T'/\m8 D M k v frm to down hh (lo++[(eQ y6,ln down i)]) T'):=by rcases ht.told with hd|⟨y6,j,lo,hj,T',e1,e2,e3⟩;obtain⟨lo,y6,i,e,hi⟩:=hd.tr;exact⟨lo,y6,i,e,.inl ⟨hd,hi⟩⟩;exact⟨lo,y6,j,e1,.inr ⟨j,rfl,hj,T',e2,e3⟩⟩
  obtain⟨lo,y6,i,ez,hcase⟩:=htop;obtain⟨zlo,zr,rfl,rfl,ezr⟩:=map_eq_append_iff.1 ez;obtain⟨⟨zx,zf⟩,rfl,ezf⟩:=map_eq_singleton_iff.1 ezr;have ezf:zf=(eQ y6,i):=ezf;subst ezf;have hfew:=hC2.C0;rw[zF,xO] at hfew;have hD2:=hC2.drew;refine gV (hD2.rX ?_);refine gV (hD2.rX ?_);refine qvw hD2.wP oK λb hB=>?_;subst hB;have hE2:=hD2.drew;have hny:=hE2.nodes (zx,eQ y6,i) oM;have hkl:(eQ y6).J5.length=y6.length:=zK ..;have hkl2:y6.length<=498:=(by rw[<- hkl];exact (yi hny.2).1);obtain⟨hzl,hNB,⟨pk,hpk,hpke⟩,⟨pv,hpv,hpve⟩,_⟩:=hny.1;dsimp only at hzl hpk hpke hpv hpve;have hpkl:pk.length=y6.length:=(by rw[<- hkl,<- hpke,zK]);have hpvl:pv.length=y6.length:=by have:(eQ y6).J9.length=y6.length:=zK ..;rw[<- this,<- hpve,zK]
  refine jf (λq w'=>q=decide (0<=i/\i<y6.length)/\w'=w2.drew.drew) ?_ ?_;refine hE2.lY (c:=.bool) (j:=0) oN zx.1 rfl<|JT hzl<|hE2.lY (c:=.i) (j:=4) oN i rfl ?_;apply eV<;>intro h;have h:=zC h;exact hE2.lY (c:=.i) (j:=4) oN i rfl<|hE2.lY (c:=.slice) (j:=1) oN zx.2.1 rfl<|⟨decide_eq_decide.2 (by rw[hpk.len,hpkl];omega),rfl⟩;have h:=zB h;exact⟨(zU λg=>h g.1).symm,rfl⟩;rintro q w3 ⟨rfl,rfl⟩;have hpth:=ht.path;apply eV<;>intro h;rotate_left;have h:=zB h;have hd:qK down hh ((zlo++[(zx,eQ y6,i)]).map (·.2)):=by rcases hcase with hd|⟨j,rfl,hj,_⟩;exact hd.1;exact absurd ⟨oK,oK⟩ h
  have hn1:n≠0:=λe=>hnd e hd;refine qxs hpth hE2 λw4 st4 SB4 zs4 hC4 hz4 f4 n4=>?_;have f14:Fr (cb::SB) w1 w4:=f2.j8 ((Fr.refl _ w2).drew.drew.trans f4) λb' hb=>by rcases zG.1 hb with rfl|hb;exact .inl oM;exact (n2 b' hb).imp (λh=>by simp[h]) id
  have n14:∀b'∈SB4,b'∈SB\/w1.heap.size<=b':=λb' hb=>by rcases n4 b' hb with h|h;exact n2 b' h;exact .inr (zL f2.size h)
  refine hX 0 _ w4 ⟨f14,st4,SB4,zs4,hC4,n14,?_⟩ (by show 0<n;omega);rcases ht.next hd with ⟨e2,rfl⟩|⟨fs',e2,e3,e4⟩
  rw[e2] at hz4;exact .inl ⟨hz4,hLT⟩;rw[e2] at hz4;have hz4:zs4.map (·.2)=fs':=hz4;rw[hz4];exact .inr ⟨hh,T,e3,hLT,λ_=>e4⟩;have h:=zC h;obtain⟨j,rfl,hj,T',hT,ht'⟩:∃j:Nat,i=j/\∃hj:j<y6.length,∃T',T=y6[j]::T'/\m8 D M k v frm to down hh (zlo.map (·.2)++[(eQ y6,ln down i)]) T':=by rcases hcase with hd|hd;exact absurd h hd.2;exact hd
  have hG2:=hE2.drew;refine hG2.lY (c:=.slice) (j:=1) oN zx.2.1 rfl<|hG2.lY (c:=.i) (j:=4) oN (j:Int) rfl ?_;have hjk:j<pk.length:=oK;have hjv:j<pv.length:=oK;refine kF.get (hpk.q8 (Fr.refl [] _).drew) j rfl hjk<|hG2.lY (c:=.slice) (j:=2) oN zx.2.2.1 rfl<|hG2.lY (c:=.i) (j:=4) oN (j:Int) rfl<|kF.get (hpv.q8 (Fr.refl [] _).drew) j rfl hjv ?_;have hH2:=hG2.drew;obtain⟨sf,sto,Tc,hcc⟩:=hH2.at;refine gV (qj (c:=.any) (oT cb down) (kD hcc) ?_);refine hH2.lY (c:=.i) (j:=4) oN (j:Int) rfl<|qyU oK<|hH2.zk λw5 hC5 f5=>?_;have f15:Fr (cb::SB) w1 w5:=f2.j8 ((Fr.refl _ w2).drew.drew.drew.drew.trans f5) λb' hb=>by rw[zE.1 hb];exact (n2 b oM).imp (λh=>by simp[h]) id
  obtain⟨sf,sto,Tc,hcc⟩:=hC5.at;refine gV (qj (c:=.any) (qn cb down) (kD hcc) ?_);have f5':Fr (cb::([b]++(r::Y))) w2.drew.drew w5:=(Fr.refl _ w2.drew.drew).drew.drew.trans (f5.mono λx hx _=>by rw[zE.1 hx];simp);have hks:eO (cb::([b]++(r::Y))) w5 pk[j].1 pk[j].2:=(hpk.2 _ (zX hjk)).j0 f5' λx hx=>.inl hx;have hvs:eO (cb::([b]++(r::Y))) w5 pv[j].1 pv[j].2:=(hpv.2 _ (zX hjv)).j0 f5' λx hx=>.inl hx;have ek:pk[j].2=y6[j].1:=by
   have:=Kr (·[j]?) hpke;dsimp only [eQ] at this;rw[zQ,zQ,zA hjk,zA hj] at this;exact yP this
  have ev:pv[j].2=y6[j].2:=by
   have:=Kr (·[j]?) hpve;dsimp only [eQ] at this;rw[zQ,zQ,zA hjv,zA hj] at this;exact yP this
  rw[ek] at hks;rw[ev] at hvs;have hkB:fq y6[j].1:=hNB.1 _ (zZ (zX hj));have hkn:y6[j].1.length=k:=hny.2.1 _ (zZ (zX hj));have hvn:y6[j].2.length=v:=hny.2.2.1 _ (zZ (zX hj));have hkv:=qz5 hny.2 rfl;refine qBl hC5 hks hkB ?_;apply eV<;>intro ho;refine⟨?_,f15,st2,[b],_,hC5,n2⟩;rw[hLT,hT,takeWhile_cons,ho];rfl;refine As hks oK λs1 B1 w6 b6 f6 n6 _ _=>As (hvs.q8 f6) oK λs2 B2 w7 b7 f7 n7 _ _=>?_;have hr7:=hfr (f15.trans ((f6.trans f7).mono λ_ h=>nomatch h));refine tY hr7 (vo s1 s2) rfl rfl (zO rfl) λw8 hr8 f8=>vL hr8 (s1,s2) rfl ?_;have hC7:=(hC5.q8 f6).q8 f7;have hn1:∀b'∈B1,w5.heap.size<=b':=n6;have hn2:∀b'∈B2,w5.heap.size<=b':=λb' hb=>zL f6.size (n7 b' hb);have hz5:=f15.size;have hz1:=f1.size;have h12:∀b'∈B1,b'∉B2:=λb' hb hm=>by have:=b6.lt b' hb;have:=n7 b' hm;omega
  have hrn:∀b'∈B1++B2,b'≠r:=λb' hb e=>by
   rcases zD.1 hb with hb|hb;have:=hn1 b' hb;omega;have:=hn2 b' hb;omega
  have b8:gA w8 s1 y6[j].1 B1:=(b6.q8 f7).j0 f8 λb' hb hm=>hrn b' (by simp[hb]) (zE.1 hm);have b9:gA w8 s2 y6[j].2 B2:=b7.j0 f8 λb' hb hm=>hrn b' (by simp[hb]) (zE.1 hm);have hC8:gU dbk pb FD D F M k v frm to down w0 cb (B1++(B2++Y)) w8 st2 [b] (zlo++[(zx,eQ y6,ln down j)]):=by have hA:gU dbk pb FD D F M k v frm to down w0 cb (B1++(B2++(r::Y))) w7 st2 [b] (zlo++[(zx,eQ y6,ln down j)]):=hC5.j0 ((f6.trans f7).mono λ_ h=>nomatch h) (λb' hb=>?_) λb' hb=>?_;exact hA.j0 (f8.mono λb' hb _=>by rw[zE.1 hb];simp) (λb' hb=>.inl (by simp only[zD] at hb⊢;rcases hb with h|h|h<;>simp[h])) λb' hb=>yE (hA.lt b' (by simp only[zD,zG] at hb⊢;rcases hb with h|h|h<;>simp[h])) f8.size;rcases zD.1 hb with h|hb;exact .inr (hn1 b' h);rcases zD.1 hb with h|hb;exact .inr (hn2 b' h);exact .inl hb;rcases zD.1 hb with h|hb;exact (b6.q8 f7).lt b' h;rcases zD.1 hb with h|hb;exact b7.lt b' h;exact hC7.lt b' (by simp only[zG,zD];exact .inr (.inr (zG.1 hb)))
  refine k1 y6[j] (T'.takeWhile λx=>!pI down frm to x.1) (by rw[hLT,hT,takeWhile_cons,ho];rfl) s1 s2 B1 B2 w8 st2 [b] _ b8 b9 hC8 (.inr ⟨hh,T',by rw[xP];exact ht',rfl,λe=>absurd e oN⟩) ?_ (λb' hb=>(n2 b' hb).imp id λh=>zL hz1 h) (λb' hb=>zL (zL hz1 hz5) (hn1 b' hb)) (λb' hb=>zL (zL hz1 hz5) (hn2 b' hb)) h12;refine ((f1.mono λ_ h=>nomatch h).trans (f15.trans ((f6.trans f7).mono λ_ h=>nomatch h))).j8 f8 λb' hb=>.inr ?_;rw[zE.1 hb,e1];exact zM _
 rintro _ w2 ⟨hL0,f2,st2,SB2,zs2,hC2,n2⟩;refine gV<|hC2.wm (st':=dR) (SB':=[]) (zs':=[]) w2 (.refl _ _) (.nil _ _ _) (λz hz=>nomatch hz) (λb hb=>nomatch hb) (yY _) λw3 hC3 f3=>?_;have f13:Fr (cb::SB) w1 w3:=f2.j8 f3 λb hb=>by rcases zG.1 hb with rfl|hb;exact .inl oM;exact (n2 b hb).imp (λh=>by simp[h]) id
 refine tY (hfr f13) (vo dR dR) rfl rfl (zO rfl) λw4 hr4 f4=>vL hr4 (dR,dR) rfl<|k0 hL0 w4 (hC3.j0 (f4.mono λb hb _=>by rw[zE.1 hb];simp) (λb hb=>.inl (by simp[hb])) λb hb=>yE (hC3.lt b (by simp[hb])) f4.size) (((f1.mono λ_ h=>nomatch h).trans f13).j8 f4 λb hb=>.inr ?_);rw[zE.1 hb,e1];exact zM _
end
section
def iw (down:Bool) (frm to:Key) (L:gH):gH:=if down then (mw frm to L).reverse else mw frm to L
def qz1{frm to:Key}(G:fT L):(oY frm L).takeWhile (λx=>!pI false frm to x.1)=mw frm to L:=by
 unfold oY;rw[GT];rw[filter_filter];unfold mw;congr 1;funext x;unfold wX pI gq;have:=Je x.1 to;by_cases C:cmpL x.1 frm<0<;>by_cases u:cmpL x.1 to>0<;>simp[C,u]<;>omega;refine ((pairwise_map.1 G).filter _).imp ?_;intro a b E h;unfold pI at h⊢;simp only[Bool.false_eq_true,if_false,zT,Kn] at h⊢;intro I;have C:gq to a.1:=(by unfold gq;rw[v8];omega);have u:=rL C E;unfold gq at u;rw[v8] at u;omega
def qwL{frm to:Key}(C:fT L):(wW to L).reverse.takeWhile (λx=>!pI true frm to x.1)=(mw frm to L).reverse:=by unfold wW;rw[GT];rw[filter_reverse,filter_filter];unfold mw;congr 2;funext x;have e:gq to x.1↔cmpL x.1 to>0:=(by unfold gq;rw[v8 to x.1];omega);have E:decide (cmpL x.1 frm>=0) = !decide (cmpL x.1 frm<0):=(by rw[<- decide_not];exact decide_eq_decide.2 oK);have G:decide (¬gq to x.1)=decide (cmpL x.1 to<=0):=decide_eq_decide.2 (by rw[e];omega);unfold wX pI;simp only[if_true];rw[E,G];rw[pairwise_reverse];refine ((pairwise_map.1 C).filter _).imp ?_;intro a b u h;unfold pI at h⊢;simp only[if_true,zT,Kn] at h⊢;intro I;exact h (rL u I)
section
variable {dbk pb:Nat} {FD F:KD} {D:dV} {M:eZ} {k v:Nat} {frm to:Key} {down:Bool} {w0 w wA:Kv} {cb:Nat} {Y SB:KD} {st:Sl} {zs:List sC}
def gA.cX{w:Kv}{l:KE}(h:gA w s l B)(u:∀b∈B,b∉S):eO S w s l:=h.k5 mW u
def qss{sf sto:Sl}{K:Option Addr->WP}(hT:TW dbk pb FD D 5000 w Y F M)(hs:uR t=((k:Int),(v:Int)))(hL:(k=0/\L=[])\/(k≠0/\ib D M k v t L P))(hLl:L.length<=90000)(hf:eO S w sf frm)(ht:eO S w sto to)(hfl:frm.length<=1000000)(htl:to.length<=1000000)(hfB:fq frm)(htB:fq to)(kk:∀cb w' st SB zs,gU dbk pb FD D F M k v frm to down w cb Y w' st SB zs->Left D M k v frm to down 1 (zs.map (·.2)) (iw down frm to L)->Fr [] w w'->K (pW cb) w'): cW 78 [dQ pb,.i t,sf.v,sto.v,.bool down] dE w K:=by
 refine qoE (p:=pW pb) (t:=t) (from_:=sf) (to:=sto) (down:=down)<|qsr ?_;rw[hs];refine As hf hfl λs1 B1 w1 b1 f1 n1 _ _=>As (ht.q8 f1) htl λs2 B2 w2 b2 f2 n2 _ _=>oB (oF [] w2) λcb w3 e3 f3 h=>?_;have hnf:(#[dQ pb,.i (k:Int),.i (v:Int),s1.v,s2.v,.slice none 0 0,.nilFunc,.nilFunc,.nilFunc]:Array Kw)=(rO.cells ⟨pb,k,v,s1,s2,dR,.nilFunc,.nilFunc,.nilFunc⟩):=rfl;refine oE h 0 rfl (rO.cells ⟨pb,k,v,s1,s2,dR,oT cb false,.nilFunc,.nilFunc⟩) λw4 h f4=>oE h 0 rfl (rO.cells ⟨pb,k,v,s1,s2,dR,oT cb false,pj cb false,.nilFunc⟩) λw5 h f5=>oE h 0 rfl (rO.cells ⟨pb,k,v,s1,s2,dR,oT cb false,pj cb false,qn cb false⟩) λw6 h f6=>jf (λ_ w'=>∃T,ed [] w2 w' [(cb,.c (rO.cells ⟨pb,k,v,s1,s2,dR,oT cb down,pj cb down,qn cb down⟩) T)]) ?_ ?_;cases down with
 | false=>exact JU rfl ⟨_,h⟩
 | true=>
  exact JT rfl<|oE h 0 rfl (rO.cells ⟨pb,k,v,s1,s2,dR,oT cb true,pj cb false,qn cb false⟩) λw7 h f7=>oE h 0 rfl (rO.cells ⟨pb,k,v,s1,s2,dR,oT cb true,pj cb true,qn cb false⟩) λw8 h f8=>oE h 0 rfl (rO.cells ⟨pb,k,v,s1,s2,dR,oT cb true,pj cb true,qn cb true⟩) λw9 h f9=>⟨_,h⟩
 rintro _ w7 ⟨T,h⟩;have f07:Fr [] w w7:=(f1.trans f2).trans h.fr;have hcl:=fl (h.at (i:=0) rfl);dsimp only at hcl;have hz1:=f1.size;have hz2:=f2.size;have hT7:=hT.q8 f07;have hylt:=hT.tG;have hcw:w.heap.size<=cb:=oK;have hC:gU dbk pb FD D F M k v frm to down w cb Y w7 dR [] []:=by
  refine⟨⟨s1,s2,⟨T,h.at (i:=0) rfl⟩,gA.cX ((b1.q8 f2).q8 h.fr) λb hb hm=>?_,gA.cX (b2.q8 h.fr) λb hb hm=>?_⟩,?_,.nil _ _ _,(λz hz=>nomatch hz),(λh=>nomatch h),(λhm=>?_),(λb hb=>nomatch hb),(λb hb=>?_),hfB,htB,yY _⟩;have:=b1.lt b hb;have:=n1 b hb;rcases zG.1 hm with rfl|hm;omega;have:=hylt b (oQ hm);omega;have:=b2.lt b hb;have:=n2 b hb;rcases zG.1 hm with rfl|hm;omega;have:=hylt b (oQ hm);omega;exact hT.Bc (B:=[cb]) (f07.mono λ_ h=>nomatch h) λb hb=>by rw[zE.1 hb];exact⟨hcw,hcl⟩
  have:=hylt cb hm;omega;rw[zE.1 hb];exact hcw
 refine jf (λ_ w'=>∃st SB zs,gU dbk pb FD D F M k v frm to down w cb Y w' st SB zs/\Left D M k v frm to down 1 (zs.map (·.2)) (iw down frm to L)/\Fr [] w w') ?_ ?_;refine TW.J4 hT7 λw8 f8=>?_;have hC8:=hC.q8 f8;refine jf (λq w'=>q=decide (0<k/\(eU M t).1≠0)/\w'=w8) ?_ ?_;refine eV (λh=>⟨?_,rfl⟩) λh=>⟨?_,rfl⟩;have h:=zC h;rw[Ka,yO,zT,zR];exact⟨λg=>⟨oK,g⟩,λg=>g.2⟩;have h:=zB h;exact (zU λg=>h oK).symm;rintro q w9 ⟨rfl,rfl⟩;have h0:L=[]->Left D M k v frm to down 1 ([]:List lO) (iw down frm to L):=λe=>.inl ⟨rfl,by rw[e];unfold iw mw;simp⟩;apply eV<;>intro hq;obtain⟨hk,hr⟩:=zC hq;obtain⟨_,hTr⟩:k≠0/\ib D M k v t L P:=hL.resolve_left λh=>by omega
 have hrh:=(qhM hTr).1;rcases hTr with ⟨e,_,_⟩|⟨hh,n,p,hp,e,hHas⟩;rw[e] at hr;exact absurd rfl hr;have hrh2:hh+1<=L.length:=by rw[e] at hrh;exact hrh
 have hpu:iZ p:=by
  have:=(GH hT.wf t).1;rw[e] at this;exact this
 rw[e];refine qqK (s:=⟨p,n,L,P⟩) hHas hpu hC8 (by show 0+hh+1<=100000;omega) λw10 st10 SB10 zs10 hC10 hp10 f10 n10=>⟨st10,SB10,zs10,hC10,?_,(f07.trans f8).j8 f10 λb hb=>.inr ?_⟩;obtain⟨fs,e1,e2⟩:=qwI (frm:=frm) (to:=to) (down:=down) hHas;rw[hp10] at e1;have e1:=yP e1;rw[e1];refine .inr ⟨hh,_,e2,?_,λe=>absurd e oN⟩;have hso:=hHas.sort;unfold iw;cases down with
 | false=>exact (qz1 hso).symm
 | true=>exact (qwL hso).symm
 rw[zE.1 hb];exact hcw;have hq:=zB hq;have hLn:L=[]:=by rcases hL with h|⟨hk,hTr⟩;exact h.2;rcases hTr with ⟨_,h,_⟩|⟨hh,n,p,hp,e,hHas⟩;exact h;exact absurd ⟨oK,by rw[e];exact hp⟩ hq
 exact⟨dR,[],[],hC8,h0 hLn,f07.trans f8⟩;rintro _ w8 ⟨st8,SB8,zs8,hC8,hL8,f8⟩;exact kk cb w8 st8 SB8 zs8 hC8 hL8 f8
end
end
section
abbrev SS:=Sl×Sl
def oX (x:SS):List Kw:=[x.1.v,x.2.v]
def qqT:∀z,(oX z).length=2:=λ_=>rfl
def qxG(z:SS):∀u∈oX z,u.oneCell'=true:=λu h=>by unfold oX at h;simp only[zG,xZ,or_false] at h;rcases h with rfl|rfl<;>rfl
def qBU:∃i,prog.info? zv=some i/\i.zero=some (.agg dh)/\i.size=2/\i.bytes=48:=uN oL
def qB9{zs:List SS}{SB:KD}{x:SS}(h:fB oX 2 w s zs SB)(O:zs.length<=1000000)(G:∀E B' w',fB oX 2 w' E (zs++[x]) B'->Fr SB w w'->(∀b∈B',b∈SB\/w.heap.size<=b)->K E w'): Pt.new (.cells (vo x.1 x.2) zv) w λr w1=>Pt.run dp ((Builtin.append_ #[99,99] 99 #[s.v,.slice (pW r) 1 1]).run prog w1) K:=by obtain⟨j,I,J,u,C⟩:=qBU;exact fB.push (e:=zv) (x:=x) h qqT (qxG _) oL I J u rfl rfl (by rw[C];omega) oK G
def rH (w:Kv) (h:KD) (ps:List (SS×(Key×Key))):Prop:=∀p∈ps,∃u C,gA w p.1.1 p.2.1 u/\gA w p.1.2 p.2.2 C/\(∀b∈u,b∈h)/\∀b∈C,b∈h
def rH.j0{w w':Kv}{S E C:KD}{ps:List (SS×(Key×Key))}(h:rH w E ps)(f:Fr S w w')(G:∀b∈E,b∉S)(I:∀b∈E,b∈C):rH w' C ps:=λp Q=>by obtain⟨R,U,V,h2,J,O⟩:=h p Q;exact⟨R,U,V.j0 f λb u=>G b (J b u),h2.j0 f λb u=>G b (O b u),λb u=>I b (J b u),λb u=>I b (O b u)⟩
section
variable {dbk pb:Nat} {FD F:KD} {D:dV} {M:eZ} {k v:Nat} {frm to:Key} {down:Bool} {w0 w wA:Kv} {cb:Nat} {Y SB:KD} {st:Sl} {zs:List sC}
def qw6{sf ag:Sl}(hT:TW dbk pb FD D 5000 w [] F M)(hs:uR t=((k:Int),(v:Int)))(hL:(k=0/\L=[])\/(k≠0/\ib D M k v t L P))(au:L.length<=90000)(hf:eO S w sf frm)(ht:eO S w ag to)(av:frm.length<=1000000)(aw:to.length<=1000000)(ax:fq frm)(ay:fq to)(kk:∀s w' B C ps,fB oX 2 w' s (ps.map (·.1)) B->rH w' C ps->(∀b∈C,b∉B)->ps.map (·.2)=(iw down frm to L).take most.toNat->Fr [] w w'->(∀b∈B,w.heap.size<=b)->(∀b∈C,w.heap.size<=b)->K s w'): cW 37 [dQ pb,.i t,sf.v,ag.v,.bool down,.i most] dp w K:=by
 refine qpT<|qss hT hs hL au hf ht av aw ax ay λcb w1 st SB zs ah az f1=>?_;have a4:(iw down frm to L).length<=90000:=by have U:(mw frm to L).length<=L.length:=length_filter_le _ _;unfold iw;split;rw[length_reverse];omega;omega
 have a5:∀b∈cb::SB,w.heap.size<=b:=ah.new;refine jf (λs w'=>∃B C ps,fB oX 2 w' s (ps.map (·.1)) B/\rH w' C ps/\(∀b∈C,b∉B)/\ps.map (·.2)=(iw down frm to L).take most.toNat/\Fr [] w w'/\(∀b∈B,w.heap.size<=b)/\(∀b∈C,w.heap.size<=b)) ?_ ?_
 ·refine Dj (λ(i:Nat) s w'=>∃B C ps st SB zs,i<=(iw down frm to L).length/\fB oX 2 w' s (ps.map (·.1)) B/\rH w' C ps/\(∀b∈C,b∉B)/\ps.map (·.2)=(iw down frm to L).take i/\(most.toNat<i->i=0)/\Fr [] w w'/\(∀b∈B,w.heap.size<=b)/\(∀b∈C,w.heap.size<=b)/\gU dbk pb FD D F M k v frm to down w cb (B++C) w' st SB zs/\Left D M k v frm to down 1 (zs.map (·.2)) ((iw down frm to L).drop i)) (λi=>(iw down frm to L).length+1-i) 0 ⟨[],[],[],st,SB,zs,yY _,.nil _ _ _,(λp hp=>nomatch hp),(λb u=>nomatch u),rfl,λ_=>rfl,f1,(λb u=>nomatch u),(λb u=>nomatch u),ah,by rw[xH];exact az⟩ ?_;rintro i s w2 ⟨B,C,ps,a6,ab,a7,hi,u,hR,hd,O,aC,f2,n2,n3,G,aE⟩ X hX;have a9:s.len=i:=by
   rw[u.len,zK];have:=Kr List.length O;rw[zK,yM] at this;omega
  apply eV<;>intro hc;rotate_left;have hc:=zB hc;refine⟨B,C,ps,u,hR,hd,?_,f2,n2,n3⟩;rw[O];by_cases h0:most.toNat<i;have:=aC h0;omega;have:most.toNat=i:=oK;rw[this];have hc:=zC hc;have a':i<most.toNat:=oK;have ba:=G.lt;refine qqA G aE (λaF w3 ac f3=>?_) λx L' Q ks vs B1 B2 w3 aG aH aI hk hv ac aJ f3 n4 n5 n6 aU=>?_;refine oB (oF [] w3) λr w4 e4 f4 h=>oE h 0 rfl (vo dR dR) λw5 h f5=>JT rfl ?_;have ad:Fr (cb::ab) w2 w5:=f3.trans (h.fr.mono λ_ h=>nomatch h);have E:∀b∈B++C,b∉cb::ab:=λb u J=>by rcases zG.1 J with rfl|J;exact G.C8 u;exact G.Bp b J u
  refine⟨B,C,ps,u.j0 ad λb u=>E b (by simp[u]),hR.j0 ad (λb u=>E b (by simp[u])) λb u=>u,hd,?_,f2.j8 ad λb u=>.inr (G.new b u),n2,n3⟩;rw[O];have I:(iw down frm to L).length<=i:=by
   have:=Kr List.length aF;rw[yC,xM] at this;omega
  rw[zS I,zS oK];have I:i<(iw down frm to L).length:=by
   have:=Kr List.length Q;rw[yC,yJ] at this;omega
  have hx:(iw down frm to L).take (i+1)=(iw down frm to L).take i++[x]:=(by rw[yH I];rw[zY I] at Q;rw[(vE Q).1]);have ae:(iw down frm to L).drop (i+1)=L':=(by rw[zY I] at Q;exact (vE Q).2);have E:∀b∈B++C,b∉cb::ab:=λb u J=>by rcases zG.1 J with rfl|J;exact G.C8 u;exact G.Bp b J u
  have aL:fB oX 2 w3 s (ps.map (·.1)) B:=u.j0 f3 λb u=>E b (by simp[u]);have aM:rH w3 (B1++(B2++C)) (ps++[((ks,vs),x)]):=λp hp=>by rcases zD.1 hp with hp|hp;exact hR.j0 f3 (λb u=>E b (by simp[u])) (λb u=>by simp[u]) p hp;rw[zE.1 hp];exact⟨B1,B2,hk,hv,λb u=>by simp[u],λb u=>by simp[u]⟩
  have an:∀b∈B1++(B2++C),b∉B:=λb R J=>by
   have:=u.lt b J;rcases zD.1 R with h|R;have:=n5 b h;omega;rcases zD.1 R with h|R;have:=n6 b h;omega;exact hd b R J
  refine oB (oF [] w3) λr w4 e4 f4 h=>oE h 0 rfl (vo ks vs) λw5 h f5=>JU rfl<|KC h 0 rfl (ks,vs) ?_;have aN:=ac.q8 h.fr;refine qB9 (x:=(ks,vs)) (aL.q8 h.fr) (by rw[zK];have:=Kr List.length O;rw[zK,yM] at this;omega) λs6 B6 w6 b6 f6 n7=>?_;have ao:=ac.lt;have V:∀b∈B1++(B2++C),b<w5.heap.size:=λb u=>yE (ao b (by simp only[zD,zG] at u⊢;rcases u with h|h|h<;>simp[h])) h.fr.size;have aP:Fr [] w w6:=by refine (f2.j8 f3 λb u=>.inr (G.new b u)).trans (h.fr) |>.j8 f6 λb u=>.inr (n2 b u)
  have hz:=(f2.j8 f3 λb u=>.inr (G.new b u)).size;refine hX (i+1) s6 w6 ⟨B6,B1++(B2++C),ps++[((ks,vs),x)],aG,aH,aI,I,by rw[xP];exact b6,(aM.j0 h.fr (λ_ _ h=>nomatch h) λb u=>u).j0 f6 an λb u=>u,λb u J=>?_,by rw[xP,O,hx];rfl,λh=>oK,aP,λb u=>?_,λb u=>?_,aN.j0 (f6.mono λb u _=>by simp[u]) (λb u=>?_) λb u=>?_,by rw[ae];exact aJ⟩ ?_;rcases n7 b J with U|U;exact an b u U;have:=V b u;omega;rcases n7 b u with U|U;exact n2 b U;have:=h.fr.size;omega;have ap:=f2.size;rcases zD.1 u with h|u;exact zL ap (n5 b h);rcases zD.1 u with h|u;exact zL ap (n6 b h);exact n3 b u;rcases zD.1 u with u|u;exact (n7 b u).imp (λh=>by simp[h]) id;exact .inl (by simp only[zD] at u⊢;rcases u with h|h|h<;>simp[h]);rcases zD.1 u with u|u;exact b6.lt b u;exact yE (V b u) f6.size;show _+1-(i+1)<_+1-i;omega
 rintro s w2 ⟨B,C,ps,U,h2,h3,h4,h5,h6,h7⟩;exact kk s w2 B C ps U h2 h3 h4 h5 h6 h7
end
end
section
def qBM{frm to:Key}{x:Key×Key}:wX frm to x=true↔¬gq x.1 frm/\¬gq to x.1:=by unfold wX;rw[yB,yO,yO];have h:cmpL x.1 frm>=0↔¬gq x.1 frm:=(by unfold gq;omega);have u:cmpL x.1 to<=0↔¬gq to x.1:=(by unfold gq;rw[v8 x.1 to];omega);rw[h,u]
def GO(l:KE):¬cmpL l l<0:=tX
def EU{x y:KE}{m:Int}(u:lA n)(C:lA m)(E:x.length=y.length):gq (x++bw 8 n) (y++bw 8 m)↔gq x y\/x=y/\n<m:=by unfold gq;rw[qu0 E];by_cases e:x=y;rw[iP e,qxp u C,e];exact⟨λh=>.inr ⟨rfl,h⟩,λh=>h.elim (λh=>absurd h (GO y)) λh=>h.2⟩;rw[iN e];exact⟨.inl,λh=>h.elim id λh=>absurd h.1 e⟩
def qvz{a b c d:Int}(u:lA a)(E:lA b)(C:lA c)(G:lA d):gq (mi a b) (mi c d)↔a<c\/a=c/\b<d:=by unfold mi;rw[EU E G (by rw[mf,mf]),show gq (bw 8 a) (bw 8 c)↔a<c from qxp u C];exact⟨λh=>h.imp id λh=>⟨EH (by rw[p8];exact u) (by rw[p8];exact C) h.1,h.2⟩,λh=>h.imp id λh=>⟨by rw[h.1],h.2⟩⟩
def tf (l:List (HL jb)):Prop:=l.Pairwise λa b=>nI a b=true
def Ac (d:HL jb):Key×Key:=(mi d.1 d.2.1,iS (qu d))
def qzv{a b:HL jb}(h:eK jb a)(u:eK jb b):gq (Ac a).1 (Ac b).1↔nI a b=true:=by unfold nI;rw[yO];exact qvz (pV h.1) (pV h.2.1) (pV u.1) (pV u.2.1)
def mP.eqs{α κ:Type}{K:qi α κ}{l:List α}{f:α->Key×Key}(h:mP K L l)(u:∀a,f a=(K.g (K.key a),K.val a))(C:l.Pairwise λa b=>gq (f a).1 (f b).1):L=l.map f:=by
 refine List.Perm.eq_of_pairwise (le:=λx y=>gq x.1 y.1) (λa b _ _ E G=>absurd G (uH E)) ?_ ?_ ?_;have:=h.1.sort;unfold fT gz eh at this;exact pairwise_map.1 this;exact pairwise_map.2 C;rw[show f=λa=>(K.g (K.key a),K.val a) from funext u];exact h.1.perm
def jL (l:List (HL jb)) (J0 most:Int):List (HL jb):=(l.filter λd=>decide (d.1<=J0)).take most.toNat
def qxC{J0:Int}(h:mP wt L l)(G:tf l)(I:lA J0):(iw false [] (mi J0 18446744073709551615) L).take most.toNat=(jL l J0 most).map Ac:=by
 have e:L=l.map Ac:=h.eqs (λ_=>rfl) (List.Pairwise.imp_of_mem (λ{a b} J O u=>(qzv (h.2 a J) (h.2 b O)).2 u) G);unfold iw mw jL;rw[iN oN,e,filter_map,xR];congr 2;refine filter_congr λd Q=>?_;have E:=h.2 d Q;have u:=pV E.1;have C:=pV E.2.1;rw[Ka,Function.comp,qBM,yO];have R:¬gq (Ac d).1 []:=by
  unfold Ac mi gq;have:bw 8 d.1≠[]:=λe=>by have:=Kr List.length e;rw[mf] at this;cases this
  cases U:bw 8 d.1 with
  | nil=>exact absurd U this
  | cons x r=>exact (by decide:¬(1:Int)<0)
 have V:gq (mi J0 18446744073709551615) (Ac d).1↔J0<d.1\/J0=d.1/\18446744073709551615<d.2.1:=qvz I ⟨oN,oN⟩ u C;rw[V];have key:∀a e:Int,lA e->(¬(J0<a\/J0=a/\18446744073709551615<e)↔a<=J0):=λa e h=>by omega
 exact⟨λh=>(key _ _ C).1 h.2,λh=>⟨R,(key _ _ C).2 h⟩⟩
abbrev Gw:Kx:=53
abbrev jk:HL jb->List Kw:=HL.mk jb
def DF(d:HL jb):(jk d).length=4:=rfl
def qBO:∃i,prog.info? Gw=some i/\i.zero=some (.agg df)/\i.size=4/\i.bytes=32:=uN oL
def qxE(d:HL jb):∀u∈jk d,u.oneCell'=true:=λu h=>by obtain⟨a,b,c,e⟩:=d;rcases zG.1 h with rfl|h;rfl;rcases zG.1 h with rfl|h;rfl;rcases zG.1 h with rfl|h;rfl;rw[zE.1 h];rfl
def Cw{x:HL jb}(h:fB jk 4 w s l B)(O:l.length<=1000000)(G:∀E B' w',fB jk 4 w' E (l++[x]) B'->Fr B w w'->(∀b∈B',b∈B\/w.heap.size<=b)->K E w'): Pt.new (.cells (HL.mk jb x).toArray Gw) w λr w1=>Pt.run dp ((Builtin.append_ #[31,31] 31 #[s.v,.slice (pW r) 1 1]).run prog w1) K:=by obtain⟨j,I,J,u,C⟩:=qBO;exact fB.push (e:=Gw) (x:=x) h DF (qxE x) oL I J u rfl rfl (by rw[C];omega) oK G
section
variable {w w' w1:Kv} {Y F F':KD} {sb pb c:Nat} {b b':Bk}
def qAF{J0:Int}(h:SB w Y sb F c b)(hn:IntKind.u64.has J0)(hd:tf b.due)(hl:b.size<=90000)(kk:∀s B w',fB jk 4 w' s (jL b.due J0 most) B->Fr [] w w'->(∀x∈B,w.heap.size<=x)->(∀d∈b.due,eK jb d)->K s w'): cW 12 [dQ sb,.w J0,.i most] dp w K:=by
 refine qlL ?_;obtain⟨pb,h⟩:=h;have g:=(Fr.refl [] w).drew;refine h.vi g (quJ λs1 w1 h1 f1=>ja (h.held (g.trans f1)) ?_);obtain⟨dbk,FD,D,M,Fo,hS,hb,hc⟩:=h;have C:=hb.due;have ax:=C.len;have ab:=(hS.q8 g).q8 f1;have hz:b.due.length<=b.size:=(by unfold Bk.size;omega);refine qw6 (S:=[]) (k:=16) (v:=16) (frm:=[]) (L:=(Fo 3).1) (P:=(Fo 3).2) (ab.tw.y5 λ_ h=>nomatch h) rfl (.inr ⟨oN,hS.st.J0.J1 3 oN⟩) oK (.nil _ _ _ _) h1.rd (yY _) (by rw[Cv];decide) (λ_ h=>nomatch h) (qtT _ _) λs2 w2 B KB ps hB hR _ E f2 nB _=>?_;rw[qxC C hd (pV hn)] at E;have ac:ps.length=(jL b.due J0 most).length:=(by have:=Kr List.length E;simpa using this);have aA:(jL b.due J0 most).length<=b.due.length:=(by unfold jL;rw[yM];exact zL (Nat.min_le_right _ _) (length_filter_le _ _));have aB:s2.len=ps.length:=(by rw[hB.len,zK]);have ad:eE oX 2 [] w2 s2 (ps.map (·.1)):=hB.k5 qqT λ_ _ h=>nomatch h;refine kz (λq w'=>∃i:Nat,∃B',q.2=i/\i<=ps.length/\fB jk 4 w' q.1 ((jL b.due J0 most).take i) B'/\Fr [] w2 w'/\∀x∈B',w2.heap.size<=x) (λq _=>ps.length-q.2.toNat) ⟨0,[],rfl,yY _,fB.nil _ _ _,.refl _ _,λ_ h=>nomatch h⟩ ?_;rintro⟨s3,q⟩ w3 ⟨i,B3,hq,hi,U,J,n3⟩ X hX;dsimp only at hq U⊢;subst hq;apply cD<;>intro G;have u:i<ps.length:=oK;have I:i<(jL b.due J0 most).length:=oK;have O:ps[i].2=Ac (jL b.due J0 most)[i]:=by
  have:=Kr (·[i]?) E;simp only[zQ,zA u,zA I,Option.map_some] at this;exact yP this
 generalize Q:(jL b.due J0 most)[i]=d at O;have hm:d∈b.due:=(by rw[<- Q];exact (mem_filter.1 (yW (zX I))).1);have V:=C.2 d hm;obtain⟨B1,B2,k1,k2,_,_⟩:=hR ps[i] (zX u);rw[O] at k1 k2;have af:eO [] w2 ps[i].1.1 (mi d.1 d.2.1):=k1.k5 mW λ_ _ h=>nomatch h;have ag:eO [] w2 ps[i].1.2 (iS (qu d)):=k2.k5 mW λ_ _ h=>nomatch h;refine jf (λq w'=>∃B',fB jk 4 w' q ((jL b.due J0 most).take (i+1)) B'/\Fr [] w2 w'/\∀x∈B',w2.heap.size<=x) ?_ λs4 w4 ⟨B4,b4,f4,n4⟩=>hX _ _ ⟨i+1,B4,by dsimp only;rw[gu _ oK];rfl,u,b4,f4,n4⟩ (by dsimp only;rw[gu _ oK];omega);refine eE.p6 (x:=ps[i].1) (y:=ps[i].1) (ad.q8 J) i rfl (by rw[zQ,zA u];rfl) rfl rfl<|oB (oF [] w3) λr4 w4 _ f4 o=>o.st' 0 rfl _ (iK rfl) rfl (zM _) λw5 o _=>oA o 0 rfl ps[i].1.1 rfl (oA o 0 rfl ps[i].1.2 rfl ?_);have f5:=J.trans o.fr;refine qvN (x:=qu d) (af.q8 f5) (ag.q8 f5) (pV V.1) (pV V.2.1) ⟨pV V.2.2.1,pV V.2.2.2⟩ λw6 f6=>oB (o.q8 f6) λr7 w7 _ f7 o=>o.st' 0 rfl _ (iK rfl) rfl (zM _) λw8 o _=>JT rfl (KC o 0 rfl d ?_);refine Cw (U.q8 o.fr) (by rw[yM];omega) λs9 B9 w9 b9 f9 n9=>⟨B9,?_,(J.trans o.fr).j8 f9 λx R=>.inr (n3 x R),λx R=>(n9 x R).elim (n3 x) λh=>zL (J.trans o.fr).size h⟩;rw[yH I,Q];exact b9;have u:i=ps.length:=oK;subst u;rw[ac,vB] at U;have f:=(g.trans f1).trans f2;exact kk s3 B3 w3 U (f.trans J) (λx R=>zL f.size (n3 x R)) C.2
end
end
section
def tE(h:lA x):IntKind.u64.has x:=show (0:Int)<=x/\x<=18446744073709551615 from⟨h.1,oK⟩
def AY(h:0<=x/\x<65536):IntKind.u16.has x:=show (0:Int)<=x/\x<=65535 from⟨h.1,oK⟩
def rG:IntKind.u64.has 0:=tE ⟨oN,oN⟩
def BQ:eK fV lC:=⟨rG,rG,rG,rG,rG,rG,rG,rG,rG,rG,rG,show (0:Int)<=0/\(0:Int)<=4294967295 from⟨oN,oN⟩,AY ⟨oN,oN⟩,AY ⟨oN,oN⟩,rG⟩
def qrx{x:gJ}(u:nY x)(h:eK fV a):eK fV (md x a):=⟨h.1,h.2.1,tE u.1,tE u.2,h.2.2.2.2⟩
def qrw{x:gJ}(u:nY x)(h:eK fV a):eK fV (ml x a):=⟨h.1,h.2.1,h.2.2.1,h.2.2.2.1,h.2.2.2.2.1,h.2.2.2.2.2.1,tE u.1,tE u.2,h.2.2.2.2.2.2.2.2⟩
def Gs(u:0<=x/\x<65536)(h:eK fV a):eK fV (kS x a):=⟨h.1,h.2.1,h.2.2.1,h.2.2.2.1,h.2.2.2.2.1,h.2.2.2.2.2.1,h.2.2.2.2.2.2.1,h.2.2.2.2.2.2.2.1,h.2.2.2.2.2.2.2.2.1,h.2.2.2.2.2.2.2.2.2.1,h.2.2.2.2.2.2.2.2.2.2.1,h.2.2.2.2.2.2.2.2.2.2.2.1,h.2.2.2.2.2.2.2.2.2.2.2.2.1,AY u,h.2.2.2.2.2.2.2.2.2.2.2.2.2.2⟩
def qvr(h:0<=x/\x<65536):0<=nP x 16/\nP x 16<65536:=by
 unfold nP;split
 ·next e=>unfold hasB at e;have:=zC e;omega
 exact h
def DL{t:HL iU}{q:Pa}(E:eK iU t)(G:eK fV p.1)(I:eK fV p.2.1)(h:gR t p=some q):eK fV q.1/\eK fV q.2.1:=by unfold gR at h;obtain⟨x,J,h⟩:=Option.bind_eq_some_iff.1 h;obtain⟨y,O,rfl⟩:=yU.1 h;have u:=qrx (FS (AR G) (uM E) J).2 G;have C:=qrw (FS (AV I) (uM E) O).2 I;constructor;dsimp only;split;exact Gs (qvr (vn u)) u;exact u;dsimp only;split;exact Gs (qvr (vn C)) C;exact C
def Hb.ye(h:Hb T b)(i:gJ):eK fV ((eX b i).getD lC):=by
 cases u:eX b i with
 | none=>exact BQ
 | some a=>exact h.acc.2 a (mem_of_find?_eq_some u)
def Hb.DE(h:Hb T b){i:gJ}{k:Kp}(u:iG b i=some k):tM k/\pZ k=i:=⟨h.jA.2 k (mem_of_find?_eq_some u),by simpa using List.find?_some u⟩
def SB.hb{Y F:KD}{sb c:Nat}(h:SB w Y sb F c b):∃T,Hb T b:=by obtain⟨pb,dbk,FD,D,M,Fo,C,u,E⟩:=h;exact⟨_,u⟩
def gK (t:HL iU):gJ:=(t.2.2.1,t.2.2.2.1)
def gL (t:HL iU):gJ:=(t.2.2.2.2.1,t.2.2.2.2.2.1)
def mh (b:Bk) (d:HL jb) (n:Int):Bk:=
 let k:=(iG b (qu d)).getD vR
 ((fJ b ((gR k.1 (lh b (gK k.1) (gL k.1))).getD qV) n).gj (gP k.1,4)).kc d
def AE (c:Nat) (b:Bk) (d:HL jb):Prop:=d∈b.due/\(∃k q,iG b (qu d)=some k/\gR k.1 (lh b (gK k.1) (gL k.1))=some q)/\3*(b.size+5)+1<=c
def iF:Bk->List (HL jb)->Int->Bk
 | b,[],_=>b
 | b,d::r,n=>iF (mh b d n) r ((n+1)%18446744073709551616)
def pO (c:Nat):Bk->List (HL jb)->Int->Prop
 | _,[],_=>True
 | b,d::r,n=>AE c b d/\pO c (mh b d n) r ((n+1)%18446744073709551616)
section
variable {w w' w1:Kv} {Y F F':KD} {sb pb c:Nat} {b b':Bk}
def HN:(fJ b p n).size<=b.size+4:=by have h:=Aq (b:=b) (a:=p.1);have u:=Aq (b:=b.dZ p.1) (a:=p.2.1);have C:=FM (b:=(b.dZ p.1).dZ p.2.1) (a:=p.1) (s:=1) (n:=n);have E:=FM (b:=jB ((b.dZ p.1).dZ p.2.1) p.1 1 n) (a:=p.2.1) (s:=2) (n:=n);unfold fJ;omega
def qov:(fJ b p n).due=b.due:=by unfold fJ jB;split<;>split<;>rfl
def Hz{k:Kp}{q:Pa}{C E r6 r1:Nat}{o6:Obj}{K:Int->WP}(h:SB w Y sb F c b)(o:ed [] w w1 [(C,.c (lf qV).toArray rB),(E,JR iU k.1 55),(r6,o6),(r1,JR jb d Gw)])(O:d∈b.due)(Q:iG b (qu d)=some k)(R:gR k.1 (lh b (gK k.1) (gL k.1))=some q)(hr:3*(b.size+5)+1<=c)(hn:IntKind.u64.has n)(U:∀F' w',SB w' Y sb F' c (mh b d n)->qf F w F' w'->K 0 w'):DU (pW sb) n K (lf q,true) C w1 E r1:=by
 unfold DU;obtain⟨T,I⟩:=h.hb;have u:=(I.DE Q).1;have J:eK jb d:=I.due.2 d O;have G:=DL u.1 (I.ye (gK k.1)) (I.ye (gL k.1)) R;have e:mh b d n=((fJ b q n).gj (gP k.1,4)).kc d:=(by unfold mh;rw[Q];simp only[xX];rw[R];rfl);rw[e] at U;refine mI (sE q) (o.st' 0 rfl _ (iK rfl) rfl (zM _) λw2 o _=>JU rfl (ou (o.at (i:=0) rfl) _ (sE q) rfl ?_));have f:=o.fr;have h:=h.J0 o;have z:=HN (b:=b) (p:=q) (n:=n);refine qAz h G.1 G.2 hn oK λF3 w3 V s3=>JU rfl ?_;have o:=h.own o s3;refine KC o 1 rfl (k.1.1,k.1.2.1) (qos V oK ⟨u.1.1,u.1.2.1⟩ (show (0:Int)<=4/\(4:Int)<=255 from⟨oN,oN⟩) λF4 w4 h4 s4=>JU rfl ?_);have o:=V.own o s4;refine KC o 3 rfl d (qvZ h4 ?_ J (by show d∈(fJ b q n).due;rw[qov];exact O) λF5 w5 h5 s5=>?_);have:=ui (kf:=λx:gJ×Int=>x.1) (a:=(gP k.1,4)) (l:=(fJ b q n).ki);have z2:((fJ b q n).gj (gP k.1,4)).size<=(fJ b q n).size+1:=(by unfold Bk.size Bk.gj;dsimp only;omega);exact zL (by have:=z2;show 3*((fJ b q n).gj (gP k.1,4)).size+1<=3*(b.size+5)+1;omega) hr;exact U F5 w5 (h5.y5 λ_ h=>zI _ h) (.pre f ((s3.trans s4).trans s5))
def qB5{K:Int->WP}(h:SB w Y sb F c b)(ok:AE c b d)(R:IntKind.u64.has n)(U:∀F' w',SB w' Y sb F' c (mh b d n)->qf F w F' w'->K 0 w'): cW 33 [dQ sb,.agg #[.w d.1,.w d.2.1,.w d.2.2.1,.w d.2.2.2],.w n] dq w K:=by
 refine qrP ?_;obtain⟨O,⟨k,q,G,E⟩,V⟩:=ok;obtain⟨T,Q⟩:=h.hb;have u:=(Q.DE G).1;have I:eK jb d:=Q.due.2 d O;have hz:=Aj;have ab:=xg;have gD:lz (gK k.1):=⟨u.1.2.2.1,u.1.2.2.2.1⟩;have gC:lz (gL k.1):=⟨u.1.2.2.2.2.1,u.1.2.2.2.2.2.1⟩;have hA:=Q.ye (gK k.1);have hC:=Q.ye (gL k.1);refine oB (oF [] w) λr1 w1 _ f1 o=>KC o 0 rfl (d.2.2.1,d.2.2.2) (quO (h.q8 f1) ⟨I.2.2.1,I.2.2.2⟩ λw2 f2=>?_);rw[show iG b (d.2.2.1,d.2.2.2)=some k from G];refine oJ (o.q8 f2) ab λr6 w3 _ o=>mI (po k) (o.st' 0 rfl _ (iK rfl) rfl (zM _) λw4 o _=>KC o 0 rfl k.1 (oB o λal w5 _ f5 o=>o.st' 0 rfl _ (iK rfl) rfl (zM _) λw6 o _=>?_));have o:=o.drew;refine⟨KC o 0 rfl k.1 (KC o 0 rfl (gK k.1) (KC o 0 rfl (gL k.1) (GP (h.q8 o.fr) gD gC λw7 C=>ja ((o.q8 C).cells 0) (Jl (am:=(0,0)) u.1 hA hC E λw8 J=>oJ ((o.q8 C).q8 J) hz λr9 w9 _ o=>nM (o.cells 1) (o.cells 1) (o.cells 1) ?_)))),
  KC o 0 rfl k.1 (KC o 0 rfl (gK k.1) (KC o 0 rfl (gL k.1) (GP (h.q8 o.fr) gD gC λw7 C=>ja ((o.q8 C).cells 0) (oJ (o.q8 C) hz λr9 w9 _ o=>nM (o.cells 1) (o.cells 1) (o.cells 1) (Jl (am:=(0,0)) u.1 hA hC E λw8 J=>?_))))),
  KC o 0 rfl k.1 (KC o 0 rfl (gK k.1) (KC o 0 rfl (gL k.1) (oJ o hz λr9 w9 _ o=>nM (o.cells 1) (o.cells 1) (o.cells 1) (GP (h.q8 o.fr) gD gC λw7 C=>ja ((o.q8 C).cells 1) (Jl (am:=(0,0)) u.1 hA hC E λw8 J=>?_)))))⟩
 exact Hz h o O G E V R U;exact Hz h (o.q8 J) O G E V R U;exact Hz h ((o.q8 C).q8 J) O G E V R U
end
end
section
section
variable {w w' w1:Kv} {Y F F':KD} {sb pb c:Nat} {b b':Bk}
def SB.flt(h:SB w Y sb F c b):∀x∈F,x<w.heap.size:=by obtain⟨pb,dbk,FD,D,M,Fo,u,E,G⟩:=h;exact λx C=>u.tw.x7.lt x C
def Ii{J0:Int}:(jL l J0 most).length<=l.length:=by unfold jL;rw[yM];exact zL (Nat.min_le_right _ _) (length_filter_le _ _)
def qsm{first:Int}{K:KI->WP}(h:SB w Y sb F c b)(hn:IntKind.u64.has first)(hd:tf b.due)(hl:b.size<=90000)(ok:pO c b (jL b.due first most) first)(kk:∀F' w',SB w' Y sb F' c (iF b (jL b.due first most) first)->qf F w F' w'->K (((jL b.due first most).length:Int),0) w'): cW 10 [dQ sb,.w first,.i most] dA w K:=by
 refine qoL ?_;have hz:b.due.length<=b.size:=(by unfold Bk.size;omega);have R:=Ii (l:=b.due) (J0:=first) (most:=most);refine qAF h hn hd hl λs B w1 U f1 nB _=>?_;generalize jL b.due first most=l at ok kk U R;have V:s.len=l.length:=U.len;have hR:eE jk 4 F w1 s l:=U.k5 DF λx hx hF=>by have:=nB x hx;have:=h.flt x hF;omega
 have hu:=pV hn;refine kz (λq w'=>∃i:Nat,∃F' Q,q=i/\i<=l.length/\SB w' Y sb F' c Q/\eE jk 4 F' w' s l/\qf F w F' w'/\pO c Q (l.drop i) ((first+i)%18446744073709551616)/\iF Q (l.drop i) ((first+i)%18446744073709551616)=iF b l first) (λq _=>l.length-q.toNat) ⟨0,F,b,rfl,yY _,h.q8 f1,hR,.pre f1 (.refl _ _),by rw[show (first+((0:Nat):Int))%18446744073709551616=first by omega];exact ok,by rw[show (first+((0:Nat):Int))%18446744073709551616=first by omega];rfl⟩ ?_;rintro q w2 ⟨i,F2,Q,rfl,hi,h2,G,s2,C,I⟩ X hX;apply cD<;>intro hc
 ·have u:i<l.length:=oK;rw[zY u] at C I;have en:wrap .u64 (first+wrap .u64 (i:Int))=(first+i)%18446744073709551616:=(by rw[rQ (i:Int) ⟨oK,oK⟩];unfold wrap;have:(IntKind.u64.signed)=false:=rfl;simp only[this,Bool.false_and,Bool.false_eq_true,if_false];rfl);rw[en];refine eE.p6 (x:=l[i]) (y:=l[i]) G i rfl (zA u) rfl rfl<|oB (oF [] w2) λr3 w3 _ f3 o=>o.st' 0 rfl _ (iK rfl) rfl (zM _) λw4 o _=>oC o 0 rfl l[i] rfl<|qB5 (h2.q8 o.fr) C.1 (tE ⟨oK,oK⟩) λF5 w5 h5 s5=>JU rfl ?_;rw[gu _ oK];have J:((first+(i:Int))%18446744073709551616+1)%18446744073709551616=(first+((i+1:Nat):Int))%18446744073709551616:=oK;have O:=C.2;rw[J] at O;rw[iF,J] at I;have E:=qf.pre o.fr s5;exact hX _ _ ⟨i+1,F5,_,rfl,u,h5,G.j0 E.fr E.new,s2.trans E,O,I⟩ oK
 have u:i=l.length:=oK;subst u;rw[drop_length,iF] at I;rw[V];rw[I] at h2;exact kk F2 w2 h2 s2
end
end
section
def AO{a b:gJ}{x y:Operand}{K:Bool->Prop}(k:K (decide (a=b))): fM [i3.one Cell.bool] (λw'=>(do eqGuard .eql pf x y (dk a.1 a.2) (dk b.1 b.2);binOp .eql pf (dk a.1 a.2) (dk b.1 b.2):Sem Kw).run prog w') w K:=by have e:v7 prog 2 pf (dk a.1 a.2) (dk b.1 b.2)=some (bif a.1==b.1 then (bif a.2==b.2 then true else false) else false):=oL;have h:(bif a.1==b.1 then (bif a.2==b.2 then true else false) else false)=decide (a=b):=(by obtain⟨u,C⟩:=a;obtain⟨E,G⟩:=b;dsimp only;by_cases h0:u=E;by_cases h1:C=G;simp[h0,h1];simp[h0,h1];simp[h0]);rw[h] at e;exact qBH 2 oN _ e oL k
def eE.kY{α:Type}{enc:α->List Kw}{l:List α}{cl:List Cell}(h:eE enc k S w s l)(n:Nat){x:α}{y:HL cl}{K:HL cl->Prop}(hi:i=n)(u:l[n]?=some x)(C:cl.length<=k)(E:(enc x).take cl.length=HL.mk cl y)(G:K y):idx s i k λa=>dT cl a w K:=by subst hi;obtain⟨Q,b,o,I,_,R,T,U,J,O⟩:=h.at n u;refine sM I ⟨oK,oK⟩ ?_;rw[zJ];refine vL J y ?_ G;rw[<- E,<- O,take_take,xT C]
def eE.xe{α:Type}{enc:α->List Kw}{l:List α}{c:Cell}(h:eE enc k S w s l)(n j:Nat){x:α}{y:c.El}{K:c.El->Prop}(hi:i=n)(C:l[n]?=some x)(E:j<k)(u:(enc x)[j]?=some (c.mk y))(G:K y):idx s i k λa=>ld c ⟨a.block,a.off+j,none⟩ w K:=by subst hi;obtain⟨Q,b,o,I,_,R,T,U,J,O⟩:=h.at n C;refine sM I ⟨oK,oK⟩ ?_;rw[zJ];refine jH J y ?_ G;rw[<- O,xC,iP E,xB] at u;rw[<- xN];exact u
def rC (x:gJ×Int):List Kw:=[.w x.1.1,.w x.1.2,.b x.2]
def qF (m:Mv):List Kw:=[.w m.1.1,.w m.1.2,.w m.2.1,.w m.2.2.1,.w m.2.2.2]
def nO (x:Ln):List Kw:=[.w x.1.1,.w x.1.2]++HL.mk k6 x.2
def pM (x:gJ×Int):List Kw:=[.w x.1.1,.w x.1.2,.w x.2]
abbrev pL:HL fV->List Kw:=HL.mk fV
abbrev oq:=HL fv
structure RB (S:KD) (w:Kv) (r:oq) (b:Bk):Prop where
 acc:eE pL 15 S w r.1 b.acc
 jA:eE qB 18 S w r.2.1 b.jA
 ki:eE rC 3 S w r.2.2.1 b.ki
 due:eE jk 4 S w r.2.2.2.1 b.due
 mE:eE qF 5 S w r.2.2.2.2.1 b.mE
 mH:eE qF 5 S w r.2.2.2.2.2.1 b.mH
 iJ:eE nO 12 S w r.2.2.2.2.2.2.1 b.iJ
 told:r.2.2.2.2.2.2.2.2.1=b.last.isSome/\r.2.2.2.2.2.2.2.1=b.last.getD 0
 gone:∃ g:List (gJ×Int),g.length<=b.gn/\eE pM 3 S w r.2.2.2.2.2.2.2.2.2 g
section
variable {S S':KD} {w w':Kv} {r:oq} {b:Bk}
def RB.j0(h:RB S w r b)(f:Fr S w w')(u:∀x∈S',x∈S\/w.heap.size<=x):RB S' w' r b:=⟨h.acc.j0 f u,h.jA.j0 f u,h.ki.j0 f u,h.due.j0 f u,h.mE.j0 f u,h.mH.j0 f u,h.iJ.j0 f u,h.told,h.gone.elim λg q=>⟨g,q.1,q.2.j0 f u⟩⟩
def RB.q8(h:RB S w r b)(f:Fr [] w w'):RB S w' r b:=h.j0 (f.mono λ_ h _=>nomatch h) λ_ h=>.inl h
def BW{α:Type}{p:α->Bool}{l:List α}{i:Nat}{x:α}(G:l[i]?=some x)(C:(l.take i).find? p=none):(p x=true->l.find? p=some x)/\(p x=false->(l.take (i+1)).find? p=none):=by obtain⟨E,u⟩:=zP.1 G;constructor;intro h;rw[show l.find? p=(l.take i++l.drop i).find? p by rw[xG],List.find?_append,C,zY E,u,List.find?_cons,h];rfl;intro h;rw[yH E,u,List.find?_append,C,List.find?_cons,h];rfl
def IM{α:Type}{enc:α->List Kw}{j r1 r3:Nat}{key:α->gJ}{i:gJ}{cs:Array Kw}{T1 T3:Kx}{l:List α}{x y:Operand}{E:WP}{V:Int->WP}(I:∀x,(enc x).take 2=HL.mk u2 (key x))(hk:2<=k)(h1:w.heap[r1]?=some (.c cs T1))(hj:cs[j]?=some s.v)(h3:w.heap[r3]?=some (.c #[.w i.1,.w i.2] T3))(hR:eE enc k S w s l)(hl:l.length<=1000000)(k0:∀w',Fr [] w w'->(l.find? λx=>decide (key x=i))=none->E w')(k1:∀(n:Nat) x w',l[n]?=some x->(l.find? λx=>decide (key x=i))=some x->Fr [] w w'->V n w'): loop Int (λX q C=>ld .slice (dm r1 j) C λs=>cond (decide (q<(s.len:Int))) (ld .slice (dm r1 j) C.drew λs=>idx s q k λa=>dT u2 a C.drew λt=>dT u2 (dm r3) C.drew λJ=>fM [i3.one Cell.bool] (λw'=>(do eqGuard .eql pf x y (dk t.1 t.2) (dk J.1 J.2);binOp .eql pf (dk t.1 t.2) (dk J.1 J.2):Sem Kw).run prog w') C.drew λb=>cond b (V q C) (X (wrap .i64 (q+1)) C.drew)) (E C)) 0 w:=by
 have ad:=hR.1;refine kz (λq w'=>∃n:Nat,q=n/\n<=l.length/\Fr [] w w'/\((l.take n).find? λx=>decide (key x=i))=none) (λq _=>l.length-q.toNat) ⟨0,rfl,yY _,.refl _ _,rfl⟩ ?_;rintro q w1 ⟨n,rfl,hn,f,O⟩ X hX;have G:∀ {b:Nat} {o:Obj} {w2:Kv},w.heap[b]?=some o->Fr [] w w2->w2.heap[b]?=some o:=λh f=>by rw[f.block _ (fl h) λh=>nomatch h];exact h
 refine jH (G h1 f) s hj (eV (λQ=>?_) λQ=>?_);have u:n<l.length:=(by have:=zC Q;omega);have g:=f.drew;have R:=zA u;refine jH (G h1 g) s hj (eE.kY (cl:=u2) (hR.q8 g) n rfl R hk (I _) (vL (G h3 g) i rfl (AO ?_)));have st:=BW (p:=λx=>decide (key x=i)) R O;apply eV<;>intro U;exact k1 n _ w1 R (st.1 U) f;rw[gu _ oK];exact hX _ _ ⟨n+1,rfl,u,g,st.2 U⟩ oK;have u:n=l.length:=(by have:=zB Q;omega);subst u;rw[vB] at O;exact k0 w1 f O
def quK{i0 i1:Int}{K:HL fV×Bool->WP}(h:RB S w r b)(G:b.size<=100000)(E:∀w',Fr [] w w'->K ((eX b (i0,i1)).getD lC,(eX b (i0,i1)).isSome) w'): cW 64 [JS fv r,dk i0 i1] [.agg fV,.one .bool] w K:=by
 refine qer<|oB (oF [] w) λr1 w1 _ R o=>oB o λr3 w2 _ U o=>oB o λV w3 _ f3 o=>IM (i:=(i0,i1)) (s:=r.1) (key:=ic) (λ_=>rfl) oN (o.at (i:=2) rfl) rfl (o.at (i:=1) rfl) (h.q8 o.fr).acc (by unfold Bk.size at G;omega) (λI u J=>?_) λn x I O Q u=>?_;refine (o.q8 u).st' 0 rfl _ (iK rfl) rfl (zM _) λC o _=>KC o 0 rfl lC ?_
 have:=E C o.fr;rwa[show eX b (i0,i1)=none from J] at this;have o:=(o.q8 u).drew;refine KA o 2 rfl r.1 (eE.p6 (h.q8 o.fr).acc n rfl O rfl rfl (o.st' 0 rfl _ (iK rfl) rfl (zM _) λC o _=>KC o 0 rfl x ?_));have:=E C o.fr;rwa[show eX b (i0,i1)=some x from Q] at this
def quN{i0 i1:Int}{K:List Kw×Bool->WP}(h:RB S w r b)(G:b.size<=100000)(E:∀w',Fr [] w w'->K (qB ((iG b (i0,i1)).getD vR),(iG b (i0,i1)).isSome) w'): cW 13 [JS fv r,dk i0 i1] du w K:=by
 refine qdY ?_;have I:=xg;refine oB (oF [] w) λr1 w1 _ U o=>oB o λr3 w2 _ V o=>oJ o I λr5 w3 _ o=>IM (i:=(i0,i1)) (s:=r.2.1) (key:=pZ) (λ_=>rfl) oN (o.at (i:=2) rfl) rfl (o.at (i:=1) rfl) (h.q8 o.fr).jA (by unfold Bk.size at G;omega) (λJ u O=>?_) λn x J Q R u=>?_;refine tP (ts:=[i3.pF]) (qB vR) oL (mI rfl ((o.q8 u).st' 0 rfl _ (iK rfl) rfl (zM _) λC o _=>ou (o.at (i:=0) rfl) _ (po vR) rfl ?_));have:=E C o.fr;rwa[show iG b (i0,i1)=none from O] at this;have o:=(o.q8 u).drew;refine KA o 2 rfl r.2.1 (eE.jd (h.q8 o.fr).jA po n rfl Q (mI (po x) (o.st' 0 rfl _ (iK rfl) rfl (zM _) λC o _=>ou (o.at (i:=0) rfl) _ (po x) rfl ?_)));have:=E C o.fr;rwa[show iG b (i0,i1)=some x from R] at this
def qAE{i0 i1:Int}{K:Int->WP}(h:RB S w r b)(G:b.size<=100000)(E:∀w',Fr [] w w'->K (sO b (i0,i1)) w'): cW 51 [JS fv r,dk i0 i1] [.one .b] w K:=by
 refine qeT<|oB (oF [] w) λr1 w1 _ Q o=>oB o λr3 w2 _ R o=>IM (i:=(i0,i1)) (s:=r.2.2.1) (key:=λx:gJ×Int=>x.1) (λ_=>rfl) oN (o.at (i:=1) rfl) rfl (o.at (i:=0) rfl) (h.q8 o.fr).ki (by unfold Bk.size at G;omega) (λu C I=>?_) λn x u J O C=>?_
 have:=E u (o.fr.trans C);unfold sO at this;rwa[I] at this;have o:=(o.q8 C).drew;refine KA o 1 rfl r.2.2.1 (eE.xe (c:=.b) (h.q8 o.fr).ki n 2 rfl J oN (y:=x.2) rfl ?_);have:=E u.drew o.fr;unfold sO at this;rwa[O] at this
end
end
section
section
variable {α:Type} {enc:α->List Kw} {k:Nat} {w:Kv} {s:Sl} {l:List α} {B S:KD}
def Ib{n:Nat}{x:α}{K:WP}(h:fB enc k w s l B)(C:∀x,(enc x).length=k)(I:∀x,∀u∈enc x,u.oneCell'=true)(hi:i=n)(Q:n<l.length)(kk:∀w',fB enc k w' s (l.set n x) B->Fr B w w'->K w'):idx s i k λa=>Pt.st a (enc x) w K:=by
 subst hi;have hf:=rR C;rcases h with ⟨_,rfl,_⟩|⟨b,o,G,T,rfl,rfl,ha,hb,h5,h6,h7,h8⟩;cases Q;refine sM ha ⟨oK,oK⟩ ?_;rw[zJ,xU];rw[xH] at h8;have h9:l.length*k<=s.cap*k:=Kk k oK;have ai:l.length*k<=G.size:=oK;have E:l=l.take n++l[n]::l.drop (n+1):=(by rw[<- zY Q,xG]);have R:G=((l.take n).flatMap enc++enc l[n]++((l.drop (n+1)).flatMap enc++G.toList.drop (l.length*k))).toArray:=by
  apply Array.ext';have:l.flatMap enc=(l.take n).flatMap enc++enc l[n]++(l.drop (n+1)).flatMap enc:=by
   conv=>lhs;rw[E]
   rw[yR,yI,zV]
  rw[<- zV,<- this,<- h8,xG]
 have hA:((l.take n).flatMap enc).length=n*k:=(by rw[hf,yM,xT oK]);have J:ef G (n*k) (enc x)=((l.take n).flatMap enc++enc x++((l.drop (n+1)).flatMap enc++G.toList.drop (l.length*k))).toArray:=by
  have:=vr (A:=(l.take n).flatMap enc) (X:=enc l[n]) (Y:=enc x) (Z:=(l.drop (n+1)).flatMap enc++G.toList.drop (l.length*k)) (by rw[C,C]);rw[hA,<- R] at this;exact this
 have U:(n+1)*k<=l.length*k:=Kk k Q;rw[Nat.succ_mul] at U;refine tY hb _ J (all_eq_true.2 (I x)) (by rw[C];omega) λw' V f=>kk w' (.inr ⟨b,0,_,T,rfl,rfl,ha,V,by rw[xI];exact h5,h6,?_,?_⟩) f;have:=Kr Array.size J;rw[pE] at this;rw[<- this];exact h7;rw[xH,xI];have e:(l.set n x).flatMap enc=(l.take n).flatMap enc++enc x++(l.drop (n+1)).flatMap enc:=by rw[set_eq_take_append_cons_drop,iP Q,yR,yI,zV]
 have O:((l.set n x).flatMap enc).length=l.length*k:=(by rw[hf,xI]);show List.take (l.length*k) (_++_++(_++_))=_;rw[<- zV,<- e,<- O];exact take_left' rfl
def yg{t ty e:Kx}{i:TypeInfo}{z:Kw}{r:Nat}{T:Kx}(J:w.heap[r]?=some (.c #[] T))(G:eE enc k S w s l)(C:∀x,(enc x).length=k)(E:∀x,∀u∈enc x,u.oneCell'=true)(U:prog.underlying t=some (.slice e))(hi:prog.info? e=some i)(V:i.zero=some z)(O:i.size=k)(Q:z.cells.size=k)(R:i.bytes<=1000)(hl:l.length<=1000000)(kk:∀I B w',fB enc k w' I l B->Fr [r] w w'->(∀b∈B,b=r\/w.heap.size<=b)->K I w'): Pt.run dp ((Builtin.append_ #[t,t] ty #[.slice (pW r) 0 0,s.v]).run prog w) K:=by
 refine fB.j2 (s:=⟨pW r,0,0⟩) (l:=[]) (ys:=l) (B:=[r]) (fB.none J) C U hi V O Q (wF (e':=e) G C E U) G.1 ?_ (by simp;have:=G.1;omega) λI B' w' b' f' n' _=>kk I B' w' (oQ b') f' λb J=>(n' b J).imp (λh=>zE.1 h) id;have:=G.1;rw[xM,xU,this];calc l.length*i.bytes<=1000000*1000:=Nat.mul_le_mul hl R
  _<=_:=by decide
end
def DD(x:HL fV):(pL x).length=15:=rfl
def IZ(x:HL fV):∀u∈pL x,u.oneCell'=true:=all_eq_true.1 rfl
def qBN:∃i,prog.info? 47=some i/\i.zero=some (JS fV lC)/\i.size=15/\i.bytes=104:=uN oL
section
variable {S:KD} {w w':Kv} {r:oq} {b:Bk}
def Ad{α:Type}{enc:α->List Kw}{w w0:Kv}{l:List α}{S:KD}(h:fB enc k w s l B)(u:∀x,(enc x).length=k)(C:∀x∈S,x<w0.heap.size)(E:∀x∈B,w0.heap.size<=x):eE enc k S w s l:=h.k5 u λb G I=>by have:=C b I;have:=E b G;omega
def Ea{α κ:Type}[DecidableEq κ]{kf:α->κ}{a x:α}{l:List α}{n:Nat}(C:l[n]?=some x)(u:(l.take n).find? (λy=>decide (kf y=kf a))=none)(h:kf x=kf a):iT kf a l=l.set n a:=by obtain⟨E,rfl⟩:=zP.1 C;refine qtq E h λj G e=>?_;rw[List.find?_eq_none] at u;refine u (l[j]' oK) ?_ (oQ e);exact mem_take_iff_getElem.2 ⟨j,oK,rfl⟩
def Dr{α κ:Type}[DecidableEq κ]{kf:α->κ}{a:α}{l:List α}(h:l.find? (λy=>decide (kf y=kf a))=none):iT kf a l=l++[a]:=Fw λx u e=>by rw[List.find?_eq_none] at h;exact h x u (oQ e)
def ED{K:oq->WP}(h:RB S w r b)(hl:b.size<=100000)(hS:∀x∈S,x<w.heap.size)(kk:∀r' w',RB S w' r' (b.dZ a)->Fr [] w w'->K r' w'): cW 23 [JS fv r,JS fV a] [.agg fv] w K:=by
 refine qdk ?_;have aA:b.acc.length<=100000:=(by unfold Bk.size at hl;omega);obtain⟨i,hi,hz,U,V⟩:=qBN;refine oB (oF [] w) λr1 w1 _ f1 o=>oB o λr3 w2 _ f2 o=>oB o λr5 J _ f3 o=>oB (oF [] J) λr7 w4 e4 f4 o2=>?_;have o4:=o.q8 f4;refine KA o4 2 rfl r.1 (yg (e:=47) (o2.at (i:=0) rfl) (h.q8 o4.fr).acc DD IZ oL hi hz U rfl (by rw[V];decide) oK λs5 B5 w5 b5 f5 n5=>?_);have E:∀x∈B5,J.heap.size<=x:=λx u=>(n5 x u).elim (λe=>oK) λh=>zL f4.size h;have O:Fr [] J w5:=f4.j8 f5 λx u=>.inr (by rw[zE.1 u];omega);have aa:∀(s:Sl) (l:List (HL fV)) (B:KD) R,fB pL 15 R s l B->(∀x∈B,J.heap.size<=x)->Fr [] J R->l=iT ic a b.acc->Pt.st (dm r1) [s.v] R λw7=>dT fv (dm r1) w7 λt=>Pt.st (dm r5) (HL.mk fv t) w7 λw8=>dT fv (dm r5) w8 λt=>K t w8:=λs l B R hb hB G e=>by
  refine (o.q8 G).st' 2 rfl (HL.mk fv (s,r.2)).toArray rfl rfl (zO rfl) λw7 o7 f7=>KC o7 2 rfl (s,r.2) (o7.st' 0 rfl _ (iK rfl) rfl (zM _) λw8 o8 f8=>KC o8 0 rfl (s,r.2) ?_);have I:=h.q8 o8.fr;have l1:r1<J.heap.size:=fl (o.at (i:=2) rfl);have l5:r5<J.heap.size:=fl (o.at (i:=0) rfl);have ak:=(hb.j0 f7 λx u h=>by have:=hB x u;have:=zE.1 h;omega).j0 f8 λx u h=>by have:=hB x u;have:=zE.1 h;omega
  have al:eE pL 15 S w8 s (iT ic a b.acc):=(by rw[<- e];exact Ad ak DD hS λx u=>zL o.fr.size (hB x u));exact kk (s,r.2) w8 ⟨al,I.jA,I.ki,I.due,I.mE,I.mH,I.iJ,I.told,I.gone⟩ o8.fr
 have aH:s5.len=b.acc.length:=b5.len;refine kz (λq w'=>∃n:Nat,q=n/\n<=b.acc.length/\Fr [] w5 w'/\((b.acc.take n).find? λx=>decide (ic x=ic a))=none) (λq _=>b.acc.length-q.toNat) ⟨0,rfl,yY _,.refl _ _,rfl⟩ ?_;rintro q R ⟨n,rfl,hn,G,hf⟩ X hX;apply cD<;>intro hc;have C:n<b.acc.length:=oK;have u:=zA C;have b6:=(b5.q8 G).q8 (Fr.refl [] R).drew;have o6:=o.q8 ((O.trans G).drew);refine eE.kY (cl:=u2) (S:=[]) (b6.k5 DD λ_ _ h=>nomatch h) n rfl u oN rfl (KC o6 1 rfl (ic a) (AO (a:=ic b.acc[n]) ?_));have st:=BW (p:=λx=>decide (ic x=ic a)) u hf;apply eV<;>intro hb;refine KC o6 1 rfl a (Ib b6 DD IZ rfl C λw7 b7 f7=>aa _ _ _ _ b7 E ((O.trans G).drew.j8 f7 λx u=>.inr (E x u)) (Ea u hf (zC hb)).symm);rw[gu _ oK];exact hX _ _ ⟨n+1,rfl,C,G.drew,st.2 hb⟩ oK;have C:n=b.acc.length:=oK;subst C;rw[vB] at hf;have Q:=O.trans G;refine KC (o.q8 Q) 1 rfl a (fB.push (e:=47) (x:=a) (b5.q8 G) DD (IZ a) oL hi hz U rfl rfl (by rw[V];omega) oK λs7 B7 w7 b7 f7 n7=>aa _ _ _ _ b7 (λx u=>(n7 x u).elim (E x) (zL Q.size)) (Q.j8 f7 λx u=>.inr (E x u)) (Dr hf).symm)
end
end
section
abbrev JA:Kx:=146
abbrev mvs:List Cell:=[.w,.w,.w,.w,.w]
def DP(x:Mv):(qF x).length=5:=rfl
def Ir(x:Mv):∀u∈qF x,u.oneCell'=true:=all_eq_true.1 rfl
def qBS:∃i,prog.info? JA=some i/\i.zero=some (.agg #[.w 0,.w 0,.w 0,.w 0,.w 0])/\i.size=5/\i.bytes=40:=uN oL
section
variable {S:KD} {w w':Kv} {s:Sl} {l:List Mv}
def qso{m:Mv}(h:eE qF 5 S w s l)(hl:l.length<=100000)(hS:∀x∈S,x<w.heap.size)(kk:∀s' w',eE qF 5 S w' s' (iT qw m l)->Fr [] w w'->K s' w'): cW 68 [s.v,.agg #[.w m.1.1,.w m.1.2,.w m.2.1,.w m.2.2.1,.w m.2.2.2]] dp w K:=by
 refine qii ?_;obtain⟨i,hi,hz,R,U⟩:=qBS;refine oB (oF [] w) λr1 V _ f3 o=>oB (oF [] V) λr7 w4 e4 f4 o2=>?_;have o4:=o.q8 f4;refine yg (e:=JA) (o2.at (i:=0) rfl) (h.q8 o4.fr) DP Ir oL hi hz R rfl (by rw[U];decide) oK λs5 B5 w5 b5 f5 n5=>?_;have G:∀x∈B5,V.heap.size<=x:=λx u=>(n5 x u).elim (λe=>oK) λh=>zL f4.size h;have O:Fr [] V w5:=f4.j8 f5 λx u=>.inr (by rw[zE.1 u];omega);have aa:∀(s:Sl) (l':List Mv) (B:KD) I,fB qF 5 I s l' B->(∀x∈B,V.heap.size<=x)->Fr [] V I->l'=iT qw m l->K s I:=λs l' B I C hB J e=>by refine kk s I ?_ (f3.trans J);rw[<- e];exact Ad C DP hS λx u=>zL f3.size (hB x u)
 have aC:s5.len=l.length:=b5.len;refine kz (λq w'=>∃n:Nat,q=n/\n<=l.length/\Fr [] w5 w'/\((l.take n).find? λx=>decide (qw x=qw m))=none) (λq _=>l.length-q.toNat) ⟨0,rfl,yY _,.refl _ _,rfl⟩ ?_;rintro q I ⟨n,rfl,hn,J,hf⟩ X hX;apply cD<;>intro hc;have E:n<l.length:=oK;have u:=zA E;have b6:=(b5.q8 J).q8 (Fr.refl [] I).drew;have o6:=o.q8 ((O.trans J).drew);have r6:eE qF 5 [] I.drew s5 l:=b6.k5 DP λ_ _ h=>nomatch h;refine sI (decide (qw l[n]=qw m)) I.drew (λM hM=>?_) ?_;refine eE.kY (cl:=u2) r6 n rfl u oN rfl (KC o6 0 rfl m.1 (AO (a:=l[n].1) ?_));apply eV<;>intro C;have C:=zC C;refine eE.xe (c:=.w) r6 n 2 rfl u oN (y:=l[n].2.1) rfl (KA o6 0 rfl m.2.1 ?_);rw[show (l[n].2.1==m.2.1)=decide (qw l[n]=qw m) by unfold qw;rw[C];by_cases e:l[n].2.1=m.2.1;simp[e];simp[e]];exact hM;have C:=zB C;rw[show decide (qw l[n]=qw m)=false from zU λe=>C (vD e).1] at hM;exact hM;have st:=BW (p:=λx=>decide (qw x=qw m)) u hf;apply eV<;>intro C;refine KC o6 0 rfl (m.1.1,m.1.2,m.2.1,m.2.2.1,m.2.2.2) (Ib b6 DP Ir (x:=m) rfl E λw7 b7 f7=>aa _ _ _ _ b7 G ((O.trans J).drew.j8 f7 λx u=>.inr (G x u)) (Ea u hf (zC C)).symm);rw[gu _ oK];exact hX _ _ ⟨n+1,rfl,E,J.drew,st.2 C⟩ oK;have E:n=l.length:=oK;subst E;rw[vB] at hf;have Q:=O.trans J;refine KC (o.q8 Q) 0 rfl (m.1.1,m.1.2,m.2.1,m.2.2.1,m.2.2.2) (fB.push (e:=JA) (x:=m) (b5.q8 J) DP (Ir m) oL hi hz R rfl rfl (by rw[U];omega) oK λs7 B7 w7 b7 f7 n7=>aa _ _ _ _ b7 (λx u=>(n7 x u).elim (G x) (zL Q.size)) (Q.j8 f7 λx u=>.inr (G x u)) (Dr hf).symm)
end
end
section
section
variable {α:Type} {enc:α->List Kw} {k:Nat} {w:Kv} {s:Sl} {l:List α} {B S:KD}
def quY{n j:Nat}{x:α}{vs:List Kw}{K:WP}(h:fB enc k w s l B)(E:∀x,(enc x).length=k)(hi:i=n)(U:n<l.length)(I:vs.all Value.oneCell'=true)(hj:j+vs.length<=k)(hx:enc x=(enc l[n]).take j++vs++(enc l[n]).drop (j+vs.length))(kk:∀w',fB enc k w' s (l.set n x) B->Fr B w w'->K w'):idx s i k λa=>Pt.st ⟨a.block,a.off+j,none⟩ vs w K:=by
 subst hi;have hf:=rR E;rcases h with ⟨_,rfl,_⟩|⟨b,o,u,T,rfl,rfl,ha,hb,h5,h6,h7,V⟩;cases U;refine sM ha ⟨oK,oK⟩ ?_;rw[zJ,xU];rw[xH] at V;have h9:l.length*k<=s.cap*k:=Kk k oK;have an:l.length*k<=u.size:=oK;have C:l=l.take n++l[n]::l.drop (n+1):=(by rw[<- zY U,xG]);have J:=E l[n];have he:enc l[n]=(enc l[n]).take j++((enc l[n]).drop j).take vs.length++(enc l[n]).drop (j+vs.length):=(by rw[zV,<- xF,xG,xG]);have O:u=(((l.take n).flatMap enc++(enc l[n]).take j)++((enc l[n]).drop j).take vs.length++((enc l[n]).drop (j+vs.length)++((l.drop (n+1)).flatMap enc++u.toList.drop (l.length*k)))).toArray:=by
  apply Array.ext';have:l.flatMap enc=(l.take n).flatMap enc++enc l[n]++(l.drop (n+1)).flatMap enc:=by
   conv=>lhs;rw[C]
   rw[yR,yI,zV]
  have h0:u.toList=(l.take n).flatMap enc++enc l[n]++(l.drop (n+1)).flatMap enc++u.toList.drop (l.length*k):=(by rw[<- this,<- V,xG]);rw[h0];conv=>lhs;rw[he]
  rw[<- h0];simp only[zV]
 have hA:((l.take n).flatMap enc++(enc l[n]).take j).length=n*k+j:=(by rw[zF,hf,yM,yM,xT oK,J];omega);have G:ef u (n*k+j) vs=((l.take n).flatMap enc++enc x++((l.drop (n+1)).flatMap enc++u.toList.drop (l.length*k))).toArray:=by
  have:=vr (A:=(l.take n).flatMap enc++(enc l[n]).take j) (X:=((enc l[n]).drop j).take vs.length) (Y:=vs) (Z:=(enc l[n]).drop (j+vs.length)++((l.drop (n+1)).flatMap enc++u.toList.drop (l.length*k))) (by rw[yM,yC,J];omega);rw[hA,<- O] at this;rw[this,hx];simp only[zV]
 have aa:(n+1)*k<=l.length*k:=Kk k U;rw[Nat.succ_mul] at aa;have Q:n*k+j+vs.length<=u.size:=(by clear O G hx he hA V;omega);refine tY hb _ G I Q λw' ab f=>kk w' (.inr ⟨b,0,_,T,rfl,rfl,ha,ab,by rw[xI];exact h5,h6,?_,?_⟩) f;have:=Kr Array.size G;rw[pE] at this;rw[<- this];exact h7;rw[xH,xI];have e:(l.set n x).flatMap enc=(l.take n).flatMap enc++enc x++(l.drop (n+1)).flatMap enc:=by rw[set_eq_take_append_cons_drop,iP U,yR,yI,zV]
 have R:((l.set n x).flatMap enc).length=l.length*k:=(by rw[hf,xI]);show List.take (l.length*k) (_++_++(_++_))=_;rw[<- zV,<- e,<- R];exact take_left' rfl
end
abbrev A7:Kx:=148
def DY(x:gJ×Int):(rC x).length=3:=rfl
def qqU(x:gJ×Int):∀u∈rC x,u.oneCell'=true:=all_eq_true.1 rfl
def qBV:∃i,prog.info? A7=some i/\i.zero=some (.agg #[.w 0,.w 0,.b 0])/\i.size=3/\i.bytes=24:=uN oL
def qoq{r:oq}{i0 i1:Int}{K:oq->WP}(h:RB S w r b)(hl:b.size<=100000)(hS:∀x∈S,x<w.heap.size)(kk:∀r' w',RB S w' r' (b.gj ((i0,i1),x))->Fr [] w w'->K r' w'): cW 27 [JS fv r,dk i0 i1,.b x] [.agg fv] w K:=by
 refine qdP ?_;have aA:b.ki.length<=100000:=(by unfold Bk.size at hl;omega);obtain⟨i,hi,hz,U,V⟩:=qBV;refine oB (oF [] w) λr1 w1 _ f1 o=>oB o λr3 w2 _ f2 o=>oB o λr5 J _ f3 o=>oB (oF [] J) λr7 w4 e4 f4 o2=>?_;have o4:=o.q8 f4;refine KA o4 2 rfl r.2.2.1 (yg (e:=A7) (o2.at (i:=0) rfl) (h.q8 o4.fr).ki DY qqU oL hi hz U rfl (by rw[V];decide) oK λs5 B5 w5 b5 f5 n5=>?_);have E:∀x∈B5,J.heap.size<=x:=λx u=>(n5 x u).elim (λe=>oK) λh=>zL f4.size h;have O:Fr [] J w5:=f4.j8 f5 λx u=>.inr (by rw[zE.1 u];omega);have aa:∀(s:Sl) (l:List (gJ×Int)) (B:KD) R,fB rC 3 R s l B->(∀x∈B,J.heap.size<=x)->Fr [] J R->l=iT (λy:gJ×Int=>y.1) ((i0,i1),x) b.ki->Pt.st (dm r1 2) [s.v] R λw7=>dT fv (dm r1) w7 λt=>Pt.st (dm r5) (HL.mk fv t) w7 λw8=>dT fv (dm r5) w8 λt=>K t w8:=λs l B R hb hB G e=>by
  refine (o.q8 G).st' 2 rfl (HL.mk fv (r.1,r.2.1,s,r.2.2.2)).toArray rfl rfl (zO rfl) λw7 o7 f7=>KC o7 2 rfl (r.1,r.2.1,s,r.2.2.2) (o7.st' 0 rfl _ (iK rfl) rfl (zM _) λw8 o8 f8=>KC o8 0 rfl (r.1,r.2.1,s,r.2.2.2) ?_);have I:=h.q8 o8.fr;have l1:r1<J.heap.size:=fl (o.at (i:=2) rfl);have l5:r5<J.heap.size:=fl (o.at (i:=0) rfl);have al:=(hb.j0 f7 λx u h=>by have:=hB x u;have:=zE.1 h;omega).j0 f8 λx u h=>by have:=hB x u;have:=zE.1 h;omega
  have am:eE rC 3 S w8 s (iT (λy:gJ×Int=>y.1) ((i0,i1),x) b.ki):=(by rw[<- e];exact Ad al DY hS λx u=>zL o.fr.size (hB x u));exact kk (r.1,r.2.1,s,r.2.2.2) w8 ⟨I.acc,I.jA,am,I.due,I.mE,I.mH,I.iJ,I.told,I.gone⟩ o8.fr
 have aH:s5.len=b.ki.length:=b5.len;refine kz (λq w'=>∃n:Nat,q=n/\n<=b.ki.length/\Fr [] w5 w'/\((b.ki.take n).find? λy:gJ×Int=>decide (y.1=(((i0,i1),x):gJ×Int).1))=none) (λq _=>b.ki.length-q.toNat) ⟨0,rfl,yY _,.refl _ _,rfl⟩ ?_;rintro q R ⟨n,rfl,hn,G,hf⟩ X hX;apply cD<;>intro hc;have C:n<b.ki.length:=oK;have u:=zA C;have b6:=(b5.q8 G).q8 (Fr.refl [] R).drew;have o6:=o.q8 ((O.trans G).drew);refine eE.kY (cl:=u2) (S:=[]) (b6.k5 DY λ_ _ h=>nomatch h) n rfl u oN rfl (KC o6 1 rfl (i0,i1) (AO (a:=b.ki[n].1) ?_));have st:=BW (p:=λy:gJ×Int=>decide (y.1=(((i0,i1),x):gJ×Int).1)) u hf;apply eV<;>intro hb;have ae:b.ki[n].1=(i0,i1):=zC hb;refine quY (j:=2) (x:=((i0,i1),x)) (vs:=[.b x]) b6 DY rfl C rfl (zM _) (by rw[show rC b.ki[n]=rC (b.ki[n].1,b.ki[n].2) from rfl,ae];rfl) λw7 b7 f7=>aa _ _ _ _ b7 E ((O.trans G).drew.j8 f7 λx u=>.inr (E x u)) (Ea (kf:=λy:gJ×Int=>y.1) u hf ae).symm;rw[gu _ oK];exact hX _ _ ⟨n+1,rfl,C,G.drew,st.2 hb⟩ oK;have C:n=b.ki.length:=oK;subst C;rw[vB] at hf;have Q:=O.trans G;refine KC (o.q8 Q) 1 rfl (i0,i1) (fB.push (e:=A7) (x:=(((i0,i1),x):gJ×Int)) (b5.q8 G) DY (qqU _) oL hi hz U rfl rfl (by rw[V];omega) oK λs7 B7 w7 b7 f7 n7=>aa _ _ _ _ b7 (λx u=>(n7 x u).elim (E x) (zL Q.size)) (Q.j8 f7 λx u=>.inr (E x u)) (Dr (kf:=λy:gJ×Int=>y.1) hf).symm)
end
def eE.BL{α:Type}{enc:α->List Kw}{l:List α}{c:Cell}(h:eE enc k S w s l)(n:Nat){x:α}{y:c.El}{K:c.El->Prop}(hi:i=n)(C:l[n]?=some x)(E:0<k)(u:(enc x)[0]?=some (c.mk y))(G:K y):idx s i k λa=>ld c a w K:=by subst hi;obtain⟨Q,b,o,I,_,R,T,U,J,O⟩:=h.at n C;refine sM I ⟨oK,oK⟩ ?_;rw[zJ];refine jH J y ?_ G;rw[<- O,xC,iP E,xB,Nat.add_zero] at u;rw[<- xN];exact u
def qzt{n:Nat}(u:n<l.length):iY d (l.take (n+1))=iY d (l.take n)++if mX l[n]≠mX d then [l[n]] else []:=by unfold iY;rw[yH u,xE];congr 1;by_cases h:mX l[n]=mX d;simp[h];simp[h]
def qoo{r:oq}{K:oq×Bool->WP}(h:RB S w r b)(hl:b.size<=100000)(hS:∀x∈S,x<w.heap.size)(kk:∀r' w' t,RB S w' r' (b.kc d)->Fr [] w w'->K (r',t) w'): cW 45 [JS fv r,.agg #[.w d.1,.w d.2.1,.w d.2.2.1,.w d.2.2.2]] [.agg fv,.one .bool] w K:=by
 refine qeQ ?_;have aq:b.due.length<=100000:=(by unfold Bk.size at hl;omega);refine oB (oF [] w) λr1 w1 _ f1 o=>oB o λr3 w2 _ f2 o=>oB o λr5 G _ f3 o=>oB (oF [] G) λr7 w4 e4 f4 o2=>?_;have l1:r1<G.heap.size:=fl (o.at (i:=2) rfl);have l5:r5<G.heap.size:=fl (o.at (i:=0) rfl);have ab:=(h.q8 o.fr).due;refine kz (λt w'=>∃n:Nat,∃B,t.2=n/\n<=b.due.length/\fB jk 4 w' t.1 (iY d (b.due.take n)) B/\Fr [] G w'/\∀x∈B,G.heap.size<=x) (λt _=>b.due.length-t.2.toNat) ⟨0,[r7],rfl,yY _,fB.none (o2.at (i:=0) rfl),f4,λx u=>by rw[zE.1 u];omega⟩ ?_;rintro⟨s,q⟩ w5 ⟨n,B,hq,hn,V,Q,O⟩ X hX;dsimp only at hq V⊢;subst hq;have o5:=o.q8 Q;have R:eE jk 4 S w5 r.2.2.2.1 b.due:=ab.q8 Q;have ay:r.2.2.2.1.len=b.due.length:=R.1;refine KA o5 2 rfl r.2.2.2.1 (eV (λhc=>?_) λhc=>?_);have C:n<b.due.length:=(by have:=zC hc;omega);have u:=zA C;have ct:=qzt (d:=d) C;generalize b.due[n]=x at u ct;have U:=o5.drew;have I:=R.drew;have az:(iY d (b.due.take n)).length<=100000:=zL (length_filter_le _ _) (by rw[yM];omega);refine jf (λs' w'=>∃B',fB jk 4 w' s' (iY d (b.due.take (n+1))) B'/\Fr [] G w'/\∀x∈B',G.heap.size<=x) ?_ λs' w' ⟨B',b',f',n'⟩=>hX _ _ ⟨n+1,B',by dsimp only;rw[gu _ oK];rfl,C,b',f',n'⟩ (by dsimp only;rw[gu _ oK];omega);refine sI (decide (mX x≠mX d)) w5.drew (λM hM=>?_) ?_;refine KA U 2 rfl r.2.2.2.1 (eE.BL (c:=.w) I n rfl u oN (y:=x.1) rfl (KA U 1 rfl d.1 ?_));by_cases e:x.1=d.1;refine JU (by rw[e];simp) (KA U 2 rfl r.2.2.2.1 (eE.xe (c:=.w) I n 1 rfl u oN (y:=x.2.1) rfl (KA U 1 rfl d.2.1 ?_)));rw[show (!x.2.1==d.2.1)=decide (mX x≠mX d) by unfold mX;rw[e];by_cases e2:x.2.1=d.2.1;simp[e2];simp[e2]];exact hM;rw[show decide (mX x≠mX d)=true from yA λh=>e (vD h).1] at hM;exact JT (oQ e) hM;rw[ct];have b6:=V.q8 (Fr.refl [] w5).drew;apply cD<;>intro J;rw[iP (J)];refine KA U 2 rfl r.2.2.2.1 (eE.p6 (y:=x) I n rfl u rfl rfl (Cw b6 oK λs7 B7 w7 b7 f7 n7=>⟨B7,b7,Q.drew.j8 f7 λx u=>.inr (O x u),λx u=>(n7 x u).elim (O x) (zL Q.drew.size)⟩));rw[iN (J),xJ];exact⟨B,b6,Q.drew,O⟩;have C:n=b.due.length:=(by have:=zB hc;omega);subst C;rw[vB] at V;refine KA o5 2 rfl r.2.2.2.1 (o5.st' 2 rfl (HL.mk fv (r.1,r.2.1,r.2.2.1,s,r.2.2.2.2)).toArray rfl rfl (zO rfl) λw7 o7 f7=>KC o7 2 rfl (r.1,r.2.1,r.2.2.1,s,r.2.2.2.2) (o7.st' 0 rfl _ (iK rfl) rfl (zM _) λw8 o8 f8=>KC o8 0 rfl (r.1,r.2.1,r.2.2.1,s,r.2.2.2.2) ?_));have E:=h.q8 o8.fr;have ah:=(V.j0 f7 λx u h=>by have:=O x u;have:=zE.1 h;omega).j0 f8 λx u h=>by have:=O x u;have:=zE.1 h;omega
 exact kk (r.1,r.2.1,r.2.2.1,s,r.2.2.2.2) w8 _ ⟨E.acc,E.jA,E.ki,Ad ah DF hS λx u=>zL o.fr.size (O x u),E.mE,E.mH,E.iJ,E.told,E.gone⟩ o8.fr
def qAD{r:oq}{J0:Int}(h:RB S w r b)(hl:b.size<=100000)(U:∀s B w',fB jk 4 w' s (jL b.due J0 most) B->Fr [] w w'->(∀x∈B,w.heap.size<=x)->K s w'): cW 43 [JS fv r,.w J0,.i most] dp w K:=by
 refine qf7 ?_;have aj:b.due.length<=100000:=(by unfold Bk.size at hl;omega);refine oB (oF [] w) λr1 Q _ V o=>oB (oF [] Q) λr7 w4 e4 f4 o2=>?_;have aa:=(h.q8 V).due;unfold jL at U;generalize hp:(λd:HL jb=>decide (d.1<=J0))=p at U;refine kz (λt w'=>∃n:Nat,∃B,t.2=n/\n<=b.due.length/\fB jk 4 w' t.1 ((b.due.take n).filter p) B/\((b.due.take n).filter p).length<=most.toNat/\Fr [] Q w'/\∀x∈B,Q.heap.size<=x) (λt _=>b.due.length-t.2.toNat) ⟨0,[r7],rfl,yY _,fB.none (o2.at (i:=0) rfl),yY _,f4,λx C=>by rw[zE.1 C];omega⟩ ?_;rintro⟨s,q⟩ w5 ⟨n,B,hq,hn,J,hm,O,R⟩ X hX;dsimp only at hq J⊢;subst hq;have o5:=o.q8 O;have G:eE jk 4 S w5 r.2.2.2.1 b.due:=aa.q8 O;have ap:r.2.2.2.1.len=b.due.length:=G.1;have hs:=J.len;refine sI (decide (n<b.due.length/\(s.len:Int)<most)) w5 (λM hM=>?_) ?_;refine KA o5 0 rfl r.2.2.2.1 (eV (λu=>?_) λu=>?_);have u:=zC u;rw[show decide ((s.len:Int)<most)=decide (n<b.due.length/\(s.len:Int)<most) from decide_eq_decide.2 ⟨λh=>⟨oK,h⟩,λh=>h.2⟩];exact hM;have u:=zB u;rw[show decide (n<b.due.length/\(s.len:Int)<most)=false from zU λh=>u oK] at hM;exact hM;apply eV<;>intro u;obtain⟨E,aq⟩:=zC u;have C:=zA E;have ct:(b.due.take (n+1)).filter p=(b.due.take n).filter p++if p b.due[n] then [b.due[n]] else []:=by rw[yH E,xE];congr 1;by_cases h:p b.due[n];simp[h];simp[h]
 generalize b.due[n]=x at C ct;have ar:((b.due.take n).filter p).length<=100000:=zL (length_filter_le _ _) (by rw[yM];omega);refine jf (λs' w'=>∃B',fB jk 4 w' s' ((b.due.take (n+1)).filter p) B'/\((b.due.take (n+1)).filter p).length<=most.toNat/\Fr [] Q w'/\∀x∈B',Q.heap.size<=x) ?_ λs' w' ⟨B',b',m',f',n'⟩=>hX _ _ ⟨n+1,B',by dsimp only;rw[gu _ oK];rfl,E,b',m',f',n'⟩ (by dsimp only;rw[gu _ oK];omega);refine KA o5 0 rfl r.2.2.2.1 (eE.BL (c:=.w) G n rfl C oN (y:=x.1) rfl ?_);rw[ct];unfold JQ;rw[show (decide (x.1<=J0))=p x by rw[<- hp]];apply eV<;>intro I;rw[iP I];refine KA o5 0 rfl r.2.2.2.1 (eE.p6 (y:=x) G n rfl C rfl rfl (Cw J oK λs7 B7 w7 b7 f7 n7=>⟨B7,b7,by rw[zF,xO];omega,O.j8 f7 λx C=>.inr (R x C),λx C=>(n7 x C).elim (R x) (zL O.size)⟩));rw[iN (by rw[I];decide),xJ];exact⟨B,J,hm,O,R⟩
 ·have u:=zB u;have e:(b.due.filter p).take most.toNat=(b.due.take n).filter p:=by
   conv=>lhs;rw[<- xG n b.due,xE]
   by_cases E:n<b.due.length;have:((b.due.take n).filter p).length=most.toNat:=by have:¬(s.len:Int)<most:=λh=>u ⟨E,h⟩;omega
   exact take_left' this;rw[Kd oK,filter_nil,xJ];exact zS hm
  rw[<- e] at J;exact U s B w5 J (V.trans O) λx C=>zL V.size (R x C)
section
section
variable {w:Kv}
def BR{k:Int}{K:Bool->WP}(h:0<=x/\x<65536)(E:0<k)(u:K (hasB x k) w):cW 54 [.int .u16 x,.int .u16 k] dr w K:=by refine qjj ?_;have C:0<=x / k:=Int.ediv_nonneg h.1 oK;have G:x / k<=x:=Int.ediv_le_self _ h.1;refine mI oK ?_;rw[Ki h.1,vH _ oK,Kj C];rw[show (x / k%2==1)=hasB x k by unfold hasB;by_cases e:x / k%2=1;simp[e];simp[e]];exact u
def wV (x k:Int):Int:=if hasB x k then x else x+k
def qAl(u:0<=x/\x<65536):(hasB x 16=true->16<=x)/\(hasB x 16=false->x<65520):=by unfold hasB;exact⟨λh=>by have:=zC h;omega,λh=>by have:=zB h;omega⟩
def qor{is:Bool}{K:Int->WP}(E:0<=x/\x<65536)(u:K (if is then wV x 16 else nP x 16) w):cW 67 [.int .u16 x,.bool is] dH w K:=by refine qgV<|BR E oN ?_;have h:=qAl E;unfold wV nP at u;generalize hasB x 16=c at u h;refine sI (is&&!c) w (λM C=>?_) ?_;cases is;exact JU rfl C;exact JT rfl C;cases is;refine JU rfl (sI c w (λM C=>JT rfl C) ?_);cases c;exact JU rfl u;refine JT rfl ?_;rw[vH _ (by have:=h.1 rfl;omega)];exact u;cases c;refine JT rfl ?_;rw[vH _ (by have:=h.2 rfl;omega)];exact u;exact JU rfl (sI false w (λM C=>JU rfl C) (JU rfl u))
def qxi{a b:HL jb}{K:Bool->WP}(u:∀w',Fr [] w w'->K (nI a b) w'):cW 71 [.agg #[.w a.1,.w a.2.1,.w a.2.2.1,.w a.2.2.2],.agg #[.w b.1,.w b.2.1,.w b.2.2.1,.w b.2.2.2]] dr w K:=by refine qhY<|oB (oF [] w) λr1 w1 _ C o=>oB o λr3 w2 _ E o=>KA o 1 rfl a.1 (KA o 0 rfl b.1 ?_);have u:=u w2 o.fr;unfold nI at u;apply eV<;>intro h;rw[yA (.inl (zC h))] at u;exact u;have h:=zB h;refine KA o 1 rfl a.1 (KA o 0 rfl b.1 (eV (λe=>?_) λe=>?_));have e:a.1=b.1:=eq_of_beq e;refine KA o 1 rfl a.2.1 (KA o 0 rfl b.2.1 ?_);rw[show decide (a.1<b.1\/a.1=b.1/\a.2.1<b.2.1)=decide (a.2.1<b.2.1) from decide_eq_decide.2 ⟨λq=>q.elim (λq=>absurd q h) λq=>q.2,λq=>.inr ⟨e,q⟩⟩] at u;exact u;have e:a.1≠b.1:=ne_of_beq_false e;rw[zU λq=>q.elim h λq=>e q.1] at u;exact u
def quL{s:Int}{K:HL k6->WP}(h:∀w',Fr [] w w'->K (rowOf a s n) w'):cW 56 [JS fV a,.b s,.w n] [.agg k6] w K:=by refine qjk<|oB (oF [] w) λr1 w1 _ C o=>oB o λr3 w2 _ E o=>oC o 1 rfl (_,_) rfl (oC o 1 rfl (_,_) rfl (oC o 1 rfl (_,_) rfl (oC o 1 rfl (_,_) rfl ?_)));exact o.st' 0 rfl _ (iK rfl) rfl (zM _) λu o _=>KC o 0 rfl (rowOf a s n) (h u o.fr)
end
end
def tL (d:HL jb):Bool->List (HL jb)->List (HL jb)
 | c,[]=>if c then [] else [d]
 | c,x::r=>(if c=false/\nI d x=true then [d] else [])++x::tL d (c||nI d x) r
def qq2{d:HL jb}:∀l,tL d true l=l
 | []=>rfl
 | x::r=>by rw[tL,iN (λh=>nomatch h.1),Bool.true_or,qq2 r];rfl
def qvc{d:HL jb}:∀l,tL d false l=kX d l
 | []=>rfl
 | x::r=>by rw[tL,kX,Bool.false_or];by_cases h:nI d x=true;rw[iP ⟨rfl,h⟩,iP h,h,qq2];rfl;rw[iN λq=>h q.2,iN h,Bool.eq_false_iff.2 h,qvc r];rfl
def qvW{r:oq}{K:oq->WP}(h:RB S w r b)(hl:b.size<=100000)(hS:∀x∈S,x<w.heap.size)(kk:∀r' w',RB S w' r' (b.kb d)->Fr [] w w'->K r' w'): cW 31 [JS fv r,.agg #[.w d.1,.w d.2.1,.w d.2.2.1,.w d.2.2.2]] [.agg fv] w K:=by
 refine qeR ?_;have aq:b.due.length<=100000:=(by unfold Bk.size at hl;omega);refine oB (oF [] w) λr1 w1 _ f1 o=>oB o λr3 w2 _ f2 o=>oB o λr5 w3 _ f3 o=>KC o 2 rfl r (KC o 1 rfl d ?_);have ar:=o.fr.size;have l1:r1<w3.heap.size:=fl (o.at (i:=2) rfl);have l5:r5<w3.heap.size:=fl (o.at (i:=0) rfl);have n1:w.heap.size<=r1:=(o.own _ (yG (i:=2) rfl)).elim (λh=>nomatch h) id;have n5:w.heap.size<=r5:=(o.own _ (yG (i:=0) rfl)).elim (λh=>nomatch h) id;have au:∀x∈r1::r5::S,x<w3.heap.size:=λx u=>by rcases zG.1 u with rfl|u;exact l1;rcases zG.1 u with rfl|u;exact l5;exact yE (hS x u) o.fr.size
 have h0:RB (r1::r5::S) w r b:=h.j0 (.refl _ _) λx u=>by rcases zG.1 u with rfl|u;exact .inr n1;rcases zG.1 u with rfl|u;exact .inr n5;exact .inl u
 refine qoo (d:=d) (h0.q8 o.fr) hl au λr' w4 _ h4 f4=>(o.q8 f4).st' 2 rfl _ (iK rfl) rfl (zM _) λI o f5=>?_;have h5:=h4.j0 (f5.mono λx u _=>by rw[zE.1 u];exact JZ) λx u=>.inl u;have z5:w3.heap.size<=I.heap.size:=zL f4.size f5.size;have av:(iY d b.due).length<=100000:=zL (length_filter_le _ _) aq;have Q:eE jk 4 (r1::r5::S) I r'.2.2.2.1 (iY d b.due):=h5.due;have V:(b.kb d).due=kX d (iY d b.due):=rfl;generalize iY d b.due=L at av Q V;have aU:r'.2.2.2.1.len=L.length:=Q.1;refine oB (oF [] I) λr7 w6 e6 f6 o2=>kz (λt w'=>∃n:Nat,∃B C,t.2.2=n/\n<=L.length/\fB jk 4 w' t.1 C B/\C++tL d t.2.1 (L.drop n)=kX d L/\C.length<=2*n/\Fr [] I w'/\∀x∈B,I.heap.size<=x) (λt _=>L.length-t.2.2.toNat) ⟨0,[r7],[],rfl,yY _,fB.none (o2.at (i:=0) rfl),qvc L,zM _,f6,λx u=>by rw[zE.1 u];omega⟩ ?_;rintro⟨s,c,q⟩ w7 ⟨n,B,C,hq,hn,hb,R,aY,f7,nB⟩ X hX;dsimp only at hq hb R⊢;subst hq;have o7:=o.q8 f7;have aw:=Q.q8 f7;refine KA o7 2 rfl r'.2.2.2.1 (eV (λhc=>?_) λhc=>?_);have E:n<L.length:=(by have:=zC hc;omega);have u:=zA E;rw[zY E,tL] at R;generalize L[n]=x at u R;refine jf (λz w'=>∃B',z.2=(c||nI d x)/\fB jk 4 w' z.1 (C++if c=false/\nI d x=true then [d] else []) B'/\Fr [] I w'/\∀x∈B',I.heap.size<=x) ?_ ?_;refine jf (λz w'=>z=decide (c=false/\nI d x=true)/\Fr [] w7 w') ?_ ?_;cases c;refine JT rfl (KC o7.drew 1 rfl d (KA o7.drew 2 rfl r'.2.2.2.1 (eE.p6 (y:=x) aw.drew n rfl u rfl rfl (qxi λw8 f8=>⟨?_,(Fr.refl [] w7).drew.trans f8⟩))));cases nI d x<;>simp;exact JU rfl ⟨oM,(Fr.refl [] w7).drew⟩;rintro z w8 ⟨rfl,f8⟩;have ai:=hb.q8 f8;apply eV<;>intro J;have J:=zC J;rw[iP J];refine KC (o7.q8 f8) 1 rfl d (Cw ai oK λs9 B9 w9 b9 G O=>⟨B9,by dsimp only;rw[J.2,Bool.or_true],b9,(f7.trans f8).j8 G λx u=>.inr (nB x u),λx u=>(O x u).elim (nB x) (zL (f7.trans f8).size)⟩);have J:=zB J;rw[iN J,xJ];exact⟨B,by dsimp only;cases c<;>simp at J⊢;exact J,ai,f7.trans f8,nB⟩;rintro⟨s9,c9⟩ w9 ⟨B9,rfl,b9,G,O⟩;dsimp only at b9⊢;refine KA (o.q8 G) 2 rfl r'.2.2.2.1 (eE.p6 (y:=x) (Q.q8 G) n rfl u rfl rfl (Cw b9 (by rw[zF];split<;>simp<;>omega) λa1 az aA aB U aC=>?_));refine hX _ _ ⟨n+1,az,_,by dsimp only;rw[gu _ oK];rfl,E,aB,by rw[<- R];simp only[zV,xL,xK],by rw[zF,zF];split<;>simp<;>omega,G.j8 U λx u=>.inr (O x u),λx u=>(aC x u).elim (O x) (zL G.size)⟩ (by dsimp only;rw[gu _ oK];omega);have E:n=L.length:=(by have:=zB hc;omega);subst E;rw[drop_length,tL] at R;refine jf (λz w'=>∃B',fB jk 4 w' z (kX d L) B'/\Fr [] I w'/\∀x∈B',I.heap.size<=x) ?_ ?_;cases c;rw[iN oN] at R;refine JT rfl (KC o7 1 rfl d (Cw hb oK λs9 B9 w9 b9 G O=>⟨B9,by rw[<- R];exact b9,f7.j8 G λx u=>.inr (nB x u),λx u=>(O x u).elim (nB x) (zL f7.size)⟩));rw[iP rfl,xJ] at R;exact JU rfl ⟨B,by rw[<- R];exact hb,f7,nB⟩;rintro s9 w9 ⟨B9,b9,G,O⟩;refine (o.q8 G).st' 2 rfl (HL.mk fv (r'.1,r'.2.1,r'.2.2.1,s9,r'.2.2.2.2)).toArray rfl rfl (zO rfl) λaA ak U=>KC ak 2 rfl (r'.1,r'.2.1,r'.2.2.1,s9,r'.2.2.2.2) (ak.st' 0 rfl _ (iK rfl) rfl (zM _) λaD al am=>KC al 0 rfl (r'.1,r'.2.1,r'.2.2.1,s9,r'.2.2.2.2) ?_);have g9:=h5.q8 G;have aE:=g9.j0 (U.mono λx u _=>by rw[zE.1 u];exact JZ) λx u=>.inl u;have hr:=aE.j0 (S':=S) (am.mono λx u _=>by rw[zE.1 u];exact zN _ JZ) λx u=>.inl (zN _ (zN _ u));have an:=(b9.j0 U λx u h=>by have:=O x u;have:=zE.1 h;omega).j0 am λx u h=>by have:=O x u;have:=zE.1 h;omega
 exact kk (r'.1,r'.2.1,r'.2.2.1,s9,r'.2.2.2.2) aD ⟨hr.acc,hr.jA,hr.ki,by rw[V];exact Ad (w0:=I) an DF (λx u=>yE (hS x u) (zL ar z5)) O,hr.mE,hr.mH,hr.iJ,hr.told,hr.gone⟩ al.fr
def qvV{r:oq}{K:HL c8->WP}(h:RB S w r b)(E:b.size<=100000)(G:∀w',Fr [] w w'->K (vY b) w'): cW 47 [JS fv r] [.agg c8] w K:=by
 refine qeP ?_;have e1:r.1.len=b.acc.length:=h.acc.1;have I:r.2.1.len=b.jA.length:=h.jA.1;have J:r.2.2.1.len=b.ki.length:=h.ki.1;have O:r.2.2.2.1.len=b.due.length:=h.due.1;have Q:r.2.2.2.2.1.len=b.mE.length:=h.mE.1;have R:r.2.2.2.2.2.1.len=b.mH.length:=h.mH.1;have U:r.2.2.2.2.2.2.1.len=b.iJ.length:=h.iJ.1;unfold Bk.size at E;refine oB (oF [] w) λr1 w1 _ f1 o=>oB o λr3 w2 _ f2 o=>sI (b.last.toList.length:Int) w2 (λM u=>KA o 1 rfl r.2.2.2.2.2.2.2.2.1 ?_) ?_;rw[h.told.1];cases C:b.last with
 | none=>rw[C] at u;exact JU rfl u
 | some x=>rw[C] at u;exact JT rfl u
 refine KA o 1 rfl r.1 (KA o 1 rfl r.2.1 (KA o 1 rfl r.2.2.1 (KA o 1 rfl r.2.2.2.1 (KA o 1 rfl r.2.2.2.2.1 (KA o 1 rfl r.2.2.2.2.2.1 (KA o 1 rfl r.2.2.2.2.2.2.1 ?_))))));rw[e1,I,J,O,Q,R,U,nR _ oK,nR _ oK,nR _ oK,nR _ oK,nR _ oK,nR _ oK,nR _ oK];exact o.st' 0 rfl _ (iK rfl) rfl (zM _) λV o _=>KC o 0 rfl (vY b) (G V o.fr)
def qA2{p:Prop}{K:Addr->Prop}(u:p)(h:idx s i k K):idx s i k λa=>ig p (K a):=by unfold idx at h⊢;obtain⟨a,C,E,G⟩:=h;exact⟨a,C,E,mI u G⟩
def H6(x:Kp):∀u∈qB x,u.oneCell'=true:=all_eq_true.1 rfl
def qBQ:∃i,prog.info? Ab=some i/\i.zero=some (.agg (qB vR).toArray)/\i.size=18/\i.bytes=128:=uN oL
def qvX{r:oq}{k:Kp}{K:oq->WP}(h:RB S w r b)(hl:b.size<=100000)(hS:∀x∈S,x<w.heap.size)(kk:∀r' w',RB S w' r' (b.gF k)->Fr [] w w'->K r' w'): cW 26 [JS fv r,.agg (qB k).toArray] [.agg fv] w K:=by
 refine qc6 ?_;have ah:b.jA.length<=100000/\b.mE.length<=100000/\b.mH.length<=100000:=(by unfold Bk.size at hl;omega);obtain⟨i,hi,hz,ai,aj⟩:=qBQ;refine oB (oF [] w) λr1 w1 _ f1 o=>oB o λr3 w2 _ f2 o=>oB o λE w3 _ f3 o=>KC o 1 rfl k.1 (oB o λr8 w4 _ f4 o=>o.st' 0 rfl _ (iK rfl) rfl (zM _) λw5 o f5=>?_);have l1:r1<w5.heap.size:=fl (o.at (i:=3) rfl);have l5:E<w5.heap.size:=fl (o.at (i:=1) rfl);have n1:w.heap.size<=r1:=(o.own _ (yG (i:=3) rfl)).elim (λh=>nomatch h) id;have n5:w.heap.size<=E:=(o.own _ (yG (i:=1) rfl)).elim (λh=>nomatch h) id;have ak:∀x∈r1::E::S,x<w5.heap.size:=λx u=>by rcases zG.1 u with rfl|u;exact l1;rcases zG.1 u with rfl|u;exact l5;exact yE (hS x u) o.fr.size
 have h0:RB (r1::E::S) w r b:=h.j0 (.refl _ _) λx u=>by rcases zG.1 u with rfl|u;exact .inr n1;rcases zG.1 u with rfl|u;exact .inr n5;exact .inl u
 have h5:=h0.q8 o.fr;have C:∀ {w w':Kv},Fr [r1] w w'->Fr (r1::E::S) w w':=λf=>f.mono λx u _=>by rw[zE.1 u];exact JZ
 refine KA o 3 rfl r.2.2.2.2.1 (KC o 0 rfl (k.1.2.2.1,k.1.2.2.2.1) (KA o 0 rfl k.1.2.2.2.2.2.2.2.2.2.2.2.2.2.2.2 (KC o 0 rfl (k.1.1,k.1.2.1) (qso (m:=zm k.1) h5.mE ah.2.1 ak λs6 w6 d6 I=>?_))));refine (o.q8 I).st' 3 rfl (HL.mk fv (r.1,r.2.1,r.2.2.1,r.2.2.2.1,s6,r.2.2.2.2.2)).toArray rfl rfl (zO rfl) λw7 o U=>?_;have h7:=(h5.q8 I).j0 (C U) λx u=>.inl u;have d7:=d6.j0 (C U) λx u=>.inl u;have z7:w5.heap.size<=w7.heap.size:=zL I.size U.size;refine KA o 3 rfl r.2.2.2.2.2.1 (KC o 0 rfl (k.1.2.2.2.2.1,k.1.2.2.2.2.2.1) (KA o 0 rfl k.1.2.2.2.2.2.2.2.2.2.2.2.2.2.2.2 (KC o 0 rfl (k.1.1,k.1.2.1) (qso (m:=Cl k.1) h7.mH ah.2.2 (λx u=>yE (ak x u) z7) λs8 w8 aA f8=>?_))));refine (o.q8 f8).st' 3 rfl (HL.mk fv (r.1,r.2.1,r.2.2.1,r.2.2.2.1,s6,s8,r.2.2.2.2.2.2)).toArray rfl rfl (zO rfl) λV o f9=>?_;have h9:=(h7.q8 f8).j0 (C f9) λx u=>.inl u;have d9:=(d7.q8 f8).j0 (C f9) λx u=>.inl u;have c9:=aA.j0 (C f9) λx u=>.inl u;have a7:r1<V.heap.size:=fl (o.at (i:=3) rfl);have a8:E<V.heap.size:=fl (o.at (i:=1) rfl);refine oB (oF [] V) λr7 a9 e7 J o2=>?_;have aD:=o.q8 J;refine KA aD 3 rfl r.2.1 (yg (e:=Ab) (o2.at (i:=0) rfl) (h9.q8 J).jA po H6 oL hi hz ai rfl (by rw[aj];decide) oK λam B5 an b5 aF aG=>?_);have O:∀x∈B5,V.heap.size<=x:=λx u=>(aG x u).elim (λe=>oK) λh=>zL J.size h;have aa:Fr [] V an:=J.j8 aF λx u=>.inr (by rw[zE.1 u];omega);have ao:∀(s:Sl) (l:List Kp) (B:KD) w6,fB qB 18 w6 s l B->(∀x∈B,V.heap.size<=x)->Fr [] V w6->l=iT pZ k b.jA->Pt.st (dm r1 1) [s.v] w6 λw7=>dT fv (dm r1) w7 λt=>Pt.st (dm E) (HL.mk fv t) w7 λw8=>dT fv (dm E) w8 λt=>K t w8:=λs l B bb hb hB Q e=>by
  refine (o.q8 Q).st' 3 rfl (HL.mk fv (r.1,s,r.2.2.1,r.2.2.2.1,s6,s8,r.2.2.2.2.2.2)).toArray rfl rfl (zO rfl) λaq ar R=>KC ar 3 rfl (r.1,s,r.2.2.1,r.2.2.2.1,s6,s8,r.2.2.2.2.2.2) (ar.st' 1 rfl _ (iK rfl) rfl (zM _) λab au av=>KC au 1 rfl (r.1,s,r.2.2.1,r.2.2.2.1,s6,s8,r.2.2.2.2.2.2) ?_);have ac:Fr (r1::E::S) aq ab:=av.mono λx u _=>by rw[zE.1 u];exact zN _ JZ
  have dn:∀x∈S,x∈r1::E::S\/aq.heap.size<=x:=λx u=>.inl (zN _ (zN _ u));have hr:=((h9.q8 Q).j0 (C R) λx u=>.inl u).j0 ac dn;have hd:=((d9.q8 Q).j0 (C R) λx u=>.inl u).j0 ac dn;have hc:=((c9.q8 Q).j0 (C R) λx u=>.inl u).j0 ac dn;have aJ:=(hb.j0 R λx u h=>by have:=hB x u;have:=zE.1 h;omega).j0 av λx u h=>by have:=hB x u;have:=zE.1 h;omega
  have aK:eE qB 18 S ab s (iT pZ k b.jA):=(by rw[<- e];exact Ad aJ po hS λx u=>zL o.fr.size (hB x u));exact kk _ ab ⟨hr.acc,aK,hr.ki,hr.due,hd,hc,hr.iJ,hr.told,hr.gone⟩ au.fr
 have bd:am.len=b.jA.length:=b5.len;refine kz (λq w'=>∃n:Nat,q=n/\n<=b.jA.length/\Fr [] an w'/\((b.jA.take n).find? λx=>decide (pZ x=pZ k))=none) (λq _=>b.jA.length-q.toNat) ⟨0,rfl,yY _,.refl _ _,rfl⟩ ?_;rintro q w6 ⟨n,rfl,hn,I,hf⟩ X hX;apply cD<;>intro hc;have G:n<b.jA.length:=oK;have u:=zA G;have b6:=(b5.q8 I).q8 (Fr.refl [] w6).drew;have o6:=o.q8 ((aa.trans I).drew);refine eE.kY (cl:=u2) (S:=[]) (b6.k5 po λ_ _ h=>nomatch h) n rfl u oN rfl (KC o6 0 rfl (pZ k) (AO (a:=pZ b.jA[n]) ?_));have st:=BW (p:=λx=>decide (pZ x=pZ k)) u hf;apply eV<;>intro hb;refine ou (o6.at (i:=2) rfl) (qB k) (po k) rfl ?_;have:=Ib (K:=λaL=>Pt.st (dm r1 1) [am.v] aL λw7=>dT fv (dm r1) w7 λt=>Pt.st (dm E) (HL.mk fv t) w7 λw8=>dT fv (dm E) w8 λt=>K t w8) b6 po H6 (x:=k) rfl G λw7 b7 U=>ao _ _ _ _ b7 O ((aa.trans I).drew.j8 U λx u=>.inr (O x u)) (Ea u hf (zC hb)).symm;exact qA2 (po k) this;rw[gu _ oK];exact hX _ _ ⟨n+1,rfl,G,I.drew,st.2 hb⟩ oK;have G:n=b.jA.length:=oK;subst G;rw[vB] at hf;have ad:=aa.trans I;refine ou ((o.q8 ad).at (i:=2) rfl) (qB k) (po k) rfl (mI (po k) (fB.push (e:=Ab) (x:=k) (b5.q8 I) po (H6 k) oL hi hz ai rfl rfl (by rw[aj];omega) oK λs7 B7 w7 b7 U n7=>ao _ _ _ _ b7 (λx u=>(n7 x u).elim (O x) (zL ad.size)) (ad.j8 U λx u=>.inr (O x u)) (Dr hf).symm))
abbrev Jb:Kx:=184
def Dw(x:Ln):(nO x).length=12:=rfl
def qqS(x:Ln):∀u∈nO x,u.oneCell'=true:=all_eq_true.1 rfl
def qBR:∃i,prog.info? Jb=some i/\i.zero=some (.agg (nO ((0,0),AQ)).toArray)/\i.size=12/\i.bytes=96:=uN oL
def qCv{α:Type}{enc:α->List Kw}{l:List α}(h:eE enc k S w s l)(n:Nat){x:α}{K:Addr->Prop}(hi:i=n)(E:l[n]?=some x)(G:∀b o u T C,w.heap[b]?=some (.cells u T C)->(u.toList.drop o).take k=enc x->K (dm b o)):idx s i k K:=by subst hi;obtain⟨Q,b,o,I,_,u,T,C,J,O⟩:=eE.at h n E;refine sM I ⟨oK,oK⟩ ?_;rw[zJ];exact G b _ u T C J O
def qop{r:oq}{a0 a1:Int}{x:HL k6}{K:oq->WP}(h:RB S w r b)(hl:b.size<=100000)(hS:∀x∈S,x<w.heap.size)(kk:∀r' w',RB S w' r' (b.pq ((a0,a1),x))->Fr [] w w'->K r' w'): cW 55 [JS fv r,dk a0 a1,JS k6 x] [.agg fv] w K:=by
 refine qeS ?_;have aH:b.iJ.length<=100000:=(by unfold Bk.size at hl;omega);obtain⟨i,hi,hz,aa,ab⟩:=qBR;have hm:∃m:Ln,m=((a0,a1),x):=⟨_,rfl⟩;obtain⟨m,V⟩:=hm;rw[<- V] at kk;refine oB (oF [] w) λr1 w1 _ f1 o=>oB o λr3 w2 _ f2 o=>oB o λr5 aJ _ aK o=>oB o λr7 R _ f3 o=>oB (oF [] R) λr9 w4 e4 f4 o2=>?_;have o4:=o.q8 f4;refine KA o4 3 rfl r.2.2.2.2.2.2.1 (yg (e:=Jb) (o2.at (i:=0) rfl) (h.q8 o4.fr).iJ Dw qqS oL hi hz aa rfl (by rw[ab];decide) oK λs5 B5 w5 b5 f5 n5=>?_);have G:∀x∈B5,R.heap.size<=x:=λx u=>(n5 x u).elim (λe=>oK) λh=>zL f4.size h;have U:Fr [] R w5:=f4.j8 f5 λx u=>.inr (by rw[zE.1 u];omega);have ac:∀(s:Sl) (l:List Ln) (B:KD) J,fB nO 12 J s l B->(∀x∈B,R.heap.size<=x)->Fr [] R J->l=iT sV m b.iJ->Pt.st (dm r1 6) [s.v] J λw7=>dT fv (dm r1) w7 λt=>Pt.st (dm r7) (HL.mk fv t) w7 λw8=>dT fv (dm r7) w8 λt=>K t w8:=λs l B J C hB O e=>by
  refine (o.q8 O).st' 3 rfl (HL.mk fv (r.1,r.2.1,r.2.2.1,r.2.2.2.1,r.2.2.2.2.1,r.2.2.2.2.2.1,s,r.2.2.2.2.2.2.2)).toArray rfl rfl (zO rfl) λw7 o7 f7=>KC o7 3 rfl (r.1,r.2.1,r.2.2.1,r.2.2.2.1,r.2.2.2.2.1,r.2.2.2.2.2.1,s,r.2.2.2.2.2.2.2) (o7.st' 0 rfl _ (iK rfl) rfl (zM _) λw8 o8 f8=>KC o8 0 rfl (r.1,r.2.1,r.2.2.1,r.2.2.2.1,r.2.2.2.2.1,r.2.2.2.2.2.1,s,r.2.2.2.2.2.2.2) ?_);have Q:=h.q8 o8.fr;have l1:r1<R.heap.size:=fl (o.at (i:=3) rfl);have l5:r7<R.heap.size:=fl (o.at (i:=0) rfl);have al:=(C.j0 f7 λx u h=>by have:=hB x u;have:=zE.1 h;omega).j0 f8 λx u h=>by have:=hB x u;have:=zE.1 h;omega
  have am:eE nO 12 S w8 s (iT sV m b.iJ):=(by rw[<- e];exact Ad al Dw hS λx u=>zL o.fr.size (hB x u));exact kk _ w8 ⟨Q.acc,Q.jA,Q.ki,Q.due,Q.mE,Q.mH,am,Q.told,Q.gone⟩ o8.fr
 have aQ:s5.len=b.iJ.length:=b5.len;refine kz (λq w'=>∃n:Nat,q=n/\n<=b.iJ.length/\Fr [] w5 w'/\((b.iJ.take n).find? λx=>decide (sV x=sV m))=none) (λq _=>b.iJ.length-q.toNat) ⟨0,rfl,yY _,.refl _ _,rfl⟩ ?_;rintro q J ⟨n,rfl,hn,O,hf⟩ X hX;apply cD<;>intro hc;have E:n<b.iJ.length:=oK;have u:=zA E;have b6:=(b5.q8 O).q8 (Fr.refl [] J).drew;have o6:=o.q8 ((U.trans O).drew);have r6:eE nO 12 [] J.drew s5 b.iJ:=b6.k5 Dw λ_ _ h=>nomatch h;refine sI (decide (sV b.iJ[n]=sV m)) J.drew (λM hM=>?_) ?_;refine eE.kY (cl:=u2) r6 n rfl u oN rfl (KC o6 2 rfl (a0,a1) (AO (a:=b.iJ[n].1) ?_));apply eV<;>intro C;have C:=zC C;refine qCv r6 n rfl u λb' o' cs T fr aq ar=>?_;simp only[Addr.j1];refine jH aq (mN (kI b.iJ[n].2)) ?_ (KA o6 1 rfl (mN (kI x)) ?_);have e:(nO b.iJ[n])[10]?=some (.w (mN (kI b.iJ[n].2))):=rfl;rw[<- ar,xC,iP oN,xB] at e;rw[<- xN];exact e;rw[show (mN (kI b.iJ[n].2)==mN (kI x))=decide (sV b.iJ[n]=sV m) by unfold sV;rw[C,V];by_cases e:mN (kI b.iJ[n].2)=mN (kI x);simp[e];simp[e]];exact hM;have C:=zB C;rw[show decide (sV b.iJ[n]=sV m)=false from zU λe=>C (by rw[V] at e;exact (vD e).1)] at hM;exact hM;have st:=BW (p:=λx=>decide (sV x=sV m)) u hf;apply eV<;>intro C;have hk:=zC C;have h1:b.iJ[n].1=(a0,a1):=(by rw[V] at hk;exact (vD hk).1);refine KC o6 1 rfl x (quY (j:=2) (x:=m) (vs:=HL.mk k6 x) b6 Dw rfl E rfl (zM _) (by rw[V,show nO b.iJ[n]=nO (b.iJ[n].1,b.iJ[n].2) from rfl,h1];rfl) λw7 b7 f7=>ac _ _ _ _ b7 G ((U.trans O).drew.j8 f7 λx u=>.inr (G x u)) (Ea u hf hk).symm);rw[gu _ oK];exact hX _ _ ⟨n+1,rfl,E,O.drew,st.2 C⟩ oK;have E:n=b.iJ.length:=oK;subst E;rw[vB] at hf;have I:=U.trans O;refine KC (o.q8 I) 2 rfl (a0,a1) (KC (o.q8 I) 1 rfl x (fB.push (e:=Jb) (x:=m) (b5.q8 O) Dw (qqS m) oL hi hz aa rfl (by rw[V];rfl) (by rw[ab];omega) oK λs7 B7 w7 b7 f7 n7=>ac _ _ _ _ b7 (λx u=>(n7 x u).elim (G x) (zL I.size)) (I.j8 f7 λx u=>.inr (G x u)) (Dr hf).symm))
def qy8{r:oq}{K:oq->WP}(h:RB S w r b)(hl:b.size+4<=100000)(hS:∀x∈S,x<w.heap.size)(hp:eK fV p.1)(ae:eK fV p.2.1)(kk:∀r' w',RB S w' r' (fJ b p n)->Fr [] w w'->K r' w'): cW 19 [JS fv r,.agg (lf p).toArray,.w n] [.agg fv] w K:=by
 refine qik ?_;have z1:=Aq (b:=b) (a:=p.1);have z2:=Aq (b:=b.dZ p.1) (a:=p.2.1);have z3:=FM (b:=(b.dZ p.1).dZ p.2.1) (a:=p.1) (s:=1) (n:=n);refine oB (oF [] w) λr1 w1 _ f1 o=>oB o λr3 w2 _ f2 o=>oB o λI U _ f3 o=>KC o 2 rfl r (KC o 1 rfl p.1 ?_);have l1:r1<U.heap.size:=fl (o.at (i:=2) rfl);have n1:w.heap.size<=r1:=(o.own _ (yG (i:=2) rfl)).elim (λh=>nomatch h) id;have l5:I<U.heap.size:=fl (o.at (i:=0) rfl);have n5:w.heap.size<=I:=(o.own _ (yG (i:=0) rfl)).elim (λh=>nomatch h) id;have V:∀x∈r1::I::S,x<U.heap.size:=λx u=>by rcases zG.1 u with rfl|u;exact l1;rcases zG.1 u with rfl|u;exact l5;exact yE (hS x u) o.fr.size
 have h0:RB (r1::I::S) w r b:=h.j0 (.refl _ _) λx u=>(zG.1 u).elim (λe=>.inr (by rw[e];exact n1)) λu=>(zG.1 u).elim (λe=>.inr (by rw[e];exact n5)) .inl;have J:∀ {w w':Kv},Fr [r1] w w'->Fr (r1::I::S) w w':=λf=>f.mono λx u _=>by rw[zE.1 u];exact JZ
 have up:∀ {w':Kv},U.heap.size<=w'.heap.size->∀x∈r1::I::S,x<w'.heap.size:=λz x u=>yE (V x u) z;refine ED (h0.q8 o.fr) oK V λr6 w6 h6 f6=>(o.q8 f6).st' 2 rfl _ (iK rfl) rfl (zM _) λw7 o f7=>KC o 2 rfl r6 (KC o 1 rfl p.2.1 ?_);have z7:=zL f6.size f7.size;refine ED (h6.j0 (J f7) λx u=>.inl u) oK (up z7) λr8 w8 h8 f8=>(o.q8 f8).st' 2 rfl _ (iK rfl) rfl (zM _) λw9 o f9=>?_;have z9:=zL z7 (zL f8.size f9.size);have h9:=h8.j0 (J f9) λx u=>.inl u;simp only[Addr.j1];refine jf (λ_ w'=>∃r',RB (r1::I::S) w' r' (jB ((b.dZ p.1).dZ p.2.1) p.1 1 n)/\U.heap.size<=w'.heap.size/\ed [] w w' [(I,JR fv (dR,dR,dR,dR,dR,dR,dR,0,false,dR) 36),(r3,.c (lf p).toArray rB),(r1,JR fv r' 36)]) ?_ ?_;refine KA o 1 rfl (jv p.1) (BR (vn hp) oN ?_);unfold jB;apply eV<;>intro e;rw[iP e];have o:=o.drew;refine KC o 2 rfl r8 (KC o 1 rfl (ic p.1) (KC o 1 rfl p.1 (quL λaa E=>kH ((o.q8 E).cells 1) ((o.q8 E).cells 2) ?_)));refine qop ((h9.q8 (Fr.refl [] w9).drew).q8 E) oK (up (zL z9 E.size)) λai aj ak C=>((o.q8 E).q8 C).st' 2 rfl _ (iK rfl) rfl (zM _) λal am G=>⟨ai,ak.j0 (J G) λx u=>.inl u,zL z9 (zL E.size (zL C.size G.size)),am⟩;rw[iN (by rw[e];decide)];exact⟨r8,h9,z9,o⟩;rintro _ aa ⟨ab,O,Q,o⟩;have e5:fJ b p n=jB (jB ((b.dZ p.1).dZ p.2.1) p.1 1 n) p.2.1 2 n:=rfl;rw[e5] at kk;generalize jB ((b.dZ p.1).dZ p.2.1) p.1 1 n=b3 at z3 O kk;refine jf (λ_ w'=>∃r',RB (r1::I::S) w' r' (jB b3 p.2.1 2 n)/\U.heap.size<=w'.heap.size/\ed [] w w' [(I,JR fv (dR,dR,dR,dR,dR,dR,dR,0,false,dR) 36),(r3,.c (lf p).toArray rB),(r1,JR fv r' 36)]) ?_ ?_;refine KA o 1 rfl (jv p.2.1) (BR (vn ae) oN ?_);unfold jB;apply eV<;>intro e;rw[iP e];have o:=o.drew;refine KC o 2 rfl ab (KC o 1 rfl (ic p.2.1) (KC o 1 rfl p.2.1 (quL λaj C=>kH ((o.q8 C).cells 1) ((o.q8 C).cells 2) ?_)));refine qop ((O.q8 (Fr.refl [] aa).drew).q8 C) oK (up (zL Q C.size)) λan al ao G=>((o.q8 C).q8 G).st' 2 rfl _ (iK rfl) rfl (zM _) λaQ ap ac=>⟨an,ao.j0 (J ac) λx u=>.inl u,zL Q (zL C.size (zL G.size ac.size)),ap⟩;rw[iN (by rw[e];decide)];exact⟨ab,O,Q,o⟩;rintro _ aR ⟨R,aq,aT,o⟩;refine KC o 2 rfl R (o.st' 0 rfl _ (iK rfl) rfl (zM _) λar ad au=>KC ad 0 rfl R (kk R ar (aq.j0 (au.mono λx u _=>by rw[zE.1 u];exact zN _ JZ) λx u=>.inl (zN _ (zN _ u))) ad.fr))
def mG (t:HL iU):Int:=t.2.2.2.2.2.2.2.2.2.2.2.1
def ll (t:HL iU):Int:=t.2.2.2.2.2.2.2.2.2.2.2.2.2.2.2
def pY (t:HL iU):Option Int:=if mG t=0 then none else if ll t+mG t<18446744073709551616 then some (ll t+mG t) else none
def qy7{t:HL iU}{K:KU->WP}(C:eK iU t)(u:∀w',Fr [] w w'->K ((pY t).getD 0,(pY t).isSome) w'): cW 30 [JS iU t] dP w K:=by
 refine qf8 ?_;have G:0<=mG t/\mG t<4294967296:=BK C.2.2.2.2.2.2.2.2.2.2.2.1;have I:lA (ll t):=pV C.2.2.2.2.2.2.2.2.2.2.2.2.2.2.2;unfold pY at u;refine oB (oF [] w) λr1 w1 _ J o=>KA o 0 rfl (mG t) (eV (λh=>?_) λh=>?_);rw[iP (eq_of_beq h)] at u;exact u w1 J;rw[iN (ne_of_beq_false h)] at u;refine KA o 0 rfl (ll t) (KA o 0 rfl (mG t) ?_);rw[rQ (mG t) oK];refine Ho (a:=(0,ll t)) (b:=(0,mG t)) ⟨pV rG,I⟩ ⟨pV rG,G.1,by dsimp only;omega⟩ λw2 O=>?_;have e:mO (0,ll t) (0,mG t)=some (vj (ll t+mG t)):=by unfold mO wv;dsimp only;rw[iP];congr 2;omega
 rw[e];refine oB (o.q8 O) λr3 Q _ R o=>o.st' 0 rfl _ (iK rfl) rfl (zM _) λE o _=>KA o 0 rfl ((ll t+mG t) / 18446744073709551616) (eV (λh=>?_) λh=>?_);have h:=zC h;rw[iN] at u;exact u E o.fr;have h:=zB h;rw[iP] at u;refine oA o 0 rfl (ll t+mG t) ?_ (u E o.fr);show some (Value.int .u64 ((ll t+mG t)%18446744073709551616))=_;rw[show (ll t+mG t)%18446744073709551616=ll t+mG t by omega];rfl
section
abbrev WF:FuncId:=134
structure rr (w:Kv) (v:Kw) (pb:Nat) (t:Int) (frm to:Key) (down:Bool) (WB:KD):Prop where
 val:∃ r1 r3 r5 r7 r9 s1 s2 B1 B2,v=.func (.func WF) #[] #[dQ r1,dQ r3,dQ r5,dQ r7,dQ r9]/\WB=r1::r3::r5::r7::r9::(B1++B2)/\
  w.cell? (dm r1)=some (dQ pb)/\w.cell? (dm r3)=some (.i t)/\w.cell? (dm r5)=some s1.v/\w.cell? (dm r7)=some s2.v/\w.cell? (dm r9)=some (.bool down)/\gA w s1 frm B1/\gA w s2 to B2
 lt:∀ b∈WB,b<w.heap.size
def qwc{w':Kv}{b off:Nat}(f:Fr S w w')(h:b<w.heap.size)(u:b∉S):w'.cell? (dm b off)=w.cell? (dm b off):=by simp only[World.cell?,f.block b h u]
def rr.j0{S:KD}{w w':Kv}{v:Kw}{pb:Nat}{t:Int}{frm to:Key}{down:Bool}{C:KD}(h:rr w v pb t frm to down C)(f:Fr S w w')(E:∀b∈C,b∉S):rr w' v pb t frm to down C:=by obtain⟨⟨r1,r3,G,I,r9,R,U,J,O,e,rfl,V,c3,c5,c7,c9,b1,b2⟩,Q⟩:=h;have g:∀b∈r1::r3::G::I::r9::(J++O),w'.cell? (dm b)=w.cell? (dm b):=λb u=>qwc f (Q b u) (E b u);exact⟨⟨r1,r3,G,I,r9,R,U,J,O,e,rfl,by rw[g r1 oM];exact V,by rw[g r3 oM];exact c3,by rw[g G oM];exact c5,by rw[g I oM];exact c7,by rw[g r9 oM];exact c9,b1.j0 f λb u=>E b (by simp[u]),b2.j0 f λb u=>E b (by simp[u])⟩,λb u=>yE (Q b u) f.size⟩
section
variable {dbk pb:Nat} {FD F:KD} {D:dV} {M:eZ} {k v:Nat} {frm to:Key} {down:Bool} {w:Kv}
def qAI{O C:Sl}{p:Option Addr}{K:Kw->WP}(hp:p=pW pb)(hf:eO S w O frm)(ht:eO S w C to)(Q:frm.length<=1000000)(R:to.length<=1000000)(kk:∀v w' WB,rr w' v pb t frm to down WB->(∀b∈WB,w.heap.size<=b)->Fr [] w w'->K v w'): cW 92 [.p p,.i t,O.v,C.v,.bool down] dC w K:=by
 subst hp;refine qpU ?_;have h:=oF [] w;refine oB h λr1 w1 e1 f1 h=>oB h λr3 w3 e3 f3 h=>oB h λU w5 e5 f5 h=>oB h λV w7 e7 f7 h=>oB h λr9 J e9 f9 h=>?_;have h:=oG h;have l1:=fl (h.at (i:=4) rfl);have l3:=fl (h.at (i:=3) rfl);have l5:=fl (h.at (i:=2) rfl);have l7:=fl (h.at (i:=1) rfl);have l9:=fl (h.at (i:=0) rfl);dsimp only at l1 l3 l5 l7 l9;have n1:=f1.size;have n3:=f3.size;have n5:=f5.size;have n7:=f7.size;refine KA h 2 rfl O<|KA h 1 rfl C<|As (hf.q8 h.fr) Q λs1 B1 wa b1 fa na _ _=>?_;have h:=h.q8 fa;refine ja (h.cell 1)<|As (ht.q8 h.fr) R λs2 B2 wb b2 fb nb _ _=>?_;have h:=h.q8 fb;have za:=fa.size;have zb:=fb.size;refine oE h 2 rfl #[s1.v] λwc h fc=>oE h 1 rfl #[s2.v] λG h fd=>?_;have E:Fr [U,V] wb G:=(fc.mono λb u _=>by rw[zE.1 u];simp).trans (fd.mono λb u _=>by rw[zE.1 u];simp);have z0:w.heap.size<=J.heap.size:=(by have:=f9.size;omega);have ns:∀b,J.drew.heap.size<=b->b∉[U,V]:=λb u hm=>by simp only[zG,xZ,or_false] at hm;rcases hm with rfl|rfl<;>omega
 have q1:gA G s1 frm B1:=(b1.q8 fb).j0 E λb u=>ns b (na b u);have q2:gA G s2 to B2:=b2.j0 E λb u=>ns b (zL za (nb b u));have aK:=h.fr.size;have zd:J.drew.heap.size<=G.heap.size:=zL (zL za zb) E.size;refine kk _ G _ ⟨⟨r1,r3,U,V,r9,s1,s2,B1,B2,rfl,rfl,h.cell 4,h.cell 3,h.cell 2,h.cell 1,h.cell 0,q1,q2⟩,λb u=>?_⟩ (λb u=>?_) h.fr;simp only[zG,zD] at u;rcases u with rfl|rfl|rfl|rfl|rfl|u|u;omega;omega;omega;omega;omega;exact q1.lt b u;exact q2.lt b u;have I:w.heap.size<=J.drew.heap.size:=z0;simp only[zG,zD] at u;rcases u with rfl|rfl|rfl|rfl|rfl|u|u;omega;omega;omega;omega;omega;exact zL I (na b u);exact zL I (zL za (nb b u))
structure Dg (yield:Kw) (Yc:KD) (wb:Kv) (L:gH) (I:Nat->WP) (E:WP):Prop where
 stay:∀ i W W' Z,I i W->Fr Z W W'->(∀ b∈Z,wb.heap.size<=b)->I i W'
 take:∀ i (hi:i<L.length) W ks vs B1 B2 (K:Bool->WP),I i W->gA W ks L[i].1 B1->gA W vs L[i].2 B2->(∀ b∈B1++B2,wb.heap.size<=b)->wb.heap.size<=W.heap.size->(∀ W',Fr Yc W W'->I (i+1) W'->K true W')->(∀ W',E W'->K false W')->eF prog yield [ks.v,vs.v] dr W K
def qzb{Yc WB:KD}{v0 aa:Kw}{I:Nat->WP}{E:WP}{K:Unit->WP}{lb:List Kw}(hv:v0=.func (.func WF) #[] lb.toArray)(hW:rr w v0 pb t frm to down WB)(hT:TW dbk pb FD D 5000 w Yc F M)(hs:uR t=((k:Int),(v:Int)))(hL:k≠0/\ib D M k v t L P)(aH:L.length<=90000)(aI:frm.length<=1000000)(aJ:to.length<=1000000)(aK:fq frm)(aL:fq to)(hY:Dg aa Yc w (iw down frm to L) I E)(h0:I 0 w)(k1:∀C,I (iw down frm to L).length C->K () C)(k2:∀C,E C->K () C): cW WF (aa::lb) [] w K:=by
 obtain⟨⟨r1,r3,r5,r7,r9,s1,s2,B1,B2,e,rfl,c1,c3,c5,c7,c9,b1,b2⟩,G⟩:=hW;rw[e] at hv;have aM:lb=[dQ r1,dQ r3,dQ r5,dQ r7,dQ r9]:=by
  injection hv with _ _ h3;simpa using (Kr Array.toList h3).symm
 subst aM;refine qmt<|qj (pW pb) c1<|qj t c3<|qj s1 c5<|qj s2 c7<|qj down c9<|qss (S:=[]) hT hs (.inr hL) aH (b1.cX λb _=>oM) (b2.cX λb _=>oM) aI aJ aK aL λcb w1 st SB zs hC O f1=>?_;generalize iw down frm to L=R at O hY k1;have an:=hY.stay 0 w w1 [] h0 f1 λb u=>nomatch u;let J:Nat->Option Addr×Bool->WP:=λi s W=>∃(st:Sl) (SB:KD) (zs:List sC) (ks vs:Sl) (C1 C2:KD) (r:Nat) (T:Kx),s=(pW r,decide (i<R.length))/\i<=R.length/\W.heap[r]?=some (.c (vo ks vs) T)/\gU dbk pb FD D F M k v frm to down w cb Yc W st SB zs/\I i W/\(∀h:i<R.length,gA W ks R[i].1 C1/\gA W vs R[i].2 C2)/\Left D M k v frm to down 1 (zs.map (·.2)) (R.drop (i+1))/\r∉Yc/\w.heap.size<=W.heap.size/\∀b∈C1++C2,w.heap.size<=b;have ad:∀(Y:KD) (i:Nat) (W:Kv) (st:Sl) (SB:KD) (zs:List sC) (K':(Sl×Sl)×Bool->WP),gU dbk pb FD D F M k v frm to down w cb Y W st SB zs->I i W->Left D M k v frm to down 1 (zs.map (·.2)) (R.drop i)->i<=R.length->w.heap.size<=W.heap.size->
   (∀ks vs C1 C2 C Z st' SB' zs',gU dbk pb FD D F M k v frm to down w cb Y C st' SB' zs'->I i C->(∀h:i<R.length,gA C ks R[i].1 C1/\gA C vs R[i].2 C2)->(∀b∈C1++C2,W.heap.size<=b)->Left D M k v frm to down 1 (zs'.map (·.2)) (R.drop (i+1))->Fr Z W C->(∀b∈Z,b∈cb::SB)->w.heap.size<=C.heap.size->K' ((ks,vs),decide (i<R.length)) C)->
   cW 79 [dQ cb] [.agg Ei,.one .bool] W K':=by
  intro Y i W st SB zs K' hC hI O bz ae kK;refine qqA hC O (λhn C Q U=>?_) λx L' hx ks vs C1 C2 C st' SB' zs' hk hv Q aQ U _ n1 n2 _=>?_;have aR:R.length<=i:=by
   have:=Kr List.length hn;rw[yC,xM] at this;omega
  have:=kK dR dR [] [] C (cb::SB) _ _ _ Q (hY.stay i W C _ hI U hC.new) (λh=>absurd h oK) (λb u=>nomatch u) (.inl ⟨rfl,vG oK⟩) U (λb u=>u) (zL ae U.size);rw[zU (show ¬i<R.length by omega)] at this;exact this;have G:i<R.length:=by
   have:=Kr List.length hx;rw[yC,yJ] at this;omega
  rw[zY G] at hx;obtain⟨rfl,rfl⟩:=vE hx;have:=kK ks vs C1 C2 C (cb::SB) st' SB' zs' (Q.j0 (.refl _ _) (λb u=>.inl (by simp[u])) λb u=>Q.lt b (by simp[u])) (hY.stay i W C _ hI U hC.new) (λ_=>⟨hk,hv⟩) (λb u=>(zD.1 u).elim (n1 b) (n2 b)) aQ U (λb u=>u) (zL ae U.size);rw[yA G] at this;exact this
 refine ad Yc 0 w1 st SB zs _ hC an O (yY _) f1.size λks vs C1 C2 w2 Z aT aU aV aj ap ak nC aq f2 hZ aW=>oB (oF [] w2) λr w3 e3 f3 h=>oE h 0 rfl (vo ks vs) λw4 h f4=>?_;have ar:=aj.lt;refine Dj J (λi=>R.length+1-i) 0 ⟨aT,aU,aV,ks,vs,C1,C2,r,zv,rfl,yY _,h.at (i:=0) rfl,aj.q8 h.fr,hY.stay 0 w2 w4 [] ap h.fr (λb u=>nomatch u),λhl=>⟨(ak hl).1.q8 h.fr,(ak hl).2.q8 h.fr⟩,aq,λhm=>by have:=ar r (by simp[hm]);omega,zL aW h.fr.size,λb u=>zL f1.size (nC b u)⟩ ?_;clear aj ap ak aq h an hC O nC;rintro i s W ⟨st,SB,zs,ks,vs,C1,C2,r,T,rfl,hi,hr,hC,hI,hB,O,aX,ae,nC⟩ X hX;dsimp only;apply cD<;>intro hc;have G:=hc;obtain⟨q1,q2⟩:=hB G;refine gV (jH hr ks rfl ?_);refine gV (jH hr vs rfl ?_);refine hY.take i G W ks vs C1 C2 _ hI q1 q2 nC ae (λC U aZ=>?_) λC hE=>JT rfl (k2 C hE);refine JU rfl ?_;have a0:C.heap[r]?=some (.c (vo ks vs) T):=(by rw[U.block r (fl hr) aX];exact hr);refine gV (vL a0 (ks,vs) rfl ?_);have Q:=hC.j0 U (λb u=>.inl u) λb u=>yE (hC.lt b (by simp[u])) U.size;refine oB (oF [] C) λV Wa ea fa h=>oE h 0 rfl (vo ks vs) λWb h fb=>?_;have af:=Q.lt;have a2:gU dbk pb FD D F M k v frm to down w cb (V::Yc) Wb st SB zs:=Q.j0 (h.fr.mono λ_ h=>nomatch h) (λb u=>(zG.1 u).elim (λe=>.inr (by rw[e,ea];exact zM _)) .inl) λb u=>by rcases zG.1 u with rfl|u;exact fl (h.at (i:=0) rfl);exact yE (af b (by simp[u])) h.fr.size
 have av:=fl (h.at (i:=0) rfl);dsimp only at av;have ag:w.heap.size<=C.heap.size:=zL ae U.size;refine ad (V::Yc) (i+1) Wb st SB zs _ a2 (hY.stay _ C Wb [] aZ h.fr λb u=>nomatch u) O G (zL ag h.fr.size) λaw ax D1 D2 Wc Z st' SB' zs' ay a3 az aA a4 fc a5 a6=>?_;have aB:V∉Z:=λhm=>by
  have:=af V (by rcases zG.1 (a5 V hm) with h|h<;>simp[h]);omega
 have a7:Wc.heap[V]?=some (.c (vo ks vs) zv):=(by rw[fc.block V av aB];exact h.at (i:=0) rfl);have aC:V∉Yc:=λhm=>by have:=af V (by simp[hm]);omega
 refine tY a7 (vo aw ax) rfl rfl (zO rfl) λWd hd fd=>?_;have hn:∀b∈D1++D2,b∉[V]:=λb u hm=>by
  have:=aA b u;rw[zE.1 hm] at this;omega
 refine hX (i+1) _ Wd ⟨st',SB',zs',aw,ax,D1,D2,V,zv,rfl,G,hd,ay.j0 (fd.mono λb u _=>by rw[zE.1 u];simp) (λb u=>.inl (by simp[u])) (λb u=>yE (ay.lt b (by simp[u])) fd.size),hY.stay _ Wc Wd [V] a3 fd (λb u=>by rw[zE.1 u,ea];exact ag),λhl=>⟨(az hl).1.j0 fd λb u=>hn b (by simp[u]),(az hl).2.j0 fd λb u=>hn b (by simp[u])⟩,a4,aC,zL a6 fd.size,λb u=>zL (zL ag h.fr.size) (aA b u)⟩ oK;have aR:=hc;have:i=R.length:=oK;subst this;exact k1 W hI
end
end
end
section
open Go Go.Pt List
open Go.IntKind (wrap)
variable {a:HL fV} {b b':Bk} {d:HL jb} {down:Bool} {frm n s:Int} {i:gJ} {l:List (HL jb)} {side:HL iU->gJ}
def GU{α κ:Type}[DecidableEq κ]{kf:α->κ}{a:α}{i:κ}:∀ {l:List α},(iT kf a l).find? (λx=>decide (kf x=i))=if kf a=i then some a else l.find? λx=>decide (kf x=i)
 | []=>by unfold iT;by_cases h:kf a=i;simp[h];simp[h]
 | x::r=>by unfold iT;by_cases e:kf x=kf a;rw[iP e,List.find?_cons,List.find?_cons,e];by_cases h:kf a=i;simp[h];simp[h];rw[iN e,List.find?_cons,List.find?_cons,GU (l:=r)];by_cases h:kf a=i;rw[iP h,iP h,zU (by rw[<- h];exact e)];rw[iN h,iN h]
def BX:eX (b.dZ a) i=if ic a=i then some a else eX b i:=GU
def qqF:(jB b a s n).acc=b.acc/\(jB b a s n).jA=b.jA/\(jB b a s n).ki=b.ki/\(jB b a s n).due=b.due:=by unfold jB;split<;>exact⟨rfl,rfl,rfl,rfl⟩
def qv7{p:Pa}:(fJ b p n).acc=((b.dZ p.1).dZ p.2.1).acc/\(fJ b p n).jA=b.jA/\(fJ b p n).ki=b.ki:=by unfold fJ;obtain⟨h,u,C,_⟩:=qqF (b:=jB ((b.dZ p.1).dZ p.2.1) p.1 1 n) (a:=p.2.1) (s:=2) (n:=n);obtain⟨E,G,I,_⟩:=qqF (b:=(b.dZ p.1).dZ p.2.1) (a:=p.1) (s:=1) (n:=n);exact⟨h.trans E,u.trans G,C.trans I⟩
def tK (b:Bk) (d:HL jb):HL iU:=((iG b (qu d)).getD vR).1
def jo (side:HL iU->gJ) (b:Bk) (i:gJ) (l:List (HL jb)):Int:=(l.map λd=>if side (tK b d)=i then wv (gf (tK b d)) else 0).sum
structure tQ (b:Bk):Prop where
 fit:∀ a∈b.acc,eK fV a
 E2:∀ d∈b.due,eK jb d
 due:tf b.due
 has:∀ d∈b.due,∃ k x y,iG b (qu d)=some k/\tM k/\pZ k=qu d/\eX b (gK k.1)=some x/\eX b (gL k.1)=some y/\gK k.1≠gL k.1
 mE:∀ i a,eX b i=some a->jo gK b i b.due<=wv (gN a)
 mH:∀ i a,eX b i=some a->jo gL b i b.due<=wv (gX a)
def AX{a b:HL jb}:nI a b=true↔(mX a).1<(mX b).1\/(mX a).1=(mX b).1/\(mX a).2<(mX b).2:=yO
def qu5{a b:HL jb}(h:nI a b=true):mX a≠mX b:=by rw[AX] at h;intro e;rw[e] at h;omega
def tf.uE(h:tf (d::l)):iY d (d::l)=l:=by unfold iY;rw[filter_cons,iN oM];exact filter_eq_self.2 λx u=>yA λe=>qu5 ((yK.1 h).1 x u) e.symm
def tf.rN{f:HL jb->Int}{d:HL jb}:∀ {l:List (HL jb)},tf l->d∈l->(l.map f).sum=f d+((iY d l).map f).sum
 | x::r,h,u=>by
  by_cases e:x=d;subst e;rw[h.uE,xQ,sum_cons];have u:d∈r:=(zG.1 u).resolve_left λh=>e h.symm;have C:=yK.1 h;have:iY d (x::r)=x::iY d r:=by unfold iY;rw[filter_cons,iP (yA (qu5 (C.1 d u)))]
  rw[this,xQ,sum_cons,xQ,sum_cons,tf.rN (l:=r) C.2 u];omega
def tf.sub{l':List (HL jb)}(h:tf l)(s:l'.Sublist l):tf l':=List.Pairwise.sublist s h
def Eg:(iY d l).Sublist l:=filter_sublist
def tf.rest{r:List (HL jb)}(h:tf l)(s:(d::r).Sublist l):r.Sublist (iY d l):=by
 have:=s.filter λx=>decide (mX x≠mX d);rw[show (d::r).filter (λx=>decide (mX x≠mX d))=r from (h.sub s).uE] at this;exact this
def sv (a:HL fV):gJ×gJ:=((a.2.2.2.2.1,a.2.2.2.2.2.1),(a.2.2.2.2.2.2.2.2.1,a.2.2.2.2.2.2.2.2.2.1))
def quA{t:HL iU}{p:Pa}(u:eK iU t)(C:eK fV p.1)(E:eK fV p.2.1)(O:wv (gf t)<=wv (gN p.1))(Q:wv (gf t)<=wv (gX p.2.1)): ∃q,gR t p=some q/\eK fV q.1/\eK fV q.2.1/\ic q.1=ic p.1/\ic q.2.1=ic p.2.1/\wv (gN q.1)=wv (gN p.1)-wv (gf t)/\gX q.1=gX p.1/\gN q.2.1=gN p.2.1/\wv (gX q.2.1)=wv (gX p.2.1)-wv (gf t)/\sv q.1=sv p.1/\sv q.2.1=sv p.2.1:=by have e1:qO (gN p.1) (gf t)=some (vj (wv (gN p.1)-wv (gf t))):=iP O;have G:qO (gX p.2.1) (gf t)=some (vj (wv (gX p.2.1)-wv (gf t))):=iP Q;have I:=(FS (AR C) (uM u) e1).1;have J:=(FS (AV E) (uM u) G).1;obtain⟨q,h⟩:∃q,gR t p=some q:=(by unfold gR;rw[e1,Option.bind_some,G,Option.map_some];exact⟨_,rfl⟩);refine⟨q,h,(DL u C E h).1,(DL u C E h).2,?_⟩;unfold gR at h;rw[e1,Option.bind_some,G,Option.map_some] at h;cases h;generalize vj (wv (gN p.1)-wv (gf t))=x at I⊢;generalize vj (wv (gX p.2.1)-wv (gf t))=y at J⊢;rw[<- I,<- J];refine⟨?_,?_,?_,?_,?_,?_,?_,?_⟩<;>dsimp only<;>split<;>rfl
def nH (b:Bk) (d:HL jb):Bk:=let q:=(gR (tK b d) (lh b (gK (tK b d)) (gL (tK b d)))).getD qV;(b.dZ q.1).dZ q.2.1
def DM:(mh b d n).acc=(nH b d).acc/\(mh b d n).jA=b.jA/\(mh b d n).due=iY d b.due/\(mh b d n).ki=(b.gj (gP (tK b d),4)).ki:=by obtain⟨u,C,h⟩:=qv7 (b:=b) (p:=(gR (tK b d) (lh b (gK (tK b d)) (gL (tK b d)))).getD qV) (n:=n);refine⟨u,C,?_,?_⟩;show iY d (fJ b _ n).due=_;rw[qov];show iT _ _ (fJ b _ n).ki=_;unfold tK at h;rw[h];rfl
def Ey(h:b.acc=b'.acc)(i:gJ):eX b i=eX b' i:=by unfold eX;rw[h]
def qrJ(h:b.jA=b'.jA)(i:gJ):iG b i=iG b' i:=by unfold iG;rw[h]
def qCh(h:b.jA=b'.jA)(d:HL jb):tK b d=tK b' d:=by unfold tK;rw[qrJ h]
def qrm(h:b.jA=b'.jA)(i:gJ)(l:List (HL jb)):jo side b i l=jo side b' i l:=by unfold jo;simp only[qCh h]
def uk(h:eX b i=some a):a∈b.acc/\ic a=i:=⟨mem_of_find?_eq_some h,by simpa using List.find?_some h⟩
def qzT(h:∀d∈l,eK iU (tK b d)):0<=jo side b i l:=by
 induction l with
 | nil=>exact Int.le_refl _
 | cons x r ih=>
  have:=ih λd u=>h d (zN _ u);have C:=Al (uM (h x JZ));unfold jo at this⊢;rw[xQ,sum_cons];split<;>omega
structure Dn (b:Bk) (d:HL jb):Prop where
 ok:∃ k q,iG b (qu d)=some k/\gR k.1 (lh b (gK k.1) (gL k.1))=some q
 wC:∀ i a',eX (nH b d) i=some a'->∃ a,eX b i=some a/\eK fV a'/\wv (gN a')=wv (gN a)-(if gK (tK b d)=i then wv (gf (tK b d)) else 0)/\wv (gX a')=wv (gX a)-(if gL (tK b d)=i then wv (gf (tK b d)) else 0)/\sv a'=sv a
 all:∀ i a,eX b i=some a->∃ a',eX (nH b d) i=some a'
 ki:gP (tK b d)=qu d
 len:(nH b d).acc.length=b.acc.length
def D9{α κ:Type}[DecidableEq κ]{kf:α->κ}{a:α}:∀ {l:List α},(l.find? λx=>decide (kf x=kf a))≠none->(iT kf a l).length=l.length
 | [],h=>absurd rfl h
 | x::r,h=>by unfold iT;by_cases e:kf x=kf a;rw[iP e];rfl;rw[iN e,yJ,yJ,D9 (l:=r) (by rw[List.find?_cons,zU e] at h;exact h)]
def tQ.x5(h:tQ b)(hd:d∈b.due):Dn b d:=by
 obtain⟨k,x,y,hk,ab,ac,G,I,J⟩:=h.has d hd;have O:tK b d=k.1:=(by unfold tK;rw[hk];rfl);have ad:=h.fit x (uk G).1;have ae:=h.fit y (uk I).1;have nn:∀(side:HL iU->gJ) i,0<=jo side b i (iY d b.due):=λside i=>qzT λe he=>by obtain⟨k',_,_,af,Q,_⟩:=h.has e (Eg.subset he);unfold tK;rw[af];exact Q.1
 have g1:wv (gf k.1)<=wv (gN x):=(by have C:=h.mE _ _ G;unfold jo at C;rw[h.due.rN hd] at C;have h2:=nn gK (gK k.1);unfold jo at h2;rw[O,iP rfl] at C;omega);have g2:wv (gf k.1)<=wv (gX y):=(by have C:=h.mH _ _ I;unfold jo at C;rw[h.due.rN hd] at C;have h2:=nn gL (gL k.1);unfold jo at h2;rw[O,iP rfl] at C;omega);have ep:lh b (gK k.1) (gL k.1)=(x,y,true,true):=(by unfold lh;rw[G,I];rfl);obtain⟨q,hq,f1,f2,i1,i2,w1,w2,w3,w4,w5,w6⟩:=quA (p:=(x,y,true,true)) ab.1 ad ae g1 g2;have w1:wv (gN q.1)=wv (gN x)-wv (gf k.1):=w1;have w2:gX q.1=gX x:=w2;have w3:gN q.2.1=gN y:=w3;have w4:wv (gX q.2.1)=wv (gX y)-wv (gf k.1):=w4;have R:gR k.1 (lh b (gK k.1) (gL k.1))=some q:=(by rw[ep];exact hq);have E:ic q.1=gK k.1:=i1.trans (uk G).2;have U:ic q.2.1=gL k.1:=i2.trans (uk I).2;have e1:nH b d=(b.dZ q.1).dZ q.2.1:=(by unfold nH;rw[O,R];rfl);have V:∀i,eX (nH b d) i=if gL k.1=i then some q.2.1 else if gK k.1=i then some q.1 else eX b i:=λi=>by rw[e1,BX,BX,E,U]
 refine⟨⟨k,q,hk,R⟩,λi a' u=>?_,λi a u=>?_,by rw[O];exact ac,?_⟩
 ·rw[V] at u;rw[O];split at u
  ·next e=>
   cases u;subst e;exact⟨y,I,f2,by rw[iN J,w3];omega,by rw[iP rfl];exact w4,w6⟩
  ·next e=>
   split at u
   ·next e'=>
    cases u;subst e';exact⟨x,G,f1,by rw[iP rfl];exact w1,by rw[iN e,w2];omega,w5⟩
   ·next e'=>exact⟨a',u,h.fit _ (uk u).1,by rw[iN e'];omega,by rw[iN e];omega,rfl⟩
 rw[V];split;exact⟨_,rfl⟩;split;exact⟨_,rfl⟩;exact⟨a,u⟩;rw[e1];have l1:(b.dZ q.1).acc.length=b.acc.length:=D9 (by rw[E];show eX b _≠none;rw[G];exact λh=>nomatch h);rw[<- l1];refine D9 ?_;show eX (b.dZ q.1) (ic q.2.1)≠none;rw[BX,E,U,iN J,I];exact λh=>nomatch h
def tQ.one(h:tQ b)(U:d∈b.due):tQ (mh b d n):=by
 obtain⟨I,et,J,_⟩:=DM (b:=b) (d:=d) (n:=n);have t:=h.x5 U;have O:∀x∈iY d b.due,x∈b.due:=λx E=>Eg.subset E;refine⟨λa C=>?_,?_,?_,?_,?_,?_⟩;rw[I] at C;unfold nH at C;obtain⟨k,q,V,hq⟩:=t.ok;have e:tK b d=k.1:=(by unfold tK;rw[V];rfl);rw[e,hq] at C;have hT:∀i,eK fV ((eX b i).getD lC):=λi=>by
  cases E:eX b i with
  | none=>exact BQ
  | some a=>exact h.fit a (uk E).1
 obtain⟨k',_,_,Q,R,_⟩:=h.has d U;rw[V] at Q;cases Q;have hf:=DL R.1 (hT _) (hT _) hq;rcases Cd C with rfl|C;exact hf.2;rcases Cd C with rfl|C;exact hf.1;exact h.fit a C;rw[J];exact λx E=>h.E2 x (O x E);rw[J];exact h.due.sub Eg;rw[J];intro x E;obtain⟨k,u,v,V,ab,ac,hu,hv,ad⟩:=h.has x (O x E);obtain⟨u',ae⟩:=t.all _ _ hu;obtain⟨v',af⟩:=t.all _ _ hv;exact⟨k,u',v',by rw[qrJ et];exact V,ab,ac,by rw[Ey I];exact ae,by rw[Ey I];exact af,ad⟩;intro i a C;rw[Ey I] at C;obtain⟨a0,G,_,hw,_,_⟩:=t.wC i a C
 have:=h.mE i a0 G;rw[J,qrm et,hw];unfold jo at this⊢;rw[h.due.rN U] at this;omega;intro i a C;rw[Ey I] at C;obtain⟨a0,G,_,_,hw,_⟩:=t.wC i a C;have:=h.mH i a0 G;rw[J,qrm et,hw];unfold jo at this⊢;rw[h.due.rN U] at this;omega
def Bk.many (b:Bk):Nat:=b.size+5*b.due.length
def qrg(h:d∈b.due):(mh b d n).many<=b.many/\b.size+5<=b.many:=by
 have E:(mh b d n).due.length<b.due.length:=(by rw[(DM (b:=b) (d:=d) (n:=n)).2.2.1];unfold iY;rw[length_filter_lt_length_iff_exists];exact⟨d,h,oM⟩);have z:=HN (b:=b) (p:=(gR (tK b d) (lh b (gK (tK b d)) (gL (tK b d)))).getD qV) (n:=n);have u:=ui (kf:=λx:gJ×Int=>x.1) (a:=(gP (tK b d),4)) (l:=(fJ b ((gR (tK b d) (lh b (gK (tK b d)) (gL (tK b d)))).getD qV) n).ki);have G:(mh b d n).size<=b.size+5:=by
  have e:(mh b d n).size=(((fJ b ((gR (tK b d) (lh b (gK (tK b d)) (gL (tK b d)))).getD qV) n).gj (gP (tK b d),4)).kc d).size:=rfl;rw[e];have C:(iY d (fJ b ((gR (tK b d) (lh b (gK (tK b d)) (gL (tK b d)))).getD qV) n).due).length<=(fJ b ((gR (tK b d) (lh b (gK (tK b d)) (gL (tK b d)))).getD qV) n).due.length:=Eg.length_le;generalize fJ b ((gR (tK b d) (lh b (gK (tK b d)) (gL (tK b d)))).getD qV) n=B at z u C⊢;unfold Bk.size Bk.kc Bk.gj at *;dsimp only at *;omega
 have I:0<b.due.length:=length_pos_of_mem h;unfold Bk.many;omega
def tQ.uG{c:Nat}:∀ {l:List (HL jb)} {b:Bk} {n:Int},tQ b->l.Sublist b.due->3*b.many+1<=c->pO c b l n/\tQ (iF b l n)/\(iF b l n).many<=b.many
 | [],b,n,h,_,_=>⟨trivial,h,zM _⟩
 | d::r,b,n,h,C,I=>by have u:d∈b.due:=C.subset JZ;have E:=qrg (n:=n) u;have G:=(DM (b:=b) (d:=d) (n:=n)).2.2.1;have ih:=tQ.uG (c:=c) (l:=r) (b:=mh b d n) (n:=(n+1)%18446744073709551616) (h.one u) (by rw[G];exact h.due.rest C) oK;exact⟨⟨⟨u,(h.x5 u).ok,oK⟩,ih.1⟩,ih.2.1,zL ih.2.2 E.1⟩
def EW{J0 most:Int}:(jL l J0 most).Sublist l:=(take_sublist _ _).trans filter_sublist
def qpk:∀ {l:List (HL jb)} {b:Bk} {n:Int},tf b.due->l.Sublist b.due->(∀x y,x∈l->y∈b.due->y∉l->nI x y=true)->(iF b l n).due=b.due.drop l.length
 | [],b,n,_,_,_=>rfl
 | d::r,b,n,h,u,G=>by
  have I:=(DM (b:=b) (d:=d) (n:=n)).2.2.1;have V:∃t,b.due=d::t:=by
   cases R:b.due with
   | nil=>rw[R] at u;cases u
   | cons x t=>
    refine⟨t,?_⟩;rw[R] at h u G;by_cases e:x=d;rw[e];exfalso;have hd:d∈t:=(zG.1 (u.subset JZ)).resolve_left λh=>e h.symm;have lt:=(yK.1 h).1 d hd;by_cases C:x∈d::r;have C:x∈r:=(zG.1 C).resolve_left e;have:=(yK.1 (h.sub u)).1 x C;rw[AX] at lt this;omega;have:=G d x JZ JZ C;rw[AX] at lt this;omega
  obtain⟨t,E⟩:=V;rw[E] at h u G;have J:iY d (d::t)=t:=h.uE;rw[iF,qpk (l:=r) (b:=mh b d n) (by rw[I,E,J];exact (yK.1 h).2) (by rw[I,E,J];exact cons_sublist_cons.1 u) (by
   rw[I,E,J];intro x y C U O;refine G x y (zN _ C) (zN _ U) λQ=>?_;rcases zG.1 Q with rfl|Q;have:=(yK.1 h).1 y U;rw[AX] at this;omega;exact O Q),I,E,J]
  rfl
def qzw(h:tf b.due)(J0 most n:Int):(iF b (jL b.due J0 most) n).due=b.due.drop (jL b.due J0 most).length:=by refine qpk h EW λx y C O I=>?_;have E:x∈b.due.filter (λd=>decide (d.1<=J0)):=yW C;have Q:(mX x).1<=J0:=zC (mem_filter.1 E).2;have J:tf (b.due.filter λd=>decide (d.1<=J0)):=h.sub filter_sublist;by_cases hy1:(mX y).1<=J0;have u:y∈b.due.filter (λd=>decide (d.1<=J0)):=mem_filter.2 ⟨O,yA hy1⟩;unfold jL at C I;rw[<- xG most.toNat (b.due.filter λd=>decide (d.1<=J0))] at J u;have G:=(zD.1 u).resolve_left I;exact (pairwise_append.1 J).2.2 x C y G;exact AX.2 (.inl oK)
abbrev pD:List Cell:=[.b,.b,.w,.w,.u,.b,.int .u16]
abbrev Pn:=HL pD
def sL (x:Pn):Int:=x.1
def sQ (x:Pn):Int:=x.2.1
def HM (x:Pn):gJ:=(x.2.2.1,x.2.2.2.1)
def pnT (x:Pn):Int:=x.2.2.2.2.1
def tA (x:Pn):Int:=x.2.2.2.2.2.1
def Az (x:Pn):Int:=x.2.2.2.2.2.2
def Eu (x:Int):Int:=bits .or .u16 x 2
def qyh{x:Int}(C:0<=x/\x<65536):(0<=Eu x/\Eu x<65536)/\hasB (Eu x) 2=true:=by
 obtain⟨n,rfl⟩:∃n:Nat,x=n:=⟨x.toNat,oK⟩;have e:Eu (n:Int)=wrap .u16 ((BitVec.ofInt 16 (n:Int)||| BitVec.ofInt 16 ((2:Nat):Int)).toNat:Nat):=rfl;rw[BitVec.toNat_or,Ej n oK,Ej 2 oN] at e;have h:n||| 2<2^16:=Nat.or_lt_two_pow oK oN;rw[vH _ ⟨Int.natCast_nonneg _,Int.ofNat_lt.2 h⟩] at e;rw[e];refine⟨oK,?_⟩;unfold hasB;have u:(n||| 2).testBit 1=true:=(by rw[Nat.testBit_or];simp[Nat.testBit]);rw[Nat.testBit_eq_decide_div_mod_eq] at u;have:=zC u;exact yA oK
def rV (n i:Nat) (st:Int) (x:Pn):HL iU:=((1:Int),(i:Int),(0:Int),sL x%(n:Int)+1,(0:Int),sQ x%(n:Int)+1,(HM x).1,(HM x).2,(0:Int),(0:Int),(0:Int),pnT x,(0:Int),(0:Int),Eu (Az x),st)
def qA (t:HL iU) (p:Pa):Option Pa:=
 (mO (gN p.1) (gf t)).bind λx=>(mO (gX p.2.1) (gf t)).map λy=>
  (let d:=md x p.1;if hasB (ky t) 64 then kS (wV (jv d) 16) d else d,let c:=ml y p.2.1;if hasB (ky t) 128 then kS (wV (jv c) 16) c else c,p.2.2)
def sG (b:Bk) (t:HL iU) (q:Pa):Bk:=
 let h:=(((b.dZ q.1).dZ q.2.1).gF (t,gf t)).gj (gP t,1)
 match pY t with
 | none=>h
 | some e=>h.kb (e,ll t,gP t)
def mK (s:Int) (x:Pn):Int:=s+(1+tA x)
def mq (n i:Nat) (s:Int) (b:Bk) (x:Pn):Bk:=
 let t:=rV n i (mK s x) x
 match qA t (lh b (gK t) (gL t)) with
 | none=>b
 | some q=>if sL x%(n:Int)=sQ x%(n:Int) then b else sG b t q
def pi (n:Nat):Nat->Int->Bk->List Pn->Bk
 | _,_,b,[]=>b
 | i,s,b,x::r=>pi n (i+1) (mK s x) (mq n i s b x) r
def qa (i:Nat) (a:HL fV):HL fV:=((0:Int),(i:Int)+1,a.2.2)
def m7 (l:List (HL fV)):List (HL fV):=l.mapIdx qa
def xc (l:List (HL fV)):Bk:=⟨m7 l,[],[],[],[],[],[],none,0⟩
def jn (l:List (HL fV)) (ps:List Pn):Bk:=if l.length<2 then xc l else pi l.length 0 1 (xc l) ps
structure tv (n i:Nat) (s:Int) (b:Bk):Prop where
 snd:tQ b
 acc:∀ j:Nat,j<n->∃ a,eX b (0,(j:Int)+1)=some a
 ids:∀ d∈b.due,∃ j:Nat,j<i/\qu d=(1,(j:Int))
 nt:∀ d∈b.due,(mX d).2<=s
 len:b.acc.length=n
 many:b.many<=n+10*i
 st:1<=s/\s<=1+256*i
def qo2{t:HL iU}{p q:Pa}(G:eK iU t)(I:eK fV p.1)(J:eK fV p.2.1)(h:qA t p=some q): eK fV q.1/\eK fV q.2.1/\ic q.1=ic p.1/\ic q.2.1=ic p.2.1/\wv (gN q.1)=wv (gN p.1)+wv (gf t)/\gX q.1=gX p.1/\gN q.2.1=gN p.2.1/\wv (gX q.2.1)=wv (gX p.2.1)+wv (gf t):=by
 unfold qA at h;obtain⟨x,Q,h⟩:=Option.bind_eq_some_iff.1 h;obtain⟨y,R,rfl⟩:=yU.1 h;obtain⟨e1,o1⟩:=qrE (AR I) (uM G) Q;obtain⟨U,V⟩:=qrE (AV J) (uM G) R;have C:=qrx o1 I;have E:=qrw V J;have u:∀ {f:Int},0<=f/\f<65536->0<=wV f 16/\wV f 16<65536:=λ{f} O=>by
  have:=qAl O;unfold wV;split;exact O
  ·next e=>
   have:=this.2 (oQ e);omega
 rw[<- e1,<- U];refine⟨?_,?_,?_,?_,?_,?_,?_,?_⟩<;>dsimp only<;>split;exact Gs (u (vn C)) C;exact C;exact Gs (u (vn E)) E;exact E;all_goals rfl
def CZ{x:HL jb}:x∈kX d l↔x=d\/x∈l:=by rw[Da.mem_iff,zG]
def qle{d:HL jb}:∀ {l:List (HL jb)},tf l->(∀x∈l,mX x≠mX d)->tf (kX d l)
 | [],_,_=>pairwise_singleton _ _
 | x::r,h,E=>by have C:=yK.1 h;unfold kX;by_cases e:nI d x=true;rw[iP e];refine yK.2 ⟨λy u=>?_,h⟩;rcases zG.1 u with rfl|u;exact e;have G:=C.1 y u;rw[AX] at e G⊢;omega;rw[iN e];refine yK.2 ⟨λy u=>?_,qle C.2 λy u=>E y (zN _ u)⟩;rcases CZ.1 u with rfl|u;have I:=E x JZ;rw[AX] at e⊢;have G:¬((mX x).1=(mX y).1/\(mX x).2=(mX y).2):=λh=>I (Prod.ext h.1 h.2);omega;exact C.1 y u
def IG{n i:Nat}{x:Pn}(O:2<=n/\n<=8)(hi:i<1000)(u:lA s)(C:eK pD x):eK iU (rV n i s x):=by obtain⟨Q,R,E,G,I,U,J⟩:=C;have h:(0:Int)<=Az x/\Az x<=65535:=J;have o:=(qyh (x:=Az x) ⟨h.1,oK⟩).1;have V:0<=sL x%(n:Int)/\sL x%(n:Int)<n:=⟨Int.emod_nonneg _ oK,Int.emod_lt_of_pos _ oK⟩;have m2:0<=sQ x%(n:Int)/\sQ x%(n:Int)<n:=⟨Int.emod_nonneg _ oK,Int.emod_lt_of_pos _ oK⟩;exact⟨tE (x:=1) ⟨oN,oN⟩,tE (x:=(i:Int)) ⟨oK,oK⟩,rG,tE (x:=sL x%(n:Int)+1) ⟨oK,oK⟩,rG,tE (x:=sQ x%(n:Int)+1) ⟨oK,oK⟩,E,G,rG,rG,rG,I,show (0:Int)<=0/\(0:Int)<=4294967295 from⟨oN,oN⟩,AY (x:=0) ⟨oN,oN⟩,AY o,tE u⟩
def Ik{side:HL iU->gJ}{b:Bk}{i:gJ}{d:HL jb}:∀ {l:List (HL jb)},jo side b i (kX d l)=(if side (tK b d)=i then wv (gf (tK b d)) else 0)+jo side b i l
 | []=>by unfold kX jo;simp
 | x::r=>by have ih:=Ik (side:=side) (b:=b) (i:=i) (d:=d) (l:=r);unfold kX;unfold jo at ih⊢;split;rw[xQ,sum_cons];rw[xQ,sum_cons,ih,xQ,sum_cons];omega
def qyS{k:Kp}:iG (b.gF k) i=if pZ k=i then some k else iG b i:=GU
def qnr(h:∀d∈l,tK b d=tK b' d):jo side b i l=jo side b' i l:=by unfold jo;rw[map_congr_left λd u=>by rw[h d u]]
def tv.made{n i:Nat}{x:Pn}{q:Pa}(h:tv n i s b)(hn:2<=n/\n<=8)(hi:i<25)(hx:eK pD x)(an:sL x%(n:Int)≠sQ x%(n:Int))(hq:qA (rV n i (mK s x) x) (lh b (gK (rV n i (mK s x) x)) (gL (rV n i (mK s x) x)))=some q):tv n (i+1) (mK s x) (sG b (rV n i (mK s x) x) q):=by
 have aY:(0:Int)<=tA x/\tA x<=255:=hx.2.2.2.2.2.1;have aZ:=h.st;have es:mK s x=s+(1+tA x):=rfl;have ao:lA (mK s x):=⟨oK,oK⟩;have Q:=IG (i:=i) hn oK ao hx;have eI:gP (rV n i (mK s x) x)=(1,(i:Int)):=rfl;have eN:ll (rV n i (mK s x) x)=mK s x:=rfl;have m1:0<=sL x%(n:Int)/\sL x%(n:Int)<n:=⟨Int.emod_nonneg _ oK,Int.emod_lt_of_pos _ oK⟩;have m2:0<=sQ x%(n:Int)/\sQ x%(n:Int)<n:=⟨Int.emod_nonneg _ oK,Int.emod_lt_of_pos _ oK⟩;have eD:gK (rV n i (mK s x) x)=(0,(((sL x%(n:Int)).toNat:Nat):Int)+1):=(by rw[Int.toNat_of_nonneg m1.1];rfl);have eC:gL (rV n i (mK s x) x)=(0,(((sQ x%(n:Int)).toNat:Nat):Int)+1):=(by rw[Int.toNat_of_nonneg m2.1];rfl);obtain⟨u,hu⟩:=h.acc (sL x%(n:Int)).toNat oK;obtain⟨v,hv⟩:=h.acc (sQ x%(n:Int)).toNat oK;have R:gK (rV n i (mK s x) x)≠gL (rV n i (mK s x) x):=by
  rw[eD,eC];intro e;have:=Kr Prod.snd e;dsimp only at this;omega
 rw[<- eD] at hu;rw[<- eC] at hv;generalize rV n i (mK s x) x=t at Q eI eN R hu hv hq⊢;clear eD eC;have ep:lh b (gK t) (gL t)=(u,v,true,true):=(by unfold lh;rw[hu,hv];rfl);rw[ep] at hq;obtain⟨f1,f2,i1,i2,w1,w2,w3,w4⟩:=qo2 (p:=(u,v,true,true)) Q (h.snd.fit u (uk hu).1) (h.snd.fit v (uk hv).1) hq;have ai:ic q.1=gK t:=i1.trans (uk hu).2;have ap:ic q.2.1=gL t:=i2.trans (uk hv).2;have a9:=Al (uM Q);have w1:wv (gN q.1)=wv (gN u)+wv (gf t):=w1;have w2:gX q.1=gX u:=w2;have w3:gN q.2.1=gN v:=w3;have w4:wv (gX q.2.1)=wv (gX v)+wv (gf t):=w4;have aK:∀j,eX ((b.dZ q.1).dZ q.2.1) j=if gL t=j then some q.2.1 else if gK t=j then some q.1 else eX b j:=λj=>by rw[BX,BX,ai,ap]
 have ac:((b.dZ q.1).dZ q.2.1).acc.length=b.acc.length:=(by have l1:(b.dZ q.1).acc.length=b.acc.length:=D9 (by rw[ai];show eX b _≠none;rw[hu];exact λh=>nomatch h);rw[<- l1];refine D9 ?_;show eX (b.dZ q.1) (ic q.2.1)≠none;rw[BX,ai,ap,iN R,hv];exact λh=>nomatch h);have aq:∀a∈((b.dZ q.1).dZ q.2.1).acc,eK fV a:=λa E=>by rcases Cd E with rfl|E;exact f2;rcases Cd E with rfl|E;exact f1;exact h.snd.fit a E
 generalize O:(((b.dZ q.1).dZ q.2.1).gF (t,gf t)).gj (gP t,1)=C;have a1:C.acc=((b.dZ q.1).dZ q.2.1).acc:=(by rw[<- O];rfl);have V:C.due=b.due:=(by rw[<- O];rfl);have t1:∀j,iG C j=if gP t=j then some (t,gf t) else iG b j:=λj=>by rw[<- O];exact qyS (b:=(b.dZ q.1).dZ q.2.1)
 have z1:C.size<=b.size+4:=(by have y1:=ui (kf:=pZ) (a:=(t,gf t)) (l:=b.jA);have y2:=ui (kf:=λx:gJ×Int=>x.1) (a:=(gP t,1)) (l:=b.ki);have y3:=ui (kf:=qw) (a:=zm t) (l:=b.mE);have y4:=ui (kf:=qw) (a:=Cl t) (l:=b.mH);have e:C.size=((b.dZ q.1).dZ q.2.1).acc.length+(iT pZ (t,gf t) b.jA).length+(iT (λx:gJ×Int=>x.1) (gP t,1) b.ki).length+b.due.length+(iT qw (zm t) b.mE).length+(iT qw (Cl t) b.mH).length+b.iJ.length+b.last.toList.length:=(by rw[<- O];rfl);rw[e,ac];unfold Bk.size;omega);have eM:sG b t q=match pY t with
  | none=>C
  | some e=>C.kb (e,ll t,gP t):=by rw[<- O];rfl
 clear O;have ar:∀d∈b.due,gP t≠qu d:=λd I e=>by
  obtain⟨j,hj,e2⟩:=h.ids d I;rw[eI,e2] at e;have:=Kr Prod.snd e;dsimp only at this;omega
 have au:∀d∈b.due,tK C d=tK b d:=λd I=>by unfold tK;rw[t1,iN (ar d I)]
 have aa:∀j,eX C j=if gL t=j then some q.2.1 else if gK t=j then some q.1 else eX b j:=λj=>by rw[Ey a1,aK]
 have U:∀j a,eX b j=some a->∃a',eX C j=some a':=λj a E=>by rw[aa];split;exact⟨_,rfl⟩;split;exact⟨_,rfl⟩;exact⟨a,E⟩
 have av:∀j a,eX C j=some a->∃a0,eX b j=some a0/\wv (gN a)=wv (gN a0)+(if gK t=j then wv (gf t) else 0)/\wv (gX a)=wv (gX a0)+(if gL t=j then wv (gf t) else 0):=λj a E=>by
  rw[aa] at E;split at E
  ·next e=>
   cases E;subst e;exact⟨v,hv,by rw[iN R,w3];omega,by rw[iP rfl];exact w4⟩
  ·next e=>
   split at E
   ·next e'=>
    cases E;subst e';exact⟨u,hu,by rw[iP rfl];exact w1,by rw[iN e,w2];omega⟩
   ·next e'=>exact⟨a,E,by rw[iN e'];omega,by rw[iN e];omega⟩
 have ad:∀d∈b.due,∃k x y,iG C (qu d)=some k/\tM k/\pZ k=qu d/\eX C (gK k.1)=some x/\eX C (gL k.1)=some y/\gK k.1≠gL k.1:=λd I=>by obtain⟨k,x,y,hk,aM,aN,hx,G,an⟩:=h.snd.has d I;obtain⟨x',aO⟩:=U _ _ hx;obtain⟨y',aP⟩:=U _ _ G;exact⟨k,x',y',by rw[t1,iN (ar d I)];exact hk,aM,aN,aO,aP,an⟩
 have qQ:∀j:Nat,j<n->∃a,eX C (0,(j:Int)+1)=some a:=λj hj=>by obtain⟨a,E⟩:=h.acc j hj;exact U _ _ E
 have ae:C.acc.length=n:=(by rw[a1,ac];exact h.len);have hm:=h.many;have af:∀a∈C.acc,eK fV a:=(by rw[a1];exact aq);have aw:∀j a,eX C j=some a->jo gK C j b.due+(if gK t=j then wv (gf t) else 0)<=wv (gN a):=λj a E=>by
  obtain⟨a0,ak,e1,_⟩:=av j a E;have:=h.snd.mE j a0 ak;rw[qnr au,e1];omega
 have ax:∀j a,eX C j=some a->jo gL C j b.due+(if gL t=j then wv (gf t) else 0)<=wv (gX a):=λj a E=>by
  obtain⟨a0,ak,_,e1⟩:=av j a E;have:=h.snd.mH j a0 ak;rw[qnr au,e1];omega
 rw[eM];have ay:∀(p:Prop) [Decidable p],0<=if p then wv (gf t) else 0:=λp _=>by split<;>omega
 cases I:pY t with
 | none=>
  show tv n (i+1) (mK s x) C;refine⟨⟨af,by rw[V];exact h.snd.E2,by rw[V];exact h.snd.due,by rw[V];exact ad,λj a E=>?_,λj a E=>?_⟩,qQ,by rw[V];exact λd I=>(h.ids d I).elim λj hj=>⟨j,oK,hj.2⟩,by rw[V];exact λd I=>by have:=h.nt d I;omega,ae,?_,oK,oK⟩;rw[V];have:=aw j a E;have:=ay (gK t=j);omega;rw[V];have:=ax j a E;have:=ay (gL t=j);omega;unfold Bk.many at hm⊢;rw[V];omega
 | some e=>
  have he:lA e:=(by unfold pY at I;have hN:=Q.2.2.2.2.2.2.2.2.2.2.2.2.2.2.2;have hO:=Q.2.2.2.2.2.2.2.2.2.2.2.1;have hN:(0:Int)<=ll t/\ll t<=18446744073709551615:=hN;have hO:(0:Int)<=mG t/\mG t<=4294967295:=hO;split at I;cases I;split at I;cases I;exact⟨oK,oK⟩;cases I);show tv n (i+1) (mK s x) (C.kb (e,ll t,gP t));generalize al:((e,ll t,gP t):HL jb)=J;have k0:qu J=gP t:=(by rw[<- al];rfl);have k1:(mX J).2=mK s x:=(by rw[<- al];exact eN);have f0:eK jb J:=(by rw[<- al];exact⟨tE he,Q.2.2.2.2.2.2.2.2.2.2.2.2.2.2.2,Q.1,Q.2.1⟩);have nk:∀y∈b.due,mX y≠mX J:=λy G e=>by
   have:=h.nt y G;rw[e] at this;omega
  have ec:iY J b.due=b.due:=filter_eq_self.2 λy G=>yA (nk y G);have e3:(C.kb J).due=kX J b.due:=(by show kX J (iY J C.due)=_;rw[V,ec]);have az:tK C J=t:=(by unfold tK;rw[k0,t1,iP rfl];rfl);have aA:∀d,tK (C.kb J) d=tK C d:=λd=>rfl;have u1:eX C (gK t)=some q.1:=(by rw[aa,iN R.symm,iP rfl]);have u2:eX C (gL t)=some q.2.1:=(by rw[aa,iP rfl]);refine⟨⟨af,?_,?_,?_,λj a E=>?_,λj a E=>?_⟩,qQ,?_,?_,ae,?_,oK,oK⟩;rw[e3];exact λy G=>(CZ.1 G).elim (λe=>by rw[e];exact f0) (h.snd.E2 y);rw[e3];exact qle h.snd.due nk;rw[e3];intro y G;rcases CZ.1 G with rfl|G;exact⟨(t,gf t),q.1,q.2.1,by show iG C (qu y)=_;rw[k0,t1,iP rfl],⟨Q,Q.2.2.2.2.2.2.1,Q.2.2.2.2.2.2.2.1⟩,k0.symm,u1,u2,R⟩;exact ad y G;rw[e3,Ik,aA,az];have:=aw j a E;have e4:jo gK (C.kb J) j b.due=jo gK C j b.due:=rfl;omega;rw[e3,Ik,aA,az];have:=ax j a E;have e4:jo gL (C.kb J) j b.due=jo gL C j b.due:=rfl;omega;rw[e3];intro y G;rcases CZ.1 G with rfl|G;exact⟨i,oK,k0.trans eI⟩;exact (h.ids y G).elim λj hj=>⟨j,oK,hj.2⟩;rw[e3];intro y G;rcases CZ.1 G with rfl|G;omega;have:=h.nt y G;omega;have l3:(kX J b.due).length=b.due.length+1:=(by rw[Da.length_eq];rfl);have z3:(C.kb J).size=C.size+1:=by have e5:(C.kb J).size=C.acc.length+C.jA.length+C.ki.length+(C.kb J).due.length+C.mE.length+C.mH.length+C.iJ.length+C.last.toList.length:=rfl;have e6:C.size=C.acc.length+C.jA.length+C.ki.length+C.due.length+C.mE.length+C.mH.length+C.iJ.length+C.last.toList.length:=rfl;rw[e5,e3,l3,e6,V];omega
  unfold Bk.many at hm⊢;rw[z3,e3,l3];omega
def tv.mono{n i:Nat}{u:Int}(h:tv n i s b)(G:s<=u)(I:u<=s+256):tv n (i+1) u b:=
 ⟨h.snd,h.acc,λd C=>(h.ids d C).elim λj E=>⟨j,oK,E.2⟩,λd C=>by have:=h.nt d C;omega,h.len,by have:=h.many;omega,by have:=h.st;omega,by have:=h.st;omega⟩
def tv.wC{n i:Nat}{x:Pn}(h:tv n i s b)(C:2<=n/\n<=8)(hi:i<25)(u:eK pD x):tv n (i+1) (mK s x) (mq n i s b x):=by
 have E:(0:Int)<=tA x/\tA x<=255:=u.2.2.2.2.2.1;have G:mK s x=s+(1+tA x):=rfl;unfold mq;dsimp only;split;exact h.mono oK oK
 ·next q hq=>
  split;exact h.mono oK oK
  ·next hne=>exact h.made C hi u hne hq
def qxM{l:List (HL fV)}{j:Nat}(h:j<l.length):∃a,(m7 l).find? (λx=>decide (ic x=(0,(j:Int)+1)))=some a:=by
 have C:qa j l[j]∈m7 l:=mem_mapIdx.2 ⟨j,h,rfl⟩;cases u:(m7 l).find? (λx=>decide (ic x=(0,(j:Int)+1))) with
 | some a=>exact⟨a,rfl⟩
 | none=>
  rw[List.find?_eq_none] at u;exact absurd (by simp[ic,qa]) (u _ C)
def qtD{i:Nat}(hi:i<1000)(h:eK fV a):eK fV (qa i a):=⟨rG,tE (x:=(i:Int)+1) ⟨oK,oK⟩,h.2.2⟩
def tv.start{l:List (HL fV)}(O:l.length<=8)(G:∀a∈l,eK fV a):tv l.length 0 1 (xc l):=by
 have e:(xc l).acc.length=l.length:=length_mapIdx;have nn:∀a,eK fV a->0<=wv (gN a)/\0<=wv (gX a):=λa h=>⟨(Al (AR h)).1,(Al (AV h)).1⟩;have u:∀a∈(xc l).acc,eK fV a:=λa E=>by obtain⟨i,I,rfl⟩:=mem_mapIdx.1 E;exact qtD oK (G _ (zX I))
 refine⟨⟨u,(λd C=>nomatch C),List.Pairwise.nil,(λd C=>nomatch C),λi a E=>(nn a (u a (uk E).1)).1,λi a E=>(nn a (u a (uk E).1)).2⟩,λj J=>qxM J,(λd C=>nomatch C),(λd C=>nomatch C),e,?_,oN,oN⟩;unfold Bk.many Bk.size;rw[e];show l.length+0+0+0+0+0+0+0+5*0<=_;omega
section
def putAt {α:Type} (p:α->Bool) (x:α) (l:List α):List α:=(l.reverse.dropWhile p).reverse++x::(l.reverse.takeWhile p).reverse
section
variable {α:Type} {p:α->Bool} {x:α} {l A B:List α} {lt:α->α->Prop}
def qzX(C:∀y∈B,p y=true)(G:∀h z,A=h++[z]->p z=false):putAt p x (A++B)=A++x::B:=by
 have E:(A++B).reverse.takeWhile p=B.reverse/\(A++B).reverse.dropWhile p=A.reverse:=by rw[reverse_append,takeWhile_append_of_pos λy u=>C y (mem_reverse.1 u),dropWhile_append_of_pos λy u=>C y (mem_reverse.1 u)];rcases eq_nil_or_concat A with rfl|⟨h,z,rfl⟩;simp;rw[concat_eq_append,reverse_append,reverse_singleton,singleton_append,takeWhile_cons,dropWhile_cons,G h z (by rw[concat_eq_append])];simp
 unfold putAt;rw[E.1,E.2,reverse_reverse,reverse_reverse]
def qns(p:α->Bool)(x:α)(l:List α):∃A B,l=A++B/\putAt p x l=A++x::B/\(∀y∈B,p y=true)/\∀h z,A=h++[z]->p z=false:=by
 refine⟨(l.reverse.dropWhile p).reverse,(l.reverse.takeWhile p).reverse,?_,rfl,λy u=>?_,λh z e=>?_⟩;rw[<- reverse_append,takeWhile_append_dropWhile,reverse_reverse];have:=all_takeWhile (l:=l.reverse) (p:=p);exact all_eq_true.1 this y (mem_reverse.1 u);have C:l.reverse.dropWhile p=z::h.reverse:=by rw[<- reverse_reverse (l.reverse.dropWhile p),e,reverse_append];rfl
 have:=List.head?_dropWhile_not p l.reverse;rw[C] at this;simpa using this
def EZ:(putAt p x l).Perm (x::l):=by obtain⟨A,B,rfl,e,_⟩:=qns p x l;rw[e];exact perm_middle
def qtp(O:l.Pairwise lt)(Q:∀a b c,lt a b->lt b c->lt a c)(R:∀y∈l,p y=true->lt x y)(E:∀y∈l,p y=false->lt y x):(putAt p x l).Pairwise lt:=by
 obtain⟨A,B,rfl,e,U,G⟩:=qns p x l;rw[e];obtain⟨u,V,h3⟩:=pairwise_append.1 O;refine pairwise_append.2 ⟨u,yK.2 ⟨λy I=>R y (zI _ I) (U y I),V⟩,λa h b C=>?_⟩;have ax:lt a x:=by rcases eq_nil_or_concat A with rfl|⟨A',z,rfl⟩;cases h;rw[concat_eq_append] at h u G E;have J:=E z oM (G A' z rfl);rcases zD.1 h with h|h;exact Q _ _ _ ((pairwise_append.1 u).2.2 a h z oM) J;rw[zE.1 h];exact J
 rcases zG.1 C with rfl|C;exact ax;exact h3 a h b C
end
def ls (r:HL k6):Int:=mN (kI r)
def mg (n:Int) (down:Bool) (y:HL k6):Bool:=decide (ls y>n) != down
def mz (i:gJ) (frm to:Int) (x:Ln):Bool:=decide (x.1=i/\frm<=ls x.2/\ls x.2<=to)
def ko (l:List Ln) (i:gJ) (frm to:Int) (down:Bool):List (HL k6):=(l.filter (mz i frm to)).foldl (λh x=>putAt (mg (ls x.2) down) x.2 h) []
def BA (x:Ln):Key×Key:=(gO x.1 (ls x.2),qR x.2)
def qz (down:Bool) (a b:HL k6):Prop:=if down then ls b<ls a else ls a<ls b
def qps{down:Bool}:∀ {l:List Ln} {out:List (HL k6)},(out.map ls++l.map λx=>ls x.2).Nodup->out.Pairwise (qz down)-> (l.foldl (λout x=>putAt (mg (ls x.2) down) x.2 out) out).Pairwise (qz down)/\(l.foldl (λout x=>putAt (mg (ls x.2) down) x.2 out) out).Perm (out++l.map (·.2))
 | [],out,_,G=>⟨G,by rw[map_nil,xJ];exact .refl _⟩
 | x::r,out,O,G=>by
  rw[foldl_cons];have u:(putAt (mg (ls x.2) down) x.2 out).Perm (x.2::out):=EZ;have C:∀y∈out,ls y≠ls x.2:=λy E=>(yN.1 O).2.2 _ (zZ E) _ oM;have I:(putAt (mg (ls x.2) down) x.2 out).Pairwise (qz down):=by
   refine qtp G (λa b c Q R=>?_) (λy E h=>?_) λy E h=>?_;unfold qz at *
   cases down<;>simp at *<;>omega
   have:=C y E;unfold qz mg at *
   cases down<;>simp at *<;>omega
   have:=C y E;unfold qz mg at *
   cases down<;>simp at *<;>omega
  have J:((putAt (mg (ls x.2) down) x.2 out).map ls++r.map λx=>ls x.2).Nodup:=(by refine (List.Perm.nodup_iff ?_).2 O;rw[xQ];exact ((u.map ls).append_right _).trans perm_middle.symm);obtain⟨Q,R⟩:=qps (l:=r) J I;refine⟨Q,R.trans ?_⟩;rw[xQ];exact (u.append_right _).trans perm_middle.symm
def qyF{l:List Ln}{to:Int}:(ko l i frm to down).length<=l.length:=by
 have:∀(k:List Ln) (h:List (HL k6)),(k.foldl (λh x=>putAt (mg (ls x.2) down) x.2 h) h).length=h.length+k.length:=by
  intro k;induction k with
  | nil=>intro h;rfl
  | cons x k ih=>intro h;rw[foldl_cons,ih,EZ.length_eq,yJ,yJ];omega
 unfold ko;rw[this,xM,xU];exact length_filter_le _ _
def qyG{l:List Ln}{to:Int}{r:HL k6}(h:r∈ko l i frm to down):∃x∈l,x.2=r:=by
 have:∀(k:List Ln) (u:List (HL k6)),r∈k.foldl (λu x=>putAt (mg (ls x.2) down) x.2 u) u->r∈u\/∃x∈k,x.2=r:=by
  intro k;induction k with
  | nil=>exact λu h=>.inl h
  | cons x k ih=>
   intro u h;rw[foldl_cons] at h;rcases ih _ h with h|⟨y,C,e⟩;rcases zG.1 (EZ.mem_iff.1 h) with rfl|h;exact .inr ⟨x,JZ,rfl⟩;exact .inl h;exact .inr ⟨y,zN _ C,e⟩
 rcases this _ [] h with h|⟨x,E,e⟩;cases h;exact⟨x,(mem_filter.1 E).1,e⟩
def qA9{x y:Key}(u:¬gq x y)(h:¬gq y x):x=y:=E1 (by unfold gq at u h;rw[v8 x y] at h;omega)
def qBm{a:gJ}{to:Int}(hi:lz i)(G:lz a)(I:lA frm)(J:lA to)(E:lA n){v:Key}:wX (gO i frm) (gO i to) (gO a n,v)=decide (a=i/\frm<=n/\n<=to):=by rw[Ka,qBM,yO];unfold gO;dsimp only;rw[EU E I (by rw[me,me]),EU J E (by rw[me,me])];constructor;rintro⟨u,C⟩;have e:iS a=iS i:=qA9 (λh=>u (.inl h)) λh=>C (.inl h);have:a=i:=lz.inj G hi e;exact⟨this,by have:¬n<frm:=λh=>u (.inr ⟨e,h⟩);omega,by have:¬to<n:=λh=>C (.inr ⟨e.symm,h⟩);omega⟩;rintro⟨rfl,u,C⟩;exact⟨λh=>h.elim (GO _) λh=>oK,λh=>h.elim (GO _) λh=>oK⟩
def qwS{L:gH}{l:List Ln}{to:Int}(h:mP ul L l)(hi:lz i)(hf:lA frm)(ht:lA to): iw down (gO i frm) (gO i to) L=(ko l i frm to down).map λr=>(gO i (ls r),qR r):=by
 have R:∀x∈l,lz x.1/\lA (ls x.2):=λx u=>⟨(h.2 x u).1,pV (ul.G1 x (h.2 x u)).2⟩;have hL:(L.filter (wX (gO i frm) (gO i to))).Perm ((l.filter (mz i frm to)).map BA):=by
  have:=h.1.perm.filter (wX (gO i frm) (gO i to));refine this.trans ?_;rw[filter_map];have:l.filter (wX (gO i frm) (gO i to)∘λa=>(ul.g (ul.key a),ul.val a))=l.filter (mz i frm to):=filter_congr λx u=>qBm hi (R x u).1 hf ht (R x u).2;rw[this];exact .refl _
 have hS:(L.filter (wX (gO i frm) (gO i to))).Pairwise λx y=>gq x.1 y.1:=by
  have:=h.1.sort;unfold fT gz eh at this;exact (pairwise_map.1 this).sublist filter_sublist
 have C:∀x∈l.filter (mz i frm to),x.1=i/\lA (ls x.2):=λx u=>⟨(zC (mem_filter.1 u).2).1,(R x (mem_filter.1 u).1).2⟩;have U:((l.filter (mz i frm to)).map λx=>ls x.2).Nodup:=(by have hk:(l.map sV).Nodup:=h.nodup;have E:((l.filter (mz i frm to)).map sV).Nodup:=hk.sublist (filter_sublist.map _);have e:(l.filter (mz i frm to)).map sV=((l.filter (mz i frm to)).map λx=>ls x.2).map λn=>(i,n):=(by rw[map_map];exact map_congr_left λx u=>Prod.ext (C x u).1 rfl);rw[e] at E;exact E.of_map _ λa b h e=>h (by rw[e]));obtain⟨q1,V⟩:=qps (down:=down) (l:=l.filter (mz i frm to)) (out:=[]) (oQ U) .nil;rw[xK] at V;have hR:((ko l i frm to down).map λr=>(gO i (ls r),qR r)).Perm ((l.filter (mz i frm to)).map BA):=(by refine (V.map _).trans ?_;rw[map_map];refine List.Perm.of_eq (map_congr_left λx u=>?_);unfold BA;rw[(C x u).1];rfl);have Q:∀r∈ko l i frm to down,lA (ls r):=λr hr=>by obtain⟨x,u,rfl⟩:=mem_map.1 (V.mem_iff.1 hr);exact (C x u).2
 have lt:∀a b,lA (ls a)->lA (ls b)->ls a<ls b->gq (gO i (ls a)) (gO i (ls b)):=λa b G I h=>(EU G I rfl).2 (.inr ⟨rfl,h⟩);have J:∀a b:Key×Key,gq a.1 b.1->gq b.1 a.1->a=b:=λa b h1 h2=>absurd h2 (uH h1);unfold iw mw;cases down with
 | false=>
  rw[iN oN];refine List.Perm.eq_of_pairwise (le:=λx y=>gq x.1 y.1) (λa b _ _=>J a b) hS (pairwise_map.2 (List.Pairwise.imp_of_mem (λ{a b} G I O=>?_) q1)) (hL.trans hR.symm);exact lt a b (Q a G) (Q b I) (by unfold qz at O;simpa using O)
 | true=>
  rw[iP rfl];refine List.Perm.eq_of_pairwise (le:=λx y=>gq y.1 x.1) (λa b _ _ h1 h2=>J a b h2 h1) (pairwise_reverse.2 hS) (pairwise_map.2 (List.Pairwise.imp_of_mem (λ{a b} G I O=>?_) q1)) (((reverse_perm _).trans hL).trans hR.symm);exact lt b a (Q b I) (Q a G) (by unfold qz at O;simpa using O)
end
def DK (b:Bk) (first:Int):List (HL jb):=b.due.filter λd=>decide (d.1<=first)
structure JJ (b:Bk) (first:Int) (k:Nat) (x:Bk):Prop where
 le:k<=(DK b first).length
 acc:x.acc=(iF b ((DK b first).take k) 0).acc
 jA:x.jA=b.jA
 due:x.due=b.due.drop k
end
section
open Go Go.Pt List
open Go.IntKind (wrap)
open Classical
attribute [local irreducible] ld dT iH pK ku fw st new idx kZ kM gb kV ke nz ig nn call eF inv run fM i9 join loop held ext kJ ft pw pQ pT IntKind.wrap
variable {K:List Kw×Bool->WP} {t:HL iU} {w:Kv}
def rK (is:Bool) (x:Int):Int:=if is then wV x 16 else nP x 16
def Ae (is:Bool) (t:HL iU) (d c:HL fV) (q:Bool×Bool):Pa:=(if hasB (ky t) 64 then kS (rK is (jv d)) d else d,if hasB (ky t) 128 then kS (rK is (jv c)) c else c,q)
abbrev zn:Kx:=55
def qsL{is:Bool}{d c:HL fV}{q:Bool×Bool}{r1 r3 u C:Nat}{G:Obj}{w0:Kv}(J:0<=ky t/\ky t<65536)(R:0<=jv d/\jv d<65536)(U:0<=jv c/\jv c<65536)(o:ed [] w w0 [(C,.c (lf qV).toArray rB),(u,.c (lf (d,c,q)).toArray rB),(r3,G),(r1,JR iU t zn)])(I:∀w',Fr [] w w'->K (lf (Ae is t d c q),true) w'): join PUnit (λX=>ld (.int .u16) (dm r1 14) w0 λx=>cW 54 [.int .u16 x,.int .u16 64] dr w0 λb w1=>cond b (ld (.int .u16) (dm u 13) w1 λx=>cW 67 [.int .u16 x,.bool is] dH w1 λx w2=>st (dm u 13) [.int .u16 x] w2 λE=>X () E) (X () w1)) λ_ wa=> join PUnit (λX=>ld (.int .u16) (dm r1 14) wa λx=>cW 54 [.int .u16 x,.int .u16 128] dr wa λb w1=>cond b (ld (.int .u16) (dm u 28) w1 λx=>cW 67 [.int .u16 x,.bool is] dH w1 λx w2=>st (dm u 28) [.int .u16 x] w2 λE=>X () E) (X () w1)) λ_ O=> iH 32 (dm u) O λvs=>ig (vs.length=32) (st (dm C) vs O λw1=>iH 32 (dm C) w1 λvs=>K (vs,true) w1):=by refine jf (λ_ w'=>ed [] w w' [(C,.c (lf qV).toArray rB),(u,.c (lf (if hasB (ky t) 64 then kS (rK is (jv d)) d else d,c,q)).toArray rB),(r3,G),(r1,JR iU t zn)]) ?_ λ_ w1 o=>?_;refine KA o 3 rfl (ky t) (BR J oN ?_);refine eV (λh=>?_) λh=>?_;rw[iP h];exact KA o 1 rfl (jv d) (qor R (o.st' 1 rfl (lf (kS (rK is (jv d)) d,c,q)).toArray rfl rfl (zO rfl) λw1 o _=>o));rw[iN (by rw[h];decide)];exact o;unfold Ae at I;generalize (if hasB (ky t) 64 then kS (rK is (jv d)) d else d)=Q at o I;refine jf (λ_ w'=>ed [] w w' [(C,.c (lf qV).toArray rB),(u,.c (lf (Q,if hasB (ky t) 128 then kS (rK is (jv c)) c else c,q)).toArray rB),(r3,G),(r1,JR iU t zn)]) ?_ λ_ w2 o=>?_;refine KA o 3 rfl (ky t) (BR J oN ?_);refine eV (λh=>?_) λh=>?_;rw[iP h];exact KA o 1 rfl (jv c) (qor U (o.st' 1 rfl (lf (Q,kS (rK is (jv c)) c,q)).toArray rfl rfl (zO rfl) λw1 o _=>o));rw[iN (by rw[h];decide)];exact o;exact ou (o.at (i:=1) rfl) _ (sE _) rfl (mI (sE _) (o.st' 0 rfl _ (iK rfl) rfl (zM _) λE o _=>ou (o.at (i:=0) rfl) _ (sE _) rfl (I E o.fr)))
def G8{p q:Pa}{am:gJ}(C:eK iU t)(E:eK fV p.1)(h:eK fV p.2.1)(u:gR t p=some q)(G:∀w',Fr [] w w'->K (lf q,true) w'): cW 44 [JS iU t,dk am.1 am.2,.bool false,.agg (lf p).toArray] du w K:=by refine qgU ?_;unfold gR at u;obtain⟨x,I,u⟩:=Option.bind_eq_some_iff.1 u;obtain⟨y,J,rfl⟩:=yU.1 u;have O:=Aj;refine oB (oF [] w) λr1 w1 _ V o=>oB o λr3 w2 _ f2 o=>oB o λr5 w3 _ f3 o=>oJ o O λr7 w4 _ o=>KC o 1 rfl (gN p.1) (KC o 3 rfl (gf t) (quM (AR E) (uM C) λw5 Q=>?_));rw[I];refine (o.q8 Q).st' 1 rfl (lf (md x p.1,p.2)).toArray rfl rfl (zO rfl) λw6 o _=>KC o 1 rfl (gX p.2.1) (KC o 3 rfl (gf t) (quM (AV h) (uM C) λw7 R=>?_));rw[J];refine (o.q8 R).st' 1 rfl (lf (md x p.1,ml y p.2.1,p.2.2)).toArray rfl rfl (zO rfl) λU o _=>jf (λb w'=>b=false/\w'=U) (JU rfl ⟨rfl,rfl⟩) ?_;rintro b w9 ⟨rfl,rfl⟩;exact JU rfl (JU rfl (qsL (is:=false) (t:=t) (d:=md x p.1) (c:=ml y p.2.1) (q:=p.2.2) (EY C) (vn (a:=p.1) E) (vn (a:=p.2.1) h) o G))
def GK{p:Pa}(G:eK iU t)(V:hasB (ky t) 2=true)(O:eK fV p.1)(C:eK fV p.2.1)(E:∀w',Fr [] w w'->K (lf ((qA t p).getD qV),(qA t p).isSome) w'): cW 25 [JS iU t,.agg #[.w (gf t).1,.w (gf t).2],.agg (lf p).toArray] du w K:=by
 refine qij ?_;have hz:=Aj;unfold qA at E;refine oB (oF [] w) λr1 w1 _ f1 o=>oB o λr3 w2 _ f2 o=>oB o λr5 w3 _ f3 o=>oJ o hz λI w4 _ o=>jf (λq w'=>q=((mO (gN p.1) (gf t)).isSome,(mO (gX p.2.1) (gf t)).isSome)/\ed [] w w' [(I,.c (lf qV).toArray rB),(r5,.c (lf (md ((mO (gN p.1) (gf t)).getD (0,0)) p.1,ml ((mO (gX p.2.1) (gf t)).getD (0,0)) p.2.1,p.2.2)).toArray rB),(r3,.c #[.w (gf t).1,.w (gf t).2] pf),(r1,JR iU t zn)]) ?_ ?_;refine KA o 3 rfl (ky t) (BR (EY G) oN (JT V ?_));refine KC o 1 rfl (gN p.1) (KC o 2 rfl (gf t) (Ho (AR O) (uM G) λu f5=>?_));refine (o.q8 f5).st' 1 rfl (lf (md ((mO (gN p.1) (gf t)).getD (0,0)) p.1,p.2)).toArray rfl rfl (zO rfl) λQ o _=>KC o 1 rfl (gX p.2.1) (KC o 2 rfl (gf t) (Ho (AV C) (uM G) λw7 f7=>?_));exact (o.q8 f7).st' 1 rfl (lf (md ((mO (gN p.1) (gf t)).getD (0,0)) p.1,ml ((mO (gX p.2.1) (gf t)).getD (0,0)) p.2.1,p.2.2)).toArray rfl rfl (zO rfl) λw8 o _=>⟨rfl,o⟩;rintro _ u ⟨rfl,o⟩;have h:(((mO (gN p.1) (gf t)).bind λx=>(mO (gX p.2.1) (gf t)).map λy=>((let d:=md x p.1;if hasB (ky t) 64 then kS (wV (jv d) 16) d else d,let c:=ml y p.2.1;if hasB (ky t) 128 then kS (wV (jv c) 16) c else c,p.2.2):Pa))=none)->
   fM [i3.pF] (λw'=>(Instr.build rB #[]).run prog w') u λvs=>ig (vs.length=32) (st (dm I) vs u λw1=>iH 32 (dm I) w1 λvs=>K (vs,false) w1):=λe=>by
  rw[e] at E;exact tP (ts:=[i3.pF]) (lf qV) oL (mI (sE _) (o.st' 0 rfl _ (iK rfl) rfl (zM _) λQ o _=>ou (o.at (i:=0) rfl) _ (sE _) rfl (E Q o.fr)))
 cases J:mO (gN p.1) (gf t) with
 | none=>
  rw[J] at h;refine jf (λb w'=>b=true/\w'=u) (JT rfl ⟨rfl,rfl⟩) ?_;rintro b R ⟨rfl,rfl⟩;exact JT rfl (h rfl)
 | some x=>
  cases U:mO (gX p.2.1) (gf t) with
  | none=>
   rw[J,U] at h;refine jf (λb w'=>b=true/\w'=u) (JU rfl ⟨rfl,rfl⟩) ?_;rintro b R ⟨rfl,rfl⟩;exact JT rfl (h rfl)
  | some y=>
   rw[J,U] at E o;refine jf (λb w'=>b=false/\w'=u) (JU rfl ⟨rfl,rfl⟩) ?_;rintro b R ⟨rfl,rfl⟩;exact JU rfl (qsL (is:=true) (t:=t) (d:=md x p.1) (c:=ml y p.2.1) (q:=p.2.2) (EY G) (vn (a:=p.1) O) (vn (a:=p.2.1) C) o E)
def CM{S:KD}{r:oq}{b:Bk}{i j:gJ}{K:List Kw->WP}(h:RB S w r b)(E:b.size<=100000)(I:∀w',Fr [] w w'->K (lf (lh b i j)) w'): cW 22 [JS fv r,dk i.1 i.2,dk j.1 j.2] dF w K:=by refine qgp ?_;have G:=Aj;refine oB (oF [] w) λr1 w1 _ V o=>oB o λr3 w2 _ f2 o=>oB o λr5 w3 _ f3 o=>oJ o G λr7 w4 _ o=>tP (ts:=[i3.pF]) (lf qV) oL (oJ o G λJ w5 _ o=>mI (sE _) (o.st' 0 rfl _ (iK rfl) rfl (zM _) λw6 o _=>?_));refine KC o 4 rfl r (KC o 3 rfl i (quK (h.q8 o.fr) E λw7 O=>?_));have o:=o.q8 O;refine o.st' 0 rfl _ qAo rfl (zO rfl) λw8 o _=>o.st' 0 rfl (lf ((eX b i).getD lC,lC,(eX b i).isSome,false)).toArray rfl rfl (zO rfl) λw9 o _=>KC o 4 rfl r (KC o 2 rfl j (quK (h.q8 o.fr) E λQ u=>?_));have o:=o.q8 u;exact o.st' 0 rfl _ qAp rfl (zO rfl) λR o _=>o.st' 0 rfl (lf (lh b i j)).toArray rfl rfl (zO rfl) λU o _=>ou (o.at (i:=0) rfl) _ (sE _) rfl (mI (sE _) (o.st' 1 rfl _ (iK rfl) rfl (zM _) λC o _=>ou (o.at (i:=1) rfl) _ (sE _) rfl (I C o.fr)))
end
section
open Go Go.Pt List
open Go.IntKind (wrap)
open Classical
variable {L:KK} {S:KD} {first:Int} {w:Kv}
def HC{h u C E:WP}{K:Prop}(G:h w)(I:u w)(J:C w)(O:E w)(k:K):held [h,u,C,E] w K:=⟨⟨G,I,J,O⟩,k⟩
attribute [local irreducible] ld dT iH pK ku fw st new idx kZ kM gb kV ke nz ig nn call eF inv run fM i9 join loop held ext kJ ft pw pQ pT IntKind.wrap
def qzR{w0 w':Kv}{p:Nat×Obj}{r:Nat}{o:Obj}(h:ed S w0 w (p::(r,o)::L))(f:Fr [r] w w'):ed S w0 w' (p::L):=
 (Gt h).j0 f (λi G=>by rw[zE.1 G];exact h.own (r,o) oM) λq C u=>by have E:=h.nodup;rw[xQ,xQ,JY,JY] at E;have u:=zE.1 u;rcases zG.1 C with rfl|C;exact E.1 (by rw[u];exact JZ);exact E.2.1 (mem_map.2 ⟨q,C,u⟩)
def qvs{w0 w':Kv}{r:Nat}{o:Obj}(h:ed S w0 w ((r,o)::L))(f:Fr [r] w w'):ed S w0 w' L:=
 (JH h).j0 f (λi C=>by rw[zE.1 C];exact h.own (r,o) oM) λq E G=>by have u:=h.nodup;rw[xQ,JY] at u;exact u.1 (mem_map.2 ⟨q,E,zE.1 G⟩)
def qzS{w0 w':Kv}{a b:Nat}{x y x' C:Obj}(h:ed S w0 w [(a,x),(b,y)])(f:Fr [a,b] w w')(E:w'.heap[a]?=some x')(G:w'.heap[b]?=some C):ed S w0 w' [(a,x'),(b,C)]:=
 ⟨λq u=>by
  rcases zG.1 u with rfl|u;exact E;rw[zE.1 u];exact G,h.nodup,h.back f,λq u=>by
  rcases zG.1 u with rfl|u;exact h.own (a,x) oM;rw[zE.1 u];exact h.own (b,y) oM⟩
def qyr{α:Type}{enc:α->List Kw}{k:Nat}{s:Sl}{l:List α}(h:eE enc k S w s l)(n:Nat){i:Int}{x:α}{K:Addr->Prop}(hi:i=n)(E:l[n]?=some x)(G:∀b o u T C,w.heap[b]?=some (.cells u T C)->b∉S->(u.toList.drop o).take k=enc x->K (dm b o)):idx s i k K:=by subst hi;obtain⟨R,b,o,I,J,u,T,C,O,Q⟩:=eE.at h n E;refine sM I ⟨oK,oK⟩ ?_;rw[zJ];exact G b _ u T C O J Q
def qAq{cs:List Kw}{off j m:Nat}{x:List Kw}(h:(cs.drop off).take m=x):(cs.drop (off+j)).take (m-j)=x.drop j:=by rw[<- h,drop_take,xF]
def jG (b:Bk) (m:Nat):Bk:={ b with gn:=m }
def tQ.jG{b:Bk}{m:Nat}(h:tQ b):tQ (jG b m):=⟨h.fit,h.E2,h.due,h.has,h.mE,h.mH⟩
def qx7{b:Bk}{m:Nat}{a:HL fV}{s n:Int}:jB (jG b m) a s n=jG (jB b a s n) m:=by unfold jB;split<;>rfl
def qB4{b:Bk}{m:Nat}{d:HL jb}{n:Int}:mh (jG b m) d n=jG (mh b d n) m:=by
 have h:∀p,fJ (jG b m) p n=jG (fJ b p n) m:=λp=>by unfold fJ;rw[show ((jG b m).dZ p.1).dZ p.2.1=jG ((b.dZ p.1).dZ p.2.1) m from rfl,qx7,qx7]
 show ((fJ (jG b m) _ n).gj _).kc d=_;rw[h];rfl
def qto{m:Nat}:∀ {l:List (HL jb)} {b:Bk} {n:Int},iF (jG b m) l n=jG (iF b l n) m
 | [],_,_=>rfl
 | d::r,b,n=>by rw[iF,qB4,qto];rfl
abbrev uU:Kx:=36
abbrev Ct:Kx:=115
def CT(x:gJ×Int):(pM x).length=3:=rfl
def FY(x:gJ×Int):∀u∈pM x,u.oneCell'=true:=all_eq_true.1 rfl
def qxS:∃i,prog.info? Ct=some i/\i.zero=some (.agg #[.w 0,.w 0,.w 0])/\i.size=3/\i.bytes=24:=uN oL
def rg (r:oq) (s:Sl):oq:=(r.1,r.2.1,r.2.2.1,r.2.2.2.1,r.2.2.2.2.1,r.2.2.2.2.2.1,r.2.2.2.2.2.2.1,r.2.2.2.2.2.2.2.1,r.2.2.2.2.2.2.2.2.1,s)
section
variable {S:KD} {W w:Kv} {r:oq} {b:Bk} {s:Sl} {l:List (HL jb)} {i r1 r3:Nat} {X:Int->WP}
def qCN{G:Sl}{C:Nat}{R:Kx}{g:List (gJ×Int)}{B:KD}{x:gJ×Int}(h1:W.heap[r1]?=some (JR fv r uU))(h:RB S W r b)(ac:r1∈S)(hS:∀x∈S,x<W.heap.size)(fa:Fr [] W w)(bs:fB pM 3 w G g B)(hB:∀x∈B,W.heap.size<=x)(hg:g.length<=b.gn)(ax:b.gn<=99000)(ad:w.heap[C]?=some (.c (pM x).toArray R))(hl:eE jk 4 [r1] W s l)(hi:i<l.length)(hb:b.size<=100000)(kk:∀r' w',RB S w' r' (jG (b.kc l[i]) (b.gn+1))->w'.heap[r1]?=some (JR fv r' uU)->Fr [r1] W w'->X (wrap .i64 ((i:Int)+1)) w'):Cq G C w r1 s i X:=by
 unfold Cq;obtain⟨j,hj,hz,ae,af⟩:=qxS;have ag:eE pM 3 [] w ⟨pW C,1,1⟩ [x]:=⟨rfl,zM _,.inr ⟨C,0,_,R,_,rfl,ad,(λh=>nomatch h),λi y hy=>by obtain⟨hi,rfl⟩:=zP.1 hy;have:i=0:=(oQ hi);subst this;rfl⟩⟩;refine fB.j2 (s:=G) (l:=g) (ys:=[x]) (B:=B) bs CT (e:=Ct) oL hj hz ae rfl (wF (e':=Ct) ag CT FY oL) rfl (by show (g.length+1)*j.bytes<=_;rw[af];omega) (by show g.length+1<=_;omega) λU B5 w5 b5 f5 n5 _=>?_;have I:Fr [] W w5:=fa.j8 f5 λx u=>.inr (hB x u);have V:∀x∈B5,W.heap.size<=x:=λx u=>(n5 x u).elim (hB x) (zL fa.size);have l1:=fl h1;have ah:w5.heap[r1]?=some (JR fv r uU):=(by rw[I.block r1 l1 λh=>nomatch h];exact h1);refine tY ah (HL.mk fv (rg r U)).toArray rfl rfl (zO rfl) λQ J f6=>?_;have O:Fr [r1] W Q:=(I.mono λ_ h _=>nomatch h).trans f6;have aa:∀ {x},x∈[r1]->x∈S:=λh=>by rw[zE.1 h];exact ac
 have E:=(h.q8 I).j0 (f6.mono λx u _=>aa u) λx u=>.inl u;have b6:fB pM 3 Q U (g++[x]) B5:=b5.j0 f6 λx u h=>by
  have:=V x u;have:=zE.1 h;omega
 have h6:RB S Q (rg r U) (jG b (b.gn+1)):=⟨E.acc,E.jA,E.ki,E.due,E.mE,E.mH,E.iJ,E.told,g++[x],by rw[zF,xO];exact Nat.succ_le_succ hg,Ad b6 CT hS V⟩;have g6:=(Fr.refl [] Q).drew;refine vL (w:=Q.drew) J (rg r U) rfl<|eE.p6 (x:=l[i]) (y:=l[i]) (w:=Q.drew) ((hl.j0 O λx u=>.inl u).q8 g6) i rfl (zA hi) rfl rfl<|qoo (h6.q8 g6) hb (λx u=>yE (hS x u) O.size) λr7 w7 t h7 f7=>?_;have aj:w7.heap[r1]?=some (JR fv (rg r U) uU):=(by rw[(g6.trans f7).block r1 (fl J) λh=>nomatch h];exact J);exact tY aj (HL.mk fv r7).toArray (iK rfl) rfl (zM _) λw8 ak f8=>kk r7 w8 (h7.j0 (f8.mono λx u _=>aa u) λx u=>.inl u) ak ((O.trans ((g6.trans f7).mono λ_ h _=>nomatch h)).trans f8)
def GZ{n:Int}{t:HL iU}{q:Pa}{ab ac aj:Nat}{au o3:Obj}(o:ed [r3,r1] W w [(ab,.c (lf qV).toArray rB),(ac,JR iU t zn),(aj,au),(r3,o3),(r1,JR fv r uU)])(h:RB (r3::r1::S) W r b)(hS:∀x∈r3::r1::S,x<W.heap.size)(hl:eE jk 4 [r3,r1] W s l)(hi:i<l.length)(hb:b.size+5<=100000)(R:b.gn<=99000)(f1:eK fV q.1)(f2:eK fV q.2.1)(en:wrap .u64 (first+wrap .u64 (i:Int))=n)(kk:∀r' w',RB (r3::r1::S) w' r' (jG (((fJ b q n).gj (gP t,4)).kc l[i]) (b.gn+1))->w'.heap[r1]?=some (JR fv r' uU)->w'.heap[r3]?=some o3->Fr [r3,r1] W w'->X (wrap .i64 ((i:Int)+1)) w'):Di first (lf q,true) ab w r1 i ac s X:=by
 unfold Di;rw[en];have ak:∀ {w w':Kv},Fr [r1] w w'->Fr (r3::r1::S) w w':=λf=>f.mono λx u _=>by rw[zE.1 u];simp
 have al:∀ {w w':Kv},Fr [r3,r1] w w'->Fr (r3::r1::S) w w':=λf=>f.mono λx u _=>by simp only[zG,xZ,or_false] at u;rcases u with rfl|rfl<;>simp
 have up:∀ {w':Kv},W.heap.size<=w'.heap.size->∀x∈r3::r1::S,x<w'.heap.size:=λz x u=>yE (hS x u) z;refine mI (sE q) (o.st' 0 rfl _ (iK rfl) rfl (zM _) λw2 o _=>KC o 4 rfl r (ou (o.at (i:=0) rfl) _ (sE q) rfl ?_));have z:=HN (b:=b) (p:=q) (n:=n);refine qy8 (h.j0 (al o.fr) λx u=>.inl u) oK (up o.fr.size) f1 f2 λax w3 h3 f3=>(o.q8 f3).st' 4 rfl _ (iK rfl) rfl (zM _) λw4 o f4=>KC o 4 rfl ax (KC o 1 rfl (gP t) ?_);have h4:=h3.j0 (ak f4) λx u=>.inl u;refine qoq h4 oK (up o.fr.size) λr5 w5 h5 f5=>(o.q8 f5).st' 4 rfl _ (iK rfl) rfl (zM _) λw6 o f6=>?_;have h6:=h5.j0 (ak f6) λx u=>.inl u;have am:((fJ b q n).gj (gP t,4)).gn=b.gn:=(by show (fJ b q n).gn=b.gn;unfold fJ jB;split<;>split<;>rfl);have z2:((fJ b q n).gj (gP t,4)).size<=(fJ b q n).size+1:=by
  have:=ui (kf:=λx:gJ×Int=>x.1) (a:=(gP t,4)) (l:=(fJ b q n).ki);unfold Bk.size Bk.gj;dsimp only;omega
 have kk:∀r' w',RB (r3::r1::S) w' r' (jG (((fJ b q n).gj (gP t,4)).kc l[i]) (((fJ b q n).gj (gP t,4)).gn+1))->w'.heap[r1]?=some (JR fv r' uU)->w'.heap[r3]?=some o3->Fr [r3,r1] W w'->X (wrap .i64 ((i:Int)+1)) w':=(by rw[am];exact kk);have R:((fJ b q n).gj (gP t,4)).gn<=99000:=(by rw[am];exact R);have an:((fJ b q n).gj (gP t,4)).size<=100000:=oK;generalize (fJ b q n).gj (gP t,4)=b6 at h6 kk R an;obtain⟨g,hg,hG⟩:=h6.gone;obtain⟨j,hj,hz,ae,af⟩:=qxS;have aD:eE jk 4 [r1] w6 s l:=eE.j6 (hl.j0 o.fr λx u=>.inl u) λx u=>.inl (by rw[zE.1 u];simp);have e1:=o.at (i:=4) rfl;have O:=(Fr.refl [] w6).drew;have z6:=o.fr.size;have ag:g.length<=1000000:=oK;have e3:=o.at (i:=3) rfl;have aE:r3≠r1:=λe=>by have hn:[ab,ac,aj,r3,r1].Nodup:=o.nodup;exact (nodup_cons.1 (nodup_cons.1 (nodup_cons.1 (nodup_cons.1 hn).2).2).2).1 (by rw[e];exact zE.2 rfl)
 have ah:∀ {ao:Sl} {E:Nat} {B:KD} {w9:Kv} {aF:Kx},Fr [] w6 w9->fB pM 3 w9 ao g B->(∀x∈B,w6.heap.size<=x)->w9.heap[E]?=some (.c (pM (gP t,n)).toArray aF)->Cq ao E w9 r1 s i X:=λfa bs hB aG=>
  qCN e1 h6 oM (up z6) fa bs hB hg R aG aD hi an λr' w' h' aH f'=>kk r' w' h' aH (by rw[f'.block r3 (fl e3) λhm=>aE (zE.1 hm)];exact e3) (o.fr.trans (f'.mono λx u _=>by rw[zE.1 u];simp))
 have U:=o.drew;refine⟨?_,?_,?_⟩;refine KA U 4 rfl r5.2.2.2.2.2.2.2.2.2 (KC U 1 rfl (gP t) (oB U λG w7 e7 C I=>kH (I.cells 2) (I.cell 5) ?_));refine yg (e:=Ct) (I.at (i:=0) rfl) (hG.q8 (O.trans C)) CT FY oL hj hz ae rfl (by rw[af];decide) ag λs8 B8 w8 b8 Q n8=>?_;have aI:G=w6.heap.size:=e7;have J:=qvs I Q;refine ja (J.cells 1) (oB J λE w9 e9 V o9=>ja (o9.cell 5) ?_);exact ah (((O.trans C).j8 Q λx u=>.inr (by rw[zE.1 u];omega)).trans V) (b8.q8 V) (λx u=>(n8 x u).elim (λe=>oK) (zL (O.trans C).size)) (o9.at (i:=0) rfl);refine KA U 4 rfl r5.2.2.2.2.2.2.2.2.2 (KC U 1 rfl (gP t) (oB U λG w7 e7 C I=>kH (I.cells 2) (I.cell 5) ?_));refine oB I λE w8 e8 Q J=>ja (J.cell 6)<|yg (e:=Ct) (J.at (i:=1) rfl) (hG.q8 ((O.trans C).trans Q)) CT FY oL hj hz ae rfl (by rw[af];decide) ag λs9 B9 w9 b9 V n9=>?_;have aI:G=w6.heap.size:=e7;have o9:=qzR J V;exact ja (o9.cells 2) (ah (((O.trans C).trans Q).j8 V λx u=>.inr (by rw[zE.1 u];omega)) b9 (λx u=>(n9 x u).elim (λe=>oK) (zL ((O.trans C).trans Q).size)) (o9.at (i:=0) rfl));refine KA U 4 rfl r5.2.2.2.2.2.2.2.2.2 (KC U 1 rfl (gP t) (oB U λE w7 e7 C I=>ja (I.cell 5) ?_));refine oB I λG w8 e8 Q J=>kH (J.cells 3) (J.cell 6)<|yg (e:=Ct) (J.at (i:=0) rfl) (hG.q8 ((O.trans C).trans Q)) CT FY oL hj hz ae rfl (by rw[af];decide) ag λs9 B9 w9 b9 V n9=>?_;have ap:w6.heap.size<=G:=(by rw[e8];exact (O.trans C).size);have o9:=qvs J V;exact ja (o9.cells 2) (ah (((O.trans C).trans Q).j8 V λx u=>.inr (by rw[zE.1 u];exact ap)) b9 (λx u=>(n9 x u).elim (λe=>by rw[e];exact ap) (zL ((O.trans C).trans Q).size)) (o9.at (i:=0) rfl))
def qCc{n:Int}{k:Kp}{q:Pa}{I:Nat}{o3:Obj}(o:ed [r3,r1] W w [(I,.c (qB vR).toArray Ab),(r3,o3),(r1,JR fv r uU)])(h:RB (r3::r1::S) W r b)(hS:∀x∈r3::r1::S,x<W.heap.size)(hl:eE jk 4 [r3,r1] W s l)(hi:i<l.length)(hb:b.size+5<=100000)(E:b.gn<=99000)(Q:eK iU k.1)(R:eK fV (lh b (gK k.1) (gL k.1)).1)(f2:eK fV (lh b (gK k.1) (gL k.1)).2.1)(U:gR k.1 (lh b (gK k.1) (gL k.1))=some q)(en:wrap .u64 (first+wrap .u64 (i:Int))=n)(kk:∀r' w',RB (r3::r1::S) w' r' (jG (((fJ b q n).gj (gP k.1,4)).kc l[i]) (b.gn+1))->w'.heap[r1]?=some (JR fv r' uU)->w'.heap[r3]?=some o3->Fr [r3,r1] W w'->X (wrap .i64 ((i:Int)+1)) w'):Fi first (qB k,true) I w r1 i s X:=by
 unfold Fi;have hz:=Aj;have u:=DL Q R f2 U;have J:∀ {w w':Kv},Fr [r3,r1] w w'->Fr (r3::r1::S) w w':=λf=>f.mono λx V _=>by simp only[zG,xZ,or_false] at V;rcases V with rfl|rfl<;>simp
 refine mI (po k) (o.st' 0 rfl _ (iK rfl) rfl (zM _) λw2 o _=>KC o 0 rfl k.1 (oB o λak w3 _ f3 o=>o.st' 0 rfl _ (iK rfl) rfl (zM _) λw4 o _=>?_));have o:=o.drew;have hR:∀ {w'},Fr [r3,r1] W w'->RB (r3::r1::S) w' r b:=λf=>h.j0 (J f) λx V=>.inl V;have G:b.size<=100000:=oK;refine⟨KC o 0 rfl k.1 (KC o 3 rfl r (KC o 0 rfl (gK k.1) (KC o 0 rfl (gL k.1) (CM (i:=gK k.1) (j:=gL k.1) (hR o.fr) G λw7 C=>ja ((o.q8 C).cells 0) (G8 (am:=(0,0)) Q R f2 U λw8 O=>oJ ((o.q8 C).q8 O) hz λr9 w9 _ o=>HC (o.cells 1) (o.cells 1) (o.cells 4) (o.cells 1) ?_))))),
  KC o 0 rfl k.1 (KC o 3 rfl r (KC o 0 rfl (gK k.1) (KC o 0 rfl (gL k.1) (CM (i:=gK k.1) (j:=gL k.1) (hR o.fr) G λw7 C=>ja ((o.q8 C).cells 0) (oJ (o.q8 C) hz λr9 w9 _ o=>HC (o.cells 1) (o.cells 1) (o.cells 4) (o.cells 1) (G8 (am:=(0,0)) Q R f2 U λw8 O=>?_)))))),
  KC o 0 rfl k.1 (KC o 3 rfl r (KC o 0 rfl (gK k.1) (KC o 0 rfl (gL k.1) (oJ o hz λr9 w9 _ o=>HC (o.cells 1) (o.cells 1) (o.cells 4) (o.cells 1) (CM (i:=gK k.1) (j:=gL k.1) (hR o.fr) G λw7 C=>ja ((o.q8 C).cells 1) (G8 (am:=(0,0)) Q R f2 U λw8 O=>?_))))))⟩
 exact GZ o h hS hl hi hb E u.1 u.2 en kk;exact GZ (o.q8 O) h hS hl hi hb E u.1 u.2 en kk;exact GZ ((o.q8 C).q8 O) h hS hl hi hb E u.1 u.2 en kk
end
def qqE{r:oq}{b:Bk}{most:Int}{K:oq×Int->WP}(h:RB S w r b)(hS:∀x∈S,x<w.heap.size)(R:tQ b)(hn:IntKind.u64.has first)(hm:b.many<=90000)(aW:b.gn+b.due.length<=90000)(kk:∀r' w',RB S w' r' (jG (iF b (jL b.due first most) first) (b.gn+(jL b.due first most).length))->Fr [] w w'->K (r',((jL b.due first most).length:Int)) w'): cW 16 [JS fv r,.w first,.i most] [.agg fv,.one .i] w K:=by
 refine qhZ ?_;have ad:=xg;have ar:=Ii (l:=b.due) (J0:=first) (most:=most);have ae:=EW (l:=b.due) (J0:=first) (most:=most);have hu:=pV hn;have U:b.size<=b.many:=Nat.le_add_right _ _;refine oB (oF [] w) λr1 w1 e1 f1 o=>oB o λr3 w2 e2 f2 o=>KC o 1 rfl r ?_;have aY:r1<w2.heap.size:=fl (o.at (i:=1) rfl);have aZ:r3<w2.heap.size:=fl (o.at (i:=0) rfl);have n1:w.heap.size<=r1:=oK;have n3:w.heap.size<=r3:=(by have:=f1.size;omega);refine qAD (h.q8 o.fr) oK λs B w3 hB f3 nB=>?_;have o:=o.q8 f3;generalize jL b.due first most=l at kk hB ar ae;have av:s.len=l.length:=hB.len;have aw:eE jk 4 [r3,r1] w3 s l:=hB.k5 DF λx u hF=>by
  have:=nB x u;simp only[zG,xZ,or_false] at hF;omega
 have ax:∀ {w':Kv},w3.heap.size<=w'.heap.size->∀x∈r3::r1::S,x<w'.heap.size:=λz x u=>by
  have:=f3.size;rcases zG.1 u with rfl|u;omega;rcases zG.1 u with rfl|u;omega;have:=hS x u;have:=f1.size;have:=f2.size;omega
 have h3:RB (r3::r1::S) w3 r b:=h.j0 (o.fr.mono λ_ h _=>nomatch h) λx u=>by rcases zG.1 u with rfl|u;exact .inr n3;rcases zG.1 u with rfl|u;exact .inr n1;exact .inl u
 generalize ay:(Obj.cells #[Value.slice none 0 0,Value.slice none 0 0,Value.slice none 0 0,Value.slice none 0 0,Value.slice none 0 0,Value.slice none 0 0,Value.slice none 0 0,Value.int IntKind.u64 0,Value.bool false,Value.slice none 0 0] uU (0,0))=o3 at o;have e0:(first+((0:Nat):Int))%18446744073709551616=first:=by omega
 refine kz (λx W=>∃i:Nat,∃ri B,x=i/\i<=l.length/\RB (r3::r1::S) W ri B/\ed [] w W [(r3,o3),(r1,JR fv ri uU)]/\w3.heap.size<=W.heap.size/\eE jk 4 [r3,r1] W s l/\tQ B/\(l.drop i).Sublist B.due/\B.many<=b.many/\B.gn=b.gn+i/\jG (iF B (l.drop i) ((first+i)%18446744073709551616)) 0=jG (iF b l first) 0) (λx _=>l.length-x.toNat) ⟨0,r,b,rfl,yY _,h3,o,zM _,aw,R,ae,zM _,rfl,by rw[e0];rfl⟩ ?_;rintro x W ⟨i,ri,B,rfl,hi,hR,o,zW,hl,R,E,az,aA,hp⟩ X hX;apply eV<;>intro V
 ·have C:i<l.length:=(by have:=zC V;omega);have aB:=zY C;rw[aB] at E hp;have J:l[i]∈B.due:=E.subset JZ;obtain⟨k,q,hk,hq⟩:=(R.x5 J).ok;obtain⟨k',_,_,ag,ah,_⟩:=R.has _ J;rw[hk] at ag;cases ag;have hA:∀j,eK fV ((eX B j).getD lC):=λj=>by
   cases u:eX B j with
   | none=>exact BQ
   | some a=>exact R.fit a (uk u).1
  have a6:B.size<=B.many:=Nat.le_add_right _ _;have en:wrap .u64 (first+wrap .u64 (i:Int))=(first+i)%18446744073709551616:=(by rw[rQ (i:Int) ⟨oK,oK⟩];unfold wrap;have:(IntKind.u64.signed)=false:=rfl;simp only[this,Bool.false_and,Bool.false_eq_true,if_false];rfl);have aD:=qrg (n:=(first+i)%18446744073709551616) J;have ai:∀r' w',RB (r3::r1::S) w' r' (jG (((fJ B q ((first+i)%18446744073709551616)).gj (gP k.1,4)).kc l[i]) (B.gn+1))->w'.heap[r1]?=some (JR fv r' uU)->w'.heap[r3]?=some o3->Fr [r3,r1] W w'->X (wrap .i64 ((i:Int)+1)) w':=λr' w' O aE aF f'=>by have eo:mh B l[i] ((first+i)%18446744073709551616)=((fJ B q ((first+i)%18446744073709551616)).gj (gP k.1,4)).kc l[i]:=(by unfold mh;rw[hk];simp only[xX];rw[hq];rfl);rw[<- eo] at O;rw[gu _ oK];have aH:((first+(i:Int))%18446744073709551616+1)%18446744073709551616=(first+((i+1:Nat):Int))%18446744073709551616:=oK;refine hX _ _ ⟨i+1,r',_,rfl,C,O,qzS o f' aF aE,zL zW f'.size,hl.j0 f' λx u=>.inl u,(R.one J).jG,?_,?_,?_,?_⟩ oK;show (l.drop (i+1)).Sublist (mh B l[i] _).due;rw[(DM (b:=B) (d:=l[i])).2.2.1];exact R.due.rest E;exact zL aD.1 az;show B.gn+1=_;omega;rw[qto,<- hp,iF,aH];rfl
  have aj:=ax zW;have o:=o.mQ.drew;have O:RB (r3::r1::S) W.drew ri B:=hR.q8 (Fr.refl [] W).drew;have aT:=E.length_le;have Q:B.gn<=99000:=oK;have ak:B.size+5<=100000:=oK;have u:=zA C;have al:=hA (gK k.1);have am:=hA (gL k.1);have U:B.size<=100000:=oK;refine⟨?_,?_⟩;refine KC o 1 rfl ri (qyr hl i rfl u λc aa cs T fr hb ab V=>?_);have G:(cs.toList.drop (aa+2)).take 2=HL.mk u2 (qu l[i]):=(qAq (j:=2) V).trans rfl;refine vL (w:=W.drew) hb (qu l[i]) G (quN O U λw7 f7=>?_);rw[show iG B ((qu l[i]).1,(qu l[i]).2)=some k from hk];exact oJ (o.q8 f7) ad λaJ w8 _ I=>kH (vP (I.nt hb ab) _ _ 0 G) (I.cells 2) (qCc I hR aj hl C ak Q ah.1 al am hq en ai);refine KC o 1 rfl ri (qyr hl i rfl u λc aa cs T fr hb ab V=>?_);have G:(cs.toList.drop (aa+2)).take 2=HL.mk u2 (qu l[i]):=(qAq (j:=2) V).trans rfl;refine vL (w:=W.drew) hb (qu l[i]) G (oJ o ad λaJ w8 _ I=>kH (vP (I.nt hb ab) _ _ 0 G) (I.cells 2) ?_);refine quN (hR.j0 (I.fr.mono λx u _=>by have u:x∈[r3,r1]:=u;simp only[zG,xZ,or_false] at u;rcases u with rfl|rfl<;>simp) λx u=>.inl u) U λw9 f9=>?_;rw[show iG B ((qu l[i]).1,(qu l[i]).2)=some k from hk];exact qCc (I.q8 f9) hR aj hl C ak Q ah.1 al am hq en ai
 ·have C:i=l.length:=(by have:=zB V;omega);subst C;rw[drop_length,iF] at hp;have eB:B=jG (iF b l first) (b.gn+l.length):=(by have:B=jG (jG B 0) B.gn:=rfl;rw[this,hp,aA];rfl);rw[av];refine KC o 1 rfl ri ?_;subst ay;refine o.st' 0 rfl _ (iK rfl) rfl (zM _) λw8 I f8=>KC I 0 rfl ri ?_;rw[eB] at hR;exact kk ri w8 (hR.j0 (f8.mono λx u _=>by rw[zE.1 u];simp) λx u=>.inl (by simp[u])) I.fr
end
section
open Go Go.Pt List
open Go.IntKind (wrap)
open Classical
variable {K:Bool->Prop}
def qB3{P:Ky}{t:Kx}{x y:Operand}{cs ds:Array Kw}{w:Kv}(d:Nat)(G:d<=10000)(r:Bool)(h:v7 P d t (.agg cs) (.agg ds)=some r)(C:P.eqGuardType P.depth t=false)(k:K (!r)): fM [i3.one Cell.bool] (λw'=>(do eqGuard .neq t x y (.agg cs) (.agg ds);binOp .neq t (.agg cs) (.agg ds):Sem Kw).run P w') w K:=by have u:=FF d t _ _ r h (10000-d) w;rw[show d+(10000-d)=10000 by omega] at u;have E:(binOp .neq t (.agg cs) (.agg ds)).run P w=.ok (.bool (!r)) w:=vw (P:=P) true u oM oM oM oM;refine tP (ts:=[i3.one Cell.bool]) (!r) ?_ k;show ((do eqGuard .neq t x y (.agg cs) (.agg ds);binOp .neq t (.agg cs) (.agg ds):Sem Kw).run P w)=Result.ok (Value.bool (!r)) w;simp[eqGuard,C,E]
attribute [local irreducible] ld dT iH pK ku fw st new idx kZ kM gb kV ke nz ig nn call eF inv run fM i9 join loop held ext kJ ft pw pQ pT IntKind.wrap
def qCK{a b:gJ}{x y:Operand}{w:Kv}(k:K (!decide (a=b))): fM [i3.one Cell.bool] (λw'=>(do eqGuard .neq pf x y (dk a.1 a.2) (dk b.1 b.2);binOp .neq pf (dk a.1 a.2) (dk b.1 b.2):Sem Kw).run prog w') w K:=by have e:v7 prog 2 pf (dk a.1 a.2) (dk b.1 b.2)=some (bif a.1==b.1 then (bif a.2==b.2 then true else false) else false):=oL;have h:(bif a.1==b.1 then (bif a.2==b.2 then true else false) else false)=decide (a=b):=(by obtain⟨u,C⟩:=a;obtain⟨E,G⟩:=b;dsimp only;by_cases h0:u=E;by_cases h1:C=G;simp[h0,h1];simp[h0,h1];simp[h0]);rw[h] at e;exact qB3 2 oN _ e oL k
end
section
open Go Go.Pt List
open Go.IntKind (wrap)
open Classical
attribute [local irreducible] ld dT iH pK ku fw st new idx kZ kM gb kV ke nz ig nn call eF inv run fM i9 join loop held ext kJ ft pw pQ pT IntKind.wrap
variable {K:KV->WP} {w:Kv}
def qya{n:Nat}(Y:KD)(h:∀b∈Y,b<w.heap.size)(J:HG∉Y)(O:Hv w)(C:8<=n)(E:n<=4096)(Q:∀sb pb dbk FD F D w',tp w' Y sb dbk pb FD F D (oU n) ((n-2)-gW (n-2)) (λ_=>([],[]))->Made D n->Fr [] w w'->(∀b∈sb::(FD++F),w.heap.size<=b)->K (pW sb,pW pb) w'): cW 18 [.i n] dM w K:=by exact qih<|qx9 (n:=n) Y h J O C E λdbk pb FD F D w1 u R G U=>JU rfl<|qtI<|oB (oF [] w1) λr w2 V I o=>Q r pb dbk FD F D w2 ⟨u.q8 I,t9.made C E u.wf,o.at (i:=0) rfl,λhm=>by have:=u.x7.lt r hm;omega⟩ R (G.trans I) λb hb=>(zG.1 hb).elim (λe=>by rw[e,V];exact G.size) (U b)
def qwl{a0 a1:Sl}{K:Bool->WP}(u:∀w',Fr [] w w'->K (decide ((a0.len:Int)>8)||decide ((a1.len:Int)>25)) w'):cW 7 [.agg #[a0.v,a1.v]] dr w K:=by
 refine qf6<|oB (oF [] w) λr w1 _ C o=>KA o 0 rfl a0 (eV (λh=>?_) λh=>?_)
 have:=u w1 C;rwa[h] at this;have:=u w1 C;rw[h,Bool.false_or] at this;exact KA o 0 rfl a1 this
structure oZ (w0 W:Kv) (Y:KD) (L:KK) (sb:Nat) (F:KD) (c:Nat) (bs br:Bk) (ri:oq):Prop where
 own:ed (fY L) W W L
 sB:SB W (fY L++Y) sb F c bs
 rb:RB (fY L++F) W ri br
 fr:Fr [] w0 W
 nL:∀ x∈fY L,w0.heap.size<=x
 nF:∀ x∈F,w0.heap.size<=x
 ns:w0.heap.size<=sb/\sb∉fY L
section
variable {w0 W w':Kv} {Y F F':KD} {L L':KK} {sb c:Nat} {bs br bs' br':Bk} {ri r':oq}
def oZ.lt(h:oZ w0 W Y L sb F c bs br ri):∀x∈fY L++F,x<W.heap.size:=λx u=>(zD.1 u).elim (AJ h.own x) (h.sB.flt x)
def oZ.J0(h:oZ w0 W Y L sb F c bs br ri)(o:ed (fY L) W w' L'):oZ w0 w' Y L' sb F c bs br ri where
 own:=o.mQ
 sB:=h.sB.Jh h.ns.2 o
 rb:=h.rb.j0 (o.fr.mono λx u _=>zH _ u) λx u=>(zD.1 u).elim (λu=>by obtain⟨p,C,rfl⟩:=mem_map.1 u;exact (o.own p C).imp (zH _) id) λu=>.inl (zI _ u)
 fr:=h.fr.j8 o.fr λx u=>.inr (h.nL x u)
 nL:=λx u=>by obtain⟨p,C,rfl⟩:=mem_map.1 u;exact (o.own p C).elim (h.nL _) (zL h.fr.size)
 nF:=h.nF
 ns:=⟨h.ns.1,λu=>by
  obtain⟨p,C,e⟩:=mem_map.1 u;rcases o.own p C with E|E;exact h.ns.2 (by rw[<- e];exact E);have:=h.sB.lt;omega⟩
def oZ.sub(h:oZ w0 W Y L sb F c bs br ri)(u:L'.Sublist L):oZ w0 W Y L' sb F c bs br ri where
 own:=(h.own.sub u).mQ
 sB:=h.sB.y5 λb C=>(zD.1 C).elim (λC=>zH _ ((u.map _).subset C)) (zI _)
 rb:=h.rb.j0 (.refl _ _) λx E=>.inl ((zD.1 E).elim (λC=>zH _ ((u.map _).subset C)) (zI _))
 fr:=h.fr
 nL:=λx E=>h.nL x ((u.map _).subset E)
 nF:=h.nF
 ns:=⟨h.ns.1,λE=>h.ns.2 ((u.map _).subset E)⟩
def oZ.qd(h:oZ w0 W Y L sb F c bs br ri)(f:Fr [] W w')(u:RB (fY L++F) w' r' br'):oZ w0 w' Y L sb F c bs br' r':=
 ⟨(h.own.q8 f).mQ,h.sB.q8 f,u,h.fr.trans f,h.nL,h.nF,h.ns⟩
def oZ.q8(h:oZ w0 W Y L sb F c bs br ri)(f:Fr [] W w'):oZ w0 w' Y L sb F c bs br ri:=h.qd f (h.rb.q8 f)
def oZ.qC(h:oZ w0 W Y L sb F c bs br ri)(C:SB w' (fY L++Y) sb F' c bs')(s:qf F W F' w'):oZ w0 w' Y L sb F' c bs' br ri where
 own:=h.sB.own h.own s
 sB:=C
 rb:=h.rb.j0 (s.fr.mono λx u _=>zI _ u) λx u=>(zD.1 u).elim (λu=>.inl (zH _ u)) λu=>(s.new x u).imp (zI _) id
 fr:=h.fr.j8 s.fr λx u=>.inr (h.nF x u)
 nL:=h.nL
 nF:=λx u=>(s.new x u).elim (h.nF x) (zL h.fr.size)
 ns:=h.ns
end
abbrev xp:oq:=(dR,dR,dR,dR,dR,dR,dR,0,false,dR)
def IL:Bk:=⟨[],[],[],[],[],[],[],none,0⟩
def qCa(S:KD)(w:Kv):RB S w xp IL:=⟨.nil _ _ _ _,.nil _ _ _ _,.nil _ _ _ _,.nil _ _ _ _,.nil _ _ _ _,.nil _ _ _ _,.nil _ _ _ _,⟨rfl,rfl⟩,[],zM _,.nil _ _ _ _⟩
def oZ.start{w0 w':Kv}{Y:KD}{L:KK}{sb dbk pb c:Nat}{FD F:KD}{D:dV}{M:eZ}(o:ed [] w0 w L)(h:tp w' (fY L++Y) sb dbk pb FD F D M c λ_=>([],[]))(E:c<=100000)(f:Fr [] w w')(u:∀b∈sb::(FD++F),w.heap.size<=b):oZ w0 w' Y L sb F c IL IL xp where
 own:=(o.q8 f).mQ
 sB:=⟨pb,dbk,FD,D,M,_,h,qBI,E⟩
 rb:=qCa _ _
 fr:=o.fr.trans f
 nL:=λx C=>by obtain⟨p,G,rfl⟩:=mem_map.1 C;exact (o.own p G).elim (λh=>nomatch h) id
 nF:=λx C=>zL o.fr.size (u x (by simp[C]))
 ns:=⟨zL o.fr.size (u sb oM),λI=>by have:=AJ o sb I;have:=u sb oM;omega⟩
def quw{b:Bk}{k:Kp}:(b.gF k).size<=b.size+3:=by have h:=ui (kf:=pZ) (a:=k) (l:=b.jA);have u:=ui (kf:=qw) (a:=zm k.1) (l:=b.mE);have C:=ui (kf:=qw) (a:=Cl k.1) (l:=b.mH);unfold Bk.gF Bk.mT Bk.px Bk.rm Bk.size;dsimp only;omega
def quv{b:Bk}{x:gJ×Int}:(b.gj x).size<=b.size+1:=by
 have:=ui (kf:=λx:gJ×Int=>x.1) (a:=x) (l:=b.ki);unfold Bk.gj Bk.size;dsimp only;omega
def qAQ{α:Type}{enc:α->List Kw}{k:Nat}{s:Sl}{l:List α}{B:KD}(u:∀x,(enc x).length=k)(h:fB enc k w s l B){hi:Int}(n:Nat){K:Sl->Prop}(E:hi=n)(G:n<=l.length)(J:∀O,fB enc k w O (l.take n) B->K O):gb s none (some hi) none k K:=by
 subst E;rcases h with ⟨rfl,rfl,rfl⟩|⟨b,o,R,T,rfl,rfl,U,V,h5,h6,h7,h8⟩;have:n=0:=(oQ G);subst this;exact Aw ⟨Int.le_refl _,Int.le_refl _⟩ (J _ (.inl ⟨rfl,rfl,rfl⟩))
 ·refine Aw ⟨oK,oK⟩ ?_;rw[zJ];have C:(l.take n).length=n:=(by rw[yM];exact xT G);refine J _ (.inr ⟨b,0,R,T,rfl,rfl,U,V,C.symm,by dsimp only;omega,h7,?_⟩);have I:n*k<=l.length*k:=Kk k G;have Q:=Kr (List.take (n*k)) h8;rw[take_take,xT I] at Q;rw[C,Q];conv=>lhs;rw[<- xG n l]
  rw[yR,JX (by rw[rR u,C];exact zM _)];exact zS (by rw[rR u,C];exact zM _)
abbrev nT:HL k6->List Kw:=HL.mk k6
def xm(x:HL k6):(nT x).length=10:=rfl
def Jy(x:HL k6):∀u∈nT x,u.oneCell'=true:=all_eq_true.1 rfl
def qBT:∃i,prog.info? Bt=some i/\i.zero=some (.agg (nT AQ).toArray)/\i.size=10/\i.bytes=80:=uN oL
def qy9{S:KD}{r:oq}{b:Bk}{i0 i1 frm to:Int}{down:Bool}{K:Sl->WP}(h:RB S w r b)(hl:b.size<=100000)(kk:∀s B w',fB nT 10 w' s (ko b.iJ (i0,i1) frm to down) B->Fr [] w w'->(∀x∈B,w.heap.size<=x)->K s w'): cW 48 [JS fv r,dk i0 i1,.w frm,.w to,.bool down] dp w K:=by
 refine qfK ?_;have aR:b.iJ.length<=100000:=(by unfold Bk.size at hl;omega);obtain⟨j,hj,hz,ac,ad⟩:=qBT;unfold ko at kk;refine oB (oF [] w) λr1 w1 _ f1 o=>oB o λr3 w2 _ f2 o=>oB (oF [] w2) λr5 w3 e3 f3 o2=>?_;have ay:=(h.q8 o.fr).iJ;have ext:∀n (hn:n<b.iJ.length),((b.iJ.take (n+1)).filter (mz (i0,i1) frm to)).foldl (λu x=>putAt (mg (ls x.2) down) x.2 u) []=if mz (i0,i1) frm to b.iJ[n] then putAt (mg (ls b.iJ[n].2) down) b.iJ[n].2 (((b.iJ.take n).filter (mz (i0,i1) frm to)).foldl (λu x=>putAt (mg (ls x.2) down) x.2 u) []) else ((b.iJ.take n).filter (mz (i0,i1) frm to)).foldl (λu x=>putAt (mg (ls x.2) down) x.2 u) []:=λn hn=>by rw[yH hn,xE,foldl_append];by_cases hc:mz (i0,i1) frm to b.iJ[n]=true;rw[iP hc,filter_cons,iP hc];rfl;rw[iN hc,filter_cons,iN hc];rfl
 have len:∀n,(((b.iJ.take n).filter (mz (i0,i1) frm to)).foldl (λu x=>putAt (mg (ls x.2) down) x.2 u) []).length<=n:=λn=>by
  have:∀(l:List Ln) (u:List (HL k6)),(l.foldl (λu x=>putAt (mg (ls x.2) down) x.2 u) u).length=u.length+l.length:=by
   intro l;induction l with
   | nil=>intro u;rfl
   | cons x l ih=>intro u;rw[foldl_cons,ih,EZ.length_eq,yJ,yJ];omega
  rw[this,xM,xU];exact zL (length_filter_le _ _) (by rw[yM];omega)
 refine kz (λt w'=>∃n:Nat,∃B,t.2=n/\n<=b.iJ.length/\fB nT 10 w' t.1 (((b.iJ.take n).filter (mz (i0,i1) frm to)).foldl (λu x=>putAt (mg (ls x.2) down) x.2 u) []) B/\Fr [] w2 w'/\∀x∈B,w2.heap.size<=x) (λt _=>b.iJ.length-t.2.toNat) ⟨0,[r5],rfl,yY _,fB.none (o2.at (i:=0) rfl),f3,λx C=>by rw[zE.1 C];omega⟩ ?_;rintro⟨s,q⟩ w5 ⟨n,B,hq,hn,E,f5,nB⟩ X hX;dsimp only at hq E⊢;subst hq;have o5:=o.q8 f5;have ak:eE nO 12 S w5 r.2.2.2.2.2.2.1 b.iJ:=ay.q8 f5;have aX:r.2.2.2.2.2.2.1.len=b.iJ.length:=ak.1;refine KA o5 1 rfl r.2.2.2.2.2.2.1 (eV (λhc=>?_) λhc=>?_)
 ·have J:n<b.iJ.length:=(by have:=zC hc;omega);have C:=zA J;have U:=ext n J;have aC:=len n;generalize b.iJ[n]=x at C U;generalize ((b.iJ.take n).filter (mz (i0,i1) frm to)).foldl (λu x=>putAt (mg (ls x.2) down) x.2 u) []=u at E U aC;refine jf (λs' w'=>∃B',fB nT 10 w' s' (((b.iJ.take (n+1)).filter (mz (i0,i1) frm to)).foldl (λu x=>putAt (mg (ls x.2) down) x.2 u) []) B'/\Fr [] w2 w'/\∀x∈B',w2.heap.size<=x) ?_ λs' w' ⟨B',b',f',n'⟩=>hX _ _ ⟨n+1,B',by dsimp only;rw[gu _ oK];rfl,J,b',f',n'⟩ (by dsimp only;rw[gu _ oK];omega);rw[U];clear U ext len;refine KA o5 1 rfl r.2.2.2.2.2.2.1 (eE.p6 (x:=x) (y:=(x.1.1,x.1.2,x.2)) ak n rfl C rfl rfl ?_);refine oB o5 λaZ w6 e6 f6 o6=>o6.st' 0 rfl _ (iK rfl) rfl (zM _) λw7 o7 f7=>?_;have O:Fr [] w5 w7:=f6.j8 f7 λx C=>.inr (by rw[zE.1 C];omega);refine KA o7 0 rfl (ls x.2)<|sI (!mz (i0,i1) frm to x) w7 (λM Q=>?_) ?_;refine KC o7 0 rfl x.1 (KC o7 1 rfl (i0,i1) (qCK (a:=x.1) (b:=(i0,i1)) ?_));unfold mz at Q;apply eV<;>intro E;rw[zU (λh=>by rw[yA h.1] at E;cases E)] at Q;exact Q;have h1:x.1=(i0,i1):=zC (oQ E);apply eV<;>intro E
  have:=zC E;rw[zU λh=>oK] at Q;exact Q;have:=zB E;rw[show decide (ls x.2>to) = !decide (x.1=(i0,i1)/\frm<=ls x.2/\ls x.2<=to) by rw[<- decide_not,decide_eq_decide];exact⟨λh1 h=>oK,λh=>by have:¬(ls x.2<=to):=λh2=>h ⟨h1,oK,h2⟩;omega⟩];exact Q;apply eV<;>intro V;rw[iN (by rw[zT,] at V;rw[V];decide)];exact⟨B,E.q8 O,f5.trans O,nB⟩;rw[iP (oQ V)];have b7:=E.q8 O;have ab:s.len=u.length:=E.len;refine kz (λq w'=>∃a:Nat,q=a/\a<=u.length/\w'=w7/\∀y∈u.drop a,mg (ls x.2) down y=true) (λq _=>q.toNat) ⟨u.length,by rw[ab],zM _,rfl,by rw[drop_length];exact λy h=>nomatch h⟩ ?_;rintro q w8 ⟨a,rfl,ha,rfl,hp⟩ Y hY;refine sI (if h:a=0 then false else mg (ls x.2) down (u[a-1]' oK)) w8 (λM Q=>?_) ?_;apply eV<;>intro E;have h0:a≠0:=λe=>by have:=zC E;omega
  rw[dif_neg h0] at Q;rw[gu _ oK];exact eE.xe (c:=.w) (j:=8) (b7.k5 xm (S:=[]) λ_ _ h=>nomatch h) (a-1) oK (zA oK) oN rfl<|Q;have h0:a=0:=(by have:=zB E;omega);rw[dif_pos h0] at Q;exact Q;apply eV<;>intro G
  ·split at G;cases G;next h0=>
   rw[gu _ oK];refine hY _ _ ⟨a-1,oK,oK,rfl,λy hy=>?_⟩ oK;rw[show u.drop (a-1)=u[a-1]' oK::u.drop a by rw[zY oK,show a-1+1=a by omega]] at hy;rcases zG.1 hy with rfl|hy;exact G;exact hp y hy
  have hA:putAt (mg (ls x.2) down) x.2 u=u.take a++x.2::u.drop a:=by
   conv=>lhs;rw[<- xG a u]
   refine qzX hp λA' z e=>?_;have hz:z=u[a-1]'(by
     have:=Kr List.length e;rw[yM,zF,xO] at this;omega):=by
    have hl:=Kr List.length e;rw[yM,zF,xO] at hl;have:=Kr (·[a-1]?) e;simp only[xC,List.getElem?_append] at this;rw[iP,iN,show a-1-A'.length=0 by omega,zA oK] at this;exact (yP this).symm
   have h0:a≠0:=λh=>by subst h;simp at e
   rw[dif_neg h0] at G;rw[hz];exact G
  rw[hA];have z7:=(f5.trans O).size;refine oB o7 λa7 w9 e9 f9 o9=>?_;have R9:eE nT 10 [] w9 s u:=(b7.q8 f9).k5 xm λ_ _ h=>nomatch h;refine eE.part R9 (lo:=some (a:Int)) (hi:=none) a u.length rfl (by rw[<- ab];rfl) ha (zM _) λbb _ am _=>?_;rw[vB] at am;refine yg (e:=Bt) (o9.at (i:=0) rfl) am xm Jy oL hj hz ac rfl (by rw[ad];decide) (by rw[yC];omega) λaF an wa aG fa aH=>?_;have ao:∀x∈an,w8.heap.size<=x:=λx C=>(aH x C).elim (λe=>by rw[e,e9];exact zM _) (zL f9.size);have I:Fr [] w8 wa:=f9.j8 fa λx C=>.inr (by rw[zE.1 C];omega);refine qAQ xm (b7.q8 I) a rfl ha λbd aI=>?_;have oa:=(o7.q8 I).drew;have ga:=(Fr.refl [] wa).drew;refine KC oa 0 rfl x.2 ?_;have lt:(u.take a).length=a:=(by rw[yM];exact xT ha);refine fB.push (e:=Bt) (x:=x.2) (aI.q8 ga) xm (Jy x.2) oL hj hz ac rfl rfl (by rw[ad,lt];omega) oK λbg bh wb aJ fb ap=>?_;have lB:∀x∈B,x<w8.heap.size:=λx C=>b7.lt x C;have R:fB nT 10 wb aF (u.drop a) an:=(aG.q8 ga).j0 fb λx C h=>by have:=ao x C;have:=lB x h;omega
  have ae:=R.len;rw[yC] at ae;refine fB.j2 aJ xm (e:=Bt) oL hj hz ac rfl (wF (e':=Bt) (R.k5 xm (S:=[]) λ_ _ h=>nomatch h) xm Jy oL) R.len ?_ ?_ λbk aK wc aq fc aL _=>⟨aK,?_,?_,?_⟩;rw[zF,lt,xO,ae,ad];omega;rw[zF,lt,xO,ae];omega;rw[zV] at aq;exact aq;exact (((f5.trans O).trans I).trans ga).j8 fb (λx C=>.inr (nB x C)) |>.j8 fc λx C=>.inr ((ap x C).elim (nB x) λh=>by have:=(I.trans ga).size;omega);exact λx C=>(aL x C).elim (λh=>(ap x h).elim (nB x) λh=>by have:=(I.trans ga).size;omega) λh=>by have:=(I.trans ga).size;have:=fb.size;omega
 have J:n=b.iJ.length:=(by have:=zB hc;omega);subst J;rw[vB] at E;exact kk s B w5 E ((o.fr).trans f5) λx C=>zL o.fr.size (nB x C)
end
section
open Go Go.Pt List
open Go.IntKind (wrap)
open Classical
variable {K:Option Addr×oq×Bool->WP}
def Jv{h u C E G:WP}{w:Kv}{K:Prop}(I:h w)(J:u w)(O:C w)(Q:E w)(R:G w)(k:K):held [h,u,C,E,G] w K:=⟨⟨I,J,O,Q,R⟩,k⟩
attribute [local irreducible] ld dT iH pK ku fw st new idx kZ kM gb kV ke nz ig nn call eF inv run fM i9 join loop held ext kJ ft pw pQ pT IntKind.wrap
abbrev c9:Nat:=(900-2)-gW (900-2)
def E8:800<=c9/\c9<=100000:=by decide
abbrev uS:Pn->List Kw:=HL.mk pD
abbrev vt (r:oq):Obj:=JR fv r uU
section
variable {w0:Kv} {Y:KD} {sb:Nat} {r1 r3 r9:Nat} {o1:Obj}
def Bh (w0:Kv) (Y:KD) (sb r9 r3 r1:Nat) (o1:Obj) (b:Bk) (W:Kv):Prop:=∃F ri,oZ w0 W Y [(r9,vt ri),(r3,vt xp),(r1,o1)] sb F c9 b b ri
def qBG{W w:Kv}{F:KD}{b:Bk}{ri:oq}{J V O n j:Nat}{t:HL iU}{mv:Option Pa}{ab:Obj}{s:Int}{x:Pn}{a0:Sl}{pp:Option Addr}{X:Int->WP}(h:oZ w0 W Y [(r9,vt ri),(r3,vt xp),(r1,o1)] sb F c9 b b ri)(o:ed [r9,r3,r1] W w [(O,.c (lf qV).toArray rB),(J,JR iU t zn),(V,ab),(r9,vt ri),(r3,vt xp),(r1,o1)])(et:rV n j (mK s x) x=t)(Q:qA t (lh b (gK t) (gL t))=mv)(hB:tv n j s b)(hn:2<=n/\n<=8)(hj:j<25)(U:eK pD x)(ha:a0.len=n)(hg:b.gn=0)(es:wrap .u64 (s+wrap .u64 (1+wrap .u64 (tA x)))=mK s x)(u:∀w',Bh w0 Y sb r9 r3 r1 o1 (mq n j s b x) w'->(mq n j s b x).gn=0->X (mK s x) w'): DR K (lf (mv.getD qV),mv.isSome) O w (sL x) a0 (sQ x) X (s,(j:Int)) (tA x) J r9 (pW sb,pp) r3:=by
 unfold DR;dsimp only;rw[es];have aj:(0:Int)<=sL x/\sL x<=255:=U.1;have ak:(0:Int)<=sQ x/\sQ x<=255:=U.2.1;have aC:(0:Int)<=tA x/\tA x<=255:=U.2.2.2.2.2.1;have aD:=hB.st;have ac:lA (mK s x):=(by unfold mK;exact⟨oK,oK⟩);have em:∀y:Int,0<=y/\y<=255->Int.tmod (wrap .i64 y) (a0.len:Int)=y%(n:Int):=λy hy=>by rw[gu _ oK,ha,Kj hy.1]
 rw[em _ aj,em _ ak];have C:eK iU t:=(by rw[<- et];exact IG (i:=j) (x:=x) hn oK ac U);have ep:mq n j s b x=match (generalizing:=false) mv with
  | none=>b
  | some q=>if sL x%(n:Int)=sQ x%(n:Int) then b else sG b t q:=by rw[<- Q,<- et];rfl
 rw[ep] at u;have aF:=hB.many;have aG:b.size<=b.many:=Nat.le_add_right _ _;have hc:=E8;refine mI (sE _) (o.st' 0 rfl _ (iK rfl) rfl (zM _) λw1 o _=>?_);have E:∀i,eK fV ((eX b i).getD lC):=λi=>by
  cases U:eX b i with
  | none=>exact BQ
  | some a=>exact hB.snd.fit a (uk U).1
 have fD:=E (gK t);have fC:=E (gL t);have skip:((sL x%(n:Int)==sQ x%(n:Int))||!mv.isSome)=true->X (mK s x) w1:=λG=>by
  have h2:Bh w0 Y sb r9 r3 r1 o1 b w1:=⟨F,ri,(h.J0 o).sub (.cons _ (.cons _ (.cons _ (.refl _))))⟩;cases mv with
  | none=>exact u w1 h2 hg
  | some q=>
   have he:sL x%(n:Int)=sQ x%(n:Int):=(oQ G);dsimp only at u;rw[iP he] at u;exact u w1 h2 hg
 refine sI ((sL x%(n:Int)==sQ x%(n:Int))||!mv.isSome) w1 (λM hM=>?_) ?_;refine eV (λG=>?_) λG=>?_;rw[G] at hM;exact hM;rw[G] at hM;exact hM;refine eV skip λG=>?_;clear skip;rw[Km,zR,yF] at G;obtain⟨am,hq⟩:=G;obtain⟨q,rfl⟩:=Option.isSome_iff_exists.1 hq;dsimp only at u o;rw[iN am] at u;obtain⟨f1,f2,_⟩:=qo2 C fD fC Q;clear ep Q et;have hk:tM (t,gf t):=⟨C,C.2.2.2.2.2.2.1,C.2.2.2.2.2.2.2.1⟩;have an:=xg;have z1:(b.dZ q.1).size<=b.size+1:=Aq;have z2:((b.dZ q.1).dZ q.2.1).size<=(b.dZ q.1).size+1:=Aq;have z3:(((b.dZ q.1).dZ q.2.1).gF (t,gf t)).size<=((b.dZ q.1).dZ q.2.1).size+3:=quw;have z4:((((b.dZ q.1).dZ q.2.1).gF (t,gf t)).gj (gP t,1)).size<=(((b.dZ q.1).dZ q.2.1).gF (t,gf t)).size+1:=quv;refine KC o 1 rfl t (KC o 1 rfl (gf t) (tP (ts:=[i3.pF]) (qB (t,gf t)) (qsx (k:=(t,gf t)) _) (oJ o an λao w2 _ o=>mI (po _) (o.st' 0 rfl _ (iK rfl) rfl (zM _) λw3 o _=>?_))));have o:=o.drew;have h:=h.J0 o;refine KC o 4 rfl ri (KC o 1 rfl q.1 (KC o 1 rfl q.2.1 (ou (o.at (i:=0) rfl) _ (po _) rfl (KC o 2 rfl (gP t) ?_))));refine ED h.rb oK h.lt λra wa ha fa=>?_;have h:=h.qd fa ha;refine nM (h.own.cells 2) (vP (h.own.at (i:=0) rfl) _ _ 0 rfl) (h.own.cells 1)<|ED h.rb oK h.lt λrb wb G fb=>?_;have h:=h.qd fb G;refine kH (h.own.cells 2) (vP (h.own.at (i:=0) rfl) _ _ 0 rfl)<|qvX h.rb oK h.lt λrc wc ap fc=>?_;have h:=h.qd fc ap;refine ja (h.own.cells 2)<|qoq h.rb oK h.lt λrd wd I fd=>?_;have h:=h.qd fd I;refine h.own.st' 4 rfl _ (iK rfl) rfl (zM _) λwe o _=>?_;have h:=h.J0 o;clear o;refine jf (λbo w'=>bo=false/\∃F',oZ w0 w' Y [(ao,.c (qB (t,gf t)).toArray Ab),(O,.c (lf q).toArray rB),(J,JR iU t zn),(V,ab),(r9,vt rd),(r3,vt xp),(r1,o1)] sb F' c9 ((((b.dZ q.1).dZ q.2.1).gF (t,gf t)).gj (gP t,1)) ((((b.dZ q.1).dZ q.2.1).gF (t,gf t)).gj (gP t,1)) rd) ?_ ?_;refine KC h.own 1 rfl q.1 (Dd h.sB oK f1 λF1 wf h1 s1=>JU rfl ?_);have h:=h.qC h1 s1;refine KC h.own 1 rfl q.2.1 (Dd h.sB oK f2 λF2 wg h2 s2=>JU rfl ?_);have h:=h.qC h2 s2;refine ou (h.own.at (i:=0) rfl) _ (po _) rfl (qv3 h.sB oK hk λF3 wh h3 s3=>JU rfl ?_);have h:=h.qC h3 s3;refine KC h.own 2 rfl (gP t) (qos h.sB oK ⟨C.1,C.2.1⟩ (show (0:Int)<=1/\(1:Int)<=255 from⟨oN,oN⟩) λF4 wi h4 s4=>⟨rfl,F4,h.qC h4 s4⟩);rintro bo w4 ⟨rfl,F4,h⟩;refine JU rfl (KC h.own 2 rfl t (qy7 C λw5 f5=>?_));have h:=h.q8 f5;have R:((((b.dZ q.1).dZ q.2.1).gF (t,gf t)).gj (gP t,1)).gn=0:=hg;unfold sG at u;dsimp only at u;generalize (((b.dZ q.1).dZ q.2.1).gF (t,gf t)).gj (gP t,1)=b4 at h u R z4;cases I:pY t with
 | none=>
  rw[I] at u;exact JU rfl (u w5 ⟨F4,rd,h.sub (.cons _ (.cons _ (.cons _ (.cons _ (.refl _)))))⟩ R)
 | some e=>
  rw[I] at u;have he:lA e:=by unfold pY at I;have hN:(0:Int)<=ll t/\ll t<=18446744073709551615:=C.2.2.2.2.2.2.2.2.2.2.2.2.2.2.2;have hO:(0:Int)<=mG t/\mG t<=4294967295:=C.2.2.2.2.2.2.2.2.2.2.2.1;split at I;cases I;split at I;cases I;exact⟨oK,oK⟩;cases I
  have ar:eK jb (e,ll t,gP t):=⟨tE he,C.2.2.2.2.2.2.2.2.2.2.2.2.2.2.2,C.1,C.2.1⟩;refine JT rfl (KA h.own 2 rfl (ll t) (KC h.own 2 rfl (gP t) (oB h.own λaA w6 _ _ o=>o.st' 0 rfl (HL.mk jb (e,ll t,gP t)).toArray (iK rfl) rfl (zM _) λw7 o _=>?_)));have h:=h.J0 o;clear o;refine KC h.own 5 rfl rd (KC h.own 0 rfl (e,ll t,gP t) (qvW h.rb oK h.lt λre w8 h8 f8=>?_));have h:=h.qd f8 h8;refine h.own.st' 5 rfl _ (iK rfl) rfl (zM _) λw9 o _=>?_;have h:=h.J0 o;clear o;refine KC h.own 0 rfl (e,ll t,gP t) (qv1 h.sB oK ar λF5 au av aw=>JU rfl ?_);have h:=h.qC av aw;exact u au ⟨F5,re,h.sub (.cons _ (.cons _ (.cons _ (.cons _ (.cons _ (.refl _))))))⟩ R
end
end
section
open Go Go.Pt List
open Go.IntKind (wrap)
open Classical
attribute [local irreducible] ld dT iH pK ku fw st new idx kZ kM gb kV ke nz ig nn call eF inv run fM i9 join loop held ext kJ ft pw pQ pT IntKind.wrap
variable {K:Option Addr×oq×Bool->WP} {l la:List (HL fV)} {lp:List Pn}
abbrev CQ (a0 a1:Sl):Obj:=.c #[a0.v,a1.v] 25
def yd (l:List (HL fV)) (i:Nat):Bk:=⟨(m7 l).take i,[],[],[],[],[],[],none,0⟩
def qAO:yd l l.length=xc l:=by unfold yd xc;rw[zS (by rw[m7,length_mapIdx];exact zM _)]
def qAP{i:Nat}(h:i<l.length):(yd l i).dZ (qa i l[i])=yd l (i+1):=by
 have C:i<(m7 l).length:=(by rw[m7,length_mapIdx];exact h);have e:(m7 l)[i]=qa i l[i]:=(by simp only[m7,getElem_mapIdx]);unfold Bk.dZ yd;dsimp only;rw[Fw,yH C,e];intro x E u;obtain⟨j,G,rfl⟩:=mem_take_iff_getElem.1 E;simp only[m7,getElem_mapIdx] at u;have:=Kr Prod.snd u;have:(j:Int)+1=(i:Int)+1:=this;omega
def qzm{i:Nat}:(yd l i).size<=i:=by have:((m7 l).take i).length<=i:=length_take_le _ _;unfold yd Bk.size;simpa using this
def qsy{w:Kv}{Y:KD}{a0 a1:Sl}(ay:∀b∈Y,b<w.heap.size)(hY:HG∉Y)(hv:Hv w)(ha:eE pL 15 [] w a0 la)(hp:eE uS 7 [] w a1 lp)(fa:∀a∈la,eK fV a)(fp:∀x∈lp,eK pD x)(V:la.length<=8)(aV:lp.length<=25)(kk:∀sb F ri w',SB w' Y sb F c9 (jn la lp)->RB F w' ri (jn la lp)->(∀x∈F,w.heap.size<=x)->w.heap.size<=sb->Fr [] w w'->K (pW sb,ri,true) w'): cW 9 [.agg #[a0.v,a1.v]] [.one .ptr,.agg fv,.one .bool] w K:=by
 refine qhW ?_;have hc:=E8;have am:a0.len=la.length:=ha.1;have aY:a1.len=lp.length:=hp.1;have hz:=Aj;refine oB (oF [] w) λr1 w1 e1 f1 o=>oB o λr3 w2 e2 f2 o=>?_;have g1:r1<w2.heap.size:=fl (o.at (i:=1) rfl);have g3:r3<w2.heap.size:=fl (o.at (i:=0) rfl);have a5:=hv.lt;have z1:=f1.size;have z2:=f2.size;refine qya (n:=900) (r3::r1::Y) (λb hb=>?_) (λhm=>?_) (hv.q8 o.fr) oN oN λsb pb dbk FD F D w3 hS hM f3 n3=>JU rfl ?_;rcases zG.1 hb with rfl|hb;exact g3;rcases zG.1 hb with rfl|hb;exact g1;have:=ay b hb;omega;rcases zG.1 hm with e|hm;omega;rcases zG.1 hm with e|hm;omega;exact hY hm;have h:=oZ.start (Y:=Y) o hS hc.2 f3 n3;clear o hS hM;refine oB h.own λr9 w4 _ _ o=>?_;have h:=h.J0 o;clear o;refine KA h.own 2 rfl a0<|kz (λx W=>∃i:Nat,∃F ri,x=i/\i<=la.length/\oZ w W Y [(r9,vt ri),(r3,vt xp),(r1,CQ a0 a1)] sb F c9 (yd la i) (yd la i) ri) (λx _=>la.length-x.toNat) ⟨0,F,xp,rfl,yY _,h⟩ ?_;clear h;rintro x W ⟨i,F,ri,rfl,hi,h⟩ X hX;apply cD<;>intro C;have G:i<la.length:=oK;have hs:=qzm (l:=la) (i:=i);have hf:=qtD (i:=i) oK (fa _ (zX G));refine eE.p6 (ha.q8 h.fr) i rfl (zA G) rfl rfl ?_;have eu:wrap .u64 (wrap .u64 (i:Int)+1)=(i:Int)+1:=(by rw[rQ (i:Int) ⟨oK,oK⟩,rQ _ ⟨oK,oK⟩]);rw[eu];refine oB h.own λa' w5 _ _ o=>o.st' 0 rfl _ (iK rfl) rfl (zM _) λw6 o _=>o.st' 0 rfl (HL.mk fV (qa i la[i])).toArray rfl rfl (zO rfl) λw7 o _=>?_;have h:=h.J0 o;clear o;have ab:=qAP G;generalize qa i la[i]=a at h hf ab;refine KC h.own 1 rfl ri (KC h.own 0 rfl a (ED h.rb oK h.lt λrb w8 h8 f8=>?_));have h:=h.qd f8 h8;refine h.own.st' 1 rfl _ (iK rfl) rfl (zM _) λw9 o _=>?_;have h:=h.J0 o;clear o;refine KC h.own 0 rfl a (Dd h.sB oK hf λF2 ad aA aB=>JU rfl ?_);have h:=h.qC aA aB;rw[ab] at h;rw[gu _ oK];exact hX _ _ ⟨i+1,F2,rb,rfl,G,h.sub (.cons _ (.refl _))⟩ oK;have G:i=la.length:=oK;subst G;rw[qAO] at h;refine jf (λ_ W=>Bh w Y sb r9 r3 r1 (CQ a0 a1) (jn la lp) W) ?_ ?_;refine KA h.own 2 rfl a1 ?_;clear hX;refine kz (λq W=>∃j:Nat,∃b,q.2=j/\j<=lp.length/\Bh w Y sb r9 r3 r1 (CQ a0 a1) b W/\b.gn=0/\(2<=la.length->tv la.length j q.1 b/\pi la.length j q.1 b (lp.drop j)=jn la lp)/\(la.length<2->b=xc la)) (λq _=>lp.length-q.2.toNat) ⟨0,xc la,rfl,yY _,⟨F,ri,h⟩,rfl,λE=>⟨tv.start V fa,by unfold jn;rw[iN];rfl⟩,λ_=>rfl⟩ ?_;clear h;rintro⟨s,q⟩ W ⟨j,b,hq,hj,⟨F,ri,h⟩,hg,I,ao⟩ X hX;dsimp only at hq I⊢;subst hq;apply cD<;>intro C;have J:j<lp.length:=oK;have hx:=zA J;have u:=fp _ (zX J);have hd:=zY J;rw[hd] at I;generalize lp[j]=x at hx u I;refine jf (λy W=>2<=la.length/\y=mK s x/\Bh w Y sb r9 r3 r1 (CQ a0 a1) (mq la.length j s b x) W/\(mq la.length j s b x).gn=0) ?_ ?_;refine eE.p6 (hp.q8 h.fr) j rfl hx rfl rfl<|oB h.own λaC w5 _ _ o=>o.st' 0 rfl (HL.mk pD x).toArray (iK rfl) rfl (zM _) λw6 o _=>KA o 3 rfl a0 (eV (λae=>?_) λae=>?_);have E:la.length<2:=(by have:=zC ae;omega);have hb:=ao E;have eb:jn la lp=b:=(by unfold jn;rw[iP E,hb]);rw[eb];exact⟨F,ri,(h.J0 o).sub (.cons _ (.refl _))⟩;have E:2<=la.length:=(by have:=zB ae;omega);obtain⟨I,ap⟩:=I E;have aE:(0:Int)<=sL x/\sL x<=255:=u.1;have aF:(0:Int)<=sQ x/\sQ x<=255:=u.2.1;have bi:(0:Int)<=tA x/\tA x<=255:=u.2.2.2.2.2.1;have aG:(0:Int)<=Az x/\Az x<=65535:=u.2.2.2.2.2.2;have bj:=I.st;have es:wrap .u64 (s+wrap .u64 (1+wrap .u64 (tA x)))=mK s x:=by rw[rQ (tA x) ⟨oK,oK⟩,rQ (1+tA x) ⟨oK,oK⟩,rQ (s+(1+tA x)) ⟨oK,oK⟩];rfl
 have em:∀y:Int,0<=y/\y<=255->wrap .u64 (wrap .u64 (Int.tmod (wrap .i64 y) (a0.len:Int))+1)=y%(la.length:Int)+1:=λy hy=>by have m:0<=y%(la.length:Int)/\y%(la.length:Int)<la.length:=⟨Int.emod_nonneg _ oK,Int.emod_lt_of_pos _ oK⟩;rw[gu _ oK,am,Kj hy.1,rQ (y%(la.length:Int)) ⟨oK,oK⟩,rQ (y%(la.length:Int)+1) ⟨oK,oK⟩]
 have og:=o.drew;refine KA og 0 rfl (sL x) (mI oK (KA og 0 rfl (sQ x) (mI oK (KA og 0 rfl (tA x) (KC og 0 rfl (HM x) (KA og 0 rfl (Az x) (KA og 0 rfl (pnT x) ?_)))))));rw[es,em _ aE,em _ aF,rQ (j:Int) ⟨oK,oK⟩];refine oB og λaH w7 _ _ o=>o.st' 0 rfl (HL.mk iU (rV la.length j (mK s x) x)).toArray (iK rfl) rfl (zM _) λw8 o _=>?_;have o:=o.drew;have hR:=(h.J0 o).rb;have bl:b.size<=b.many:=Nat.le_add_right _ _;have bm:=I.many;have ag:b.size<=100000:=oK;have aq:lA (mK s x):=(by unfold mK;exact⟨oK,oK⟩);have ht:=IG (i:=j) (x:=x) ⟨E,V⟩ oK aq u;have aa:hasB (ky (rV la.length j (mK s x) x)) 2=true:=(qyh (x:=Az x) ⟨aG.1,oK⟩).2;have O:∀i,eK fV ((eX b i).getD lC):=λi=>by
  cases hx:eX b i with
  | none=>exact BQ
  | some a=>exact I.snd.fit a (uk hx).1
 have fD:=O (gK (rV la.length j (mK s x) x));have fC:=O (gL (rV la.length j (mK s x) x));generalize et:rV la.length j (mK s x) x=t at o ht aa fD fC;have ah:∀ {Q:Nat} {w9:Kv},ed [r9,r3,r1] W w9 [(Q,.c (lf qV).toArray rB),(aH,JR iU t zn),(aC,JR pD x 81),(r9,vt ri),(r3,vt xp),(r1,CQ a0 a1)]->_:=λ{Q w9} o=>qBG (pp:=pW pb) (K:=K) (X:=λy W=>2<=la.length/\y=mK s x/\Bh w Y sb r9 r3 r1 (CQ a0 a1) (mq la.length j s b x) W/\(mq la.length j s b x).gn=0) h o et rfl I ⟨E,V⟩ oK u am hg es λw' ai aj=>⟨E,rfl,ai,aj⟩;refine⟨?_,?_,?_⟩;refine KC o 0 rfl t (KC o 0 rfl (gf t) (KC o 2 rfl ri (KC o 0 rfl (gK t) (KC o 0 rfl (gL t) (CM (i:=gK t) (j:=gL t) hR ag λw9 R=>kH ((o.q8 R).cells 0) ((o.q8 R).cells 0) (GK ht aa fD fC λad U=>oJ ((o.q8 R).q8 U) hz λQ ar _ o=>Jv (o.cells 1) (o.cells 1) (o.cells 3) (o.cells 1) (o.cells 1) (ah o)))))));refine KC o 0 rfl t (KC o 0 rfl (gf t) (KC o 2 rfl ri (KC o 0 rfl (gK t) (KC o 0 rfl (gL t) (CM (i:=gK t) (j:=gL t) hR ag λw9 R=>kH ((o.q8 R).cells 0) ((o.q8 R).cells 0) (oJ (o.q8 R) hz λQ ar _ o=>Jv (o.cells 1) (o.cells 1) (o.cells 3) (o.cells 1) (o.cells 1) (GK ht aa fD fC λad U=>ah (o.q8 U))))))));refine KC o 0 rfl t (KC o 0 rfl (gf t) (KC o 2 rfl ri (KC o 0 rfl (gK t) (KC o 0 rfl (gL t) (oJ o hz λQ ar _ o=>Jv (o.cells 1) (o.cells 1) (o.cells 3) (o.cells 1) (o.cells 1) (CM (i:=gK t) (j:=gL t) (h.J0 o).rb ag λw9 R=>kH ((o.q8 R).cells 1) ((o.q8 R).cells 1) (GK ht aa fD fC λad U=>ah ((o.q8 R).q8 U))))))));rintro y W' ⟨E,rfl,ai,aj⟩;obtain⟨I,ap⟩:=I E;rw[gu _ oK];exact hX _ _ ⟨j+1,_,rfl,J,ai,aj,λ_=>⟨I.wC ⟨E,V⟩ oK u,ap⟩,λh=>oK⟩ oO;have J:j=lp.length:=oK;subst J;have eb:jn la lp=b:=by
  by_cases E:la.length<2;unfold jn;rw[iP E,ao E];have:=(I oK).2;rw[drop_length,pi] at this;exact this.symm
 rw[eb];exact⟨F,ri,h⟩;rintro _ W' ⟨F,ri,h⟩;have o:=h.own.drew;refine KC o 0 rfl ri (o.st' 1 rfl _ (iK rfl) rfl (zM _) λw' o _=>KC o 1 rfl ri ?_);have h:=h.J0 o;exact kk sb F ri w' (h.sB.y5 λ_ h=>zI _ h) (h.rb.j0 (.refl _ _) λx hx=>.inl (zI _ hx)) h.nF h.ns.1 h.fr
def qt5(C:la.length<=8)(R:lp.length<=25)(U:∀a∈la,eK fV a)(V:∀x∈lp,eK pD x):tQ (jn la lp)/\(jn la lp).many<=258/\(jn la lp).due.length<=25/\(jn la lp).gn=0:=by
 have go:∀(l:List Pn) (i:Nat) (s:Int) (b:Bk),2<=la.length->i+l.length<=25->(∀x∈l,eK pD x)->tv la.length i s b->b.due.length<=i->b.gn=0->∃J,tv la.length (i+l.length) J (pi la.length i s b l)/\(pi la.length i s b l).due.length<=i+l.length/\(pi la.length i s b l).gn=0:=by
  intro l;induction l with
  | nil=>exact λi s b _ _ _ h G u=>⟨s,h,G,u⟩
  | cons x l ih=>
   intro i s b O hi Q h G u;rw[yJ] at hi;have E:(mq la.length i s b x).due.length<=i+1/\(mq la.length i s b x).gn=0:=by
    unfold mq;dsimp only;split;exact⟨oK,u⟩;split;exact⟨oK,u⟩;unfold sG;dsimp only;split;exact⟨by show b.due.length<=_;omega,u⟩;refine⟨?_,u⟩;show (kX _ (iY _ b.due)).length<=_;rw[Da.length_eq,yJ];have:=(Eg (d:=(‹Int›,ll (rV la.length i (mK s x) x),gP (rV la.length i (mK s x) x))) (l:=b.due)).length_le;omega
   have:=ih (i+1) (mK s x) (mq la.length i s b x) O oK (λy hy=>Q y (zN _ hy)) (h.wC ⟨O,C⟩ oK (Q x JZ)) E.1 E.2;rw[yJ,show i+(l.length+1)=i+1+l.length by omega];exact this
 have I:=tv.start C U;unfold jn;split;have:=I.many;exact⟨I.snd,oK,yY _,rfl⟩;obtain⟨J,h,G,u⟩:=go lp 0 1 (xc la) oK oK V I (zM _) rfl;rw[xU] at h G;have:=h.many;exact⟨h.snd,oK,oK,u⟩
end
section
open Go Go.ChangeShapes Go.WideShapes Go.ChangeAt Go.RowKit Go.Pt
variable {x:HL [Cell.slice,Cell.slice]}
def Cs:List Cell->List Kw->Prop
 | [],[]=>True
 | c::h,v::vs=>(∃x:c.El,v=c.mk x/\vh c x)/\Cs h vs
 | _,_=>False
def Cs.vO:∀ {a b:List Cell} {u v:List Kw},Cs a u->Cs b v->Cs (a++b) (u++v)
 | [],b,[],v,_,h=>h
 | c::a,b,x::u,v,h,g=>⟨h.1,Cs.vO h.2 g⟩
 | [],_,_::_,_,h,_=>h.elim
 | _::_,_,[],_,h,_=>h.elim
def Cs.hl:∀ {cs:List Cell} {vs:List Kw},Cs cs vs->∃x:HL cs,vs=HL.mk cs x/\eK cs x
 | [],[],_=>⟨(),rfl,trivial⟩
 | [c],[v],h=>by obtain⟨x,u,C⟩:=h.1;exact⟨x,by rw[u];rfl,C⟩
 | c::E::cs,v::vs,h=>by obtain⟨x,u,C⟩:=h.1;obtain⟨y,G,I⟩:=Cs.hl (cs:=E::cs) h.2;exact⟨(x,y),by rw[u,G];rfl,C,I⟩
 | [],_::_,h=>h.elim
 | [_],[],h=>h.elim
 | [_],_::_::_,h=>h.2.elim
 | _::_::_,[],h=>h.elim
def u0 (P:Ky) (f:Kx->Option (List Cell)):Nat->List Field->Option (List Cell)
 | _,[]=>some []
 | k,x::h=>bif Nat.beq x.offset k then match f x.type with
  | some a=>bif Nat.beq (P.cellsOf x.type) a.length then (u0 P f (k+a.length) h).map (a++·) else none
  | none=>none else none
def uZ (P:Ky):Nat->Kx->Option (List Cell)
 | 0,_=>none
 | d+1,t=>match P.underlying t with
  | some (.int k)=>some [.int k]
  | some .bool=>some [.bool]
  | some (.struct u)=>match u0 P (uZ P d) 0 u.toList with
   | some h=>bif Nat.beq (P.cellsOf t) h.length then some h else none
   | none=>none
  | _=>none
section
variable {H:Type} {enc:Kx×Kw->H} {P:Ky} {W:Kv} {base:Nat} {spare:Nat->Bool} {held:Bool}
def qsA{f:Kx->Option (List Cell)}{cells:List Kw}(I:∀t cs,f t=some cs->∀n vs y,DataW.trod enc P W base spare held n t vs=some y->Cs cs vs):∀ {u:List Field} {k:Nat} {cs:List Cell},u0 P f k u=some cs-> (∀x∈u,∃n y,DataW.trod enc P W base spare held n x.type ((cells.drop x.offset).take (P.cellsOf x.type))=some y)->Cs cs ((cells.drop k).take cs.length)
 | [],k,cs,h,_=>by cases h;exact trivial
 | x::u,k,cs,h,J=>by
  unfold u0 at h;cases C:Nat.beq x.offset k with
  | false=>rw[C] at h;cases h
  | true=>
   rw[C] at h;cases E:f x.type with
   | none=>rw[E] at h;cases h
   | some a=>
    rw[E] at h;dsimp only [_root_.cond_true] at h;cases G:Nat.beq (P.cellsOf x.type) a.length with
    | false=>rw[G] at h;cases h
    | true=>
     rw[G] at h;obtain⟨b,Q,rfl⟩:=yU.1 h;have ih:=qsA (cells:=cells) I Q λz R=>J z (zN _ R);obtain⟨n,y,O⟩:=J x JZ;rw[yX C,yX G] at O;rw[zF,List.take_add,xF];exact (I _ _ E _ _ _ O).vO ih
def qsB:∀(d:Nat) (t:Kx) (cs:List Cell),uZ P d t=some cs->∀n vs y,DataW.trod enc P W base spare held n t vs=some y->Cs cs vs
 | 0,_,_,h,_,_,_,_=>nomatch h
 | d+1,t,cs,h,n,vs,y,u=>by
  unfold uZ at h;split at h
  ·next k hu=>
   cases h;obtain⟨m,C,_,O⟩:=DataW.trod_int hu u;rw[C];exact⟨⟨m,rfl,IT O⟩,trivial⟩
  ·next hu=>
   cases h;obtain⟨m,C,_⟩:=DataW.trod_bool hu u;rw[C];exact⟨⟨m,rfl,trivial⟩,trivial⟩
  ·next fs hu=>
   split at h
   ·next cs' hd=>
    cases E:Nat.beq (P.cellsOf t) cs'.length with
    | false=>rw[E] at h;cases h
    | true=>
     rw[E] at h;cases h;obtain⟨Q,m,_,_,I,R,U⟩:=DataW.trod_struct hu u
     have:=qsA (cells:=vs) (qsB d) hd λx V=>by obtain⟨i,hi,rfl⟩:=List.getElem_of_mem V;have G:i<fs.size:=(oQ hi);have J:=U i fs[i] (by simp[G]);rw[zA (show i<Q.length by omega)] at J;exact⟨_,_,by simpa using J⟩
     rw[xH,zS (by have:=yX E;omega)] at this;exact this
   cases h
  cases h
def qqR{e:Kx}{cs:List Cell}(d:Nat)(C:uZ P d e=some cs):∀n u y,DataW.trod enc P W base spare held n e u=some y->∃x:HL cs,u=HL.mk cs x/\eK cs x:=λn u y h=>(qsB d e cs C n u y h).hl
abbrev ww:Kx:=25
def qCF:tj prog ww 0=some 22:=by kernel_rfl
def qCG:tj prog ww 1=some 23:=by kernel_rfl
def qCp{n:Nat}{y:DataW H×List MemPlace}(h:DataW.trod enc prog W base spare held n ww (HL.mk [Cell.slice,Cell.slice] x)=some y):∃u C,(eE pL 15 [] W x.1 u/\∀a∈u,eK fV a)/\eE uS 7 [] W x.2 C/\∀p∈C,eK pD p:=by obtain⟨x',e,_,E⟩:=qxD (cs:=[Cell.slice,Cell.slice]) oL n _ y h;rw[<- e] at E;obtain⟨V,n0,y0,G,J⟩:=E 0 x.1.v rfl;obtain rfl:=yP (qCF.symm.trans G);obtain⟨u1,n1,y1,I,O⟩:=E 1 x.2.v rfl;obtain rfl:=yP (qCG.symm.trans I);obtain⟨u,Q,e1⟩:=IF (P:=prog) (t:=22) (e:=47) (s:=x.1) (k:=15) (encB:=pL) oL oL oN (qqR 4 oL) J;obtain⟨C,R,U⟩:=IF (P:=prog) (t:=23) (e:=81) (s:=x.2) (k:=7) (encB:=uS) oL oL oN (qqR 4 oL) O;exact⟨u,C,⟨Q,e1⟩,R,U⟩
end
end
end Go.Proofs.YtfneoijhmknlnaaGreatDoor
namespace Go.Pt
section
open Go
def qpH{D:Nat}{w:Kv}{K:WP}(h:w.heap[D]?=some (.deferred (some [])))(k:∀w',Fr [D] w w'->K w'):Pt.ft D w K:=⟨h,k _ (rI (fl h) _)⟩
def qCo{h u C E G:WP}{w:Kv}{K:Prop}(I:h w)(J:u w)(O:C w)(Q:E w)(R:G w)(k:K):held [h,u,C,E,G] w K:=⟨⟨I,J,O,Q,R⟩,k⟩
end
end Go.Pt
namespace Go.Proofs.YtfneoijhmknlnaaGreatDoor
open Go.Proofs.Tryz (prog)
section
open Go Go.Pt List
open Classical
attribute [local irreducible] ld dT iH pK ku fw st new idx kZ kM gb kV ke nz ig nn call eF inv run fM i9 join loop held ext kJ ft pw pQ pT IntKind.wrap
abbrev FR:FuncId:=91
def rF (w:Kv) (v:Kw) (sb:Nat) (i:gJ) (frm to:Int) (down:Bool):Prop:=∃(r1 r3 h u r9:Nat) (T1 C E G I:Kx),v=.func (.func FR) #[] #[dQ r1,dQ r3,dQ h,dQ u,dQ r9]/\
 w.heap[r1]?=some (.c #[dQ sb] T1)/\w.heap[r3]?=some (.c #[.w i.1,.w i.2] C)/\w.heap[h]?=some (.c #[.w frm] E)/\w.heap[u]?=some (.c #[.w to] G)/\w.heap[r9]?=some (.c #[.bool down] I)
def rF.q8{w w':Kv}{v:Kw}{sb:Nat}{i:gJ}{frm to:Int}{down:Bool}(h:rF w v sb i frm to down)(f:Fr [] w w'):rF w' v sb i frm to down:=by
 obtain⟨r1,r3,C,E,r9,T1,G,I,J,O,e,Q,R,U,V,c9⟩:=h;have u:∀ {b:Nat} {o:Obj},w.heap[b]?=some o->w'.heap[b]?=some o:=λh=>by rw[f.block _ (fl h) λh=>nomatch h];exact h
 exact⟨r1,r3,C,E,r9,T1,G,I,J,O,e,u Q,u R,u U,u V,u c9⟩
def qza{w:Kv}{sb:Nat}{i:gJ}{frm to:Int}{down:Bool}{K:Kw->WP}(h:∀v w',rF w' v sb i frm to down->Fr [] w w'->K v w'): cW 49 [dQ sb,dk i.1 i.2,.w frm,.w to,.bool down] dC w K:=by exact qkC<|oB (oF [] w) λr1 w1 _ _ o=>oB o λr3 w2 _ _ o=>oB o λu G _ _ o=>oB o λC I _ _ o=>oB o λr9 E _ _ o=>h _ E ⟨r1,r3,u,C,r9,_,_,_,_,_,rfl,o.at (i:=4) rfl,o.at (i:=3) rfl,o.at (i:=2) rfl,o.at (i:=1) rfl,o.at (i:=0) rfl⟩ o.fr
structure Jw (yield:Kw) (Yc:KD) (wb:Kv) (L:List (HL k6)) (I:Nat->WP) (E:WP):Prop where
 stay:∀ i W W' Z,I i W->Fr Z W W'->(∀ b∈Z,wb.heap.size<=b)->I i W'
 wH:∀ W W' Z,E W->Fr Z W W'->(∀ b∈Z,wb.heap.size<=b)->E W'
 take:∀ i (hi:i<L.length) W (K:Bool->WP),I i W->wb.heap.size<=W.heap.size->(∀ W',Fr Yc W W'->I (i+1) W'->K true W')->(∀ W',Fr Yc W W'->E W'->K false W')->eF prog yield [.agg (HL.mk k6 L[i]).toArray] dr W K
def qxk{w:Kv}{Y Yc F:KD}{sb c l0:Nat}{b:Bk}{i:gJ}{frm to:Int}{down:Bool}{v0:Kw}{lb:List Kw}{I:Nat->WP}{E:WP}{K:Unit->WP}(hv:v0=.func (.func FR) #[] lb.toArray)(hR:rF w v0 sb i frm to down)(hS:SB w Yc sb F c b)(hi:lz i)(hf:lA frm)(ht:lA to)(hl:b.size<=90000)(hY:Jw (.func (.yield l0) #[] #[]) Yc w (ko b.iJ i frm to down) I E)(h0:I 0 w)(k1:∀O,I (ko b.iJ i frm to down).length O->K () O)(k2:∀O,E O->K () O): cW FR (.func (.yield l0) #[] #[]::lb) [] w K:=by
 obtain⟨q1,q3,q5,q7,q9,T1,T3,T5,T7,T9,e,c1,c3,c5,c7,c9⟩:=hR;rw[e] at hv;have aU:lb=[dQ q1,dQ q3,dQ q5,dQ q7,dQ q9]:=by
  injection hv with _ _ h3;simpa using (Kr Array.toList h3).symm
 subst aU;obtain⟨pb,ai⟩:=hS;refine qia<|oB (oF [] w) λr1 w1 e1 f1 o=>?_;have o:=o.drew;have nh:∀ {x:Nat},x∉([]:KD):=λh=>nomatch h;refine jH (o.nt c1 nh) (pW sb) rfl (ai.vi o.fr ?_);refine vL (o.nt c3 nh) i rfl (jH (o.nt c5 nh) frm rfl (vL (o.nt c3 nh) i rfl (jH (o.nt c7 nh) to rfl (jH (o.nt c9 nh) down rfl ?_))));refine Cx λbM bN aV aW=>?_;have o2:=o.q8 aW;have V:∀ {w':Kv} {b aB:Nat} {cs:Array Kw} {T:Kx} {v:Kw},w'.heap[b]?=some (.c cs T)->cs[aB]?=some v->w'.cell? (dm b aB)=some v:=λh C=>by rw[kD h];exact C
 refine qCo (V (o2.nt c9 nh) rfl) (V (o2.nt c7 nh) rfl) (vP (o2.nt c3 nh) _ _ 0 rfl) (ai.held o2.fr) (V (o2.nt c1 nh) rfl)<|Cx λbO bP aX aC=>?_;have o3:=o2.q8 aC;refine nM (V (o3.nt c9 nh) rfl) (ai.held o3.fr) (V (o3.nt c1 nh) rfl) ?_;have aj:∀n,(gO i n).length=24:=λn=>Aa _ _;refine qAI (S:=[]) rfl (aV.rd.q8 aC) aX.rd (by rw[aj];decide) (by rw[aj];decide) λaY bQ WB hW nW aZ=>?_;obtain⟨bR,am⟩:∃lb:List Kw,aY=.func (.func WF) #[] lb.toArray:=by obtain⟨r1,r3,r5,r7,r9,s1,s2,B1,B2,e,_⟩:=hW.val;exact⟨[_,_,_,_,_],e⟩
 have o4:=o3.q8 aZ;refine ed.kJ o4 am oL λD l R B J X E0 w9 el eD f9 h hy=>?_;obtain⟨dbk,FD,Dm,M,Fo,aq,hb,hc⟩:=ai;have ql:w9.heap[l]?=some R:=h.at (i:=0) rfl;have qD:w9.heap[D]?=some (.deferred (some [])):=h.at (i:=1) rfl;obtain⟨Ty,qy⟩:∃T,w9.heap[r1]?=some (.c #[.func (.yield l0) #[] #[]] T):=⟨_,h.at (i:=2) rfl⟩;have nl:w.heap.size<=l:=(h.own (l,R) oM).resolve_left λh=>nomatch h;have nD:w.heap.size<=D:=(h.own (D,.deferred (some [])) oM).resolve_left λh=>nomatch h;have n1:w.heap.size<=r1:=oK;obtain⟨af,aG,bX⟩:l≠D/\l≠r1/\D≠r1:=by have:=h.nodup;simp at this;exact⟨this.1.1,this.1.2,this.2⟩
 have gl:=fl ql;have gD:=fl qD;have g1:=fl qy;have sw:=h.fr.size;have f0:Fr [] w w9:=h.fr;have hT:TW dbk pb FD Dm 5000 w9 (l::Yc) F M:=aq.tw.Bc (B:=[l]) (f0.mono λ_ h _=>nomatch h) λx C=>by rw[zE.1 C];exact⟨nl,gl⟩
 have a0:∀x∈Yc,x<w.heap.size:=aq.tw.tG;have b3:=hb.iJ.len;have hz:b.iJ.length<=b.size:=(by unfold Bk.size;omega);have ar:=qwS (down:=down) hb.iJ hi hf ht;clear h o o2 o3 o4;have G:∀ {Z:Kv} {u y:Nat} {o v:Obj},u<Z.heap.size->u≠y->Z.heap[y]?=some v->(Z.putObj u o).heap[y]?=some v:=λ{Z u y o v} hl hy hu=>((rI hl o).block y (fl hu) λhm=>hy (zE.1 hm).symm).trans hu;have au:∀ {Z:Kv} {u:Nat} {o:Obj},u<Z.heap.size->(Z.putObj u o).heap[u]?=some o:=λ{Z u o} hl=>(qY Z u o u hl).trans (iP rfl);have aH:∀ {W O:Kv},Fr [l] W O->Fr (l::Yc) W O:=λf=>f.mono λx C _=>by rw[zE.1 C];simp
 have a1:∀ {W O:Kv},Fr Yc W O->Fr (l::Yc) W O:=λf=>f.mono λx C _=>zN _ C;have aa:∀ {x:Nat},x∈[l]->w.heap.size<=x:=λC=>by rw[zE.1 C];exact nl
 refine qzb (t:=6) (pb:=pb) (L:=(Fo 6).1) (P:=(Fo 6).2) (k:=24) (v:=65) (Yc:=l::Yc) (I:=λn Z=>I n Z/\Z.heap[l]?=some R/\Z.heap[r1]?=some (.c #[.func (.yield l0) #[] #[]] Ty)/\Z.heap[D]?=some (.deferred (some []))/\w9.heap.size<=Z.heap.size) (E:=λZ=>E Z/\Z.heap[l]?=some (J 0)/\Z.heap[D]?=some (.deferred (some [])))
  am (hW.j0 f9 λ_ _ h=>nomatch h) hT rfl ⟨oN,aq.st.J0.J1 6 oN⟩ oK (by rw[aj];decide) (by rw[aj];decide) (Dc _ _) (Dc _ _) ⟨λn Z Z' U ⟨z1,z2,z3,z4,z5⟩ f hU=>?_,λn hn Z ks vs C1 C2 K' ⟨z1,z2,z3,z4,z5⟩ p1 p2 nC b9 kT kE=>?_⟩ ⟨hY.stay 0 w w9 [] h0 f0 λb hb=>(nomatch hb),ql,qy,qD,zM _⟩ (λZ ⟨z1,z2,z3,z4,z5⟩=>.inl ⟨z2,?_⟩) λZ ⟨z1,z2,z4⟩=>.inr ⟨0,_,rfl,z2,?_⟩
 have nU:∀x,x<w9.heap.size->x∉U:=λx C hm=>by have:=hU x hm;omega
 exact⟨hY.stay n Z Z' U z1 f λx C=>zL sw (hU x C),by rw[f.block _ (fl z2) (nU _ gl)];exact z2,by rw[f.block _ (fl z3) (nU _ g1)];exact z3,by rw[f.block _ (fl z4) (nU _ gD)];exact z4,zL z5 f.size⟩;have gZ:=fl z2;have aJ:n<(ko b.iJ i frm to down).length:=by
  have:=hn;rw[ar,zK] at this;exact this
 have aK:(iw down (gO i frm) (gO i to) (Fo 6).1)[n]=(gO i (ls (ko b.iJ i frm to down)[n]),qR (ko b.iJ i frm to down)[n]):=(by simp only[ar,getElem_map]);rw[aK] at p1 p2;generalize hr:(ko b.iJ i frm to down)[n]=r at p1 p2;have a5:eK k6 r:=(by have hm:r∈ko b.iJ i frm to down:=(by rw[<- hr];exact zX aJ);obtain⟨x,C,e⟩:=qyG hm;rw[<- e];exact (hb.iJ.2 x C).2);refine hy (ks,vs) Z K' z2 ⟨z2,?_⟩;have fu:Fr [l] Z (Z.putObj l B):=rI gZ B;have yl:(Z.putObj l B).heap[l]?=some B:=au gZ;have y1:=G (o:=B) gZ aG z3;have yD:=G (o:=B) gZ af z4;have iB:I n (Z.putObj l B):=hY.stay n _ _ [l] z1 fu λx C=>aa C;generalize Z.putObj l B=Zb at fu yl y1 yD iB⊢;have aL:∀x∈C1++C2,x∉[l]:=λx C hm=>by
  have:=nC x C;rw[zE.1 hm] at this;omega
 have b1:=(gA.cX (p1.j0 fu λx C=>aL x (by simp[C])) λx _=>(by simp:x∉([]:KD)));have b2:=(gA.cX (p2.j0 fu λx C=>aL x (by simp[C])) λx _=>(by simp:x∉([]:KD)));refine qvO (x:=i) (r:=r) b1 b2 hi a5 λwa fa=>oB (oF [] wa) λcg wb _ fb o=>oB o λch wc _ fc o=>o.st' 1 rfl _ (iK rfl) rfl (zM _) λwd o _=>o.st' 0 rfl _ (iK rfl) rfl (zM _) λwe o _=>?_;have fe:Fr [] Zb we:=fa.trans o.fr;have aw:∀ {y:Nat} {v:Obj},Zb.heap[y]?=some v->we.heap[y]?=some v:=λhv=>by rw[fe.block _ (fl hv) λh=>nomatch h];exact hv
 have ie:I n we:=hY.stay n _ _ [] iB fe λx C=>nomatch C;have se:w9.heap.size<=we.heap.size:=zL z5 (zL fu.size fe.size);have a9:∀ {x:Nat},w.heap.size<=x->x∉Yc:=λC hm=>by have:=a0 _ hm;omega
 have a':Fr (l::Yc) Z we:=(aH fu).trans (fe.mono λ_ h _=>nomatch h);refine jf (λq O=>(q=false/\I (n+1) O\/q=true/\E O)/\Fr Yc we O) ?_ ?_;refine JT rfl (jH (aw y1) (.func (.yield l0) #[] #[]) rfl (KC o 0 rfl r ?_));rw[<- hr];exact hY.take n aJ we _ ie (zL sw se) (λO f i'=>⟨.inl ⟨rfl,i'⟩,f⟩) λO f e'=>⟨.inr ⟨rfl,e'⟩,f⟩;rintro q O ⟨hq,f'⟩;have ab:∀ {y:Nat} {v:Obj},w.heap.size<=y->Zb.heap[y]?=some v->O.heap[y]?=some v:=λhy hv=>by rw[f'.block _ (fl (aw hv)) (a9 hy)];exact aw hv
 have ax:=ab nl yl;have Q:=fl ax;have ff:∀o',Fr (l::Yc) Z (O.putObj l o'):=λo'=>(a'.trans (a1 f')).trans (aH (rI Q o'));have ss:∀o',w9.heap.size<=(O.putObj l o').heap.size:=λo'=>zL se (zL f'.size (rI Q o').size);rcases hq with ⟨rfl,i'⟩|⟨rfl,e'⟩;refine JU rfl ⟨ax,kT _ (ff R) ⟨hY.stay _ _ _ [l] i' (rI Q R) λx C=>aa C,au Q,G Q aG (ab n1 y1),G Q af (ab nD yD),ss R⟩⟩;exact JT rfl ⟨ax,kE _ ⟨hY.wH _ _ [l] e' (rI Q (J 0)) λx C=>aa C,au Q,G Q af (ab nD yD)⟩⟩;have gZ:=fl z2;rw[ar,zK] at z1;have f1:=rI gZ E0;refine qpH (G gZ af z4) λw' f2=>k1 w' (hY.stay _ _ _ [D] (hY.stay _ _ _ [l] z1 f1 λx C=>aa C) f2 λx C=>by rw[zE.1 C];exact nD);have gZ:=fl z2;have f1:=rI gZ (X 0);refine qpH (G gZ af z4) λw' f2=>k2 w' (hY.wH _ _ [D] (hY.wH _ _ [l] z1 f1 λx C=>aa C) f2 λx C=>by rw[zE.1 C];exact nD)
end
end Go.Proofs.YtfneoijhmknlnaaGreatDoor
