/- Conditions: those that stand in each line. -/
import Derived.Test.YtfneoijhmknlnaaGreatDoorCXPR5
import Derived.Test.YtfneoijhmknlnaaGreatDoorCXPR4
import Derived.Test.YtfneoijhmknlnaaGreatDoorCXPR2
import Derived.Laws.Externs
import Derived.Test.YtfneoijhmknlnaaGreatDoorCXPR3
set_option linter.unusedVariables false
set_option linter.unusedSimpArgs false
set_option linter.defProp false
namespace Go.Proofs.YtfneoijhmknlnaaGreatDoor
open Go Go.Pt
attribute [local irreducible] ld dT iH pK ku fw st new idx kZ kM gb kV ke nz ig nn call eF inv run fM i9 join loop held ext kJ ft pw pQ pT IntKind.wrap
section
open Go Go.Pt List
open Go.IntKind (wrap)
open Classical
variable {key:Key}
section
variable {D:dV} {M:eZ} {k v side c:Nat} {n nx ny:dW}
def qzy{e:Int}(h:dU D M k v (n.J8.getD side 0)=(ny,e))(u:e≠0):k9 D k v M n side c nx=((jr,e),M):=by unfold k9;rw[h,iP u]
def qxL(h:dU D M k v (n.J8.getD side 0)=(ny,0))(u:¬jS ny k v):k9 D k v M n side c nx=mZ k v M n (if side<c then side else c) (if side<c then ny else nx) (if side<c then nx else ny):=by unfold k9;rw[h,iN λh=>h rfl];by_cases hsd:side<c;rw[iP hsd,iP hsd,iP hsd,iP hsd,iP u];rw[iN hsd,iN hsd,iN hsd,iN hsd,iP u]
def qxK(h:dU D M k v (n.J8.getD side 0)=(ny,0))(u:jS ny k v):k9 D k v M n side c nx=pJ k v M n (if side<c then side else c) (if side<c then jU ny nx (n.J5.getD side []) else takeN nx ny (n.J5.getD c [])):=by unfold k9;rw[h,iN λh=>h rfl];by_cases hsd:side<c;rw[iP hsd,iP hsd,iP hsd,iN λh=>h u];rw[iN hsd,iN hsd,iN hsd,iN λh=>h u]
def qnt{n:dW}{k v:Nat}(h:gx n k v):iI n:=by obtain⟨E,G,I,u,C⟩:=yi h;exact⟨λh=>(u h).1,λh=>(C h).1.symm,oK,oK,oK⟩
def qwX(E:je k v)(u:jS n k v)(sn:iI n):1<=n.J5.length/\(n.Q3=true->2<=n.J5.length):=by
 have G:=E.Q3;have I:=E.inner;unfold jS at u;unfold fI at u;cases C:n.Q3 with
 | true=>rw[C,iP rfl] at u;dsimp only at u;exact⟨oK,λ_=>oK⟩
 | false=>
  have:=sn.inner C;rw[C,iN oN] at u;dsimp only at u;exact⟨oK,λh=>nomatch h⟩
end
section
variable {dbk pb j:Nat} {FD S S0 N0 Y F F' T B Bl Br Bn Bx By:KD} {D:dV} {w0 wa w w' w7:Kv} {M M':eZ} {L:KK} {x xx xy:lJ} {n nx ny:dW} {k v:Nat} {t:Int}
def Ed.more(e:Ed dbk pb FD D j S0 N0 w0 w (fY L) Y F M x n B)(h:ed T wa w L)(J:TW dbk pb FD D j w7 (By++(fY L++(B++Y))) F M)(O:fU (Zo FD (By++(fY L++(B++Y))) F) w7 xy ny By)(f:Fr [] w w7)(E:∀c∈By,w.heap.size<=c): Ed dbk pb FD D j S0 N0 w0 w7 (fY L) (By++Y) F M x n B/\ed (fY L) w7 w7 L/\qm FD F w7 (fY L) (B++(By++Y)) xy ny By:=by
 have C:∀b∈Zo FD (fY L++(B++(By++Y))) F,b∈Zo FD (By++(fY L++(B++Y))) F:=λb u=>by simp only[Zo,zD,zG] at u⊢;rcases u with (u|u|u|u|u|u)|u<;>simp[u]
 have G:∀b∈Zo FD (fY L++(B++(By++Y))) F,b∈Zo FD (fY L++(B++Y)) F\/w.heap.size<=b:=λb u=>by simp only[Zo,zD,zG] at u⊢;rcases u with (u|u|u|u|u|u)|u;simp[u];simp[u];simp[u];simp[u];exact .inr (E b u);simp[u];simp[u]
 refine⟨⟨⟨e.sg.sS.j8 f (λ_ h=>nomatch h),e.sg.new,e.sg.own⟩,J.y5 λb u=>?_,e.node.j0 f (λ_ _ h=>nomatch h) (λ_ h=>nomatch h) G,e.sep,e.cK,e.cU,λb u C=>?_⟩,tH h f (λ_ _ h=>nomatch h),O.j6 λb u=>.inl (C b u),λb u C=>?_⟩;simp only[zD] at u⊢;rcases u with u|u|u|u<;>simp[u];rcases zD.1 C with I|I;have:=e.node.lt b u;have:=E b I;omega;exact e.cN b u I;have:=AJ h b u;have:=E b C;omega
def qm.more(o:qm FD F w (fY L) (B++Y) x n Bx)(f:Fr [] w w7)(C:∀c∈By,w.heap.size<=c):qm FD F w7 (fY L) (B++(By++Y)) x n Bx:=
 ⟨o.node.j0 f (λ_ _ h=>nomatch h) (λ_ h=>nomatch h) λb u=>by simp only[Zo,zD,zG] at u⊢;rcases u with (u|u|u|u|u|u)|u;simp[u];simp[u];simp[u];simp[u];exact .inr (C b u);simp[u];simp[u],o.sep⟩
def qm.q8{R:KD}(o:qm FD F w T R x n B)(f:Fr [] w w'):qm FD F w' T R x n B:=⟨o.node.q8 f,o.sep⟩
def qxO{nl nr:dW}(h:∀a∈nl.J5,fq a)(sl:iI nl)(u:iI nr):fq (jU nl nr key).2.2/\(jU nl nr key).1.J5.length<=9000/\(jU nl nr key).1.J9.length<=9000/\(jU nl nr key).1.J8.length<=9000/\(jU nl nr key).2.1.J5.length<=9000/\(jU nl nr key).2.1.J9.length<=9000/\(jU nl nr key).2.1.J8.length<=9000:=by obtain⟨_,_,C,E,G⟩:=sl;obtain⟨_,_,I,J,O⟩:=u;unfold jU;split;refine⟨vz h _,?_⟩;simp only[yM,yJ];omega;refine⟨vz h _,?_⟩;simp only[yM,yJ];omega
def qyR{nl nr:dW}(h:∀a∈nr.J5,fq a)(sl:iI nl)(u:iI nr):fq (takeN nl nr key).2.2/\(takeN nl nr key).1.J5.length<=9000/\(takeN nl nr key).1.J9.length<=9000/\(takeN nl nr key).1.J8.length<=9000/\(takeN nl nr key).2.1.J5.length<=9000/\(takeN nl nr key).2.1.J9.length<=9000/\(takeN nl nr key).2.1.J8.length<=9000:=by obtain⟨_,_,E,G,I⟩:=sl;obtain⟨_,_,J,O,Q⟩:=u;unfold takeN;split;refine⟨vz (λa C=>h a (yV C)) _,?_⟩;simp only[zF,yC,yJ,xM];omega;refine⟨vz h _,?_⟩;simp only[zF,yC,yJ,xM];omega
def wy{Y':KD}(h:∀b∈Y',b∈Y):∀b∈Zo FD Y' F,b∈Zo FD Y F:=λb u=>by simp only[Zo,zD,zG] at u⊢;rcases u with (u|u|u)|u;simp[u];simp[u];simp[h b u];simp[u]
def Ed.zp{Y1:KD}(e:Ed dbk pb FD D j S0 N0 w0 w (fY L) Y F M x n B)(h:ed T wa w L)(O:TW dbk pb FD D j w' (fY L++(B++Y1)) F M)(f:Fr S w w')(G:∀b∈S,b∈S0\/w0.heap.size<=b)(C:∀b∈S,b∉B/\b∉fY L)(I:∀b∈S,b∈Zo FD (fY L++(B++Y)) F)(J:∀b∈Y1,b∈Y): Ed dbk pb FD D j S0 N0 w0 w' (fY L) Y1 F M x n B/\ed (fY L) w' w' L:=
 ⟨⟨⟨e.sg.sS.j8 f G,e.sg.new,e.sg.own⟩,O,e.node.j0 f (λb u E=>(C b E).1 u) (λb u=>.inl (I b u)) λb u=>.inl (by simp only[Zo,zD,zG] at u⊢;rcases u with (u|u|u|u|u)|u;simp[u];simp[u];simp[u];simp[u];simp[J b u];simp[u]),e.sep,e.cK,e.cU,λb u E=>e.cN b u (J b E)⟩,tH h f λb u E=>(C b E).2 u⟩
set_option maxHeartbeats 4000000 in
def qzz{side c:Nat}{K:lJ×Int->WP}(hT:TW dbk pb FD D j w0 (Bn++(Bx++Y)) F M)(hn:fU (Zo FD (Bn++(Bx++Y)) F) w0 x n Bn)(hx:fU (Zo FD (Bn++(Bx++Y)) F) w0 xx nx Bx)(d1:∀b∈Bn,b∉Bx)(d2:∀b∈Bn,b∉Y)(d3:∀b∈Bx,b∉Y)(sn:iI n)(sx:iI nx)(a0:n.Q3=false)(cr:side+1=c\/c+1=side)(hs:side<n.J8.length)(cs:c<n.J8.length)(bH:∀ny,dU D M k v (n.J8.getD side 0)=(ny,0)->ny.Q3=nx.Q3)(a3:je k v)(V:∀yn B' F' w',TW dbk pb FD D j w' (B'++Y) F' (k9 D k v M n side c nx).2->fU (Zo FD (B'++Y) F') w' yn (k9 D k v M n side c nx).1.1 B'->Fr (Bn++(Bx++F)) w0 w'->(∀b∈B',b∈Bn\/w0.heap.size<=b)->(∀b∈F',b∈Bn++(Bx++F)\/w0.heap.size<=b)->K (yn,(k9 D k v M n side c nx).1.2) w'): cW 224 [.agg (qe (lg k v pb t)),.agg (fE x),.i side,.i c,.agg (fE xx)] [.agg eJ,.one .i] w0 K:=by
 refine qmQ ?_;unfold I9 Id;have ei:(if (c:Int)<(side:Int) then (c:Int) else (side:Int))=(((if side<c then side else c):Nat):Int):=by by_cases h1:c<side;rw[iP,iN];rw[iN,iP]
 have ak:(if side<c then side else c)+1<n.J8.length:=(by split<;>omega);rw[ei];generalize ay:(if side<c then side else c)=i at ak⊢;have il:=sn.inner a0;have s1:=sn.J5;have s3:=sn.J8;have az:i<n.J5.length:=oK;have ew:wrap .i64 ((i:Int)+1)=((i+1:Nat):Int):=ud oK;rw[ew];have e0:Ed dbk pb FD D j (Bn++(Bx++F)) Bn w0 w0 [] (Bx++Y) F M x n Bn:=⟨⟨.refl _ _,λb u=>.inl (by simp[u]),λ_ h=>nomatch h⟩,hT,hn,λ_ h=>(nomatch h),λb u=>.inl u,λb u=>by simp[u],λb u I=>(zD.1 I).elim (d1 b u) (d2 b u)⟩;have o0:qm FD F w0 [] (Bn++(Bx++Y)) xx nx Bx:=⟨hx,λ_ h=>nomatch h⟩;rcases ah:dU D M k v (n.J8.getD side 0) with ⟨ny,ey⟩;have bJ:n.J8.getD side 0=n.J8[side]:=wU hs;have aH:dU D M k v n.J8[side]=(ny,ey):=(by rw[<- bJ];exact ah);have a4:=hx.lt;have a5:∀b∈Y,b<w0.heap.size:=λb u=>hT.tG b (by simp[u]);have a6:iZ n.J8[side]:=hn.2.1.2.2 _ (zX hs);have h:=oF [] w0;refine oB h λr1 w2 _ _ h=>oB h λr3 w4 _ _ h=>oB h λJ w6 _ _ h=>oB h λO w8 _ _ h=>?_;have h:=oG h;refine⟨?a,?b⟩;case' a=>
  have e:=e0.J0 h;have o:=o0.J0 h;refine KC h 3 rfl (lg k v pb t)<|KA h 2 rfl x.2.2.2<|eE.cS e.y9 side rfl hs λbK hh=>?_;have aM:=e.fr.size;refine Dp (k:=k) (v:=v) e.tw a6 λxy By bM al R am U=>?_;rw[aH] at R⊢;dsimp only at R;obtain⟨e,h,oy⟩:=e.more h al R am U;have ox:=o.more (By:=By) am U;refine oB h λC bN _ _ h=>nM (hh _ _ (e.J0 h).y9) (h.cell 3) (h.cells 4)<|oE h 0 rfl (fE xy) λbO h _=>?_;have oy:=oy.J0 h;have ox:=ox.J0 h;have e:=e.J0 h;have h:=nf h (.refl _);have aA:∀b∈By,w0.heap.size<=b:=λb u=>zL aM (U b u)
 case' b=>
  have e:=e0.J0 h;have o:=o0.J0 h;have h:=nf h (.refl _);refine KC h 3 rfl (lg k v pb t)<|KA h 2 rfl x.2.2.2<|eE.cS e.y9 side rfl hs λbK hh=>oB h λC bN _ _ h=>?_;have e:=e.J0 h;have o:=o.J0 h;refine nM (hh _ _ e.y9) (h.cell 3) (h.cells 4) ?_;have aM:=e.fr.size;refine Dp (k:=k) (v:=v) e.tw a6 λxy By bM al R am U=>?_;rw[aH] at R⊢;dsimp only at R;obtain⟨e,h,oy⟩:=e.more h al R am U;have ox:=o.more (By:=By) am U;refine oE h 0 rfl (fE xy) λbO h _=>?_;have oy:=oy.J0 h;have ox:=ox.J0 h;have e:=e.J0 h;have h:=nf h (.refl _);have aA:∀b∈By,w0.heap.size<=b:=λb u=>zL aM (U b u)
 all_goals
  apply eV<;>intro hc;have an:ey≠0:=by rw[zT] at hc;exact zR.1 hc
  rw[qzy ah an] at V;refine oE h 1 rfl (fE gp) λbP h _=>KC h 1 rfl gp ?_;have e:=e.J0 h;exact V gp [] F bP (e.tI.y5 λb u=>by simp at u⊢;simp[u]) (.zero _ _) e.fr (λ_ h=>(nomatch h)) e.sg.new;have bQ:ey=0:=by rw[yF] at hc;exact yQ.1 hc
  subst bQ;have bR:=Do ah;have sy:=qnt bR;have aI:=bH ny ah;have aN:∀b∈By,b∉Bx:=λb u I=>by have:=aA b u;have:=a4 b I;omega
  have a8:∀b∈By,b∉Y:=λb u I=>by have:=aA b u;have:=a5 b I;omega
  refine⟨?_,?_⟩;have h:=oG h;refine KC h 2 rfl xx<|KC h 0 rfl xy<|oB h λE bS _ _ h=>kH (h.cells 1) (h.cells 3)<|oB h λG bT _ _ h=>kH (h.cells 2) (h.cells 4)<|oE h 1 rfl (fE xx) λbU h _=>ja (h.cells 2)<|oE h 0 rfl (fE xy) λbV h _=>?_;rotate_left;have h:=oG h;refine KC h 2 rfl xx<|KC h 0 rfl xy<|oB h λG bS _ _ h=>kH (h.cells 1) (h.cells 3)<|oB h λE bT _ _ h=>kH (h.cells 2) (h.cells 4)<|oE h 0 rfl (fE xx) λbU h _=>ja (h.cells 2)<|oE h 1 rfl (fE xy) λbV h _=>?_;have h:=Fm h (List.Perm.swap _ _ _);all_goals
   obtain⟨xl,nl,Bl,xr,nr,Br,hP⟩:∃xl nl Bl xr nr Br,(side<c/\xl=xy/\nl=ny/\Bl=By/\xr=xx/\nr=nx/\Br=Bx)\/(¬side<c/\xl=xx/\nl=nx/\Bl=Bx/\xr=xy/\nr=ny/\Br=By):=by by_cases Q:side<c;exact⟨_,_,_,_,_,_,.inl ⟨Q,rfl,rfl,rfl,rfl,rfl,rfl⟩⟩;exact⟨_,_,_,_,_,_,.inr ⟨Q,rfl,rfl,rfl,rfl,rfl,rfl⟩⟩
   refine jf (λ_ w'=>ed [G,E,C,O,J,r3,r1] w' w' [(G,.c (fE xr) ND),(E,.c (fE xl) ND),(C,.c (fE xy) ND),(O,.c (fE gp) ND),(J,.c (fE xx) ND),(r3,.c (fE x) ND),(r1,.c (qe (lg k v pb t)) WK)]/\
    Ed dbk pb FD D j (Bn++(Bx++F)) Bn w0 w' [G,E,C,O,J,r3,r1] (By++(Bx++Y)) F M x n Bn/\qm FD F w' [G,E,C,O,J,r3,r1] (Bn++(By++(Bx++Y))) xx nx Bx/\qm FD F w' [G,E,C,O,J,r3,r1] (Bn++(By++(Bx++Y))) xy ny By) ?_ ?_
   apply eV<;>intro hc;have Q:side<c:=(by have:=zC hc;omega);rcases hP with ⟨_,rfl,rfl,rfl,rfl,rfl,rfl⟩|⟨hn,_⟩;have h:=oG h;exact KC h 2 rfl xl<|KC h 4 rfl xr<|oE h 1 rfl (fE xl) λcv h _=>ja (h.cells 4)<|oE h 0 rfl (fE xr) λcw h _=>⟨nf h (.refl _),e.J0 h,ox.J0 h,oy.J0 h⟩;exact absurd Q hn;have Q:¬side<c:=(by have:=zB hc;omega);rcases hP with ⟨hn,_⟩|⟨_,rfl,rfl,rfl,rfl,rfl,rfl⟩;exact absurd hn Q;exact⟨nf h (.refl _),e.J0 h,ox.J0 h,oy.J0 h⟩;rintro _ cx ⟨h,e,ox,oy⟩;refine KC h 6 rfl (Ef k v)<|KC h 2 rfl xy ?_;have ly:qE xy ny:=(oy.node.rd (S:=[]) (λ_ _ h=>(nomatch h)) λ_ h=>nomatch h).lens;refine qAb ly λai bW=>?_;have h:=h.q8 bW;have e:=e.J0 h;have ox:=ox.J0 h;have oy:=oy.J0 h;have h:=nf h (.refl _);apply eV<;>intro hc;have aC:¬jS ny k v:=by rw[zT] at hc;exact zB hc
   rw[qxL ah aC] at V;have hj:(if side<c then ny else nx)=nl/\(if side<c then nx else ny)=nr:=by rcases hP with ⟨h1,_,h2,_,_,h3,_⟩|⟨h1,_,h2,_,_,h3,_⟩;rw[iP h1,iP h1,h2,h3];exact⟨rfl,rfl⟩;rw[iN h1,iN h1,h2,h3];exact⟨rfl,rfl⟩
   rw[ay,hj.1,hj.2] at V;have e:=e.sub (T1:=[G,E,C,O,J,r3,r1]) λb u=>u;have aO:qm FD F ai [G,E,C,O,J,r3,r1] (Bn++(By++(Bx++Y))) xl nl Bl:=by rcases hP with ⟨_,rfl,rfl,rfl,_⟩|⟨_,rfl,rfl,rfl,_⟩<;>assumption
   have bZ:qm FD F ai [G,E,C,O,J,r3,r1] (Bn++(By++(Bx++Y))) xr nr Br:=by rcases hP with ⟨_,_,_,_,rfl,rfl,rfl⟩|⟨_,_,_,_,rfl,rfl,rfl⟩<;>assumption
   have a9:iI nl/\iI nr:=by rcases hP with ⟨_,_,rfl,_,_,rfl,_⟩|⟨_,_,rfl,_,_,rfl,_⟩<;>exact⟨by assumption,by assumption⟩
   have b0:(∀b∈Bl,b∈By\/b∈Bx)/\(∀b∈Br,b∈By\/b∈Bx)/\∀b∈Bl,b∉Br:=by rcases hP with ⟨_,_,_,rfl,_,_,rfl⟩|⟨_,_,_,rfl,_,_,rfl⟩;exact⟨λb u=>.inl u,λb u=>.inr u,aN⟩;exact⟨λb u=>.inr u,λb u=>.inl u,λb u I=>aN b I u⟩
   obtain⟨aD,a',b1⟩:=b0;have aP:∀b,b∈By\/b∈Bx->b∉Bn/\b∉Y:=λb u=>by rcases u with u|u;exact⟨λI=>e.cN b I (by simp[u]),a8 b u⟩;exact⟨λI=>e.cN b I (by simp[u]),d3 b u⟩
   have ao:∀b∈Bl++(Bn++(Br++([G,E,C,O,J,r3,r1]++Y))),b∈[G,E,C,O,J,r3,r1]++(Bn++(By++(Bx++Y))):=λb u=>by have a1:=aD b;have a2:=a' b;rw[zD,zD,zD,zD] at u⊢;rcases u with u|u|u|u|u;rcases a1 u with h|h<;>simp[h];simp[u];rcases a2 u with h|h<;>simp[h];simp[u];simp[u]
   have hZ:∀b∈Zo FD (Bl++(Bn++(Br++([G,E,C,O,J,r3,r1]++Y)))) F,b∈Zo FD ([G,E,C,O,J,r3,r1]++(Bn++(By++(Bx++Y)))) F:=wy ao;refine KC h 6 rfl (lg k v pb t)<|KC h 5 rfl x<|KC h 1 rfl xl<|KC h 0 rfl xr<|qzI (Y:=[G,E,C,O,J,r3,r1]++Y) (e.tw.y5 ao) (aO.node.j6 λb u=>.inl (hZ b u)) (e.node.j6 λb u=>.inl (hZ b u)) (bZ.node.j6 λb u=>.inl (hZ b u)) (λb u=>(aP b (aD b u)).1) b1 (λb u I=>(zD.1 I).elim (λI=>aO.sep b I u) (aP b (aD b u)).2) (λb u I=>(aP b (a' b I)).1 u) (λb u I=>(zD.1 I).elim (λI=>e.sep b I u) (d2 b u)) a9.1 a9.2 sn az a0 λyn B' F' b4 ba bb bc nB nF=>?_;have b5:∀b∈[G,E,C,O,J,r3,r1],b<ai.heap.size:=λb u=>e.tw.tG b (zH _ u);have hS:∀b∈Bn++(Bl++F),b∈Bn++(Bx++F)\/w0.heap.size<=b:=λb u=>by rcases zD.1 u with u|u;exact .inl (by simp[u]);rcases zD.1 u with u|u;rcases aD b u with h1|h1;exact .inr (aA b h1);exact .inl (by simp[h1]);exact .inl (by simp[u])
   have h:=tH h bc λb u I=>by rcases zD.1 I with I|I;exact e.sep b u I;rcases zD.1 I with I|I;exact aO.sep b u I;exact e.tw.yf b (zH _ u) I
   refine oE h 3 rfl (fE yn) λb6 h _=>KC h 3 rfl yn ?_;have bd:∀b∈[G,E,C,O,J,r3,r1]++(B'++Y),b∈B'++([G,E,C,O,J,r3,r1]++Y):=λb u=>by rw[zD,zD] at u⊢;rcases u with u|u|u<;>simp[u]
   have o:qm FD F' b4 [G,E,C,O,J,r3,r1] (B'++Y) yn _ B':=⟨bb.j6 λb u=>.inl (wy bd b u),λb u I=>(nB b I).elim (e.sep b u) λh1=>by have:=b5 b u;omega⟩;have b7:=ba.y5 bd;exact V yn B' F' b6 (TW.J0 (T:=[G,E,C,O,J,r3,r1]) b7 h).j7 ((o.J0 h).node.j6 λb u=>.inl (Cb b u)) ((e.fr.j8 bc hS).j8 h.fr e.sg.own) (λb u=>(nB b u).imp id λh1=>zL e.fr.size h1) λb u=>(nF b u).elim (hS b) λh1=>.inr (zL e.fr.size h1);have aC:jS ny k v:=(by rw[yF] at hc;exact zC hc);rw[qxK ah aC,ay] at V;obtain⟨y1,y2⟩:=qwX a3 aC sy;have e:=e.sub (T1:=[G,E,C,O,J,r3,r1]) λb u=>u;have ox:qm FD F ai [G,E,C,O,J,r3,r1] (Bn++(By++(Bx++Y))) xx nx Bx:=ox;have oy:qm FD F ai [G,E,C,O,J,r3,r1] (Bn++(By++(Bx++Y))) xy ny By:=oy;have bf:∀b∈Bx++(By++([G,E,C,O,J,r3,r1]++(Bn++Y))),b∈[G,E,C,O,J,r3,r1]++(Bn++(By++(Bx++Y))):=λb u=>by rw[zD,zD,zD,zD] at u⊢;rcases u with u|u|u|u|u<;>simp[u]
   have aQ:∀b∈Zo FD (Bx++(By++([G,E,C,O,J,r3,r1]++(Bn++Y)))) F,b∈Zo FD ([G,E,C,O,J,r3,r1]++(Bn++(By++(Bx++Y)))) F:=wy bf;have bg:∀b∈Bx,b∉By:=λb u I=>aN b I u;have aJ:∀b∈Bx,b∉[G,E,C,O,J,r3,r1]++(Bn++Y):=λb u I=>by rcases zD.1 I with I|I;exact ox.sep b I u;rcases zD.1 I with I|I;exact d1 b I u;exact d3 b u I
   have aK:∀b∈By,b∉[G,E,C,O,J,r3,r1]++(Bn++Y):=λb u I=>by rcases zD.1 I with I|I;exact oy.sep b I u;rcases zD.1 I with I|I;exact e.cN b I (by simp[u]);exact a8 b u I
   obtain⟨nk,nv,on⟩:=e.node.Dv (S0:=[]) λ_ _ h=>nomatch h;have ap:i<nk.length:=(by rw[on.vV];exact az);have bh:fq nk[i].2:=(by rw[<- on.pd ap];exact vz on.nb.1 _);have bi:=(on.ek _ (zX ap)).j0 (.refl _ _) λb u=>.inl (aQ b u);have bj:n.J5.getD i []=nk[i].2:=on.pd ap;have bk:=e.tw.y5 bf;have bl:=ox.node.j6 λb u=>.inl (aQ b u);have aF:=oy.node.j6 λb u=>.inl (aQ b u);refine jf (λ_ w'=>∃yl yr r B',ed [G,E,C,O,J,r3,r1] w' w' [(G,.c (fE yr) ND),(E,.c (fE yl) ND),(C,.c (fE xy) ND),(O,.c (fE gp) ND),(J,.c (fE xx) ND),(r3,.c (fE x) ND),(r1,.c (qe (lg k v pb t)) WK)]/\
    Ed dbk pb FD D j (Bn++(Bx++F)) Bn w0 w' [G,E,C,O,J,r3,r1] Y F M x { n with J5:=n.J5.set i r.2.2 } B'/\eY (Zo FD ([G,E,C,O,J,r3,r1]++(B'++Y)) F) w' yl r.1/\eY (Zo FD ([G,E,C,O,J,r3,r1]++(B'++Y)) F) w' yr r.2.1/\
    (if side<c then jU ny nx (n.J5.getD side []) else takeN nx ny (n.J5.getD c []))=r/\r.1.J5.length<=9000/\r.1.J9.length<=9000/\r.1.J8.length<=9000/\r.2.1.J5.length<=9000/\r.2.1.J9.length<=9000/\r.2.1.J8.length<=9000) ?_ ?_
   have bm:∀b∈Bx++F,b∈Bn++(Bx++F)\/w0.heap.size<=b:=λb u=>.inl (zI _ u);have bn:∀b∈Bx++F,b∉Bn/\b∉[G,E,C,O,J,r3,r1]:=λb u=>by rcases zD.1 u with u|u;exact⟨λI=>d1 b I u,λI=>ox.sep b I u⟩;exact⟨λI=>e.tw.yf b (by simp[I]) u,λI=>e.tw.yf b (zH _ I) u⟩
   have bo:∀b∈Bx++F,b∈Zo FD ([G,E,C,O,J,r3,r1]++(Bn++(By++(Bx++Y)))) F:=λb u=>by rcases zD.1 u with u|u<;>simp[u]
   have fd:=(Fr.refl [] ai).drew;apply cD<;>intro aT;have Q:side<c:=oK;have aU:side=i:=(by rw[<- ay,iP Q]);rcases hP with ⟨_,rfl,rfl,rfl,rfl,rfl,rfl⟩|⟨hn,_⟩;have h:=oG h;have e:=e.J0 h;have h:=nf h (.refl _);refine KA h 5 rfl x.2.1<|KC h 1 rfl xl<|KC h 0 rfl xr<|KA h 5 rfl x.2.1<|eE.get (on.rk.q8 fd) i rfl (x:=nk[i].1) (by rw[zQ,zA ap];rfl) (y:=nk[i].1) rfl ?_;have gm:=qxO (key:=nk[i].2) aF.2.1.1 sy sx;refine qzD (Y:=[G,E,C,O,J,r3,r1]++(Bn++Y)) (bk.q8 fd) (aF.q8 fd) (bl.q8 fd) bg aJ aK (bi.q8 fd) bh aI y1 sy sx λyl yr b8 b9 aq hL hR ag aV=>?_;obtain⟨e,h⟩:=e.zp h aq aV bm bn bo λb u=>by simp[u]
   refine ja (h.cell 5)<|oE h 1 rfl (fE yl) λca h _=>ja (h.cell 5)<|oE h 0 rfl (fE yr) λcc h _=>ja (h.cell 5) ?_;have e:=e.J0 h;have hL:=eY.J0 (T:=[G,E,C,O,J,r3,r1]) hL h;have hR:=eY.J0 (T:=[G,E,C,O,J,r3,r1]) hR h;have ag:=sR (T:=[G,E,C,O,J,r3,r1]) ag h;have h:=nf h (.refl _);exact e.C7 h (i:=i) az rfl ag gm.1 λB1 cd e h kp=>⟨yl,yr,_,B1,h,e,kp.node _ _ hL,kp.node _ _ hR,by rw[iP Q,aU,bj],gm.2.1,gm.2.2.1,gm.2.2.2.1,gm.2.2.2.2.1,gm.2.2.2.2.2.1,gm.2.2.2.2.2.2⟩;exact absurd Q hn;have Q:¬side<c:=oK;have aU:c=i:=(by rw[<- ay,iN Q]);rcases hP with ⟨hn,_⟩|⟨_,rfl,rfl,rfl,rfl,rfl,rfl⟩;exact absurd hn Q;have h:=oG h;have e:=e.J0 h;have h:=nf h (.refl _);refine KA h 5 rfl x.2.1<|KC h 1 rfl xl<|KC h 0 rfl xr<|KA h 5 rfl x.2.1<|eE.get (on.rk.q8 fd) i rfl (x:=nk[i].1) (by rw[zQ,zA ap];rfl) (y:=nk[i].1) rfl ?_;have gm:=qyR (key:=nk[i].2) aF.2.1.1 sx sy;refine qAd (Y:=[G,E,C,O,J,r3,r1]++(Bn++Y)) (bk.q8 fd) (bl.q8 fd) (aF.q8 fd) bg aJ aK (bi.q8 fd) bh aI.symm y1 y2 sx sy λyl yr b8 b9 aq hL hR ag aV=>?_;obtain⟨e,h⟩:=e.zp h aq aV bm bn bo λb u=>by simp[u]
   refine ja (h.cell 5)<|oE h 1 rfl (fE yl) λca h _=>ja (h.cell 5)<|oE h 0 rfl (fE yr) λcc h _=>ja (h.cell 5) ?_;have e:=e.J0 h;have hL:=eY.J0 (T:=[G,E,C,O,J,r3,r1]) hL h;have hR:=eY.J0 (T:=[G,E,C,O,J,r3,r1]) hR h;have ag:=sR (T:=[G,E,C,O,J,r3,r1]) ag h;have h:=nf h (.refl _);exact e.C7 h (i:=i) az rfl ag gm.1 λB1 cd e h kp=>⟨yl,yr,_,B1,h,e,kp.node _ _ hL,kp.node _ _ hR,by rw[iN Q,aU,bj],gm.2.1,gm.2.2.1,gm.2.2.2.1,gm.2.2.2.2.1,gm.2.2.2.2.2.1,gm.2.2.2.2.2.2⟩;rintro _ cB ⟨yl,yr,r,B',h,e,hL,hR,hr,q1,q2,q3,q4,q5,q6⟩;have aG:i<n.J8.length:=oK;rw[hr] at V;unfold pJ at V;rw[wU aG,wU ak] at V;have h:=oG h;have e:=e.J0 h;have hL:=eY.J0 (T:=[G,E,C,O,J,r3,r1]) hL h;have hR:=eY.J0 (T:=[G,E,C,O,J,r3,r1]) hR h;have h:=nf h (.refl _);refine KA h 5 rfl x.2.2.2<|KC h 6 rfl (lg k v pb t)<|KA h 5 rfl x.2.2.2<|eE.get e.y9 i rfl (x:=n.J8[i]) (zA aG) (y:=n.J8[i]) rfl<|KC h 1 rfl yl<|yu e.tw hL oK oK oK λF1 cE bp bq bt=>?_;obtain⟨e,h⟩:=e.next h bp bq bt
   have hR:=hR.next bq bt;have aX:iZ (ee k v M n.J8[i] r.1).1.1:=yb hT.wf (hn.2.1.2.2 _ (zX aG));generalize ee k v M n.J8[i] r.1=ce at V e aX⊢;obtain⟨⟨a1,bu⟩,M1⟩:=ce;dsimp only at V e aX⊢;refine ja (h.cell 5)<|e.qa h (i:=i) aG rfl aX λB1 cF e h kp=>?_;have hR:=kp.node _ _ hR;apply eV<;>intro au;have an:bu≠0:=(by rw[zT] at au;exact zR.1 au);rw[iP an] at V;refine oE h 3 rfl (fE gp) λbv h _=>KC h 3 rfl gp ?_;have e:=e.J0 h;exact V gp [] F1 bv e.tI.j7 (.zero _ _) e.fr (λ_ h=>(nomatch h)) e.sg.new;have an:¬bu≠0:=(by rw[yF] at au;exact λh=>h (yQ.1 au));rw[iN an] at V;have bx:(n.J8.set i a1)[i+1]?=some n.J8[i+1]:=(by rw[List.getElem?_set_ne oK,zA ak]);have h:=oG h;have e:=e.J0 h;have hR:=eY.J0 hR h;have h:=nf h (.refl _);refine KA h 5 rfl x.2.2.2<|KC h 6 rfl (lg k v pb t)<|KA h 5 rfl x.2.2.2<|eE.get e.y9 (i+1) rfl (x:=n.J8[i+1]) bx (y:=n.J8[i+1]) rfl<|KC h 0 rfl yr<|yu e.tw hR oK oK oK λF2 cp aY bz bA=>?_;have aZ:iZ (ee k v M1 n.J8[i+1] r.2.1).1.1:=yb e.tw.wf (hn.2.1.2.2 _ (zX ak));obtain⟨e,h⟩:=e.next h aY bz bA
   generalize ee k v M1 n.J8[i+1] r.2.1=cf at V e aZ⊢;obtain⟨⟨a2,cG⟩,M2⟩:=cf;dsimp only at V e aZ⊢;refine ja (h.cell 5)<|e.qa h (i:=i+1) (by dsimp only;rw[xI];exact ak) rfl aZ λB2 cq e h _=>KC h 5 rfl x<|oE h 3 rfl (fE x) λbB h _=>KC h 3 rfl x ?_;have e:=e.J0 h;exact V x B2 F2 bB e.tw.j7 (e.node.j6 λb u=>.inl (Cb b u)) e.fr e.cK e.sg.new
end
section
section
variable {D:dV} {M M1:eZ} {k v f side c i:Nat} {key:Key} {p e0 e1:Int} {n nx N:dW}
def FO{α:Type}{l:List α}{i:Nat}(h:i<l.length):(iX l i).length+1=l.length:=by unfold iX;rw[zF,yM,yC];omega
def qna{l r:dW}(sn:iI n)(u:n.Q3=false)(hi:i<n.J5.length)(h:(mZ k v M n i l r).1.2=0):iI (mZ k v M n i l r).1.1:=by have J:=sn.inner u;obtain⟨_,_,O,G,Q⟩:=sn;unfold mZ at h⊢;split;rename_i C;rw[iP C] at h;exact absurd h C;rename_i C;rw[iN C] at h;split;rename_i E;rw[iP E] at h;exact absurd h E;have I:=FO (l:=n.J8.set i (ee k v M (n.J8.getD i 0) (mc l r (n.J5.getD i []))).1.1) (i:=i+1) (by rw[xI];omega);have R:=FO hi;rw[xI] at I;exact⟨(λh=>by rw[u] at h;cases h),λ_=>by dsimp only;omega,by dsimp only;omega,G,by dsimp only;omega⟩
def qmU{r:dW×dW×Key}(sn:iI n)(u:n.Q3=false)(h:(pJ k v M n i r).1.2=0):iI (pJ k v M n i r).1.1:=by have E:=sn.inner u;obtain⟨_,_,G,I,J⟩:=sn;unfold pJ at h⊢;split;rename_i C;rw[iP C] at h;exact absurd h C;exact⟨(λh=>by rw[u] at h;cases h),λ_=>by dsimp only;rw[xI,xI,xI];exact E,by dsimp only;rw[xI];exact G,I,by dsimp only;rw[xI,xI];exact J⟩
def qub(sn:iI n)(u:n.Q3=false)(I:side+1=c\/c+1=side)(O:side<n.J8.length)(J:c<n.J8.length)(h:(k9 D k v M n side c nx).1.2=0):iI (k9 D k v M n side c nx).1.1:=by have Q:=sn.inner u;unfold k9 at h⊢;split;rename_i G;rw[iP G] at h;exact absurd h G;rename_i G;rw[iN G] at h;split;rename_i C;rw[iP C] at h;split;rename_i E;rw[iP E] at h;exact qna sn u oK h;rename_i E;rw[iN E] at h;exact qmU sn u h;rename_i C;rw[iN C] at h;split;rename_i E;rw[iP E] at h;exact qna sn u oK h;rename_i E;rw[iN E] at h;exact qmU sn u h
def jQ (c:Nat):Nat:=if c>0 then c-1 else c+1
def qzq(h:dU D M k v p=(n,e0))(u:e0≠0):jg D k v key (f+1) M p=((jr,e0),M):=by unfold jg;rw[h,iP u]
def qzr(h:dU D M k v p=(n,0))(u:n.Q3=true)(C:n.J5[dY n.J5 key]?=some key):jg D k v key (f+1) M p=(({ n with J5:=iX n.J5 (dY n.J5 key),J9:=iX n.J9 (dY n.J5 key) },0),M):=by unfold jg;rw[h,iN λh=>h rfl,iP u,iP C]
def qxw(h:dU D M k v p=(n,0))(u:n.Q3=true)(C:¬n.J5[dY n.J5 key]?=some key):jg D k v key (f+1) M p=((jr,5),M):=by unfold jg;rw[h,iN λh=>h rfl,iP u,iN C]
def qxv(h:dU D M k v p=(n,0))(u:¬n.Q3=true)(C:jg D k v key f M (n.J8.getD (eT n.J5 key) 0)=((N,e1),M1))(E:e1≠0):jg D k v key (f+1) M p=((jr,e1),M1):=by unfold jg;rw[h,iN λh=>h rfl,iN u];dsimp only;rw[C,iP E]
def qxu(h:dU D M k v p=(n,0))(u:¬n.Q3=true)(C:jg D k v key f M (n.J8.getD (eT n.J5 key) 0)=((N,0),M1))(E:¬qS N k v):jg D k v key (f+1) M p = (({ n with J8:=n.J8.set (eT n.J5 key) (ee k v M1 (n.J8.getD (eT n.J5 key) 0) N).1.1 },(ee k v M1 (n.J8.getD (eT n.J5 key) 0) N).1.2),(ee k v M1 (n.J8.getD (eT n.J5 key) 0) N).2):=by unfold jg;rw[h,iN λh=>h rfl,iN u];dsimp only;rw[C,iN λh=>h rfl,iP E]
def qxt(h:dU D M k v p=(n,0))(u:¬n.Q3=true)(C:jg D k v key f M (n.J8.getD (eT n.J5 key) 0)=((N,0),M1))(E:qS N k v):jg D k v key (f+1) M p=k9 D k v M1 n (jQ (eT n.J5 key)) (eT n.J5 key) N:=by unfold jg jQ;rw[h,iN λh=>h rfl,iN u];dsimp only;rw[C,iN λh=>h rfl,iN λh=>h E];split<;>rfl
def ot (D:dV) (k v:Nat) (key:Key):Nat->eZ->Int->Prop
 | 0,_,_=>False
 | f+1,M,p=>∀n,dU D M k v p=(n,0)->n.Q3=false->ot D k v key f M (n.J8.getD (eT n.J5 key) 0)/\
  ∀N M1,jg D k v key f M (n.J8.getD (eT n.J5 key) 0)=((N,0),M1)->qS N k v->∀ny,dU D M1 k v (n.J8.getD (jQ (eT n.J5 key)) 0)=(ny,0)->ny.Q3=N.Q3
end
section
variable {dbk pb j:Nat} {FD S S0 N0 Y Y1 F F' T B By:KD} {D:dV} {w0 wa w w' w7:Kv} {M M':eZ} {L:KK} {x xy:lJ} {n ny:dW} {k v:Nat} {t:Int}
def Ed.Ak(e:Ed dbk pb FD D j S0 N0 w0 w (fY L) Y F M x n B)(h:ed T wa w L)(J:TW dbk pb FD D j w7 (By++(fY L++(B++Y))) F' M')(Q:fU (Zo FD (By++(fY L++(B++Y))) F') w7 xy ny By)(f:Fr F w w7)(O:∀b∈F',b∈F\/w.heap.size<=b)(I:∀c∈By,w.heap.size<=c): Ed dbk pb FD D j S0 N0 w0 w7 (fY L) (By++Y) F' M' x n B/\ed (fY L) w7 w7 L/\qm FD F' w7 (fY L) (B++(By++Y)) xy ny By:=by
 have C:∀b∈fY L++(B++(By++Y)),b∈By++(fY L++(B++Y)):=λb u=>by simp only[zD] at u⊢;rcases u with u|u|u|u<;>simp[u]
 obtain⟨e1,E⟩:=e.next h (J.y5 λb u=>zI _ u) f O;refine⟨⟨e1.sg,J.y5 C,e.node.j0 f (λb u G=>e.tw.yf b (by simp[u]) G) (λb u=>.inl (ym u)) λb u=>?_,e1.sep,e1.cK,e1.cU,λb u G=>?_⟩,E,Q.j6 λb u=>.inl (wy C b u),λb u G=>?_⟩;simp only[Zo,zD,zG] at u⊢;rcases u with (u|u|u|u|u|u)|u;simp[u];simp[u];simp[u];simp[u];exact .inr (I b u);simp[u];exact (O b u).imp (λh=>.inr h) id;rcases zD.1 G with E|E;have:=e.node.lt b u;have:=I b E;omega;exact e.cN b u E;have:=AJ h b u;have:=I b G;omega
def Ed.less(e:Ed dbk pb FD D j S0 N0 w0 w T Y F M x n B)(C:∀b∈Y1,b∈Y):Ed dbk pb FD D j S0 N0 w0 w T Y1 F M x n B:=by
 have E:∀b∈T++(B++Y1),b∈T++(B++Y):=λb u=>by simp only[zD] at u⊢;rcases u with u|u|u;simp[u];simp[u];simp[C b u]
 exact⟨e.sg,e.tw.y5 E,e.node.j6 λb u=>.inl (wy E b u),e.sep,e.cK,e.cU,λb u h=>e.cN b u (C b h)⟩
def qAU{L':KK}(E:TW dbk pb FD D j w (B++(T++Y)) F M)(G:fU (Zo FD (B++(T++Y)) F) w x n B)(I:∀b∈T,b∉B)(h:ed T w w' L'): TW dbk pb FD D j w' (B++Y) F M/\fU (Zo FD (B++Y) F) w' x n B:=by
 have C:∀b∈T++(B++Y),b∈B++(T++Y):=λb u=>by rw[zD,zD] at u⊢;rcases u with u|u|u<;>simp[u]
 have o:qm FD F w T (B++Y) x n B:=⟨G.j6 λb u=>.inl (wy C b u),I⟩;exact⟨(TW.J0 (E.y5 C) h).j7,(o.J0 h).node.j6 λb u=>.inl (Cb b u)⟩
set_option maxHeartbeats 2000000 in
def Jn{ks:Sl}{key:Key}(ax:fq key)(am:je k v):∀(f:Nat) {Y F:KD} {w0:Kv} {M:eZ} {p:Int} {K:lJ×Int->WP} (hT:TW dbk pb FD D j w0 Y F M) (hp:iZ p) (hk:eO (Zo FD Y F) w0 ks key) (O:ot D k v key f M p) (kk:∀yn B' F' w',((jg D k v key f M p).1.2=0->iI (jg D k v key f M p).1.1)->TW dbk pb FD D j w' (B'++Y) F' (jg D k v key f M p).2->fU (Zo FD (B'++Y) F') w' yn (jg D k v key f M p).1.1 B'->Fr F w0 w'->(∀b∈B',w0.heap.size<=b)->(∀b∈F',b∈F\/w0.heap.size<=b)->K (yn,(jg D k v key f M p).1.2) w'), cW 192 [.agg (qe (lg k v pb t)),.u p,ks.v] [.agg eJ,.one .i] w0 K
 | 0,_,_,_,_,_,_,_,_,_,O,_=>O.elim
 | f+1,Y,F,w0,M,p,K,hT,hp,hk,O,kk=>by
  refine qoi ?_;have h:=oF [] w0;have g:=Sg.start F w0;refine oB h λr1 w2 _ _ h=>oB h λr3 w4 _ _ h=>KC h 1 rfl (lg k v pb t) ?_;rcases Q:dU D M k v p with ⟨n,e0⟩;refine Dp (k:=k) (v:=v) (hT.cI h) hp λx B w7 bf aF f7 bg=>?_;rw[Q] at aF⊢;dsimp only at aF;obtain⟨e,h⟩:=Ed.load (N0:=[]) (λ_ h=>nomatch h) g h bf aF f7 bg λb C=>yE (hT.tG b C) h.fr.size;refine oB h λr8 w9 _ _ h=>oE h 0 rfl (fE x) λbR h _=>?_;have ao:∀ {e:Int} {M':eZ} {F':KD} {w'},jg D k v key (f+1) M p=((jr,e),M')->e≠0->TW dbk pb FD D j w' Y F' M'->Fr F w0 w'->(∀b∈F',b∈F\/w0.heap.size<=b)->K (gp,e) w':=λhe bh bi fr hF=>by
   have:=kk gp [] _ _ (λh=>by rw[he] at h;exact absurd h bh) (by rw[he];exact bi) (by rw[he];exact .zero _ _) fr (λ_ h=>nomatch h) hF;rw[he] at this;exact this
  apply eV<;>intro R;have aA:e0≠0:=by rw[zT] at R;exact zR.1 R
  refine oE h 1 rfl (fE gp) λbU h _=>KC h 1 rfl gp ?_;have e:=e.J0 h;exact ao (qzq Q aA) aA e.tI.j7 e.fr e.sg.new;have bj:e0=0:=by rw[yF] at R;exact yQ.1 R
  subst bj;have hr:=Do Q;have sn:=qnt hr;obtain⟨l1,l2,l3,l4,l5⟩:=yi hr;have e:=e.J0 h;have h:=nf h (.refl _);have aQ:x.1=n.Q3:=e.node.1;refine KA h 0 rfl x.1 ?_;apply eV<;>intro R;rw[aQ] at R;obtain⟨l6,l7⟩:=l4 R;refine KC h 0 rfl x<|Gu e.cD (e.cX hk) ax hr.2.2.1 oK λbZ bk=>?_;obtain⟨e,h⟩:=e.cH h bk;have b0:=G0 n.J5 key;apply eV<;>intro U;rw[zT] at U;have aR:=zB U;refine oE h 1 rfl (fE gp) λb1 h _=>KC h 1 rfl gp ?_;have e:=e.J0 h;exact ao (qxw Q R aR) oN e.tI.j7 e.fr e.sg.new;rw[yF] at U;have aT:=zC U;have aU:=(zP.1 aT).1;have aa:=qzr (f:=f) Q R aT;have ew:wrap .i64 ((dY n.J5 key:Int)+1)=((dY n.J5 key+1:Nat):Int):=ud oK;rw[aa] at kk;have h:=oG h;refine KA h 0 rfl x.2.1<|KA h 0 rfl x.2.2.1 ?_;have e:=e.J0 h;dsimp only;refine e.Dt h (i:=dY n.J5 key) aU rfl ew oK λai B1 b2 e h _=>ja (h.cell 0)<|e.Hd h (i:=dY n.J5 key) oO rfl ew oO λap B2 b3 e h _=>oE h 0 rfl (fE (x.1,ai,x.2.2.1,x.2.2.2)) λb4 h _=>oE h 0 rfl (fE (x.1,ai,ap,x.2.2.2)) λb5 h _=>KC h 0 rfl (x.1,ai,ap,x.2.2.2)<|oE h 1 rfl (fE (x.1,ai,ap,x.2.2.2)) λbm h _=>KC h 1 rfl (x.1,ai,ap,x.2.2.2) ?_;have e:=e.J0 h;have k1:=FO aU;have k2:=FO (l:=n.J9) (i:=dY n.J5 key) oK;exact kk (x.1,ai,ap,x.2.2.2) B2 F bm (λ_=>⟨λ_=>by dsimp only;omega,(λh=>by dsimp only at h;rw[R] at h;cases h),by dsimp only;omega,by dsimp only;omega,by dsimp only;omega⟩) e.tw.j7 (e.node.j6 λb C=>.inl (Cb b C)) e.fr (λb C=>(e.cK b C).elim (λh=>nomatch h) id) e.sg.new
  ·rw[aQ] at R;have aG:¬n.Q3=true:=(by rw[R];decide);obtain⟨l6,l7,l8⟩:=l5 R;obtain⟨G,V⟩:=O n Q R;refine KC h 0 rfl x<|D8 e.cD (e.cX hk) ax hr.2.2.1 oK λb6 bn=>?_;obtain⟨e,h⟩:=e.cH h bn;have bo:=Ce n.J5 key;have aq:=λN e1 M1 he=>qxv (key:=key) (f:=f) (N:=N) (e1:=e1) (M1:=M1) Q aG he;have U:=λN M1 he=>qxu (key:=key) (f:=f) (N:=N) (M1:=M1) Q aG he;have aH:=λN M1 he=>qxt (key:=key) (f:=f) (N:=N) (M1:=M1) Q aG he;generalize b7:eT n.J5 key=c at bo G V aq U aH⊢;have ab:c<n.J8.length:=oK;have bp:n.J8.getD c 0=n.J8[c]:=wU ab;rw[bp] at G V aq U aH;have hu:iZ n.J8[c]:=e.node.2.1.2.2 _ (zX ab);rcases aj:jg D k v key f M n.J8[c] with ⟨⟨N1,e1⟩,M1⟩;have aq:=aq N1 e1 M1 aj;refine⟨?a,?b⟩;case' a=>
    have h:=oG h;have e:=e.J0 h;refine KC h 2 rfl (lg k v pb t)<|KA h 0 rfl x.2.2.2<|eE.cS e.y9 c rfl ab λbt hh=>?_;have hz:=e.fr.size;refine Jn ax am f e.tw hu (e.cX hk) G λxx Bx F1 bv al ac I aI ad aJ=>?_;rw[aj] at al ac I⊢;dsimp only at al I⊢;obtain⟨e,h,ox⟩:=e.Ak h ac I aI aJ ad;refine oB h λJ bx _ _ h=>nM (hh _ _ (e.J0 h).y9) (h.cell 1) (h.cells 3)<|oE h 0 rfl (fE xx) λbz h _=>?_;have az:∀b∈Bx,w0.heap.size<=b:=λb C=>zL hz (ad b C);have ox:=ox.J0 h;have e:=e.J0 h;have h:=nf h (.refl _)
   case' b=>
    have h:=oG h;have e:=e.J0 h;have h:=nf h (.refl _);refine KC h 2 rfl (lg k v pb t)<|KA h 0 rfl x.2.2.2<|eE.cS e.y9 c rfl ab λbt hh=>oB h λJ bx _ _ h=>?_;have e:=e.J0 h;refine nM (hh _ _ e.y9) (h.cell 1) (h.cells 3) ?_;have hz:=e.fr.size;refine Jn ax am f e.tw hu (e.cX hk) G λxx Bx F1 bv al ac I aI ad aJ=>?_;rw[aj] at al ac I⊢;dsimp only at al I⊢;obtain⟨e,h,ox⟩:=e.Ak h ac I aI aJ ad;refine oE h 0 rfl (fE xx) λbz h _=>?_;have az:∀b∈Bx,w0.heap.size<=b:=λb C=>zL hz (ad b C);have ox:=ox.J0 h;have e:=e.J0 h;have h:=nf h (.refl _)
   all_goals
    apply eV<;>intro hq;have aB:e1≠0:=by rw[zT] at hq;exact zR.1 hq
    refine oE h 2 rfl (fE gp) λb8 h _=>KC h 2 rfl gp ?_;have e:=e.J0 h;exact ao (aq aB) aB (e.tI.y5 λb C=>by simp[C]) e.fr e.sg.new;have bA:e1=0:=by rw[yF] at hq;exact yQ.1 hq
    subst bA;have sx:=al rfl;refine KC h 3 rfl (Ef k v)<|KC h 0 rfl xx ?_;have lx:qE xx N1:=(ox.node.rd (S:=[]) (λ_ _ h=>(nomatch h)) λ_ h=>nomatch h).lens;refine qBZ lx λaf aY=>?_;obtain⟨e,h⟩:=e.cH h aY;have ox:=ox.q8 aY;apply eV<;>intro ar;have ah:¬qS N1 k v:=by rw[zT] at ar;exact zB ar
    have aa:=U N1 M1 aj ah;rw[aa] at kk;have h:=oG h;have e:=e.J0 h;have ox:=ox.J0 h;have h:=nf h (.refl _);refine KA h 1 rfl x.2.2.2<|KC h 3 rfl (lg k v pb t)<|KA h 1 rfl x.2.2.2<|eE.get e.y9 c rfl (x:=n.J8[c]) (zA ab) (y:=n.J8[c]) rfl<|KC h 0 rfl xx ?_;have z1:=sx.J5;have z2:=sx.J9;have z3:=sx.J8;have bB:eY (Zo FD (fY _++(B++Y)) F1) af.drew xx N1:=ox.node.rd (λb C E=>by
     have hs:=e.tw.sep b (by simp[C]);rcases zD.1 E with E|E;rcases zD.1 E with E|E;exact hs.1 E;rcases zG.1 E with E|E;exact hs.2 E;rcases zD.1 E with E|E;exact ox.sep b E C;rcases zD.1 E with E|E;exact e.cN b E (by simp[C]);have:=az b C;have:=hT.tG b E;omega;exact e.tw.yf b (by simp[C]) E) λb C=>.inl (wy (λb C=>by
     rw[zD,zD] at C⊢;rcases C with C|C|C;exact .inl C;exact .inr (by simp[C]);exact .inr (by simp[C])) b C)
    have e:=e.less (Y1:=Y) λb C=>zI _ C;refine yu e.tw bB oK oK oK λF2 ca a0 bC bD=>?_;have aK:iZ (ee k v M1 n.J8[c] N1).1.1:=yb e.tw.wf hu;obtain⟨e,h⟩:=e.next h a0 bC bD;generalize ee k v M1 n.J8[c] N1=st at kk e aK⊢;obtain⟨⟨a1,s1⟩,M2⟩:=st;dsimp only at kk e aK⊢;refine ja (h.cell 1)<|e.qa h (i:=c) ab rfl aK λB2 cc e h _=>KC h 1 rfl x<|oE h 2 rfl (fE x) λbE h _=>KC h 2 rfl x ?_;have e:=e.J0 h;exact kk x B2 F2 bE (λ_=>⟨(λh=>by dsimp only at h;rw[R] at h;cases h),λ_=>by dsimp only;rw[xI];omega,by dsimp only;omega,by dsimp only;omega,by dsimp only;rw[xI];omega⟩) e.tw.j7 (e.node.j6 λb C=>.inl (Cb b C)) e.fr (λb C=>(e.cK b C).elim (λh=>nomatch h) id) e.sg.new;have ah:qS N1 k v:=by rw[yF] at ar;exact zC ar
    have aa:=aH N1 M1 aj ah;have bF:=V N1 M1 aj ah;rw[aa] at kk;have e:=e.sub (T1:=[J,r8,r3,r1]) λb C=>C;have ox:qm FD F1 af [J,r8,r3,r1] (B++(Bx++Y)) xx N1 Bx:=ox;have ag:∀b∈B++(Bx++([J,r8,r3,r1]++Y)),b∈[J,r8,r3,r1]++(B++(Bx++Y)):=λb C=>by rw[zD,zD,zD] at C⊢;rcases C with C|C|C|C<;>simp[C]
    have bG:∀b∈Bx,b∉Y:=λb C E=>by have:=az b C;have:=hT.tG b E;omega
    have a2:jQ c+1=c\/c+1=jQ c:=(by unfold jQ;split<;>omega);have hs:jQ c<n.J8.length:=(by unfold jQ;split<;>omega);have aC:=λ{K':lJ×Int->WP} (bH)=>qzz (t:=t) (pb:=pb) (j:=j) (dbk:=dbk) (Y:=[J,r8,r3,r1]++Y) (K:=K') (e.tw.y5 ag) (e.node.j6 λb C=>.inl (wy ag b C)) (ox.node.j6 λb C=>.inl (wy ag b C)) (λb C E=>e.cN b C (zH _ E)) (λb C E=>(zD.1 E).elim (λE=>e.sep b E C) λE=>e.cN b C (zI _ E)) (λb C E=>(zD.1 E).elim (λE=>ox.sep b E C) (bG b C)) sn sx R a2 hs ab bF am bH;have a3:=λh0=>qub (D:=D) (M:=M1) (k:=k) (v:=v) (nx:=N1) sn R a2 hs ab h0;have hS:∀b∈B++(Bx++F1),b∈F\/w0.heap.size<=b:=λb C=>by rcases zD.1 C with C|C;exact (e.cK b C).elim (λh=>nomatch h) .inr;rcases zD.1 C with C|C;exact .inr (az b C);exact e.sg.new b C
    have bI:∀b∈[J,r8,r3,r1],b<af.heap.size:=λb C=>e.tw.tG b (zH _ C);have a4:∀b∈[J,r8,r3,r1],b∉B++(Bx++F1):=λb C E=>by rcases zD.1 E with E|E;exact e.sep b C E;rcases zD.1 E with E|E;exact ox.sep b C E;exact e.tw.yf b (zH _ C) E
    generalize k9 D k v M1 n (jQ c) c N1=ev at kk a3 aC;have au:∀ {z:Int},z=(jQ c:Int)->(dT jF (dm r1) af λa5=>dT eJ (dm r8) af λa6=>dT eJ (dm J) af λa7=>
      cW 224 [fy jF a5,fy eJ a6,Value.int IntKind.i64 z,Value.int IntKind.i64 c,fy eJ a7] [i3.agg eJ,i3.one (Cell.int IntKind.i64)] af λaD a8=>
      st (dm r3) (HL.mk eJ aD.1) a8 λaE=>dT eJ (dm r3) aE λa9=>K (a9,aD.2) aE):=λhz=>by
     subst hz;refine KC h 3 rfl (lg k v pb t)<|KC h 1 rfl x<|KC h 0 rfl xx<|aC λyn B' F' cf a' ba bb nB nF=>?_;have h:=tH h bb a4;refine oE h 2 rfl (fE yn) λbJ h _=>KC h 2 rfl yn ?_;obtain⟨bK,bL⟩:=qAU (T:=[J,r8,r3,r1]) a' ba (λb C E=>(nB b E).elim (e.sep b C) λh1=>by have:=bI b C;omega) h;exact kk yn B' F' bJ a3 bK bL ((e.fr.j8 bb hS).j8 h.fr e.sg.own) (λb C=>(nB b C).elim (λh1=>(e.cK b h1).elim (λh=>nomatch h) id) λh1=>zL e.fr.size h1) λb C=>(nF b C).elim (hS b) λh1=>.inr (zL e.fr.size h1)
    apply cD<;>intro aL;have av:0<c:=oK;refine au ?_;unfold jQ;rw[iP av,gu _ oK];omega;have av:¬0<c:=oK;refine au ?_;unfold jQ;rw[iN av,gu _ oK];omega
end
end
section
abbrev RtC:=KR
def uX (x:RtC):Array Kw:=#[.u x.1,.u x.2.1,.u x.2.2]
abbrev RT:Kx:=171
section
variable {S:KD} {w:Kv}
def Hp{vb:Nat}{T':Kx}{h:KQ}{ks:Sl}(C:w.heap[vb]?=some (.cells #[gT ks] T' h))(E:vb∉S)(G:eO S w ks key):kF S w ⟨pW vb,1,1⟩ [(ks,key)]:=
 ⟨⟨rfl,zM _,.inr ⟨vb,0,_,T',h,rfl,C,E,λi x u=>by
  cases i with
  | zero=>cases u;rfl
  | succ i=>simp at u⟩⟩,λp I=>by rw[zE.1 I];exact G⟩
def qBz{vb:Nat}{T':Kx}{C:KQ}{a b:Int}(E:w.heap[vb]?=some (.cells #[.u a,.u b] T' C))(G:vb∉S):eE jD 1 S w ⟨pW vb,2,2⟩ [a,b]:=
 ⟨rfl,zM _,.inr ⟨vb,0,_,T',C,rfl,E,G,λi x h=>by
  match i,h with
  | 0,h=>cases h;rfl
  | 1,h=>cases h;rfl
  | i+2,h=>simp at h⟩⟩
end
section
variable {dbk pb j:Nat} {FD Y F F' T:KD} {D:dV} {w0 w w':Kv} {M M':eZ} {L L':KK} {k v:Nat} {t:Int}
def Gy{b:Nat}(h:TW dbk pb FD D j w Y F M)(C:w.heap.size<=b):b∉Zo FD Y F:=λu=>by have:=h.An b u;omega
set_option maxHeartbeats 1000000 in
def qwr{f:Nat}{ks vs:Sl}{val:Key}{K:Int->WP}(ar:fq key)(au:fq val)(hT:TW dbk pb FD D j w0 Y F M)(hk:eO (Zo FD Y F) w0 ks key)(hv:eO (Zo FD Y F) w0 vs val)(C:(eU M t).1≠0->(jc D k v key val f M (eU M t).1).1.2≠-1)(u:∀F' w',TW dbk pb FD D j w' Y F' (kW D k v t key val f M).2->Fr F w0 w'->(∀b∈F',b∈F\/w0.heap.size<=b)->K (kW D k v t key val f M).1 w'): cW 103 [.agg (qe (lg k v pb t)),ks.v,vs.v] dq w0 K:=by
 refine qkE ?_;have g:=Sg.start F w0;have h:=oF [] w0;obtain⟨u1,u2,u3⟩:=GH hT.wf t;refine oB h λr1 w2 _ _ h=>KA h 0 rfl (pW pb)<|KA h 0 rfl t<|TW.J4 (hT.q8 h.fr) λw6 f6=>?_;have h:=h.q8 f6;unfold kW at u;generalize eU M t=J at u C u1 u2 u3⊢;refine oB h λr7 w8 _ _ h=>oE h 0 rfl (uX J) λw9 h _=>KA h 0 rfl J.1 ?_;apply eV<;>intro hc;have hc:J.1=0:=yQ.1 hc;rw[iP hc] at u;refine KC h 1 rfl (lg k v pb t) ?_;have ag:=hT.cI h;have aM:=xh hk h;have aN:=xh hv h;have g:=g.cH h (.refl [] _);have h:=nf h (.refl _);refine oB h λav bj bk aw h=>oB h λax aO bl aP h=>?_;have bg:=aw.size;have aa:=aw.trans aP;have ae:=ag.q8 aa;have aQ:=Gy ag (b:=av) oK;have aR:=Gy ag (b:=ax) oK;have ah:=Hp (h.at (i:=1) rfl) aQ (aM.q8 aa);have aT:=Hp (h.at (i:=0) rfl) aR (aN.q8 aa);have hx:eY _ aO (true,⟨pW av,1,1⟩,⟨pW ax,1,1⟩,dR) (eQ [(key,val)]):=⟨rfl,⟨λa ha=>by rw[zE.1 ha];exact ar,λa ha=>by rw[zE.1 ha];exact au,λ_ h=>nomatch h⟩,⟨_,ah,rfl⟩,⟨_,aT,rfl⟩,.nil _ _ _ _⟩;refine yu ae hx (zO rfl) (zO rfl) (zO rfl) λF1 aV Q ay aW=>?_;have g:=g.next h ay aW
 have h:=tH (h.sub (.cons _ (.cons _ (.refl _)))) ay λb hb=>ae.yf b (zH _ hb);have hu:iZ (ee k v M 0 (eQ [(key,val)])).1.1:=yb hT.wf wN;unfold lV at u;generalize ee k v M 0 (eQ [(key,val)])=st at u Q hu⊢;obtain⟨⟨q,e⟩,M1⟩:=st;dsimp only at u Q hu⊢;apply eV<;>intro I;have C:e≠0:=by rw[zT] at I;exact zR.1 I
 rw[iP C] at u;exact u F1 aV Q.j7 g.sS g.new;have C:¬e≠0:=by rw[yF] at I;exact λh=>h (yQ.1 I)
 rw[iN C] at u;exact KA h 1 rfl (pW pb)<|KA h 1 rfl t<|TW.tk Q hu ⟨oN,oN⟩ ⟨oN,oN⟩ λaX az aY=>u F1 aX az.j7 (g.sS.j8 aY g.new) g.new;have hc:J.1≠0:=zR.1 hc;rw[iN hc] at u;refine KC h 1 rfl (lg k v pb t)<|KA h 0 rfl J.1<|Il ar au f (hT.cI h) u1 (xh hk h) (xh hv h) (C hc) λgs F1 aA hG O aj aB aZ=>?_;have g:=g.next h aB aZ
 have h:=(hT.cI h).own h aB;generalize jc D k v key val f M J.1=pn at u hG O aj⊢;obtain⟨⟨G,e1⟩,M1⟩:=pn;dsimp only at hG O aj⊢;unfold uF at u;dsimp only at u;refine oB h λaC bn _ _ h=>oE h 0 rfl (sd (vN G gs)) λa0 h _=>?_;apply eV<;>intro I;have C:e1≠0:=by rw[zT] at I;exact zR.1 I
 rw[iP C] at u;exact u F1 a0 (O.J0 h).j7 (g.fr h) g.new;have C:¬e1≠0:=by rw[yF] at I;exact λh=>h (yQ.1 I)
 rw[iN C] at u;refine KA h 0 rfl G.x4<|oE h 1 rfl (uX (G.x4,J.2.1,J.2.2)) λbo h _=>?_;have aD:iZ (if G.J7 then wrap .u32 (J.2.1+1) else J.2.1):=by split;exact AM _;exact u2
 refine jf (λ_ w'=>ed [r7,r1] aA w' [(aC,.c (sd (vN G gs)) GR),(r7,.c (uX (G.x4,(if G.J7 then wrap .u32 (J.2.1+1) else J.2.1),J.2.2)) RT),(r1,.c (qe (lg k v pb t)) WK)]) ?_ ?_;refine KA h 0 rfl G.J7 ?_;apply eV<;>intro E;rw[iP E];refine KA h 1 rfl J.2.1<|oE h 1 rfl (uX (G.x4,wrap .u32 (J.2.1+1),J.2.2)) λbp h _=>h;rw[iN (by rw[E];decide)];exact h;intro _ a1 h;generalize (if G.J7 then wrap .u32 (J.2.1+1) else J.2.1)=V at u aD h;refine jf (λ_ w'=>∃(a c:Int) (F2 T:KD) (M2:eZ) (wa:Kv),Sg F w0 wa F2 T/\TW dbk pb FD D j wa (T++Y) F2 M2/\ed T wa w' [(aC,.c (sd (vN G gs)) GR),(r7,.c (uX (a,V,c)) RT),(r1,.c (qe (lg k v pb t)) WK)]/\iZ a/\iZ c/\
  ∀F' w',TW dbk pb FD D j w' Y F' (fO M2 t a V c).2->Fr F w0 w'->(∀b∈F',b∈F\/w0.heap.size<=b)->K (fO M2 t a V c).1 w') ?_ ?_
 refine KA h 0 rfl G.Q9 ?_;apply eV<;>intro E;have E:G.Q9≠0:=by rw[zT] at E;exact zR.1 E
 rw[iP E] at u;refine KC h 2 rfl (lg k v pb t)<|KA h 0 rfl gs ?_;have R:=TW.J0 (T:=[r7,r1]) O h;have ak:=sR (T:=[r7,r1]) aj h;have g:Sg F w0 a1 F1 (fY _):=g.cH h (.refl [] _);have h:=nf h (.refl _);refine oB h λaE bq bt aF h=>KA h 1 rfl G.x4<|KA h 1 rfl G.Q9<|oB h λaG a2 bu a3 h=>?_;have bh:=aF.size;have aH:=aF.trans a3;have af:=R.q8 aH;have a4:=Gy R (b:=aE) oK;have a5:=Gy R (b:=aG) oK;have ah:=Hp (h.at (i:=1) rfl) a4 (ak.q8 aH);have a6:=qBz (h.at (i:=0) rfl) a5;have hx:eY _ a2 (false,⟨pW aE,1,1⟩,dR,⟨pW aG,2,2⟩) ⟨false,[G.key],[],[G.x4,G.Q9]⟩:=⟨rfl,⟨λa ha=>by rw[zE.1 ha];exact hG.key,λ_ h=>(nomatch h),λa ha=>by simp only[zG,xZ,or_false] at ha;rcases ha with rfl|rfl;exact hG.x4;exact hG.Q9⟩,⟨_,ah,rfl⟩,⟨_,.nil _ _,rfl⟩,a6⟩;refine yu af hx (zO rfl) (zO rfl) (zO rfl) λF2 aI U aJ a7=>?_;have g:=g.next h aJ a7
 have h:=tH (h.sub (.cons _ (.cons _ (.refl _)))) aJ λb hb=>af.yf b (zH _ hb);have hu:iZ (ee k v M1 0 ⟨false,[G.key],[],[G.x4,G.Q9]⟩).1.1:=yb R.wf wN;unfold lV at u;generalize ee k v M1 0 ⟨false,[G.key],[],[G.x4,G.Q9]⟩=st at u U hu⊢;obtain⟨⟨q,e⟩,M2⟩:=st;dsimp only at u U hu⊢;apply eV<;>intro ab;have C:e≠0:=by rw[zT] at ab;exact zR.1 ab
 rw[iP C] at u;exact u F2 aI U.j7 g.sS g.new;have C:¬e≠0:=by rw[yF] at ab;exact λh=>h (yQ.1 ab)
 rw[iN C] at u;exact KA h 1 rfl J.2.2<|oE h 1 rfl (uX (q,V,J.2.2)) λbv h _=>oE h 1 rfl (uX (q,V,wrap .u32 (J.2.2+1))) λbx h _=>⟨q,_,F2,_,M2,aI,⟨g.sS,g.new,λb hb=>g.own b (by simp at hb⊢;rcases hb with h|h|h<;>simp[h])⟩,U,h,hu,AM _,u⟩;have E:¬G.Q9≠0:=by rw[yF] at E;exact λh=>h (yQ.1 E)
 rw[iN E] at u;exact⟨G.x4,J.2.2,F1,[r7,r1],M1,aA,g,O,h,hG.x4,u3,u⟩;rintro _ bz ⟨a,c,F2,T,M2,wa,g,a8,h,ha,a9,u⟩;exact KA h 2 rfl (pW pb)<|KA h 2 rfl t<|KC h 1 rfl (a,V,c)<|TW.tk (a8.J0 h) ha aD a9 λa' aK ba=>u F2 a' aK.j7 ((g.fr h).j8 ba g.new) g.new
end
end
section
section
variable {dbk pb j:Nat} {FD Y F F' T:KD} {D:dV} {w0 w w':Kv} {M M':eZ} {L L':KK} {k v:Nat} {t:Int}
def qm.rd{x:lJ}{n:dW}{B:KD}(o:qm FD F w T (B++Y) x n B)(E:TW dbk pb FD D j w (T++(B++Y)) F M)(C:∀b∈B,b∉Y):eY (Zo FD (T++Y) F) w x n:=
 o.node.rd (λb h u=>by
  have G:=E.sep b (by simp[h]);simp only[Zo,zD,zG] at u;rcases u with (u|u|u|u)|u;exact G.1 u;exact G.2 u;exact o.sep b u h;exact C b h u;exact E.yf b (by simp[h]) u) λb h=>.inl (wy (λb h=>by
  rw[zD] at h;simp only[zD];rcases h with h|h;exact .inl h;exact .inr (.inr h)) b h)
def qm.next{R:KD}{x:lJ}{n:dW}{B:KD}(o:qm FD F w T R x n B)(f:Fr F w w')(h:∀b∈B,b∉F)(u:∀b∈F',b∈F\/w.heap.size<=b):qm FD F' w' T R x n B:=⟨o.node.j0 f h (λb C=>.inl (ym C)) (TW.yc u),o.sep⟩
def qyK{r:KR}{N:dW}:om k v t r ((N,0),M) = if N.Q3=true/\N.J5.length=0 then (if (fX M r.1).1≠0 then ((fX M r.1).1,(fX M r.1).2) else fO (fX M r.1).2 t 0 0 0) else if N.Q3=false/\N.J8.length=1 then (if (fX M r.1).1≠0 then ((fX M r.1).1,(fX M r.1).2) else fO (fX M r.1).2 t (N.J8.getD 0 0) (wrap .u32 (r.2.1-1)) (wrap .u32 (r.2.2-1))) else lV t (ee k v M r.1 N) (wrap .u32 (r.2.1-1)) r.2.2:=by unfold om;rw[iN λh=>h rfl]
set_option maxHeartbeats 1000000 in
def qwQ{f:Nat}{ks:Sl}{K:Int->WP}(aD:fq key)(ak:je k v)(hT:TW dbk pb FD D j w0 Y F M)(hk:eO (Zo FD Y F) w0 ks key)(Q:ot D k v key f M (eU M t).1)(E:∀F' w',TW dbk pb FD D j w' Y F' (mp D k v t key f M).2->Fr F w0 w'->(∀b∈F',b∈F\/w0.heap.size<=b)->K (mp D k v t key f M).1 w'): cW 164 [.agg (qe (lg k v pb t)),ks.v] dq w0 K:=by
 refine qkF ?_;have g:=Sg.start F w0;have h:=oF [] w0;obtain⟨u1,u2,u3⟩:=GH hT.wf t;refine oB h λr1 w2 _ _ h=>KA h 0 rfl (pW pb)<|KA h 0 rfl t<|TW.J4 (hT.q8 h.fr) λw6 f6=>?_;have h:=h.q8 f6;unfold mp at E;generalize eU M t=G at E Q u1 u2 u3⊢;refine oB h λr7 w8 _ _ h=>oE h 0 rfl (uX G) λw9 h _=>KC h 1 rfl (lg k v pb t)<|KA h 0 rfl G.1<|Jn aD ak f (hT.cI h) u1 (xh hk h) Q λx B F1 an af R U ao ac aF=>?_;have aG:=AJ h;have a1:=h.fr.size;have g:=g.next h ao aF
 have h:=(hT.cI h).own h ao;generalize jg D k v key f M G.1=cn at E af R U⊢;obtain⟨⟨N,e1⟩,M1⟩:=cn;dsimp only at af R U⊢;have ap:TW dbk pb FD D j an ([r7,r1]++(B++Y)) F1 M1:=R.y5 λb u=>by rw[zD,zD] at u;simp only[zD];rcases u with u|u|u;exact .inr (.inl u);exact .inl u;exact .inr (.inr u)
 have o:qm FD F1 an [r7,r1] (B++Y) x N B:=⟨U.j6 λb u=>.inl (wy (λb u=>by rw[zD,zD] at u;simp only[zD];rcases u with u|u|u;exact .inr (.inl u);exact .inl u;exact .inr (.inr u)) b u),λb u hm=>by have:=aG b u;have:=ac b hm;omega⟩;have aI:∀b∈B,b∉Y:=λb u hm=>by have:=hT.tG b hm;have:=ac b u;omega
 have I:∀ {T:KD},∀b∈T++Y,b∈T++(B++Y):=λb u=>by rw[zD] at u;simp only[zD];rcases u with u|u;exact .inl u;exact .inr (.inr u)
 refine oB h λaJ a3 _ _ h=>oE h 0 rfl (fE x) λaK h _=>?_;apply eV<;>intro J;have V:e1≠0:=by rw[zT] at J;exact zR.1 J
 have e:om k v t G ((N,e1),M1)=(e1,M1):=(by unfold om;rw[iP V]);rw[e] at E;exact E F1 aK ((TW.J0 (T:=[r7,r1]) ap h).y5 λb u=>by simp[u]) (g.fr h) g.new;have aL:e1=0:=(by rw[yF] at J;exact yQ.1 J);subst aL;rw[qyK] at E;have aa:x.1=N.Q3:=o.node.1;have aq:qE x N:=(o.node.rd (S:=[]) (λ_ _ h=>(nomatch h)) λ_ h=>nomatch h).lens;have ag:iZ (wrap .u32 (G.2.1-1)):=AM _;refine KA h 1 rfl G.2.1<|oE h 1 rfl (uX (G.1,wrap .u32 (G.2.1-1),G.2.2)) λar h _=>?_;generalize wrap .u32 (G.2.1-1)=ab at E ag h;have C:=TW.J0 (T:=[r7,r1]) ap h;have o:=o.J0 h;have g:Sg F w0 ar F1 (fY _):=g.cH h (.refl [] _);have h:=nf h (.refl _);refine jf (λe w'=>∃(a b c:Int) (F2 T:KD) (M2:eZ) (wa:Kv),Sg F w0 wa F2 T/\TW dbk pb FD D j wa (T++Y) F2 M2/\ed T wa w' [(aJ,.c (fE x) ND),(r7,.c (uX (a,b,c)) RT),(r1,.c (qe (lg k v pb t)) WK)]/\iZ a/\iZ b/\iZ c/\
  ∀F' w',TW dbk pb FD D j w' Y F' (if e≠0 then (e,M2) else fO M2 t a b c).2->Fr F w0 w'->(∀b∈F',b∈F\/w0.heap.size<=b)->K (if e≠0 then (e,M2) else fO M2 t a b c).1 w') ?_ ?_
 refine jf (λd w'=>d=decide (N.Q3=true/\N.J5.length=0)/\w'=ar) ?_ ?_;refine KA h 0 rfl x.1 ?_;apply eV<;>intro J;rw[aa] at J;refine KA h 0 rfl x.2.1 ⟨?_,rfl⟩;rw[aq.J5,Ka,yQ,yO];exact⟨λh=>⟨J,oK⟩,λh=>by rw[h.2];rfl⟩;rw[aa] at J;exact⟨(zU λh=>by rw[J] at h;exact absurd h.1 oN).symm,rfl⟩;rintro d aM ⟨rfl,rfl⟩;apply eV<;>intro hd;have hd:=zC hd;rw[iP hd] at E;refine KA h 2 rfl (pW pb)<|KA h 1 rfl G.1<|TW.drop (C.y5 I) λF2 aN au av aO=>?_;have g:=g.next h av aO
 have h:=TW.own (C.y5 I) h av;exact oE h 1 rfl (uX (0,0,0)) λa4 h _=>⟨0,0,0,F2,_,_,aN,g,au,h,wN,wN,wN,E⟩;have hd:=zB hd;rw[iN hd] at E;refine jf (λd w'=>d=decide (N.Q3=false/\N.J8.length=1)/\w'=aM) ?_ ?_;refine KA h 0 rfl x.1 ?_;apply eV<;>intro J;rw[aa,zT] at J;refine KA h 0 rfl x.2.2.2 ⟨?_,rfl⟩;rw[aq.J8,Ka,yQ,yO];exact⟨λh=>⟨J,oK⟩,λh=>by rw[h.2];rfl⟩;rw[aa,yF] at J;exact⟨(zU λh=>by rw[J] at h;exact absurd h.1 oN).symm,rfl⟩;rintro d a5 ⟨rfl,rfl⟩;apply eV<;>intro O;have O:=zC O;rw[iP O] at E;have ai:0<N.J8.length:=oK;rw[wU ai] at E;have aP:iZ N.J8[0]:=o.node.2.1.2.2 _ (zX ai);refine KA h 2 rfl (pW pb)<|KA h 1 rfl G.1<|TW.drop C λF2 aQ aw aj ax=>?_;have g:=g.next h aj ax
 have o:=o.next aj (λb u=>C.yf b (by simp[u])) ax;have h:=TW.own C h aj;have h:=oG h;refine KA h 0 rfl x.2.2.2 ?_;have oR:eY [] _ x N:=(o.J0 h).node.rd (S:=[]) (λ_ _ h=>(nomatch h)) λ_ h=>nomatch h;exact eE.get oR.2.2.2.2 0 rfl (x:=N.J8[0]) (zA ai) (y:=N.J8[0]) rfl<|KA h 1 rfl G.2.2<|oE h 1 rfl (uX (N.J8[0],ab,G.2.2)) λa7 h _=>oE h 1 rfl (uX (N.J8[0],ab,wrap .u32 (G.2.2-1))) λa8 h _=>⟨_,_,_,F2,_,_,aQ,g,aw.y5 I,h,aP,ag,AM _,E⟩;have O:=zB O;rw[iN O] at E;have sx:=af rfl;have z1:=sx.J5;have z2:=sx.J9;have z3:=sx.J8;refine KC h 2 rfl (lg k v pb t)<|KA h 1 rfl G.1<|KC h 0 rfl x<|yu (C.y5 I) (o.rd C aI) oK oK oK λF2 aT ae ay aU=>?_;have az:iZ (ee k v M1 G.1 N).1.1:=yb C.wf u1;have g:=g.next h ay aU
 have h:=TW.own (C.y5 I) h ay;unfold lV at E;generalize ee k v M1 G.1 N=st at E ae az⊢;obtain⟨⟨q,e2⟩,M2⟩:=st;exact oE h 1 rfl (uX (q,ab,G.2.2)) λa9 h _=>⟨q,ab,G.2.2,F2,_,M2,aT,g,ae,h,az,ag,u3,E⟩;rintro e aV ⟨a,b,c,F2,T,M2,wa,g,aA,h,ua,ub,uc,E⟩;apply eV<;>intro O;have V:e≠0:=by rw[zT] at O;exact zR.1 O
 rw[iP V] at E;exact E F2 aV (aA.J0 h).j7 (g.fr h) g.new;have V:¬e≠0:=by rw[yF] at O;exact λh=>h (yQ.1 O)
 rw[iN V] at E;exact KA h 2 rfl (pW pb)<|KA h 2 rfl t<|KC h 1 rfl (a,b,c)<|TW.tk (aA.J0 h) ua ub uc λaW aB aX=>E F2 aW aB.j7 ((g.fr h).j8 aX g.new) g.new
end
end
end
section
open Go Go.Pt List
open Go.IntKind (wrap)
open Classical
variable {key:Key}
def qx8{S:Type}{B:(S->WP)->S->WP}(I:Nat->S->WP)(E:∀f s w (X:S->WP),I f s w->(∀u C w',u<f->I u C w'->X C w')->B X s w):∀(f:Nat) {s:S} {w:Kv},I f s w->loop S B s w:=λf=>by
 induction f using Nat.strongRecOn with
 | ind f ih=>exact λ{s w} h=>Ay λX G=>E f s w X h λu C w' J O=>G _ _ (ih u J O)
noncomputable def p4 (D:dV) (k v:Nat) (key:Key) (M:eZ):Nat->Int->Key×Int
 | 0,p=>if p=0 then ([],5) else ([],-1)
 | f+1,p=>if p=0 then ([],5)
  else if (dU D M k v p).2≠0 then ([],(dU D M k v p).2)
  else if (dU D M k v p).1.Q3 then
   if (dU D M k v p).1.J5[dY (dU D M k v p).1.J5 key]?=some key then ((dU D M k v p).1.J9.getD (dY (dU D M k v p).1.J5 key) [],0) else ([],5)
  else p4 D k v key M f ((dU D M k v p).1.J8.getD (eT (dU D M k v p).1.J5 key) 0)
section
variable {dbk pb j:Nat} {FD Y F F' T:KD} {D:dV} {w0 w w':Kv} {M M':eZ} {k v:Nat} {t:Int}
def quI{f:Nat}{ks:Sl}{K:KN->WP}(ae:fq key)(hs:uR t=((k:Int),(v:Int)))(av:k≠0)(aX:key.length=k)(hT:TW dbk pb FD D j w0 Y F M)(hk:eO (Zo FD Y F) w0 ks key)(Q:(p4 D k v key M f (eU M t).1).2≠-1)(kk:∀s w',(∀G:KD,(∀b∈G,b<w0.heap.size)->eO G w' s (p4 D k v key M f (eU M t).1).1)->Fr [] w0 w'->K (s,(p4 D k v key M f (eU M t).1).2) w'): cW 42 [dQ pb,.i t,ks.v] dt w0 K:=by
 refine quF ?_;have aO:=hk.1;refine GY (k:=k) (v:=v) hs (λh=>absurd h av) (λ_ h=>absurd oK h) λ_ _ w2 f2=>?_;have h:=(oF [] w0).q8 f2;refine oB h λr3 w4 _ _ h=>oE h 0 rfl (qe (lg k v pb t)) λw5 h _=>JU rfl<|TW.J4 (hT.q8 h.fr) λw7 f7=>?_;have h:=h.q8 f7;have hu:=(GH hT.wf t).1;generalize eU M t=rt at kk Q hu⊢;generalize ag:p4 D k v key M f rt.1=ah at kk Q;refine jf (λ_ w'=>ah=([],5)/\Fr [] w0 w') ?_ ?_
 ·refine qx8 (λf s w'=>p4 D k v key M f s=ah/\iZ s/\ed [] w0 w' [(r3,.c (qe (lg k v pb t)) WK)]) ?_ f ⟨ag,hu,h⟩;rintro f s a1 X ⟨u,ay,h⟩ hX;apply eV<;>intro V
  ·have R:s≠0:=(by rw[zT] at V;exact zR.1 V);cases f with
   | zero=>
    unfold p4 at u;rw[iN R] at u;rw[<- u] at Q;exact absurd rfl Q
   | succ f=>
   unfold p4 at u;rw[iN R] at u;refine KC h 0 rfl (lg k v pb t) ?_;rcases aa:dU D M k v s with ⟨n,e0⟩;rw[aa] at u;dsimp only at u;refine Dp (k:=k) (v:=v) (hT.q8 h.fr) ay λx B az aQ C aA aR=>?_;rw[aa] at C⊢;dsimp only at C⊢;have O:eY [] az x n:=C.rd (λ_ _ h=>(nomatch h)) λ_ h=>nomatch h;have h:=h.q8 aA;have aT:=h.fr;refine oB h λai aB a3 aC h=>?_;have O:eY [ai] aB x n:=(O.j6 (S':=[ai]) λb hb=>by rw[zE.1 hb];exact .inr oK).q8 aC;refine oE h 0 rfl (fE x) λaj h aE=>?_;have O:=O.j0 aE λb hb=>.inl hb;apply eV<;>intro E;have ak:e0≠0:=by rw[zT] at E;exact zR.1 E
   rw[iP ak] at u;subst u;exact kk dR aj (λ_ _=>.nil _ _ _ _) h.fr;have aF:e0=0:=by rw[yF] at E;exact yQ.1 E
   subst aF;rw[iN λh=>h rfl] at u;have hr:=Do aa;obtain⟨l1,l2,l3,l4,l5⟩:=yi hr;have al:x.1=n.Q3:=O.1;refine KA h 0 rfl x.1 ?_;apply eV<;>intro I;have J:n.Q3=false:=(by rw[al,zT] at I;exact I);rw[iN (by rw[J];decide)] at u;obtain⟨l6,l7,l8⟩:=l5 J;have aU:=Ce n.J5 key;have fd:=(Fr.refl [] aj).drew;have h:=oG h;refine KA h 0 rfl x.2.2.2<|KC h 0 rfl x<|D8 (O.q8 fd) (hk.q8 h.fr) ae hr.2.2.1 oK λaG am=>?_;have h:=h.q8 am;refine ja (h.cell 0) ?_;have ab:eT n.J5 key<n.J8.length:=oK;refine eE.get ((O.q8 fd).q8 am).2.2.2.2 (eT n.J5 key) rfl (zA ab) (y:=n.J8[eT n.J5 key]) rfl ?_;rw[wU ab] at u;exact hX f _ aG (Nat.lt_succ_self f) ⟨u,O.2.1.2.2 _ (zX ab),h.sub (Kl _ _)⟩;have J:n.Q3=true:=(by rw[al,yF] at I;exact I);rw[iP J] at u;obtain⟨l6,l7⟩:=l4 J;refine KC h 0 rfl x<|Gu O (hk.q8 h.fr) ae hr.2.2.1 oK λa8 an=>?_;have h:=h.q8 an;apply cD<;>intro ac;have ao:=ac;rw[iP ao] at u;have a9:=(zP.1 ao).1;obtain⟨pv,ap,ad⟩:=(O.q8 an).2.2.2.1;have U:dY n.J5 key<pv.length:=by
    have:=Kr List.length ad;rw[zK] at this;omega
   refine KA h 0 rfl x.2.2.1<|kF.get ap (dY n.J5 key) rfl U ?_;have aq:n.J9.getD (dY n.J5 key) []=pv[dY n.J5 key].2:=(by rw[<- ad,A9 U]);rw[aq] at u;have aH:pv[dY n.J5 key].2.length<=1000000:=by have h1:=hr.2.1 pv[dY n.J5 key].2 (by rw[<- ad];exact zZ (zX U));have h2:=qoz (k:=k) (v:=v) oK;omega
   refine As (ap.2 _ (zX U)) aH λs' B' aI aJ aK aL _ _=>?_;subst u;have ba:=h.fr.size;exact kk s' aI (λG hG=>aJ.k5 mW λc V hm=>by have:=aL c V;have:=hG c hm;omega) (h.fr.trans aK);have ar:=ac;rw[iN ar] at u;exact⟨u.symm,h.fr⟩
  have R:s=0:=(by rw[yF] at V;exact yQ.1 V);refine⟨?_,h.fr⟩;rw[<- u];cases f<;>(unfold p4;rw[iP R])
 rintro _ aM ⟨rfl,aN⟩;exact kk dR aM (λ_ _=>.nil _ _ _ _) aN
def qvu{r h:Int}(u:0<=r)(C:0<=h/\h<=1000000)(E:2*h.toNat+1<=r.toNat):decide (r>wrap .i64 (2*wrap .i64 h))=true:=by rw[gu h oK,gu (2*h) oK];exact yA oK
def qAC{ks vs:Sl}{val:Key}{f:Nat}{K:Int->WP}(Q:fq key)(R:fq val)(hs:uR t=((k:Int),(v:Int)))(U:k≠0)(aj:key.length=k)(V:val.length=v)(hT:TW dbk pb FD D j w0 Y F M)(hk:eO (Zo FD Y F) w0 ks key)(hv:eO (Zo FD Y F) w0 vs val)(aa:0<=(eU M t).2.2/\(eU M t).2.2<=1000000)(ab:2*(eU M t).2.2.toNat+1<=M.Q0.length)(ac:(eU M t).1≠0->(jc D k v key val f M (eU M t).1).1.2≠-1)(kk:∀F' w',TW dbk pb FD D j w' Y F' (kW D k v t key val f M).2->Fr F w0 w'->(∀b∈F',b∈F\/w0.heap.size<=b)->K (kW D k v t key val f M).1 w'): cW 66 [dQ pb,.i t,ks.v,vs.v] dq w0 K:=by refine quG ?_;have am:=hk.1;have ad:=hv.1;have g:=Sg.start F w0;have h:=oF [] w0;refine oB h λr1 w2 _ _ h=>oB h λr3 w4 _ _ h=>KA h 1 rfl ks<|GY (k:=k) (v:=v) hs (λh=>absurd h U) (λ_ h=>absurd oK h) λ_ _ w7 f7=>?_;have h:=h.q8 f7;refine oB h λr8 w9 _ _ h=>oE h 0 rfl (qe (lg k v pb t)) λae h _=>JU rfl<|KA h 1 rfl vs<|KA h 0 rfl (v:Int)<|JU (by rw[ad,V];simp)<|KC h 0 rfl (lg k v pb t) ?_;have u:=hT.cI h;have E:=xh hk h;have G:=xh hv h;have g:Sg F w0 ae F (fY _):=g.cH h (.refl [] _);have h:=nf h (.refl _);refine qfI<|oB h λq1 ap _ _ h=>?_;have h:=oG h;refine KA h 0 rfl (pW pb)<|KA h 0 rfl (pW pb)<|KA h 0 rfl t<|TW.room (u.J0 h)<|kH (h.cell 0) (h.cell 0)<|TW.J4 (u.J0 h) λaq C=>?_;have I:=(u.J0 h).q8 C;have J:=(sR E h).q8 C;have O:=(sR G h).q8 C;have g:=g.cH h C;have h:=tH h C λ_ _ h=>nomatch h;exact JT (qvu oK aa oK)<|rS (lb:=[dQ r8,dQ r1,dQ r3]) rfl oL<|qqw<|KC h 1 rfl (lg k v pb t)<|KA h 3 rfl ks<|KA h 2 rfl vs<|qwr Q R I J O ac λF' w' af f' n'=>kk F' w' af.j7 (g.sS.j8 f' g.new) λb hb=>(n' b hb).elim (g.new b) λh1=>.inr (zL g.sS.size h1)
def qAt{ks:Sl}{f f2:Nat}{K:Int->WP}(J:fq key)(O:je k v)(hs:uR t=((k:Int),(v:Int)))(Q:k≠0)(aa:key.length=k)(hT:TW dbk pb FD D j w0 Y F M)(hk:eO (Zo FD Y F) w0 ks key)(ac:0<=(eU M t).2.2/\(eU M t).2.2<=1000000)(ad:2*(eU M t).2.2.toNat+1<=M.Q0.length)(G:(p4 D k v key M f2 (eU M t).1).2=0)(I:ot D k v key f M (eU M t).1)(kk:∀F' w',TW dbk pb FD D j w' Y F' (mp D k v t key f M).2->Fr F w0 w'->(∀b∈F',b∈F\/w0.heap.size<=b)->K (mp D k v t key f M).1 w'): cW 111 [dQ pb,.i t,ks.v] dq w0 K:=by refine quE ?_;have ai:=hk.1;have g:=Sg.start F w0;have h:=oF [] w0;refine oB h λr1 w2 _ _ h=>KA h 0 rfl ks<|GY (k:=k) (v:=v) hs (λh=>absurd h Q) (λ_ h=>absurd oK h) λ_ _ w7 f7=>?_;have h:=h.q8 f7;refine oB h λr8 w9 _ _ h=>oE h 0 rfl (qe (lg k v pb t)) λal h _=>JU rfl<|KA h 1 rfl ks<|quI (f:=f2) J hs Q aa (hT.cI h) (xh hk h) (by rw[G];decide) λs am _ C=>?_;rw[G];have u:=(hT.cI h).q8 C;have R:=(xh hk h).q8 C;have g:=g.cH h C;have h:=tH h C λ_ _ h=>nomatch h;refine JU rfl<|KC h 0 rfl (lg k v pb t)<|qfI<|oB h λq1 an _ _ h=>?_;have h:=oG h;refine KA h 0 rfl (pW pb)<|KA h 0 rfl (pW pb)<|KA h 0 rfl t<|TW.room (u.J0 h)<|kH (h.cell 0) (h.cell 0)<|TW.J4 (u.J0 h) λao E=>?_;have U:=(u.J0 h).q8 E;have V:=(sR R h).q8 E;have g:=g.cH h E;have h:=tH h E λ_ _ h=>nomatch h;exact JT (qvu oK ac oK)<|rS (lb:=[dQ r8,dQ r1]) rfl oL<|qqv<|KC h 1 rfl (lg k v pb t)<|KA h 2 rfl ks<|qwQ J O U V I λF' w' ae f' n'=>kk F' w' ae.j7 (g.sS.j8 f' g.new) λb hb=>(n' b hb).elim (g.new b) λh1=>.inr (zL g.sS.size h1)
end
end
section
open Go Go.Pt List
open Go.IntKind (wrap)
open Classical
variable {L:gH} {key:Key}
def kY (key:Key) (L:gH):Option Key:=(L.find? λx=>decide (x.1=key)).map (·.2)
def Ji{A B:gH}:kY key (A++B)=match kY key A with|some v=>some v|none=>kY key B:=by unfold kY;rw[List.find?_append];cases A.find? (λx=>decide (x.1=key))<;>rfl
def DA(h:∀x∈L,x.1≠key):kY key L=none:=by unfold kY;rw[List.find?_eq_none.2 λx u=>by simp[h x u]];rfl
def qqX(h:key∈eh L):∃v,kY key L=some v:=by
 unfold kY;obtain⟨x,u,rfl⟩:=mem_map.1 h;cases e:L.find? (λy=>decide (y.1=x.1)) with
 | none=>exact absurd (List.find?_eq_none.1 e x u) oM
 | some y=>exact⟨y.2,rfl⟩
section
variable {D:dV} {M M':eZ} {k v:Nat} {key:Key}
def Has.get:∀ {h:Nat} {s:jh},Has D M k v h s->s.x4≠0->M.Wf->M.Q2=false->p4 D k v key M (h+1) s.x4=match kY key s.y6 with|some x=>(x,0)|none=>([],5)
 | 0,s,hs,hp,hW,ho=>by
  obtain⟨h1,h2,V,h4⟩:=hs;have hl:dU D M k v s.x4=(eQ s.y6,0):=V.load h4;have aa:fT s.y6:=V.right.2.2.1;have aj:(eQ s.y6).J5=eh s.y6:=rfl;unfold p4;rw[iN hp,hl];dsimp only;rw[iN λh=>h rfl,iP (show (eQ s.y6).Q3=true from rfl),aj];by_cases hm:(eh s.y6)[dY (eh s.y6) key]?=some key
  ·rw[iP hm];have hi:dY (eh s.y6) key<s.y6.length:=by
    have:=(zP.1 hm).1;simpa using this
   have ak:=BU (k:=key) aa;have ab:s.y6=s.y6.take (dY (eh s.y6) key)++s.y6[dY (eh s.y6) key]::s.y6.drop (dY (eh s.y6) key+1):=by rw[getElem_cons_drop,xG]
   have I:s.y6[dY (eh s.y6) key].1=key:=(by rw[zQ,zA hi] at hm;simpa using hm);have hg:kY key s.y6=some s.y6[dY (eh s.y6) key].2:=by
    conv=>lhs;rw[ab]
    rw[Ji,DA λx u=>Ch (ak.1 x u)];unfold kY;rw[List.find?_cons_of_pos (by simp[I])];rfl
   rw[hg];show ((List.map (·.2) s.y6).getD _ [],(0:Int))=_;rw[yS,zQ,zA hi];rfl
  rw[iN hm];have hn:key∉eh s.y6:=λh=>hm ((AP aa).2 h);rw[DA λx u e=>hn (by rw[<- e];exact zZ u)]
 | h+1,⟨p,n,L,P⟩,⟨U,h0,h1,h2,V,h4,h5,h6,h7⟩,hp,hW,ho=>by
  dsimp only at h1 h2 V h5 hp;subst h1 h2 V;have hl:dU D M k v p=(dX U,0):=h4.load h5;obtain⟨A,e,B,J,hA,I,al,O⟩:=xi (key:=key) h0 h6;have Q:(dX U).J8.getD (eT (dX U).J5 key) 0=e.2.x4:=O;have am:e∈U:=(by rw[J];simp);obtain⟨R,_⟩:=h7 e am;have aA:=wR hW (R.J3 ho e.2.x4 R.mem);unfold p4;rw[iN hp,hl];dsimp only;rw[iN λh=>h rfl,iN (show ¬(dX U).Q3=true from λe=>nomatch e),Q,R.get oK hW ho];have G:=h6;rw[J] at G;have C:=G.mid;have E:U.flatMap (·.2.y6)=A.flatMap (·.2.y6)++(e.2.y6++B.flatMap (·.2.y6)):=(by rw[J,tF]);have an:∀x∈A.flatMap (·.2.y6),x.1≠key:=λx u=>by obtain⟨a,ha,u⟩:=yL.1 u;exact Ch (uf (C.1 a ha x u) I)
  have ao:∀x∈B.flatMap (·.2.y6),x.1≠key:=λx u=>by obtain⟨b,hb,u⟩:=yL.1 u;exact (Ch (uf (al b hb) ((C.2 b hb).2.2 x u))).symm
  rw[E,Ji,DA an,Ji,DA ao];cases kY key e.2.y6<;>rfl
def Has.Q5(hc:je k v):∀(h:Nat) (M:eZ) (s:jh),Has D M k v h s->M.Wf->M.Q2=false->s.y7.Nodup->key∈eh s.y6->2*h<=M.Q0.length->ot D k v key (h+1) M s.x4
 | 0,M,s,hs,hW,ho,ac,J,hf=>λn hn hl=>by have ad:dU D M k v s.x4=(eQ s.y6,0):=hs.2.2.1.load hs.2.2.2;rw[ad] at hn;cases hn;cases hl
 | h+1,M,⟨p,n,L,P⟩,⟨G,h0,h1,h2,h3,h4,h5,h6,h7⟩,hW,ho,ac,J,hf=>λn' hn hl=>by
  dsimp only at h1 h2 h3 h5 ac J hn;subst h1 h2 h3;have av:dU D M k v p=(dX G,0):=h4.load h5;rw[av] at hn;cases hn;obtain⟨A,e,B,E,hA,aw,ax,ae⟩:=xi (key:=key) h0 h6;have af:(dX G).J8.getD (eT (dX G).J5 key) 0=e.2.x4:=ae;have ay:eT (dX G).J5 key=A.length:=hA.symm;have az:e∈G:=(by rw[E];simp);obtain⟨al,aA⟩:=h7 e az;have ag:G.flatMap (·.2.y7)=A.flatMap (·.2.y7)++(e.2.y7++B.flatMap (·.2.y7)):=(by rw[E,tF]);have R:G.flatMap (·.2.y6)=A.flatMap (·.2.y6)++(e.2.y6++B.flatMap (·.2.y6)):=(by rw[E,tF]);have U:(A.flatMap (·.2.y7)++(e.2.y7++B.flatMap (·.2.y7))).Nodup:=(by rw[<- ag];exact (nodup_cons.1 ac).2);have V:e.2.y7.Nodup:=(yN.1 (yN.1 U).2.1).1;have aa:=h6;rw[E] at aa;have O:=aa.mid;have Q:key∈eh e.2.y6:=by obtain⟨x,C,rfl⟩:=mem_map.1 J;rw[R] at C;rcases zD.1 C with C|C;obtain⟨a,ha,C⟩:=yL.1 C;exact absurd (uf (O.1 a ha x C) aw) tX;rcases zD.1 C with C|C;exact zZ C;obtain⟨b,I,C⟩:=yL.1 C;exact absurd (uf (ax b I) ((O.2 b I).2.2 x C)) tX
  obtain⟨N1,n1,M1,Re,aZ,ec,aB,am,st,a1,a2⟩:=Jt hc h M e.2 al hW ho V Q oK;rw[af];refine⟨al.Q5 hc h M e.2 hW ho V Q oK,λN M2 ab aR ny ah=>?_⟩;rw[ec] at ab;cases ab;have aC:N1.Q3=decide (h=0):=by
   cases h with
   | zero=>rw[am.1];rfl
   | succ h=>obtain⟨a3,_,h',_⟩:=am;rw[h'];rfl
  have u:∀b,(b∈A\/b∈B)->(dX G).J8.getD (jQ (eT (dX G).J5 key)) 0=b.2.x4->ny.Q3=N1.Q3:=λb I aD=>by
   rw[aD] at ah;have aE:b∈G:=by rw[E];rcases I with I|I<;>simp[I]
   obtain⟨an,_⟩:=h7 b aE;have ao:Has D M1 k v h b.2:=an.j0 λx C=>(st.rest x (an.J3 ho x C) λhm=>by have ap:x∈e.2.y7:=(by rw[aB];exact zN _ hm);have hd:=yN.1 U;have aF:=yN.1 hd.2.1;rcases I with I|I;exact hd.2.2 x (yL.2 ⟨b,I,C⟩) x (zH _ ap) rfl;exact aF.2.2 x ap x (yL.2 ⟨b,I,C⟩) rfl).1;obtain⟨N2,R2,ad,_,_,aq,_⟩:=ao.load;rw[ad] at ah;cases ah;rw[aq,aC]
  have h2:=h4.right.x8.1;rw[ay] at u;have aG:(dX G).J8=G.map (·.2.x4):=rfl;rw[aG] at u;by_cases hA0:A.length>0;have hs:jQ A.length=A.length-1:=(by unfold jQ;rw[iP hA0]);obtain⟨A',b,rfl⟩:∃A' b,A=A'++[b]:=⟨A.dropLast,A.getLast (length_pos_iff.1 hA0),(vC _).symm⟩;refine u b (.inl oM) ?_;rw[hs,E];simp[yS];have hs:jQ A.length=A.length+1:=(by unfold jQ;rw[iN hA0]);have aH:A=[]:=Kg oK;subst aH;cases B with
  | nil=>rw[E] at h2;simp at h2
  | cons b B=>
   refine u b (.inr oM) ?_;rw[hs,E];rfl
def ib.get{t:Int}{L:gH}{P:KE}(C:ib D M k v t L P)(E:M.Wf)(G:M.Q2=false):p4 D k v key M (eU M t).2.2.toNat (eU M t).1=match kY key L with|some x=>(x,0)|none=>([],5):=by rcases C with ⟨e0,rfl,rfl⟩|⟨h,n,p,u,I,J⟩;rw[e0];rfl;rw[I];dsimp only;rw[zJ];exact J.get u E G
def ib.Q5(E:je k v){t:Int}{L:gH}{P:KE}(G:ib D M k v t L P)(u:key∈eh L)(I:M.Wf)(J:M.Q2=false)(O:P.Nodup)(C:2*(eU M t).2.2.toNat+1<=M.Q0.length):ot D k v key (eU M t).2.2.toNat M (eU M t).1:=by rcases G with ⟨e0,rfl,rfl⟩|⟨h,n,p,Q,R,U⟩;cases u;rw[R] at C⊢;dsimp only at C⊢;rw[zJ] at C⊢;exact U.Q5 E h M _ I J O u oK
def qui{t:Int}{f:Nat}{val:Key}{M':eZ}(h:kW D k v t key val f M=(0,M')):(eU M t).1≠0->(jc D k v key val f M (eU M t).1).1.2≠-1:=λC u=>by unfold kW at h;rw[iN C] at h;unfold uF at h;rw[iP (by rw[u];decide),u] at h;cases h
end
section
structure Gd (N:eZ) (b:Nat) (M:eZ):Prop where
 Q2:M.Q2=false
 j9:M.j9=N.j9
 Q4:M.Q4=N.Q4
 Q8:M.Q8=N.Q8
 x5:M.x5=N.x5
 jz:N.j9.2.getD 0 0=(b:Int)/\2<=b
 Q0:∀ x∈M.Q0,x<(b:Int)
 J7:∀ x∈M.J7.map (·.1),x<(b:Int)
section
variable {α β:Type} {N:eZ} {b c:Nat}
end
section
variable {N:eZ} {b c k v:Nat} {D:dV} {M M':eZ}
def ib.cJ{D':dV}{t:Int}{L:gH}{P:KE}(h:ib D M k v t L P)(C:∀x∈P,dS D' M' x=dS D M x)(e:eU M' t=eU M t):ib D' M' k v t L P:=by rcases h with ⟨E,G,I⟩|⟨h,n,p,J,u,O⟩;exact .inl ⟨e.trans E,G,I⟩;exact .inr ⟨h,n,p,J,e.trans u,O.cJ C⟩
def ib.low{t:Int}{P:KE}(h:ib D M k v t L P):(eU M t).2.2.toNat<=L.length/\0<=(eU M t).2.2:=by
 rcases h with ⟨u,G,I⟩|⟨h,n,p,J,C,E⟩;rw[u];exact⟨yY _,Int.le_refl _⟩;have:=E.counts.1;rw[C];exact⟨by dsimp only at this⊢;omega,by dsimp only;omega⟩
end
end
section
def kv (t:Int):KQ:=((uR t).1.toNat,(uR t).2.toNat)
def BY{t:Nat}(u:t<8):uR t=(((kv t).1:Int),((kv t).2:Int))/\je (kv t).1 (kv t).2/\1<=(kv t).1/\(kv t).1<=24/\1<=(kv t).2/\(kv t).2<=108:=by obtain⟨k,v,e,h⟩:=qBv (t:=t) ⟨oK,oK⟩;have:kv t=(k,v):=(by unfold kv;rw[e];rfl);rw[this];exact⟨e,h⟩
abbrev mF:=Nat->gH×KE
def qW (F:mF) (t:Nat) (x:gH×KE):mF:=λu=>if u=t then x else F u
def Ew(F:mF)(t:Nat)(x:gH×KE):qW F t x t=x:=iP rfl
def BP{F:mF}{t u:Nat}{x:gH×KE}(h:u≠t):qW F t x u=F u:=iN h
structure Cm (D:dV) (M:eZ) (F:mF):Prop where
 J1:∀ t:Nat,t<8->ib D M (kv t).1 (kv t).2 t (F t).1 (F t).2
 nodup:∀ t:Nat,t<8->(F t).2.Nodup
 J2:∀ t u:Nat,t<8->u<8->t≠u->∀ x∈(F t).2,x∉(F u).2
 use:∀ x,eH M x->∃ t:Nat,t<8/\x∈(F t).2
section
variable {D D':dV} {M M':eZ} {F W:mF} {b q t:Nat}
def ib.J3{k v:Nat}{t:Int}{L:gH}{P:KE}(u:M.Q2=false)(h:ib D M k v t L P):∀x∈P,eH M x:=by rcases h with ⟨_,_,rfl⟩|⟨h,n,p,_,_,C⟩;exact λx E=>nomatch E;exact C.J3 u
def Cm.next{L':gH}{P':KE}(h:Cm D M F)(V:M.Q2=false)(Q:t<8)(hT:ib D M' (kv t).1 (kv t).2 t L' P')(I:sD D M M' t (F t).2 P'):Cm D M' (qW F t (L',P')):=by have J:∀u:Nat,u<8->u≠t->∀x∈(F u).2,eH M x/\x∉(F t).2:=λu G E x C=>⟨(h.J1 u G).J3 V x C,h.J2 u t G Q E x C⟩;have R:∀u:Nat,u<8->u≠t->∀x∈(F u).2,x∉P':=λu G E x C=>(I.step.rest x (J u G E x C).1 (J u G E x C).2).2.2;refine⟨λu G=>?_,λu G=>?_,λu z G U E x C=>?_,λx C=>?_⟩;by_cases e:u=t;subst e;rw[Ew];exact hT;rw[BP e];exact (h.J1 u G).cJ (λx C=>(I.step.rest x (J u G e x C).1 (J u G e x C).2).1) (I.others u oK);by_cases e:u=t;subst e;rw[Ew];exact I.step.nodup;rw[BP e];exact h.nodup u G;by_cases e:u=t;subst e;rw[Ew] at C;rw[BP E.symm];exact λhm=>R z U E.symm x hm C;rw[BP e] at C;by_cases e2:z=t;subst e2;rw[Ew];exact R u G e x C;rw[BP e2];exact h.J2 u z G U E x C;rcases I.step.use x C with O|⟨O,h2⟩;exact⟨t,Q,by rw[Ew];exact O⟩;obtain⟨u,G,C⟩:=h.use x O;exact⟨u,G,by rw[BP λe=>h2 (by rw[<- e];exact C)];exact C⟩
def EA (t:Int) (M:eZ):eZ:=lE M.j9 M.Q4 M.Q8 t false M.Q8
structure Wo (D:dV) (M:eZ) (b q:Nat) (F W:mF):Prop where
 calm:Calm D M b q
 J0:Cm D M F
 was:Cm D (EA 0 M) W
 opens:rz D M.j9 M.Q4 M.Q8
 Q7:M.j9.2.length=27
 b4:8<=b/\b<=300
end
end
section
section
variable {D:dV} {M:eZ} {k v:Nat} {frm:Key}
abbrev lO:=dW×Int
noncomputable def jC (D:dV) (k v:Nat) (M:eZ) (pick:dW->Int):Nat->Int->Option (List lO)
 | 0,p=>none
 | f+1,p=>if (dU D M k v p).2≠0 then none
  else if (dU D M k v p).1.Q3 then some [((dU D M k v p).1,pick (dU D M k v p).1)]
  else (jC D k v M pick f ((dU D M k v p).1.J8.getD (pick (dU D M k v p).1).toNat 0)).map (((dU D M k v p).1,pick (dU D M k v p).1)::·)
def nQ (D:dV) (M:eZ) (k v:Nat) (frm:Key):Nat->List lO->gH->Prop
 | 0,E,T=>∃(u:gH) (i:Nat),E=[(eQ u,(i:Int))]/\i<=u.length/\fT u/\T=u.drop i
 | h+1,E,T=>∃(C:List iO) (i:Nat) (G:List lO) (T1:gH),E=(dX C,(i:Int))::G/\i<C.length/\(∀e∈C.drop (i+1),Has D M k v h e.2/\∀x∈e.2.y6,¬gq x.1 frm)/\nQ D M k v frm h G T1/\T=T1++(C.drop (i+1)).flatMap (·.2.y6)
def lw (n:dW) (frm:Key):Int:=if n.Q3 then dY n.J5 frm else eT n.J5 frm
noncomputable def oY (frm:Key) (L:gH):gH:=L.filter λx=>decide (¬gq x.1 frm)
def HF(h:∀x∈L,¬gq x.1 frm):oY frm L=L:=filter_eq_self.2 λx u=>yA (h x u)
def qoS(h:∀x∈L,gq x.1 frm):oY frm L=[]:=filter_eq_nil_iff.2 λx u=>by simpa using h x u
def Is{A B:gH}:oY frm (A++B)=oY frm A++oY frm B:=xE ..
def qqb{a b:Key}(h:nm b a):¬gq a b:=h
def JB:∀ {h:Nat} {s:jh},Has D M k v h s->∃V,jC D k v M (λn=>lw n frm) (h+1) s.x4=some V/\nQ D M k v frm h V (oY frm s.y6)
 | 0,s,hs=>by
  obtain⟨h1,h2,h3,h4⟩:=hs;have hl:dU D M k v s.x4=(eQ s.y6,0):=h3.load h4;have ab:fT s.y6:=h3.right.2.2.1;have ac:=G0 (eh s.y6) frm;rw[zK] at ac;have ad:=BU (k:=frm) ab;unfold jC;rw[hl,iN λh=>h rfl,iP (show (eQ s.y6).Q3=true from rfl)];refine⟨_,rfl,s.y6,dY (eh s.y6) frm,?_,ac,ab,?_⟩;show [(eQ s.y6,lw (eQ s.y6) frm)]=_;rw[lw,iP (show (eQ s.y6).Q3=true from rfl)];rfl
  ·conv=>lhs;rw[<- xG (dY (eh s.y6) frm) s.y6]
   rw[Is,qoS ad.1,xK,HF λx G=>qqb (ad.2 x G)]
 | h+1,⟨p,n,L,P⟩,⟨u,h0,h1,h2,h3,h4,h5,h6,h7⟩=>by
  dsimp only at h1 h2 h3 h5;subst h1 h2 h3;have hl:dU D M k v p=(dX u,0):=h4.load h5;obtain⟨A,e,B,E,hA,ak,ae,O⟩:=xi (key:=frm) h0 h6;have Q:(dX u).J8.getD (eT (dX u).J5 frm) 0=e.2.x4:=O;have R:eT (dX u).J5 frm=A.length:=hA.symm;have al:e∈u:=(by rw[E];simp);obtain⟨am,_⟩:=h7 e al;have J:=h6;rw[E] at J;have C:=J.mid;obtain⟨V,e1,e2⟩:=JB am;have af:lw (dX u) frm=(A.length:Int):=by rw[lw,iN (show ¬(dX u).Q3=true from λe=>nomatch e),R]
  unfold jC;rw[hl,iN λh=>h rfl,iN (show ¬(dX u).Q3=true from λe=>nomatch e)];show ∃V,Option.map (((dX u),lw (dX u) frm)::·) (jC D k v M (λn=>lw n frm) (h+1) ((dX u).J8.getD (lw (dX u) frm).toNat 0))=some V/\_;rw[af,zJ,<- R,Q,e1,R];have I:u.drop (A.length+1)=B:=(by rw[E];simp);refine⟨_,rfl,u,A.length,V,_,rfl,by rw[E];simp,λb U=>?_,e2,?_⟩;rw[I] at U;exact⟨(h7 b (by rw[E];simp[U])).1,λx G g=>(C.2 b U).2.2 x G (rL g (ae b U))⟩
  ·rw[I];show oY frm (u.flatMap (·.2.y6))=_;conv=>lhs;rw[E]
   rw[yR,yI,Is,Is,qoS λx G=>?_,xK,HF (L:=B.flatMap _) λx G=>?_];obtain⟨b,U,G⟩:=yL.1 G;exact λg=>(C.2 b U).2.2 x G (rL g (ae b U));obtain⟨a,ha,G⟩:=yL.1 G;exact uf (C.1 a ha x G) ak
end
end
section
section
variable {D:dV} {M:eZ} {k v:Nat} {frm:Key}
noncomputable def jq (D:dV) (k v:Nat) (M:eZ) (pick:dW->Int) (step:Int->Int):Nat->List lO->Option (List lO)
 | 0,_=>none
 | _+1,[]=>none
 | h+1,(n,i)::C=>match jq D k v M pick step h C with
  | some u=>some ((n,i)::u)
  | none=>if 0<=step i/\step i<n.J8.length then (jC D k v M pick (h+1) (n.J8.getD (step i).toNat 0)).map ((n,step i)::·) else none
def lH:Nat->List lO->Prop
 | 0,C=>∃u:gH,C=[(eQ u,(u.length:Int))]
 | _+1,[]=>False
 | h+1,_::E=>lH h E
def qvo:∀ {h:Nat} {G:List lO} {T:gH},nQ D M k v frm h G T->lH h G->(jq D k v M (λn=>lw n frm) (λi=>i+1) h G=none/\T=[])\/∃I,jq D k v M (λn=>lw n frm) (λi=>i+1) h G=some I/\nQ D M k v frm h I T
 | 0,G,T,⟨Q,i,e,hi,hs,J⟩,⟨O,e'⟩=>by rw[e] at e';have e1:=(vD (vE e').1);have e2:eh Q=eh O:=Kr dW.J5 e1.1;have e3:=Kr List.length e2;rw[zK,zK] at e3;have e4:=Int.ofNat.inj e1.2;exact .inl ⟨rfl,by rw[J];exact vG oK⟩
 | h+1,G,T,⟨E,i,up,T1,e,hi,R,hu,J⟩,u=>by
  subst e;have u:lH h up:=u;rcases qvo hu u with ⟨U,rfl⟩|⟨V,U,h2⟩;have aa:(dX E).J8.length=E.length:=(by show (E.map (·.2.x4)).length=_;rw[zK]);have ej:((i:Int)+1).toNat=i+1:=oK;unfold jq;rw[U];dsimp only;rw[aa,ej];by_cases hlt:i+1<E.length;rw[iP ⟨oK,oK⟩];have ab:(dX E).J8.getD (i+1) 0=E[i+1].2.x4:=by show (E.map (·.2.x4)).getD _ 0=_;rw[yS,zQ,zA hlt];rfl
  have C:E.drop (i+1)=E[i+1]::E.drop (i+2):=zY hlt;obtain⟨q1,q2⟩:=R E[i+1] (by rw[C];exact JZ ..);obtain⟨ac,p1,p2⟩:=JB (frm:=frm) q1;rw[HF q2] at p2;rw[ab,p1];refine .inr ⟨_,rfl,E,i+1,ac,_,rfl,hlt,λe he=>R e (by rw[C];exact zN _ he),p2,?_⟩;rw[J,xK,C,yI];rw[iN];exact .inl ⟨rfl,by rw[J,vG oK];rfl⟩;unfold jq;rw[U];exact .inr ⟨_,rfl,E,i,V,T1,rfl,hi,R,h2,J⟩
end
end
section
section
variable {D:dV} {M:eZ} {k v:Nat} {to:Key}
def jp (n:dW) (to:Key):Int:=if n.Q3 then (eT n.J5 to:Int)-1 else eT n.J5 to
def oh (D:dV) (M:eZ) (k v:Nat) (to:Key):Nat->List lO->gH->Prop
 | 0,E,T=>∃(u:gH) (i:Nat),E=[(eQ u,(i:Int)-1)]/\i<=u.length/\fT u/\T=(u.take i).reverse
 | h+1,E,T=>∃(C:List iO) (i:Nat) (G:List lO) (T1:gH),E=(dX C,(i:Int))::G/\i<C.length/\(∀e∈C.take i,Has D M k v h e.2/\∀x∈e.2.y6,¬gq to x.1)/\oh D M k v to h G T1/\T=T1++((C.take i).flatMap (·.2.y6)).reverse
noncomputable def wW (to:Key) (L:gH):gH:=L.filter λx=>decide (¬gq to x.1)
def IP(h:∀x∈L,¬gq to x.1):wW to L=L:=filter_eq_self.2 λx u=>yA (h x u)
def qtP(h:∀x∈L,gq to x.1):wW to L=[]:=filter_eq_nil_iff.2 λx u=>by simpa using h x u
def HW{A B:gH}:wW to (A++B)=wW to A++wW to B:=xE ..
def qq6{l:gH}{k:Key}(u:fT l):(∀x∈l.take (eT (eh l) k),nm x.1 k)/\∀x∈l.drop (eT (eh l) k),gq k x.1:=by refine⟨λx h=>qoZ (l:=eh l) ?_,λx h=>qnd (l:=eh l) u ?_⟩;rw[<- xR];exact zZ h;rw[<- xS];exact zZ h
def HZ:∀ {h:Nat} {s:jh},Has D M k v h s->∃V,jC D k v M (λn=>jp n to) (h+1) s.x4=some V/\oh D M k v to h V (wW to s.y6).reverse
 | 0,s,hs=>by
  obtain⟨h1,h2,h3,h4⟩:=hs;have hl:dU D M k v s.x4=(eQ s.y6,0):=h3.load h4;have ac:fT s.y6:=h3.right.2.2.1;have ad:=Ce (eh s.y6) to;rw[zK] at ad;have ae:=qq6 (k:=to) ac;unfold jC;rw[hl,iN λh=>h rfl,iP (show (eQ s.y6).Q3=true from rfl)];refine⟨_,rfl,s.y6,eT (eh s.y6) to,?_,ad,ac,?_⟩;show [(eQ s.y6,jp (eQ s.y6) to)]=_;rw[jp,iP (show (eQ s.y6).Q3=true from rfl)];rfl
  ·congr 1;conv=>lhs;rw[<- xG (eT (eh s.y6) to) s.y6]
   rw[HW,qtP ae.2,xJ,IP λx E=>ae.1 x E]
 | h+1,⟨p,n,L,P⟩,⟨u,h0,h1,h2,h3,h4,h5,h6,h7⟩=>by
  dsimp only at h1 h2 h3 h5;subst h1 h2 h3;have hl:dU D M k v p=(dX u,0):=h4.load h5;obtain⟨A,e,B,C,hA,ak,al,Q⟩:=xi (key:=to) h0 h6;have R:(dX u).J8.getD (eT (dX u).J5 to) 0=e.2.x4:=Q;have U:eT (dX u).J5 to=A.length:=hA.symm;have am:e∈u:=(by rw[C];simp);obtain⟨an,_⟩:=h7 e am;have J:=h6;rw[C] at J;have G:=J.mid;obtain⟨V,e1,e2⟩:=HZ an;have af:jp (dX u) to=(A.length:Int):=by rw[jp,iN (show ¬(dX u).Q3=true from λe=>nomatch e),U]
  unfold jC;rw[hl,iN λh=>h rfl,iN (show ¬(dX u).Q3=true from λe=>nomatch e)];show ∃V,Option.map (((dX u),jp (dX u) to)::·) (jC D k v M (λn=>jp n to) (h+1) ((dX u).J8.getD (jp (dX u) to).toNat 0))=some V/\_;rw[af,zJ,<- U,R,e1,U];have I:u.take A.length=A:=(by rw[C];simp);have O:∀a∈A,∀x∈a.2.y6,¬gq to x.1:=λa ha x E g=>ak (rL g (G.1 a ha x E));refine⟨_,rfl,u,A.length,V,_,rfl,by rw[C];simp,λb hb=>?_,e2,?_⟩;rw[I] at hb;exact⟨(h7 b (by rw[C];simp[hb])).1,O b hb⟩
  ·rw[I];show (wW to (u.flatMap (·.2.y6))).reverse=_;conv=>lhs;rw[C]
   rw[yR,yI,HW,HW,qtP (L:=B.flatMap _) λx E=>?_,xJ,IP (L:=A.flatMap _) λx E=>?_,reverse_append];obtain⟨a,ha,E⟩:=yL.1 E;exact O a ha x E;obtain⟨b,hb,E⟩:=yL.1 E;exact uf (al b hb) ((G.2 b hb).2.2 x E)
end
end
section
section
variable {D:dV} {M:eZ} {k v:Nat} {to:Key}
def lI:Nat->List lO->Prop
 | 0,C=>∃u:gH,C=[(eQ u,-1)]
 | _+1,[]=>False
 | h+1,_::E=>lI h E
def qrd:∀ {h:Nat} {I:List lO} {T:gH},oh D M k v to h I T->lI h I->(jq D k v M (λn=>jp n to) (λi=>i-1) h I=none/\T=[])\/∃J,jq D k v M (λn=>jp n to) (λi=>i-1) h I=some J/\oh D M k v to h J T
 | 0,I,T,⟨ah,i,e,hi,hs,O⟩,⟨ae,e'⟩=>by rw[e] at e';have e1:=(vD (vE e').1);have e4:(i:Int)-1=-1:=e1.2;have e5:i=0:=oK;subst e5;exact .inl ⟨rfl,by rw[O];rfl⟩
 | h+1,I,T,⟨E,i,up,T1,e,hi,Q,hu,O⟩,u=>by
  subst e;have u:lI h up:=u;rcases qrd hu u with ⟨R,rfl⟩|⟨U,R,h2⟩;have V:(dX E).J8.length=E.length:=(by show (E.map (·.2.x4)).length=_;rw[zK]);unfold jq;rw[R];dsimp only;rw[V];cases i with
  | zero=>
   rw[iN];exact .inl ⟨rfl,by rw[O];rfl⟩
  | succ i=>
   have ej:(((i+1:Nat):Int)-1).toNat=i:=oK;have aa:((i+1:Nat):Int)-1=(i:Int):=oK;have G:i<E.length:=oK;rw[ej,iP ⟨oK,oK⟩,aa];have ab:(dX E).J8.getD i 0=E[i].2.x4:=(by show (E.map (·.2.x4)).getD _ 0=_;rw[yS,zQ,zA G];rfl);have C:E.take (i+1)=E.take i++[E[i]]:=yH G;obtain⟨q1,q2⟩:=Q E[i] (by rw[C];exact zI _ (JZ ..));obtain⟨ac,p1,p2⟩:=HZ (to:=to) q1;rw[IP q2] at p2;rw[ab,p1];refine .inr ⟨_,rfl,E,i,ac,_,rfl,G,λe he=>Q e (by rw[C];exact zH _ he),p2,?_⟩;rw[O,xK,C,yR,reverse_append,yI,flatMap_nil,xJ]
  unfold jq;rw[R];exact .inr ⟨_,rfl,E,i,U,T1,rfl,hi,Q,h2,O⟩
end
end
section
section
variable {D:dV} {M:eZ} {k v:Nat} {frm to:Key}
def qvx:∀ {h:Nat} {C:List lO} {T:gH},nQ D M k v frm h C T->lH h C\/∃(u:gH) (i:Nat) (lo:List lO) (hi:i<u.length) (T':gH),C=lo++[(eQ u,(i:Int))]/\T=u[i]::T'/\nQ D M k v frm h (lo++[(eQ u,(i:Int)+1)]) T'
 | 0,C,T,⟨u,i,e,hi,I,E⟩=>by by_cases hlt:i<u.length;exact .inr ⟨u,i,[],hlt,u.drop (i+1),e,by rw[E,zY hlt],u,i+1,rfl,hlt,I,rfl⟩;have:i=u.length:=oK;subst this;exact .inl ⟨u,e⟩
 | h+1,C,T,⟨G,i,up,T1,e,hi,J,O,E⟩=>by subst e;rcases qvx O with Q|⟨u,j,lo,R,T',e1,U,V⟩;exact .inl Q;refine .inr ⟨u,j,(dX G,(i:Int))::lo,R,T'++(G.drop (i+1)).flatMap (·.2.y6),by rw[e1];rfl,by rw[E,U];rfl,G,i,_,T',rfl,hi,J,V,rfl⟩
def qrF:∀ {h:Nat} {C:List lO} {T:gH},oh D M k v to h C T->lI h C\/∃(u:gH) (i:Nat) (lo:List lO) (hi:i<u.length) (T':gH),C=lo++[(eQ u,(i:Int))]/\T=u[i]::T'/\oh D M k v to h (lo++[(eQ u,(i:Int)-1)]) T'
 | 0,C,T,⟨u,i,e,hi,J,G⟩=>by
  cases i with
  | zero=>exact .inl ⟨u,e⟩
  | succ i=>
   have E:i<u.length:=oK;have e0:((i+1:Nat):Int)-1=(i:Int):=oK;rw[e0] at e;exact .inr ⟨u,i,[],E,(u.take i).reverse,e,by rw[G,yH E,reverse_append];rfl,u,i,rfl,oK,J,rfl⟩
 | h+1,C,T,⟨I,i,up,T1,e,hi,O,Q,G⟩=>by subst e;rcases qrF Q with R|⟨u,j,lo,U,T',e1,V,e3⟩;exact .inl R;refine .inr ⟨u,j,(dX I,(i:Int))::lo,U,T'++((I.take i).flatMap (·.2.y6)).reverse,by rw[e1];rfl,by rw[G,V];rfl,I,i,_,T',rfl,hi,O,e3,rfl⟩
end
end
section
section
variable {D:dV} {M:eZ} {k v:Nat} {frm to:Key}
def qsR:∀ {h:Nat} {s:jh} {O:List lO},Has D M k v h s->(∀x∈s.y6,¬gq x.1 frm)->jC D k v M (λn=>lw n frm) (h+1) s.x4=some O->¬lH h O
 | 0,s,O,hs,u,C=>by have ab:=hs.ne;obtain⟨h1,h2,Q,h4⟩:=hs;have hl:dU D M k v s.x4=(eQ s.y6,0):=Q.load h4;have ag:=BU (k:=frm) Q.right.2.2.1;unfold jC at C;rw[hl,iN λh=>h rfl,iP (show (eQ s.y6).Q3=true from rfl)] at C;have C:=yP C;rintro⟨G,e⟩;rw[<- C] at e;have e1:=(vD (vE e).1);have e2:eh s.y6=eh G:=Kr dW.J5 e1.1;have e3:=Kr List.length e2;rw[zK,zK] at e3;have e4:lw (eQ s.y6) frm=(G.length:Int):=e1.2;rw[lw,iP (show (eQ s.y6).Q3=true from rfl)] at e4;have e5:dY (eh s.y6) frm=G.length:=Int.ofNat.inj e4;obtain⟨x,r,hx⟩:=exists_cons_of_ne_nil ab;refine u x (by rw[hx];exact JZ ..) (ag.1 x ?_);rw[e5,zS oK,hx];exact JZ ..
 | h+1,⟨p,n,L,P⟩,O,⟨E,h0,h1,h2,Q,h4,h5,h6,h7⟩,u,C=>by
  dsimp only at h1 h2 Q h5 u C;subst h1 h2 Q;have hl:dU D M k v p=(dX E,0):=h4.load h5;obtain⟨A,e,B,ah,hA,aw,ax,I⟩:=xi (key:=frm) h0 h6;have J:(dX E).J8.getD (eT (dX E).J5 frm) 0=e.2.x4:=I;have R:eT (dX E).J5 frm=A.length:=hA.symm;have U:e∈E:=(by rw[ah];simp);obtain⟨ai,_⟩:=h7 e U;have V:lw (dX E) frm=(A.length:Int):=by rw[lw,iN (show ¬(dX E).Q3=true from λe=>nomatch e),R]
  unfold jC at C;rw[hl,iN λh=>h rfl,iN (show ¬(dX E).Q3=true from λe=>nomatch e)] at C;have C:Option.map (((dX E),lw (dX E) frm)::·) (jC D k v M (λn=>lw n frm) (h+1) ((dX E).J8.getD (lw (dX E) frm).toNat 0))=some O:=C;rw[V,zJ,<- R,J] at C;obtain⟨aj,e1,rfl⟩:=yU.1 C;show ¬lH h aj;exact qsR ai (λx hx=>u x (yL.2 ⟨e,U,hx⟩)) e1
end
end
section
section
variable {D:dV} {M:eZ} {k v:Nat} {frm to:Key}
def qoR:∀ {h:Nat} {s:jh} {J:List lO},Has D M k v h s->(∀x∈s.y6,¬gq to x.1)->jC D k v M (λn=>jp n to) (h+1) s.x4=some J->¬lI h J
 | 0,s,J,hs,u,C=>by
  have aa:=hs.ne;obtain⟨h1,h2,O,h4⟩:=hs;have hl:dU D M k v s.x4=(eQ s.y6,0):=O.load h4;have af:=qq6 (k:=to) O.right.2.2.1;unfold jC at C;rw[hl,iN λh=>h rfl,iP (show (eQ s.y6).Q3=true from rfl)] at C;have C:=yP C;rintro⟨am,e⟩;rw[<- C] at e;have e1:=(vD (vE e).1);have e4:jp (eQ s.y6) to=-1:=e1.2;rw[jp,iP (show (eQ s.y6).Q3=true from rfl)] at e4;have e5:eT (eh s.y6) to=0:=by have e6:((eT (eh s.y6) to:Nat):Int)-1=-1:=e4;omega
  obtain⟨x,r,V⟩:=exists_cons_of_ne_nil aa;refine u x (by rw[V];exact JZ ..) (af.2 x ?_);rw[e5,xH,V];exact JZ ..
 | h+1,⟨p,n,L,P⟩,J,⟨E,h0,h1,h2,O,h4,h5,h6,h7⟩,u,C=>by
  dsimp only at h1 h2 O h5 u C;subst h1 h2 O;have hl:dU D M k v p=(dX E,0):=h4.load h5;obtain⟨A,e,B,ag,hA,au,av,G⟩:=xi (key:=to) h0 h6;have I:(dX E).J8.getD (eT (dX E).J5 to) 0=e.2.x4:=G;have Q:eT (dX E).J5 to=A.length:=hA.symm;have R:e∈E:=(by rw[ag];simp);obtain⟨ah,_⟩:=h7 e R;have U:jp (dX E) to=(A.length:Int):=by rw[jp,iN (show ¬(dX E).Q3=true from λe=>nomatch e),Q]
  unfold jC at C;rw[hl,iN λh=>h rfl,iN (show ¬(dX E).Q3=true from λe=>nomatch e)] at C;have C:Option.map (((dX E),jp (dX E) to)::·) (jC D k v M (λn=>jp n to) (h+1) ((dX E).J8.getD (jp (dX E) to).toNat 0))=some J:=C;rw[U,zJ,<- Q,I] at C;obtain⟨ai,e1,rfl⟩:=yU.1 C;show ¬lI h ai;exact qoR ah (λx V=>u x (yL.2 ⟨e,R,V⟩)) e1
end
end
section
section
variable {D:dV} {M:eZ} {k v:Nat} {frm to:Key} {pick:dW->Int} {step:Int->Int}
def qkc:∀ {h:Nat} {O I:List lO} {T:gH},nQ D M k v frm h O T->lH h O->jq D k v M (λn=>lw n frm) (λi=>i+1) h O=some I->¬lH h I
 | 0,_,_,_,_,_,h=>nomatch h
 | h+1,O,I,T,⟨C,i,up,T1,e,hi,hd,hu,hT⟩,u,E=>by
  subst e;have u:lH h up:=u;unfold jq at E;cases e1:jq D k v M (λn=>lw n frm) (λi=>i+1) h up with
  | some Q=>
   rw[e1] at E;cases E;show ¬lH h Q;exact qkc hu u e1
  | none=>
   rw[e1] at E;dsimp only at E;split at E;rename_i G;have R:(dX C).J8.length=C.length:=(by show (C.map (·.2.x4)).length=_;rw[zK]);have ej:((i:Int)+1).toNat=i+1:=oK;rw[R] at G;rw[ej] at E;have G:i+1<C.length:=oK;have U:(dX C).J8.getD (i+1) 0=C[i+1].2.x4:=by show (C.map (·.2.x4)).getD _ 0=_;rw[yS,zQ,zA G];rfl
   have J:C.drop (i+1)=C[i+1]::C.drop (i+2):=zY G;obtain⟨q1,q2⟩:=hd C[i+1] (by rw[J];exact JZ ..);obtain⟨V,e2,rfl⟩:=yU.1 E;show ¬lH h V;exact qsR q1 q2 (by rw[<- U];exact e2);cases E
def qhw:∀ {h:Nat} {O G:List lO} {T:gH},oh D M k v to h O T->lI h O->jq D k v M (λn=>jp n to) (λi=>i-1) h O=some G->¬lI h G
 | 0,_,_,_,_,_,h=>nomatch h
 | h+1,O,G,T,⟨E,i,V,T1,e,hi,hd,hu,hT⟩,u,C=>by
  subst e;have u:lI h V:=u;unfold jq at C;cases e1:jq D k v M (λn=>jp n to) (λi=>i-1) h V with
  | some Q=>
   rw[e1] at C;cases C;show ¬lI h Q;exact qhw hu u e1
  | none=>
   rw[e1] at C;dsimp only at C;split at C;rename_i I;obtain⟨i,rfl⟩:∃j,i=j+1:=⟨i-1,oK⟩;have ej:(((i+1:Nat):Int)-1).toNat=i:=oK;rw[ej] at C;have I:i<E.length:=oK;have R:(dX E).J8.getD i 0=E[i].2.x4:=by show (E.map (·.2.x4)).getD _ 0=_;rw[yS,zQ,zA I];rfl
   have J:E.take (i+1)=E.take i++[E[i]]:=yH I;obtain⟨q1,q2⟩:=hd E[i] (by rw[J];exact zI _ (JZ ..));obtain⟨U,e2,rfl⟩:=yU.1 C;show ¬lI h U;exact qoR q1 q2 (by rw[<- R];exact e2);cases C
def Path (D:dV) (M:eZ) (k v:Nat) (step:Int->Int):Nat->List lO->Prop
 | 0,E=>∃(u:gH) (i:Int),E=[(eQ u,i)]/\-1<=i/\i<=u.length
 | h+1,E=>∃(C:List iO) (i:Int) (G:List lO),E=(dX C,i)::G/\0<=i/\i<C.length/\(∀j:Nat,step i=j->∀I:j<C.length,Has D M k v h C[j].2)/\Path D M k v step h G
def nQ.path:∀ {h:Nat} {u:List lO} {T:gH},nQ D M k v frm h u T->Path D M k v (λi=>i+1) h u
 | 0,u,T,⟨E,i,e,G,V,I⟩=>⟨E,i,e,oK,oK⟩
 | h+1,u,T,⟨J,i,O,T1,e,G,Q,R,I⟩=>⟨J,i,O,e,oK,oK,λj C U=>by have C:(i:Int)+1=j:=C;have C:j=i+1:=oK;subst C;exact (Q _ (by rw[zY U];exact JZ ..)).1,R.path⟩
def oh.path:∀ {h:Nat} {u:List lO} {T:gH},oh D M k v to h u T->Path D M k v (λi=>i-1) h u
 | 0,u,T,⟨E,i,e,G,V,I⟩=>⟨E,_,e,oK,oK⟩
 | h+1,u,T,⟨J,i,O,T1,e,G,Q,R,I⟩=>⟨J,i,O,e,oK,oK,λj C U=>by have C:(i:Int)-1=j:=C;have C:i=j+1:=oK;subst C;exact (Q _ (by rw[yH U];exact zI _ (JZ ..))).1,R.path⟩
def Path.len:∀ {h:Nat} {u:List lO},Path D M k v step h u->u.length=h+1
 | 0,_,⟨_,_,e,_⟩=>by rw[e];rfl
 | h+1,_,⟨_,_,E,e,_,_,_,C⟩=>by rw[e,yJ,C.len]
def Path.drop:∀ {pre u:List lO} {h:Nat},Path D M k v step (pre.length+h) (pre++u)->Path D M k v step h u
 | [],_,_,h=>by rw[xM,xU] at h;exact h
 | x::pre,u,n,h=>by have e:(x::pre).length+n=(pre.length+n)+1:=(by rw[yJ];omega);rw[e] at h;obtain⟨E,i,G,e1,_,_,_,C⟩:=h;rw[(vE e1).2.symm] at C;exact C.drop
noncomputable def wo (D:dV) (k v:Nat) (M:eZ) (pick:dW->Int) (step:Int->Int) (h:Nat) (x:lO):Option (List lO):=
 if 0<=step x.2/\step x.2<x.1.J8.length then (jC D k v M pick (h+1) (x.1.J8.getD (step x.2).toNat 0)).map ((x.1,step x.2)::·) else none
def qwD{h:Nat}{x:lO}{u:List lO}(e:jq D k v M pick step h u=none):jq D k v M pick step (h+1) (x::u)=wo D k v M pick step h x:=by obtain⟨n,i⟩:=x;unfold jq;rw[e];rfl
def qrc:∀ {pre u r:List lO} {h:Nat},jq D k v M pick step h u=some r->jq D k v M pick step (pre.length+h) (pre++u)=some (pre++r)
 | [],u,r,h,e=>by rw[xM,xU];exact e
 | (n,i)::pre,u,r,h,e=>by have e1:((n,i)::pre).length+h=(pre.length+h)+1:=(by rw[yJ];omega);rw[e1,xL];unfold jq;rw[qrc (pre:=pre) e];rfl
def qzF{h:Nat}{s:jh}(U:Has D M k v (h+1) s):∃u:List iO,dU D M k v s.x4=(dX u,0)/\∃hj:eT (dX u).J5 key<u.length,(dX u).J8.getD (eT (dX u).J5 key) 0=u[eT (dX u).J5 key].2.x4/\Has D M k v h u[eT (dX u).J5 key].2:=by obtain⟨p,n,L,P⟩:=s;obtain⟨u,V,J,O,Q,h4,R,h6,h7⟩:=U;dsimp only at J O Q R;subst J O Q;refine⟨u,h4.load R,?_⟩;obtain⟨A,e,B,E,hA,ae,af,G⟩:=xi (key:=key) V h6;have I:eT (dX u).J5 key=A.length:=hA.symm;have C:eT (dX u).J5 key<u.length:=(by rw[I,E];simp);refine⟨C,?_,(h7 _ (zX C)).1⟩;show (u.map (·.2.x4)).getD _ 0=_;rw[yS,zQ,zA C];rfl
end
end
end
section
open Go Go.Pt List
open Go.IntKind (wrap)
open Classical
variable {K:KV->WP}
def qx9{w:Kv}{n:Nat}(Y:KD)(I:∀b∈Y,b<w.heap.size)(hY:HG∉Y)(hv:Hv w)(h8:8<=n)(U:n<=4096)(hk:∀dbk pb FD F D w',TW dbk pb FD D 5000 w' Y F (oU n)->Made D n->Fr [] w w'->(∀b∈FD++F,w.heap.size<=b)->K (pW dbk,pW pb) w'): cW 52 [.i n] dM w K:=by
 refine qig<|qAu (λh=>oK) λ_ _ dbk FD w1 d1 R V=>?_;rw[zJ] at d1;obtain⟨D',e1,q1,s1,aa,o1,z1⟩:=qsQ (qwC n) (qyf n) h8 U;have J:=hv.q8 R;have hg:HG∉FD:=λhm=>by have:=V _ hm;have:=hv.lt;omega
 have ao:(pA n).Q5.length=n:=(by simp[pA]);refine jf (λb w'=>b=false/\∃F',DS dbk w1 FD w' F' D' (0+5000)) ?_ ?_;refine JU rfl (JU rfl ?_);refine qvR d1 (nK.new U) oN oK J hg λw' F' d'=>?_;rw[e1] at d'⊢;exact⟨rfl,F',d'⟩;rintro b w2 ⟨rfl,F2,C⟩;refine JU rfl ?_;have E:∀b∈F2,w.heap.size<=b:=λb u=>by rcases C.nw b u with h|h;exact V b h;exact zL R.size h
 have O:=o1.open;have G:=(C.hv J hg).1;have Q:w.heap.size<=w2.heap.size:=zL R.size C.fr.size;refine qxd (F2++HG::Y) (λb u=>?_) C.at_ C.lim.ok G (λh=>by rw[O] at h;cases h) λpb F M w3 hM hp f3 n3=>?_;rcases zD.1 u with u|u;exact C.at_.lt b u;rcases zG.1 u with rfl|u;exact G.lt;exact yE (I b u) Q;rw[O] at hM;cases hM;refine JU rfl<|hk dbk pb F2 F D' w3 ⟨C.at_.q8 f3,C.lim,hp,G.q8 f3,qBh h8 U,λb u=>⟨λhm=>?_,λe=>hY (e▸u)⟩⟩ ⟨q1,s1,aa,o1,e1,z1⟩ ((R.j8 C.fr λb u=>.inr (V b u)).j8 f3 oM) λb u=>?_
 have:=E b hm;have:=I b u;omega;rcases zD.1 u with u|u;exact E b u;exact zL Q (n3 b u)
def Df (x:Key×Key):List Kw:=[.string (Ez x.1),.string (Ez x.2)]
def fB.none{α:Type}{enc:α->List Kw}{k:Nat}{w:Kv}{b:Nat}{T:Kx}(h:w.heap[b]?=some (.c #[] T)):fB enc k w ⟨pW b,0,0⟩ [] [b]:=
 .inr ⟨b,0,#[],T,rfl,rfl,rfl,h,rfl,zM _,oM,oM⟩
end
section
open Go Go.Pt List
open Go.IntKind (wrap)
open Classical
end
section
open Go Go.Pt List
open Go.IntKind (wrap)
open Classical
structure HiI (k v c:Nat) (t:Int) (w0 w:Kv) (s:Sl) (m:Nat) (dbk pb:Nat) (FD:KD) (D:dV) (F:KD) (M:eZ) (P:KE) (L:gH) (B:KD):Prop where
 tw:TW dbk pb FD D 5000 w [] F M
 JM:BH D M k v c t L P
 wP:fB Df 2 w s L B
 len:L.length<=m
 fr:Fr [] w0 w
 new:∀ b∈FD++F,w0.heap.size<=b
 J2:∀ b∈B,b∉F
section
variable {k v c:Nat} {t:Int} {w0 w:Kv} {s:Sl} {m:Nat} {dbk pb:Nat} {FD F B:KD} {D:dV} {M:eZ} {P:KE} {L:gH}
end
end
section
open Go Go.Pt List
open Go.IntKind (wrap)
open Classical
end
section
open Go Go.Pt List
open Go.IntKind (wrap)
open Classical
variable {B S:KD} {K:Sl->WP} {L:KK} {T:Kx} {a:HL fV} {cs:Array Kw} {ids:List gJ} {l u:KE} {m:Nat} {n:Int} {r:HL k6} {s t:Sl} {w w0:Kv} {x:gJ}
def Cf:∀ {k i:Nat} {n:Int},i<k->(bw k n)[i]?=some (n / 256^(k-1-i)%256)
 | k+1,i,n,h=>by rw[bw];by_cases hi:i<k;rw[xA (by rw[mf];exact hi),Cf hi,Int.ediv_ediv_of_nonneg oN,show k+1-1-i=(k-1-i)+1 by omega,Int.pow_succ,Int.mul_comm];have:i=k:=oK;subst this;rw[yZ (by rw[mf];exact zM _),mf,Nat.sub_self,show i+1-1-i=0 by omega,Int.pow_zero,Int.ediv_one];rfl
def IH{i:Nat}(h:8*i<=m):wrap .u8 (Int.fdiv n (2^min (8*i) m))=n / 256^i%256:=by rw[CW,xT h,Int.fdiv_eq_ediv_of_nonneg _ (Int.le_of_lt (Int.pow_pos oN)),Int.pow_mul];rfl
def qoy{j:Nat}{x:Int}:ef (gS l) j [.b x]=gS (l.set j x):=by rw[ef,ef];apply Array.ext';rw[Array.toList_setIfInBounds];show (gS _).toList.set _ _=(gS _).toList;unfold gS;simp only[toList_toArray];rw[<- map_set]
def mD (w w':Kv) (s:Sl) (l:KE):Prop:=eO (List.range w.heap.size) w' s l
section
variable {w w1 w2 w':Kv} {s:Sl} {l:KE} {S:KD}
def mD.q8(h:mD w w' s l)(f:Fr [] w' w2):mD w w2 s l:=eE.q8 h f
def mD.to(h:mD w w' s l)(u:∀b∈S,b<w.heap.size):eO S w' s l:=eE.j6 h λb C=>.inl (mem_range.2 (u b C))
def mD.up(h:mD w1 w' s l)(f:w.heap.size<=w1.heap.size):mD w w' s l:=h.to λb u=>yE (mem_range.1 u) f
def mD.rd(h:mD w w' s l):eO [] w' s l:=h.to λ_ h=>nomatch h
def IW{b o n cap:Nat}{L:KE}{u:KQ}(I:w.heap.size<=b)(C:w'.heap[b]?=some (.cells (gS L) T u))(E:o+n<=L.length)(G:n<=cap)(e:(L.drop o).take n=l):mD w w' ⟨some (dm b o),n,cap⟩ l:=by rw[<- e];exact AZ C E G λh=>by have:=mem_range.1 h;omega
def zw(h:gA w' s l B)(u:∀b∈B,w.heap.size<=b):mD w w' s l:=h.k5 mW λb C h=>by have:=mem_range.1 h;have:=u b C;omega
def GD{b o n:Nat}{a:Sl}{ys:KE}(h:eO [] w ⟨some (dm b o),n,n⟩ l)(R:eO [] w a ys)(hy:0<ys.length)(hl:l.length+ys.length<=1000000)(kk:∀U B w',gA w' U (l++ys) B->Fr [] w w'->(∀b∈B,w.heap.size<=b)->K U w'): Pt.run dp ((Builtin.append_ #[96,96] 96 #[.slice (some (dm b o)) n n,a.v]).run Tryz.prog w) K:=by
 obtain⟨i,hi,hz,E,G⟩:=Ap;have I:=R.1;have C:n=l.length:=h.1;have hc:=h.cells mW rfl;refine quT (m:=a.len) (e:=5) (olds:=l.map (Value.int .u8)) (news:=ys.map (Value.int .u8)) oL hi hz E rfl (by rw[zK,C]) (λj u V=>?_) ?_ oK (by rw[G];omega) oK λb' cs c w' eb J f O Q ht=>?_;rw[<- ug] at V;exact hc j u V;have:=wF (P:=Tryz.prog) (tx:=96) (e':=5) R mW (λx u hu=>by rw[zE.1 hu];rfl) oL;rw[ug] at this;exact this;refine kk _ [b'] w' (fB.one (e:=Value.int .u8) (λ_=>rfl) J (by rw[zF];omega) O Q ?_) f λb J=>by rw[zE.1 J,eb];exact zM _
 rw[zF,<- C,<- I,ht,xP]
end
def qBD{K:KI->WP}(u:∀w',Fr [] w w'->K (0,n) w'):cW 124 [.w n] [.agg dl] w K:=by exact qw4<|oB (oF [] w) λr w1 e1 C h=>h.sz 0 rfl #[.w 0,.w n] λw2 h _=>KC h 0 rfl (0,n)<|u w2 h.fr
def HD{a0 a1:Int}(J:∀r w',mD w w' ⟨pW r,16,16⟩ (iS (a0,a1))->Fr [] w w'->w'.heap[r]?=some (.c (gS (iS (a0,a1))) 5)->w.heap.size<=r->K ⟨pW r,16,16⟩ w'): cW 75 [dk a0 a1] dp w K:=by
 refine qr8<|oB (oF [] w) λr1 w1 e1 O h=>ed.Hm h rfl oN oN oN oN λr w2 e2 h=>?_;have G:w.heap.size<=r:=(by have:=O.size;omega);refine kz (λx w'=>∃j:Nat,∃l:KE,x=j/\j<=8/\l.length=16/\ed [] w w' [(r,.c (gS l) 5),(r1,.c #[.w a0,.w a1] 43)]/\∀i<j,l[i]?=(bw 8 a0)[i]?/\l[8+i]?=(bw 8 a1)[i]?) (λx _=>8-x.toNat) ⟨0,zs 16,rfl,oN,rfl,h,λi h=>oK⟩ ?_;rintro x Q ⟨j,l,rfl,hj,R,h,C⟩ X U;apply cD<;>intro E;have u:j<8:=oK;have e1:wrap .i64 (56-wrap .i64 (8*(j:Int)))=((8*(7-j):Nat):Int):=by rw[gu (8*(j:Int)) oK,gu _ oK];omega
 rw[e1,gu (8+(j:Int)) oK,gu ((j:Int)+1) oK,zJ];refine KA h 1 rfl a0 (mI oK (qZ oK oK ?_));rw[IH (n:=a0) (i:=7-j) (m:=64) oK];refine h.st' 0 rfl _ qoy rfl (by rw[B0];simp;omega) λw4 h _=>KA h 1 rfl a1 (mI oK (qZ oK oK ?_));rw[IH (n:=a1) (i:=7-j) (m:=64) oK];refine h.st' 0 rfl _ qoy rfl (by rw[B0];simp;omega) λw5 h _=>U _ _ ⟨j+1,_,rfl,u,by simpa using R,h,λi V=>?_⟩ oK;rw[show (0+(j:Int).toNat*1)=j by omega,show (0+(8+(j:Int)).toNat*1)=8+j by omega];by_cases e:i=j;subst e;rw[Cf u,Cf u,show 8-1-i=7-i by omega];exact⟨by rw[List.getElem?_set_ne oK,List.getElem?_set_self oK],by rw[List.getElem?_set_self (by rw[xI];omega)]⟩;have:=C i oK;exact⟨by rw[List.getElem?_set_ne oK,List.getElem?_set_ne oK];exact this.1,by rw[List.getElem?_set_ne oK,List.getElem?_set_ne oK];exact this.2⟩;have u:j=8:=oK;subst u;have e:l=iS (a0,a1):=by
  apply ext_getElem?;intro i;unfold iS;by_cases h8:i<8;rw[xA (by rw[mf];exact h8)];exact (C i h8).1;rw[yZ (by rw[mf];omega),mf];by_cases h16:i<16;have:=(C (i-8) oK).2;rwa[show 8+(i-8)=i by omega] at this;rw[yT oK,yT (by rw[mf];omega)]
 subst e;have I:=h.at (i:=0) rfl;exact J r Q (IW G I (by rw[me];decide) oN (by rw[xH];exact zS (by rw[me];decide))) h.fr I G
def yq{a0 a1:Int}(C:∀r w',mD w w' ⟨pW r,16,16⟩ (iS (a0,a1))->Fr [] w w'->K ⟨pW r,16,16⟩ w'): cW 35 [dk a0 a1] dp w K:=by exact qx2<|oB (oF [] w) λr1 w1 e1 u h=>KC h 0 rfl (a0,a1)<|HD λr w2 E G _ _=>C r w2 (E.up u.size) (u.trans G)
def zo(u:∀r w',mD w w' ⟨some (dm r 8),8,8⟩ (bw 8 n)->Fr [] w w'->K ⟨some (dm r 8),8,8⟩ w'): cW 81 [.w n] dp w K:=by refine qs2<|qBD λw1 h=>HD λr w2 I C E G=>Gf oN oN oN oN<|u r w2 (IW (zL h.size G) E (by rw[me];decide) oN ?_) (h.trans C);rw[iS,drop_left' (mf _ _)];exact zS (by rw[mf];decide)
def Cx{a0 a1:Int}(C:∀s w',mD w w' s (gO (a0,a1) n)->Fr [] w w'->K s w'): cW 70 [dk a0 a1,.w n] dp w K:=by refine quj<|oB (oF [] w) λr1 w1 e1 V h=>KC h 0 rfl (a0,a1)<|qp4<|oB h λr2 w2 e2 f2 h=>KC h 0 rfl (a0,a1)<|rS (lb:=[]) rfl oL (yq λr3 w3 E G=>?_);refine rS (lb:=[]) rfl oL (zo λr4 w4 I u=>?_);refine GD (E.q8 u).rd I.rd (by rw[mf];decide) (by rw[mf,me];decide) λs B J O Q R=>?_;have f:=h.fr.trans (G.trans u);exact C s J (zw O λb U=>zL f.size (R b U)) (f.trans Q)
def quJ{m:Int}(u:∀s w',mD w w' s (mi n m)->Fr [] w w'->K s w'): cW 38 [.w n,.w m] dp w K:=by refine qwu<|qp3<|rS (lb:=[]) rfl oL (zo λr3 U C E=>?_);refine rS (lb:=[]) rfl oL (zo λV w4 G h=>?_);refine GD (C.q8 h).rd G.rd (by rw[mf];decide) (by rw[mf,mf];decide) λs B I J O Q=>?_;have f:=E.trans h;exact u s I (zw J λb R=>zL f.size (Q b R)) (f.trans O)
def Gi{j:Nat}(h:fq l)(u:j<l.length)(I:j<8):bits .or .u64 (wrap .u64 (li (l.take j)*2^8)) (wrap .u64 l[j])=li (l.take (j+1)):=by
 have J:=h l[j] (zX u);have O:=Ar (l:=l.take j) λy C=>h y (yW C);have E:(256:Int)^(l.take j).length<=256^7:=by
  have:((256^(l.take j).length:Nat):Int)<=((256^7:Nat):Int):=by
   have:=Nat.pow_le_pow_right (n:=256) oN (show (l.take j).length<=7 by rw[yM];omega);omega
  simpa using this
 have G:(256:Int)^7=72057594037927936:=oN;rw[G] at E;rw[yH u,Jo,rQ l[j] oK,rQ _ oK];rw[qrj 8 oK oK oK oK oK];omega
def qvQ{K:Int->WP}(h:eO S w s l)(J:fq l)(R:l.length<=8)(O:K (li l) w):cW 125 [s.v] dv w K:=by refine qrT ?_;have G:=h.1;refine kz (λx w'=>w'=w/\∃i:Nat,x.2=i/\i<=l.length/\x.1=li (l.take i)) (λx _=>((l.length:Int)-x.2).toNat) ⟨rfl,0,rfl,oK,rfl⟩ ?_;rintro⟨r,ii⟩ w' ⟨rfl,i,C,U,I⟩ X Q;simp only at C I;subst C I;apply cD<;>intro E;have u:i<l.length:=oK;refine eO.at h i rfl (zA u) ?_;rw[gu _ oK,Gi J u oK];exact Q _ _ ⟨rfl,i+1,oM,oK,rfl⟩ oO;have u:i=l.length:=oK;subst u;rw[vB];exact O
section
abbrev pf:Kx:=43
abbrev kC:gJ->List Kw:=λx=>[.w x.1,.w x.2]
def yw(x:gJ):(kC x).length=2:=rfl
def pV{x:Int}(h:IntKind.u64.has x):lA x:=by have u:(0:Int)<=x/\x<=18446744073709551615:=h;exact⟨u.1,oK⟩
def CS{w':Kv}{b:Nat}{o o':Obj}(h:ed S w0 w L)(i:Nat)(hi:L[i]?=some (b,o))(f:Fr [b] w w')(u:w'.heap[b]?=some o'):ed S w0 w' (L.set i (b,o')):=
 (h.jy (o':=o') i hi).q8 ⟨f.os,f.tape,f.output,by rw[wO];exact f.size,λj C _=>by
  rw[qY _ _ _ _ (fl (h.at hi))];split
  ·next e=>rw[e];exact u
  ·next e=>exact f.block j (by rwa[wO] at C) (oQ e)⟩
def HJ{b:Sl}{k:Nat}{E:Sl->WP}(h:gA w b l B)(hm:8*k<=m+8)(hl:l.length<=1000)(h8:k<=8)(kk:∀s B' w',gA w' s (l++bw k n) B'->Fr B w w'->(∀b∈B',b∈B\/w.heap.size<=b)->E s w'): loop (KN) (λX t V=>cond (decide (t.2>=0)) (ig (0<=wrap .i64 (8*t.2))<|Pt.new (.cells #[.b (wrap .u8 (Int.fdiv n (2^min (Int.toNat (wrap .i64 (8*t.2))) m)))] 5) V λr w5=>Pt.run dp ((Builtin.append_ #[96,96] 96 #[t.1.v,.slice (pW r) 1 1]).run Tryz.prog w5) λs w7=>X (s,wrap .i64 (t.2-1)) w7) (E t.1 V)) (b,wrap .i64 (k-1)) w:=by
 refine kz (λt w'=>∃j:Nat,∃B',t.2=(k:Int)-1-j/\j<=k/\gA w' t.1 (l++(bw k n).take j) B'/\Fr B w w'/\∀b∈B',b∈B\/w.heap.size<=b) (λt _=>(t.2+1).toNat) ⟨0,B,by dsimp only;rw[gu _ oK];omega,yY _,by rw[take_zero,xJ];exact h,.refl _ _,λ_ h=>.inl h⟩ ?_;rintro⟨s,x⟩ w1 ⟨j,B1,hx,hj,I,J,O⟩ X hX;dsimp only at hx I⊢;subst hx;apply eV<;>intro G;have G:=zC G;have C:j<k:=oK;have e1:wrap .i64 (8*((k:Int)-1-j))=((8*(k-1-j):Nat):Int):=(by rw[gu _ oK];omega);rw[e1,zJ,IH oK,gu _ oK];obtain⟨i,hi,hz,Q,R⟩:=Ap;have ab:(l++(bw k n).take j).length<=1008:=(by rw[zF,yM];omega);refine mI oK (fB.push (e:=5) (x:=n / 256^(k-1-j)%256) I mW (λu hu=>by rw[zE.1 hu];rfl) oL hi hz Q rfl rfl (by rw[R];omega) oK λs2 B2 w2 b2 f2 n2=>?_);refine hX _ _ ⟨j+1,B2,by dsimp only;omega,C,?_,J.j8 f2 O,λb U=>(n2 b U).elim (O b) λh=>.inr (zL J.size h)⟩ oO;have:=Cf (n:=n) C;obtain⟨U,e⟩:=zP.1 this;rw[yH U,e,<- zV];exact b2;have G:=zB G;have C:j=k:=oK;subst C;rw[zS (by rw[mf];exact zM _)] at I;exact kk _ B1 _ I J O
section
variable {w:Kv} {b s:Sl} {l:KE} {B:KD} {n:Int} {K:Sl->WP}
def qBo(h:gA w b l B)(u:l.length<=1000)(C:∀s B' w',gA w' s (l++bw 2 n) B'->Fr B w w'->(∀b∈B',b∈B\/w.heap.size<=b)->K s w'):cW 150 [b.v,.int .u16 n,.i 2] dp w K:=
 qqi (HJ h (k:=2) oN u oN C)
def qBp(h:gA w b l B)(C:l.length<=1000)(E:∀s B' w',gA w' s (l++bw 4 n) B'->Fr B w w'->(∀b∈B',b∈B\/w.heap.size<=b)->K s w'):cW 148 [b.v,.u n,.i 4] dp w K:=
 qqj (HJ h (k:=4) oN C oN E)
def qBq(h:gA w b l B)(u:l.length<=1000)(C:∀s B' w',gA w' s (l++bw 8 n) B'->Fr B w w'->(∀b∈B',b∈B\/w.heap.size<=b)->K s w'):cW 149 [b.v,.w n,.i 8] dp w K:=
 qqk (HJ h (k:=8) oN u oN C)
def Fk:∀l:List gJ,(l.flatMap iS).length=16*l.length
 | []=>rfl
 | x::l=>by rw[yI,zF,me,Fk l,yJ];omega
def qrN{I:Sl->KE->WP}(U:I b l w)(V:∀s l w w',I s l w->Fr [] w w'->I s l w')(C:eE kC 2 [] w t ids)(hl:ids.length<=5)(J:∀(i:Nat) s l' w1 (a:Sl) x (K:Sl->WP),i<ids.length->ids[i]?=some x->l'=l++(ids.take i).flatMap iS->I s l' w1->eE kC 2 [] w1 t ids->eO [] w1 a (iS x)->(∀O w2,I O (l'++iS x) w2->eE kC 2 [] w2 t ids->K O w2)-> Pt.run dp ((Builtin.append_ #[96,96] 96 #[s.v,a.v]).run Tryz.prog w1) K)(kk:∀s w',I s (l++ids.flatMap iS) w'->K s w'):cW 105 [b.v,t.v] dp w K:=by refine qpp ?_;have Q:=C.1;refine kz (λq w'=>∃i:Nat,q.2=i/\i<=ids.length/\I q.1 (l++(ids.take i).flatMap iS) w'/\eE kC 2 [] w' t ids) (λq _=>ids.length-q.2.toNat) ⟨0,rfl,yY _,by rw[take_zero,flatMap_nil,xJ];exact U,C⟩ ?_;rintro⟨s,x⟩ w1 ⟨i,R,hi,G,r1⟩ X hX;dsimp only at R G⊢;subst R;apply eV<;>intro E;have E:=zC E;have u:i<ids.length:=oK;refine eE.p6 (x:=ids[i]) (y:=ids[i]) r1 i rfl (zA u) rfl rfl<|oB (oF [] w1) λr w2 e2 f2 h=>h.sz 0 rfl #[.w ids[i].1,.w ids[i].2] λw3 h _=>KC h 0 rfl (ids[i].1,ids[i].2)<|HD λr4 w4 h4 f4 _ _=>?_;have f:=h.fr.trans f4;refine J i _ _ _ ⟨pW r4,16,16⟩ ids[i] _ u (zA u) rfl (V _ _ _ _ G f) (r1.q8 f) h4.rd λs5 w5 h5 r5=>?_;rw[gu _ oK];refine hX _ _ ⟨i+1,rfl,u,?_,r5⟩ oO;rw[yH u,yR,<- zV,flatMap_singleton];exact h5;have E:=zB E;have u:i=ids.length:=oK;subst u;rw[vB] at G;exact kk _ _ G
def qAi(u:eE kC 2 [] w t ids)(R:ids.length<=5)(U:∀s B' w',gA w' s (ids.flatMap iS) B'->Fr [] w w'->(∀b∈B',w.heap.size<=b)->K s w'): cW 105 [.slice none 0 0,t.v] dp w K:=by refine qrN (b:=dR) (l:=[]) (I:=λs l w'=>∃B',gA w' s l B'/\Fr [] w w'/\∀b∈B',w.heap.size<=b) ⟨[],fB.nil _ _ _,.refl _ _,λ_ h=>nomatch h⟩ (λs l w1 w2 ⟨B',J,E,G⟩ f=>⟨B',J.q8 f,E.trans f,G⟩) u R (λi s V w1 a x K hi _ O ⟨B1,J,E,G⟩ r1 ha k=>?_) λs w' ⟨B',b,f,n⟩=>U s B' w' b f n;have:V.length<=80:=(by rw[O,xK,Fk,yM];omega);refine Co J ha (by rw[me];omega) λs2 B2 w2 b2 f2 n2=>?_;have C:Fr [] w w2:=E.j8 f2 λb Q=>.inr (G b Q);exact k s2 w2 ⟨B2,b2,C,λb Q=>(n2 b Q).elim (G b) (zL E.size)⟩ (u.q8 C)
end
def qCt{r u:Nat}{C:KE}{K:Int->WP}(I:w.heap[r]?=some (.c #[s.v] T))(J:eO S w s (l++C))(hS:r∈S)(hB:fq l)(hl:l.length=u)(h8:u<=8)(kk:∀R w',w'.heap[r]?=some (.c #[R.v] T)->eO S w' R C->Fr [r] w w'->K (li l) w'):cW 113 [dQ r,.i u] dv w K:=by subst hl;refine qh8<|gV (jH I s rfl ?_);refine eE.part J 0 l.length rfl rfl (yY _) oM λs1 l1 r1 _=>?_;rw[xH,take_left' rfl] at r1;refine kz (λx w'=>w'=w/\∃i:Nat,x.2=i/\i<=l.length/\x.1=li (l.take i)) (λx _=>((l.length:Int)-x.2).toNat) ⟨rfl,0,rfl,oK,rfl⟩ ?_;rintro⟨y,ii⟩ w' ⟨rfl,i,G,hi,U⟩ X hX;simp only at G U;subst G U;apply cD<;>intro O;have E:i<l.length:=oK;refine eO.at r1 i rfl (zA E) ?_;rw[gu _ oK,Gi hB E oK];exact hX _ _ ⟨rfl,i+1,oM,oK,rfl⟩ oO;have E:i=l.length:=oK;subst E;rw[vB];refine gV (jH I s rfl ?_);refine eE.part J l.length (l++C).length rfl (by rw[xY,J.1]) oM (zM _) λV l2 r2 _=>?_;rw[vB,drop_left' rfl] at r2;refine gV (tY I #[V.v] rfl rfl (zM _) λw2 Q f2=>?_);exact kk V w2 Q (r2.j0 (f2.mono λb h _=>by rw[zE.1 h];exact hS) λb h=>.inl h) f2
def JC{r h:Nat}{K:Int->WP}(G:w.heap[r]?=some (.c #[s.v] T))(I:eO S w s (bw h n++u))(J:r∈S)(E:0<=n/\n<256^h)(O:h<=8)(Q:∀C w',w'.heap[r]?=some (.c #[C.v] T)->eO S w' C u->Fr [r] w w'->K n w'):cW 113 [dQ r,.i h] dv w K:=
 qCt G I J (sh _ _) (mf _ _) O λC w' R U V=>by rw[vX h E.1 E.2];exact Q C w' R U V
def qCL{r:Nat}{K:KI->WP}(C:w.heap[r]?=some (.c #[s.v] T))(O:eO S w s (iS x++u))(G:r∈S)(I:nY x)(Q:∀J w',w'.heap[r]?=some (.c #[J.v] T)->eO S w' J u->Fr [r] w w'->K x w'):cW 112 [dQ r] [.agg dl] w K:=by refine qjN<|oB (Gg C) λr1 w1 e1 R h=>?_;have E:eO (r1::S) w1 s (iS x++u):=eE.j0 (O.j6 (S':=r1::S) λb C=>(zG.1 C).elim (λe=>.inr oK) .inl) (Fr.mono R λb h _=>nomatch h) λb C=>.inl C;rw[iS,zV] at E;refine JC (h.at (i:=1) rfl) E (zN _ G) (by rw[p8];exact I.1) oN λs2 w2 U V f2=>?_;have h:=CS h 1 rfl f2 U;refine JC (h.at (i:=1) rfl) V (zN _ G) (by rw[p8];exact I.2) oN λs3 w3 b3 r3 f3=>?_;have h:=CS h 1 rfl f3 b3;exact h.sz 0 rfl #[.w x.1,.w x.2] λw4 h f4=>KC h 0 rfl x<|Q s3 w4 (h.at (i:=1) rfl) (r3.j0 (f4.mono λb h _=>by rw[zE.1 h];exact JZ) λb C=>.inl (zN _ C)) h.fr
def yo (m r:Nat):Array Kw:=((List.range m).map λi=>Value.pointer (some ⟨r,2*i,none⟩)).toArray
def Hr{G:KD}{r9 I O:Nat}{P9 U V:Kx}{z:List Kw}{E:WP}(hm:ids.length=m)(h5:m<=5)(hz:2*m<=z.length)(h:ed S w0 w ((r9,.c (yo m I) P9)::(I,.c z.toArray U)::(O,.c #[s.v] V)::L))(J:eO G w s (ids.flatMap iS++u))(aa:O∈G)(ab:I∈G)(hW:∀x∈ids,nY x)(kk:∀Q w',ed S w0 w' ((r9,.c (yo m I) P9)::(I,.c (ids.flatMap kC++z.drop (2*m)).toArray U)::(O,.c #[Q.v] V)::L)->eO G w' Q u->E w'): loop Int (λX x w=>cond (decide (x<(m:Int))) (idx ⟨pW r9,m,m⟩ x 1 λa=>ld .ptr a w λp=>cW 112 [dQ O] [.agg dl] w λt w'=>nn p λa=>st a [.w t.1,.w t.2] w' λw2=>X (wrap .i64 (x+1)) w2) (E w)) 0 w:=by
 refine kz (λx w'=>∃i:Nat,∃Q,x=i/\i<=m/\ed S w0 w' ((r9,.c (yo m I) P9)::(I,.c ((ids.take i).flatMap kC++z.drop (2*i)).toArray U)::(O,.c #[Q.v] V)::L)/\eO G w' Q ((ids.drop i).flatMap iS++u)) (λx _=>m-x.toNat) ⟨0,s,rfl,yY _,h,J⟩ ?_;rintro x w1 ⟨i,s1,rfl,hi,h,J⟩ X hX;apply eV<;>intro R;have R:=zC R;have C:i<m:=oK;refine qZ oK oK ?_;rw[zJ,xV,xU];refine oA h 0 rfl (some ⟨I,2*i,none⟩) (by simp[yo,C];rfl) ?_;rw[zY (by omega:i<ids.length),yI,zV] at J;refine qCL (h.at (i:=2) rfl) J aa (hW _ (zX _)) λs2 w2 b2 r2 f2=>?_;have h:=CS h 2 rfl f2 b2;have hA:((ids.take i).flatMap kC).length=2*i:=(by rw[rR yw,yM];omega);have hZ:z.drop (2*i)=(z.drop (2*i)).take 2++z.drop (2*(i+1)):=(by rw[show 2*(i+1)=2*i+2 by omega,<- xF,xG]);have ac:ef ((ids.take i).flatMap kC++z.drop (2*i)).toArray (2*i) (kC ids[i])=((ids.take i).flatMap kC++kC ids[i]++z.drop (2*(i+1))).toArray:=by rw[hZ,<- zV,<- hA];exact vr (by rw[yM,yC,yw];omega)
 refine gV (h.st' 1 rfl _ ac rfl (by simp[hA];omega) λw3 h f3=>?_);rw[gu _ oK];refine hX _ _ ⟨i+1,s2,rfl,C,?_,r2.j0 (f3.mono λb h _=>by rw[zE.1 h];exact ab) λb hb=>.inl hb⟩ oK;rw[yH (by omega:i<ids.length),yR,flatMap_singleton];exact h;have R:=zB R;have C:i=m:=oK;subst C;rw[zS oK] at h;rw[Kd oK] at J;exact kk s1 w1 h J
def vK{G:KD}{I J u off:Nat}{O:Nat×Obj}{Q R:Kx}{v:Kw}{V:Int->Kw}{C:KE}{K:WP}(h:ed S w0 w (O::(I,.c cs Q)::(J,.c #[s.v] R)::L))(hr:eO G w s (bw u n++C))(U:J∈G/\I∈G)(hn:0<=n/\n<256^u)(hv:V n=v)(E:Array Kw)(kk:∀s' w',ed S w0 w' (O::(I,.c E Q)::(J,.c #[s'.v] R)::L)->eO G w' s' C->K w')(hs:ef cs off [v]=E:=by rfl)(h1:v.oneCell'=true:=by rfl)(hl:off+1<=cs.size:=by exact zO rfl)(h8:u<=8:=by decide): cW 113 [dQ J,.i u] dv w λx w'=>Pt.st (dm I off) [V x] w' K:=by refine JC (h.at (i:=2) rfl) hr U.1 hn h8 λs2 w2 b2 r2 f2=>?_;have h:=CS h 2 rfl f2 b2;rw[hv];exact h.st' 1 rfl E hs (by simp[h1]) hl λw3 h f3=>kk s2 w3 h (r2.j0 (f3.mono λb h _=>by rw[zE.1 h];exact U.2) λb hb=>.inl hb)
end
section
abbrev u2:List Cell:=dl
def Bf (w0 w:Kv) (s:Sl) (l:KE) (n:Nat):Prop:=l.length=n/\∃B,gA w s l B/\Fr [] w0 w/\∀b∈B,w0.heap.size<=b
section
variable {w0 w w':Kv} {s b:Sl} {l:KE} {k:Nat} {n:Int} {K:Sl->WP}
def Bf.fr(h:Bf w0 w s l k):Fr [] w0 w:=h.2.elim λ_ h=>h.2.1
def Bf.len(h:Bf w0 w s l k):s.len=k:=h.1▸h.2.elim λ_ h=>h.1.len
def Bf.down(h:Bf w w' s l k)(f:Fr [] w0 w):Bf w0 w' s l k:=⟨h.1,h.2.elim λB q=>⟨B,q.1,f.trans q.2.1,λb u=>zL f.size (q.2.2 b u)⟩⟩
def Bf.new(h:Bf w0 w s l k):mD w0 w s l:=h.2.elim λ_ h=>zw h.1 h.2.2
def Bf.q8(h:Bf w0 w s l k)(f:Fr [] w w'):Bf w0 w' s l k:=h.2.elim λB q=>⟨h.1,B,q.1.q8 f,q.2.1.trans f,q.2.2⟩
def Bf.of{B':KD}{l':KE}(h:Bf w0 w b l k)(G:gA w b l B)(C:∀x∈B,w0.heap.size<=x)(E:l'.length=m)(b':gA w' s (l++l') B')(f:Fr B w w')(n':∀x∈B',x∈B\/w.heap.size<=x):Bf w0 w' s (l++l') (k+m):=
 ⟨by rw[zF,h.1,E],B',b',h.fr.j8 f λx u=>.inr (C x u),λx u=>(n' x u).elim (C x) (zL h.fr.size)⟩
def Bf.xk(h:Bf w0 w b l k)(u:∀s w',Bf w0 w' s (l++bw 2 n) (k+2)->K s w')(C:k<=1000:=by decide):cW 150 [b.v,.int .u16 n,.i 2] dp w K:=by obtain⟨B,q,f,E⟩:=h.2;exact qBo q (by rw[h.1];exact C) λs B' w' b' G n'=>u s w' (h.of q E (mf _ _) b' G n')
def Bf.BD(h:Bf w0 w b l k)(C:∀s w',Bf w0 w' s (l++bw 4 n) (k+4)->K s w')(E:k<=1000:=by decide):cW 148 [b.v,.u n,.i 4] dp w K:=by obtain⟨B,q,f,G⟩:=h.2;exact qBp q (by rw[h.1];exact E) λs B' w' b' I n'=>C s w' (h.of q G (mf _ _) b' I n')
def Bf.wn(h:Bf w0 w b l k)(u:∀s w',Bf w0 w' s (l++bw 8 n) (k+8)->K s w')(C:k<=1000:=by decide):cW 149 [b.v,.w n,.i 8] dp w K:=by obtain⟨B,q,f,E⟩:=h.2;exact qBq q (by rw[h.1];exact C) λs B' w' b' G n'=>u s w' (h.of q E (mf _ _) b' G n')
def GX{r:Nat}(u:w.heap[r]?=some (.c (ids.flatMap kC).toArray T))(C:ids.length=m)(E:m<=5)(G:∀s w',Bf w w' s (ids.flatMap iS) (16*m)->K s w'): cW 105 [.slice none 0 0,.slice (pW r) m m] dp w K:=by subst C;have I:eE kC 2 [] w ⟨pW r,ids.length,ids.length⟩ ids:=fB.k5 yw (fB.fresh yw u rfl (zM _) (by rw[size_toArray,rR yw];exact zM _) (zS (by rw[rR yw];exact zM _))) λ_ _ h=>nomatch h;exact qAi I E λs B w' b f n=>G s w' ⟨Fk _,B,b,f,n⟩
def eE.max{α:Type}{enc:α->List Kw}{k n:Nat}{w:Kv}{s:Sl}{l:List α}{hi:Int}{K:Sl->Prop}(h:eE enc k S w s l)(O:hi=n)(J:n<=l.length)(h0:0<n)(Q:∀C,C.len=n->eE enc k S w C (l.take n)->K C):gb s none (some hi) (some hi) k K:=by obtain⟨h1,h2,E⟩:=h;subst O;unfold gb;refine⟨by simp;omega,Q _ oM ⟨by simp;omega,oM,.inr ?_⟩⟩;rcases E with E|⟨R,o,U,T,V,ha,G,I,hc⟩;rw[E] at J;simp at J;omega;refine⟨R,o,U,T,V,?_,G,I,λi x u=>?_⟩;simp only[xY,xX,zJ];rw[iN oP,ha];simp[Addr.j1];rw[xC] at u;split at u;exact hc i x u;cases u
end
def DW{x:Int}(h:IntKind.u64.has x):0<=x/\x<256^8:=by rw[p8];exact pV h
abbrev lz (x:gJ):Prop:=IntKind.u64.has x.1/\IntKind.u64.has x.2
def lz.ok(h:lz x):nY x:=⟨pV h.1,pV h.2⟩
def qBK{a b c d:gJ}(u:lz a)(C:lz b)(E:lz c)(G:lz d):∀x∈[a,b,c,d],nY x:=λx h=>by simp at h;rcases h with rfl|rfl|rfl|rfl;exact u.ok;exact C.ok;exact E.ok;exact G.ok
def qBL{a b c d e:gJ}(u:lz a)(C:lz b)(E:lz c)(G:lz d)(I:lz e):∀x∈[a,b,c,d,e],nY x:=λx J=>(zG.1 J).elim (λh=>by rw[h];exact u.ok) (qBK C E G I x)
def ic (a:HL fV):gJ:=(a.1,a.2.1)
def rT:HL fV->KE:=λ(_,_,h,u,C,E,G,I,J,O,t,l,k,f,n)=>iS (h,u)++(iS (C,E)++(iS (G,I)++(iS (J,O)++(bw 8 t++(bw 4 l++(bw 2 k++(bw 2 f++bw 8 n)))))))
def qQ (a:HL fV):KE:=iS (ic a)++rT a
def It(a:HL fV):(rT a).length=88:=by obtain⟨h,u,C,E,G,I,J,O,Q,R,t,l,k,f,n⟩:=a;simp only[rT,zF,me,mf]
def qst(a:HL fV):(qQ a).length=104:=by rw[qQ,zF,me,It]
def qxf(kk:∀s w',Bf w w' s (qQ a) 104->K s w'): cW 100 [JS fV a] dp w K:=by
 obtain⟨u,C,E,G,I,J,O,Q,R,U,t,l,k,f,n⟩:=a;refine qjL<|oB (oF [] w) λr1 w1 e1 f1 h=>KC h 0 rfl (u,C) (KC h 0 rfl (E,G) (KC h 0 rfl (I,J) (KC h 0 rfl (O,Q) (KC h 0 rfl (R,U) ?_))));refine oB h λr8 w2 e2 f2 h=>GX (ids:=[(u,C),(E,G),(I,J),(O,Q),(R,U)]) (h.at (i:=0) rfl) rfl oN λs3 w3 q=>?_;have h3:=(h.q8 q.fr).drew;refine KA h3 1 rfl t (KA h3 1 rfl l ?_);refine (q.q8 (Fr.refl [] w3).drew).wn λs4 w4 q=>ja ((h.q8 q.fr).cell 1) (q.BD λs5 w5 q=>?_);have V:=(h.q8 q.fr).drew;refine KA V 1 rfl k (KA V 1 rfl f (KA V 1 rfl n ?_));refine (q.q8 (Fr.refl [] w5).drew).xk λs6 w6 q=>kH ((h.q8 q.fr).cell 1) ((h.q8 q.fr).cell 1) (q.xk λs7 w7 q=>?_);refine ja ((h.q8 q.fr).cell 1) (q.wn λs8 w8 q=>?_);have e:[(u,C),(E,G),(I,J),(O,Q),(R,U)].flatMap iS++bw 8 t++bw 4 l++bw 2 k++bw 2 f++bw 8 n=qQ (u,C,E,G,I,J,O,Q,R,U,t,l,k,f,n):=by simp only[yI,flatMap_nil,qQ,ic,rT,zV,xJ,xK]
 rw[e] at q;exact kk s8 w8 (q.down (f1.trans f2))
def qvJ{K:Sl×Sl->WP}(G:∀s t w',mD w w' s (iS (ic a))->mD w w' t (rT a)->Fr [] w w'->K (s,t) w'): cW 65 [JS fV a] dz w K:=by refine qiP<|oB (oF [] w) λr1 w1 e1 u h=>KC h 0 rfl a<|qxf λs w2 q=>?_;have Q:=qst a;have I:=q.len;refine eE.max (n:=16) q.new rfl oK oN λJ _ C=>eE.part q.new 16 104 rfl (by rw[xY,I]) oN oK λO _ E _=>?_;rw[qQ,take_left' (me _)] at C;rw[zS oK,qQ,drop_left' (me _)] at E;exact G J O _ (mD.up C u.size) (mD.up E u.size) ((u.trans q.fr).drew)
def qw9{K:HL fV×Bool->WP}(hr:eO [] w s (qQ a))(ha:eK fV a)(kk:∀w',Fr [] w w'->K (a,true) w'): cW 76 [s.v] [.agg fV,.one .bool] w K:=by
 refine qjJ ?_;have hl:=hr.1;rw[qst] at hl;obtain⟨C,E,G,I,J,O,Q,R,U,V,t,l,k,f,n⟩:=a;obtain⟨ab,ac,ad,ae,af,ag,ah,ai,aj,ak,ht,u,hk,hf,hn⟩:=ha;refine oB (oF [] w) λr1 w1 e1 f1 h=>JU (by rw[hl];rfl)<|oB h λr5 w2 e2 f2 h=>oB h λr7 w3 e3 f3 h=>oB h λr9 w4 e4 f4 h=>?_;have hG:eO [r5,r7,r1] w4 s ([(C,E),(G,I),(J,O),(Q,R),(U,V)].flatMap iS++(bw 8 t++(bw 4 l++(bw 2 k++(bw 2 f++(bw 8 n++[])))))):=by
  have:=eE.q8 (hr.j6 (S':=[r5,r7,r1]) λb hb=>.inr (by have:=f1.size;have:=f2.size;simp at hb;omega)) h.fr;simpa only[yI,flatMap_nil,qQ,ic,rT,zV,xJ,xK] using this
 refine Hr (m:=5) (P9:=_) rfl oN oN h hG oM oM (qBL ⟨ab,ac⟩ ⟨ad,ae⟩ ⟨af,ag⟩ ⟨ah,ai⟩ ⟨aj,ak⟩) λs5 w5 h al=>?_;let A:Int->Int->Int->Int->Int->Array Kw:=λt l k f n=>(HL.mk fV (C,E,G,I,J,O,Q,R,U,V,t,l,k,f,n)).toArray;exact vK h al oM (DW ht) rfl (A t 0 0 0 0) λs6 w6 h r6=>vK h r6 oM (BK u) (Kr _ (nR l (BK u))) (A t l 0 0 0) λs7 w7 h r7=>vK h r7 oM (wZ hk) (Kr _ (vH k (wZ hk))) (A t l k 0 0) λs8 w8 h r8=>vK h r8 oM (wZ hf) (Kr _ (vH f (wZ hf))) (A t l k f 0) λs9 w9 h r9=>vK h r9 oM (DW hn) rfl (A t l k f n) λaF aG h aH=>KC h 1 rfl (C,E,G,I,J,O,Q,R,U,V,t,l,k,f,n)<|h.st' 3 rfl _ (iK rfl) rfl (zM _) λam h aI=>KC h 3 rfl (C,E,G,I,J,O,Q,R,U,V,t,l,k,f,n)<|kk am h.fr
end
def Gx{r:Nat}{m:KE}(E:w.heap[r]?=some (.c #[s.v,t.v] T))(G:eO [] w s l)(I:eO [] w t m)(Q:l.length+m.length<=1000)(J:∀u w',eO [] w' u (l++m)->Fr [] w w'->K u w'):cW 77 [.slice (pW r) 2 2] dp w K:=by have O:kF [] w ⟨pW r,2,2⟩ [(s,l),(t,m)]:=⟨fB.k5 zu (fB.fresh zu E rfl (zM _) (zM _) rfl) (λ_ _ h=>nomatch h),λp C=>by rcases zG.1 C with rfl|C;exact G;rw[zE.1 C];exact I⟩;have e:(ik [(s,l),(t,m)]).flatten=l++m:=(by simp[ik]);refine qqz (s:=⟨pW r,2,2⟩) O (zO rfl) (by rw[e,zF];omega) λu B w' b f n=>J u w' ?_ f;rw[e] at b;exact b.k5 mW λ_ _ h=>nomatch h
def qvM{K:HL fV×Bool->WP}(C:eO [] w s (iS (ic a)))(G:eO [] w t (rT a))(I:eK fV a)(J:∀w',Fr [] w w'->K (a,true) w'): cW 36 [s.v,t.v] [.agg fV,.one .bool] w K:=by refine qiQ ?_;have E:=C.1;rw[me] at E;refine oB (oF [] w) λr1 w1 e1 V h=>JU (by rw[E];rfl) (oB h λr5 w2 e2 f2 h=>?_);refine Gx (h.at (i:=0) rfl) (C.q8 h.fr) (G.q8 h.fr) (by rw[me,It];decide) λu w3 O Q=>qw9 O I λw4 R=>?_;have h:=h.q8 (Q.trans R);exact h.st' 1 rfl _ (iK rfl) rfl (zM _) λU h _=>KC h 1 rfl a (J U h.fr)
def gP (t:HL iU):gJ:=(t.1,t.2.1)
def rE:HL iU->KE:=λ(_,_,h,u,C,E,G,I,J,O,t,o,l,k,f,n)=>iS (h,u)++(iS (C,E)++(iS (G,I)++(iS (J,O)++(bw 8 t++(bw 4 o++(bw 4 l++(bw 2 k++(bw 2 f++bw 8 n))))))))
def rM (a:HL iU):KE:=iS (gP a)++rE a
def AU(a:HL iU):(rE a).length=92:=by obtain⟨h,u,C,E,G,I,J,O,Q,R,t,o,l,k,f,n⟩:=a;simp only[rE,zF,me,mf]
def qtS(a:HL iU):(rM a).length=108:=by rw[rM,zF,me,AU]
def qxh{a:HL iU}(kk:∀s w',Bf w w' s (rM a) 108->K s w'): cW 104 [JS iU a] dp w K:=by
 obtain⟨u,C,E,G,I,J,O,Q,R,U,t,o,l,k,f,n⟩:=a;refine qiR<|oB (oF [] w) λr1 w1 e1 f1 h=>KC h 0 rfl (u,C) (KC h 0 rfl (E,G) (KC h 0 rfl (I,J) (KC h 0 rfl (O,Q) (KC h 0 rfl (R,U) ?_))));refine oB h λr8 w2 e2 f2 h=>GX (ids:=[(u,C),(E,G),(I,J),(O,Q),(R,U)]) (h.at (i:=0) rfl) rfl oN λs3 w3 q=>?_;have V:=(h.q8 q.fr).drew;refine KA V 1 rfl t (KA V 1 rfl o (KA V 1 rfl l ?_));refine (q.q8 (Fr.refl [] w3).drew).wn λs4 w4 q=>kH ((h.q8 q.fr).cell 1) ((h.q8 q.fr).cell 1) (q.BD λs5 w5 q=>?_);refine ja ((h.q8 q.fr).cell 1) (q.BD λs5 w5 q=>?_);have h5:=(h.q8 q.fr).drew;refine KA h5 1 rfl k (KA h5 1 rfl f (KA h5 1 rfl n ?_));refine (q.q8 (Fr.refl [] w5).drew).xk λs6 w6 q=>kH ((h.q8 q.fr).cell 1) ((h.q8 q.fr).cell 1) (q.xk λs7 w7 q=>?_);refine ja ((h.q8 q.fr).cell 1) (q.wn λs8 w8 q=>?_);have e:[(u,C),(E,G),(I,J),(O,Q),(R,U)].flatMap iS++bw 8 t++bw 4 o++bw 4 l++bw 2 k++bw 2 f++bw 8 n=rM (u,C,E,G,I,J,O,Q,R,U,t,o,l,k,f,n):=by simp only[yI,flatMap_nil,rM,gP,rE,zV,xJ,xK]
 rw[e] at q;exact kk s8 w8 (q.down (f1.trans f2))
def qxa{a:HL iU}{K:HL iU×Bool->WP}(hr:eO [] w s (rM a))(ha:eK iU a)(kk:∀w',Fr [] w w'->K (a,true) w'): cW 137 [s.v] [.agg iU,.one .bool] w K:=by
 refine qiO ?_;have hl:=hr.1;rw[qtS] at hl;obtain⟨E,G,I,J,O,Q,R,U,V,d1,t,o,l,k,f,n⟩:=a;obtain⟨ab,ac,ad,ae,af,ag,ah,ai,aj,ak,ht,ho,C,hk,hf,hn⟩:=ha;refine oB (oF [] w) λr1 w1 e1 f1 h=>JU (by rw[hl];rfl)<|oB h λr5 w2 e2 f2 h=>oB h λu w3 e3 f3 h=>oB h λr9 w4 e4 f4 h=>?_;have hG:eO [r5,u,r1] w4 s ([(E,G),(I,J),(O,Q),(R,U),(V,d1)].flatMap iS++(bw 8 t++(bw 4 o++(bw 4 l++(bw 2 k++(bw 2 f++(bw 8 n++[]))))))):=by
  have:=eE.q8 (hr.j6 (S':=[r5,u,r1]) λb hb=>.inr (by have:=f1.size;have:=f2.size;simp at hb;omega)) h.fr;simpa only[yI,flatMap_nil,rM,gP,rE,zV,xJ,xK] using this
 refine Hr (m:=5) (P9:=_) rfl oN oN h hG oM oM (qBL ⟨ab,ac⟩ ⟨ad,ae⟩ ⟨af,ag⟩ ⟨ah,ai⟩ ⟨aj,ak⟩) λs5 w5 h al=>?_;let A:Int->Int->Int->Int->Int->Int->Array Kw:=λt o l k f n=>(HL.mk iU (E,G,I,J,O,Q,R,U,V,d1,t,o,l,k,f,n)).toArray;exact vK h al oM (DW ht) rfl (A t 0 0 0 0 0) λs6 w6 h r6=>vK h r6 oM (BK ho) (Kr _ (nR o (BK ho))) (A t o 0 0 0 0) λs7 w7 h u=>vK h u oM (BK C) (Kr _ (nR l (BK C))) (A t o l 0 0 0) λs7 w7 h u=>vK h u oM (wZ hk) (Kr _ (vH k (wZ hk))) (A t o l k 0 0) λs8 w8 h r8=>vK h r8 oM (wZ hf) (Kr _ (vH f (wZ hf))) (A t o l k f 0) λs9 w9 h r9=>vK h r9 oM (DW hn) rfl (A t o l k f n) λaH aI h aJ=>KC h 1 rfl (E,G,I,J,O,Q,R,U,V,d1,t,o,l,k,f,n)<|h.st' 3 rfl _ (iK rfl) rfl (zM _) λam h aK=>KC h 3 rfl (E,G,I,J,O,Q,R,U,V,d1,t,o,l,k,f,n) (kk am h.fr)
def eE.yj{b n c o cap:Nat}{L:KE}(h:eO S w ⟨pW b,n,c⟩ L)(E:o+m<=L.length)(G:m<=cap)(V:0<m):eO S w ⟨some (dm b o),m,cap⟩ ((L.drop o).take m):=by
 obtain⟨h1,h2,C⟩:=h;refine⟨by simp;omega,G,.inr ?_⟩;rcases C with C|⟨bl,o',I,T,J,O,Q,R,U⟩;subst C;simp at E;omega;cases O;refine⟨b,o,I,T,J,rfl,Q,R,λi x u=>?_⟩;rw[xC] at u;split at u;rw[xB] at u
 have:=U (o+i) x u;rw[<- this];congr 2;omega;cases u
def qAK{C n c o:Nat}{ys:KE}{a:Sl}(O:w.heap[C]?=some (.c cs T))(h0:w0.heap.size<=C)(hn:n=l.length)(hc:n<=c)(Q:c<=cs.size)(hl:cs.toList.take l.length=l.map (Value.int .u8))(f0:Fr [] w0 w)(ho:0<o/\o<n)(hr:eO [] w a ys)(hy:l.length+ys.length<=1000)(kk:∀s' w',mD w0 w' s' (l.drop o++ys)->mD w0 w' ⟨pW C,o,o⟩ (l.take o)->Fr [C] w w'->K s' w'): Pt.run dp ((Builtin.append_ #[96,96] 96 #[.slice (some (dm C o)) (n-o) (c-o),a.v]).run Tryz.prog w) K:=by
 obtain⟨i,hi,hz,G,ac⟩:=Ap;subst hn;have ad:=hr.1;have R:gA w ⟨pW C,l.length,c⟩ l [C]:=fB.one (e:=Value.int .u8) (λ_=>rfl) O rfl hc Q hl;have hR:mD w0 w ⟨pW C,l.length,c⟩ l:=zw R λb h=>by rw[zE.1 h];exact h0
 have E:=wF (P:=Tryz.prog) (tx:=96) (e':=5) hr mW (λx u hu=>by rw[zE.1 hu];rfl) oL;rw[ug] at E;have U:eO [] w ⟨some (dm C o),l.length-o,c-o⟩ (l.drop o):=by
  have:=eE.yj (o:=o) (m:=l.length-o) (cap:=c-o) hR.rd oK oK oK;rwa[zS oM] at this
 by_cases hroom:l.length+ys.length<=c;have ax:=E.newsLen;have hk:(l.length-o)+a.len<=c-o:=oK;have e0:o+(l.length-o)*1=l.length:=oK;refine xa ⟨_,_,_⟩ _ (run_append_room_src w 96 96 96 5 i oL hi C o (l.length-o) (c-o) _ a.len _ (by rw[G];exact E) hk (λj V=>?_) λj V=>?_) ?_;rw[G,e0,kD O];rw[zK] at V;have:l.length+j<cs.size:=oK;simp[this];simp[World.frozen?,O];rw[AI O,G,e0];have I:(jy w C (.c (ef cs l.length (ys.map (Value.int .u8))) T)).heap[C]?=some (.c (ef cs l.length (ys.map (Value.int .u8))) T):=(by rw[qY _ _ _ _ (fl O),iP rfl]);have J:gA _ ⟨pW C,(l++ys).length,c⟩ (l++ys) [C]:=fB.one (e:=Value.int .u8) (λ_=>rfl) I rfl (by rw[zF];exact hroom) (by rw[pE];exact Q) (by rw[sP _ _ _ oP,hl,xP,zF,JX oM];exact zS oM);have aa:mD w0 _ ⟨pW C,(l++ys).length,c⟩ (l++ys):=zw J λb h=>by rw[zE.1 h];exact h0
 refine kk _ _ ?_ ?_ (rI (fl O) _);have:=eE.yj (o:=o) (m:=l.length-o+a.len) (cap:=c-o) aa (by rw[zF];omega) hk oK;rwa[Kf oK,zS oP] at this;have:=eE.yj (o:=0) (m:=o) (cap:=o) aa (by rw[zF];omega) (zM _) ho.1;rwa[xH,JX oK] at this;have ae:=U.cells mW rfl;refine quT (m:=a.len) (e:=5) (olds:=(l.drop o).map (Value.int .u8)) (news:=ys.map (Value.int .u8)) oL hi hz G rfl oM (λj u V=>?_) E oK (by rw[ac];omega) oK λb' cs c' w' eb I f af ab ht=>?_;rw[<- ug] at V;exact ae j u V;have ag:gA w' ⟨pW b',l.length-o+a.len,c'⟩ (l.drop o++ys) [b']:=fB.one (e:=Value.int .u8) (λ_=>rfl) I oP af ab (by rw[zF,yC,<- ad,ht,xP]);refine kk _ w' (zw ag λb h=>by rw[zE.1 h,eb];exact f0.size) ?_ (f.mono λ_ h _=>nomatch h);have:=eE.yj (o:=0) (m:=o) (cap:=o) (hR.q8 f) oK (zM _) ho.1;rwa[xH] at this
def IE{K:gJ×Bool->WP}(E:eO [] w s (iS x))(C:nY x)(R:∀w',Fr [] w w'->K (x,true) w'): cW 83 [s.v] [.agg dl,.one .bool] w K:=by refine qtY ?_;have O:=E.1;rw[me] at O;refine oB (oF [] w) λr1 w1 e1 f1 h=>JU (by rw[O];rfl) (oB h λU w2 e2 f2 h=>?_);have V:=mf 8 x.1;have l1:=mf 8 x.2;refine kz (λq w'=>∃i:Nat,q=i/\i<=8/\ed [] w w' [(U,.c #[.w (li ((bw 8 x.1).take i)),.w (li ((bw 8 x.2).take i))] pf),(r1,.c dc pf)]) (λq _=>8-q.toNat) ⟨0,rfl,oN,h⟩ ?_;rintro q w3 ⟨i,rfl,hi,h⟩ X hX;apply cD<;>intro G;have u:i<8:=oK;have I:(iS x)[i]?=some ((bw 8 x.1)[i]' oK):=(by rw[iS,xA oK,zA oK]);have J:(iS x)[8+i]?=some ((bw 8 x.2)[i]' oK):=(by rw[iS,yZ oK,V,vF,zA oK]);rw[gu (8+(i:Int)) oK,gu ((i:Int)+1) oK];refine oA h.drew 0 rfl _ rfl (eO.at (E.q8 h.drew.fr) i rfl I ?_);rw[Gi (sh _ _) oK u];refine h.drew.sz 0 rfl #[.w (li ((bw 8 x.1).take (i+1))),.w (li ((bw 8 x.2).take i))] λQ h _=>oA h.drew 0 rfl _ rfl (eO.at (E.q8 h.drew.fr) (8+i) oK J ?_);rw[Gi (sh _ _) oK u];exact h.drew.sz 0 rfl #[.w (li ((bw 8 x.1).take (i+1))),.w (li ((bw 8 x.2).take (i+1)))] λw5 h _=>hX _ _ ⟨i+1,rfl,u,h⟩ oK;have u:i=8:=oK;subst u;rw[zS oK,zS oK,vX 8 C.1.1 (by rw[p8];exact C.1.2),vX 8 C.2.1 (by rw[p8];exact C.2.2)] at h;refine KC h 0 rfl x (h.st' 1 rfl _ (iK rfl) rfl (zM _) λQ h _=>?_);exact KC h 1 rfl x (R Q h.fr)
def Jc{K:Int->WP}(h:eO S w s (bw 8 n))(u:lA n)(C:K n w):cW 125 [s.v] dv w K:=
 qvQ h (sh _ _) (by rw[mf];decide) (by rw[vX 8 u.1 (by rw[p8];exact u.2)];exact C)
def qvI{m:Int}{K:Int×Int×Bool->WP}(h:eO [] w s (mi n m))(G:lA n)(I:lA m)(J:K (n,m,true) w.drew): cW 82 [s.v] dL w K:=by refine qrS ?_;have u:=h.1;rw[Cv] at u;refine JU (by rw[u];rfl) (eE.part h 0 8 rfl rfl oN (by rw[Cv];decide) λO _ C _=>eE.part h 8 16 rfl (by rw[xY,u]) oN (by rw[Cv];decide) λQ _ E _=>?_);rw[mi,xH,take_left' (mf _ _)] at C;rw[zS (by rw[Cv];decide),mi,drop_left' (mf _ _)] at E;exact Jc C.drew G (Jc E.drew I J)
def qxb{K:gJ×Int×Bool->WP}(u:eO [] w s (gO x n))(I:nY x)(J:lA n)(O:∀w',Fr [] w w'->K (x,n,true) w'): cW 135 [s.v] [.agg dl,.one (.w),.one .bool] w K:=by refine qs1 ?_;have C:=u.1;rw[Aa] at C;refine oB (oF [] w) λr1 w1 e1 Q h=>JU (by rw[C];rfl) (eE.part (u.q8 Q) 0 16 rfl rfl oN (by rw[Aa];decide) λV _ E _=>?_);rw[gO,xH,take_left' (me _)] at E;refine IE E I λw2 R=>oB (h.q8 R) λr8 w3 e3 f3 h=>h.sz 0 rfl #[.w x.1,.w x.2] λw4 h _=>KC h.drew 0 rfl x (eE.part (u.q8 h.drew.fr) 16 24 rfl (by rw[xY,C]) oN (by rw[Aa];decide) λs2 _ G _=>?_);rw[zS (by rw[Aa];decide),gO,drop_left' (me _)] at G;refine Jc G J (ja (h.drew.cells 0) ?_);exact h.drew.sz 1 rfl #[.w x.1,.w x.2] λU h _=>KC h 1 rfl x (O U h.fr)
def qon{e i0 i1:Int}{K:Sl×Sl->WP}(G:∀s t w',mD w w' s (mi e n)->mD w w' t (iS (i0,i1))->Fr [] w w'->K (s,t) w'): cW 72 [.agg #[.w e,.w n,.w i0,.w i1]] dz w K:=by refine qmG<|oB (oF [] w) λr1 w1 e1 u h=>KA h.drew 0 rfl e (KA h.drew 0 rfl n (KC h.drew 0 rfl (i0,i1) ?_));refine quJ λs w2 I C=>ja ((h.drew.q8 C).cells 0) (yq λr3 J O E=>?_);have f:=u.drew.trans C;exact G s _ J ((I.up u.size).q8 E) (O.up f.size) (f.trans E)
def qvN{e:Int}{K:KT×Bool->WP}(C:eO [] w s (mi e n))(E:eO [] w t (iS x))(G:lA e)(I:lA n)(J:nY x)(O:∀w',Fr [] w w'->K ((e,n,x.1,x.2),true) w'): cW 39 [s.v,t.v] [.agg [.w,.w,.w,.w],.one .bool] w K:=by refine qmI<|oB (oF [] w) λr1 w1 e1 u h=>qvI (C.q8 u) G I<|IE (E.q8 u.drew) J λw2 Q=>oB (h.drew.q8 Q) λr7 w3 e3 f3 h=>h.sz 0 rfl #[.w x.1,.w x.2] λR h _=>sI false R (λM U=>JU rfl U) (JU rfl ?_);refine KC h 0 rfl x (h.sz 1 rfl #[.w e,.w n,.w x.1,.w x.2] λV h _=>?_);exact KC h 1 rfl (e,n,x.1,x.2) (O V h.fr)
abbrev Ab:Kx:=57
abbrev Kp:=HL iU×gJ
def qB (k:Kp):List Kw:=HL.mk iU k.1++kC k.2
def vI (k:Kp):KE:=rE k.1++iS k.2
def po(k:Kp):(qB k).length=18:=rfl
def CI(k:Kp):(vI k).length=108:=by rw[vI,zF,AU,me]
def vR:Kp:=((0,0,0,0,0,0,0,0,0,0,0,0,0,0,0,0),(0,0))
def xg:((Tryz.prog.info? Ab).bind (·.zero)).map (λz=>z.cells.toList)=some (qB vR):=by kernel_rfl
def qsx{k:Kp}(w:Kv):(Instr.build Ab #[(0,JS iU k.1),(1,.agg #[.w k.2.1,.w k.2.2])]).run Tryz.prog w=.ok (.agg (qB k).toArray) w:=by obtain⟨z,u,h⟩:=yU.1 xg;exact qpt (P:=Tryz.prog) (a:=JS iU k.1) (b:=.agg #[.w k.2.1,.w k.2.2]) (o1:=16) (s0:=16) (s1:=2) u oL (λw=>oL) rfl rfl rfl (by rw[<- Ku,h];rfl) w
def qvL{k:Kp}{K:Sl×Sl->WP}(kk:∀s t w',mD w w' s (iS (gP k.1))->mD w w' t (vI k)->Fr [] w w'->K (s,t) w'): cW 69 [.agg (qB k).toArray] dz w K:=by
 refine qh6<|oB (oF [] w) λr1 w1 e1 f1 h=>KC h 0 rfl k.1 (qxh λs w2 q=>?_);have R:=qtS k.1;obtain⟨B,U,f2,hB⟩:=q.2;obtain⟨u,cs,T,rfl,ha,G,hn,hc,J,ht⟩:=U.ptr (by intro h;rw[h] at R;simp at R);obtain⟨sa,sn,sc⟩:=s;dsimp only at ha hn hc J;subst ha;have O:w1.heap.size<=u:=hB u (zE.2 rfl);rw[ug] at ht;unfold gb;refine⟨by simp;omega,by simp;omega,?_⟩;simp only[xY,xX];rw[iN oP,iN oM];simp only[Option.map_some,Addr.j1];have h:=(h.q8 f2).drew;refine KC h 0 rfl k.2 (oB h λr9 V e3 f3 h=>?_);have E:eE kC 2 [u] V ⟨pW r9,1,1⟩ [k.2]:=fB.k5 yw (fB.fresh yw (h.at (i:=0) rfl) rfl (zM _) (zM _) rfl) λb U h=>by have:=zE.1 U;have:=zE.1 h;have:u<w2.drew.heap.size:=fl G;omega
 have aa:Fr [] w2 V:=(Fr.refl [] w2).drew.trans f3;have hV:(rM k.1).drop 16=rE k.1:=(by rw[rM,drop_left' (me _)]);have hI:(rM k.1).take 16=iS (gP k.1):=(by rw[rM,take_left' (me _)]);have ab:rE k.1≠vI k:=λe=>by have:=Kr List.length e;rw[AU,CI] at this;omega
 refine qrN (b:=⟨some (dm u 16),sn-16,sc-16⟩) (l:=rE k.1) (I:=λs l' w'=>(s=⟨some (dm u 16),sn-16,sc-16⟩/\l'=rE k.1/\Fr [] V w')\/(l'=vI k/\mD w w' s (vI k)/\mD w w' ⟨pW u,16,16⟩ (iS (gP k.1))/\Fr [] w w')) (.inl ⟨rfl,rfl,.refl _ _⟩) (λs l w' aA q f=>q.elim (λq=>.inl ⟨q.1,q.2.1,q.2.2.trans f⟩) λq=>.inr ⟨q.1,q.2.1.q8 f,q.2.2.1.q8 f,q.2.2.2.trans f⟩) (E.j6 λ_ h=>nomatch h) (zO rfl) (λi s l' w4 a x K' hi hx C q r4 ra k'=>?_) λs w4 q=>?_;have ae:i=0:=(by simp at hi;exact hi);subst ae;cases hx;rcases q with ⟨rfl,C,Q⟩|⟨e,_⟩;have af:w4.heap[u]?=some (.c cs T):=(by rw[(aa.trans Q).block u (fl G) λh=>nomatch h];exact G);refine qAK (w0:=w) (o:=16) af (zL f1.size O) hn hc J ht (h.fr.trans Q) oK ra (by rw[R,me];decide) λs5 w5 h5 h6 f5=>?_;rw[hV] at h5;rw[hI] at h6;rw[C] at k';exact k' s5 w5 (.inr ⟨rfl,h5,h6,(h.fr.trans Q).j8 f5 λb h=>.inr (by rw[zE.1 h];exact zL f1.size O)⟩) (((E.q8 Q).j0 f5 λb h=>.inl h).j6 λ_ h=>nomatch h);rw[e] at C;exact absurd (oQ C.symm) ab;rcases q with ⟨_,e,_⟩|⟨_,q1,q2,q3⟩
 have:=Kr List.length e;rw[zF,Fk,AU] at this;simp at this;exact kk _ s w4 q2 q1 q3
def tM (k:Kp):Prop:=eK iU k.1/\lz k.2
def qvP{k:Kp}{K:List Kw×Bool->WP}(J:eO [] w s (iS (gP k.1)))(E:eO [] w t (vI k))(O:tM k)(V:∀w',Fr [] w w'->K (qB k,true) w'): cW 95 [s.v,t.v] du w K:=by refine qh7 ?_;have Q:=J.1;rw[me] at Q;have C:=E.1;rw[CI] at C;have hz:=xg;refine oJ (oF [] w) hz λr1 w1 e1 h=>sI false w1 (λM hM=>JU (by rw[Q];rfl) (by rw[C];exact hM)) (JU rfl ?_);refine eE.part (E.q8 h.fr) 0 92 rfl rfl oN (by rw[CI];decide) λs2 _ R _=>?_;rw[xH,vI,take_left' (AU _)] at R;refine oB h λr3 w3 e3 f3 h=>Gx (h.at (i:=0) rfl) (J.q8 h.fr) (R.q8 f3) (by rw[me,AU];decide) λu w4 hu f4=>qxa hu O.1 λw5 f5=>oB (h.q8 (f4.trans f5)) λr6 w6 e6 f6 h=>h.st' 0 rfl _ (iK rfl) rfl (zM _) λw7 h _=>eE.part (E.q8 h.fr) 92 108 rfl (by rw[xY,C]) oN (by rw[CI];decide) λs8 _ U _=>?_;rw[zS (by rw[CI];decide),vI,drop_left' (AU _)] at U;refine IE U O.2.ok λw9 f9=>oB (h.q8 f9) λr9 ah ai aj h=>h.st' 0 rfl _ (iK rfl) rfl (zM _) λG h _=>KC h 1 rfl k.1 (KC h 0 rfl k.2 (tP (ts:=[i3.pF]) (qB k) (qsx G) (mI (po k) ?_)));exact h.st' 3 rfl _ (iK rfl) rfl (zM _) λI h _=>ou (h.at (i:=3) rfl) (qB k) (po k) rfl (V I h.fr)
def te:HL np->KE:=λ(h,u,C,E,G,I,J,O,n)=>iS (h,u)++(iS (C,E)++(iS (G,I)++iS (J,O)))
def mN (a:HL np):Int:=a.2.2.2.2.2.2.2.2
def tu (a:HL np):KE:=te a++bw 8 (mN a)
def DQ(a:HL np):(te a).length=64:=by obtain⟨h,u,C,E,G,I,J,O,n⟩:=a;simp only[te,zF,me]
def qsu(a:HL np):(tu a).length=72:=by rw[tu,zF,DQ,mf]
def qxg{a:HL np}(R:∀s w',Bf w w' s (tu a) 72->K s w'): cW 147 [JS np a] dp w K:=by
 obtain⟨u,C,E,G,I,J,O,Q,n⟩:=a;refine qjM<|oB (oF [] w) λr1 w1 e1 f1 h=>?_;have h:=h.drew;refine KC h 0 rfl (u,C) (KC h 0 rfl (E,G) (KC h 0 rfl (I,J) (KC h 0 rfl (O,Q) (KA h 0 rfl n ?_))));refine oB h λr8 w2 e2 f2 h=>ja (h.cell 1)<|GX (ids:=[(u,C),(E,G),(I,J),(O,Q)]) (h.at (i:=0) rfl) rfl oN λs3 w3 q=>ja ((h.q8 q.fr).cell 1) (q.wn λU V q=>?_);have e:[(u,C),(E,G),(I,J),(O,Q)].flatMap iS++bw 8 n=tu (u,C,E,G,I,J,O,Q,n):=by simp only[yI,flatMap_nil,tu,mN,te,zV,xJ,xK]
 rw[e] at q;exact R U V (q.down h.fr)
def qqC{a:HL np}{K:HL np×Bool->WP}(hr:eO [] w s (tu a))(ha:eK np a)(kk:∀w',Fr [] w w'->K (a,true) w'): cW 136 [s.v] [.agg np,.one .bool] w K:=by
 refine qjK ?_;have hl:=hr.1;rw[qsu] at hl;obtain⟨u,C,E,G,I,J,O,Q,n⟩:=a;obtain⟨R,U,V,aa,ab,ac,ad,ae,hn⟩:=ha;refine oB (oF [] w) λr1 w1 e1 f1 h=>JU (by rw[hl];rfl)<|oB h λr5 w2 e2 f2 h=>oB h λr7 w3 e3 f3 h=>oB h λr9 w4 e4 f4 h=>?_;have hG:eO [r5,r7,r1] w4 s ([(u,C),(E,G),(I,J),(O,Q)].flatMap iS++(bw 8 n++[])):=by
  have:=eE.q8 (hr.j6 (S':=[r5,r7,r1]) λb hb=>.inr (by have:=f1.size;have:=f2.size;simp at hb;omega)) h.fr;simpa only[yI,flatMap_nil,tu,mN,te,zV,xJ,xK] using this
 refine Hr (m:=4) (P9:=_) rfl oN oN h hG oM oM (qBK ⟨R,U⟩ ⟨V,aa⟩ ⟨ab,ac⟩ ⟨ad,ae⟩) λs5 w5 h af=>vK h af oM (DW hn) rfl (HL.mk np (u,C,E,G,I,J,O,Q,n)).toArray λs6 w6 h r6=>KC h 1 rfl (u,C,E,G,I,J,O,Q,n) (h.st' 3 rfl _ (iK rfl) rfl (zM _) λag h av=>?_);exact KC h 3 rfl (u,C,E,G,I,J,O,Q,n) (kk ag h.fr)
def rD:HL k6->Int:=λ(_,_,_,_,_,_,_,_,_,s)=>s
def kI:HL k6->HL np:=λ(h,u,C,E,G,I,J,O,n,_)=>(h,u,C,E,G,I,J,O,n)
def qR (r:HL k6):KE:=rD r::te (kI r)
def ER(r:HL k6):(qR r).length=65:=by rw[qR,yJ,DQ]
def qvK{a0 a1:Int}{K:Sl×Sl->WP}(V:∀s t w',mD w w' s (gO (a0,a1) (mN (kI r)))->mD w w' t (qR r)->Fr [] w w'->K (s,t) w'): cW 99 [dk a0 a1,JS k6 r] dz w K:=by
 refine qmH<|oB (oF [] w) λr1 w1 e1 f1 h=>oB h λr3 w2 e2 f2 h=>KC h 0 rfl (kI r) (qxg λs w3 q=>?_);have h:=(h.q8 q.fr).drew;have hq:=(q.new.q8 (Fr.refl [] w3).drew).rd;have hn:(mN (kI r))=r.2.2.2.2.2.2.2.2.1:=rfl;have hx:(tu (kI r)).take 64=te (kI r):=(by rw[tu,take_left' (DQ _)]);have ah:=qsu (kI r);have ai:=DQ (kI r);simp only[Addr.j1];refine⟨?a,?b⟩;case' a=>refine KC h 1 rfl (a0,a1) (KA h 0 rfl (mN (kI r)) (KA h 0 rfl (rD r) (eE.part hq 0 64 rfl rfl oN oK λs4 _ G _=>Cx λI w5 J u=>?_)))
 case' b=>refine KC h 1 rfl (a0,a1) (KA h 0 rfl (mN (kI r)) (KA h 0 rfl (rD r) (eE.part hq 0 64 rfl rfl oN oK λs4 _ G _=>?_)))
 all_goals rw[xH,hx] at G
 case a=>
  have h:=h.q8 u;refine ja (h.cell 0) (oB h λr6 w6 e6 C h=>kH (h.cell 1) (h.cells 2) ?_);exact GD (w:=w6) (l:=[rD r]) (AZ (o:=0) (n:=1) (L:=[rD r]) (h.at (i:=0) rfl) (zM _) (zM _) λh=>nomatch h) ((G.q8 u).q8 C) oK oP λO B7 w7 Q E R=>V I O w7 ((J.q8 (C.trans E)).up (f1.trans (f2.trans q.fr)).size) (zw Q λb U=>zL h.fr.size (R b U)) (h.fr.trans E)
 case b=>
  refine oB h λr6 w6 e6 C h=>kH (h.cell 1) (h.cells 2) (Cx λI w5 J u=>?_);have h:=h.q8 u;exact ja (h.cell 1)<|GD (w:=w5) (l:=[rD r]) (AZ (o:=0) (n:=1) (L:=[rD r]) (h.at (i:=0) rfl) (zM _) (zM _) λh=>nomatch h) ((G.q8 C).q8 u) oK oP λO B7 w7 Q E R=>V I O w7 ((J.q8 E).up ((f1.trans (f2.trans q.fr)).drew.trans C).size) (zw Q λb U=>zL h.fr.size (R b U)) (h.fr.trans E)
abbrev BLT:Kx:=126
abbrev Bt:Kx:=128
def AQ:HL k6:=(0,0,0,0,0,0,0,0,0,0)
def IY:HL np:=(0,0,0,0,0,0,0,0,0)
def Gt{p q:Nat×Obj}(h:ed S w0 w (p::q::L)):ed S w0 w (p::L):=h.sub (.cons_cons _ (Kl _ _))
def JH{p:Nat×Obj}(h:ed S w0 w (p::L)):ed S w0 w L:=h.sub (Kl _ _)
def DJ{w1:Kv}{K:gJ×HL k6×Bool->WP}{a b c d:Nat}(h:ed [] w w1 [(a,JR np IY BLT),(b,.c #[.w x.1,.w x.2] pf),(c,JR k6 AQ Bt),(d,.c dc pf)])(I:eO [] w t (qR r))(R:∀w',Fr [] w w'->K (x,r,true) w'):BI t K a (kI r,true) w1 b d c:=by
 unfold BI;refine h.st' 0 rfl _ (iK rfl) rfl (zM _) λw2 h _=>?_;have h:=h.drew;refine KC h 1 rfl x (KC h 0 rfl (kI r) ?_);obtain⟨hl,b',o,J,_,cs,T,fr,E,U⟩:=(I.q8 h.fr).at 0 (x:=rD r) rfl;have u:w2.drew.cell? ⟨b',o+0*1,none⟩=some (.b (rD r)):=by
  rw[kD E];have:=Kr (·[0]?) U;simpa[encB] using this
 refine sM J ⟨oN,oK⟩ (qj (rD r) u ?_);have V:b'<w.heap.size:=by rcases Nat.lt_or_ge b' w.heap.size with O|O;exact O;obtain⟨_,b2,o2,C,_,aa,T2,ab,G,_⟩:=eE.at I 0 (x:=rD r) rfl;rw[J] at C;cases C;exact fl G
 have hn:∀p,p∈[a,b,c,d]->b'≠p:=λp hp e=>by
  have:∀q∈[a,b,c,d],w.heap.size<=q:=λq Q=>by simp at Q;rcases Q with rfl|rfl|rfl|rfl;exact (h.own _ (yG (i:=0) rfl)).elim (λh=>nomatch h) id;exact (h.own _ (yG (i:=1) rfl)).elim (λh=>nomatch h) id;exact (h.own _ (yG (i:=2) rfl)).elim (λh=>nomatch h) id;exact (h.own _ (yG (i:=3) rfl)).elim (λh=>nomatch h) id
  have:=this p hp;omega
 exact h.sz 3 rfl #[.w x.1,.w x.2] λw3 h f3=>kH (by show _=_;rw[kD (b:=b') (by show _=_;rw[f3.block b' (fl E) (by simpa using hn d oM)];exact E),<- kD E];exact u) (h.cells 0)<|h.st' 2 rfl _ (iK rfl) rfl (zM _) λw4 h _=>KC h 3 rfl x (KC h 2 rfl r (R w4 h.fr))
def qvO{K:gJ×HL k6×Bool->WP}(hs:eO [] w s (gO x (mN (kI r))))(ht:eO [] w t (qR r))(hx:lz x)(R:eK k6 r)(kk:∀w',Fr [] w w'->K (x,r,true) w'): cW 93 [s.v,t.v] [.agg dl,.agg k6,.one .bool] w K:=by
 refine qmJ ?_;have hl:=ht.1;rw[ER] at hl;have hb:eK np (kI r):=⟨R.1,R.2.1,R.2.2.1,R.2.2.2.1,R.2.2.2.2.1,R.2.2.2.2.2.1,R.2.2.2.2.2.2.1,R.2.2.2.2.2.2.2.1,R.2.2.2.2.2.2.2.2.1⟩;have hn:lA (mN (kI r)):=pV R.2.2.2.2.2.2.2.2.1;refine oB (oF [] w) λr1 w1 e1 f1 h=>oB h λr3 w2 e2 f2 h=>qxb (hs.q8 h.fr) hx.ok hn λw3 f3=>oB (h.q8 f3) λr7 w4 e4 f4 h=>h.sz 0 rfl #[.w x.1,.w x.2] λw5 h _=>sI false w5 (λM hM=>JU rfl (by rw[hl];exact hM)) (JU rfl ?_);have ax:=DQ (kI r);have C:∀ {w':Kv} {P:Sl->Prop},Fr [] w w'->(∀s',eO [] w' s' (te (kI r))->P s')->gb t (some 1) none none 1 P:=λf k=>eE.part (ht.q8 f) 1 65 rfl (by rw[xY,hl]) oN (by rw[ER];decide) λs6 _ J _=>k s6 (by rw[zS (by rw[ER];decide)] at J;exact J);have h:=h.drew;have U:∀ {w':Kv} {q:Nat} {T:Kx} {s' t':Sl} {P:HL np×Bool->WP},w'.heap[q]?=some (.c #[s'.v,t'.v] T)->eO [] w' s' (te (kI r))->eO [] w' t' (bw 8 (mN (kI r)))->(∀Q,Fr [] w' Q->P (kI r,true) Q)->
   cW 77 [.slice (pW q) 2 2] dp w' λu Q=>cW 136 [u.v] [.agg np,.one .bool] Q P:=λhq aj ak k=>Gx hq aj ak (by rw[mf];omega) λu Q hu f=>qqC hu hb λw3 f3=>k w3 (f.trans f3)
 refine⟨C h.fr λs6 J=>zo λr9 w7 h7 I=>?_,C h.fr λs6 J=>zo λr9 w7 h7 I=>?_,C h.fr λs6 J=>zo λr9 w7 h7 I=>?_,C h.fr λs6 J=>zo λr9 w7 h7 I=>?_,C h.fr λs6 J=>?_⟩;exact oB (h.q8 I) λq w8 _ G h=>U (h.at (i:=0) rfl) ((J.q8 I).q8 G) (h7.q8 G).rd λw9 O=>oB (h.q8 O) λa V _ _ h=>DJ (Gt h) ht kk;exact oB (h.q8 I) λq w8 _ G h=>Gx (h.at (i:=0) rfl) ((J.q8 I).q8 G) (h7.q8 G).rd (by rw[mf];omega) λu w9 hu O=>oB (h.q8 O) λa V _ E h=>qqC (hu.q8 E) hb λaz am=>DJ (Gt (h.q8 am)) ht kk;exact oB (h.q8 I) λq w8 _ G h=>oB h λa w9 _ O h=>U (h.at (i:=1) rfl) (((J.q8 I).q8 G).q8 O) ((h7.q8 G).q8 O).rd λV E=>DJ (Gt (h.q8 E)) ht kk;exact oB (h.q8 I) λa w8 _ G h=>oB h λq w9 _ O h=>U (h.at (i:=0) rfl) (((J.q8 I).q8 G).q8 O) ((h7.q8 G).q8 O).rd λV E=>DJ (JH (h.q8 E)) ht kk;exact oB h λa w7 _ I h=>zo λr9 w8 h8 G=>oB (h.q8 G) λq w9 _ O h=>U (h.at (i:=0) rfl) (((J.q8 I).q8 G).q8 O) (h8.q8 O).rd λV E=>DJ (JH (h.q8 E)) ht kk
section
section
variable {k v c:Nat} {t:Int} {w0 w:Kv} {s:Sl} {m:Nat} {dbk pb:Nat} {FD F B:KD} {D:dV} {M:eZ} {P:KE} {L:gH}
end
def qAa{t:Int}{k v:Nat}(h:C5 t)(C:uR t=((k:Int),(v:Int))):4<=(eG k v).1:=by
 obtain⟨E,G⟩:=h;have:t=0\/t=1\/t=2\/t=3\/t=4\/t=5\/t=6\/t=7:=oK;rcases this with rfl|rfl|rfl|rfl|rfl|rfl|rfl|rfl<;>
  (obtain⟨e1,u⟩:=vD C;have e1:=Int.ofNat.inj e1;have u:=Int.ofNat.inj u;subst e1 u;decide)
end
section
structure t9 (D:dV) (M:eZ) (c:Nat) (Fo:mF):Prop where
 J0:Cm D M Fo
 wf:M.Wf
 Q2:M.Q2=false
 len:M.Q1.length=24
 Q8:M.x9
 many:M.Q8.length=c
def nV (F:mF):Nat:=(F 0).1.length+(F 1).1.length+(F 2).1.length+(F 3).1.length+(F 4).1.length+(F 5).1.length+(F 6).1.length+(F 7).1.length
def qAk{t:Nat}(h:t<8):t=0\/t=1\/t=2\/t=3\/t=4\/t=5\/t=6\/t=7:=by omega
def D0{F:mF}{t:Nat}(h:t<8):(F t).1.length<=nV F:=by unfold nV;rcases qAk h with rfl|rfl|rfl|rfl|rfl|rfl|rfl|rfl<;>omega
section
variable {D:dV} {M:eZ} {c t:Nat} {F:mF} {key val:Key}
def t9.room(h:t9 D M c F)(I:t<8)(O:3*nV F+1<=c):2*(eU M t).2.2.toNat+1<=M.Q0.length:=by
 have J:=h.Q8.length_eq;rw[zF,h.many] at J;have Q:(M.J7.map (·.1)).length<=((List.range 8).flatMap λu=>(F u).2).length:=List.Nodup.length_le_of_subset h.wf.cC λx G=>by obtain⟨u,E,G⟩:=h.J0.use x (.inl G);exact yL.2 ⟨u,mem_range.2 E,G⟩
 have R:((List.range 8).flatMap λu=>(F u).2).length<=nV F:=by
  have C:∀u,u<8->(F u).2.length<=(F u).1.length:=λu E=>(h.J0.J1 u E).cT (qAa ⟨oK,oK⟩ (BY E).1);have e:(List.range 8)=[0,1,2,3,4,5,6,7]:=oN;rw[e];simp only[yI,flatMap_nil,zF,xM];unfold nV;have:=C 0 oN;have:=C 1 oN;have:=C 2 oN;have:=C 3 oN;have:=C 4 oN;have:=C 5 oN;have:=C 6 oN;have:=C 7 oN;omega
 have U:=(h.J0.J1 t I).low;have:=D0 (F:=F) I;omega
def t9.next{M':eZ}{L':gH}{P':KE}(h:t9 D M c F)(C:t<8)(E:ib D M' (kv t).1 (kv t).2 t L' P')(u:sD D M M' t (F t).2 P'):t9 D M' c (qW F t (L',P')):=
 ⟨h.J0.next h.Q2 C E u,u.wf,u.step.Q2,u.len,u.step.x9 h.Q8,by have:M'.Q8=M.Q8:=u.step.Q8;rw[this];exact h.many⟩
def t9.put(h:t9 D M c F)(u:t<8)(C:3*nV F+1<=c)(E:c<=100000)(G:key.length=(kv t).1/\fq key)(I:val.length=(kv t).2/\fq val): ∃M' P',kW D (kv t).1 (kv t).2 t key val (eU M t).2.2.toNat M=(0,M')/\t9 D M' c (qW F t (gI key val (F t).1,P')):=by
 have:=D0 (F:=F) u;obtain⟨M',P',e,J,O,_⟩:=qx0 (BY u).2.1 ⟨oK,oK⟩ G I (h.J0.J1 t u) h.wf h.Q2 h.len (h.J0.nodup t u) oK (h.room u C);exact⟨M',P',e,h.next u J O⟩
def t9.cut(h:t9 D M c F)(u:t<8)(C:3*nV F+1<=c)(E:c<=100000)(G:key∈eh (F t).1): ∃M' P',mp D (kv t).1 (kv t).2 t key (eU M t).2.2.toNat M=(0,M')/\t9 D M' c (qW F t (ir key (F t).1,P')):=by
 have:=D0 (F:=F) u;obtain⟨M',P',e,I,J,_⟩:=qyA (BY u).2.1 ⟨oK,oK⟩ (h.J0.J1 t u) G h.wf h.Q2 h.len (h.J0.nodup t u) oK (h.room u C);exact⟨M',P',e,h.next u I J⟩
end
def t9.made{D:dV}{n:Nat}(I:8<=n)(J:n<=4096)(C:(oU n).Wf):t9 D (oU n) ((n-2)-gW (n-2)) (λ_=>([],[])):=by have E:∀t:Nat,t<8->BH D (oU n) (kv t).1 (kv t).2 ((n-2)-gW (n-2)) t [] []:=λt G=>qyM ⟨oK,oK⟩ I J C;have h:=E 0 oN;exact⟨⟨λt G=>(E t G).J1,λ_ _=>.nil,λ_ _ _ _ _ _ u=>(nomatch u),λx u=>nomatch h.use x u⟩,C,h.Q2,h.len,h.Q8,h.many⟩
abbrev STT:Kx:=102
abbrev pP (r:Nat):Kw:=dQ r
structure tp (w:Kv) (Y:KD) (sb dbk pb:Nat) (FD F:KD) (D:dV) (M:eZ) (c:Nat) (Fo:mF):Prop where
 tw:TW dbk pb FD D 5000 w Y F M
 st:t9 D M c Fo
 cell:w.heap[sb]?=some (.c #[pP pb] STT)
 out:sb∉F
section
variable {w w':Kv} {sb dbk pb c t:Nat} {Y FD F F':KD} {D:dV} {M M':eZ} {Fo Fo':mF} {key val:Key} {ks vs:Sl}
def tp.q8(h:tp w Y sb dbk pb FD F D M c Fo)(f:Fr [] w w'):tp w' Y sb dbk pb FD F D M c Fo:=⟨h.tw.q8 f,h.st,by rw[f.block sb (fl h.cell) λh=>nomatch h];exact h.cell,h.out⟩
def tp.vi{K:Option Addr->Prop}(h:tp w Y sb dbk pb FD F D M c Fo)(u:K (pW pb)):nn (pW sb) λa=>ld .ptr a w K:=gV (jH h.cell (pW pb) rfl u)
def tp.x5(h:tp w Y sb dbk pb FD F D M c Fo)(u:TW dbk pb FD D 5000 w' Y F' M')(C:t9 D M' c Fo')(f:Fr F w w')(n:∀b∈F',b∈F\/w.heap.size<=b):tp w' Y sb dbk pb FD F' D M' c Fo':=
 ⟨u,C,by rw[f.block sb (fl h.cell) h.out];exact h.cell,λE=>(n sb E).elim h.out λG=>by have:=fl h.cell;omega⟩
def tp.put{K:Int->WP}(h:tp w Y sb dbk pb FD F D M c Fo)(u:t<8)(J:3*nV Fo+1<=c)(C:c<=100000)(E:key.length=(kv t).1/\fq key)(G:val.length=(kv t).2/\fq val)(Q:eO (Zo FD Y F) w ks key)(R:eO (Zo FD Y F) w vs val)(U:∀F' w' M' P',tp w' Y sb dbk pb FD F' D M' c (qW Fo t (gI key val (Fo t).1,P'))->Fr F w w'->(∀b∈F',b∈F\/w.heap.size<=b)->K 0 w'): cW 66 [pP pb,.i t,ks.v,vs.v] dq w K:=by
 obtain⟨M',P',e,V⟩:=h.st.put (key:=key) (val:=val) u J C E G;have hl:=(h.st.J0.J1 t u).low;have:=D0 (F:=Fo) u;have I:=BY u;refine qAC (f:=(eU M t).2.2.toNat) E.2 G.2 I.1 oK E.1 G.1 h.tw Q R ⟨hl.2,oK⟩ (h.st.room u J) (qui e) λF' w' O f n=>?_;rw[e] at O⊢;exact U F' w' M' P' (h.x5 O V f n) f n
def tp.cut{K:Int->WP}(h:tp w Y sb dbk pb FD F D M c Fo)(C:t<8)(I:3*nV Fo+1<=c)(J:c<=100000)(u:key∈eh (Fo t).1)(Q:eO (Zo FD Y F) w ks key)(R:∀F' w' M' P',tp w' Y sb dbk pb FD F' D M' c (qW Fo t (ir key (Fo t).1,P'))->Fr F w w'->(∀b∈F',b∈F\/w.heap.size<=b)->K 0 w'): cW 111 [pP pb,.i t,ks.v] dq w K:=by
 obtain⟨M',P',e,U⟩:=h.st.cut (key:=key) C I J u;have E:=h.st.J0.J1 t C;have V:=E.low;have:=D0 (F:=Fo) C;have G:=BY C;obtain⟨x,hx,rfl⟩:=mem_map.1 u;obtain⟨q1,q2,q3,q4⟩:=E.sort.2 x hx;obtain⟨y,hy⟩:=qqX u;have O:=E.get (key:=x.1) h.st.wf h.st.Q2;rw[hy] at O;refine qAt (f:=(eU M t).2.2.toNat) (f2:=(eU M t).2.2.toNat) q3 G.2.1 G.1 oK q1 h.tw Q ⟨V.2,oK⟩ (h.st.room C I) (by rw[O]) (E.Q5 G.2.1 u h.st.wf h.st.Q2 (h.st.J0.nodup t C) (h.st.room C I)) λF' w' E f n=>?_;rw[e] at E⊢;exact R F' w' M' P' (h.x5 E U f n) f n
def tp.get{K:KN->WP}(h:tp w Y sb dbk pb FD F D M c Fo)(G:t<8)(I:key.length=(kv t).1/\fq key)(V:eO (Zo FD Y F) w ks key)(J:∀s w' z e,(kY key (Fo t).1=some z/\e=0)\/(kY key (Fo t).1=none/\z=[]/\e=5)->eO (Zo FD Y F) w' s z->(e=0->z.length=(kv t).2)->fq z->Fr [] w w'->K (s,e) w'): cW 42 [pP pb,.i t,ks.v] dt w K:=by
 have E:=BY G;have O:=h.st.J0.J1 t G;have Q:=O.get (key:=key) h.st.wf h.st.Q2;refine quI (f:=(eU M t).2.2.toNat) I.2 E.1 oK I.1 h.tw V ?_ λs w' u f=>?_;rw[Q];cases kY key (Fo t).1 with
 | none=>exact (by decide:(5:Int)≠-1)
 | some y=>exact (by decide:(0:Int)≠-1)
 have u:=u _ h.tw.An;rw[Q] at u⊢;cases C:kY key (Fo t).1 with
 | none=>
  rw[C] at u;exact J s w' [] 5 (.inr ⟨C,rfl,rfl⟩) u (λh=>nomatch h) (λ_ h=>nomatch h) f
 | some y=>
  rw[C] at u;unfold kY at C;obtain⟨z,R,rfl⟩:=yU.1 C;have U:=O.sort.2 z (mem_of_find?_eq_some R);exact J s w' _ 0 (.inl ⟨by unfold kY;rw[R];rfl,rfl⟩) u (λ_=>U.2.1) U.2.2.2 f
end
end
end
section
open Go Go.Pt List
open Go.IntKind (wrap)
open Classical
end
section
open Go Go.Pt List
open Go.IntKind (wrap)
open Classical
def wX (frm to:Key) (x:Key×Key):Bool:=decide (cmpL x.1 frm>=0)&&decide (cmpL x.1 to<=0)
def mw (frm to:Key) (L:gH):gH:=L.filter (wX frm to)
end
section
set_option linter.unusedSectionVars false
open Go Go.Pt List
open Go.IntKind (wrap)
section
variable {α:Type} {kf vf:α->Key} {L:gH} {l:List α} {a:α} {k v:Key}
def iT {κ:Type} [DecidableEq κ] (kf:α->κ) (a:α):List α->List α
 | []=>[a]
 | x::r=>if kf x=kf a then a::r else x::iT kf a r
def qtq{κ:Type}[DecidableEq κ]{kf:α->κ}:∀ {l:List α} {i:Nat} (h:i<l.length),kf l[i]=kf a->(∀(j:Nat) (C:j<i),kf (l[j]' oK)≠kf a)->iT kf a l=l.set i a
 | x::r,0,h,e,_=>iP e
 | x::r,i+1,h,e,u=>by have E:kf x≠kf a:=u 0 oK;rw[iT,iN E,set_cons_succ,qtq (i:=i) (oQ h) e λj C=>u (j+1) oK]
def Fw{κ:Type}[DecidableEq κ]{kf:α->κ}:∀ {l:List α},(∀x∈l,kf x≠kf a)->iT kf a l=l++[a]
 | [],_=>rfl
 | x::r,h=>by rw[iT,iN (h x oM),Fw λy u=>h y (zN _ u),xL]
def Cd{κ:Type}[DecidableEq κ]{kf:α->κ}{x:α}:∀ {l:List α},x∈iT kf a l->x=a\/x∈l
 | [],h=>.inl (zE.1 h)
 | y::r,h=>by unfold iT at h;split at h;exact (zG.1 h).imp id λh=>zN _ h;rcases zG.1 h with h|h;exact .inr (by rw[h];exact JZ);exact (Cd h).imp id λh=>zN _ h
def ui{κ:Type}[DecidableEq κ]{kf:α->κ}:∀ {l:List α},(iT kf a l).length<=l.length+1
 | []=>zM _
 | y::r=>by unfold iT;split;exact Nat.le_succ _;exact Nat.succ_le_succ ui
def qpm{κ:Type}[DecidableEq κ]{kf:α->κ}{kg:α->Key}:∀ {l:List α},(∀x∈l,kf x=kf a↔kg x=kg a)->iT kf a l=iT kg a l
 | [],_=>rfl
 | y::r,h=>by have u:=h y JZ;have ih:=qpm (l:=r) λx C=>h x (zN _ C);unfold iT;by_cases e:kf y=kf a;rw[iP e,iP (u.1 e)];rw[iN e,iN λE=>e (u.2 E),ih]
def qq1:∀ {L:gH},k∉eh L->(gI k v L).Perm ((k,v)::L)
 | [],_=>.refl _
 | x::r,h=>by have h:=not_mem_of_not_mem_cons h |>λu=>And.intro (λe:k=x.1=>h (by rw[e];simp)) u;unfold gI;split;exact .refl _;rw[iN h.1];exact (List.Perm.cons x (qq1 h.2)).trans (List.Perm.swap _ _ _)
def qye:∀ {l:List α} {a b:α},(l.map kf).Nodup->a∈l->b∈l->kf b=kf a->b=a
 | x::l,a,b,h,G,E,e=>by rw[xQ,JY] at h;rcases zG.1 G with rfl|C;rcases zG.1 E with rfl|u;rfl;exact absurd (by rw[<- e];exact zZ u) h.1;rcases zG.1 E with rfl|u;exact absurd (by rw[e];exact zZ C) h.1;exact qye h.2 C u e
structure lQ (kf vf:α->Key) (L:gH) (l:List α):Prop where
 sort:fT L
 nodup:(l.map kf).Nodup
 perm:L.Perm (l.map λa=>(kf a,vf a))
def lQ.len(h:lQ kf vf L l):L.length=l.length:=by rw[h.perm.length_eq,zK]
def lQ.J5(h:lQ kf vf L l):k∈eh L↔∃x∈l,kf x=k:=by rw[(h.perm.map (·.1)).mem_iff,map_map];simp
def lQ.nil:lQ kf vf [] []:=⟨.nil,.nil,.refl _⟩
def lQ.put(h:lQ kf vf L l)(a:α):lQ kf vf (gI (kf a) (vf a) L) (iT kf a l):=by
 by_cases hin:∃x∈l,kf x=kf a;obtain⟨x,C,e⟩:=hin;obtain⟨P,Q,rfl⟩:=append_of_mem C;have u:=h.nodup;have I:(kf a,vf x)∈L:=h.perm.mem_iff.2 (mem_map.2 ⟨x,C,by rw[e]⟩);obtain⟨A,B,rfl⟩:=append_of_mem I;have J:=h.sort;unfold fT gz eh at J;rw[xP,xQ,pairwise_append] at J;have U:∀y∈A,gq y.1 (kf a):=λy E=>J.2.2 _ (zZ E) _ oM;rw[xP,xQ,yN,JY] at u;have hP:iT kf a (P++x::Q)=P++a::Q:=by
  have G:∀y∈P,kf y≠kf a:=λy E O=>u.2.2 _ (zZ E) _ oM (O.trans e.symm);clear C I h u J;induction P with
  | nil=>exact iP e
  | cons y P ih=>rw[xL,iT,iN (G y oM),ih λz R=>G z (zN _ R),xL]
 rw[Ix U,hP];refine⟨by have:=Fh (k:=kf a) (v:=vf a) h.sort;rw[Ix U] at this;exact this,?_,?_⟩;rw[xP,xQ,yN,JY,<- e];exact u;have V:=h.perm;rw[xP,xQ] at V;have h1:=(perm_middle.symm.trans V).trans perm_middle;rw[e] at h1;have h2:=List.Perm.cons_inv h1;rw[xP,xQ];exact (perm_middle.trans ((h2.cons _))).trans perm_middle.symm;have hn:∀x∈l,kf x≠kf a:=λx C e=>hin ⟨x,C,e⟩;have hk:kf a∉eh L:=λI=>hin (h.J5.1 I);rw[Fw hn];refine⟨Fh h.sort,?_,?_⟩;rw[xP,yN];exact⟨h.nodup,oM,λx C y E e=>by obtain⟨z,R,rfl⟩:=mem_map.1 C;rw[map_singleton,zE] at E;exact hn z R (e.trans E)⟩;refine (qq1 hk).trans ((h.perm.cons _).trans ?_);rw[xP];exact (JW _ _).symm
def lQ.cut(h:lQ kf vf L l)(k:Key):lQ kf vf (ir k L) (l.filter λx=>decide (kf x≠k)):=by
 refine⟨qqL h.sort,h.nodup.sublist (filter_sublist.map _),?_⟩;have:=h.perm.filter λx=>decide (x.1≠k);rw[filter_map] at this;exact this
def lQ.get(h:lQ kf vf L l)(k:Key):kY k L=(l.find? λx=>decide (kf x=k)).map vf:=by
 cases C:l.find? λx=>decide (kf x=k) with
 | none=>
  rw[List.find?_eq_none] at C;exact DA λx R e=>by obtain⟨a,E,rfl⟩:=mem_map.1 (h.perm.mem_iff.1 R);exact C a E (oQ e)
 | some a=>
  have E:=mem_of_find?_eq_some C;have O:kf a=k:=(by simpa using List.find?_some C);have U:(k,vf a)∈L:=h.perm.mem_iff.2 (mem_map.2 ⟨a,E,by rw[O]⟩);obtain⟨v,G⟩:=qqX (mem_map_of_mem U:k∈eh L);rw[G];unfold kY at G;obtain⟨z,Q,rfl⟩:=yU.1 G;have I:z.1=k:=(by simpa using List.find?_some Q);obtain⟨b,V,e⟩:=mem_map.1 (h.perm.mem_iff.1 (mem_of_find?_eq_some Q));have J:b=a:=
   qye h.nodup E V (by rw[O,<- I,<- e])
  rw[<- e,J];rfl
end
structure qi (α κ:Type) where
 key:α->κ
 g:κ->Key
 val:α->Key
 ok:α->Prop
 AA:κ->Prop
 G1:∀ a,ok a->AA (key a)
 inj:∀ k k',AA k->AA k'->g k=g k'->k=k'
section
variable {α κ:Type} [DecidableEq κ] {K:qi α κ} {L:gH} {l:List α} {a:α} {k:κ}
def mP (K:qi α κ) (L:gH) (l:List α):Prop:=lQ (λa=>K.g (K.key a)) K.val L l/\∀a∈l,K.ok a
def mP.nil:mP K [] []:=⟨.nil,λ_ h=>nomatch h⟩
def mP.len(h:mP K L l):L.length=l.length:=h.1.len
def mP.iff(h:mP K L l)(u:K.AA k)(C:a∈l):K.key a=k↔K.g (K.key a)=K.g k:=⟨λe=>by rw[e],K.inj _ _ (K.G1 a (h.2 a C)) u⟩
def mP.put(h:mP K L l)(C:K.ok a):mP K (gI (K.g (K.key a)) (K.val a) L) (iT K.key a l):=
 ⟨by rw[qpm (kg:=λa=>K.g (K.key a)) λx u=>h.iff (K.G1 a C) u];exact h.1.put a,λx u=>(Cd u).elim (λe=>by rw[e];exact C) (h.2 x)⟩
def mP.cut(h:mP K L l)(C:K.AA k):mP K (ir (K.g k) L) (l.filter λx=>decide (K.key x≠k)):=
 ⟨by rw[filter_congr (q:=λx=>decide (K.g (K.key x)≠K.g k)) λx u=>by rw[decide_eq_decide,ne_eq,ne_eq,h.iff C u]];exact h.1.cut _,λx u=>h.2 x (mem_filter.1 u).1⟩
def mP.find(h:mP K L l)(E:K.AA k):kY (K.g k) L=(l.find? λx=>decide (K.key x=k)).map K.val:=by
 rw[h.1.get];congr 1;have:∀u:List α,(∀x∈u,x∈l)->(u.find? λx=>decide (K.g (K.key x)=K.g k))=u.find? λx=>decide (K.key x=k):=by
  intro u;induction u with
  | nil=>intro _;rfl
  | cons x r ih=>
   intro C;rw[List.find?_cons,List.find?_cons,ih λy G=>C y (zN _ G),show decide (K.g (K.key x)=K.g k)=decide (K.key x=k) from decide_eq_decide.2 (h.iff E (C x JZ)).symm]
 exact this l λ_ h=>h
def mP.mem(h:mP K L l)(C:∃x∈l,K.key x=k):K.g k∈eh L:=h.1.J5.2 (C.elim λx u=>⟨x,u.1,by rw[u.2]⟩)
def mP.ok(h:mP K L l){x:α}(u:(l.find? λx=>decide (K.key x=k))=some x):K.ok x/\K.key x=k:=⟨h.2 x (mem_of_find?_eq_some u),by simpa using List.find?_some u⟩
end
end
section
open Go Go.Pt List
open Go.IntKind (wrap)
abbrev Mv:=gJ×Int×gJ
abbrev Ln:=gJ×HL k6
def qw (m:Mv):gJ×Int:=(m.1,m.2.1)
def sV (x:Ln):gJ×Int:=(x.1,mN (kI x.2))
def mX (d:HL jb):KI:=(d.1,d.2.1)
def qu (d:HL jb):gJ:=(d.2.2.1,d.2.2.2)
def pZ (k:Kp):gJ:=gP k.1
def lz.inj{a b:gJ}(u:lz a)(C:lz b)(h:iS a=iS b):a=b:=IR u.ok C.ok h
abbrev xb (p:gJ×Int):Prop:=lz p.1/\IntKind.u64.has p.2
def xb.inj{a b:gJ×Int}(u:xb a)(C:xb b)(h:gO a.1 a.2=gO b.1 b.2):a=b:=by obtain⟨E,G⟩:=qyi u.1.ok C.1.ok (pV u.2) (pV C.2) h;exact Prod.ext E G
def T64.inj{a b:KI}(u:lz a)(C:lz b)(h:mi a.1 a.2=mi b.1 b.2):a=b:=IR u.ok C.ok h
def Er:qi (HL fV) gJ:=⟨ic,iS,rT,eK fV,lz,λa h=>⟨h.1,h.2.1⟩,λ_ _=>lz.inj⟩
def Ec:qi Kp gJ:=⟨pZ,iS,vI,tM,lz,λa h=>⟨h.1.1,h.1.2.1⟩,λ_ _=>lz.inj⟩
def D6:qi (gJ×Int) gJ:=⟨λx=>x.1,iS,λx=>[x.2],λx=>lz x.1/\IntKind.u8.has x.2,lz,λa h=>h.1,λ_ _=>lz.inj⟩
def wt:qi (HL jb) (KI):=⟨mX,λp=>mi p.1 p.2,λd=>iS (qu d),eK jb,lz,λa h=>⟨h.1,h.2.1⟩,λ_ _=>T64.inj⟩
def Eh:qi Mv (gJ×Int):=⟨qw,λp=>gO p.1 p.2,λm=>iS m.2.2,λm=>xb (qw m)/\lz m.2.2,xb,λa h=>h.1,λ_ _=>xb.inj⟩
def ul:qi Ln (gJ×Int):=⟨sV,λp=>gO p.1 p.2,λx=>qR x.2,λx=>lz x.1/\eK k6 x.2,xb,λa h=>⟨h.1,h.2.2.2.2.2.2.2.2.2.1⟩,λ_ _=>xb.inj⟩
structure Bk where
 acc:List (HL fV)
 jA:List Kp
 ki:List (gJ×Int)
 due:List (HL jb)
 mE:List Mv
 mH:List Mv
 iJ:List Ln
 last:Option Int
 gn:Nat
def AS (o:Option Int):gH:=o.toList.map λn=>([1],bw 8 n)
structure Hb (T:Nat->gH) (b:Bk):Prop where
 acc:mP Er (T 0) b.acc
 jA:mP Ec (T 1) b.jA
 ki:mP D6 (T 2) b.ki
 due:mP wt (T 3) b.due
 mE:mP Eh (T 4) b.mE
 mH:mP Eh (T 5) b.mH
 iJ:mP ul (T 6) b.iJ
 tr:T 7=AS b.last
def Bk.size (b:Bk):Nat:=b.acc.length+b.jA.length+b.ki.length+b.due.length+b.mE.length+b.mH.length+b.iJ.length+b.last.toList.length
def Bk.dZ (b:Bk) (a:HL fV):Bk:={ b with acc:=iT ic a b.acc }
def Bk.mT (b:Bk) (k:Kp):Bk:={ b with jA:=iT pZ k b.jA }
def Bk.px (b:Bk) (m:Mv):Bk:={ b with mE:=iT qw m b.mE }
def Bk.rm (b:Bk) (m:Mv):Bk:={ b with mH:=iT qw m b.mH }
def Bk.gj (b:Bk) (x:gJ×Int):Bk:={ b with ki:=iT (λx=>x.1) x b.ki }
def Bk.pq (b:Bk) (x:Ln):Bk:={ b with iJ:=iT sV x b.iJ }
def nI (a b:HL jb):Bool:=decide (a.1<b.1\/a.1=b.1/\a.2.1<b.2.1)
def kX (d:HL jb):List (HL jb)->List (HL jb)
 | []=>[d]
 | x::r=>if nI d x then d::x::r else x::kX d r
def iY (d:HL jb) (l:List (HL jb)):List (HL jb):=l.filter λx=>decide (mX x≠mX d)
def Bk.kc (b:Bk) (d:HL jb):Bk:={ b with due:=iY d b.due }
def Bk.kb (b:Bk) (d:HL jb):Bk:={ b with due:=kX d (iY d b.due) }
def eX (b:Bk) (i:gJ):Option (HL fV):=b.acc.find? λx=>decide (ic x=i)
def iG (b:Bk) (i:gJ):Option Kp:=b.jA.find? λx=>decide (pZ x=i)
def sO (b:Bk) (i:gJ):Int:=((b.ki.find? λx=>decide (x.1=i)).map (·.2)).getD 0
def zm (t:HL iU):Mv:=((t.2.2.1,t.2.2.2.1),t.2.2.2.2.2.2.2.2.2.2.2.2.2.2.2,gP t)
def Cl (t:HL iU):Mv:=((t.2.2.2.2.1,t.2.2.2.2.2.1),t.2.2.2.2.2.2.2.2.2.2.2.2.2.2.2,gP t)
def Bk.gF (b:Bk) (k:Kp):Bk:=((b.mT k).px (zm k.1)).rm (Cl k.1)
def Da{d:HL jb}:∀ {l:List (HL jb)},(kX d l).Perm (d::l)
 | []=>.refl _
 | x::r=>by unfold kX;split;exact .refl _;exact (Da.cons x).trans (.swap _ _ _)
def mP.perm{α κ:Type}{K:qi α κ}{L:gH}{l l':List α}(h:mP K L l)(p:l.Perm l'):mP K L l':=
 ⟨⟨h.1.sort,(p.map _).nodup_iff.1 h.1.nodup,h.1.perm.trans (p.map _)⟩,λx u=>h.2 x (p.mem_iff.2 u)⟩
def qrr{α κ:Type}[DecidableEq κ]{kf:α->κ}{a:α}:∀ {l:List α},(l.map kf).Nodup->(iT kf a l).Perm (a::l.filter λx=>decide (kf x≠kf a))
 | [],_=>.refl _
 | x::r,h=>by rw[xQ,JY] at h;unfold iT;by_cases e:kf x=kf a;rw[iP e,filter_cons,iN (by simp[e]),filter_eq_self.2 λy u=>by have:kf y≠kf a:=λC=>h.1 (by rw[e,<- C];exact zZ u);simpa using this];rw[iN e,filter_cons,iP (oQ e)];exact ((qrr h.2).cons x).trans (.swap _ _ _)
def mP.nodup{α κ:Type}{K:qi α κ}{L:gH}{l:List α}(h:mP K L l):(l.map K.key).Nodup:=by
 have:=h.1.nodup;rw[show (λa=>K.g (K.key a))=K.g∘K.key from rfl,<- map_map] at this;exact this.of_map _ λa b h e=>h (by rw[e])
def pz (T:Nat->gH) (t:Nat) (L:gH):Nat->gH:=λu=>if u=t then L else T u
section
variable {T:Nat->gH} {b:Bk}
def Hb.dZ(h:Hb T b){a:HL fV}(u:eK fV a):Hb (pz T 0 (gI (iS (ic a)) (rT a) (T 0))) (b.dZ a):=⟨h.acc.put u,h.jA,h.ki,h.due,h.mE,h.mH,h.iJ,h.tr⟩
def Hb.mT(h:Hb T b){a:Kp}(u:tM a):Hb (pz T 1 (gI (iS (pZ a)) (vI a) (T 1))) (b.mT a):=⟨h.acc,h.jA.put u,h.ki,h.due,h.mE,h.mH,h.iJ,h.tr⟩
def Hb.gj(h:Hb T b){a:gJ×Int}(u:lz a.1/\IntKind.u8.has a.2):Hb (pz T 2 (gI (iS a.1) [a.2] (T 2))) (b.gj a):=⟨h.acc,h.jA,h.ki.put u,h.due,h.mE,h.mH,h.iJ,h.tr⟩
def Hb.px(h:Hb T b){a:Mv}(u:xb (qw a)/\lz a.2.2):Hb (pz T 4 (gI (gO a.1 a.2.1) (iS a.2.2) (T 4))) (b.px a):=⟨h.acc,h.jA,h.ki,h.due,h.mE.put u,h.mH,h.iJ,h.tr⟩
def Hb.rm(h:Hb T b){a:Mv}(u:xb (qw a)/\lz a.2.2):Hb (pz T 5 (gI (gO a.1 a.2.1) (iS a.2.2) (T 5))) (b.rm a):=⟨h.acc,h.jA,h.ki,h.due,h.mE,h.mH.put u,h.iJ,h.tr⟩
def Hb.pq(h:Hb T b){a:Ln}(u:lz a.1/\eK k6 a.2):Hb (pz T 6 (gI (gO a.1 (mN (kI a.2))) (qR a.2) (T 6))) (b.pq a):=⟨h.acc,h.jA,h.ki,h.due,h.mE,h.mH,mP.put (K:=ul) (a:=a) h.iJ u,h.tr⟩
def Hb.kc(h:Hb T b){d:HL jb}(u:eK jb d):Hb (pz T 3 (ir (mi d.1 d.2.1) (T 3))) (b.kc d):=⟨h.acc,h.jA,h.ki,mP.cut (K:=wt) (k:=mX d) h.due ⟨u.1,u.2.1⟩,h.mE,h.mH,h.iJ,h.tr⟩
def Hb.kb(h:Hb T b){d:HL jb}(u:eK jb d):Hb (pz T 3 (gI (mi d.1 d.2.1) (iS (qu d)) (T 3))) (b.kb d):=⟨h.acc,h.jA,h.ki,(mP.put (K:=wt) (a:=d) h.due u).perm ((qrr h.due.nodup).trans Da.symm),h.mE,h.mH,h.iJ,h.tr⟩
def Hb.size(h:Hb T b):(T 0).length+(T 1).length+(T 2).length+(T 3).length+(T 4).length+(T 5).length+(T 6).length+(T 7).length=b.size:=by rw[h.acc.len,h.jA.len,h.ki.len,h.due.len,h.mE.len,h.mH.len,h.iJ.len,h.tr,AS,zK];rfl
def qBI:Hb (λ_=>[]) ⟨[],[],[],[],[],[],[],none,0⟩:=⟨.nil,.nil,.nil,.nil,.nil,.nil,.nil,rfl⟩
end
end
section
open Go Go.Pt List
open Go.IntKind (wrap)
open Classical
variable {K:Int->WP} {L:KK} {T:KD} {a:HL fV} {j:Nat} {l x z:KE} {n:Int} {t:HL iU} {w wa:Kv}
structure qf (F:KD) (w:Kv) (F':KD) (w':Kv):Prop where
 fr:Fr F w w'
 new:∀ x∈F',x∈F\/w.heap.size<=x
section
variable {F F' F2:KD} {w w' w2:Kv}
def qf.refl(F:KD)(w:Kv):qf F w F w:=⟨.refl _ _,λ_ h=>.inl h⟩
def qf.trans(h:qf F w F' w')(k:qf F' w' F2 w2):qf F w F2 w2:=⟨h.fr.j8 k.fr h.new,λx u=>(k.new x u).elim (h.new x) λC=>.inr (zL h.fr.size C)⟩
def qf.pre(f:Fr [] w w')(k:qf F w' F' w2):qf F w F' w2:=⟨(f.mono λ_ h _=>nomatch h).trans k.fr,λx u=>(k.new x u).imp id λh=>zL f.size h⟩
end
def uq (w:Kv) (Y:KD) (sb pb:Nat) (F:KD) (c:Nat) (b:Bk):Prop:=∃dbk FD D M Fo,tp w Y sb dbk pb FD F D M c Fo/\Hb (λt=>(Fo t).1) b/\c<=100000
def SB (w:Kv) (Y:KD) (sb:Nat) (F:KD) (c:Nat) (b:Bk):Prop:=∃pb,uq w Y sb pb F c b
section
variable {w w' w1:Kv} {Y Y' F F':KD} {sb c:Nat} {b b':Bk}
def SB.q8(h:SB w Y sb F c b)(f:Fr [] w w'):SB w' Y sb F c b:=by obtain⟨pb,dbk,FD,D,M,Fo,u,C,E⟩:=h;exact⟨pb,dbk,FD,D,M,Fo,u.q8 f,C,E⟩
def SB.y5(h:SB w Y sb F c b)(C:∀b∈Y',b∈Y):SB w Y' sb F c b:=by obtain⟨pb,dbk,FD,D,M,Fo,u,E,G⟩:=h;exact⟨pb,dbk,FD,D,M,Fo,⟨u.tw.y5 C,u.st,u.cell,u.out⟩,E,G⟩
def SB.yf(h:SB w Y sb F c b):∀b∈Y,b∉F:=by obtain⟨pb,dbk,FD,D,M,Fo,u,C,E⟩:=h;exact u.tw.yf
def SB.J0(h:SB wa Y sb F c b)(o:ed [] wa w L):SB w (fY L++Y) sb F c b:=by obtain⟨pb,dbk,FD,D,M,Fo,u,C,E⟩:=h;exact⟨pb,dbk,FD,D,M,Fo,⟨u.tw.cI o,u.st,o.nt u.cell (λh=>nomatch h),u.out⟩,C,E⟩
def SB.Jh{L':KK}(h:SB wa (fY L++Y) sb F c b)(C:sb∉fY L)(o:ed (fY L) wa w L'):SB w (fY L'++Y) sb F c b:=by obtain⟨pb,dbk,FD,D,M,Fo,u,E,G⟩:=h;exact⟨pb,dbk,FD,D,M,Fo,⟨u.tw.J0 o,u.st,o.nt u.cell C,u.out⟩,E,G⟩
def SB.own(h:SB w (fY L++Y) sb F c b)(o:ed T wa w L)(s:qf F w F' w'):ed (fY L) w' w' L:=tH o s.fr λb u=>h.yf b (zH _ u)
def SB.lt(h:SB w Y sb F c b):sb<w.heap.size:=by obtain⟨pb,dbk,FD,D,M,Fo,u,C,E⟩:=h;exact fl u.cell
def uq.vi{pb:Nat}{K:Addr->Option Addr->Prop}(h:uq w1 Y sb pb F c b)(f:Fr [] w1 w)(u:K (dm sb) (pW pb)):nn (pW sb) λa=>ld .ptr a w (K a):=by
 obtain⟨dbk,FD,D,M,Fo,C,E,G⟩:=h;have:=(C.q8 f).cell;exact gV (jH this (pW pb) rfl u)
def uq.held{pb:Nat}(h:uq w1 Y sb pb F c b)(f:Fr [] w1 w):w.cell? (dm sb)=some (dQ pb):=by obtain⟨dbk,FD,D,M,Fo,u,C,E⟩:=h;rw[kD (u.q8 f).cell];rfl
def uq.put{t pb:Nat}{g v:Key}{ks vs:Sl}{K:Int->WP}(h:uq w1 Y sb pb F c b)(f:Fr [] w1 w)(hr:3*b.size+1<=c)(O:t<8)(Q:g.length=(kv t).1/\fq g)(R:v.length=(kv t).2/\fq v)(U:mD w1 w ks g)(V:mD w1 w vs v)(C:∀T,Hb T b->Hb (pz T t (gI g v (T t))) b')(kk:∀F' w',uq w' Y sb pb F' c b'->qf F w1 F' w'->K 0 w'):cW 66 [dQ pb,.i t,ks.v,vs.v] dq w K:=by
 obtain⟨dbk,FD,D,M,Fo,E,I,J⟩:=h;have h1:=E.q8 f;refine h1.put O (by have:=I.size;unfold nV;omega) J Q R (U.to E.tw.An) (V.to E.tw.An) λF' w' M' P' G f2 n=>kk F' w' ⟨dbk,FD,D,M',_,G,?_,J⟩ (.pre f ⟨f2,n⟩);have e:(λu=>(qW Fo t (gI g v (Fo t).1,P') u).1)=pz (λu=>(Fo u).1) t (gI g v (Fo t).1):=by funext u;unfold qW pz;split<;>rfl
 rw[e];exact C _ I
def uq.get{t pb:Nat}{g:Key}{ks:Sl}{α κ:Type}[DecidableEq κ]{T:qi α κ}{l:List α}{k:κ}{K:KN->WP}(h:uq w1 Y sb pb F c b)(J:Fr [] w1 w)(O:t<8)(Q:g.length=(kv t).1/\fq g)(R:mD w1 w ks g)(U:∀P,Hb P b->mP T (P t) l)(V:g=T.g k)(G:T.AA k)(k0:∀s w',(l.find? λx=>decide (T.key x=k))=none->Fr [] w w'->K (s,5) w')(k1:∀s w' x,(l.find? λx=>decide (T.key x=k))=some x->T.ok x->T.key x=k->eO [] w' s (T.val x)->Fr [] w w'->K (s,0) w'): cW 42 [dQ pb,.i t,ks.v] dt w K:=by
 obtain⟨dbk,FD,D,M,Fo,I,hb,hc⟩:=h;subst V;have h1:=I.q8 J;refine h1.get O Q (R.to I.tw.An) λs w' z e E hz _ _ f=>?_;have q:=U _ hb;have u:=q.find G;rcases E with ⟨E,rfl⟩|⟨E,rfl,rfl⟩;rw[E] at u;cases C:l.find? λx=>decide (T.key x=k) with
 | none=>rw[C] at u;cases u
 | some x=>
  rw[C] at u;cases u
  have:=q.ok C;exact k1 s w' x C this.1 this.2 (hz.j6 λ_ h=>nomatch h) f
 rw[E] at u;cases C:l.find? λx=>decide (T.key x=k) with
 | none=>exact k0 s w' C f
 | some x=>rw[C] at u;cases u
def SB.put{t:Nat}{g v:Key}{ks vs:Sl}{K:Int->WP}(h:SB w1 Y sb F c b)(f:Fr [] w1 w)(C:3*b.size+1<=c)(E:t<8)(G:g.length=(kv t).1/\fq g)(I:v.length=(kv t).2/\fq v)(J:mD w1 w ks g)(O:mD w1 w vs v)(u:∀T,Hb T b->Hb (pz T t (gI g v (T t))) b')(Q:∀F' w',SB w' Y sb F' c b'->qf F w1 F' w'->K 0 w'):nn (pW sb) λa=>ld .ptr a w λp=>cW 66 [.p p,.i t,ks.v,vs.v] dq w K:=
 h.elim λpb h=>h.vi f (h.put f C E G I J O u λF' w' h=>Q F' w' ⟨pb,h⟩)
def SB.get{t:Nat}{g:Key}{ks:Sl}{α κ:Type}[DecidableEq κ]{T:qi α κ}{l:List α}{k:κ}{K:KN->WP}(h:SB w1 Y sb F c b)(C:Fr [] w1 w)(E:t<8)(G:g.length=(kv t).1/\fq g)(I:mD w1 w ks g)(J:∀P,Hb P b->mP T (P t) l)(O:g=T.g k)(u:T.AA k)(Q:∀s w',(l.find? λx=>decide (T.key x=k))=none->Fr [] w w'->K (s,5) w')(R:∀s w' x,(l.find? λx=>decide (T.key x=k))=some x->T.ok x->T.key x=k->eO [] w' s (T.val x)->Fr [] w w'->K (s,0) w'): nn (pW sb) λa=>ld .ptr a w λp=>cW 42 [.p p,.i t,ks.v] dt w K:=
 h.elim λpb h=>h.vi C (h.get C E G I J O u Q R)
end
section
def lC:HL fV:=(0,0,0,0,0,0,0,0,0,0,0,0,0,0,0)
def rZ{a b:KE}(h:fq a)(u:fq b):fq (a++b):=λx C=>(zD.1 C).elim (h x) (u x)
def qze(a:HL fV):fq (rT a):=rZ (pR _) (rZ (pR _) (rZ (pR _) (rZ (pR _) (rZ (sh _ _) (rZ (sh _ _) (rZ (sh _ _) (rZ (sh _ _) (sh _ _))))))))
def qAe(a:HL iU):fq (rE a):=rZ (pR _) (rZ (pR _) (rZ (pR _) (rZ (pR _) (rZ (sh _ _) (rZ (sh _ _) (rZ (sh _ _) (rZ (sh _ _) (rZ (sh _ _) (sh _ _)))))))))
def qBa(k:Kp):fq (vI k):=rZ (qAe _) (pR _)
def qz7{r:HL k6}(h:eK k6 r):fq (qR r):=λx u=>by rcases zG.1 u with rfl|u;exact GQ h.2.2.2.2.2.2.2.2.2;exact (rZ (pR _) (rZ (pR _) (rZ (pR _) (pR _)))) x u
section
variable {w w' w1:Kv} {Y F:KD} {sb c:Nat} {b b':Bk}
def SB.cut{t:Nat}{g:Key}{ks:Sl}{K:Int->WP}(h:SB w1 Y sb F c b)(f:Fr [] w1 w)(hr:3*b.size+1<=c)(R:t<8)(U:mD w1 w ks g)(C:∀T,Hb T b->g∈eh (T t))(E:∀T,Hb T b->Hb (pz T t (ir g (T t))) b')(V:∀F' w',SB w' Y sb F' c b'->qf F w1 F' w'->K 0 w'):nn (pW sb) λa=>ld .ptr a w λp=>cW 111 [.p p,.i t,ks.v] dq w K:=by
 obtain⟨pb,dbk,FD,D,M,Fo,J,G,O⟩:=h;have Q:=J.q8 f;refine Q.vi (Q.cut R (by have:=G.size;unfold nV;omega) O (C _ G) (U.to J.tw.An) λF' w' M' P' I f2 n=>V F' w' ⟨pb,dbk,FD,D,M',_,I,?_,O⟩ (.pre f ⟨f2,n⟩));have e:(λu=>(qW Fo t (ir g (Fo t).1,P') u).1)=pz (λu=>(Fo u).1) t (ir g (Fo t).1):=by funext u;unfold qW pz;split<;>rfl
 rw[e];exact E _ G
def Gr{i0 i1:Int}{K:HL fV×Bool->WP}(h:SB w Y sb F c b)(hi:lz (i0,i1))(kk:∀w',Fr [] w w'->K ((eX b (i0,i1)).getD lC,(eX b (i0,i1)).isSome) w'): cW 11 [dQ sb,dk i0 i1] [.agg fV,.one .bool] w K:=by
 refine qh9<|oB (oF [] w) λr1 w1 _ f1 o=>oB o λr3 w2 _ f2 o=>KC o 1 rfl (i0,i1) (yq λr4 R U V=>?_);have C:∀(x:HL fV) (O:Bool) (I:Kv),Fr [] R I->(x=(eX b (i0,i1)).getD lC/\O=(eX b (i0,i1)).isSome)->Pt.st (dm r3) (HL.mk ng x) I λu=>dT ng (dm r3) u λt=>K (t,O) u:=λx O I E e=>by rw[e.1,e.2];exact oH (o.q8 (V.trans E)) 0 rfl _ (iK rfl) rfl (zM _) λu o _=>oC o 0 rfl _ rfl (kk u o.fr)
 refine qpy<|oB (oF [] R) λr5 I _ E o2=>SB.get (T:=Er) (k:=(i0,i1)) (l:=b.acc) (t:=0) h (o.fr.trans (V.trans E)) oN ⟨me _,pR _⟩ ((U.q8 E).up o.fr.size) (λP q=>q.acc) rfl hi (λs u hn J=>?_) λs u x hx Q he hv J=>?_;refine JT rfl (oB (o2.q8 J) λr6 w6 _ f6 o3=>KC o3 0 rfl lC (o3.st' 1 rfl _ (iK rfl) rfl (zM _) λw7 G f7=>KC G 1 rfl lC ?_));exact C _ _ w7 G.fr ⟨by rw[show eX b (i0,i1)=none from hn];rfl,by rw[show eX b (i0,i1)=none from hn];rfl⟩;refine JU rfl (rS (lb:=[]) rfl oL (qvM ((U.rd.q8 E).q8 J |>λq=>by rw[<- he] at q;exact q) hv Q λw6 f6=>?_));exact oH ((o2.q8 J).q8 f6) 0 rfl _ (iK rfl) rfl (zM _) λw7 G f7=>KC G 0 rfl x<|C _ _ w7 G.fr ⟨by rw[show eX b (i0,i1)=some x from hx];rfl,by rw[show eX b (i0,i1)=some x from hx];rfl⟩
end
end
def qCg{x y b:Nat}{K:KI->WP}(C:b<=1)(u:K ((((x+18446744073709551616-y-b)%18446744073709551616:Nat):Int),((if x<y+b then 1 else 0:Nat):Int)) w): ext Tryz.prog 190 [.w x,.w y,.w b] dK w K:=by
 refine Et (e:=λh=>do
  let (x,y,b) <- Extern.MathBitsCarry.three "Sub64" h;pure (Extern.MathBitsCarry.pair ((x+Extern.MathBitsCarry.m64-y-b)%Extern.MathBitsCarry.m64) (if x<y+b then 1 else 0))) Tryz.func190 (by kernel_rfl) (by kernel_rfl) (by kernel_rfl) (by kernel_rfl) _ w ?_ u
 have:b=0\/b=1:=(by omega);rcases this with rfl|rfl<;>rfl
def qyN{x y b:Int}{K:KI->WP}(u:lA x)(C:lA y)(G:b=0\/b=1)(E:K ((x-y-b)%18446744073709551616,if x<y+b then 1 else 0) w): ext Tryz.prog 190 [.w x,.w y,.w b] dK w K:=by obtain⟨x,rfl⟩:=Int.eq_ofNat_of_zero_le u.1;obtain⟨y,rfl⟩:=Int.eq_ofNat_of_zero_le C.1;obtain⟨b,rfl⟩:=Int.eq_ofNat_of_zero_le (show 0<=b by omega);refine qCg oK ?_;rw[show (((x+18446744073709551616-y-b)%18446744073709551616:Nat):Int)=((x:Int)-y-b)%18446744073709551616 by omega,show ((if x<y+b then 1 else 0:Nat):Int)=if (x:Int)<y+b then 1 else 0 by by_cases h:x<y+b;rw[iP h,iP];rfl;rw[iN h,iN];rfl];exact E
def quP{a0 a1 u h:Int}{y:gJ}{K:gJ×Bool->WP}(Q:nY (a0,a1))(R:nY (u,h))(C:qO (a0,a1) (u,h)=some y)(U:∀w',Fr [] w w'->K (y,true) w'): cW 157 [dk a0 a1,dk u h] [.agg dl,.one .bool] w K:=by
 refine quH ?_;obtain⟨E,G⟩:=Q;obtain⟨I,J⟩:=R;dsimp only at E G I J;unfold qO wv vj at C;dsimp only at C;split at C
 ·next hle=>
  cases C;refine oB (oF [] w) λr1 w1 _ f1 o=>oB o λr3 w2 _ f2 o=>oB o λr5 w3 _ f3 o=>KA o 2 rfl a1 (KA o 1 rfl h (qyN G J (.inl rfl) ?_));refine KA o 2 rfl a0 (KA o 1 rfl u (qyN E I (by dsimp only;split<;>simp) ?_));dsimp only;have V:(if a1<h+0 then (1:Int) else 0)=if a1<h then 1 else 0:=by rw[Int.add_zero]
  rw[V];have O:¬a0<u+(if a1<h then (1:Int) else 0):=(by split<;>omega);rw[iN O];refine JU rfl (o.st' 0 rfl _ (iK rfl) rfl (zM _) λw4 o _=>oC o 0 rfl (_,_) rfl ?_);have e:((a0-u-if a1<h then (1:Int) else 0)%18446744073709551616,(a1-h-0)%18446744073709551616)=((a0*18446744073709551616+a1-(u*18446744073709551616+h)) / 18446744073709551616,(a0*18446744073709551616+a1-(u*18446744073709551616+h))%18446744073709551616):=by refine Prod.ext ?_ ?_;dsimp only;split<;>omega;dsimp only;omega
  have:=U w4 o.fr;rwa[<- e] at this
 cases C
abbrev Pa:=HL fV×HL fV×Bool×Bool
variable {p:Pa}
def lf (p:Pa):List Kw:=HL.mk fV p.1++HL.mk fV p.2.1++[.bool p.2.2.1,.bool p.2.2.2]
def sE(p:Pa):(lf p).length=32:=rfl
def qV:Pa:=(lC,lC,false,false)
abbrev rB:Kx:=74
def Aj:((Tryz.prog.info? rB).bind (·.zero)).map (λz=>z.cells.toList)=some (lf qV):=by kernel_rfl
def gN (a:HL fV):gJ:=(a.2.2.1,a.2.2.2.1)
def gX (a:HL fV):gJ:=(a.2.2.2.2.2.2.1,a.2.2.2.2.2.2.2.1)
def jv (a:HL fV):Int:=a.2.2.2.2.2.2.2.2.2.2.2.2.2.1
def md (x:gJ):HL fV->HL fV:=λ(h,u,C,E,r)=>(h,u,x.1,x.2,r)
def ml (x:gJ):HL fV->HL fV:=λ(h,u,C,E,G,I,J,O,r)=>(h,u,C,E,G,I,x.1,x.2,r)
def kS (x:Int):HL fV->HL fV:=λ(h,u,C,E,G,I,J,O,Q,R,t,l,k,f,n)=>(h,u,C,E,G,I,J,O,Q,R,t,l,k,x,n)
def gf (t:HL iU):gJ:=(t.2.2.2.2.2.2.1,t.2.2.2.2.2.2.2.1)
def ky (t:HL iU):Int:=t.2.2.2.2.2.2.2.2.2.2.2.2.2.2.1
def gR (t:HL iU) (p:Pa):Option Pa:=
 (qO (gN p.1) (gf t)).bind λx=>(qO (gX p.2.1) (gf t)).map λy=>
  (let d:=md x p.1;if hasB (ky t) 64 then kS (nP (jv d) 16) d else d,let c:=ml y p.2.1;if hasB (ky t) 128 then kS (nP (jv c) 16) c else c,p.2.2)
def qvm{b o k:Nat}{cs:Array Kw}{T:Kx}{C:Kw}{x y a:gJ}{K:Bool->WP}(U:w.heap[b]?=some (.c cs T))(E:∀(w1:Kv) (K:Option Addr->WP),(∀w2,Fr [] w1 w2->K (some ⟨b,o+k,none⟩) w2)->eF Tryz.prog C [.agg #[.pointer (some (dm b o))]] dE w1 K)(G:(cs.toList.drop (o+k)).take 2=kC x)(I:nY x)(Q:nY a)(R:qO x a=some y)(V:∀w',w'.heap[b]?=some (.c (ef cs (o+k) (kC y)) T)->Fr [b] w w'->K true w'): cW 107 [C,.p (some (dm b o)),dk a.1 a.2] dr w K:=by
 refine qot ?_;have J:o+k+2<=cs.size:=by
  have:=Kr List.length G;rw[yM,yC,yw,Ku] at this;omega
 have O:∀ {w1 w2:Kv} {r:Nat} {t:gJ},ed [b] w w2 [(r,.c #[.w t.1,.w t.2] pf),(b,.c cs T)]->FW K r (y,true) w2 (some ⟨b,o+k,none⟩):=λ{w1 w2 r t} h=>by unfold FW;refine h.st' 0 rfl _ (iK rfl) rfl (zM _) λw3 h _=>jf (λ_ w'=>w'.heap[b]?=some (.c (ef cs (o+k) (kC y)) T)/\Fr [b] w w') ?_ λ_ u h=>V u h.1 h.2;refine JT rfl (KC h 0 rfl y (gV (h.st' 1 rfl _ rfl rfl J λu h _=>⟨h.at (i:=1) rfl,h.fr⟩)))
 refine oB (Gg U) λr1 w1 _ f1 h=>E w1 _ λw2 f2=>?_;have h:=(h.q8 f2).drew;refine⟨gV (oC h 1 rfl x G (KC h 0 rfl a (quP I Q R λw3 f3=>?_))),gV (oC h 1 rfl x G (KC h 0 rfl a ?_))⟩;refine oB (h.q8 f3) λr4 u _ f4 h=>kH (h.cells 1) (h.cells 2 rfl G) (O (w1:=u) (t:=(0,0)) ?_);exact h.sub (.cons_cons _ (.cons _ (.refl _)));refine oB h λr4 u _ f4 h=>kH (h.cells 1) (h.cells 2 rfl G) (quP I Q R λw5 f5=>O (w1:=u) (t:=(0,0)) ?_);exact (h.q8 f5).sub (.cons_cons _ (.cons _ (.refl _)))
def qCD{b:Nat}(w1:Kv)(K:Option Addr->WP)(h:∀w2,Fr [] w1 w2->K (some (dm b 2)) w2):eF Tryz.prog (.func (.func 158) #[] #[]) [.agg #[dQ b]] dE w1 K:=by refine rS (lb:=[]) rfl oL (qep ?_);exact oB (oF [] w1) λr w2 _ u o=>KA o 0 rfl (pW b) (gV (h w2 u))
def qCC{b:Nat}(w1:Kv)(K:Option Addr->WP)(h:∀w2,Fr [] w1 w2->K (some (dm b 21)) w2):eF Tryz.prog (.func (.func 161) #[] #[]) [.agg #[.pointer (some (dm b 15))]] dE w1 K:=by refine rS (lb:=[]) rfl oL (qdT ?_);exact oB (oF [] w1) λr w2 _ u o=>KA o 0 rfl (some (dm b 15)) (gV (h w2 u))
def qxy{K:Kw×Kw×Kw->WP}(h:∀x y w',Fr [] w w'->K (.func (.func 158) #[] #[],x,y) w'):cW 108 [] [.agg [.any,.any,.any]] w K:=by refine qms ?_;unfold qg1;exact oB (oF [] w) λr w1 _ u o=>o.st' 0 rfl _ (iK rfl) rfl (zM _) λw2 o _=>oC o 0 rfl (_,_,_) rfl (h _ _ w2 o.fr)
def qwe{K:Kw×Kw×Kw->WP}(h:∀x y w',Fr [] w w'->K (.func (.func 161) #[] #[],x,y) w'):cW 109 [] [.agg [.any,.any,.any]] w K:=by refine qkO ?_;unfold qgo;exact oB (oF [] w) λr w1 _ u o=>o.st' 0 rfl _ (iK rfl) rfl (zM _) λw2 o _=>oC o 0 rfl (_,_,_) rfl (h _ _ w2 o.fr)
def AR(h:eK fV a):nY (gN a):=⟨pV h.2.2.1,pV h.2.2.2.1⟩
def AV(h:eK fV a):nY (gX a):=⟨pV h.2.2.2.2.2.2.1,pV h.2.2.2.2.2.2.2.1⟩
def vn(h:eK fV a):0<=jv a/\jv a<65536:=wZ h.2.2.2.2.2.2.2.2.2.2.2.2.2.1
def uM(h:eK iU t):nY (gf t):=⟨pV h.2.2.2.2.2.2.1,pV h.2.2.2.2.2.2.2.1⟩
def EY(h:eK iU t):0<=ky t/\ky t<65536:=wZ h.2.2.2.2.2.2.2.2.2.2.2.2.2.2.1
def Jl{q:Pa}{am:gJ}{K:List Kw×Bool->WP}(G:eK iU t)(U:eK fV p.1)(C:eK fV p.2.1)(E:gR t p=some q)(u:∀w',Fr [] w w'->K (lf q,true) w'): cW 73 [JS iU t,dk am.1 am.2,.bool false,.agg (lf p).toArray] du w K:=by
 refine qmr ?_;unfold gR at E;obtain⟨x,hx,E⟩:=Option.bind_eq_some_iff.1 E;obtain⟨y,hy,rfl⟩:=yU.1 E;have hz:=Aj;refine oB (oF [] w) λr1 w1 _ f1 o=>oB o λr3 w2 _ f2 o=>oB o λI w3 _ f3 o=>oJ o hz λJ w4 _ o=>jf (λV w'=>V=false/\ed [] w w' [(J,.c (lf qV).toArray rB),(I,.c (lf (md x p.1,ml y p.2.1,p.2.2)).toArray rB),(r3,.c #[.w am.1,.w am.2] pf),(r1,JR iU t 55)]) ?_ ?_;have o:=o.drew;refine KC o 3 rfl (gf t) (qxy λ_ _ w5 f5=>?_);have o:=o.q8 f5;refine ja (o.cells 3) (qvm (o:=0) (k:=2) (x:=gN p.1) (a:=gf t) (y:=x) (o.at (i:=1) rfl) (λw1 K u=>qCD w1 K u) rfl (AR U) (uM G) hx λO Q f6=>?_);have o:=CS o 1 rfl f6 Q;refine JU rfl (KC o 3 rfl (gf t) (qwe λ_ _ w7 f7=>?_));have o:=o.q8 f7;refine ja (o.cells 3) (qvm (o:=15) (k:=6) (x:=gX p.2.1) (a:=gf t) (y:=y) (o.at (i:=1) rfl) (λw1 K u=>qCC w1 K u) rfl (AV C) (uM G) hy λw8 R f8=>?_);exact⟨rfl,CS o 1 rfl f8 R⟩;rintro V w5 ⟨rfl,o⟩;refine JU rfl (JU rfl ?_);simp only[Addr.j1];have hF:=EY G;have e1:bits .and .u16 (ky t) 64=if hasB (ky t) 64 then 64 else 0:=GG 6 hF oN
 have e2:bits .and .u16 (ky t) 128=if hasB (ky t) 128 then 128 else 0:=GG 7 hF oN
 refine jf (λ_ w'=>ed [] w w' [(J,.c (lf qV).toArray rB),(I,.c (lf ((let d:=md x p.1;if hasB (ky t) 64 then kS (nP (jv d) 16) d else d),ml y p.2.1,p.2.2)).toArray rB),(r3,.c #[.w am.1,.w am.2] pf),(r1,JR iU t 55)]) ?_ λ_ O o=>?_;refine KA o 3 rfl (ky t) ?_;rw[e1];by_cases h:hasB (ky t) 64;rw[iP h];refine JT rfl (KA o 1 rfl (jv p.1) ?_);rw[show bits .andNot .u16 (jv p.1) 16=nP (jv p.1) 16 from quS 4 (vn U) oN];refine o.st' 1 rfl (lf (kS (nP (jv p.1) 16) (md x p.1),ml y p.2.1,p.2.2)).toArray rfl rfl (zO rfl) λO o _=>?_;dsimp only;rw[iP h];exact o;rw[iN h];refine JU rfl ?_;dsimp only;rw[iN h];exact o;generalize hd:(let d:=md x p.1;if hasB (ky t) 64 then kS (nP (jv d) 16) d else d)=d at o u;refine jf (λ_ w'=>ed [] w w' [(J,.c (lf qV).toArray rB),(I,.c (lf (d,(let c:=ml y p.2.1;if hasB (ky t) 128 then kS (nP (jv c) 16) c else c),p.2.2)).toArray rB),(r3,.c #[.w am.1,.w am.2] pf),(r1,JR iU t 55)]) ?_ λ_ w7 o=>?_;refine KA o 3 rfl (ky t) ?_;rw[e2];by_cases h:hasB (ky t) 128;rw[iP h];refine JT rfl (KA o 1 rfl (jv p.2.1) ?_);rw[show bits .andNot .u16 (jv p.2.1) 16=nP (jv p.2.1) 16 from quS 4 (vn C) oN];refine o.st' 1 rfl (lf (d,kS (nP (jv p.2.1) 16) (ml y p.2.1),p.2.2)).toArray rfl rfl (zO rfl) λO o _=>?_;dsimp only;rw[iP h];exact o;rw[iN h];refine JU rfl ?_;dsimp only;rw[iN h];exact o;refine ou (o.at (i:=1) rfl) _ (sE _) rfl (mI (sE _) (o.st' 0 rfl _ (iK rfl) rfl (zM _) λw8 o _=>ou (o.at (i:=0) rfl) _ (sE _) rfl ?_));exact u w8 o.fr
section
section
variable {w w' w1:Kv} {Y F:KD} {sb c:Nat} {b b':Bk}
def Dd(h:SB w Y sb F c b)(C:3*b.size+1<=c)(E:eK fV a)(G:∀F' w',SB w' Y sb F' c (b.dZ a)->qf F w F' w'->K 0 w'): cW 24 [dQ sb,JS fV a] dq w K:=by refine qgc<|oB (oF [] w) λr1 w1 _ u o=>KC o 0 rfl a (qvJ λs t w2 I J O=>?_);exact SB.put (t:=0) h (u.trans O) C oN ⟨me _,pR _⟩ ⟨It _,qze _⟩ (I.up u.size) (J.up u.size) (λT q=>q.dZ E) G
def quO{i0 i1:Int}{K:List Kw×Bool->WP}(h:SB w Y sb F c b)(hi:lz (i0,i1))(kk:∀w',Fr [] w w'->K (qB ((iG b (i0,i1)).getD vR),(iG b (i0,i1)).isSome) w'): cW 50 [dQ sb,dk i0 i1] du w K:=by
 refine qgY<|oB (oF [] w) λr1 w1 _ f1 o=>oJ o xg λr3 w2 _ o=>KC o 1 rfl (i0,i1) (yq λr4 R U V=>?_);have hz:=xg;have C:∀(x:Kp) (O:Bool) (I:Kv),Fr [] R I->(x=(iG b (i0,i1)).getD vR/\O=(iG b (i0,i1)).isSome)->ig ((qB x).length=18) (Pt.st (dm r3) (qB x) I λu=>iH 18 (dm r3) u λt=>K (t,O) u):=λx O I f4 e=>by rw[e.1,e.2];refine mI (po _) (oH (o.q8 (V.trans f4)) 0 rfl _ (iK rfl) rfl (zM _) λu o _=>?_);exact ou (o.at (i:=0) rfl) _ (po _) rfl (kk u o.fr)
 refine qpz<|oJ (oF [] R) hz λr5 I _ E=>SB.get (T:=Ec) (k:=(i0,i1)) (l:=b.jA) (t:=1) h (o.fr.trans (V.trans E.fr)) oN ⟨me _,pR _⟩ ((U.q8 E.fr).up o.fr.size) (λP q=>q.jA) rfl hi (λs u hn J=>?_) λs u x hx Q he hv J=>?_;refine JT rfl (oJ (E.q8 J) hz λr6 w6 _ o3=>ou (o3.at (i:=0) rfl) _ (po vR) rfl (mI rfl (o3.st' 1 rfl _ (iK rfl) rfl (zM _) λw7 G f7=>ou (G.at (i:=1) rfl) _ (po vR) rfl ?_)));exact C _ _ w7 G.fr ⟨by rw[show iG b (i0,i1)=none from hn];rfl,by rw[show iG b (i0,i1)=none from hn];rfl⟩;refine JU rfl (rS (lb:=[]) rfl oL (qvP (by have q:=(U.rd.q8 E.fr).q8 J;rw[<- he] at q;exact q) hv Q λw6 f6=>?_));refine mI (po x) (oH ((E.q8 J).q8 f6) 0 rfl _ (iK rfl) rfl (zM _) λw7 G f7=>ou (G.at (i:=0) rfl) _ (po x) rfl ?_);exact C _ _ w7 G.fr ⟨by rw[show iG b (i0,i1)=some x from hx];rfl,by rw[show iG b (i0,i1)=some x from hx];rfl⟩
def qAG{i0 i1:Int}(h:SB w Y sb F c b)(hi:lz (i0,i1))(G:∀w',Fr [] w w'->K (sO b (i0,i1)) w'): cW 15 [dQ sb,dk i0 i1] [.one .b] w K:=by
 refine qi1 ?_;obtain⟨pb,h⟩:=h;refine oB (oF [] w) λr1 w1 _ u o=>h.vi u.drew (KC o.drew 0 rfl (i0,i1) (yq λV w3 I J=>?_));have f:=u.drew.trans J;refine ja (h.held f) (h.get (T:=D6) (k:=(i0,i1)) (l:=b.ki) (t:=2) f oN ⟨me _,pR _⟩ (I.up u.drew.size) (λP q=>q.ki) rfl hi (λs C O E=>JT rfl ?_) λs C x Q R he U E=>JU rfl (eO.at U 0 rfl (x:=x.2) rfl ?_));have:=G C (f.trans E);unfold sO at this;rwa[show (b.ki.find? λx=>decide (x.1=(i0,i1)))=none from O] at this;have:=G C (f.trans E);unfold sO at this;rwa[show (b.ki.find? λx=>decide (x.1=(i0,i1)))=some x from Q] at this
def qos{i0 i1 x:Int}(h:SB w Y sb F c b)(Q:3*b.size+1<=c)(hi:lz (i0,i1))(C:IntKind.u8.has x)(R:∀F' w',SB w' Y sb F' c (b.gj ((i0,i1),x))->qf F w F' w'->K 0 w'): cW 29 [dQ sb,dk i0 i1,.b x] dq w K:=by
 refine qgH ?_;obtain⟨pb,h⟩:=h;have U:fq [x]:=λz hz=>by rw[zE.1 hz];exact GQ C
 have new:∀ {w2 E:Kv} {r:Nat},Fr [] w w2->r=w2.heap.size->E.heap[r]?=some (.c (gS [x]) 5)->mD w E ⟨pW r,1,1⟩ [x]:=λf e hb=>IW (by have:=f.size;omega) hb (zM _) (zM _) rfl;refine oB (oF [] w) λr1 w1 _ u o=>⟨h.vi u.drew (KC o.drew 0 rfl (i0,i1) (yq λr4 E G I=>ja (h.held (u.drew.trans I)) (oB (o.drew.q8 I) λr5 w4 J V o=>?_))),h.vi u.drew (KC o.drew 0 rfl (i0,i1) (oB o.drew λr5 w4 J V o=>?_))⟩;refine kH (o.cells 1) (h.held o.fr) (h.put (t:=2) o.fr Q oN ⟨me _,pR _⟩ ⟨rfl,U⟩ ((G.q8 V).up u.drew.size) (new (u.drew.trans I) J (o.at (i:=0) rfl)) (λT q=>q.gj (a:=((i0,i1),x)) ⟨hi,C⟩) λF' w' h=>R F' w' ⟨pb,h⟩);refine kH (o.cells 1) (h.held o.fr) (yq λr6 w5 G O=>ja (h.held (o.fr.trans O)) ?_);exact h.put (t:=2) (o.fr.trans O) Q oN ⟨me _,pR _⟩ ⟨rfl,U⟩ (G.up o.fr.size) (new u.drew J ((o.q8 O).at (i:=0) rfl)) (λT q=>q.gj (a:=((i0,i1),x)) ⟨hi,C⟩) λF' w' h=>R F' w' ⟨pb,h⟩
def qv1{u C E G:Int}(h:SB w Y sb F c b)(J:3*b.size+1<=c)(O:eK jb (u,C,E,G))(Q:∀F' w',SB w' Y sb F' c (b.kb (u,C,E,G))->qf F w F' w'->K 0 w'): cW 32 [dQ sb,.agg #[.w u,.w C,.w E,.w G]] dq w K:=by refine qiZ<|oB (oF [] w) λr1 w1 _ I o=>KC o 0 rfl (u,C,E,G) (qon λs t w2 R U V=>?_);exact SB.put (t:=3) h (I.trans V) J oN ⟨Cv _ _,qtT _ _⟩ ⟨me _,pR _⟩ (R.up I.size) (U.up I.size) (λT q=>q.kb O) Q
def qvZ{u C E G:Int}(h:SB w Y sb F c b)(O:3*b.size+1<=c)(Q:eK jb (u,C,E,G))(I:(u,C,E,G)∈b.due)(R:∀F' w',SB w' Y sb F' c (b.kc (u,C,E,G))->qf F w F' w'->K 0 w'): cW 74 [dQ sb,.agg #[.w u,.w C,.w E,.w G]] dq w K:=by refine qiY<|oB (oF [] w) λr1 w1 _ J o=>KC o 0 rfl (u,C,E,G) (qon λs t w2 U ht V=>?_);exact SB.cut (t:=3) h (J.trans V) O oN (U.up J.size) (λT q=>mP.mem (K:=wt) (k:=(u,C)) q.due ⟨_,I,rfl⟩) (λT q=>q.kc Q) R
def qv2{a0 a1:Int}{r:HL k6}(h:SB w Y sb F c b)(C:3*b.size+1<=c)(E:lz (a0,a1))(u:eK k6 r)(G:∀F' w',SB w' Y sb F' c (b.pq ((a0,a1),r))->qf F w F' w'->K 0 w'): cW 58 [dQ sb,dk a0 a1,JS k6 r] dq w K:=by refine qi0<|oB (oF [] w) λr1 w1 _ Q o=>oB o λr3 w2 _ R o=>KC o 1 rfl (a0,a1) (KC o 0 rfl r (qvK λs t U I J O=>?_));exact SB.put (t:=6) h (o.fr.trans O) C oN ⟨Aa _ _,Dc _ _⟩ ⟨ER _,qz7 u⟩ (I.up o.fr.size) (J.up o.fr.size) (λT q=>q.pq (a:=((a0,a1),r)) ⟨E,u⟩) G
end
end
section
section
variable {w w' w1:Kv} {Y F F':KD} {sb pb c:Nat} {b b':Bk}
def uq.J0(h:uq wa Y sb pb F c b)(o:ed [] wa w L):uq w (fY L++Y) sb pb F c b:=by obtain⟨dbk,FD,D,M,Fo,u,C,E⟩:=h;exact⟨dbk,FD,D,M,Fo,⟨u.tw.cI o,u.st,o.nt u.cell (λh=>nomatch h),u.out⟩,C,E⟩
def uq.own(h:uq w (fY L++Y) sb pb F c b)(o:ed T wa w L)(s:qf F w F' w'):ed (fY L) w' w' L:=tH o s.fr λb u=>SB.yf ⟨pb,h⟩ b (zH _ u)
def SB.count{t:Nat}(h:SB w1 Y sb F c b)(f:Fr [] w1 w)(E:t<8)(G:∀(T:Nat->gH) (x y:Int) w',Hb T b->Fr [] w w'->K (T t).length w'): nn (pW sb) λa=>ld .ptr a w λp=>cW 85 [.p p,.i t] [.agg [.u,.u,.u]] w λq w'=>K q.2.1 w':=by obtain⟨pb,h⟩:=h;refine h.vi f ?_;obtain⟨dbk,FD,D,M,Fo,C,I,Q⟩:=h;refine TW.J4 (C.q8 f).tw λw' J=>?_;have O:=(qhM (C.st.J0.J1 t E)).2.2.1;rw[O];exact G _ 0 0 w' I J
def vu (b:Bk):KE:=[b.acc.length,b.jA.length,b.ki.length,b.due.length,b.mE.length,b.mH.length,b.iJ.length,b.last.toList.length]
abbrev c8:List Cell:=[.u,.u,.u,.u,.u,.u,.u,.u]
def vY (b:Bk):HL c8:=(b.acc.length,b.jA.length,b.ki.length,b.due.length,b.mE.length,b.mH.length,b.iJ.length,b.last.toList.length)
def Hb.cnt{T:Nat->gH}(h:Hb T b){t:Nat}(u:t<8):(vu b)[t]?=some ((T t).length:Int):=by rcases qAk u with rfl|rfl|rfl|rfl|rfl|rfl|rfl|rfl;rw[h.acc.len];rfl;rw[h.jA.len];rfl;rw[h.ki.len];rfl;rw[h.due.len];rfl;rw[h.mE.len];rfl;rw[h.mH.len];rfl;rw[h.iJ.len];rfl;rw[h.tr,AS,zK];rfl
def qvY{K:HL c8->WP}(h:SB w Y sb F c b)(R:∀w',Fr [] w w'->K (vY b) w'): cW 46 [dQ sb] [.agg c8] w K:=by
 refine qiX<|oB (oF [] w) λr1 w1 _ f1 o=>oB o λr3 w2 _ f2 o=>kz (λq w'=>∃i:Nat,q=i/\i<=8/\ed [] w w' [(r3,.c (((vu b).take i).map (Value.int .u32)++(zs (8-i)).map (Value.int .u32)).toArray 118),(r1,.c ((zs 8).map (Value.int .u32)).toArray 118)]) (λq _=>8-q.toNat) ⟨0,rfl,oN,o⟩ ?_;rintro q w3 ⟨i,rfl,U,o⟩ X V;apply cD<;>intro E;have C:i<8:=oK;refine SB.count (K:=λx w'=>ig (0<=(i:Int)/\(i:Int)<((8:Nat):Int)) (Pt.st (Addr.add (dm r3) (Int.toNat i*1)) [.u x] w' λw2=>X (wrap .i64 (i+1)) w2)) h o.fr C λT _ _ O hb f4=>mI ⟨oK,oK⟩ ?_;simp only[Addr.j1];have Q:((vu b).take i).length=i:=(by rw[yM];exact xT U);have hx:=hb.cnt C;obtain⟨G,I⟩:=zP.1 hx;have J:ef (((vu b).take i).map (Value.int .u32)++(zs (8-i)).map (Value.int .u32)).toArray i [.u ((T i).length:Int)]=(((vu b).take (i+1)).map (Value.int .u32)++(zs (8-(i+1))).map (Value.int .u32)).toArray:=by
  have hz:(zs (8-i)).map (Value.int .u32)=[.u 0]++(zs (8-(i+1))).map (Value.int .u32):=(by rw[show 8-i=(8-(i+1))+1 by omega];rfl);rw[hz,<- zV,yH G,I,xP];have:=vr (A:=((vu b).take i).map (Value.int .u32)) (X:=[.u 0]) (Y:=[.u ((T i).length:Int)]) (Z:=(zs (8-(i+1))).map (Value.int .u32)) rfl;rw[zK,Q] at this;exact this
 rw[show 0+Int.toNat (i:Int)*1=i by omega,gu _ oK];exact oH (o.q8 f4) 0 rfl _ J rfl (by rw[size_toArray,zF,zK,zK,Q,rU];show i+1<=_;omega) λw5 o _=>V _ _ ⟨i+1,rfl,C,o⟩ oK;have C:i=8:=oK;subst C;refine KC o 0 rfl (vY b) (o.st' 1 rfl _ (iK rfl) rfl (zM _) λO o _=>?_);exact KC o 1 rfl (vY b) (R O o.fr)
def qv3{k:Kp}(h:SB w Y sb F c b)(hr:3*(b.size+3)+1<=c)(C:tM k)(kk:∀F' w',SB w' Y sb F' c (b.gF k)->qf F w F' w'->K 0 w'): cW 28 [dQ sb,.agg (qB k).toArray] dq w K:=by refine qfN ?_;obtain⟨pb,h⟩:=h;refine oB (oF [] w) λr1 w1 _ f1 o=>KC o 0 rfl k.1 (oB o λr4 w2 _ f2 o=>o.st' 0 rfl _ (iK rfl) rfl (zM _) λw3 o f3=>?_);refine ou (o.at (i:=1) rfl) (qB k) rfl rfl (qvL λs t w4 hs ht f4=>?_);have J:=o.fr;have h:=h.J0 o;have p1:=ui (kf:=pZ) (a:=k) (l:=b.jA);have p2:=ui (kf:=qw) (a:=zm k.1) (l:=b.mE);have z1:(b.mT k).size<=b.size+1:=(by unfold Bk.size Bk.mT;dsimp only;omega);have z2:((b.mT k).px (zm k.1)).size<=b.size+2:=(by unfold Bk.size Bk.px Bk.mT;dsimp only;omega);have hi:lz (gP k.1):=⟨C.1.1,C.1.2.1⟩;have hn:IntKind.u64.has k.1.2.2.2.2.2.2.2.2.2.2.2.2.2.2.2:=C.1.2.2.2.2.2.2.2.2.2.2.2.2.2.2.2;refine h.vi f4 (h.put (t:=1) f4 oK oN ⟨me _,pR _⟩ ⟨CI _,qBa _⟩ hs ht (λT q=>q.mT C) λF5 w5 G s5=>JU rfl ?_);have o5:=h.own o s5;have o:=o5.drew;have g:=(Fr.refl [] w5).drew;have O:lz (k.1.2.2.1,k.1.2.2.2.1):=⟨C.1.2.2.1,C.1.2.2.2.1⟩;have Q:lz (k.1.2.2.2.2.1,k.1.2.2.2.2.2.1):=⟨C.1.2.2.2.2.1,C.1.2.2.2.2.2.1⟩;refine G.vi g (KC o 0 rfl (k.1.2.2.1,k.1.2.2.2.1) (KA o 0 rfl k.1.2.2.2.2.2.2.2.2.2.2.2.2.2.2.2 (KC o 0 rfl (k.1.1,k.1.2.1) (Cx λs6 w6 R u=>kH ((o.q8 u).cells 0) (G.held (g.trans u)) (yq λr7 w7 U E=>ja (G.held ((g.trans u).trans E)) ?_)))));refine G.put (t:=4) ((g.trans u).trans E) oK oN ⟨Aa _ _,Dc _ _⟩ ⟨me _,pR _⟩ ((R.q8 E).up (zM _)) (U.up u.size) (λT q=>q.px (a:=zm k.1) ⟨⟨O,hn⟩,hi⟩) λF8 w8 I s8=>JU rfl ?_;have o:=(G.own o5 s8).drew;have g:=(Fr.refl [] w8).drew;refine I.vi g (KC o 0 rfl (k.1.2.2.2.2.1,k.1.2.2.2.2.2.1) (KA o 0 rfl k.1.2.2.2.2.2.2.2.2.2.2.2.2.2.2.2 (KC o 0 rfl (k.1.1,k.1.2.1) (Cx λs6 w9 R u=>kH ((o.q8 u).cells 0) (I.held (g.trans u)) (yq λr7 aq U E=>ja (I.held ((g.trans u).trans E)) ?_)))));exact I.put (t:=5) ((g.trans u).trans E) oK oN ⟨Aa _ _,Dc _ _⟩ ⟨me _,pR _⟩ ((R.q8 E).up (zM _)) (U.up u.size) (λT q=>q.rm (a:=Cl k.1) ⟨⟨Q,hn⟩,hi⟩) λV aa ab ac=>kk V aa (SB.y5 ⟨pb,ab⟩ λ_ h=>zI _ h) (.pre J ((s5.trans s8).trans ac))
end
end
section
def rowOf (a:HL fV) (s n:Int):HL k6:=(a.2.2.1,a.2.2.2.1,a.2.2.2.2.1,a.2.2.2.2.2.1,a.2.2.2.2.2.2.1,a.2.2.2.2.2.2.2.1,a.2.2.2.2.2.2.2.2.1,a.2.2.2.2.2.2.2.2.2.1,n,s)
def qyE{s:Int}(h:eK fV a)(u:IntKind.u8.has s)(C:IntKind.u64.has n):eK k6 (rowOf a s n):=⟨h.2.2.1,h.2.2.2.1,h.2.2.2.2.1,h.2.2.2.2.2.1,h.2.2.2.2.2.2.1,h.2.2.2.2.2.2.2.1,h.2.2.2.2.2.2.2.2.1,h.2.2.2.2.2.2.2.2.2.1,C,u⟩
def jB (b:Bk) (a:HL fV) (s n:Int):Bk:=if hasB (jv a) 8 then b.pq (ic a,rowOf a s n) else b
def fJ (b:Bk) (p:Pa) (n:Int):Bk:=jB (jB ((b.dZ p.1).dZ p.2.1) p.1 1 n) p.2.1 2 n
def lh (b:Bk) (i j:gJ):Pa:=((eX b i).getD lC,(eX b j).getD lC,(eX b i).isSome,(eX b j).isSome)
def Aq{b:Bk}:(b.dZ a).size<=b.size+1:=by
 have:=ui (kf:=ic) (a:=a) (l:=b.acc);unfold Bk.size Bk.dZ;dsimp only;omega
def FM{b:Bk}{s:Int}:(jB b a s n).size<=b.size+1:=by
 unfold jB;split;have:=ui (kf:=sV) (a:=(ic a,rowOf a s n)) (l:=b.iJ);unfold Bk.size Bk.pq;dsimp only;omega;omega
section
variable {w w' w1:Kv} {Y F F':KD} {sb pb c:Nat} {b b':Bk}
def qCb{s:Int}{K:HL k6->WP}(h:∀w',Fr [] w w'->K (rowOf a s n) w'):cW 59 [JS fV a,.b s,.w n] [.agg k6] w K:=by refine qrQ<|oB (oF [] w) λr1 w1 _ C o=>oB o λr3 w2 _ E o=>oC o 1 rfl (_,_) rfl (oC o 1 rfl (_,_) rfl (oC o 1 rfl (_,_) rfl (oC o 1 rfl (_,_) rfl ?_)));exact o.st' 0 rfl _ (iK rfl) rfl (zM _) λu o _=>KC o 0 rfl (rowOf a s n) (h u o.fr)
def qsk{r1 O:Nat}{T1 U:Kx}{s:Int}(h:SB w Y sb F c b)(Q:w.heap[r1]?=some (.c #[dQ sb] T1))(V:w.heap[O]?=some (.c #[.w n] U))(E:eK fV a)(hs:IntKind.u8.has s)(hn:IntKind.u64.has n)(hr:3*b.size+1<=c)(C:∀F' w',SB w' Y sb F' c (jB b a s n)->qf F w F' w'->K 0 w'):cW 57 [JS fV a,.b s,dQ r1,dQ O] dq w K:=by
 refine qmw ?_;have e1:bits .and .u16 (jv a) 8=if hasB (jv a) 8 then 8 else 0:=GG 3 (vn E) oN
 refine oB (oF [] w) λr2 w2 _ J o=>KA o 0 rfl (jv a) ?_;rw[e1];unfold jB at C;by_cases hb:hasB (jv a) 8;rw[iP hb] at C⊢;have f:=J.drew;have u:∀ {r:Nat} {R:Obj},w.heap[r]?=some R->∀ {G:Kv},Fr [] w G->G.heap[r]?=some R:=λh G f=>by rw[f.block _ (fl h) λh=>nomatch h];exact h
 refine JU rfl (jH (u Q f) (pW sb) rfl (KC o.drew 0 rfl (a.1,a.2.1) (KC o.drew 0 rfl a (jH (u V f) n rfl (qCb λG I=>kH ((o.drew.q8 I).cells 0) ((kD (u Q (f.trans I))).trans rfl) ?_)))));exact qv2 (h.q8 (f.trans I)) hr ⟨E.1,E.2.1⟩ (qyE E hs hn) λF' w' h s=>C F' w' h (.pre (f.trans I) s);rw[iN hb] at C⊢;exact JT rfl (C F w2 (h.q8 J) (.pre J (.refl _ _)))
def qAz(h:SB w Y sb F c b)(Q:eK fV p.1)(C:eK fV p.2.1)(R:IntKind.u64.has n)(hr:3*(b.size+4)+1<=c)(kk:∀F' w',SB w' Y sb F' c (fJ b p n)->qf F w F' w'->K 0 w'):cW 20 [dQ sb,.agg (lf p).toArray,.w n] dq w K:=by refine qpW<|oB (oF [] w) λr1 w1 _ f1 o=>oB o λr3 w2 _ f2 o=>oB o λU w3 _ f3 o=>oB o λE w4 _ f4 o=>o.st' 0 rfl _ (iK rfl) rfl (zM _) λw5 o _=>oB o λaf w6 _ f6 o=>?_;have f:=o.fr;have h:=h.J0 o;have z1:=Aq (b:=b) (a:=p.1);have z2:=Aq (b:=b.dZ p.1) (a:=p.2.1);have z3:=FM (b:=(b.dZ p.1).dZ p.2.1) (a:=p.1) (s:=1) (n:=n);refine Ay λX u=>JT rfl (qZ oN oN (oA o 0 rfl _ rfl (rS (lb:=[dQ r1,dQ r3]) rfl oL (qmx (cap0:=(dm r1)) (cap1:=(dm r3)) ?_))));refine KA o 4 rfl (pW sb) (KC o 3 rfl p.1 (Dd h oK Q λF7 w7 V s7=>JU rfl (u _ _ ?_)));have o:=h.own o s7;refine Ay λX u=>JT (by rw[gu _ oN];rfl) ?_;rw[gu _ oN];refine qZ oN oN (oA o 0 rfl _ rfl (rS (lb:=[dQ r1,dQ r3]) rfl oL (qmy (cap0:=(dm r1)) (cap1:=(dm r3)) ?_)));refine KA o 4 rfl (pW sb) (KC o 3 rfl p.2.1 (Dd V oK C λF8 w8 h8 s8=>JU rfl (u _ _ ?_)));have o:=V.own o s8;refine Ay λX u=>JT (by rw[gu _ oN];rfl) ?_;rw[gu _ oN];refine qZ oN oN (oA o 0 rfl _ rfl (rS (lb:=[dQ E,dQ r3]) rfl oL (qmz (cap0:=(dm E)) (cap1:=(dm r3)) ?_)));refine oA o 1 rfl _ rfl (KC o 3 rfl p.1 (rS (lb:=[dQ r1,dQ U]) rfl oL (qsk h8 (o.at (i:=4) rfl) (o.at (i:=2) rfl) Q (show (0:Int)<=1/\(1:Int)<=255 from⟨oN,oN⟩) R oK λF9 w9 h9 s9=>JU rfl (u _ _ ?_))));have o:=h8.own o s9;refine Ay λX u=>JT (by rw[gu _ oN];rfl) ?_;rw[gu _ oN];refine qZ oN oN (oA o 0 rfl _ rfl (rS (lb:=[dQ E,dQ r3]) rfl oL (qmA (cap0:=(dm E)) (cap1:=(dm r3)) ?_)));refine oA o 1 rfl _ rfl (KC o 3 rfl p.2.1 (rS (lb:=[dQ r1,dQ U]) rfl oL (qsk h9 (o.at (i:=4) rfl) (o.at (i:=2) rfl) C (show (0:Int)<=2/\(2:Int)<=255 from⟨oN,oN⟩) R oK λG I J O=>JU rfl (u _ _ ?_))));exact Ay λX u=>JU (by rw[gu _ oN];rfl)<|kk G I (J.y5 λ_ h=>zI _ h) (.pre f (((s7.trans s8).trans s9).trans O))
def qAo:ef (lf p).toArray 0 (HL.mk fV a)=(lf (a,p.2)).toArray:=by unfold lf;rw[zV,zV];exact vr (A:=[]) (X:=HL.mk fV p.1) rfl
def qAp:ef (lf p).toArray 15 (HL.mk fV a)=(lf (p.1,a,p.2.2)).toArray:=vr (A:=HL.mk fV p.1) (X:=HL.mk fV p.2.1) (Y:=HL.mk fV a) (Z:=[.bool p.2.2.1,.bool p.2.2.2]) rfl
def GP{i j:gJ}{K:List Kw->WP}(h:SB w Y sb F c b)(hi:lz i)(E:lz j)(G:∀w',Fr [] w w'->K (lf (lh b i j)) w'): cW 21 [dQ sb,dk i.1 i.2,dk j.1 j.2] dF w K:=by refine qmB ?_;have C:=Aj;refine oB (oF [] w) λr1 w1 _ Q o=>oB o λr3 w2 _ R o=>oJ o C λU V _ o=>oJ o C λr7 w4 _ o=>KC o 3 rfl i (Gr (h.q8 o.fr) hi λw5 I=>?_);have o:=o.q8 I;refine o.st' 0 rfl _ qAo rfl (zO rfl) λw6 o _=>o.st' 0 rfl (lf ((eX b i).getD lC,lC,(eX b i).isSome,false)).toArray rfl rfl (zO rfl) λw7 o _=>KC o 2 rfl j (Gr (h.q8 o.fr) E λw8 J=>?_);have o:=o.q8 J;refine o.st' 0 rfl _ qAp rfl (zO rfl) λw9 o _=>o.st' 0 rfl (lf (lh b i j)).toArray rfl rfl (zO rfl) λO o _=>ou (o.at (i:=0) rfl) _ (sE _) rfl (mI (sE _) (o.st' 1 rfl _ (iK rfl) rfl (zM _) λu o _=>ou (o.at (i:=1) rfl) _ (sE _) rfl (G u o.fr)))
end
end
def quW(a b:KE):li (a++b)=li a*256^b.length+li b:=by unfold li;rw[foldl_append,qoO];rfl
def Gb{x:gJ}(h:nY x):li (iS x)=wv x:=by unfold iS wv;rw[quW,mf,vX 8 h.1.1 (by rw[p8];exact h.1.2),vX 8 h.2.1 (by rw[p8];exact h.2.2),p8]
def mA (l:KE):Array Kw:=(l.map (Value.int .i64)).toArray
def GA(l:KE):(mA l).size=l.length:=by simp[mA]
def Ga{x:Int}:ef (mA l) j [.i x]=mA (l.set j x):=by rw[ef,ef];apply Array.ext';rw[Array.toList_setIfInBounds];show (mA _).toList.set _ _=(mA _).toList;unfold mA;simp only[toList_toArray];rw[<- map_set]
def Cn{x:Int}(h:l[j]?=some x):(mA l)[j]?=some (.i x):=by simp[mA,h]
abbrev xd:Kx:=3
def qBJ{a0 a1:Int}{i:Nat}(hi:i<8):(iS (a0,a1))[i]?=some (a0 / 256^(7-i)%256)/\(iS (a0,a1))[8+i]?=some (a1 / 256^(7-i)%256):=by constructor;rw[iS,xA (by rw[mf];omega),Cf hi,show 8-1-i=7-i by omega];rw[iS,yZ (by rw[mf];omega),mf,vF,Cf hi,show 8-1-i=7-i by omega]
def E6{a0 a1:Int}{K:Sl->WP}(Q:lA a0)(J:lA a1)(V:∀r w',w'.heap[r]?=some (.c (mA (iS (a0,a1))) xd)->Fr [] w w'->w.heap.size<=r->K ⟨pW r,16,16⟩ w'): cW 40 [dk a0 a1] dp w K:=by
 refine qgS<|oB (oF [] w) λr1 w1 e1 f1 h=>ed.Hm h rfl oN oN oN oN λr w2 e2 h=>?_;have hr:w.heap.size<=r:=(by have:=f1.size;omega);refine KA h.drew 1 rfl a0 (KA h.drew 1 rfl a1 ?_);refine kz (λt w'=>∃j:Nat,∃l:KE,t=(a0 / 256^j,a1 / 256^j,(7:Int)-j)/\j<=8/\l.length=16/\ed [] w w' [(r,.c (mA l) xd),(r1,.c #[.w a0,.w a1] pf)]/\∀m,m<8->8-j<=m->l[m]?=(iS (a0,a1))[m]?/\l[8+m]?=(iS (a0,a1))[8+m]?) (λt _=>(t.2.2+1).toNat) ⟨0,zs 16,oM,oN,rfl,h.drew,λm J h2=>oK⟩ ?_;rintro t w3 ⟨j,l,rfl,hj,hl,h,O⟩ X hX;dsimp only;apply eV<;>intro E;have E:=zC E;have u:j<8:=oK;have p:∀ {a:Int},lA a->0<=a / 256^j/\a / 256^j<18446744073709551616:=λ{a} I=>⟨Int.ediv_nonneg I.1 (Int.le_of_lt (Int.pow_pos oN)),Int.lt_of_le_of_lt (Int.ediv_le_self _ I.1) I.2⟩;have q:∀ {a:Int},lA a->a / 256^j / 256=a / 256^(j+1):=λ{a} I=>by rw[Int.ediv_ediv_of_nonneg (Int.le_of_lt (Int.pow_pos oN)),Int.pow_succ]
 have R:=p Q;have U:=p J;have ei:(7:Int)-j=((7-j:Nat):Int):=oK;rw[Kj R.1,Kj U.1,Ki R.1,Ki U.1,gu (8+_) oK,gu (a0 / 256^j%256) oK,gu (a1 / 256^j%256) oK,gu ((7:Int)-j-1) oK,rQ (a0 / 256^j / 256) oK,rQ (a1 / 256^j / 256) oK,q Q,q J];refine qZ oK oK<|h.st' 0 rfl _ Ga rfl (by rw[GA];simp;omega) λw4 h _=>qZ oK oK<|h.st' 0 rfl _ Ga rfl (by rw[GA];simp;omega) λw5 h _=>hX _ _ ⟨j+1,_,by rw[show (7:Int)-((j+1:Nat):Int)=7-j-1 by omega],u,by simpa using hl,h,λm G af=>?_⟩ oO;rw[show 0+((7:Int)-j).toNat*1=7-j by omega,show 0+(8+((7:Int)-j)).toNat*1=8+(7-j) by omega];have C:=qBJ (a0:=a0) (a1:=a1) G;by_cases e:m=7-j;subst e;rw[show 7-(7-j)=j by omega] at C;rw[C.1,C.2];exact⟨by rw[List.getElem?_set_ne oK,List.getElem?_set_self oK],by rw[List.getElem?_set_self (by rw[xI];omega)]⟩
 have:=O m G oK;exact⟨by rw[List.getElem?_set_ne oK,List.getElem?_set_ne oK];exact this.1,by rw[List.getElem?_set_ne oK,List.getElem?_set_ne oK];exact this.2⟩;have E:=zB E;have u:j=8:=oK;subst u;have e:l=iS (a0,a1):=by
  apply ext_getElem?;intro i;by_cases h8:i<8;exact (O i h8 oK).1;by_cases h16:i<16;have:=(O (i-8) oK oK).2;rwa[show 8+(i-8)=i by omega] at this;rw[yT oK,yT (by rw[me];omega)]
 subst e;exact V r w3 (h.at (i:=0) rfl) h.fr hr
def qqD{r:Nat}{T:Kx}{K:gJ->WP}(Q:w.heap[r]?=some (.c (mA l) T))(hl:l.length=16)(R:fq l)(V:∀w',Fr [] w w'->K (li (l.take 8),li (l.drop 8)) w'): cW 41 [.slice (pW r) 16 16] [.agg dl] w K:=by
 refine qgT (d:=⟨pW r,16,16⟩)<|oB (oF [] w) λr1 w1 _ f1 h=>oB h λr3 w2 _ f2 h=>h.sz 0 rfl dc λw3 h _=>kz (λq w'=>∃i:Nat,q=i/\i<=8/\ed [] w w' [(r3,.c #[.w (li (l.take i)),.w (li ((l.drop 8).take i))] pf),(r1,.c dc pf)]) (λq _=>8-q.toNat) ⟨0,rfl,oN,h⟩ ?_;rintro q w4 ⟨i,rfl,hi,h⟩ X hX;apply cD<;>intro J;have C:i<8:=oK;have G:∀ {w':Kv},Fr [] w w'->w'.heap[r]?=some (.c (mA l) T):=λf=>by rw[f.block r (fl Q) λh=>nomatch h];exact Q
 have step:∀ {u:KE} (E:i<u.length),fq u->wrap .u64 (wrap .u64 (li (u.take i)*256)+wrap .u64 u[i])=li (u.take (i+1)):=λ{u} E I=>by
  have hx:=I u[i] (zX E);have hv:=Ar (l:=u.take i) λy O=>I y (yW O);have hp:(256:Int)^(u.take i).length<=256^7:=by
   have:((256^(u.take i).length:Nat):Int)<=((256^7:Nat):Int):=by
    have:=Nat.pow_le_pow_right (n:=256) oN (show (u.take i).length<=7 by rw[yM];omega);omega
   simpa using this
  rw[show (256:Int)^7=72057594037927936 by decide] at hp;rw[yH E,Jo,rQ u[i] oK,rQ (li (u.take i)*256) oK,rQ _ oK]
 have hd:(l.drop 8)[i]'(by rw[yC];omega)=l[8+i]' oK:=getElem_drop;refine oA h.drew 0 rfl _ rfl (qZ oK oK (jH (G h.drew.fr) (l[i]' oK) (Cn (by rw[show 0+(i:Int).toNat*1=i by omega,zA])) ?_));rw[step oK R];refine h.drew.sz 0 rfl #[.w (li (l.take (i+1))),.w (li ((l.drop 8).take i))] λU h _=>?_;rw[gu (8+(i:Int)) oK,gu ((i:Int)+1) oK];refine oA h.drew 0 rfl _ rfl (qZ oK oK (jH (G h.drew.fr) ((l.drop 8)[i]'(by rw[yC];omega)) (Cn (by rw[show 0+(8+(i:Int)).toNat*1=8+i by omega,hd,zA])) ?_));rw[step (by rw[yC];omega) λy O=>R y (yV O)];exact h.drew.sz 0 rfl #[.w (li (l.take (i+1))),.w (li ((l.drop 8).take (i+1)))] λw6 h _=>hX _ _ ⟨i+1,rfl,C,h⟩ oK;have C:i=8:=oK;subst C;rw[zS (l:=l.drop 8) (by rw[yC];omega)] at h;refine oC h 0 rfl (_,_) rfl (h.st' 1 rfl _ (iK rfl) rfl (zM _) λU h _=>?_);exact oC h 1 rfl (_,_) rfl (V U h.fr)
section
def Gk{S:KD}{w0 w':Kv}{r:Nat}{o:Obj}(h:ed S w0 w L)(f:Fr [] w w')(E:w'.heap[r]?=some o)(G:w.heap.size<=r):ed S w0 w' ((r,o)::L):=by
 have C:=h.q8 f;refine⟨λp u=>?_,?_,C.fr,λp u=>?_⟩;rcases zG.1 u with rfl|u;exact E;exact C.jz p u;rw[xQ,JY];refine⟨λI=>?_,C.nodup⟩;obtain⟨p,u,e⟩:=mem_map.1 I;have:=fl (h.jz p u);dsimp only at e;omega;rcases zG.1 u with rfl|u;exact .inr (zL h.fr.size G);exact C.own p u
def qvq(h:z.length=16)(u:fq z):(li (z.take 8),li (z.drop 8))=vj (li z):=by have C:=quW (z.take 8) (z.drop 8);rw[xG,yC,h,show (256:Int)^(16-8)=18446744073709551616 by decide] at C;have E:=Ar (l:=z.drop 8) λy G=>u y (yV G);rw[yC,h,show (256:Int)^(16-8)=18446744073709551616 by decide] at E;unfold vj;exact Prod.ext oO oO
def Fy:(256:Int)^16=18446744073709551616*18446744073709551616:=by decide
def Gp(h:x.length=16)(u:j<16):li (x.drop (15-j))=x[15-j]' oK*256^j+li (x.drop (16-j)):=by rw[zY oK,CB,yC,show 16-j=15-j+1 by omega,show x.length-(15-j+1)=j by omega]
def qtN(h:x.length=16)(u:j<16)(v:Int):(x.take (16-j)++z).set (15-j) v=x.take (15-j)++v::z:=by rw[show 16-j=15-j+1 by omega,yH oK,zV,set_append_right _ _ (by rw[yM];omega),yM,show 15-j-min (15-j) x.length=0 by omega];rfl
def qtM(h:x.length=16)(u:j<16):(x.take (16-j)++z)[15-j]?=some (x[15-j]' oK):=by rw[xA (by rw[yM];omega),xC,iP,zA]
def qB2{v c p P:Int}{k:Nat}(u:P=256^k)(h:v+256*c=p):v*P+c*256^(k+1)=p*P:=by rw[<- h,Int.add_mul,Int.pow_succ,<- u,Int.mul_comm 256 c,Int.mul_assoc c 256 P,Int.mul_comm 256 P]
section
variable {w:Kv} {a b:gJ} {K:gJ×Bool->WP}
def Ho(ha:nY a)(hb:nY b)(J:∀w',Fr [] w w'->K ((mO a b).getD (0,0),(mO a b).isSome) w'): cW 14 [dk a.1 a.2,dk b.1 b.2] [.agg dl,.one .bool] w K:=by refine qjh<|oB (oF [] w) λr1 w1 _ f1 o=>oB o λr3 w2 _ f2 o=>oB o λr5 w3 _ f3 o=>?_;have o:=o.drew;refine KC o 2 rfl a (KC o 1 rfl b (E6 ha.1 ha.2 λrx w4 hx f4 nx=>?_));have o:=Gk o f4 hx nx;refine ja (o.cells 2) (E6 hb.1 hb.2 λry w5 hy f5 ny=>?_);have o:=Gk o f5 hy ny;have C:=me a;have O:=me b;have Q:=pR a;have R:=pR b;have vx:=Gb ha;have vy:=Gb hb;generalize ac:iS (a.1,a.2)=x at o;generalize ad:iS (b.1,b.2)=y at o;rw[show iS a=x from ac] at C Q vx;rw[show iS b=y from ad] at O R vy;refine kz (λt w'=>∃j:Nat,∃z:KE,∃c:Int,t=(c,(15:Int)-j)/\j<=16/\z.length=j/\fq z/\(c=0\/c=1)/\li z+c*256^j=li (x.drop (16-j))+li (y.drop (16-j))/\ed [] w w' [(ry,.c (mA y) xd),(rx,.c (mA (x.take (16-j)++z)) xd),(r5,.c dc pf),(r3,.c #[.w b.1,.w b.2] pf),(r1,.c #[.w a.1,.w a.2] pf)]) (λt _=>(t.2+1).toNat) ⟨0,[],0,rfl,oN,rfl,(λ_ h=>nomatch h),.inl rfl,by rw[Kd oK,Kd oK];decide,by rw[xJ,zS oK];exact o⟩ ?_;rintro t w6 ⟨j,z,c,rfl,hj,U,E,hc,he,o⟩ X hX;dsimp only;apply cD<;>intro h;have u:j<16:=oK;have o:=o.drew;have ei:0+((15:Int)-j).toNat*1=15-j:=oK;have af:=Q _ (zX (l:=x) (n:=15-j) oK);have ag:=R _ (zX (l:=y) (n:=15-j) oK);have dx:=Gp C u;have dy:=Gp O u;refine qZ oK oK (oA o 1 rfl (x[15-j]' oK) (Cn (by rw[ei];exact qtM C u)) (qZ oK oK (oA o 0 rfl (y[15-j]' oK) (Cn (by rw[ei];exact zA _)) (qZ oK oK ?_))));generalize x[15-j]' oK=G at af dx;generalize y[15-j]' oK=I at ag dy;rw[ei,gu (G+I) oK,gu (G+I+c) oK,Kj oK,Ki oK,gu ((G+I+c) / 256) oK,gu ((15:Int)-j-1) oK];refine o.st' 1 rfl _ Ga rfl (by rw[GA,zF,yM];show 15-j+1<=_;omega) λw7 o _=>hX _ _ ⟨j+1,(G+I+c)%256::z,(G+I+c) / 256,by rw[show (15:Int)-((j+1:Nat):Int)=15-j-1 by omega],u,by rw[yJ,U],λv V=>?_,oK,?_,?_⟩ oO;rcases zG.1 V with rfl|V;exact⟨oK,oK⟩;exact E v V;rw[show 16-(j+1)=15-j by omega,dx,dy,CB,U];have m:=qB2 (P:=256^j) rfl (show (G+I+c)%256+256*((G+I+c) / 256)=G+I+c by omega);rw[Int.add_mul,Int.add_mul] at m;omega;rw[qtN C u] at o;rw[show 16-(j+1)=15-j by omega];exact o;have u:j=16:=oK;subst u;rw[Nat.sub_self,take_zero,xK] at o;rw[Nat.sub_self,xH,xH,vx,vy,Fy] at he;have V:=Ar E;rw[U,Fy] at V;unfold mO at J;rcases hc with rfl|rfl;rw[iP,show wv a+wv b=li z by omega,<- qvq U E] at J;refine JU rfl (qqD (o.at (i:=1) rfl) U E λw7 f7=>?_);refine (o.q8 f7).st' 2 rfl _ (iK rfl) rfl (zM _) λw8 o _=>oC o 2 rfl (_,_) rfl (J w8 o.fr);rw[iN] at J;exact JT rfl (o.st' 2 rfl _ (iK rfl) rfl (zM _) λw8 o _=>KC o 2 rfl (0,0) (J w8 o.fr))
def quM(ha:nY a)(hb:nY b)(J:∀w',Fr [] w w'->K ((qO a b).getD (0,0),(qO a b).isSome) w'): cW 90 [dk a.1 a.2,dk b.1 b.2] [.agg dl,.one .bool] w K:=by
 refine qji<|oB (oF [] w) λr1 w1 _ f1 o=>oB o λr3 w2 _ f2 o=>oB o λr5 w3 _ f3 o=>?_;have o:=o.drew;refine KC o 2 rfl a (KC o 1 rfl b (E6 ha.1 ha.2 λrx w4 hx f4 nx=>?_));have o:=Gk o f4 hx nx;refine ja (o.cells 2) (E6 hb.1 hb.2 λry w5 hy f5 ny=>?_);have o:=Gk o f5 hy ny;have G:=me a;have O:=me b;have Q:=pR a;have R:=pR b;have vx:=Gb ha;have vy:=Gb hb;generalize ag:iS (a.1,a.2)=x at o;generalize ah:iS (b.1,b.2)=y at o;rw[show iS a=x from ag] at G Q vx;rw[show iS b=y from ah] at O R vy;refine kz (λt w'=>∃j:Nat,∃z:KE,∃c:Int,t=(c,(15:Int)-j)/\j<=16/\z.length=j/\fq z/\(c=0\/c=1)/\li z-c*256^j=li (x.drop (16-j))-li (y.drop (16-j))/\ed [] w w' [(ry,.c (mA y) xd),(rx,.c (mA (x.take (16-j)++z)) xd),(r5,.c dc pf),(r3,.c #[.w b.1,.w b.2] pf),(r1,.c #[.w a.1,.w a.2] pf)]) (λt _=>(t.2+1).toNat) ⟨0,[],0,rfl,oN,rfl,(λ_ h=>nomatch h),.inl rfl,by rw[Kd oK,Kd oK];decide,by rw[xJ,zS oK];exact o⟩ ?_;rintro t w6 ⟨j,z,c,rfl,hj,U,I,hc,he,o⟩ X hX;dsimp only;apply eV<;>intro h;have C:j<16:=(by have:=zC h;omega);have o:=o.drew;have ei:0+((15:Int)-j).toNat*1=15-j:=oK;have aj:=Q _ (zX (l:=x) (n:=15-j) oK);have ak:=R _ (zX (l:=y) (n:=15-j) oK);have dx:=Gp G C;have dy:=Gp O C;refine qZ oK oK (oA o 1 rfl (x[15-j]' oK) (Cn (by rw[ei];exact qtM G C)) (qZ oK oK (oA o 0 rfl (y[15-j]' oK) (Cn (by rw[ei];exact zA _)) ?_)));generalize x[15-j]' oK=V at aj dx;generalize y[15-j]' oK=yk at ak dy;rw[gu (V-yk) oK,gu (V-yk-c) oK,gu ((15:Int)-j-1) oK];have key:∀(E v:Int) w',ed [] w w' [(ry,.c (mA y) xd),(rx,.c (mA (x.take (16-j)++z)) xd),(r5,.c dc pf),(r3,.c #[.w b.1,.w b.2] pf),(r1,.c #[.w a.1,.w a.2] pf)]->(E=0\/E=1)->0<=v/\v<256->v+256 * -E=V-yk-c->idx ⟨pW rx,16,16⟩ ((15:Int)-j) 1 λa=>Pt.st a [.i v] w' λw2=>X (E,(15:Int)-j-1) w2:=λE v w' o al hv hs=>by refine qZ oK oK ?_;rw[ei];refine o.st' 1 rfl _ Ga rfl (by rw[GA,zF,yM];show 15-j+1<=_;omega) λw7 o _=>hX _ _ ⟨j+1,v::z,E,by rw[show (15:Int)-((j+1:Nat):Int)=15-j-1 by omega],C,by rw[yJ,U],λu hu=>?_,al,?_,?_⟩ oO;rcases zG.1 hu with rfl|hu;exact hv;exact I u hu;rw[show 16-(j+1)=15-j by omega,dx,dy,CB,U];have m:=qB2 (P:=256^j) rfl hs;rw[Int.sub_mul,Int.sub_mul,Int.neg_mul] at m;omega;rw[qtN G C] at o;rw[show 16-(j+1)=15-j by omega];exact o
 refine jf (λq w'=>∃E v,q=(E,v)/\ed [] w w' [(ry,.c (mA y) xd),(rx,.c (mA (x.take (16-j)++z)) xd),(r5,.c dc pf),(r3,.c #[.w b.1,.w b.2] pf),(r1,.c #[.w a.1,.w a.2] pf)]/\(E=0\/E=1)/\(0<=v/\v<256)/\v+256 * -E=V-yk-c) ?_ ?_;apply eV<;>intro h;have h:=zC h;rw[gu (V-yk-c+256) oK];exact⟨1,_,rfl,o,.inr rfl,oK,oK⟩;have h:=zB h;exact⟨0,_,rfl,o,.inl rfl,oK,oK⟩;rintro q w7 ⟨E,v,rfl,o,h1,h2,h3⟩;exact key E v w7 o h1 h2 h3;have C:j=16:=(by have:=zB h;omega);subst C;rw[Nat.sub_self,take_zero,xK] at o;rw[Nat.sub_self,xH,xH,vx,vy,Fy] at he;have hv:=Ar I;rw[U,Fy] at hv;unfold qO at J;rcases hc with rfl|rfl;rw[iP,show wv a-wv b=li z by omega,<- qvq U I] at J;refine JU rfl (qqD (o.at (i:=1) rfl) U I λw7 f7=>?_);refine (o.q8 f7).st' 2 rfl _ (iK rfl) rfl (zM _) λw8 o _=>oC o 2 rfl (_,_) rfl (J w8 o.fr);rw[iN] at J;exact JT rfl (o.st' 2 rfl _ (iK rfl) rfl (zM _) λw8 o _=>KC o 2 rfl (0,0) (J w8 o.fr))
end
end
end
section
open Go Go.Pt List
open Go.IntKind (wrap)
variable {K:Int->WP}
structure rO where
 pb:Nat
 k:Nat
 v:Nat
 frm:Sl
 to:Sl
 st:Sl
 f1:Kw
 f2:Kw
 f3:Kw
def rO.cells (x:rO):Array Kw:=#[.pointer (some ⟨x.pb,0,none⟩),.i x.k,.i x.v,x.frm.v,x.to.v,x.st.v,x.f1,x.f2,x.f3]
def pr (w:Kv) (cb:Nat) (x:rO):Prop:=∃T,w.heap[cb]?=some (.c x.cells T)
def pr.j0{S:KD}{w w':Kv}{cb:Nat}{x:rO}(h:pr w cb x)(f:Fr S w w')(u:cb∉S):pr w' cb x:=by obtain⟨T,h⟩:=h;exact⟨T,by rw[f.block cb (fl h) u];exact h⟩
def pr.q8{w w':Kv}{cb:Nat}{x:rO}(h:pr w cb x)(f:Fr [] w w'):pr w' cb x:=h.j0 f λh=>nomatch h
def pr.frm{w:Kv}{cb:Nat}{x:rO}{K:Sl->Prop}(h:pr w cb x)(k:K x.frm):ld .slice (dm cb 3) w K:=by obtain⟨T,h⟩:=h;exact qj x.frm (kD h) k
def pr.to{w:Kv}{cb:Nat}{x:rO}{K:Sl->Prop}(h:pr w cb x)(k:K x.to):ld .slice (dm cb 4) w K:=by obtain⟨T,h⟩:=h;exact qj x.to (kD h) k
section
variable {w:Kv} {cb:Nat} {x:rO} {S:KD} {y:lJ} {n:dW} {frm to:Key}
def qCy{i:Int}(hi:-1000000<=i/\i<=1000000)(h:K (i+1) w):cW 116 [dQ cb,.i i] dq w K:=by refine qks ?_;rw[IntWalk.i64_in _ oK];exact h
def qAT{i:Int}(hi:-1000000<=i/\i<=1000000)(h:K (i-1) w):cW 119 [dQ cb,.i i] dq w K:=by refine qim ?_;rw[IntWalk.i64_in _ oK];exact h
def qzd{ks:Sl}{key:Key}{K:Bool->WP}(h:pr w cb x)(u:eO S w ks key)(C:eO S w x.to to)(E:fq key)(G:fq to)(I:K (decide (cmpL key to>0)) w):cW 118 [dQ cb,ks.v] dr w K:=by refine qh0<|gV (h.to ?_);exact EB u C E G I
def qzl{ks:Sl}{key:Key}{K:Bool->WP}(h:pr w cb x)(u:eO S w ks key)(C:eO S w x.frm frm)(E:fq key)(G:fq frm)(I:K (decide (cmpL key frm<0)) w):cW 121 [dQ cb,ks.v] dr w K:=by refine qh1<|gV (h.frm ?_);exact EB u C E G I
def qzp(h:pr w cb x)(E:eY S w y n)(O:eO S w x.frm frm)(Q:fq frm)(R:gz n.J5)(U:n.J5.length<=1000000)(V:∀w',Fr [] w w'->K (lw n frm) w'):cW 117 [dQ cb,.agg (fE y)] dq w K:=by
 refine qjm<|oB (oF [] w) λr w1 e1 f1 ho=>KA ho 0 rfl y.1 ?_;have hd:=oG ho;have u:=f1.trans (Fr.refl [] w1).drew;have hy:y.1=n.Q3:=E.1;apply eV<;>intro G;have C:n.Q3=false:=(by rw[<- hy];simpa using G);refine KC hd 0 rfl y<|gV ((h.q8 u).frm ?_);refine D8 (E.q8 u) (O.q8 u) Q R U λI J=>?_
 have:=V I (u.trans J);rw[lw,iN (by rw[C];decide)] at this;exact this;have C:n.Q3=true:=(by rw[<- hy];simpa using G);refine KC hd 0 rfl y<|gV ((h.q8 u).frm ?_);refine Gu (E.q8 u) (O.q8 u) Q R U λI J=>?_;have:=V I (u.trans J);rw[lw,iP C] at this;exact this
def qxr(h:pr w cb x)(G:eY S w y n)(Q:eO S w x.to to)(R:fq to)(U:gz n.J5)(V:n.J5.length<=1000000)(kk:∀w',Fr [] w w'->K (jp n to) w'):cW 120 [dQ cb,.agg (fE y)] dq w K:=by
 refine qin<|oB (oF [] w) λr w1 e1 f1 ho=>?_;have I:=oG ho;have u:=f1.trans (Fr.refl [] w1).drew;have J:y.1=n.Q3:=G.1;refine KC I 0 rfl y<|gV ((h.q8 u).to ?_);have ad:=Ce n.J5 to;refine D8 (G.q8 u) (Q.q8 u) R U V λw3 O=>?_;have C:=I.q8 O;refine KA C 0 rfl y.1 ?_
 have:=kk w3 (u.trans O);apply eV<;>intro E;rw[jp,iP (by rw[<- J];exact E)] at this;rw[IntWalk.i64_in _ oK];exact this;rw[jp,iN (by rw[<- J,E];decide)] at this;exact this
end
end
end Go.Proofs.YtfneoijhmknlnaaGreatDoor
namespace Go.Pt
section
open Go
def Cg{P:Ky}{w:Kv}{v:Kw}{f:FuncId}{ra args:List Kw}{ts:List i3}{K:jx ts->WP}(h:v=.func (.func f) ra.toArray #[])(u:jE P f=false)(k:call P f (ra++args) ts w K):eF P v args ts w K:=by subst h;refine .inl ⟨f,ra++args,?_,k⟩;simp[Deferred.ofValue,invoke,Bw u]
def Dj{S ι:Type}{B:(S->WP)->S->WP}{s:S}{w:Kv}(I:ι->S->WP)(m:ι->Nat)(i0:ι)(G:I i0 s w)(step:∀i s w,I i s w->∀X:S->WP,(∀h u w',I h u w'->m h<m i->X u w')->B X s w):loop S B s w:=by
 intro J O;have key:∀k i s w,m i=k->I i s w->J s w:=by
  intro k;induction k using Nat.strongRecOn with
  | _ k ih=>
   intro i s w Q R;exact O s w (step i s w R J λh u w' C E=>ih (m h) (Q▸E) h u w' rfl C)
 exact key _ i0 s w rfl G
end
end Go.Pt
namespace Go.Proofs.YtfneoijhmknlnaaGreatDoor
section
open Go Go.Pt List
open Go.IntKind (wrap)
abbrev sC:=lJ×lO
def Dq (x:lJ) (i:Int):Array Kw:=#[.bool x.1,x.2.1.v,x.2.2.1.v,x.2.2.2.v,.i i]
def jW (z:sC):List Kw:=[.bool z.1.1,z.1.2.1.v,z.1.2.2.1.v,z.1.2.2.2.v,.i z.2.2]
def AD:∀z,(jW z).length=5:=λ_=>rfl
def qxF(z:sC):∀u∈jW z,u.oneCell'=true:=λu h=>by unfold jW at h;simp only[zG,xZ,or_false] at h;rcases h with rfl|rfl|rfl|rfl|rfl<;>rfl
section
variable {w w':Kv} {s:Sl} {zs:List sC} {z:sC} {SB:KD}
def GF(h:fB jW 5 w s (zs++[z]) SB):∃b u T,SB=[b]/\s.a=pW b/\w.heap[b]?=some (.c u T)/\s.len=zs.length+1/\s.len<=s.cap/\s.cap*5<=u.size/\u.toList.take (zs.length*5+5)=zs.flatMap jW++jW z:=by rcases h with ⟨_,h,_⟩|⟨b,o,u,T,G,rfl,I,J,E,O,Q,C⟩;exact absurd h oM;rw[zF,xO] at E C;rw[xH,yR,yI,flatMap_nil,xJ,xW] at C;exact⟨b,u,T,G,I,J,E,O,oK,C⟩
def qAc{b j:Nat}(h:fB jW 5 w s (zs++[z]) [b])(I:j<5):w.cell? ⟨b,zs.length*5+j,none⟩=(jW z)[j]?:=by obtain⟨b',J,T,C,O,E,Q,R,U,G⟩:=GF h;cases C;rw[kD E,<- xN];have u:=Kr (·[zs.length*5+j]?) G;rw[xC,iP,yZ (by rw[rR AD];omega),rR AD,vF] at u;exact u
def qvw{K:Addr->Prop}(h:fB jW 5 w s (zs++[z]) SB)(G:zs.length<=1000000)(u:∀b,SB=[b]->K ⟨b,zs.length*5,none⟩):idx s (wrap .i64 ((s.len:Int)-1)) 5 K:=by obtain⟨b,I,T,C,E,J,O,Q,R,U⟩:=GF h;have e:wrap .i64 ((s.len:Int)-1)=(zs.length:Int):=(by rw[IntWalk.i64_in _ oK];omega);rw[e];refine sM E ⟨oK,oK⟩ ?_;rw[zJ,xU];exact u b C
def qCf{b:Nat}{j:Int}{K:WP}(h:fB jW 5 w s (zs++[z]) [b])(kk:∀w',fB jW 5 w' s (zs++[(z.1,z.2.1,j)]) [b]->Fr [b] w w'->K w'):st ⟨b,zs.length*5+4,none⟩ [.i j] w K:=by
 obtain⟨b',cs,T,hB,h2,h3,h4,h5,h6,h7⟩:=GF h;cases hB;have hm:(zs.flatMap jW++jW z).length=zs.length*5+5:=(by rw[zF,rR AD];rfl);refine tY h3 _ rfl (by rfl) oP λw' hb f=>kk w' (.inr ⟨b,0,_,T,rfl,rfl,h2,hb,by rw[zF,xO];exact h4,h5,by rw[pE];omega,?_⟩) f
 have:=qrz (cs:=cs) (M:=zs.flatMap jW++jW z) (i:=zs.length*5+4) (v:=.i j) (by rw[hm];omega) (by rw[hm];exact h7);rw[hm,set_append_right _ _ (by rw[rR AD];omega),rR AD,vF] at this;rw[xH,zF,xO,xW,yR,yI,flatMap_nil,xJ];exact this
def qBw{K:Sl->Prop}(h:fB jW 5 w s (zs++[z]) SB)(R:zs.length<=1000000)(E:∀u,fB jW 5 w u zs SB->K u):gb s none (some (wrap .i64 ((s.len:Int)-1))) none 5 K:=by obtain⟨b,G,T,I,J,O,U,V,h6,Q⟩:=GF h;have e:wrap .i64 ((s.len:Int)-1)=(zs.length:Int):=(by rw[IntWalk.i64_in _ oK];omega);rw[e];refine Aw ⟨oK,oK⟩ ?_;rw[zJ];refine E _ (.inr ⟨b,0,G,T,I,rfl,J,O,rfl,by dsimp only;omega,by dsimp only;omega,?_⟩);have C:=Kr (List.take (zs.length*5)) Q;rw[take_take,xT oK] at C;rw[xH,C,JX (by rw[rR AD];exact zM _)];exact zS (by rw[rR AD];exact zM _)
end
def oT (cb:Nat) (down:Bool):Kw:=.func (.func (if down then 119 else 116)) #[dQ cb] #[]
def pj (cb:Nat) (down:Bool):Kw:=.func (.func (if down then 120 else 117)) #[dQ cb] #[]
def qn (cb:Nat) (down:Bool):Kw:=.func (.func (if down then 121 else 118)) #[dQ cb] #[]
def k8 (down:Bool) (frm to:Key) (n:dW):Int:=if down then jp n to else lw n frm
def ln (down:Bool) (i:Int):Int:=if down then i-1 else i+1
def pI (down:Bool) (frm to key:Key):Bool:=if down then decide (cmpL key frm<0) else decide (cmpL key to>0)
structure gU (dbk pb:Nat) (FD:KD) (D:dV) (F:KD) (M:eZ) (k v:Nat) (frm to:Key) (down:Bool) (w0:Kv) (cb:Nat) (Y:KD) (w:Kv) (st:Sl) (SB:KD) (zs:List sC):Prop where
 cell:∃ sf sto,pr w cb ⟨pb,k,v,sf,sto,st,oT cb down,pj cb down,qn cb down⟩/\eO (cb::(SB++Y)) w sf frm/\eO (cb::(SB++Y)) w sto to
 tw:TW dbk pb FD D 5000 w (cb::(SB++Y)) F M
 wP:fB jW 5 w st zs SB
 nodes:∀ z∈zs,eY (cb::(SB++Y)) w z.1 z.2.1/\gx z.2.1 k v
 Gn:cb∉SB
 C8:cb∉Y
 Bp:∀ b∈SB,b∉Y
 new:∀ b∈cb::SB,w0.heap.size<=b
 A8:fq frm
 Jx:fq to
 C0:zs.length<=100000
section
variable {dbk pb:Nat} {FD F:KD} {D:dV} {M:eZ} {k v:Nat} {frm to:Key} {down:Bool} {w0 w w':Kv} {cb:Nat} {Y Y' SB SB':KD} {st st':Sl} {zs zs':List sC}
def gU.x5(h:gU dbk pb FD D F M k v frm to down w0 cb Y w st SB zs)(f:Fr (cb::(SB++Y)) w w')(hc:∃R G T,w.heap[cb]?=some (.c (rO.cells ⟨pb,k,v,R,G,st,oT cb down,pj cb down,qn cb down⟩) T)/\w'.heap[cb]?=some (.c (rO.cells ⟨pb,k,v,R,G,st',oT cb down,pj cb down,qn cb down⟩) T))(E:fB jW 5 w' st' zs' SB')(hn:∀z∈zs',eY (cb::(SB'++Y')) w' z.1 z.2.1/\gx z.2.1 k v)(V:∀b∈SB',b∈SB\/w.heap.size<=b)(hY:∀b∈Y',b∈Y\/w.heap.size<=b)(aa:∀b∈Y',b<w'.heap.size)(ab:∀b∈SB',b∉Y')(hl:zs'.length<=100000):gU dbk pb FD D F M k v frm to down w0 cb Y' w' st' SB' zs':=by
 obtain⟨R,G,⟨T,u⟩,ac,ad⟩:=h.cell;obtain⟨Q,I,T',e,U⟩:=hc;rw[e] at u;have e1:Q=R/\I=G:=by
  injection u with u;injection u with u;unfold rO.cells at u;simp only[Array.mk.injEq,List.cons.injEq,Value.slice.injEq,and_true,true_and] at u;obtain⟨⟨a1,a2,a3⟩,⟨b1,b2,b3⟩⟩:=u;exact⟨by cases R;cases Q;simp_all,by cases G;cases I;simp_all⟩
 obtain⟨rfl,rfl⟩:=e1;have al:=fl e;have J:∀b∈cb::(SB'++Y'),b∈cb::(SB++Y)\/w.heap.size<=b:=λb E=>by rcases zG.1 E with rfl|E;exact .inl oM;rcases zD.1 E with E|E;exact (V b E).imp (λh=>by simp[h]) id;exact (hY b E).imp (λh=>by simp[h]) id
 have ae:∀b∈cb::(SB'++Y'),b<w'.heap.size:=λb C=>by rcases zG.1 C with rfl|C;exact fl U;rcases zD.1 C with C|C;exact E.lt b C;exact aa b C
 have af:w0.heap.size<=cb:=h.new cb oM;refine⟨⟨Q,I,⟨T',U⟩,ac.j0 f J,ad.j0 f J⟩,h.tw.cP f ae J,E,hn,λhm=>?_,λhm=>?_,ab,λb E=>?_,h.A8,h.Jx,hl⟩;rcases V cb hm with O|O;exact h.Gn O;omega;rcases hY cb hm with O|O;exact h.C8 O;omega;rcases zG.1 E with rfl|E;exact af;rcases V b E with O|O;exact h.new b (by simp[O]);omega
def gU.at(h:gU dbk pb FD D F M k v frm to down w0 cb Y w st SB zs):∃C u T,w.heap[cb]?=some (.c (rO.cells ⟨pb,k,v,C,u,st,oT cb down,pj cb down,qn cb down⟩) T):=by obtain⟨C,u,⟨T,E⟩,_⟩:=h.cell;exact⟨C,u,T,E⟩
def gU.lt(h:gU dbk pb FD D F M k v frm to down w0 cb Y w st SB zs):∀b∈cb::(SB++Y),b<w.heap.size:=h.tw.tG
def gU.j0(h:gU dbk pb FD D F M k v frm to down w0 cb Y w st SB zs)(f:Fr Y w w')(C:∀b∈Y',b∈Y\/w.heap.size<=b)(E:∀b∈Y',b<w'.heap.size):gU dbk pb FD D F M k v frm to down w0 cb Y' w' st SB zs:=by
 obtain⟨U,G,T,I⟩:=h.at;have J:=fl I;have O:Fr (cb::(SB++Y)) w w':=f.mono λb u _=>by simp[u]
 refine h.x5 O ⟨U,G,T,I,by rw[f.block cb J h.C8];exact I⟩ (h.wP.j0 f h.Bp) (λz Q=>⟨(h.nodes z Q).1.j0 O λb u=>?_,(h.nodes z Q).2⟩) (λb u=>.inl u) C E (λb u V=>?_) h.C0;rcases zG.1 u with rfl|u;exact .inl oM;rcases zD.1 u with u|u;exact .inl (by simp[u]);exact (C b u).imp (λh=>by simp[h]) id;rcases C b V with R|R;exact h.Bp b u R;have:=h.lt b (by simp[u]);omega
def gU.q8(h:gU dbk pb FD D F M k v frm to down w0 cb Y w st SB zs)(f:Fr [] w w'):gU dbk pb FD D F M k v frm to down w0 cb Y w' st SB zs:=
 h.j0 (f.mono λ_ h=>nomatch h) (λb u=>.inl u) λb u=>yE (h.lt b (by simp[u])) f.size
def gU.drew(h:gU dbk pb FD D F M k v frm to down w0 cb Y w st SB zs):gU dbk pb FD D F M k v frm to down w0 cb Y w.drew st SB zs:=h.q8 (Fr.refl [] w).drew
def gU.rX{K:Sl->Prop}(h:gU dbk pb FD D F M k v frm to down w0 cb Y w st SB zs)(u:K st):ld .slice (dm cb 5) w K:=by
 obtain⟨G,C,T,E⟩:=h.at;exact qj st (kD E) u
def gU.wm{K:WP}(h:gU dbk pb FD D F M k v frm to down w0 cb Y w st SB zs)(w1:Kv)(f:Fr SB w w1)(u:fB jW 5 w1 st' zs' SB')(hn:∀z∈zs',z∈zs\/eY (cb::(SB'++Y)) w1 z.1 z.2.1/\gx z.2.1 k v)(O:∀b∈SB',b∈SB\/w.heap.size<=b)(hl:zs'.length<=100000)(kk:∀w',gU dbk pb FD D F M k v frm to down w0 cb Y w' st' SB' zs'->Fr (cb::SB) w w'->K w'):Pt.st (dm cb 5) [st'.v] w1 K:=by
 obtain⟨R,E,T,U⟩:=h.at;have V:=fl U;have aa:w1.heap[cb]?=some (.c (rO.cells ⟨pb,k,v,R,E,st,oT cb down,pj cb down,qn cb down⟩) T):=(by rw[f.block cb V h.Gn];exact U);have I:cb∉SB':=λG=>by rcases O cb G with C|C;exact h.Gn C;omega
 refine tY aa (rO.cells ⟨pb,k,v,R,E,st',oT cb down,pj cb down,qn cb down⟩) rfl rfl (zO rfl) λw2 ab f2=>?_;have Q:Fr (cb::SB) w w2:=(f.mono λb u _=>by simp[u]).j8 f2 λb u=>.inl (by rw[zE.1 u];simp);refine kk w2 (h.x5 (Q.mono λb u _=>by rcases zG.1 u with rfl|u<;>simp[*]) ⟨R,E,T,U,ab⟩ (u.j0 f2 λb u G=>I (by rw[zE.1 G] at u;exact u)) (λz hz=>?_) O (λb u=>.inl u) (λb u=>yE (h.lt b (by simp[u])) Q.size) (λb u G=>?_) hl) Q;have J:∀b∈cb::(SB'++Y),b∈cb::(SB++Y)\/w.heap.size<=b:=λb u=>by rcases zG.1 u with rfl|u;exact .inl oM;rcases zD.1 u with u|u;exact (O b u).imp (λh=>by simp[h]) id;exact .inl (by simp[u])
 rcases hn z hz with C|C;exact⟨(h.nodes z C).1.j0 (Q.mono λb u _=>by rcases zG.1 u with rfl|u<;>simp[*]) J,(h.nodes z C).2⟩;exact⟨C.1.j0 (f2.mono λb u _=>by rw[zE.1 u];simp) λb u=>.inl u,C.2⟩;rcases O b u with C|C;exact h.Bp b C G;have:=h.lt b (by simp[G]);omega
def gU.zk{z:sC}{b:Nat}{j:Int}{K:WP}(h:gU dbk pb FD D F M k v frm to down w0 cb Y w st [b] (zs++[z]))(Q:∀w',gU dbk pb FD D F M k v frm to down w0 cb Y w' st [b] (zs++[(z.1,z.2.1,j)])->Fr [b] w w'->K w'):Pt.st ⟨b,zs.length*5+4,none⟩ [.i j] w K:=by
 refine qCf h.wP λw' R f=>Q w' ?_ f;obtain⟨U,G,T,I⟩:=h.at;have J:cb∉[b]:=h.Gn;have O:Fr (cb::([b]++Y)) w w':=f.mono λx u _=>by rw[zE.1 u];simp
 have C:∀x∈cb::([b]++Y),x∈cb::([b]++Y)\/w.heap.size<=x:=λx u=>.inl u;refine h.x5 O ⟨U,G,T,I,by rw[f.block cb (fl I) J];exact I⟩ R (λy E=>?_) (λx u=>.inl u) (λx u=>.inl u) (λx u=>yE (h.lt x (by simp[u])) f.size) h.Bp (by have:=h.C0;rw[zF] at this⊢;exact this);rcases zD.1 E with E|E;exact⟨(h.nodes y (zH _ E)).1.j0 O C,(h.nodes y (zH _ E)).2⟩;rw[zE.1 E];exact⟨eY.j0 (h.nodes z oM).1 O C,(h.nodes z oM).2⟩
end
end
end Go.Proofs.YtfneoijhmknlnaaGreatDoor
