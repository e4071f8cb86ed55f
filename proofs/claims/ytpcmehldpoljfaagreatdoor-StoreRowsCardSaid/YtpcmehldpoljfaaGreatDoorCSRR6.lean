/- Conditions: those that stand in each line. -/
import Derived.Test.YtpcmehldpoljfaaGreatDoorCSRR5
import Derived.Test.YtpcmehldpoljfaaGreatDoorCSRR4
import Derived.Test.YtpcmehldpoljfaaGreatDoorCSRR2
import Derived.Test.YtpcmehldpoljfaaGreatDoorCSRR3
import Derived.Laws.Externs
set_option linter.unusedVariables false
set_option linter.unusedSimpArgs false
set_option linter.defProp false
namespace Go.Proofs.YtpcmehldpoljfaaGreatDoor
open Go Go.Pt
attribute [local irreducible] ld dX jg oe jF fP st new idx jG jR fM jY jz mM iH nn call eJ inv run fG js join loop held ext kz eC nK nE nQ IntKind.wrap
section
open Go Go.Pt List
open Go.IntKind (wrap)
open Classical
variable {key:Key}
section
variable {D:dV} {M:eH} {k v side c:Nat} {n nx ny:dY}
def qx9{e:Int}(h:dW D M k v (n.Q1.getD side 0)=(ny,e))(u:e≠0):kj D k v M n side c nx=((iV,e),M):=by unfold kj;rw[h,iP u]
def qwv(h:dW D M k v (n.Q1.getD side 0)=(ny,0))(u:¬jq ny k v):kj D k v M n side c nx=mi k v M n (if side<c then side else c) (if side<c then ny else nx) (if side<c then nx else ny):=by unfold kj;rw[h,iN λh=>h rfl];by_cases hsd:side<c;rw[iP hsd,iP hsd,iP hsd,iP hsd,iP u];rw[iN hsd,iN hsd,iN hsd,iN hsd,iP u]
def qwu(h:dW D M k v (n.Q1.getD side 0)=(ny,0))(u:jq ny k v):kj D k v M n side c nx=od k v M n (if side<c then side else c) (if side<c then jr ny nx (n.J8.getD side []) else takeN nx ny (n.J8.getD c [])):=by unfold kj;rw[h,iN λh=>h rfl];by_cases hsd:side<c;rw[iP hsd,iP hsd,iP hsd,iN λh=>h u];rw[iN hsd,iN hsd,iN hsd,iN λh=>h u]
def qme{n:dY}{k v:Nat}(h:fW n k v):ic n:=by obtain⟨G,I,J,u,E⟩:=vR h;exact⟨λh=>(u h).1,λh=>(E h).1.symm,oJ,oJ,oJ⟩
def qvL(G:iE k v)(u:jq n k v)(sn:ic n):1<=n.J8.length/\(n.Q6=true->2<=n.J8.length):=by
 have I:=G.Q6;have J:=G.inner;unfold jq at u;unfold fq at u;cases E:n.Q6 with
 | true=>rw[E,iP rfl] at u;dsimp only at u;exact⟨oJ,λ_=>oJ⟩
 | false=>
  have:=sn.inner E;rw[E,iN oM] at u;dsimp only at u;exact⟨oJ,λh=>nomatch h⟩
end
section
variable {dbk pb j:Nat} {FD S S0 N0 Y F F' T B Bl Br Bn Bx By:IS} {D:dV} {w0 wa w w' w7:IK} {M M':eH} {L:IW} {x xx xy:kQ} {n nx ny:dY} {k v:Nat} {t:Int}
def Ed.more(e:Ed dbk pb FD D j S0 N0 w0 w (fH L) Y F M x n B)(h:ef T wa w L)(R:TW dbk pb FD D j w7 (By++(fH L++(B++Y))) F M)(U:fE (Zo FD (By++(fH L++(B++Y))) F) w7 xy ny By)(f:Fr [] w w7)(G:∀c∈By,w.heap.size<=c): Ed dbk pb FD D j S0 N0 w0 w7 (fH L) (By++Y) F M x n B/\ef (fH L) w7 w7 L/\oS FD F w7 (fH L) (B++(By++Y)) xy ny By:=by
 have E:∀b∈Zo FD (fH L++(B++(By++Y))) F,b∈Zo FD (By++(fH L++(B++Y))) F:=λb u=>by simp only[Zo,zD,zG] at u⊢;rcases u with (u|u|u|u|u|u)|u<;>simp[u]
 have I:∀b∈Zo FD (fH L++(B++(By++Y))) F,b∈Zo FD (fH L++(B++Y)) F\/w.heap.size<=b:=λb u=>by simp only[Zo,zD,zG] at u⊢;rcases u with (u|u|u|u|u|u)|u;simp[u];simp[u];simp[u];simp[u];exact .inr (G b u);simp[u];simp[u]
 refine⟨⟨⟨e.sg.qK.J0 f (λ_ h=>nomatch h),e.sg.new,e.sg.own⟩,R.y8 λb u=>?_,e.node.j1 f (λ_ _ h=>nomatch h) (λ_ h=>nomatch h) I,e.sep,e.cU,e.dF,λb u E=>?_⟩,ry h f (λ_ _ h=>nomatch h),U.j8 λb u=>.inl (E b u),λb u E=>?_⟩;simp only[zD] at u⊢;rcases u with u|u|u|u<;>simp[u];rcases zD.1 E with J|J;have:=e.node.lt b u;have:=G b J;omega;exact e.cY b u J;have:=ya h b u;have:=G b E;omega
def oS.more(o:oS FD F w (fH L) (B++Y) x n Bx)(f:Fr [] w w7)(E:∀c∈By,w.heap.size<=c):oS FD F w7 (fH L) (B++(By++Y)) x n Bx:=
 ⟨o.node.j1 f (λ_ _ h=>nomatch h) (λ_ h=>nomatch h) λb u=>by simp only[Zo,zD,zG] at u⊢;rcases u with (u|u|u|u|u|u)|u;simp[u];simp[u];simp[u];simp[u];exact .inr (E b u);simp[u];simp[u],o.sep⟩
def oS.q8{R:IS}(o:oS FD F w T R x n B)(f:Fr [] w w'):oS FD F w' T R x n B:=⟨o.node.q8 f,o.sep⟩
def qwy{nl nr:dY}(h:∀a∈nl.J8,eX a)(sl:ic nl)(u:ic nr):eX (jr nl nr key).2.2/\(jr nl nr key).1.J8.length<=9000/\(jr nl nr key).1.Q2.length<=9000/\(jr nl nr key).1.Q1.length<=9000/\(jr nl nr key).2.1.J8.length<=9000/\(jr nl nr key).2.1.Q2.length<=9000/\(jr nl nr key).2.1.Q1.length<=9000:=by obtain⟨_,_,E,G,I⟩:=sl;obtain⟨_,_,J,R,U⟩:=u;unfold jr;split;refine⟨tO h _,?_⟩;simp only[yL,yI];omega;refine⟨tO h _,?_⟩;simp only[yL,yI];omega
def qxv{nl nr:dY}(h:∀a∈nr.J8,eX a)(sl:ic nl)(u:ic nr):eX (takeN nl nr key).2.2/\(takeN nl nr key).1.J8.length<=9000/\(takeN nl nr key).1.Q2.length<=9000/\(takeN nl nr key).1.Q1.length<=9000/\(takeN nl nr key).2.1.J8.length<=9000/\(takeN nl nr key).2.1.Q2.length<=9000/\(takeN nl nr key).2.1.Q1.length<=9000:=by obtain⟨_,_,G,I,J⟩:=sl;obtain⟨_,_,R,U,V⟩:=u;unfold takeN;split;refine⟨tO (λa E=>h a (yU E)) _,?_⟩;simp only[zF,yB,yI,xL];omega;refine⟨tO h _,?_⟩;simp only[zF,yB,yI,xL];omega
def ut{Y':IS}(h:∀b∈Y',b∈Y):∀b∈Zo FD Y' F,b∈Zo FD Y F:=λb u=>by simp only[Zo,zD,zG] at u⊢;rcases u with (u|u|u)|u;simp[u];simp[u];simp[h b u];simp[u]
def Ed.gp{Y1:IS}(e:Ed dbk pb FD D j S0 N0 w0 w (fH L) Y F M x n B)(h:ef T wa w L)(U:TW dbk pb FD D j w' (fH L++(B++Y1)) F M)(f:Fr S w w')(I:∀b∈S,b∈S0\/w0.heap.size<=b)(E:∀b∈S,b∉B/\b∉fH L)(J:∀b∈S,b∈Zo FD (fH L++(B++Y)) F)(R:∀b∈Y1,b∈Y): Ed dbk pb FD D j S0 N0 w0 w' (fH L) Y1 F M x n B/\ef (fH L) w' w' L:=
 ⟨⟨⟨e.sg.qK.J0 f I,e.sg.new,e.sg.own⟩,U,e.node.j1 f (λb u G=>(E b G).1 u) (λb u=>.inl (J b u)) λb u=>.inl (by simp only[Zo,zD,zG] at u⊢;rcases u with (u|u|u|u|u)|u;simp[u];simp[u];simp[u];simp[u];simp[R b u];simp[u]),e.sep,e.cU,e.dF,λb u G=>e.cY b u (R b G)⟩,ry h f λb u G=>(E b G).2 u⟩
set_option maxHeartbeats 4000000 in
def qya{side c:Nat}{K:kQ×Int->WP}(hT:TW dbk pb FD D j w0 (Bn++(Bx++Y)) F M)(hn:fE (Zo FD (Bn++(Bx++Y)) F) w0 x n Bn)(hx:fE (Zo FD (Bn++(Bx++Y)) F) w0 xx nx Bx)(d1:∀b∈Bn,b∉Bx)(d2:∀b∈Bn,b∉Y)(d3:∀b∈Bx,b∉Y)(sn:ic n)(sx:ic nx)(a7:n.Q6=false)(cu:side+1=c\/c+1=side)(hs:side<n.Q1.length)(cv:c<n.Q1.length)(bM:∀ny,dW D M k v (n.Q1.getD side 0)=(ny,0)->ny.Q6=nx.Q6)(a8:iE k v)(kk:∀yn B' F' w',TW dbk pb FD D j w' (B'++Y) F' (kj D k v M n side c nx).2->fE (Zo FD (B'++Y) F') w' yn (kj D k v M n side c nx).1.1 B'->Fr (Bn++(Bx++F)) w0 w'->(∀b∈B',b∈Bn\/w0.heap.size<=b)->(∀b∈F',b∈Bn++(Bx++F)\/w0.heap.size<=b)->K (yn,(kj D k v M n side c nx).1.2) w'): cW 170 [.agg (oj (kb k v pb t)),.agg (fg x),.i side,.i c,.agg (fg xx)] [.agg eG,.one .i] w0 K:=by
 refine qlE ?_;unfold Gl Ho;have ei:(if (c:Int)<(side:Int) then (c:Int) else (side:Int))=(((if side<c then side else c):Nat):Int):=by by_cases h1:c<side;rw[iP,iN];rw[iN,iP]
 have ap:(if side<c then side else c)+1<n.Q1.length:=(by split<;>omega);rw[ei];generalize aD:(if side<c then side else c)=i at ap⊢;have il:=sn.inner a7;have s1:=sn.J8;have s3:=sn.Q1;have aE:i<n.J8.length:=oJ;have ew:wrap .i64 ((i:Int)+1)=((i+1:Nat):Int):=sA oJ;rw[ew];have e0:Ed dbk pb FD D j (Bn++(Bx++F)) Bn w0 w0 [] (Bx++Y) F M x n Bn:=⟨⟨.refl _ _,λb u=>.inl (by simp[u]),λ_ h=>nomatch h⟩,hT,hn,λ_ h=>(nomatch h),λb u=>.inl u,λb u=>by simp[u],λb u J=>(zD.1 J).elim (d1 b u) (d2 b u)⟩;have o0:oS FD F w0 [] (Bn++(Bx++Y)) xx nx Bx:=⟨hx,λ_ h=>nomatch h⟩;rcases am:dW D M k v (n.Q1.getD side 0) with ⟨ny,ey⟩;have bO:n.Q1.getD side 0=n.Q1[side]:=uV hs;have aM:dW D M k v n.Q1[side]=(ny,ey):=(by rw[<- bO];exact am);have a9:=hx.lt;have a':∀b∈Y,b<w0.heap.size:=λb u=>hT.qZ b (by simp[u]);have ba:ia n.Q1[side]:=hn.2.1.2.2 _ (zW hs);have h:=oE [] w0;refine oB h λR w2 _ _ h=>oB h λU w4 _ _ h=>oB h λV w6 _ _ h=>oB h λr7 w8 _ _ h=>?_;have h:=oF h;refine⟨?a,?b⟩;case' a=>
  have e:=e0.J2 h;have o:=o0.J2 h;refine IR h 3 rfl (kb k v pb t)<|IQ h 2 rfl x.2.2.2<|eI.dD e.cL side rfl hs λbP hh=>?_;have aR:=e.fr.size;refine Cf (k:=k) (v:=v) e.tw ba λxy By bR aq ac ar ad=>?_;rw[aM] at ac⊢;dsimp only at ac;obtain⟨e,h,oy⟩:=e.more h aq ac ar ad;have ox:=o.more (By:=By) ar ad;refine oB h λE bS _ _ h=>nj (hh _ _ (e.J2 h).cL) (h.cell 3) (h.cells 4)<|oD h 0 rfl (fg xy) λbT h _=>?_;have oy:=oy.J2 h;have ox:=ox.J2 h;have e:=e.J2 h;have h:=mp h (.refl _);have aF:∀b∈By,w0.heap.size<=b:=λb u=>zL aR (ad b u)
 case' b=>
  have e:=e0.J2 h;have o:=o0.J2 h;have h:=mp h (.refl _);refine IR h 3 rfl (kb k v pb t)<|IQ h 2 rfl x.2.2.2<|eI.dD e.cL side rfl hs λbP hh=>oB h λE bS _ _ h=>?_;have e:=e.J2 h;have o:=o.J2 h;refine nj (hh _ _ e.cL) (h.cell 3) (h.cells 4) ?_;have aR:=e.fr.size;refine Cf (k:=k) (v:=v) e.tw ba λxy By bR aq ac ar ad=>?_;rw[aM] at ac⊢;dsimp only at ac;obtain⟨e,h,oy⟩:=e.more h aq ac ar ad;have ox:=o.more (By:=By) ar ad;refine oD h 0 rfl (fg xy) λbT h _=>?_;have oy:=oy.J2 h;have ox:=ox.J2 h;have e:=e.J2 h;have h:=mp h (.refl _);have aF:∀b∈By,w0.heap.size<=b:=λb u=>zL aR (ad b u)
 all_goals
  apply eB<;>intro hc;have au:ey≠0:=by rw[zT] at hc;exact zR.1 hc
  rw[qx9 am au] at kk;refine oD h 1 rfl (fg fS) λbU h _=>IR h 1 rfl fS ?_;have e:=e.J2 h;exact kk fS [] F bU (e.rA.y8 λb u=>by simp at u⊢;simp[u]) (.zero _ _) e.fr (λ_ h=>(nomatch h)) e.sg.new;have bV:ey=0:=by rw[yE] at hc;exact yP.1 hc
  subst bV;have bW:=CG am;have sy:=qme bW;have aN:=bM ny am;have aT:∀b∈By,b∉Bx:=λb u J=>by have:=aF b u;have:=a9 b J;omega
  have bc:∀b∈By,b∉Y:=λb u J=>by have:=aF b u;have:=a' b J;omega
  refine⟨?_,?_⟩;have h:=oF h;refine IR h 2 rfl xx<|IR h 0 rfl xy<|oB h λG bX _ _ h=>kV (h.cells 1) (h.cells 3)<|oB h λI bY _ _ h=>kV (h.cells 2) (h.cells 4)<|oD h 1 rfl (fg xx) λbZ h _=>iS (h.cells 2)<|oD h 0 rfl (fg xy) λb0 h _=>?_;rotate_left;have h:=oF h;refine IR h 2 rfl xx<|IR h 0 rfl xy<|oB h λI bX _ _ h=>kV (h.cells 1) (h.cells 3)<|oB h λG bY _ _ h=>kV (h.cells 2) (h.cells 4)<|oD h 0 rfl (fg xx) λbZ h _=>iS (h.cells 2)<|oD h 1 rfl (fg xy) λb0 h _=>?_;have h:=DH h (List.Perm.swap _ _ _);all_goals
   obtain⟨xl,nl,Bl,xr,nr,Br,hP⟩:∃xl nl Bl xr nr Br,(side<c/\xl=xy/\nl=ny/\Bl=By/\xr=xx/\nr=nx/\Br=Bx)\/(¬side<c/\xl=xx/\nl=nx/\Bl=Bx/\xr=xy/\nr=ny/\Br=By):=by by_cases ab:side<c;exact⟨_,_,_,_,_,_,.inl ⟨ab,rfl,rfl,rfl,rfl,rfl,rfl⟩⟩;exact⟨_,_,_,_,_,_,.inr ⟨ab,rfl,rfl,rfl,rfl,rfl,rfl⟩⟩
   refine iC (λ_ w'=>ef [I,G,E,r7,V,U,R] w' w' [(I,.c (fg xr) ND),(G,.c (fg xl) ND),(E,.c (fg xy) ND),(r7,.c (fg fS) ND),(V,.c (fg xx) ND),(U,.c (fg x) ND),(R,.c (oj (kb k v pb t)) WK)]/\
    Ed dbk pb FD D j (Bn++(Bx++F)) Bn w0 w' [I,G,E,r7,V,U,R] (By++(Bx++Y)) F M x n Bn/\oS FD F w' [I,G,E,r7,V,U,R] (Bn++(By++(Bx++Y))) xx nx Bx/\oS FD F w' [I,G,E,r7,V,U,R] (Bn++(By++(Bx++Y))) xy ny By) ?_ ?_
   apply eB<;>intro hc;have ab:side<c:=(by have:=zC hc;omega);rcases hP with ⟨_,rfl,rfl,rfl,rfl,rfl,rfl⟩|⟨hn,_⟩;have h:=oF h;exact IR h 2 rfl xl<|IR h 4 rfl xr<|oD h 1 rfl (fg xl) λcy h _=>iS (h.cells 4)<|oD h 0 rfl (fg xr) λcz h _=>⟨mp h (.refl _),e.J2 h,ox.J2 h,oy.J2 h⟩;exact absurd ab hn;have ab:¬side<c:=(by have:=zB hc;omega);rcases hP with ⟨hn,_⟩|⟨_,rfl,rfl,rfl,rfl,rfl,rfl⟩;exact absurd hn ab;exact⟨mp h (.refl _),e.J2 h,ox.J2 h,oy.J2 h⟩;rintro _ cA ⟨h,e,ox,oy⟩;refine IR h 6 rfl (CC k v)<|IR h 2 rfl xy ?_;have ly:po xy ny:=(oy.node.rd (S:=[]) (λ_ _ h=>(nomatch h)) λ_ h=>nomatch h).lens;refine qyK ly λan b1=>?_;have h:=h.q8 b1;have e:=e.J2 h;have ox:=ox.J2 h;have oy:=oy.J2 h;have h:=mp h (.refl _);apply eB<;>intro hc;have aH:¬jq ny k v:=by rw[zT] at hc;exact zB hc
   rw[qwv am aH] at kk;have hj:(if side<c then ny else nx)=nl/\(if side<c then nx else ny)=nr:=by rcases hP with ⟨h1,_,h2,_,_,h3,_⟩|⟨h1,_,h2,_,_,h3,_⟩;rw[iP h1,iP h1,h2,h3];exact⟨rfl,rfl⟩;rw[iN h1,iN h1,h2,h3];exact⟨rfl,rfl⟩
   rw[aD,hj.1,hj.2] at kk;have e:=e.sub (T1:=[I,G,E,r7,V,U,R]) λb u=>u;have aU:oS FD F an [I,G,E,r7,V,U,R] (Bn++(By++(Bx++Y))) xl nl Bl:=by rcases hP with ⟨_,rfl,rfl,rfl,_⟩|⟨_,rfl,rfl,rfl,_⟩<;>assumption
   have b4:oS FD F an [I,G,E,r7,V,U,R] (Bn++(By++(Bx++Y))) xr nr Br:=by rcases hP with ⟨_,_,_,_,rfl,rfl,rfl⟩|⟨_,_,_,_,rfl,rfl,rfl⟩<;>assumption
   have bd:ic nl/\ic nr:=by rcases hP with ⟨_,_,rfl,_,_,rfl,_⟩|⟨_,_,rfl,_,_,rfl,_⟩<;>exact⟨by assumption,by assumption⟩
   have b5:(∀b∈Bl,b∈By\/b∈Bx)/\(∀b∈Br,b∈By\/b∈Bx)/\∀b∈Bl,b∉Br:=by rcases hP with ⟨_,_,_,rfl,_,_,rfl⟩|⟨_,_,_,rfl,_,_,rfl⟩;exact⟨λb u=>.inl u,λb u=>.inr u,aT⟩;exact⟨λb u=>.inr u,λb u=>.inl u,λb u J=>aT b J u⟩
   obtain⟨aI,bf,b6⟩:=b5;have aV:∀b,b∈By\/b∈Bx->b∉Bn/\b∉Y:=λb u=>by rcases u with u|u;exact⟨λJ=>e.cY b J (by simp[u]),bc b u⟩;exact⟨λJ=>e.cY b J (by simp[u]),d3 b u⟩
   have av:∀b∈Bl++(Bn++(Br++([I,G,E,r7,V,U,R]++Y))),b∈[I,G,E,r7,V,U,R]++(Bn++(By++(Bx++Y))):=λb u=>by have a1:=aI b;have a2:=bf b;rw[zD,zD,zD,zD] at u⊢;rcases u with u|u|u|u|u;rcases a1 u with h|h<;>simp[h];simp[u];rcases a2 u with h|h<;>simp[h];simp[u];simp[u]
   have hZ:∀b∈Zo FD (Bl++(Bn++(Br++([I,G,E,r7,V,U,R]++Y)))) F,b∈Zo FD ([I,G,E,r7,V,U,R]++(Bn++(By++(Bx++Y)))) F:=ut av;refine IR h 6 rfl (kb k v pb t)<|IR h 5 rfl x<|IR h 1 rfl xl<|IR h 0 rfl xr<|qyk (Y:=[I,G,E,r7,V,U,R]++Y) (e.tw.y8 av) (aU.node.j8 λb u=>.inl (hZ b u)) (e.node.j8 λb u=>.inl (hZ b u)) (b4.node.j8 λb u=>.inl (hZ b u)) (λb u=>(aV b (aI b u)).1) b6 (λb u J=>(zD.1 J).elim (λJ=>aU.sep b J u) (aV b (aI b u)).2) (λb u J=>(aV b (bf b J)).1 u) (λb u J=>(zD.1 J).elim (λJ=>e.sep b J u) (d2 b u)) bd.1 bd.2 sn aE a7 λyn B' F' b9 bg bh bi nB nF=>?_;have ca:∀b∈[I,G,E,r7,V,U,R],b<an.heap.size:=λb u=>e.tw.qZ b (zH _ u);have hS:∀b∈Bn++(Bl++F),b∈Bn++(Bx++F)\/w0.heap.size<=b:=λb u=>by rcases zD.1 u with u|u;exact .inl (by simp[u]);rcases zD.1 u with u|u;rcases aI b u with h1|h1;exact .inr (aF b h1);exact .inl (by simp[h1]);exact .inl (by simp[u])
   have h:=ry h bi λb u J=>by rcases zD.1 J with J|J;exact e.sep b u J;rcases zD.1 J with J|J;exact aU.sep b u J;exact e.tw.yf b (zH _ u) J
   refine oD h 3 rfl (fg yn) λcc h _=>IR h 3 rfl yn ?_;have bj:∀b∈[I,G,E,r7,V,U,R]++(B'++Y),b∈B'++([I,G,E,r7,V,U,R]++Y):=λb u=>by rw[zD,zD] at u⊢;rcases u with u|u|u<;>simp[u]
   have o:oS FD F' b9 [I,G,E,r7,V,U,R] (B'++Y) yn _ B':=⟨bh.j8 λb u=>.inl (ut bj b u),λb u J=>(nB b J).elim (e.sep b u) λh1=>by have:=ca b u;omega⟩;have cd:=bg.y8 bj;exact kk yn B' F' cc (TW.J2 (T:=[I,G,E,r7,V,U,R]) cd h).j9 ((o.J2 h).node.j8 λb u=>.inl (Ah b u)) ((e.fr.J0 bi hS).J0 h.fr e.sg.own) (λb u=>(nB b u).imp id λh1=>zL e.fr.size h1) λb u=>(nF b u).elim (hS b) λh1=>.inr (zL e.fr.size h1);have aH:jq ny k v:=(by rw[yE] at hc;exact zC hc);rw[qwu am aH,aD] at kk;obtain⟨y1,y2⟩:=qvL a8 aH sy;have e:=e.sub (T1:=[I,G,E,r7,V,U,R]) λb u=>u;have ox:oS FD F an [I,G,E,r7,V,U,R] (Bn++(By++(Bx++Y))) xx nx Bx:=ox;have oy:oS FD F an [I,G,E,r7,V,U,R] (Bn++(By++(Bx++Y))) xy ny By:=oy;have bk:∀b∈Bx++(By++([I,G,E,r7,V,U,R]++(Bn++Y))),b∈[I,G,E,r7,V,U,R]++(Bn++(By++(Bx++Y))):=λb u=>by rw[zD,zD,zD,zD] at u⊢;rcases u with u|u|u|u|u<;>simp[u]
   have aW:∀b∈Zo FD (Bx++(By++([I,G,E,r7,V,U,R]++(Bn++Y)))) F,b∈Zo FD ([I,G,E,r7,V,U,R]++(Bn++(By++(Bx++Y)))) F:=ut bk;have bl:∀b∈Bx,b∉By:=λb u J=>aT b J u;have aO:∀b∈Bx,b∉[I,G,E,r7,V,U,R]++(Bn++Y):=λb u J=>by rcases zD.1 J with J|J;exact ox.sep b J u;rcases zD.1 J with J|J;exact d1 b J u;exact d3 b u J
   have aP:∀b∈By,b∉[I,G,E,r7,V,U,R]++(Bn++Y):=λb u J=>by rcases zD.1 J with J|J;exact oy.sep b J u;rcases zD.1 J with J|J;exact e.cY b J (by simp[u]);exact bc b u J
   obtain⟨nk,nv,on⟩:=e.node.BV (S0:=[]) λ_ _ h=>nomatch h;have aw:i<nk.length:=(by rw[on.t8];exact aE);have bm:eX nk[i].2:=(by rw[<- on.nG aw];exact tO on.nb.1 _);have bn:=(on.ek _ (zW aw)).j1 (.refl _ _) λb u=>.inl (aW b u);have bo:n.J8.getD i []=nk[i].2:=on.nG aw;have bp:=e.tw.y8 bk;have bq:=ox.node.j8 λb u=>.inl (aW b u);have aK:=oy.node.j8 λb u=>.inl (aW b u);refine iC (λ_ w'=>∃yl yr r B',ef [I,G,E,r7,V,U,R] w' w' [(I,.c (fg yr) ND),(G,.c (fg yl) ND),(E,.c (fg xy) ND),(r7,.c (fg fS) ND),(V,.c (fg xx) ND),(U,.c (fg x) ND),(R,.c (oj (kb k v pb t)) WK)]/\
    Ed dbk pb FD D j (Bn++(Bx++F)) Bn w0 w' [I,G,E,r7,V,U,R] Y F M x { n with J8:=n.J8.set i r.2.2 } B'/\eT (Zo FD ([I,G,E,r7,V,U,R]++(B'++Y)) F) w' yl r.1/\eT (Zo FD ([I,G,E,r7,V,U,R]++(B'++Y)) F) w' yr r.2.1/\
    (if side<c then jr ny nx (n.J8.getD side []) else takeN nx ny (n.J8.getD c []))=r/\r.1.J8.length<=9000/\r.1.Q2.length<=9000/\r.1.Q1.length<=9000/\r.2.1.J8.length<=9000/\r.2.1.Q2.length<=9000/\r.2.1.Q1.length<=9000) ?_ ?_
   have bt:∀b∈Bx++F,b∈Bn++(Bx++F)\/w0.heap.size<=b:=λb u=>.inl (zI _ u);have bu:∀b∈Bx++F,b∉Bn/\b∉[I,G,E,r7,V,U,R]:=λb u=>by rcases zD.1 u with u|u;exact⟨λJ=>d1 b J u,λJ=>ox.sep b J u⟩;exact⟨λJ=>e.tw.yf b (by simp[J]) u,λJ=>e.tw.yf b (zH _ J) u⟩
   have bv:∀b∈Bx++F,b∈Zo FD ([I,G,E,r7,V,U,R]++(Bn++(By++(Bx++Y)))) F:=λb u=>by rcases zD.1 u with u|u<;>simp[u]
   have fd:=(Fr.refl [] an).drew;apply cD<;>intro aY;have ab:side<c:=oJ;have aZ:side=i:=(by rw[<- aD,iP ab]);rcases hP with ⟨_,rfl,rfl,rfl,rfl,rfl,rfl⟩|⟨hn,_⟩;have h:=oF h;have e:=e.J2 h;have h:=mp h (.refl _);refine IQ h 5 rfl x.2.1<|IR h 1 rfl xl<|IR h 0 rfl xr<|IQ h 5 rfl x.2.1<|eI.get (on.rk.q8 fd) i rfl (x:=nk[i].1) (by rw[zQ,zA aw];rfl) (y:=nk[i].1) rfl ?_;have gm:=qwy (key:=nk[i].2) aK.2.1.1 sy sx;refine qyd (Y:=[I,G,E,r7,V,U,R]++(Bn++Y)) (bp.q8 fd) (aK.q8 fd) (bq.q8 fd) bl aO aP (bn.q8 fd) bm aN y1 sy sx λyl yr ce cf ax hL hR al a0=>?_;obtain⟨e,h⟩:=e.gp h ax a0 bt bu bv λb u=>by simp[u]
   refine iS (h.cell 5)<|oD h 1 rfl (fg yl) λcg h _=>iS (h.cell 5)<|oD h 0 rfl (fg yr) λch h _=>iS (h.cell 5) ?_;have e:=e.J2 h;have hL:=eT.J2 (T:=[I,G,E,r7,V,U,R]) hL h;have hR:=eT.J2 (T:=[I,G,E,r7,V,U,R]) hR h;have al:=qB (T:=[I,G,E,r7,V,U,R]) al h;have h:=mp h (.refl _);exact e.Bh h (i:=i) aE rfl al gm.1 λB1 ci e h kp=>⟨yl,yr,_,B1,h,e,kp.node _ _ hL,kp.node _ _ hR,by rw[iP ab,aZ,bo],gm.2.1,gm.2.2.1,gm.2.2.2.1,gm.2.2.2.2.1,gm.2.2.2.2.2.1,gm.2.2.2.2.2.2⟩;exact absurd ab hn;have ab:¬side<c:=oJ;have aZ:c=i:=(by rw[<- aD,iN ab]);rcases hP with ⟨hn,_⟩|⟨_,rfl,rfl,rfl,rfl,rfl,rfl⟩;exact absurd hn ab;have h:=oF h;have e:=e.J2 h;have h:=mp h (.refl _);refine IQ h 5 rfl x.2.1<|IR h 1 rfl xl<|IR h 0 rfl xr<|IQ h 5 rfl x.2.1<|eI.get (on.rk.q8 fd) i rfl (x:=nk[i].1) (by rw[zQ,zA aw];rfl) (y:=nk[i].1) rfl ?_;have gm:=qxv (key:=nk[i].2) aK.2.1.1 sx sy;refine qyM (Y:=[I,G,E,r7,V,U,R]++(Bn++Y)) (bp.q8 fd) (bq.q8 fd) (aK.q8 fd) bl aO aP (bn.q8 fd) bm aN.symm y1 y2 sx sy λyl yr ce cf ax hL hR al a0=>?_;obtain⟨e,h⟩:=e.gp h ax a0 bt bu bv λb u=>by simp[u]
   refine iS (h.cell 5)<|oD h 1 rfl (fg yl) λcg h _=>iS (h.cell 5)<|oD h 0 rfl (fg yr) λch h _=>iS (h.cell 5) ?_;have e:=e.J2 h;have hL:=eT.J2 (T:=[I,G,E,r7,V,U,R]) hL h;have hR:=eT.J2 (T:=[I,G,E,r7,V,U,R]) hR h;have al:=qB (T:=[I,G,E,r7,V,U,R]) al h;have h:=mp h (.refl _);exact e.Bh h (i:=i) aE rfl al gm.1 λB1 ci e h kp=>⟨yl,yr,_,B1,h,e,kp.node _ _ hL,kp.node _ _ hR,by rw[iN ab,aZ,bo],gm.2.1,gm.2.2.1,gm.2.2.2.1,gm.2.2.2.2.1,gm.2.2.2.2.2.1,gm.2.2.2.2.2.2⟩;rintro _ cE ⟨yl,yr,r,B',h,e,hL,hR,hr,q1,q2,q3,q4,q5,q6⟩;have aL:i<n.Q1.length:=oJ;rw[hr] at kk;unfold od at kk;rw[uV aL,uV ap] at kk;have h:=oF h;have e:=e.J2 h;have hL:=eT.J2 (T:=[I,G,E,r7,V,U,R]) hL h;have hR:=eT.J2 (T:=[I,G,E,r7,V,U,R]) hR h;have h:=mp h (.refl _);refine IQ h 5 rfl x.2.2.2<|IR h 6 rfl (kb k v pb t)<|IQ h 5 rfl x.2.2.2<|eI.get e.cL i rfl (x:=n.Q1[i]) (zA aL) (y:=n.Q1[i]) rfl<|IR h 1 rfl yl<|vS e.tw hL oJ oJ oJ λF1 cH bx bz bA=>?_;obtain⟨e,h⟩:=e.next h bx bz bA
   have hR:=hR.next bz bA;have a4:ia (ee k v M n.Q1[i] r.1).1.1:=vO hT.wf (hn.2.1.2.2 _ (zW aL));generalize ee k v M n.Q1[i] r.1=cj at kk e a4⊢;obtain⟨⟨a1,bB⟩,M1⟩:=cj;dsimp only at kk e a4⊢;refine iS (h.cell 5)<|e.uH h (i:=i) aL rfl a4 λB1 cI e h kp=>?_;have hR:=kp.node _ _ hR;apply eB<;>intro az;have au:bB≠0:=(by rw[zT] at az;exact zR.1 az);rw[iP au] at kk;refine oD h 3 rfl (fg fS) λbC h _=>IR h 3 rfl fS ?_;have e:=e.J2 h;exact kk fS [] F1 bC e.rA.j9 (.zero _ _) e.fr (λ_ h=>(nomatch h)) e.sg.new;have au:¬bB≠0:=(by rw[yE] at az;exact λh=>h (yP.1 az));rw[iN au] at kk;have bD:(n.Q1.set i a1)[i+1]?=some n.Q1[i+1]:=(by rw[List.getElem?_set_ne oJ,zA ap]);have h:=oF h;have e:=e.J2 h;have hR:=eT.J2 hR h;have h:=mp h (.refl _);refine IQ h 5 rfl x.2.2.2<|IR h 6 rfl (kb k v pb t)<|IQ h 5 rfl x.2.2.2<|eI.get e.cL (i+1) rfl (x:=n.Q1[i+1]) bD (y:=n.Q1[i+1]) rfl<|IR h 0 rfl yr<|vS e.tw hR oJ oJ oJ λF2 cs a5 bE bF=>?_;have a6:ia (ee k v M1 n.Q1[i+1] r.2.1).1.1:=vO e.tw.wf (hn.2.1.2.2 _ (zW ap));obtain⟨e,h⟩:=e.next h a5 bE bF
   generalize ee k v M1 n.Q1[i+1] r.2.1=ck at kk e a6⊢;obtain⟨⟨a2,cJ⟩,M2⟩:=ck;dsimp only at kk e a6⊢;refine iS (h.cell 5)<|e.uH h (i:=i+1) (by dsimp only;rw[xH];exact ap) rfl a6 λB2 ct e h _=>IR h 5 rfl x<|oD h 3 rfl (fg x) λbG h _=>IR h 3 rfl x ?_;have e:=e.J2 h;exact kk x B2 F2 bG e.tw.j9 (e.node.j8 λb u=>.inl (Ah b u)) e.fr e.cU e.sg.new
end
section
section
variable {D:dV} {M M1:eH} {k v f side c i:Nat} {key:Key} {p e0 e1:Int} {n nx N:dY}
def CS{α:Type}{l:List α}{i:Nat}(h:i<l.length):(iu l i).length+1=l.length:=by unfold iu;rw[zF,yL,yB];omega
def qlX{l r:dY}(sn:ic n)(u:n.Q6=false)(hi:i<n.J8.length)(h:(mi k v M n i l r).1.2=0):ic (mi k v M n i l r).1.1:=by have R:=sn.inner u;obtain⟨_,_,U,I,V⟩:=sn;unfold mi at h⊢;split;rename_i E;rw[iP E] at h;exact absurd h E;rename_i E;rw[iN E] at h;split;rename_i G;rw[iP G] at h;exact absurd h G;have J:=CS (l:=n.Q1.set i (ee k v M (n.Q1.getD i 0) (li l r (n.J8.getD i []))).1.1) (i:=i+1) (by rw[xH];omega);have h2:=CS hi;rw[xH] at J;exact⟨(λh=>by rw[u] at h;cases h),λ_=>by dsimp only;omega,by dsimp only;omega,I,by dsimp only;omega⟩
def qlK{r:dY×dY×Key}(sn:ic n)(u:n.Q6=false)(h:(od k v M n i r).1.2=0):ic (od k v M n i r).1.1:=by have G:=sn.inner u;obtain⟨_,_,I,J,R⟩:=sn;unfold od at h⊢;split;rename_i E;rw[iP E] at h;exact absurd h E;exact⟨(λh=>by rw[u] at h;cases h),λ_=>by dsimp only;rw[xH,xH,xH];exact G,by dsimp only;rw[xH];exact I,J,by dsimp only;rw[xH,xH];exact R⟩
def qs3(sn:ic n)(u:n.Q6=false)(J:side+1=c\/c+1=side)(U:side<n.Q1.length)(R:c<n.Q1.length)(h:(kj D k v M n side c nx).1.2=0):ic (kj D k v M n side c nx).1.1:=by have V:=sn.inner u;unfold kj at h⊢;split;rename_i I;rw[iP I] at h;exact absurd h I;rename_i I;rw[iN I] at h;split;rename_i E;rw[iP E] at h;split;rename_i G;rw[iP G] at h;exact qlX sn u oJ h;rename_i G;rw[iN G] at h;exact qlK sn u h;rename_i E;rw[iN E] at h;split;rename_i G;rw[iP G] at h;exact qlX sn u oJ h;rename_i G;rw[iN G] at h;exact qlK sn u h
def jo (c:Nat):Nat:=if c>0 then c-1 else c+1
def qx3(h:dW D M k v p=(n,e0))(u:e0≠0):iJ D k v key (f+1) M p=((iV,e0),M):=by unfold iJ;rw[h,iP u]
def qx4(h:dW D M k v p=(n,0))(u:n.Q6=true)(E:n.J8[ed n.J8 key]?=some key):iJ D k v key (f+1) M p=(({ n with J8:=iu n.J8 (ed n.J8 key),Q2:=iu n.Q2 (ed n.J8 key) },0),M):=by unfold iJ;rw[h,iN λh=>h rfl,iP u,iP E]
def qwi(h:dW D M k v p=(n,0))(u:n.Q6=true)(E:¬n.J8[ed n.J8 key]?=some key):iJ D k v key (f+1) M p=((iV,5),M):=by unfold iJ;rw[h,iN λh=>h rfl,iP u,iN E]
def qwh(h:dW D M k v p=(n,0))(u:¬n.Q6=true)(E:iJ D k v key f M (n.Q1.getD (eP n.J8 key) 0)=((N,e1),M1))(G:e1≠0):iJ D k v key (f+1) M p=((iV,e1),M1):=by unfold iJ;rw[h,iN λh=>h rfl,iN u];dsimp only;rw[E,iP G]
def qwg(h:dW D M k v p=(n,0))(u:¬n.Q6=true)(E:iJ D k v key f M (n.Q1.getD (eP n.J8 key) 0)=((N,0),M1))(G:¬pH N k v):iJ D k v key (f+1) M p = (({ n with Q1:=n.Q1.set (eP n.J8 key) (ee k v M1 (n.Q1.getD (eP n.J8 key) 0) N).1.1 },(ee k v M1 (n.Q1.getD (eP n.J8 key) 0) N).1.2),(ee k v M1 (n.Q1.getD (eP n.J8 key) 0) N).2):=by unfold iJ;rw[h,iN λh=>h rfl,iN u];dsimp only;rw[E,iN λh=>h rfl,iP G]
def qwf(h:dW D M k v p=(n,0))(u:¬n.Q6=true)(E:iJ D k v key f M (n.Q1.getD (eP n.J8 key) 0)=((N,0),M1))(G:pH N k v):iJ D k v key (f+1) M p=kj D k v M1 n (jo (eP n.J8 key)) (eP n.J8 key) N:=by unfold iJ jo;rw[h,iN λh=>h rfl,iN u];dsimp only;rw[E,iN λh=>h rfl,iN λh=>h G];split<;>rfl
def mX (D:dV) (k v:Nat) (key:Key):Nat->eH->Int->Prop
 | 0,_,_=>False
 | f+1,M,p=>∀n,dW D M k v p=(n,0)->n.Q6=false->mX D k v key f M (n.Q1.getD (eP n.J8 key) 0)/\
  ∀N M1,iJ D k v key f M (n.Q1.getD (eP n.J8 key) 0)=((N,0),M1)->pH N k v->∀ny,dW D M1 k v (n.Q1.getD (jo (eP n.J8 key)) 0)=(ny,0)->ny.Q6=N.Q6
end
section
variable {dbk pb j:Nat} {FD S S0 N0 Y Y1 F F' T B By:IS} {D:dV} {w0 wa w w' w7:IK} {M M':eH} {L:IW} {x xy:kQ} {n ny:dY} {k v:Nat} {t:Int}
def Ed.wR(e:Ed dbk pb FD D j S0 N0 w0 w (fH L) Y F M x n B)(h:ef T wa w L)(R:TW dbk pb FD D j w7 (By++(fH L++(B++Y))) F' M')(V:fE (Zo FD (By++(fH L++(B++Y))) F') w7 xy ny By)(f:Fr F w w7)(U:∀b∈F',b∈F\/w.heap.size<=b)(J:∀c∈By,w.heap.size<=c): Ed dbk pb FD D j S0 N0 w0 w7 (fH L) (By++Y) F' M' x n B/\ef (fH L) w7 w7 L/\oS FD F' w7 (fH L) (B++(By++Y)) xy ny By:=by
 have E:∀b∈fH L++(B++(By++Y)),b∈By++(fH L++(B++Y)):=λb u=>by simp only[zD] at u⊢;rcases u with u|u|u|u<;>simp[u]
 obtain⟨e1,G⟩:=e.next h (R.y8 λb u=>zI _ u) f U;refine⟨⟨e1.sg,R.y8 E,e.node.j1 f (λb u I=>e.tw.yf b (by simp[u]) I) (λb u=>.inl (vY u)) λb u=>?_,e1.sep,e1.cU,e1.dF,λb u I=>?_⟩,G,V.j8 λb u=>.inl (ut E b u),λb u I=>?_⟩;simp only[Zo,zD,zG] at u⊢;rcases u with (u|u|u|u|u|u)|u;simp[u];simp[u];simp[u];simp[u];exact .inr (J b u);simp[u];exact (U b u).imp (λh=>.inr h) id;rcases zD.1 I with G|G;have:=e.node.lt b u;have:=J b G;omega;exact e.cY b u G;have:=ya h b u;have:=J b I;omega
def Ed.less(e:Ed dbk pb FD D j S0 N0 w0 w T Y F M x n B)(E:∀b∈Y1,b∈Y):Ed dbk pb FD D j S0 N0 w0 w T Y1 F M x n B:=by
 have G:∀b∈T++(B++Y1),b∈T++(B++Y):=λb u=>by simp only[zD] at u⊢;rcases u with u|u|u;simp[u];simp[u];simp[E b u]
 exact⟨e.sg,e.tw.y8 G,e.node.j8 λb u=>.inl (ut G b u),e.sep,e.cU,e.dF,λb u h=>e.cY b u (E b h)⟩
def qzn{L':IW}(G:TW dbk pb FD D j w (B++(T++Y)) F M)(I:fE (Zo FD (B++(T++Y)) F) w x n B)(J:∀b∈T,b∉B)(h:ef T w w' L'): TW dbk pb FD D j w' (B++Y) F M/\fE (Zo FD (B++Y) F) w' x n B:=by
 have E:∀b∈T++(B++Y),b∈B++(T++Y):=λb u=>by rw[zD,zD] at u⊢;rcases u with u|u|u<;>simp[u]
 have o:oS FD F w T (B++Y) x n B:=⟨I.j8 λb u=>.inl (ut E b u),J⟩;exact⟨(TW.J2 (G.y8 E) h).j9,(o.J2 h).node.j8 λb u=>.inl (Ah b u)⟩
set_option maxHeartbeats 2000000 in
def GQ{ks:Sl}{key:Key}(aB:eX key)(ap:iE k v):∀(f:Nat) {Y F:IS} {w0:IK} {M:eH} {p:Int} {K:kQ×Int->WP} (hT:TW dbk pb FD D j w0 Y F M) (hp:ia p) (hk:eN (Zo FD Y F) w0 ks key) (U:mX D k v key f M p) (kk:∀yn B' F' w',((iJ D k v key f M p).1.2=0->ic (iJ D k v key f M p).1.1)->TW dbk pb FD D j w' (B'++Y) F' (iJ D k v key f M p).2->fE (Zo FD (B'++Y) F') w' yn (iJ D k v key f M p).1.1 B'->Fr F w0 w'->(∀b∈B',w0.heap.size<=b)->(∀b∈F',b∈F\/w0.heap.size<=b)->K (yn,(iJ D k v key f M p).1.2) w'), cW 136 [.agg (oj (kb k v pb t)),.u p,ks.v] [.agg eG,.one .i] w0 K
 | 0,_,_,_,_,_,_,_,_,_,U,_=>U.elim
 | f+1,Y,F,w0,M,p,K,hT,hp,hk,U,kk=>by
  refine qm5 ?_;have h:=oE [] w0;have g:=Sg.start F w0;refine oB h λr1 w2 _ _ h=>oB h λr3 w4 _ _ h=>IR h 1 rfl (kb k v pb t) ?_;rcases V:dW D M k v p with ⟨n,e0⟩;refine Cf (k:=k) (v:=v) (hT.cS h) hp λx B w7 bk aK f7 bl=>?_;rw[V] at aK⊢;dsimp only at aK;obtain⟨e,h⟩:=Ed.load (N0:=[]) (λ_ h=>nomatch h) g h bk aK f7 bl λb E=>yC (hT.qZ b E) h.fr.size;refine oB h λr8 w9 _ _ h=>oD h 0 rfl (fg x) λbW h _=>?_;have ar:∀ {e:Int} {M':eH} {F':IS} {w'},iJ D k v key (f+1) M p=((iV,e),M')->e≠0->TW dbk pb FD D j w' Y F' M'->Fr F w0 w'->(∀b∈F',b∈F\/w0.heap.size<=b)->K (fS,e) w':=λhe bm bn fr hF=>by
   have:=kk fS [] _ _ (λh=>by rw[he] at h;exact absurd h bm) (by rw[he];exact bn) (by rw[he];exact .zero _ _) fr (λ_ h=>nomatch h) hF;rw[he] at this;exact this
  apply eB<;>intro hc;have aF:e0≠0:=by rw[zT] at hc;exact zR.1 hc
  refine oD h 1 rfl (fg fS) λbZ h _=>IR h 1 rfl fS ?_;have e:=e.J2 h;exact ar (qx3 V aF) aF e.rA.j9 e.fr e.sg.new;have bo:e0=0:=by rw[yE] at hc;exact yP.1 hc
  subst bo;have hr:=CG V;have sn:=qme hr;obtain⟨l1,l2,l3,l4,l5⟩:=vR hr;have e:=e.J2 h;have h:=mp h (.refl _);have aW:x.1=n.Q6:=e.node.1;refine IQ h 0 rfl x.1 ?_;apply eB<;>intro hc;rw[aW] at hc;obtain⟨l6,l7⟩:=l4 hc;refine IR h 0 rfl x<|C7 e.cO (e.dH hk) aB hr.2.2.1 oJ λb4 bp=>?_;obtain⟨e,h⟩:=e.cR h bp;have b5:=FL n.J8 key;apply eB<;>intro ab;rw[zT] at ab;have aX:=zB ab;refine oD h 1 rfl (fg fS) λb6 h _=>IR h 1 rfl fS ?_;have e:=e.J2 h;exact ar (qwi V hc aX) oM e.rA.j9 e.fr e.sg.new;rw[yE] at ab;have aY:=zC ab;have aZ:=(zP.1 aY).1;have ad:=qx4 (f:=f) V hc aY;have ew:wrap .i64 ((ed n.J8 key:Int)+1)=((ed n.J8 key+1:Nat):Int):=sA oJ;rw[ad] at kk;have h:=oF h;refine IQ h 0 rfl x.2.1<|IQ h 0 rfl x.2.2.1 ?_;have e:=e.J2 h;dsimp only;refine e.BQ h (i:=ed n.J8 key) aZ rfl ew oJ λal B1 b7 e h _=>iS (h.cell 0)<|e.E4 h (i:=ed n.J8 key) oN rfl ew oN λau B2 b8 e h _=>oD h 0 rfl (fg (x.1,al,x.2.2.1,x.2.2.2)) λb9 h _=>oD h 0 rfl (fg (x.1,al,au,x.2.2.2)) λca h _=>IR h 0 rfl (x.1,al,au,x.2.2.2)<|oD h 1 rfl (fg (x.1,al,au,x.2.2.2)) λbt h _=>IR h 1 rfl (x.1,al,au,x.2.2.2) ?_;have e:=e.J2 h;have k1:=CS aZ;have k2:=CS (l:=n.Q2) (i:=ed n.J8 key) oJ;exact kk (x.1,al,au,x.2.2.2) B2 F bt (λ_=>⟨λ_=>by dsimp only;omega,(λh=>by dsimp only at h;rw[hc] at h;cases h),by dsimp only;omega,by dsimp only;omega,by dsimp only;omega⟩) e.tw.j9 (e.node.j8 λb E=>.inl (Ah b E)) e.fr (λb E=>(e.cU b E).elim (λh=>nomatch h) id) e.sg.new
  ·rw[aW] at hc;have aL:¬n.Q6=true:=(by rw[hc];decide);obtain⟨l6,l7,l8⟩:=l5 hc;obtain⟨I,ac⟩:=U n V hc;refine IR h 0 rfl x<|CQ e.cO (e.dH hk) aB hr.2.2.1 oJ λcc bu=>?_;obtain⟨e,h⟩:=e.cR h bu;have bv:=AL n.J8 key;have av:=λN e1 M1 he=>qwh (key:=key) (f:=f) (N:=N) (e1:=e1) (M1:=M1) V aL he;have ab:=λN M1 he=>qwg (key:=key) (f:=f) (N:=N) (M1:=M1) V aL he;have aM:=λN M1 he=>qwf (key:=key) (f:=f) (N:=N) (M1:=M1) V aL he;generalize cd:eP n.J8 key=c at bv I ac av ab aM⊢;have ae:c<n.Q1.length:=oJ;have bx:n.Q1.getD c 0=n.Q1[c]:=uV ae;rw[bx] at I ac av ab aM;have hu:ia n.Q1[c]:=e.node.2.1.2.2 _ (zW ae);rcases am:iJ D k v key f M n.Q1[c] with ⟨⟨N1,e1⟩,M1⟩;have av:=av N1 e1 M1 am;refine⟨?a,?b⟩;case' a=>
    have h:=oF h;have e:=e.J2 h;refine IR h 2 rfl (kb k v pb t)<|IQ h 0 rfl x.2.2.2<|eI.dD e.cL c rfl ae λbA hh=>?_;have hz:=e.fr.size;refine GQ aB ap f e.tw hu (e.dH hk) I λxx Bx F1 bC ao af J aN ag aO=>?_;rw[am] at ao af J⊢;dsimp only at ao J⊢;obtain⟨e,h,ox⟩:=e.wR h af J aN aO ag;refine oB h λR bD _ _ h=>nj (hh _ _ (e.J2 h).cL) (h.cell 1) (h.cells 3)<|oD h 0 rfl (fg xx) λbE h _=>?_;have aE:∀b∈Bx,w0.heap.size<=b:=λb E=>zL hz (ag b E);have ox:=ox.J2 h;have e:=e.J2 h;have h:=mp h (.refl _)
   case' b=>
    have h:=oF h;have e:=e.J2 h;have h:=mp h (.refl _);refine IR h 2 rfl (kb k v pb t)<|IQ h 0 rfl x.2.2.2<|eI.dD e.cL c rfl ae λbA hh=>oB h λR bD _ _ h=>?_;have e:=e.J2 h;refine nj (hh _ _ e.cL) (h.cell 1) (h.cells 3) ?_;have hz:=e.fr.size;refine GQ aB ap f e.tw hu (e.dH hk) I λxx Bx F1 bC ao af J aN ag aO=>?_;rw[am] at ao af J⊢;dsimp only at ao J⊢;obtain⟨e,h,ox⟩:=e.wR h af J aN aO ag;refine oD h 0 rfl (fg xx) λbE h _=>?_;have aE:∀b∈Bx,w0.heap.size<=b:=λb E=>zL hz (ag b E);have ox:=ox.J2 h;have e:=e.J2 h;have h:=mp h (.refl _)
   all_goals
    apply eB<;>intro hq;have aG:e1≠0:=by rw[zT] at hq;exact zR.1 hq
    refine oD h 2 rfl (fg fS) λce h _=>IR h 2 rfl fS ?_;have e:=e.J2 h;exact ar (av aG) aG (e.rA.y8 λb E=>by simp[E]) e.fr e.sg.new;have bF:e1=0:=by rw[yE] at hq;exact yP.1 hq
    subst bF;have sx:=ao rfl;refine IR h 3 rfl (CC k v)<|IR h 0 rfl xx ?_;have lx:po xx N1:=(ox.node.rd (S:=[]) (λ_ _ h=>(nomatch h)) λ_ h=>nomatch h).lens;refine qAw lx λai a4=>?_;obtain⟨e,h⟩:=e.cR h a4;have ox:=ox.q8 a4;apply eB<;>intro aw;have ak:¬pH N1 k v:=by rw[zT] at aw;exact zB aw
    have ad:=ab N1 M1 am ak;rw[ad] at kk;have h:=oF h;have e:=e.J2 h;have ox:=ox.J2 h;have h:=mp h (.refl _);refine IQ h 1 rfl x.2.2.2<|IR h 3 rfl (kb k v pb t)<|IQ h 1 rfl x.2.2.2<|eI.get e.cL c rfl (x:=n.Q1[c]) (zA ae) (y:=n.Q1[c]) rfl<|IR h 0 rfl xx ?_;have z1:=sx.J8;have z2:=sx.Q2;have z3:=sx.Q1;have bG:eT (Zo FD (fH _++(B++Y)) F1) ai.drew xx N1:=ox.node.rd (λb E G=>by
     have hs:=e.tw.sep b (by simp[E]);rcases zD.1 G with G|G;rcases zD.1 G with G|G;exact hs.1 G;rcases zG.1 G with G|G;exact hs.2 G;rcases zD.1 G with G|G;exact ox.sep b G E;rcases zD.1 G with G|G;exact e.cY b G (by simp[E]);have:=aE b E;have:=hT.qZ b G;omega;exact e.tw.yf b (by simp[E]) G) λb E=>.inl (ut (λb E=>by
     rw[zD,zD] at E⊢;rcases E with E|E|E;exact .inl E;exact .inr (by simp[E]);exact .inr (by simp[E])) b E)
    have e:=e.less (Y1:=Y) λb E=>zI _ E;refine vS e.tw bG oJ oJ oJ λF2 cg a6 bH bI=>?_;have aP:ia (ee k v M1 n.Q1[c] N1).1.1:=vO e.tw.wf hu;obtain⟨e,h⟩:=e.next h a6 bH bI;generalize ee k v M1 n.Q1[c] N1=st at kk e aP⊢;obtain⟨⟨a1,s1⟩,M2⟩:=st;dsimp only at kk e aP⊢;refine iS (h.cell 1)<|e.uH h (i:=c) ae rfl aP λB2 ch e h _=>IR h 1 rfl x<|oD h 2 rfl (fg x) λbJ h _=>IR h 2 rfl x ?_;have e:=e.J2 h;exact kk x B2 F2 bJ (λ_=>⟨(λh=>by dsimp only at h;rw[hc] at h;cases h),λ_=>by dsimp only;rw[xH];omega,by dsimp only;omega,by dsimp only;omega,by dsimp only;rw[xH];omega⟩) e.tw.j9 (e.node.j8 λb E=>.inl (Ah b E)) e.fr (λb E=>(e.cU b E).elim (λh=>nomatch h) id) e.sg.new;have ak:pH N1 k v:=by rw[yE] at aw;exact zC aw
    have ad:=aM N1 M1 am ak;have bK:=ac N1 M1 am ak;rw[ad] at kk;have e:=e.sub (T1:=[R,r8,r3,r1]) λb E=>E;have ox:oS FD F1 ai [R,r8,r3,r1] (B++(Bx++Y)) xx N1 Bx:=ox;have aj:∀b∈B++(Bx++([R,r8,r3,r1]++Y)),b∈[R,r8,r3,r1]++(B++(Bx++Y)):=λb E=>by rw[zD,zD,zD] at E⊢;rcases E with E|E|E|E<;>simp[E]
    have bL:∀b∈Bx,b∉Y:=λb E G=>by have:=aE b E;have:=hT.qZ b G;omega
    have a7:jo c+1=c\/c+1=jo c:=(by unfold jo;split<;>omega);have hs:jo c<n.Q1.length:=(by unfold jo;split<;>omega);have aH:=λ{K':kQ×Int->WP} (bM)=>qya (t:=t) (pb:=pb) (j:=j) (dbk:=dbk) (Y:=[R,r8,r3,r1]++Y) (K:=K') (e.tw.y8 aj) (e.node.j8 λb E=>.inl (ut aj b E)) (ox.node.j8 λb E=>.inl (ut aj b E)) (λb E G=>e.cY b E (zH _ G)) (λb E G=>(zD.1 G).elim (λG=>e.sep b G E) λG=>e.cY b E (zI _ G)) (λb E G=>(zD.1 G).elim (λG=>ox.sep b G E) (bL b E)) sn sx hc a7 hs ae bK ap bM;have a8:=λh0=>qs3 (D:=D) (M:=M1) (k:=k) (v:=v) (nx:=N1) sn hc a7 hs ae h0;have hS:∀b∈B++(Bx++F1),b∈F\/w0.heap.size<=b:=λb E=>by rcases zD.1 E with E|E;exact (e.cU b E).elim (λh=>nomatch h) .inr;rcases zD.1 E with E|E;exact .inr (aE b E);exact e.sg.new b E
    have bN:∀b∈[R,r8,r3,r1],b<ai.heap.size:=λb E=>e.tw.qZ b (zH _ E);have a9:∀b∈[R,r8,r3,r1],b∉B++(Bx++F1):=λb E G=>by rcases zD.1 G with G|G;exact e.sep b E G;rcases zD.1 G with G|G;exact ox.sep b E G;exact e.tw.yf b (zH _ E) G
    generalize kj D k v M1 n (jo c) c N1=ev at kk a8 aH;have ax:∀ {z:Int},z=(jo c:Int)->(dX i7 (dk r1) ai λa'=>dX eG (dk r8) ai λba=>dX eG (dk R) ai λbb=>
      cW 170 [gj i7 a',gj eG ba,Value.int IntKind.i64 z,Value.int IntKind.i64 c,gj eG bb] [iF.agg eG,iF.one (Cell.int IntKind.i64)] ai λaI bc=>
      st (dk r3) (HL.mk eG aI.1) bc λaJ=>dX eG (dk r3) aJ λbd=>K (bd,aI.2) aJ):=λhz=>by
     subst hz;refine IR h 3 rfl (kb k v pb t)<|IR h 1 rfl x<|IR h 0 rfl xx<|aH λyn B' F' ck bf bg bh nB nF=>?_;have h:=ry h bh a9;refine oD h 2 rfl (fg yn) λbO h _=>IR h 2 rfl yn ?_;obtain⟨bP,bQ⟩:=qzn (T:=[R,r8,r3,r1]) bf bg (λb E G=>(nB b G).elim (e.sep b E) λh1=>by have:=bN b E;omega) h;exact kk yn B' F' bO a8 bP bQ ((e.fr.J0 bh hS).J0 h.fr e.sg.own) (λb E=>(nB b E).elim (λh1=>(e.cU b h1).elim (λh=>nomatch h) id) λh1=>zL e.fr.size h1) λb E=>(nF b E).elim (hS b) λh1=>.inr (zL e.fr.size h1)
    apply cD<;>intro aQ;have ay:0<c:=oJ;refine ax ?_;unfold jo;rw[iP ay,gG _ oJ];omega;have ay:¬0<c:=oJ;refine ax ?_;unfold jo;rw[iN ay,gG _ oJ];omega
end
end
section
abbrev RtC:=I3
def tq (x:RtC):Array IL:=#[.u x.1,.u x.2.1,.u x.2.2]
abbrev RT:IM:=125
section
variable {S:IS} {w:IK}
def FX{vb:Nat}{T':IM}{h:I1}{ks:Sl}(E:w.heap[vb]?=some (.cells #[gy ks] T' h))(G:vb∉S)(I:eN S w ks key):jK S w ⟨pW vb,1,1⟩ [(ks,key)]:=
 ⟨⟨rfl,zM _,.inr ⟨vb,0,_,T',h,rfl,E,G,λi x u=>by
  cases i with
  | zero=>cases u;rfl
  | succ i=>simp at u⟩⟩,λp J=>by rw[zE.1 J];exact I⟩
def qz6{vb:Nat}{T':IM}{E:I1}{a b:Int}(G:w.heap[vb]?=some (.cells #[.u a,.u b] T' E))(I:vb∉S):eI iZ 1 S w ⟨pW vb,2,2⟩ [a,b]:=
 ⟨rfl,zM _,.inr ⟨vb,0,_,T',E,rfl,G,I,λi x h=>by
  match i,h with
  | 0,h=>cases h;rfl
  | 1,h=>cases h;rfl
  | i+2,h=>simp at h⟩⟩
end
section
variable {dbk pb j:Nat} {FD Y F F' T:IS} {D:dV} {w0 w w':IK} {M M':eH} {L L':IW} {k v:Nat} {t:Int}
def Ei{b:Nat}(h:TW dbk pb FD D j w Y F M)(E:w.heap.size<=b):b∉Zo FD Y F:=λu=>by have:=h.vV b u;omega
set_option maxHeartbeats 1000000 in
def qvb{f:Nat}{ks vs:Sl}{val:Key}{K:Int->WP}(ax:eX key)(ay:eX val)(hT:TW dbk pb FD D j w0 Y F M)(hk:eN (Zo FD Y F) w0 ks key)(hv:eN (Zo FD Y F) w0 vs val)(E:(eF M t).1≠0->(iD D k v key val f M (eF M t).1).1.2≠-1)(u:∀F' w',TW dbk pb FD D j w' Y F' (jZ D k v t key val f M).2->Fr F w0 w'->(∀b∈F',b∈F\/w0.heap.size<=b)->K (jZ D k v t key val f M).1 w'): cW 96 [.agg (oj (kb k v pb t)),ks.v,vs.v] dm w0 K:=by
 refine qjN ?_;have g:=Sg.start F w0;have h:=oE [] w0;obtain⟨u1,u2,u3⟩:=CW hT.wf t;refine oB h λr1 w2 _ _ h=>IQ h 0 rfl (pW pb)<|IQ h 0 rfl t<|TW.J7 (hT.q8 h.fr) λw6 f6=>?_;have h:=h.q8 f6;unfold jZ at u;generalize eF M t=R at u E u1 u2 u3⊢;refine oB h λr7 w8 _ _ h=>oD h 0 rfl (tq R) λw9 h _=>IQ h 0 rfl R.1 ?_;apply eB<;>intro hc;have hc:R.1=0:=yP.1 hc;rw[iP hc] at u;refine IR h 1 rfl (kb k v pb t) ?_;have aj:=hT.cS h;have aQ:=uT hk h;have aR:=uT hv h;have g:=g.cR h (.refl [] _);have h:=mp h (.refl _);refine oB h λaz bn bo aA h=>oB h λaB aT bp aU h=>?_;have bk:=aA.size;have ad:=aA.trans aU;have ah:=aj.q8 ad;have aV:=Ei aj (b:=az) oJ;have aW:=Ei aj (b:=aB) oJ;have ak:=FX (h.at (i:=1) rfl) aV (aQ.q8 ad);have aX:=FX (h.at (i:=0) rfl) aW (aR.q8 ad);have hx:eT _ aT (true,⟨pW az,1,1⟩,⟨pW aB,1,1⟩,dT) (eM [(key,val)]):=⟨rfl,⟨λa ha=>by rw[zE.1 ha];exact ax,λa ha=>by rw[zE.1 ha];exact ay,λ_ h=>nomatch h⟩,⟨_,ak,rfl⟩,⟨_,aX,rfl⟩,.nil _ _ _ _⟩;refine vS ah hx (zO rfl) (zO rfl) (zO rfl) λF1 aZ V aC a0=>?_;have g:=g.next h aC a0
 have h:=ry (h.sub (.cons _ (.cons _ (.refl _)))) aC λb hb=>ah.yf b (zH _ hb);have hu:ia (ee k v M 0 (eM [(key,val)])).1.1:=vO hT.wf uW;unfold k9 at u;generalize ee k v M 0 (eM [(key,val)])=st at u V hu⊢;obtain⟨⟨q,e⟩,M1⟩:=st;dsimp only at u V hu⊢;apply eB<;>intro J;have E:e≠0:=by rw[zT] at J;exact zR.1 J
 rw[iP E] at u;exact u F1 aZ V.j9 g.qK g.new;have E:¬e≠0:=by rw[yE] at J;exact λh=>h (yP.1 J)
 rw[iN E] at u;exact IQ h 1 rfl (pW pb)<|IQ h 1 rfl t<|TW.qV V hu ⟨oM,oM⟩ ⟨oM,oM⟩ λa1 aD a2=>u F1 a1 aD.j9 (g.qK.J0 a2 g.new) g.new;have hc:R.1≠0:=zR.1 hc;rw[iN hc] at u;refine IR h 1 rfl (kb k v pb t)<|IQ h 0 rfl R.1<|Hd ax ay f (hT.cS h) u1 (uT hk h) (uT hv h) (E hc) λgs F1 aE hG U am aF a3=>?_;have g:=g.next h aF a3
 have h:=(hT.cS h).own h aF;generalize iD D k v key val f M R.1=pn at u hG U am⊢;obtain⟨⟨I,e1⟩,M1⟩:=pn;dsimp only at hG U am⊢;unfold sX at u;dsimp only at u;refine oB h λaG bt _ _ h=>oD h 0 rfl (qv (tQ I gs)) λa4 h _=>?_;apply eB<;>intro J;have E:e1≠0:=by rw[zT] at J;exact zR.1 J
 rw[iP E] at u;exact u F1 a4 (U.J2 h).j9 (g.fr h) g.new;have E:¬e1≠0:=by rw[yE] at J;exact λh=>h (yP.1 J)
 rw[iN E] at u;refine IQ h 0 rfl I.x7<|oD h 1 rfl (tq (I.x7,R.2.1,R.2.2)) λbu h _=>?_;have aH:ia (if I.Q0 then wrap .u32 (R.2.1+1) else R.2.1):=by split;exact xb _;exact u2
 refine iC (λ_ w'=>ef [r7,r1] aE w' [(aG,.c (qv (tQ I gs)) GR),(r7,.c (tq (I.x7,(if I.Q0 then wrap .u32 (R.2.1+1) else R.2.1),R.2.2)) RT),(r1,.c (oj (kb k v pb t)) WK)]) ?_ ?_;refine IQ h 0 rfl I.Q0 ?_;apply eB<;>intro G;rw[iP G];refine IQ h 1 rfl R.2.1<|oD h 1 rfl (tq (I.x7,wrap .u32 (R.2.1+1),R.2.2)) λbv h _=>h;rw[iN (by rw[G];decide)];exact h;intro _ a5 h;generalize (if I.Q0 then wrap .u32 (R.2.1+1) else R.2.1)=ac at u aH h;refine iC (λ_ w'=>∃(a c:Int) (F2 T:IS) (M2:eH) (wa:IK),Sg F w0 wa F2 T/\TW dbk pb FD D j wa (T++Y) F2 M2/\ef T wa w' [(aG,.c (qv (tQ I gs)) GR),(r7,.c (tq (a,ac,c)) RT),(r1,.c (oj (kb k v pb t)) WK)]/\ia a/\ia c/\
  ∀F' w',TW dbk pb FD D j w' Y F' (fy M2 t a ac c).2->Fr F w0 w'->(∀b∈F',b∈F\/w0.heap.size<=b)->K (fy M2 t a ac c).1 w') ?_ ?_
 refine IQ h 0 rfl I.x6 ?_;apply eB<;>intro G;have G:I.x6≠0:=by rw[zT] at G;exact zR.1 G
 rw[iP G] at u;refine IR h 2 rfl (kb k v pb t)<|IQ h 0 rfl gs ?_;have aa:=TW.J2 (T:=[r7,r1]) U h;have an:=qB (T:=[r7,r1]) am h;have g:Sg F w0 a5 F1 (fH _):=g.cR h (.refl [] _);have h:=mp h (.refl _);refine oB h λaI bx bz aJ h=>IQ h 1 rfl I.x7<|IQ h 1 rfl I.x6<|oB h λaK a6 bA a7 h=>?_;have bl:=aJ.size;have aL:=aJ.trans a7;have ai:=aa.q8 aL;have a8:=Ei aa (b:=aI) oJ;have a9:=Ei aa (b:=aK) oJ;have ak:=FX (h.at (i:=1) rfl) a8 (an.q8 aL);have a':=qz6 (h.at (i:=0) rfl) a9;have hx:eT _ a6 (false,⟨pW aI,1,1⟩,dT,⟨pW aK,2,2⟩) ⟨false,[I.key],[],[I.x7,I.x6]⟩:=⟨rfl,⟨λa ha=>by rw[zE.1 ha];exact hG.key,λ_ h=>(nomatch h),λa ha=>by simp only[zG,xY,or_false] at ha;rcases ha with rfl|rfl;exact hG.x7;exact hG.x6⟩,⟨_,ak,rfl⟩,⟨_,.nil _ _,rfl⟩,a'⟩;refine vS ai hx (zO rfl) (zO rfl) (zO rfl) λF2 aM ab aN ba=>?_;have g:=g.next h aN ba
 have h:=ry (h.sub (.cons _ (.cons _ (.refl _)))) aN λb hb=>ai.yf b (zH _ hb);have hu:ia (ee k v M1 0 ⟨false,[I.key],[],[I.x7,I.x6]⟩).1.1:=vO aa.wf uW;unfold k9 at u;generalize ee k v M1 0 ⟨false,[I.key],[],[I.x7,I.x6]⟩=st at u ab hu⊢;obtain⟨⟨q,e⟩,M2⟩:=st;dsimp only at u ab hu⊢;apply eB<;>intro ae;have E:e≠0:=by rw[zT] at ae;exact zR.1 ae
 rw[iP E] at u;exact u F2 aM ab.j9 g.qK g.new;have E:¬e≠0:=by rw[yE] at ae;exact λh=>h (yP.1 ae)
 rw[iN E] at u;exact IQ h 1 rfl R.2.2<|oD h 1 rfl (tq (q,ac,R.2.2)) λbB h _=>oD h 1 rfl (tq (q,ac,wrap .u32 (R.2.2+1))) λbC h _=>⟨q,_,F2,_,M2,aM,⟨g.qK,g.new,λb hb=>g.own b (by simp at hb⊢;rcases hb with h|h|h<;>simp[h])⟩,ab,h,hu,xb _,u⟩;have G:¬I.x6≠0:=by rw[yE] at G;exact λh=>h (yP.1 G)
 rw[iN G] at u;exact⟨I.x7,R.2.2,F1,[r7,r1],M1,aE,g,U,h,hG.x7,u3,u⟩;rintro _ bD ⟨a,c,F2,T,M2,wa,g,bb,h,ha,bc,u⟩;exact IQ h 2 rfl (pW pb)<|IQ h 2 rfl t<|IR h 1 rfl (a,ac,c)<|TW.qV (bb.J2 h) ha aH bc λbd aO bf=>u F2 bd aO.j9 ((g.fr h).J0 bf g.new) g.new
end
end
section
section
variable {dbk pb j:Nat} {FD Y F F' T:IS} {D:dV} {w0 w w':IK} {M M':eH} {L L':IW} {k v:Nat} {t:Int}
def oS.rd{x:kQ}{n:dY}{B:IS}(o:oS FD F w T (B++Y) x n B)(G:TW dbk pb FD D j w (T++(B++Y)) F M)(E:∀b∈B,b∉Y):eT (Zo FD (T++Y) F) w x n:=
 o.node.rd (λb h u=>by
  have I:=G.sep b (by simp[h]);simp only[Zo,zD,zG] at u;rcases u with (u|u|u|u)|u;exact I.1 u;exact I.2 u;exact o.sep b u h;exact E b h u;exact G.yf b (by simp[h]) u) λb h=>.inl (ut (λb h=>by
  rw[zD] at h;simp only[zD];rcases h with h|h;exact .inl h;exact .inr (.inr h)) b h)
def oS.next{R:IS}{x:kQ}{n:dY}{B:IS}(o:oS FD F w T R x n B)(f:Fr F w w')(h:∀b∈B,b∉F)(u:∀b∈F',b∈F\/w.heap.size<=b):oS FD F' w' T R x n B:=⟨o.node.j1 f h (λb E=>.inl (vY E)) (TW.vQ u),o.sep⟩
def qxp{r:I3}{N:dY}:mS k v t r ((N,0),M) = if N.Q6=true/\N.J8.length=0 then (if (fK M r.1).1≠0 then ((fK M r.1).1,(fK M r.1).2) else fy (fK M r.1).2 t 0 0 0) else if N.Q6=false/\N.Q1.length=1 then (if (fK M r.1).1≠0 then ((fK M r.1).1,(fK M r.1).2) else fy (fK M r.1).2 t (N.Q1.getD 0 0) (wrap .u32 (r.2.1-1)) (wrap .u32 (r.2.2-1))) else k9 t (ee k v M r.1 N) (wrap .u32 (r.2.1-1)) r.2.2:=by unfold mS;rw[iN λh=>h rfl]
set_option maxHeartbeats 1000000 in
def qvC{f:Nat}{ks:Sl}{K:Int->WP}(aH:eX key)(an:iE k v)(hT:TW dbk pb FD D j w0 Y F M)(hk:eN (Zo FD Y F) w0 ks key)(V:mX D k v key f M (eF M t).1)(G:∀F' w',TW dbk pb FD D j w' Y F' (lu D k v t key f M).2->Fr F w0 w'->(∀b∈F',b∈F\/w0.heap.size<=b)->K (lu D k v t key f M).1 w'): cW 105 [.agg (oj (kb k v pb t)),ks.v] dm w0 K:=by
 refine qjO ?_;have g:=Sg.start F w0;have h:=oE [] w0;obtain⟨u1,u2,u3⟩:=CW hT.wf t;refine oB h λr1 w2 _ _ h=>IQ h 0 rfl (pW pb)<|IQ h 0 rfl t<|TW.J7 (hT.q8 h.fr) λw6 f6=>?_;have h:=h.q8 f6;unfold lu at G;generalize eF M t=I at G V u1 u2 u3⊢;refine oB h λr7 w8 _ _ h=>oD h 0 rfl (tq I) λw9 h _=>IR h 1 rfl (kb k v pb t)<|IQ h 0 rfl I.1<|GQ aH an f (hT.cS h) u1 (uT hk h) V λx B F1 ar ai aa ab au af aJ=>?_;have aK:=ya h;have a5:=h.fr.size;have g:=g.next h au aJ
 have h:=(hT.cS h).own h au;generalize iJ D k v key f M I.1=cn at G ai aa ab⊢;obtain⟨⟨N,e1⟩,M1⟩:=cn;dsimp only at ai aa ab⊢;have av:TW dbk pb FD D j ar ([r7,r1]++(B++Y)) F1 M1:=aa.y8 λb u=>by rw[zD,zD] at u;simp only[zD];rcases u with u|u|u;exact .inr (.inl u);exact .inl u;exact .inr (.inr u)
 have o:oS FD F1 ar [r7,r1] (B++Y) x N B:=⟨ab.j8 λb u=>.inl (ut (λb u=>by rw[zD,zD] at u;simp only[zD];rcases u with u|u|u;exact .inr (.inl u);exact .inl u;exact .inr (.inr u)) b u),λb u hm=>by have:=aK b u;have:=af b hm;omega⟩;have aM:∀b∈B,b∉Y:=λb u hm=>by have:=hT.qZ b hm;have:=af b u;omega
 have J:∀ {T:IS},∀b∈T++Y,b∈T++(B++Y):=λb u=>by rw[zD] at u;simp only[zD];rcases u with u|u;exact .inl u;exact .inr (.inr u)
 refine oB h λaN a7 _ _ h=>oD h 0 rfl (fg x) λaO h _=>?_;apply eB<;>intro R;have ac:e1≠0:=by rw[zT] at R;exact zR.1 R
 have e:mS k v t I ((N,e1),M1)=(e1,M1):=(by unfold mS;rw[iP ac]);rw[e] at G;exact G F1 aO ((TW.J2 (T:=[r7,r1]) av h).y8 λb u=>by simp[u]) (g.fr h) g.new;have aP:e1=0:=(by rw[yE] at R;exact yP.1 R);subst aP;rw[qxp] at G;have ad:x.1=N.Q6:=o.node.1;have aw:po x N:=(o.node.rd (S:=[]) (λ_ _ h=>(nomatch h)) λ_ h=>nomatch h).lens;have aj:ia (wrap .u32 (I.2.1-1)):=xb _;refine IQ h 1 rfl I.2.1<|oD h 1 rfl (tq (I.1,wrap .u32 (I.2.1-1),I.2.2)) λax h _=>?_;generalize wrap .u32 (I.2.1-1)=ae at G aj h;have E:=TW.J2 (T:=[r7,r1]) av h;have o:=o.J2 h;have g:Sg F w0 ax F1 (fH _):=g.cR h (.refl [] _);have h:=mp h (.refl _);refine iC (λe w'=>∃(a b c:Int) (F2 T:IS) (M2:eH) (wa:IK),Sg F w0 wa F2 T/\TW dbk pb FD D j wa (T++Y) F2 M2/\ef T wa w' [(aN,.c (fg x) ND),(r7,.c (tq (a,b,c)) RT),(r1,.c (oj (kb k v pb t)) WK)]/\ia a/\ia b/\ia c/\
  ∀F' w',TW dbk pb FD D j w' Y F' (if e≠0 then (e,M2) else fy M2 t a b c).2->Fr F w0 w'->(∀b∈F',b∈F\/w0.heap.size<=b)->K (if e≠0 then (e,M2) else fy M2 t a b c).1 w') ?_ ?_
 refine iC (λd w'=>d=decide (N.Q6=true/\N.J8.length=0)/\w'=ax) ?_ ?_;refine IQ h 0 rfl x.1 ?_;apply eB<;>intro R;rw[ad] at R;refine IQ h 0 rfl x.2.1 ⟨?_,rfl⟩;rw[aw.J8,It,yP,yN];exact⟨λh=>⟨R,oJ⟩,λh=>by rw[h.2];rfl⟩;rw[ad] at R;exact⟨(zU λh=>by rw[R] at h;exact absurd h.1 oM).symm,rfl⟩;rintro d aQ ⟨rfl,rfl⟩;apply eB<;>intro hd;have hd:=zC hd;rw[iP hd] at G;refine IQ h 2 rfl (pW pb)<|IQ h 1 rfl I.1<|TW.drop (E.y8 J) λF2 aR ay az aT=>?_;have g:=g.next h az aT
 have h:=TW.own (E.y8 J) h az;exact oD h 1 rfl (tq (0,0,0)) λa8 h _=>⟨0,0,0,F2,_,_,aR,g,ay,h,uW,uW,uW,G⟩;have hd:=zB hd;rw[iN hd] at G;refine iC (λd w'=>d=decide (N.Q6=false/\N.Q1.length=1)/\w'=aQ) ?_ ?_;refine IQ h 0 rfl x.1 ?_;apply eB<;>intro R;rw[ad,zT] at R;refine IQ h 0 rfl x.2.2.2 ⟨?_,rfl⟩;rw[aw.Q1,It,yP,yN];exact⟨λh=>⟨R,oJ⟩,λh=>by rw[h.2];rfl⟩;rw[ad,yE] at R;exact⟨(zU λh=>by rw[R] at h;exact absurd h.1 oM).symm,rfl⟩;rintro d a9 ⟨rfl,rfl⟩;apply eB<;>intro U;have U:=zC U;rw[iP U] at G;have al:0<N.Q1.length:=oJ;rw[uV al] at G;have aU:ia N.Q1[0]:=o.node.2.1.2.2 _ (zW al);refine IQ h 2 rfl (pW pb)<|IQ h 1 rfl I.1<|TW.drop E λF2 aV aA am aB=>?_;have g:=g.next h am aB
 have o:=o.next am (λb u=>E.yf b (by simp[u])) aB;have h:=TW.own E h am;have h:=oF h;refine IQ h 0 rfl x.2.2.2 ?_;have oR:eT [] _ x N:=(o.J2 h).node.rd (S:=[]) (λ_ _ h=>(nomatch h)) λ_ h=>nomatch h;exact eI.get oR.2.2.2.2 0 rfl (x:=N.Q1[0]) (zA al) (y:=N.Q1[0]) rfl<|IQ h 1 rfl I.2.2<|oD h 1 rfl (tq (N.Q1[0],ae,I.2.2)) λba h _=>oD h 1 rfl (tq (N.Q1[0],ae,wrap .u32 (I.2.2-1))) λbb h _=>⟨_,_,_,F2,_,_,aV,g,aA.y8 J,h,aU,aj,xb _,G⟩;have U:=zB U;rw[iN U] at G;have sx:=ai rfl;have z1:=sx.J8;have z2:=sx.Q2;have z3:=sx.Q1;refine IR h 2 rfl (kb k v pb t)<|IQ h 1 rfl I.1<|IR h 0 rfl x<|vS (E.y8 J) (o.rd E aM) oJ oJ oJ λF2 aX ah aC aY=>?_;have aD:ia (ee k v M1 I.1 N).1.1:=vO E.wf u1;have g:=g.next h aC aY
 have h:=TW.own (E.y8 J) h aC;unfold k9 at G;generalize ee k v M1 I.1 N=st at G ah aD⊢;obtain⟨⟨q,e2⟩,M2⟩:=st;exact oD h 1 rfl (tq (q,ae,I.2.2)) λbc h _=>⟨q,ae,I.2.2,F2,_,M2,aX,g,ah,h,aD,aj,u3,G⟩;rintro e aZ ⟨a,b,c,F2,T,M2,wa,g,aE,h,ua,ub,uc,G⟩;apply eB<;>intro U;have ac:e≠0:=by rw[zT] at U;exact zR.1 U
 rw[iP ac] at G;exact G F2 aZ (aE.J2 h).j9 (g.fr h) g.new;have ac:¬e≠0:=by rw[yE] at U;exact λh=>h (yP.1 U)
 rw[iN ac] at G;exact IQ h 2 rfl (pW pb)<|IQ h 2 rfl t<|IR h 1 rfl (a,b,c)<|TW.qV (aE.J2 h) ua ub uc λa0 aF a1=>G F2 a0 aF.j9 ((g.fr h).J0 a1 g.new) g.new
end
end
end
section
open Go Go.Pt List
open Go.IntKind (wrap)
open Classical
variable {K:I0->WP} {f:Nat} {key:Key} {ks:Sl}
def qwS{S:Type}{B:(S->WP)->S->WP}(I:Nat->S->WP)(G:∀f s w (X:S->WP),I f s w->(∀u E w',u<f->I u E w'->X E w')->B X s w):∀(f:Nat) {s:S} {w:IK},I f s w->loop S B s w:=λf=>by
 induction f using Nat.strongRecOn with
 | ind f ih=>exact λ{s w} h=>Bm λX J=>G f s w X h λu E w' R U=>J _ _ (ih u R U)
noncomputable def mv (D:dV) (k v:Nat) (key:Key) (M:eH):Nat->Int->Key×Int
 | 0,p=>if p=0 then ([],5) else ([],-1)
 | f+1,p=>if p=0 then ([],5)
  else if (dW D M k v p).2≠0 then ([],(dW D M k v p).2)
  else if (dW D M k v p).1.Q6 then
   if (dW D M k v p).1.J8[ed (dW D M k v p).1.J8 key]?=some key then ((dW D M k v p).1.Q2.getD (ed (dW D M k v p).1.J8 key) [],0) else ([],5)
  else mv D k v key M f ((dW D M k v p).1.Q1.getD (eP (dW D M k v p).1.J8 key) 0)
section
variable {dbk pb j:Nat} {FD Y F F' T:IS} {D:dV} {w0 w w':IK} {M M':eH} {k v:Nat} {t:Int}
def qy4(ag:eX key)(hs:si t=((k:Int),(v:Int)))(ax:k≠0)(a0:key.length=k)(hT:TW dbk pb FD D j w0 Y F M)(hk:eN (Zo FD Y F) w0 ks key)(U:(mv D k v key M f (eF M t).1).2≠-1)(kk:∀s B w',gb w' s (mv D k v key M f (eF M t).1).1 B->(∀b∈B,w0.heap.size<=b)->Fr [] w0 w'->K (s,(mv D k v key M f (eF M t).1).2) w'): cW 47 [dS pb,.i t,ks.v] dq w0 K:=by
 refine qts ?_;have aR:=hk.1;refine C0 (k:=k) (v:=v) hs (λh=>absurd h ax) (λ_ h=>absurd oJ h) λ_ _ w2 f2=>?_;have h:=(oE [] w0).q8 f2;refine oB h λr3 w4 _ _ h=>oD h 0 rfl (oj (kb k v pb t)) λw5 h _=>Io rfl<|TW.J7 (hT.q8 h.fr) λw7 f7=>?_;have h:=h.q8 f7;have hu:=(CW hT.wf t).1;generalize eF M t=rt at kk U hu⊢;generalize ai:mv D k v key M f rt.1=aj at kk U;refine iC (λ_ w'=>aj=([],5)/\Fr [] w0 w') ?_ ?_
 ·refine qwS (λf s w'=>mv D k v key M f s=aj/\ia s/\ef [] w0 w' [(r3,.c (oj (kb k v pb t)) WK)]) ?_ f ⟨ai,hu,h⟩;rintro f s a5 X ⟨u,aA,h⟩ hX;apply eB<;>intro hc
  ·have V:s≠0:=(by rw[zT] at hc;exact zR.1 hc);cases f with
   | zero=>
    unfold mv at u;rw[iN V] at u;rw[<- u] at U;exact absurd rfl U
   | succ f=>
   unfold mv at u;rw[iN V] at u;refine IR h 0 rfl (kb k v pb t) ?_;rcases ac:dW D M k v s with ⟨n,e0⟩;rw[ac] at u;dsimp only at u;refine Cf (k:=k) (v:=v) (hT.q8 h.fr) aA λx B aB aU E aC aV=>?_;rw[ac] at E⊢;dsimp only at E⊢;have R:eT [] aB x n:=E.rd (λ_ _ h=>(nomatch h)) λ_ h=>nomatch h;have h:=h.q8 aC;have aW:=h.fr;refine oB h λak aD a7 aE h=>?_;have R:eT [ak] aD x n:=(R.j8 (S':=[ak]) λb hb=>by rw[zE.1 hb];exact .inr oJ).q8 aE;refine oD h 0 rfl (fg x) λal h aG=>?_;have R:=R.j1 aG λb hb=>.inl hb;apply eB<;>intro G;have am:e0≠0:=by rw[zT] at G;exact zR.1 G
   rw[iP am] at u;subst u;exact kk dT [] al (.nil _ _ _) (λ_ h=>nomatch h) h.fr;have aH:e0=0:=by rw[yE] at G;exact yP.1 G
   subst aH;rw[iN λh=>h rfl] at u;have hr:=CG ac;obtain⟨l1,l2,l3,l4,l5⟩:=vR hr;have an:x.1=n.Q6:=R.1;refine IQ h 0 rfl x.1 ?_;apply eB<;>intro I;have J:n.Q6=false:=(by rw[an,zT] at I;exact I);rw[iN (by rw[J];decide)] at u;obtain⟨l6,l7,l8⟩:=l5 J;have aX:=AL n.J8 key;have fd:=(Fr.refl [] al).drew;have h:=oF h;refine IQ h 0 rfl x.2.2.2<|IR h 0 rfl x<|CQ (R.q8 fd) (hk.q8 h.fr) ag hr.2.2.1 oJ λaI ao=>?_;have h:=h.q8 ao;refine iS (h.cell 0) ?_;have ad:eP n.J8 key<n.Q1.length:=oJ;refine eI.get ((R.q8 fd).q8 ao).2.2.2.2 (eP n.J8 key) rfl (zA ad) (y:=n.Q1[eP n.J8 key]) rfl ?_;rw[uV ad] at u;exact hX f _ aI (Nat.lt_succ_self f) ⟨u,R.2.1.2.2 _ (zW ad),h.sub (IC _ _)⟩;have J:n.Q6=true:=(by rw[an,yE] at I;exact I);rw[iP J] at u;obtain⟨l6,l7⟩:=l4 J;refine IR h 0 rfl x<|C7 R (hk.q8 h.fr) ag hr.2.2.1 oJ λbb ap=>?_;have h:=h.q8 ap;apply cD<;>intro ae;have aq:=ae;rw[iP aq] at u;have bc:=(zP.1 aq).1;obtain⟨pv,ar,af⟩:=(R.q8 ap).2.2.2.1;have aa:ed n.J8 key<pv.length:=by
    have:=IH List.length af;rw[zK] at this;omega
   refine IQ h 0 rfl x.2.2.1<|jK.get ar (ed n.J8 key) rfl aa ?_;have au:n.Q2.getD (ed n.J8 key) []=pv[ed n.J8 key].2:=(by rw[<- af,yc aa]);rw[au] at u;have aJ:pv[ed n.J8 key].2.length<=1000000:=by have h1:=hr.2.1 pv[ed n.J8 key].2 (by rw[<- af];exact zY (zW aa));have h2:=qnh (k:=k) (v:=v) oJ;omega
   refine wH (ar.2 _ (zW aa)) aJ λs' B' aK aL aM aN _ _=>?_;subst u;have aO:=h.fr.size;exact kk s' B' aK aL (λc hc=>zL aO (aN c hc)) (h.fr.trans aM);have av:=ae;rw[iN av] at u;exact⟨u.symm,h.fr⟩
  have V:s=0:=(by rw[yE] at hc;exact yP.1 hc);refine⟨?_,h.fr⟩;rw[<- u];cases f<;>(unfold mv;rw[iP V])
 rintro _ aP ⟨rfl,aQ⟩;exact kk dT [] aP (.nil _ _ _) (λ_ h=>nomatch h) aQ
def qtu(h:eX key)(J:si t=((k:Int),(v:Int)))(u:k≠0)(E:key.length=k)(R:TW dbk pb FD D j w0 Y F M)(U:eN (Zo FD Y F) w0 ks key)(I:(mv D k v key M f (eF M t).1).2≠-1)(V:∀s w',(∀G:IS,(∀b∈G,b<w0.heap.size)->eN G w' s (mv D k v key M f (eF M t).1).1)->Fr [] w0 w'->K (s,(mv D k v key M f (eF M t).1).2) w'): cW 47 [dS pb,.i t,ks.v] dq w0 K:=
 qy4 h J u E R U I λs B w' b n f=>V s w' (λG hG=>b.jQ lY λc hc hm=>by have:=n c hc;have:=hG c hm;omega) f
def quf{r h:Int}(u:0<=r)(E:0<=h/\h<=1000000)(G:2*h.toNat+1<=r.toNat):decide (r>wrap .i64 (2*wrap .i64 h))=true:=by rw[gG h oJ,gG (2*h) oJ];exact zZ oJ
def qzb{vs:Sl}{val:Key}{K:Int->WP}(V:eX key)(aa:eX val)(hs:si t=((k:Int),(v:Int)))(ab:k≠0)(am:key.length=k)(ac:val.length=v)(hT:TW dbk pb FD D j w0 Y F M)(hk:eN (Zo FD Y F) w0 ks key)(hv:eN (Zo FD Y F) w0 vs val)(ad:0<=(eF M t).2.2/\(eF M t).2.2<=1000000)(ae:2*(eF M t).2.2.toNat+1<=M.Q3.length)(af:(eF M t).1≠0->(iD D k v key val f M (eF M t).1).1.2≠-1)(kk:∀F' w',TW dbk pb FD D j w' Y F' (jZ D k v t key val f M).2->Fr F w0 w'->(∀b∈F',b∈F\/w0.heap.size<=b)->K (jZ D k v t key val f M).1 w'): cW 50 [dS pb,.i t,ks.v,vs.v] dm w0 K:=by refine qtt ?_;have ap:=hk.1;have ag:=hv.1;have g:=Sg.start F w0;have h:=oE [] w0;refine oB h λr1 w2 _ _ h=>oB h λr3 w4 _ _ h=>IQ h 1 rfl ks<|C0 (k:=k) (v:=v) hs (λh=>absurd h ab) (λ_ h=>absurd oJ h) λ_ _ w7 f7=>?_;have h:=h.q8 f7;refine oB h λr8 w9 _ _ h=>oD h 0 rfl (oj (kb k v pb t)) λah h _=>Io rfl<|IQ h 1 rfl vs<|IQ h 0 rfl (v:Int)<|Io (by rw[ag,ac];simp)<|IR h 0 rfl (kb k v pb t) ?_;have u:=hT.cS h;have G:=uT hk h;have I:=uT hv h;have g:Sg F w0 ah F (fH _):=g.cR h (.refl [] _);have h:=mp h (.refl _);refine qe5<|oB h λq1 aw _ _ h=>?_;have h:=oF h;refine IQ h 0 rfl (pW pb)<|IQ h 0 rfl (pW pb)<|IQ h 0 rfl t<|TW.room (u.J2 h)<|kV (h.cell 0) (h.cell 0)<|TW.J7 (u.J2 h) λax E=>?_;have J:=(u.J2 h).q8 E;have R:=(qB G h).q8 E;have U:=(qB I h).q8 E;have g:=g.cR h E;have h:=ry h E λ_ _ h=>nomatch h;exact Im (quf oJ ad oJ)<|tT (lb:=[dS r8,dS r1,dS r3]) rfl oK<|qph<|IR h 1 rfl (kb k v pb t)<|IQ h 3 rfl ks<|IQ h 2 rfl vs<|qvb V aa J R U af λF' w' ai f' n'=>kk F' w' ai.j9 (g.qK.J0 f' g.new) λb hb=>(n' b hb).elim (g.new b) λh1=>.inr (zL g.qK.size h1)
def qy0{f2:Nat}{K:Int->WP}(R:eX key)(U:iE k v)(hs:si t=((k:Int),(v:Int)))(V:k≠0)(ad:key.length=k)(hT:TW dbk pb FD D j w0 Y F M)(hk:eN (Zo FD Y F) w0 ks key)(af:0<=(eF M t).2.2/\(eF M t).2.2<=1000000)(ag:2*(eF M t).2.2.toNat+1<=M.Q3.length)(I:(mv D k v key M f2 (eF M t).1).2=0)(J:mX D k v key f M (eF M t).1)(kk:∀F' w',TW dbk pb FD D j w' Y F' (lu D k v t key f M).2->Fr F w0 w'->(∀b∈F',b∈F\/w0.heap.size<=b)->K (lu D k v t key f M).1 w'): cW 61 [dS pb,.i t,ks.v] dm w0 K:=by refine qml ?_;have al:=hk.1;have g:=Sg.start F w0;have h:=oE [] w0;refine oB h λr1 w2 _ _ h=>IQ h 0 rfl ks<|C0 (k:=k) (v:=v) hs (λh=>absurd h V) (λ_ h=>absurd oJ h) λ_ _ w7 f7=>?_;have h:=h.q8 f7;refine oB h λr8 w9 _ _ h=>oD h 0 rfl (oj (kb k v pb t)) λap h _=>Io rfl<|IQ h 1 rfl ks<|qtu (f:=f2) R hs V ad (hT.cS h) (uT hk h) (by rw[I];decide) λs aq _ E=>?_;rw[I];have u:=(hT.cS h).q8 E;have aa:=(uT hk h).q8 E;have g:=g.cR h E;have h:=ry h E λ_ _ h=>nomatch h;refine Io rfl<|IR h 0 rfl (kb k v pb t)<|qe5<|oB h λq1 ar _ _ h=>?_;have h:=oF h;refine IQ h 0 rfl (pW pb)<|IQ h 0 rfl (pW pb)<|IQ h 0 rfl t<|TW.room (u.J2 h)<|kV (h.cell 0) (h.cell 0)<|TW.J7 (u.J2 h) λau G=>?_;have ab:=(u.J2 h).q8 G;have ac:=(qB aa h).q8 G;have g:=g.cR h G;have h:=ry h G λ_ _ h=>nomatch h;exact Im (quf oJ af oJ)<|tT (lb:=[dS r8,dS r1]) rfl oK<|qpg<|IR h 1 rfl (kb k v pb t)<|IQ h 2 rfl ks<|qvC R U ab ac J λF' w' ah f' n'=>kk F' w' ah.j9 (g.qK.J0 f' g.new) λb hb=>(n' b hb).elim (g.new b) λh1=>.inr (zL g.qK.size h1)
end
end
section
open Go Go.Pt List
open Go.IntKind (wrap)
open Classical
variable {L:gr} {key:Key}
def lW (key:Key) (L:gr):Option Key:=(L.find? λx=>decide (x.1=key)).map (·.2)
def EH{A B:gr}:lW key (A++B)=match lW key A with|some v=>some v|none=>lW key B:=by unfold lW;rw[List.find?_append];cases A.find? (λx=>decide (x.1=key))<;>rfl
def Ce(h:∀x∈L,x.1≠key):lW key L=none:=by unfold lW;rw[List.find?_eq_none.2 λx u=>by simp[h x u]];rfl
def qwx(h:key∈eh L):∃v,lW key L=some v:=by
 unfold lW;obtain⟨x,u,rfl⟩:=mem_map.1 h;cases e:L.find? (λy=>decide (y.1=x.1)) with
 | none=>exact absurd (List.find?_eq_none.1 e x u) oL
 | some y=>exact⟨y.2,rfl⟩
section
variable {D:dV} {M M':eH} {k v:Nat} {key:Key}
def Has.get:∀ {h:Nat} {s:iK},Has D M k v h s->s.x7≠0->M.Wf->M.Q5=false->mv D k v key M (h+1) s.x7=match lW key s.y9 with|some x=>(x,0)|none=>([],5)
 | 0,s,hs,hp,hW,ho=>by
  obtain⟨h1,h2,h3,h4⟩:=hs;have hl:dW D M k v s.x7=(eM s.y9,0):=h3.load h4;have ad:fD s.y9:=h3.right.2.2.1;have am:(eM s.y9).J8=eh s.y9:=rfl;unfold mv;rw[iN hp,hl];dsimp only;rw[iN λh=>h rfl,iP (show (eM s.y9).Q6=true from rfl),am];by_cases hm:(eh s.y9)[ed (eh s.y9) key]?=some key
  ·rw[iP hm];have hi:ed (eh s.y9) key<s.y9.length:=by
    have:=(zP.1 hm).1;simpa using this
   have an:=AD (k:=key) ad;have ae:s.y9=s.y9.take (ed (eh s.y9) key)++s.y9[ed (eh s.y9) key]::s.y9.drop (ed (eh s.y9) key+1):=by rw[getElem_cons_drop,xF]
   have J:s.y9[ed (eh s.y9) key].1=key:=(by rw[zQ,zA hi] at hm;simpa using hm);have hg:lW key s.y9=some s.y9[ed (eh s.y9) key].2:=by
    conv=>lhs;rw[ae]
    rw[EH,Ce λx u=>AE (an.1 x u)];unfold lW;rw[List.find?_cons_of_pos (by simp[J])];rfl
   rw[hg];show ((List.map (·.2) s.y9).getD _ [],(0:Int))=_;rw[yR,zQ,zA hi];rfl
  rw[iN hm];have hn:key∉eh s.y9:=λh=>hm ((zq ad).2 h);rw[Ce λx u e=>hn (by rw[<- e];exact zY u)]
 | h+1,⟨p,n,L,P⟩,⟨es,h0,h1,h2,h3,h4,h5,h6,h7⟩,hp,hW,ho=>by
  dsimp only at h1 h2 h3 h5 hp;subst h1 h2 h3;have hl:dW D M k v p=(dZ es,0):=h4.load h5;obtain⟨A,e,B,R,hA,J,ao,U⟩:=vM (key:=key) h0 h6;have V:(dZ es).Q1.getD (eP (dZ es).J8 key) 0=e.2.x7:=U;have ap:e∈es:=(by rw[R];simp);obtain⟨aa,_⟩:=h7 e ap;have aD:=uO hW (aa.J6 ho e.2.x7 aa.mem);unfold mv;rw[iN hp,hl];dsimp only;rw[iN λh=>h rfl,iN (show ¬(dZ es).Q6=true from λe=>nomatch e),V,aa.get oJ hW ho];have I:=h6;rw[R] at I;have E:=I.mid;have G:es.flatMap (·.2.y9)=A.flatMap (·.2.y9)++(e.2.y9++B.flatMap (·.2.y9)):=(by rw[R,ru]);have aq:∀x∈A.flatMap (·.2.y9),x.1≠key:=λx u=>by obtain⟨a,ha,u⟩:=yK.1 u;exact AE (sq (E.1 a ha x u) J)
  have ar:∀x∈B.flatMap (·.2.y9),x.1≠key:=λx u=>by obtain⟨b,hb,u⟩:=yK.1 u;exact (AE (sq (ao b hb) ((E.2 b hb).2.2 x u))).symm
  rw[G,EH,Ce aq,EH,Ce ar];cases lW key e.2.y9<;>rfl
def Has.Q8(hc:iE k v):∀(h:Nat) (M:eH) (s:iK),Has D M k v h s->M.Wf->M.Q5=false->s.cC.Nodup->key∈eh s.y9->2*h<=M.Q3.length->mX D k v key (h+1) M s.x7
 | 0,M,s,hs,hW,ho,af,R,hf=>λn hn hl=>by have ag:dW D M k v s.x7=(eM s.y9,0):=hs.2.2.1.load hs.2.2.2;rw[ag] at hn;cases hn;cases hl
 | h+1,M,⟨p,n,L,P⟩,⟨I,h0,h1,h2,h3,h4,h5,h6,h7⟩,hW,ho,af,R,hf=>λn' hn hl=>by
  dsimp only at h1 h2 h3 h5 af R hn;subst h1 h2 h3;have ay:dW D M k v p=(dZ I,0):=h4.load h5;rw[ay] at hn;cases hn;obtain⟨A,e,B,G,hA,az,aA,ah⟩:=vM (key:=key) h0 h6;have ai:(dZ I).Q1.getD (eP (dZ I).J8 key) 0=e.2.x7:=ah;have aB:eP (dZ I).J8 key=A.length:=hA.symm;have aC:e∈I:=(by rw[G];simp);obtain⟨ao,aD⟩:=h7 e aC;have aj:I.flatMap (·.2.cC)=A.flatMap (·.2.cC)++(e.2.cC++B.flatMap (·.2.cC)):=(by rw[G,ru]);have aa:I.flatMap (·.2.y9)=A.flatMap (·.2.y9)++(e.2.y9++B.flatMap (·.2.y9)):=(by rw[G,ru]);have ab:(A.flatMap (·.2.cC)++(e.2.cC++B.flatMap (·.2.cC))).Nodup:=(by rw[<- aj];exact (nodup_cons.1 af).2);have ac:e.2.cC.Nodup:=(yM.1 (yM.1 ab).2.1).1;have ad:=h6;rw[G] at ad;have U:=ad.mid;have V:key∈eh e.2.y9:=by obtain⟨x,E,rfl⟩:=mem_map.1 R;rw[aa] at E;rcases zD.1 E with E|E;obtain⟨a,ha,E⟩:=yK.1 E;exact absurd (sq (U.1 a ha x E) az) rQ;rcases zD.1 E with E|E;exact zY E;obtain⟨b,J,E⟩:=yK.1 E;exact absurd (sq (aA b J) ((U.2 b J).2.2 x E)) rQ
  obtain⟨N1,n1,M1,Re,a2,ec,aE,ap,st,a4,a5⟩:=Fy hc h M e.2 ao hW ho ac V oJ;rw[ai];refine⟨ao.Q8 hc h M e.2 hW ho ac V oJ,λN M2 ae aV ny ak=>?_⟩;rw[ec] at ae;cases ae;have aF:N1.Q6=decide (h=0):=by
   cases h with
   | zero=>rw[ap.1];rfl
   | succ h=>obtain⟨a6,_,h',_⟩:=ap;rw[h'];rfl
  have u:∀b,(b∈A\/b∈B)->(dZ I).Q1.getD (jo (eP (dZ I).J8 key)) 0=b.2.x7->ny.Q6=N1.Q6:=λb J aG=>by
   rw[aG] at ak;have aH:b∈I:=by rw[G];rcases J with J|J<;>simp[J]
   obtain⟨aq,_⟩:=h7 b aH;have ar:Has D M1 k v h b.2:=aq.j1 λx E=>(st.rest x (aq.J6 ho x E) λhm=>by have au:x∈e.2.cC:=(by rw[aE];exact zN _ hm);have hd:=yM.1 ab;have aI:=yM.1 hd.2.1;rcases J with J|J;exact hd.2.2 x (yK.2 ⟨b,J,E⟩) x (zH _ au) rfl;exact aI.2.2 x au x (yK.2 ⟨b,J,E⟩) rfl).1;obtain⟨N2,R2,ag,_,_,av,_⟩:=ar.load;rw[ag] at ak;cases ak;rw[av,aF]
  have h2:=h4.right.y6.1;rw[aB] at u;have aJ:(dZ I).Q1=I.map (·.2.x7):=rfl;rw[aJ] at u;by_cases hA0:A.length>0;have hs:jo A.length=A.length-1:=(by unfold jo;rw[iP hA0]);obtain⟨A',b,rfl⟩:∃A' b,A=A'++[b]:=⟨A.dropLast,A.getLast (length_pos_iff.1 hA0),(vB _).symm⟩;refine u b (.inl oL) ?_;rw[hs,G];simp[yR];have hs:jo A.length=A.length+1:=(by unfold jo;rw[iN hA0]);have aK:A=[]:=Iy oJ;subst aK;cases B with
  | nil=>rw[G] at h2;simp at h2
  | cons b B=>
   refine u b (.inr oL) ?_;rw[hs,G];rfl
def gq.get{t:Int}{L:gr}{P:IT}(E:gq D M k v t L P)(G:M.Wf)(I:M.Q5=false):mv D k v key M (eF M t).2.2.toNat (eF M t).1=match lW key L with|some x=>(x,0)|none=>([],5):=by rcases E with ⟨e0,rfl,rfl⟩|⟨h,n,p,u,J,R⟩;rw[e0];rfl;rw[J];dsimp only;rw[zJ];exact R.get u G I
def gq.Q8(G:iE k v){t:Int}{L:gr}{P:IT}(I:gq D M k v t L P)(u:key∈eh L)(J:M.Wf)(R:M.Q5=false)(U:P.Nodup)(E:2*(eF M t).2.2.toNat+1<=M.Q3.length):mX D k v key (eF M t).2.2.toNat M (eF M t).1:=by rcases I with ⟨e0,rfl,rfl⟩|⟨h,n,p,V,er,hs⟩;cases u;rw[er] at E⊢;dsimp only at E⊢;rw[zJ] at E⊢;exact hs.Q8 G h M _ J R U u oJ
def qtb{t:Int}{f:Nat}{val:Key}{M':eH}(h:jZ D k v t key val f M=(0,M')):(eF M t).1≠0->(iD D k v key val f M (eF M t).1).1.2≠-1:=λE u=>by unfold jZ at h;rw[iN E] at h;unfold sX at h;rw[iP (by rw[u];decide),u] at h;cases h
end
section
structure Gd (N:eH) (b:Nat) (M:eH):Prop where
 Q5:M.Q5=false
 J1:M.J1=N.J1
 Q7:M.Q7=N.Q7
 x5:M.x5=N.x5
 x8:M.x8=N.x8
 eY:N.J1.2.getD 0 0=(b:Int)/\2<=b
 Q3:∀ x∈M.Q3,x<(b:Int)
 Q0:∀ x∈M.Q0.map (·.1),x<(b:Int)
section
variable {α β:Type} {N:eH} {b c:Nat}
end
section
variable {N:eH} {b c k v:Nat} {D:dV} {M M':eH}
def gq.cT{D':dV}{t:Int}{L:gr}{P:IT}(h:gq D M k v t L P)(E:∀x∈P,dU D' M' x=dU D M x)(e:eF M' t=eF M t):gq D' M' k v t L P:=by rcases h with ⟨G,I,J⟩|⟨h,n,p,R,u,U⟩;exact .inl ⟨e.trans G,I,J⟩;exact .inr ⟨h,n,p,R,e.trans u,U.cT E⟩
def gq.low{t:Int}{P:IT}(h:gq D M k v t L P):(eF M t).2.2.toNat<=L.length/\0<=(eF M t).2.2:=by
 rcases h with ⟨u,I,J⟩|⟨h,n,p,R,E,G⟩;rw[u];exact⟨yX _,Int.le_refl _⟩;have:=G.counts.1;rw[E];exact⟨by dsimp only at this⊢;omega,by dsimp only;omega⟩
end
end
section
def kv (t:Int):I1:=((si t).1.toNat,(si t).2.toNat)
def AX{t:Nat}(u:t<8):si t=(((kv t).1:Int),((kv t).2:Int))/\iE (kv t).1 (kv t).2/\1<=(kv t).1/\(kv t).1<=24/\1<=(kv t).2/\(kv t).2<=108:=by obtain⟨k,v,e,h⟩:=qz2 (t:=t) ⟨oJ,oJ⟩;have:kv t=(k,v):=(by unfold kv;rw[e];rfl);rw[this];exact⟨e,h⟩
abbrev kM:=Nat->gr×IT
def pJ (F:kM) (t:Nat) (x:gr×IT):kM:=λu=>if u=t then x else F u
def CK(F:kM)(t:Nat)(x:gr×IT):pJ F t x t=x:=iP rfl
def Az{F:kM}{t u:Nat}{x:gr×IT}(h:u≠t):pJ F t x u=F u:=iN h
structure AB (D:dV) (M:eH) (F:kM):Prop where
 J4:∀ t:Nat,t<8->gq D M (kv t).1 (kv t).2 t (F t).1 (F t).2
 nodup:∀ t:Nat,t<8->(F t).2.Nodup
 J5:∀ t u:Nat,t<8->u<8->t≠u->∀ x∈(F t).2,x∉(F u).2
 use:∀ x,eA M x->∃ t:Nat,t<8/\x∈(F t).2
section
variable {D D':dV} {M M':eH} {F W:kM} {b q t:Nat}
def gq.J6{k v:Nat}{t:Int}{L:gr}{P:IT}(u:M.Q5=false)(h:gq D M k v t L P):∀x∈P,eA M x:=by rcases h with ⟨_,_,rfl⟩|⟨h,n,p,_,_,E⟩;exact λx G=>nomatch G;exact E.J6 u
def AB.next{L':gr}{P':IT}(h:AB D M F)(ho:M.Q5=false)(V:t<8)(hT:gq D M' (kv t).1 (kv t).2 t L' P')(J:oh D M M' t (F t).2 P'):AB D M' (pJ F t (L',P')):=by have R:∀u:Nat,u<8->u≠t->∀x∈(F u).2,eA M x/\x∉(F t).2:=λu I G x E=>⟨(h.J4 u I).J6 ho x E,h.J5 u t I V G x E⟩;have hp:∀u:Nat,u<8->u≠t->∀x∈(F u).2,x∉P':=λu I G x E=>(J.step.rest x (R u I G x E).1 (R u I G x E).2).2.2;refine⟨λu I=>?_,λu I=>?_,λu z I hz G x E=>?_,λx E=>?_⟩;by_cases e:u=t;subst e;rw[CK];exact hT;rw[Az e];exact (h.J4 u I).cT (λx E=>(J.step.rest x (R u I e x E).1 (R u I e x E).2).1) (J.others u oJ);by_cases e:u=t;subst e;rw[CK];exact J.step.nodup;rw[Az e];exact h.nodup u I;by_cases e:u=t;subst e;rw[CK] at E;rw[Az G.symm];exact λhm=>hp z hz G.symm x hm E;rw[Az e] at E;by_cases e2:z=t;subst e2;rw[CK];exact hp u I e x E;rw[Az e2];exact h.J5 u z I hz G x E;rcases J.step.use x E with U|⟨U,h2⟩;exact⟨t,V,by rw[CK];exact U⟩;obtain⟨u,I,E⟩:=h.use x U;exact⟨u,I,by rw[Az λe=>h2 (by rw[<- e];exact E)];exact E⟩
def Calm.next{t:Int}{P P':IT}(h:Calm D M b q)(u:oh D M M' t P P'):Calm D M' b q:=
 ⟨h.quiet,h.Q9,h.size,by have:=u.step.J1;rw[<- h.blocks,<- this],h.b8,u.wf,u.step.y7 h.x5,u.step.Q5,u.len,by rw[show M'.J1=M.J1 from u.step.J1];exact h.seq,by rw[show M'.x8=M.x8 from u.step.x8];exact h.x8⟩
def CO (t:Int) (M:eH):eH:=iR M.J1 M.Q7 M.x5 t false M.x5
structure Wo (D:dV) (M:eH) (b q:Nat) (F W:kM):Prop where
 J3:Calm D M b q
 J2:AB D M F
 was:AB D (CO 0 M) W
 opens:pT D M.J1 M.Q7 M.x5
 x4:M.J1.2.length=27
 b4:8<=b/\b<=300
end
end
section
section
variable {D:dV} {M:eH} {k v:Nat} {frm:Key}
abbrev kW:=dY×Int
noncomputable def i4 (D:dV) (k v:Nat) (M:eH) (pick:dY->Int):Nat->Int->Option (List kW)
 | 0,p=>none
 | f+1,p=>if (dW D M k v p).2≠0 then none
  else if (dW D M k v p).1.Q6 then some [((dW D M k v p).1,pick (dW D M k v p).1)]
  else (i4 D k v M pick f ((dW D M k v p).1.Q1.getD (pick (dW D M k v p).1).toNat 0)).map (((dW D M k v p).1,pick (dW D M k v p).1)::·)
def mE (D:dV) (M:eH) (k v:Nat) (frm:Key):Nat->List kW->gr->Prop
 | 0,G,T=>∃(u:gr) (i:Nat),G=[(eM u,(i:Int))]/\i<=u.length/\fD u/\T=u.drop i
 | h+1,G,T=>∃(E:List ij) (i:Nat) (I:List kW) (T1:gr),G=(dZ E,(i:Int))::I/\i<E.length/\(∀e∈E.drop (i+1),Has D M k v h e.2/\∀x∈e.2.y9,¬fT x.1 frm)/\mE D M k v frm h I T1/\T=T1++(E.drop (i+1)).flatMap (·.2.y9)
def kD (n:dY) (frm:Key):Int:=if n.Q6 then ed n.J8 frm else eP n.J8 frm
noncomputable def nA (frm:Key) (L:gr):gr:=L.filter λx=>decide (¬fT x.1 frm)
def E8(h:∀x∈L,¬fT x.1 frm):nA frm L=L:=filter_eq_self.2 λx u=>zZ (h x u)
def qnB(h:∀x∈L,fT x.1 frm):nA frm L=[]:=filter_eq_nil_iff.2 λx u=>by simpa using h x u
def EL{A B:gr}:nA frm (A++B)=nA frm A++nA frm B:=xC ..
def qoV{a b:Key}(h:mr b a):¬fT a b:=h
def G4:∀ {h:Nat} {s:iK},Has D M k v h s->∃fs,i4 D k v M (λn=>kD n frm) (h+1) s.x7=some fs/\mE D M k v frm h fs (nA frm s.y9)
 | 0,s,hs=>by
  obtain⟨h1,h2,h3,h4⟩:=hs;have hl:dW D M k v s.x7=(eM s.y9,0):=h3.load h4;have ae:fD s.y9:=h3.right.2.2.1;have af:=FL (eh s.y9) frm;rw[zK] at af;have ag:=AD (k:=frm) ae;unfold i4;rw[hl,iN λh=>h rfl,iP (show (eM s.y9).Q6=true from rfl)];refine⟨_,rfl,s.y9,ed (eh s.y9) frm,?_,af,ae,?_⟩;show [(eM s.y9,kD (eM s.y9) frm)]=_;rw[kD,iP (show (eM s.y9).Q6=true from rfl)];rfl
  ·conv=>lhs;rw[<- xF (ed (eh s.y9) frm) s.y9]
   rw[EL,qnB ag.1,xJ,E8 λx I=>qoV (ag.2 x I)]
 | h+1,⟨p,n,L,P⟩,⟨u,h0,h1,h2,h3,h4,h5,h6,h7⟩=>by
  dsimp only at h1 h2 h3 h5;subst h1 h2 h3;have hl:dW D M k v p=(dZ u,0):=h4.load h5;obtain⟨A,e,B,G,hA,an,ah,U⟩:=vM (key:=frm) h0 h6;have V:(dZ u).Q1.getD (eP (dZ u).J8 frm) 0=e.2.x7:=U;have aa:eP (dZ u).J8 frm=A.length:=hA.symm;have ao:e∈u:=(by rw[G];simp);obtain⟨ap,_⟩:=h7 e ao;have R:=h6;rw[G] at R;have E:=R.mid;obtain⟨fs,e1,e2⟩:=G4 ap;have ai:kD (dZ u) frm=(A.length:Int):=by rw[kD,iN (show ¬(dZ u).Q6=true from λe=>nomatch e),aa]
  unfold i4;rw[hl,iN λh=>h rfl,iN (show ¬(dZ u).Q6=true from λe=>nomatch e)];show ∃fs,Option.map (((dZ u),kD (dZ u) frm)::·) (i4 D k v M (λn=>kD n frm) (h+1) ((dZ u).Q1.getD (kD (dZ u) frm).toNat 0))=some fs/\_;rw[ai,zJ,<- aa,V,e1,aa];have J:u.drop (A.length+1)=B:=(by rw[G];simp);refine⟨_,rfl,u,A.length,fs,_,rfl,by rw[G];simp,λb hb=>?_,e2,?_⟩;rw[J] at hb;exact⟨(h7 b (by rw[G];simp[hb])).1,λx I g=>(E.2 b hb).2.2 x I (qc g (ah b hb))⟩
  ·rw[J];show nA frm (u.flatMap (·.2.y9))=_;conv=>lhs;rw[G]
   rw[yQ,yH,EL,EL,qnB λx I=>?_,xJ,E8 (L:=B.flatMap _) λx I=>?_];obtain⟨b,hb,I⟩:=yK.1 I;exact λg=>(E.2 b hb).2.2 x I (qc g (ah b hb));obtain⟨a,ha,I⟩:=yK.1 I;exact sq (E.1 a ha x I) an
end
end
section
section
variable {D:dV} {M:eH} {k v:Nat} {frm:Key}
noncomputable def iU (D:dV) (k v:Nat) (M:eH) (pick:dY->Int) (step:Int->Int):Nat->List kW->Option (List kW)
 | 0,_=>none
 | _+1,[]=>none
 | h+1,(n,i)::E=>match iU D k v M pick step h E with
  | some u=>some ((n,i)::u)
  | none=>if 0<=step i/\step i<n.Q1.length then (i4 D k v M pick (h+1) (n.Q1.getD (step i).toNat 0)).map ((n,step i)::·) else none
def kN:Nat->List kW->Prop
 | 0,E=>∃u:gr,E=[(eM u,(u.length:Int))]
 | _+1,[]=>False
 | h+1,_::G=>kN h G
def qt9:∀ {h:Nat} {I:List kW} {T:gr},mE D M k v frm h I T->kN h I->(iU D k v M (λn=>kD n frm) (λi=>i+1) h I=none/\T=[])\/∃J,iU D k v M (λn=>kD n frm) (λi=>i+1) h I=some J/\mE D M k v frm h J T
 | 0,I,T,⟨V,i,e,hi,hs,R⟩,⟨U,e'⟩=>by rw[e] at e';have e1:=(vC (vD e').1);have e2:eh V=eh U:=IH dY.J8 e1.1;have e3:=IH List.length e2;rw[zK,zK] at e3;have e4:=Int.ofNat.inj e1.2;exact .inl ⟨rfl,by rw[R];exact vF oJ⟩
 | h+1,I,T,⟨G,i,up,T1,e,hi,hd,hu,R⟩,u=>by
  subst e;have u:kN h up:=u;rcases qt9 hu u with ⟨h1,rfl⟩|⟨ac,h1,h2⟩;have ad:(dZ G).Q1.length=G.length:=(by show (G.map (·.2.x7)).length=_;rw[zK]);have ej:((i:Int)+1).toNat=i+1:=oJ;unfold iU;rw[h1];dsimp only;rw[ad,ej];by_cases hlt:i+1<G.length;rw[iP ⟨oJ,oJ⟩];have ae:(dZ G).Q1.getD (i+1) 0=G[i+1].2.x7:=by show (G.map (·.2.x7)).getD _ 0=_;rw[yR,zQ,zA hlt];rfl
  have E:G.drop (i+1)=G[i+1]::G.drop (i+2):=zX hlt;obtain⟨q1,q2⟩:=hd G[i+1] (by rw[E];exact Is ..);obtain⟨af,p1,p2⟩:=G4 (frm:=frm) q1;rw[E8 q2] at p2;rw[ae,p1];refine .inr ⟨_,rfl,G,i+1,af,_,rfl,hlt,λe he=>hd e (by rw[E];exact zN _ he),p2,?_⟩;rw[R,xJ,E,yH];rw[iN];exact .inl ⟨rfl,by rw[R,vF oJ];rfl⟩;unfold iU;rw[h1];exact .inr ⟨_,rfl,G,i,ac,T1,rfl,hi,hd,h2,R⟩
end
end
section
section
variable {D:dV} {M:eH} {k v:Nat} {to:Key}
def iT (n:dY) (to:Key):Int:=if n.Q6 then (eP n.J8 to:Int)-1 else eP n.J8 to
def mN (D:dV) (M:eH) (k v:Nat) (to:Key):Nat->List kW->gr->Prop
 | 0,G,T=>∃(u:gr) (i:Nat),G=[(eM u,(i:Int)-1)]/\i<=u.length/\fD u/\T=(u.take i).reverse
 | h+1,G,T=>∃(E:List ij) (i:Nat) (I:List kW) (T1:gr),G=(dZ E,(i:Int))::I/\i<E.length/\(∀e∈E.take i,Has D M k v h e.2/\∀x∈e.2.y9,¬fT to x.1)/\mN D M k v to h I T1/\T=T1++((E.take i).flatMap (·.2.y9)).reverse
noncomputable def uY (to:Key) (L:gr):gr:=L.filter λx=>decide (¬fT to x.1)
def EO(h:∀x∈L,¬fT to x.1):uY to L=L:=filter_eq_self.2 λx u=>zZ (h x u)
def qsG(h:∀x∈L,fT to x.1):uY to L=[]:=filter_eq_nil_iff.2 λx u=>by simpa using h x u
def Gt{A B:gr}:uY to (A++B)=uY to A++uY to B:=xC ..
def qpW{l:gr}{k:Key}(u:fD l):(∀x∈l.take (eP (eh l) k),mr x.1 k)/\∀x∈l.drop (eP (eh l) k),fT k x.1:=by refine⟨λx h=>qnK (l:=eh l) ?_,λx h=>ql0 (l:=eh l) u ?_⟩;rw[<- xQ];exact zY h;rw[<- xR];exact zY h
def Ia:∀ {h:Nat} {s:iK},Has D M k v h s->∃fs,i4 D k v M (λn=>iT n to) (h+1) s.x7=some fs/\mN D M k v to h fs (uY to s.y9).reverse
 | 0,s,hs=>by
  obtain⟨h1,h2,h3,h4⟩:=hs;have hl:dW D M k v s.x7=(eM s.y9,0):=h3.load h4;have af:fD s.y9:=h3.right.2.2.1;have ag:=AL (eh s.y9) to;rw[zK] at ag;have ah:=qpW (k:=to) af;unfold i4;rw[hl,iN λh=>h rfl,iP (show (eM s.y9).Q6=true from rfl)];refine⟨_,rfl,s.y9,eP (eh s.y9) to,?_,ag,af,?_⟩;show [(eM s.y9,iT (eM s.y9) to)]=_;rw[iT,iP (show (eM s.y9).Q6=true from rfl)];rfl
  ·congr 1;conv=>lhs;rw[<- xF (eP (eh s.y9) to) s.y9]
   rw[Gt,qsG ah.2,xI,EO λx G=>ah.1 x G]
 | h+1,⟨p,n,L,P⟩,⟨u,h0,h1,h2,h3,h4,h5,h6,h7⟩=>by
  dsimp only at h1 h2 h3 h5;subst h1 h2 h3;have hl:dW D M k v p=(dZ u,0):=h4.load h5;obtain⟨A,e,B,E,hA,an,ao,V⟩:=vM (key:=to) h0 h6;have aa:(dZ u).Q1.getD (eP (dZ u).J8 to) 0=e.2.x7:=V;have ab:eP (dZ u).J8 to=A.length:=hA.symm;have ap:e∈u:=(by rw[E];simp);obtain⟨aq,_⟩:=h7 e ap;have R:=h6;rw[E] at R;have I:=R.mid;obtain⟨fs,e1,e2⟩:=Ia aq;have ai:iT (dZ u) to=(A.length:Int):=by rw[iT,iN (show ¬(dZ u).Q6=true from λe=>nomatch e),ab]
  unfold i4;rw[hl,iN λh=>h rfl,iN (show ¬(dZ u).Q6=true from λe=>nomatch e)];show ∃fs,Option.map (((dZ u),iT (dZ u) to)::·) (i4 D k v M (λn=>iT n to) (h+1) ((dZ u).Q1.getD (iT (dZ u) to).toNat 0))=some fs/\_;rw[ai,zJ,<- ab,aa,e1,ab];have J:u.take A.length=A:=(by rw[E];simp);have U:∀a∈A,∀x∈a.2.y9,¬fT to x.1:=λa ha x G g=>an (qc g (I.1 a ha x G));refine⟨_,rfl,u,A.length,fs,_,rfl,by rw[E];simp,λb hb=>?_,e2,?_⟩;rw[J] at hb;exact⟨(h7 b (by rw[E];simp[hb])).1,U b hb⟩
  ·rw[J];show (uY to (u.flatMap (·.2.y9))).reverse=_;conv=>lhs;rw[E]
   rw[yQ,yH,Gt,Gt,qsG (L:=B.flatMap _) λx G=>?_,xI,EO (L:=A.flatMap _) λx G=>?_,reverse_append];obtain⟨a,ha,G⟩:=yK.1 G;exact U a ha x G;obtain⟨b,hb,G⟩:=yK.1 G;exact sq (ao b hb) ((I.2 b hb).2.2 x G)
end
end
section
section
variable {D:dV} {M:eH} {k v:Nat} {to:Key}
def kP:Nat->List kW->Prop
 | 0,E=>∃u:gr,E=[(eM u,-1)]
 | _+1,[]=>False
 | h+1,_::G=>kP h G
def qp4:∀ {h:Nat} {J:List kW} {T:gr},mN D M k v to h J T->kP h J->(iU D k v M (λn=>iT n to) (λi=>i-1) h J=none/\T=[])\/∃R,iU D k v M (λn=>iT n to) (λi=>i-1) h J=some R/\mN D M k v to h R T
 | 0,J,T,⟨ak,i,e,hi,hs,U⟩,⟨ah,e'⟩=>by rw[e] at e';have e1:=(vC (vD e').1);have e4:(i:Int)-1=-1:=e1.2;have e5:i=0:=oJ;subst e5;exact .inl ⟨rfl,by rw[U];rfl⟩
 | h+1,J,T,⟨G,i,up,T1,e,hi,V,hu,U⟩,u=>by
  subst e;have u:kP h up:=u;rcases qp4 hu u with ⟨h1,rfl⟩|⟨ab,h1,h2⟩;have ac:(dZ G).Q1.length=G.length:=(by show (G.map (·.2.x7)).length=_;rw[zK]);unfold iU;rw[h1];dsimp only;rw[ac];cases i with
  | zero=>
   rw[iN];exact .inl ⟨rfl,by rw[U];rfl⟩
  | succ i=>
   have ej:(((i+1:Nat):Int)-1).toNat=i:=oJ;have ad:((i+1:Nat):Int)-1=(i:Int):=oJ;have I:i<G.length:=oJ;rw[ej,iP ⟨oJ,oJ⟩,ad];have ae:(dZ G).Q1.getD i 0=G[i].2.x7:=(by show (G.map (·.2.x7)).getD _ 0=_;rw[yR,zQ,zA I];rfl);have E:G.take (i+1)=G.take i++[G[i]]:=yG I;obtain⟨q1,q2⟩:=V G[i] (by rw[E];exact zI _ (Is ..));obtain⟨af,p1,p2⟩:=Ia (to:=to) q1;rw[EO q2] at p2;rw[ae,p1];refine .inr ⟨_,rfl,G,i,af,_,rfl,I,λe he=>V e (by rw[E];exact zH _ he),p2,?_⟩;rw[U,xJ,E,yQ,reverse_append,yH,flatMap_nil,xI]
  unfold iU;rw[h1];exact .inr ⟨_,rfl,G,i,ab,T1,rfl,hi,V,h2,U⟩
end
end
section
section
variable {D:dV} {M:eH} {k v:Nat} {frm to:Key}
def quh:∀ {h:Nat} {E:List kW} {T:gr},mE D M k v frm h E T->kN h E\/∃(u:gr) (i:Nat) (lo:List kW) (hi:i<u.length) (T':gr),E=lo++[(eM u,(i:Int))]/\T=u[i]::T'/\mE D M k v frm h (lo++[(eM u,(i:Int)+1)]) T'
 | 0,E,T,⟨u,i,e,hi,J,G⟩=>by by_cases hlt:i<u.length;exact .inr ⟨u,i,[],hlt,u.drop (i+1),e,by rw[G,zX hlt],u,i+1,rfl,hlt,J,rfl⟩;have:i=u.length:=oJ;subst this;exact .inl ⟨u,e⟩
 | h+1,E,T,⟨I,i,up,T1,e,hi,R,U,G⟩=>by subst e;rcases quh U with V|⟨u,j,lo,hj,T',e1,e2,e3⟩;exact .inl V;refine .inr ⟨u,j,(dZ I,(i:Int))::lo,hj,T'++(I.drop (i+1)).flatMap (·.2.y9),by rw[e1];rfl,by rw[G,e2];rfl,I,i,_,T',rfl,hi,R,e3,rfl⟩
def qqw:∀ {h:Nat} {E:List kW} {T:gr},mN D M k v to h E T->kP h E\/∃(u:gr) (i:Nat) (lo:List kW) (hi:i<u.length) (T':gr),E=lo++[(eM u,(i:Int))]/\T=u[i]::T'/\mN D M k v to h (lo++[(eM u,(i:Int)-1)]) T'
 | 0,E,T,⟨u,i,e,hi,R,I⟩=>by
  cases i with
  | zero=>exact .inl ⟨u,e⟩
  | succ i=>
   have G:i<u.length:=oJ;have e0:((i+1:Nat):Int)-1=(i:Int):=oJ;rw[e0] at e;exact .inr ⟨u,i,[],G,(u.take i).reverse,e,by rw[I,yG G,reverse_append];rfl,u,i,rfl,oJ,R,rfl⟩
 | h+1,E,T,⟨J,i,up,T1,e,hi,U,V,I⟩=>by subst e;rcases qqw V with h1|⟨u,j,lo,hj,T',e1,e2,e3⟩;exact .inl h1;refine .inr ⟨u,j,(dZ J,(i:Int))::lo,hj,T'++((J.take i).flatMap (·.2.y9)).reverse,by rw[e1];rfl,by rw[I,e2];rfl,J,i,_,T',rfl,hi,U,e3,rfl⟩
end
end
section
section
variable {D:dV} {M:eH} {k v:Nat} {frm to:Key}
def qrK:∀ {h:Nat} {s:iK} {U:List kW},Has D M k v h s->(∀x∈s.y9,¬fT x.1 frm)->i4 D k v M (λn=>kD n frm) (h+1) s.x7=some U->¬kN h U
 | 0,s,U,hs,u,E=>by have ae:=hs.ne;obtain⟨h1,h2,V,h4⟩:=hs;have hl:dW D M k v s.x7=(eM s.y9,0):=V.load h4;have aj:=AD (k:=frm) V.right.2.2.1;unfold i4 at E;rw[hl,iN λh=>h rfl,iP (show (eM s.y9).Q6=true from rfl)] at E;have E:=yO E;rintro⟨I,e⟩;rw[<- E] at e;have e1:=(vC (vD e).1);have e2:eh s.y9=eh I:=IH dY.J8 e1.1;have e3:=IH List.length e2;rw[zK,zK] at e3;have e4:kD (eM s.y9) frm=(I.length:Int):=e1.2;rw[kD,iP (show (eM s.y9).Q6=true from rfl)] at e4;have e5:ed (eh s.y9) frm=I.length:=Int.ofNat.inj e4;obtain⟨x,r,hx⟩:=exists_cons_of_ne_nil ae;refine u x (by rw[hx];exact Is ..) (aj.1 x ?_);rw[e5,zS oJ,hx];exact Is ..
 | h+1,⟨p,n,L,P⟩,U,⟨G,h0,h1,h2,V,h4,h5,h6,h7⟩,u,E=>by
  dsimp only at h1 h2 V h5 u E;subst h1 h2 V;have hl:dW D M k v p=(dZ G,0):=h4.load h5;obtain⟨A,e,B,ak,hA,az,aA,J⟩:=vM (key:=frm) h0 h6;have R:(dZ G).Q1.getD (eP (dZ G).J8 frm) 0=e.2.x7:=J;have aa:eP (dZ G).J8 frm=A.length:=hA.symm;have ab:e∈G:=(by rw[ak];simp);obtain⟨al,_⟩:=h7 e ab;have ac:kD (dZ G) frm=(A.length:Int):=by rw[kD,iN (show ¬(dZ G).Q6=true from λe=>nomatch e),aa]
  unfold i4 at E;rw[hl,iN λh=>h rfl,iN (show ¬(dZ G).Q6=true from λe=>nomatch e)] at E;have E:Option.map (((dZ G),kD (dZ G) frm)::·) (i4 D k v M (λn=>kD n frm) (h+1) ((dZ G).Q1.getD (kD (dZ G) frm).toNat 0))=some U:=E;rw[ac,zJ,<- aa,R] at E;obtain⟨am,e1,rfl⟩:=yT.1 E;show ¬kN h am;exact qrK al (λx hx=>u x (yK.2 ⟨e,ab,hx⟩)) e1
end
end
section
section
variable {D:dV} {M:eH} {k v:Nat} {frm to:Key}
def qnA:∀ {h:Nat} {s:iK} {R:List kW},Has D M k v h s->(∀x∈s.y9,¬fT to x.1)->i4 D k v M (λn=>iT n to) (h+1) s.x7=some R->¬kP h R
 | 0,s,R,hs,u,E=>by
  have ad:=hs.ne;obtain⟨h1,h2,U,h4⟩:=hs;have hl:dW D M k v s.x7=(eM s.y9,0):=U.load h4;have ai:=qpW (k:=to) U.right.2.2.1;unfold i4 at E;rw[hl,iN λh=>h rfl,iP (show (eM s.y9).Q6=true from rfl)] at E;have E:=yO E;rintro⟨ap,e⟩;rw[<- E] at e;have e1:=(vC (vD e).1);have e4:iT (eM s.y9) to=-1:=e1.2;rw[iT,iP (show (eM s.y9).Q6=true from rfl)] at e4;have e5:eP (eh s.y9) to=0:=by have e6:((eP (eh s.y9) to:Nat):Int)-1=-1:=e4;omega
  obtain⟨x,r,hx⟩:=exists_cons_of_ne_nil ad;refine u x (by rw[hx];exact Is ..) (ai.2 x ?_);rw[e5,xG,hx];exact Is ..
 | h+1,⟨p,n,L,P⟩,R,⟨G,h0,h1,h2,U,h4,h5,h6,h7⟩,u,E=>by
  dsimp only at h1 h2 U h5 u E;subst h1 h2 U;have hl:dW D M k v p=(dZ G,0):=h4.load h5;obtain⟨A,e,B,aj,hA,ax,ay,I⟩:=vM (key:=to) h0 h6;have J:(dZ G).Q1.getD (eP (dZ G).J8 to) 0=e.2.x7:=I;have V:eP (dZ G).J8 to=A.length:=hA.symm;have aa:e∈G:=(by rw[aj];simp);obtain⟨ak,_⟩:=h7 e aa;have ab:iT (dZ G) to=(A.length:Int):=by rw[iT,iN (show ¬(dZ G).Q6=true from λe=>nomatch e),V]
  unfold i4 at E;rw[hl,iN λh=>h rfl,iN (show ¬(dZ G).Q6=true from λe=>nomatch e)] at E;have E:Option.map (((dZ G),iT (dZ G) to)::·) (i4 D k v M (λn=>iT n to) (h+1) ((dZ G).Q1.getD (iT (dZ G) to).toNat 0))=some R:=E;rw[ab,zJ,<- V,J] at E;obtain⟨al,e1,rfl⟩:=yT.1 E;show ¬kP h al;exact qnA ak (λx hx=>u x (yK.2 ⟨e,aa,hx⟩)) e1
end
end
section
section
variable {D:dV} {M:eH} {k v:Nat} {frm to:Key} {pick:dY->Int} {step:Int->Int}
def qjl:∀ {h:Nat} {U J:List kW} {T:gr},mE D M k v frm h U T->kN h U->iU D k v M (λn=>kD n frm) (λi=>i+1) h U=some J->¬kN h J
 | 0,_,_,_,_,_,h=>nomatch h
 | h+1,U,J,T,⟨E,i,up,T1,e,hi,hd,hu,hT⟩,u,G=>by
  subst e;have u:kN h up:=u;unfold iU at G;cases e1:iU D k v M (λn=>kD n frm) (λi=>i+1) h up with
  | some V=>
   rw[e1] at G;cases G;show ¬kN h V;exact qjl hu u e1
  | none=>
   rw[e1] at G;dsimp only at G;split at G;rename_i I;have aa:(dZ E).Q1.length=E.length:=(by show (E.map (·.2.x7)).length=_;rw[zK]);have ej:((i:Int)+1).toNat=i+1:=oJ;rw[aa] at I;rw[ej] at G;have I:i+1<E.length:=oJ;have ab:(dZ E).Q1.getD (i+1) 0=E[i+1].2.x7:=by show (E.map (·.2.x7)).getD _ 0=_;rw[yR,zQ,zA I];rfl
   have R:E.drop (i+1)=E[i+1]::E.drop (i+2):=zX I;obtain⟨q1,q2⟩:=hd E[i+1] (by rw[R];exact Is ..);obtain⟨ac,e2,rfl⟩:=yT.1 G;show ¬kN h ac;exact qrK q1 q2 (by rw[<- ab];exact e2);cases G
def qgR:∀ {h:Nat} {U I:List kW} {T:gr},mN D M k v to h U T->kP h U->iU D k v M (λn=>iT n to) (λi=>i-1) h U=some I->¬kP h I
 | 0,_,_,_,_,_,h=>nomatch h
 | h+1,U,I,T,⟨G,i,up,T1,e,hi,hd,hu,hT⟩,u,E=>by
  subst e;have u:kP h up:=u;unfold iU at E;cases e1:iU D k v M (λn=>iT n to) (λi=>i-1) h up with
  | some V=>
   rw[e1] at E;cases E;show ¬kP h V;exact qgR hu u e1
  | none=>
   rw[e1] at E;dsimp only at E;split at E;rename_i J;obtain⟨i,rfl⟩:∃j,i=j+1:=⟨i-1,oJ⟩;have ej:(((i+1:Nat):Int)-1).toNat=i:=oJ;rw[ej] at E;have J:i<G.length:=oJ;have aa:(dZ G).Q1.getD i 0=G[i].2.x7:=by show (G.map (·.2.x7)).getD _ 0=_;rw[yR,zQ,zA J];rfl
   have R:G.take (i+1)=G.take i++[G[i]]:=yG J;obtain⟨q1,q2⟩:=hd G[i] (by rw[R];exact zI _ (Is ..));obtain⟨ab,e2,rfl⟩:=yT.1 E;show ¬kP h ab;exact qnA q1 q2 (by rw[<- aa];exact e2);cases E
def Path (D:dV) (M:eH) (k v:Nat) (step:Int->Int):Nat->List kW->Prop
 | 0,G=>∃(u:gr) (i:Int),G=[(eM u,i)]/\-1<=i/\i<=u.length
 | h+1,G=>∃(E:List ij) (i:Int) (I:List kW),G=(dZ E,i)::I/\0<=i/\i<E.length/\(∀j:Nat,step i=j->∀J:j<E.length,Has D M k v h E[j].2)/\Path D M k v step h I
def mE.path:∀ {h:Nat} {u:List kW} {T:gr},mE D M k v frm h u T->Path D M k v (λi=>i+1) h u
 | 0,u,T,⟨G,i,e,I,hs,J⟩=>⟨G,i,e,oJ,oJ⟩
 | h+1,u,T,⟨R,i,U,T1,e,I,V,hu,J⟩=>⟨R,i,U,e,oJ,oJ,λj E hj=>by have E:(i:Int)+1=j:=E;have E:j=i+1:=oJ;subst E;exact (V _ (by rw[zX hj];exact Is ..)).1,hu.path⟩
def mN.path:∀ {h:Nat} {u:List kW} {T:gr},mN D M k v to h u T->Path D M k v (λi=>i-1) h u
 | 0,u,T,⟨G,i,e,I,hs,J⟩=>⟨G,_,e,oJ,oJ⟩
 | h+1,u,T,⟨R,i,U,T1,e,I,V,hu,J⟩=>⟨R,i,U,e,oJ,oJ,λj E hj=>by have E:(i:Int)-1=j:=E;have E:i=j+1:=oJ;subst E;exact (V _ (by rw[yG hj];exact zI _ (Is ..))).1,hu.path⟩
def Path.len:∀ {h:Nat} {u:List kW},Path D M k v step h u->u.length=h+1
 | 0,_,⟨_,_,e,_⟩=>by rw[e];rfl
 | h+1,_,⟨_,_,G,e,_,_,_,E⟩=>by rw[e,yI,E.len]
def Path.drop:∀ {pre rest:List kW} {h:Nat},Path D M k v step (pre.length+h) (pre++rest)->Path D M k v step h rest
 | [],_,_,h=>by rw[xL,xT] at h;exact h
 | x::pre,rest,n,h=>by have e:(x::pre).length+n=(pre.length+n)+1:=(by rw[yI];omega);rw[e] at h;obtain⟨E,i,G,e1,_,_,_,u⟩:=h;rw[(vD e1).2.symm] at u;exact u.drop
noncomputable def ul (D:dV) (k v:Nat) (M:eH) (pick:dY->Int) (step:Int->Int) (h:Nat) (x:kW):Option (List kW):=
 if 0<=step x.2/\step x.2<x.1.Q1.length then (i4 D k v M pick (h+1) (x.1.Q1.getD (step x.2).toNat 0)).map ((x.1,step x.2)::·) else none
def qvl{h:Nat}{x:kW}{u:List kW}(e:iU D k v M pick step h u=none):iU D k v M pick step (h+1) (x::u)=ul D k v M pick step h x:=by obtain⟨n,i⟩:=x;unfold iU;rw[e];rfl
def qp3:∀ {pre rest r:List kW} {h:Nat},iU D k v M pick step h rest=some r->iU D k v M pick step (pre.length+h) (pre++rest)=some (pre++r)
 | [],rest,r,h,e=>by rw[xL,xT];exact e
 | (n,i)::pre,rest,r,h,e=>by have e1:((n,i)::pre).length+h=(pre.length+h)+1:=(by rw[yI];omega);rw[e1,xK];unfold iU;rw[qp3 (pre:=pre) e];rfl
def qyf{h:Nat}{s:iK}(hs:Has D M k v (h+1) s):∃u:List ij,dW D M k v s.x7=(dZ u,0)/\∃hj:eP (dZ u).J8 key<u.length,(dZ u).Q1.getD (eP (dZ u).J8 key) 0=u[eP (dZ u).J8 key].2.x7/\Has D M k v h u[eP (dZ u).J8 key].2:=by obtain⟨p,n,L,P⟩:=s;obtain⟨u,h0,R,U,V,h4,h5,h6,h7⟩:=hs;dsimp only at R U V h5;subst R U V;refine⟨u,h4.load h5,?_⟩;obtain⟨A,e,B,G,hA,ah,ai,I⟩:=vM (key:=key) h0 h6;have J:eP (dZ u).J8 key=A.length:=hA.symm;have E:eP (dZ u).J8 key<u.length:=(by rw[J,G];simp);refine⟨E,?_,(h7 _ (zW E)).1⟩;show (u.map (·.2.x7)).getD _ 0=_;rw[yR,zQ,zA E];rfl
end
end
end
section
open Go Go.Pt List
open Go.IntKind (wrap)
open Classical
variable {K:Ja->WP}
def qwT{w:IK}{n:Nat}(Y:IS)(J:∀b∈Y,b<w.heap.size)(hY:HG∉Y)(hv:Hv w)(h8:8<=n)(h4:n<=4096)(hk:∀dbk pb FD F D w',TW dbk pb FD D 5000 w' Y F (kO n)->Made D n->Fr [] w w'->(∀b∈FD++F,w.heap.size<=b)->K (pW dbk,pW pb) w'): cW 62 [.i n] dL w K:=by
 refine qhD<|qy1 (λh=>oJ) λ_ _ dbk FD w1 d1 f1 n1=>?_;rw[zJ] at d1;obtain⟨D',e1,q1,s1,ad,o1,z1⟩:=qrJ (qvk n) (qwY n) h8 h4;have R:=hv.q8 f1;have hg:HG∉FD:=λhm=>by have:=n1 _ hm;have:=hv.lt;omega
 have au:(nP n).Q8.length=n:=(by simp[nP]);refine iC (λb w'=>b=false/\∃F',DS dbk w1 FD w' F' D' (0+5000)) ?_ ?_;refine Io rfl (Io rfl ?_);refine quA d1 (mn.new h4) oM oJ R hg λw' F' d'=>?_;rw[e1] at d'⊢;exact⟨rfl,F',d'⟩;rintro b w2 ⟨rfl,F2,E⟩;refine Io rfl ?_;have G:∀b∈F2,w.heap.size<=b:=λb u=>by rcases E.nw b u with h|h;exact n1 b h;exact zL f1.size h
 have U:=o1.open;have I:=(E.hv R hg).1;have V:w.heap.size<=w2.heap.size:=zL f1.size E.fr.size;refine qvX (F2++HG::Y) (λb u=>?_) E.at_ E.lim.ok I (λh=>by rw[U] at h;cases h) λpb F M w3 hM hp f3 n3=>?_;rcases zD.1 u with u|u;exact E.at_.lt b u;rcases zG.1 u with rfl|u;exact I.lt;exact yC (J b u) V;rw[U] at hM;cases hM;refine Io rfl<|hk dbk pb F2 F D' w3 ⟨E.at_.q8 f3,E.lim,hp,I.q8 f3,qzJ h8 h4,λb u=>⟨λhm=>?_,λe=>hY (e▸u)⟩⟩ ⟨q1,s1,ad,o1,e1,z1⟩ ((f1.J0 E.fr λb u=>.inr (n1 b u)).J0 f3 oL) λb u=>?_
 have:=G b hm;have:=J b u;omega;rcases zD.1 u with u|u;exact G b u;exact zL V (n3 b u)
def Bw (x:Key×Key):List IL:=[.string (CN x.1),.string (CN x.2)]
def fj.none{α:Type}{enc:α->List IL}{k:Nat}{w:IK}{b:Nat}{T:IM}(h:w.heap[b]?=some (.c #[] T)):fj enc k w ⟨pW b,0,0⟩ [] [b]:=
 .inr ⟨b,0,#[],T,rfl,rfl,rfl,h,rfl,zM _,oL,oL⟩
end
section
open Go Go.Pt List
open Go.IntKind (wrap)
open Classical
end
section
open Go Go.Pt List
open Go.IntKind (wrap)
open Classical
structure HiI (k v c:Nat) (t:Int) (w0 w:IK) (s:Sl) (m:Nat) (dbk pb:Nat) (FD:IS) (D:dV) (F:IS) (M:eH) (P:IT) (L:gr) (B:IS):Prop where
 tw:TW dbk pb FD D 5000 w [] F M
 If:zy D M k v c t L P
 uP:fj Bw 2 w s L B
 len:L.length<=m
 fr:Fr [] w0 w
 new:∀ b∈FD++F,w0.heap.size<=b
 J5:∀ b∈B,b∉F
section
variable {k v c:Nat} {t:Int} {w0 w:IK} {s:Sl} {m:Nat} {dbk pb:Nat} {FD F B:IS} {D:dV} {M:eH} {P:IT} {L:gr}
end
end
section
open Go Go.Pt List
open Go.IntKind (wrap)
open Classical
end
section
open Go Go.Pt List
open Go.IntKind (wrap)
open Classical
variable {B S:IS} {K:Sl->WP} {L:IW} {T:IM} {cs:Array IL} {ids:List jf} {l rest:IT} {m:Nat} {n:Int} {r:HL ka} {s t:Sl} {w w0:IK} {x:jf}
def Ef:∀ {k i:Nat} {n:Int},i<k->(bw k n)[i]?=some (n / 256^(k-1-i)%256)
 | k+1,i,n,h=>by rw[bw];by_cases hi:i<k;rw[yZ (by rw[lI];exact hi),Ef hi,Int.ediv_ediv_of_nonneg oM,show k+1-1-i=(k-1-i)+1 by omega,Int.pow_succ,Int.mul_comm];have:i=k:=oJ;subst this;rw[yY (by rw[lI];exact zM _),lI,Nat.sub_self,show i+1-1-i=0 by omega,Int.pow_zero,Int.ediv_one];rfl
def FF{i:Nat}(h:8*i<=m):wrap .u8 (Int.fdiv n (2^min (8*i) m))=n / 256^i%256:=by rw[A7,xS h,Int.fdiv_eq_ediv_of_nonneg _ (Int.le_of_lt (Int.pow_pos oM)),Int.pow_mul];rfl
def qng{j:Nat}{x:Int}:en (gw l) j [.b x]=gw (l.set j x):=by rw[en,en];apply Array.ext';rw[Array.toList_setIfInBounds];show (gw _).toList.set _ _=(gw _).toList;unfold gw;simp only[toList_toArray];rw[<- map_set]
def lz (w w':IK) (s:Sl) (l:IT):Prop:=eN (List.range w.heap.size) w' s l
section
variable {w w1 w2 w':IK} {s:Sl} {l:IT} {S:IS}
def lz.q8(h:lz w w' s l)(f:Fr [] w' w2):lz w w2 s l:=eI.q8 h f
def lz.to(h:lz w w' s l)(u:∀b∈S,b<w.heap.size):eN S w' s l:=eI.j8 h λb E=>.inl (mem_range.2 (u b E))
def lz.up(h:lz w1 w' s l)(f:w.heap.size<=w1.heap.size):lz w w' s l:=h.to λb u=>yC (mem_range.1 u) f
def lz.rd(h:lz w w' s l):eN [] w' s l:=h.to λ_ h=>nomatch h
def Dg{b o n cap:Nat}{L:IT}{u:I1}(J:w.heap.size<=b)(E:w'.heap[b]?=some (.cells (gw L) T u))(G:o+n<=L.length)(I:n<=cap)(e:(L.drop o).take n=l):lz w w' ⟨some (dk b o),n,cap⟩ l:=by rw[<- e];exact wK E G I λh=>by have:=mem_range.1 h;omega
def wU(h:gb w' s l B)(u:∀b∈B,w.heap.size<=b):lz w w' s l:=h.jQ lY λb E h=>by have:=mem_range.1 h;have:=u b E;omega
def Eb{b o n:Nat}{a:Sl}{ys:IT}(h:eN [] w ⟨some (dk b o),n,n⟩ l)(hr:eN [] w a ys)(hy:0<ys.length)(hl:l.length+ys.length<=1000000)(kk:∀s' B w',gb w' s' (l++ys) B->Fr [] w w'->(∀b∈B,w.heap.size<=b)->K s' w'): Pt.run dl ((Builtin.append_ #[101,101] 101 #[.slice (some (dk b o)) n n,a.v]).run Tryz.prog w) K:=by
 obtain⟨i,hi,hz,G,I⟩:=wQ;have J:=hr.1;have E:n=l.length:=h.1;have hc:=h.cells lY rfl;refine qtC (m:=a.len) (e:=5) (olds:=l.map (Value.int .u8)) (news:=ys.map (Value.int .u8)) oK hi hz G rfl (by rw[zK,E]) (λj u hj=>?_) ?_ oJ (by rw[I];omega) oJ λb' cs c w' eb R f U V ht=>?_;rw[<- sC] at hj;exact hc j u hj;have:=uU (P:=Tryz.prog) (tx:=101) (e':=5) hr lY (λx u hu=>by rw[zE.1 hu];rfl) oK;rw[sC] at this;exact this;refine kk _ [b'] w' (fj.one (e:=Value.int .u8) (λ_=>rfl) R (by rw[zF];omega) U V ?_) f λb R=>by rw[zE.1 R,eb];exact zM _
 rw[zF,<- E,<- J,ht,xO]
end
def qAe{K:IV->WP}(u:∀w',Fr [] w w'->K (0,n) w'):cW 98 [.w n] [.agg dj] w K:=by exact qvQ<|oB (oE [] w) λr w1 e1 E h=>h.sz 0 rfl #[.w 0,.w n] λw2 h _=>IR h 0 rfl (0,n)<|u w2 h.fr
def GH{a0 E:Int}(U:∀r w',lz w w' ⟨pW r,16,16⟩ (je (a0,E))->Fr [] w w'->w'.heap[r]?=some (.c (gw (je (a0,E))) 5)->w.heap.size<=r->K ⟨pW r,16,16⟩ w'): cW 97 [di a0 E] dl w K:=by
 refine qqT<|oB (oE [] w) λV w1 e1 f1 h=>ef.mkN h rfl oM oM oM oM λr w2 e2 h=>?_;have J:w.heap.size<=r:=(by have:=f1.size;omega);refine jv (λx w'=>∃j:Nat,∃l:IT,x=j/\j<=8/\l.length=16/\ef [] w w' [(r,.c (gw l) 5),(V,.c #[.w a0,.w E] 39)]/\∀i<j,l[i]?=(bw 8 a0)[i]?/\l[8+i]?=(bw 8 E)[i]?) (λx _=>8-x.toNat) ⟨0,zs 16,rfl,oM,rfl,h,λi h=>oJ⟩ ?_;rintro x w3 ⟨j,l,rfl,hj,hl,h,G⟩ X hX;apply cD<;>intro I;have u:j<8:=oJ;have e1:wrap .i64 (56-wrap .i64 (8*(j:Int)))=((8*(7-j):Nat):Int):=by rw[gG (8*(j:Int)) oJ,gG _ oJ];omega
 rw[e1,gG (8+(j:Int)) oJ,gG ((j:Int)+1) oJ,zJ];refine IQ h 1 rfl a0 (qu oJ (vg oJ oJ ?_));rw[FF (n:=a0) (i:=7-j) (m:=64) oJ];refine h.st' 0 rfl _ qng rfl (by rw[AK];simp;omega) λw4 h _=>IQ h 1 rfl E (qu oJ (vg oJ oJ ?_));rw[FF (n:=E) (i:=7-j) (m:=64) oJ];refine h.st' 0 rfl _ qng rfl (by rw[AK];simp;omega) λw5 h _=>hX _ _ ⟨j+1,_,rfl,u,by simpa using hl,h,λi ae=>?_⟩ oJ;rw[show (0+(j:Int).toNat*1)=j by omega,show (0+(8+(j:Int)).toNat*1)=8+j by omega];by_cases e:i=j;subst e;rw[Ef u,Ef u,show 8-1-i=7-i by omega];exact⟨by rw[List.getElem?_set_ne oJ,List.getElem?_set_self oJ],by rw[List.getElem?_set_self (by rw[xH];omega)]⟩;have:=G i oJ;exact⟨by rw[List.getElem?_set_ne oJ,List.getElem?_set_ne oJ];exact this.1,by rw[List.getElem?_set_ne oJ,List.getElem?_set_ne oJ];exact this.2⟩;have u:j=8:=oJ;subst u;have e:l=je (a0,E):=by
  apply ext_getElem?;intro i;unfold je;by_cases h8:i<8;rw[yZ (by rw[lI];exact h8)];exact (G i h8).1;rw[yY (by rw[lI];omega),lI];by_cases h16:i<16;have:=(G (i-8) oJ).2;rwa[show 8+(i-8)=i by omega] at this;rw[yS oJ,yS (by rw[lI];omega)]
 subst e;have R:=h.at (i:=0) rfl;exact U r w3 (Dg J R (by rw[mV];decide) oM (by rw[xG];exact zS (by rw[mV];decide))) h.fr R J
def An{a0 u:Int}(G:∀r w',lz w w' ⟨pW r,16,16⟩ (je (a0,u))->Fr [] w w'->K ⟨pW r,16,16⟩ w'): cW 55 [di a0 u] dl w K:=by exact qwL<|oB (oE [] w) λR w1 e1 E h=>IR h 0 rfl (a0,u)<|GH λr w2 I J _ _=>G r w2 (I.up E.size) (E.trans J)
def u0(u:∀r w',lz w w' ⟨some (dk r 8),8,8⟩ (bw 8 n)->Fr [] w w'->K ⟨some (dk r 8),8,8⟩ w'): cW 51 [.w n] dl w K:=by refine qrW<|qAe λw1 h=>GH λr w2 J E G I=>DY oM oM oM oM<|u r w2 (Dg (zL h.size I) G (by rw[mV];decide) oM ?_) (h.trans E);rw[je,drop_left' (lI _ _)];exact zS (by rw[lI];decide)
def AM{a0 u:Int}(G:∀s w',lz w w' s (gu (a0,u) n)->Fr [] w w'->K s w'): cW 38 [di a0 u,.w n] dl w K:=by refine qtc<|oB (oE [] w) λr1 w1 e1 f1 h=>IR h 0 rfl (a0,u)<|qoO<|oB h λr2 w2 e2 f2 h=>IR h 0 rfl (a0,u)<|tT (lb:=[]) rfl oK (An λr3 w3 I J=>?_);refine tT (lb:=[]) rfl oK (u0 λr4 w4 R E=>?_);refine Eb (I.q8 E).rd R.rd (by rw[lI];decide) (by rw[lI,mV];decide) λs B U V f5 n5=>?_;have f:=h.fr.trans (J.trans E);exact G s U (wU V λb hb=>zL f.size (n5 b hb)) (f.trans f5)
def qtv{m:Int}(u:∀s w',lz w w' s (lp n m)->Fr [] w w'->K s w'): cW 35 [.w n,.w m] dl w K:=by refine qve<|qoN<|tT (lb:=[]) rfl oK (u0 λr3 w3 E G=>?_);refine tT (lb:=[]) rfl oK (u0 λr4 w4 I h=>?_);refine Eb (E.q8 h).rd I.rd (by rw[lI];decide) (by rw[lI,lI];decide) λs B J R U V=>?_;have f:=G.trans h;exact u s J (wU R λb hb=>zL f.size (V b hb)) (f.trans U)
def CU{j:Nat}(h:eX l)(u:j<l.length)(J:j<8):bits .or .u64 (wrap .u64 (pj (l.take j)*2^8)) (wrap .u64 l[j])=pj (l.take (j+1)):=by
 have R:=h l[j] (zW u);have U:=Ej (l:=l.take j) λy E=>h y (yV E);have G:(256:Int)^(l.take j).length<=256^7:=by
  have:((256^(l.take j).length:Nat):Int)<=((256^7:Nat):Int):=by
   have:=Nat.pow_le_pow_right (n:=256) oM (show (l.take j).length<=7 by rw[yL];omega);omega
  simpa using this
 have I:(256:Int)^7=72057594037927936:=oM;rw[I] at G;rw[yG u,qrm,zv l[j] oJ,zv _ oJ];rw[qp9 8 oJ oJ oJ oJ oJ];omega
def quz{K:Int->WP}(h:eN S w s l)(R:eX l)(hl:l.length<=8)(U:K (pj l) w):cW 85 [s.v] dv w K:=by refine qqE ?_;have I:=h.1;refine jv (λx w'=>w'=w/\∃i:Nat,x.2=i/\i<=l.length/\x.1=pj (l.take i)) (λx _=>((l.length:Int)-x.2).toNat) ⟨rfl,0,rfl,oJ,rfl⟩ ?_;rintro⟨r,ii⟩ w' ⟨rfl,i,E,hi,J⟩ X V;simp only at E J;subst E J;apply cD<;>intro G;have u:i<l.length:=oJ;refine eN.at h i rfl (zA u) ?_;rw[gG _ oJ,CU R u oJ];exact V _ _ ⟨rfl,i+1,oL,oJ,rfl⟩ oN;have u:i=l.length:=oJ;subst u;rw[vA];exact U
section
abbrev vh:IM:=39
abbrev kG:jf->List IL:=λx=>[.w x.1,.w x.2]
def wT(x:jf):(kG x).length=2:=rfl
def qm{x:Int}(h:IntKind.u64.has x):lQ x:=by have u:(0:Int)<=x/\x<=18446744073709551615:=h;exact⟨u.1,oJ⟩
def DZ{w':IK}{b:Nat}{o o':Obj}(h:ef S w0 w L)(i:Nat)(hi:L[i]?=some (b,o))(f:Fr [b] w w')(u:w'.heap[b]?=some o'):ef S w0 w' (L.set i (b,o')):=
 (h.iz (o':=o') i hi).q8 ⟨f.os,f.tape,f.output,by rw[ux];exact f.size,λj E _=>by
  rw[pf _ _ _ _ (eO (h.at hi))];split
  ·next e=>rw[e];exact u
  ·next e=>exact f.block j (by rwa[ux] at E) (oP e)⟩
def Gj{b:Sl}{k:Nat}{E:Sl->WP}(h:gb w b l B)(hm:8*k<=m+8)(hl:l.length<=1000)(h8:k<=8)(kk:∀s B' w',gb w' s (l++bw k n) B'->Fr B w w'->(∀b∈B',b∈B\/w.heap.size<=b)->E s w'): loop (I0) (λX t w3=>cond (decide (t.2>=0)) (iH (0<=wrap .i64 (8*t.2))<|Pt.new (.cells #[.b (wrap .u8 (Int.fdiv n (2^min (Int.toNat (wrap .i64 (8*t.2))) m)))] 5) w3 λr w5=>Pt.run dl ((Builtin.append_ #[101,101] 101 #[t.1.v,.slice (pW r) 1 1]).run Tryz.prog w5) λs w7=>X (s,wrap .i64 (t.2-1)) w7) (E t.1 w3)) (b,wrap .i64 (k-1)) w:=by
 refine jv (λt w'=>∃j:Nat,∃B',t.2=(k:Int)-1-j/\j<=k/\gb w' t.1 (l++(bw k n).take j) B'/\Fr B w w'/\∀b∈B',b∈B\/w.heap.size<=b) (λt _=>(t.2+1).toNat) ⟨0,B,by dsimp only;rw[gG _ oJ];omega,yX _,by rw[take_zero,xI];exact h,.refl _ _,λ_ h=>.inl h⟩ ?_;rintro⟨s,x⟩ w1 ⟨j,B1,hx,hj,J,R,U⟩ X hX;dsimp only at hx J⊢;subst hx;apply eB<;>intro I;have I:=zC I;have G:j<k:=oJ;have e1:wrap .i64 (8*((k:Int)-1-j))=((8*(k-1-j):Nat):Int):=(by rw[gG _ oJ];omega);rw[e1,zJ,FF oJ,gG _ oJ];obtain⟨i,hi,hz,V,aa⟩:=wQ;have ae:(l++(bw k n).take j).length<=1008:=(by rw[zF,yL];omega);refine qu oJ (fj.push (e:=5) (x:=n / 256^(k-1-j)%256) J lY (λu hu=>by rw[zE.1 hu];rfl) oK hi hz V rfl rfl (by rw[aa];omega) oJ λs2 B2 w2 b2 f2 n2=>?_);refine hX _ _ ⟨j+1,B2,by dsimp only;omega,G,?_,R.J0 f2 U,λb hb=>(n2 b hb).elim (U b) λh=>.inr (zL R.size h)⟩ oN;have:=Ef (n:=n) G;obtain⟨hb,e⟩:=zP.1 this;rw[yG hb,e,<- zV];exact b2;have I:=zB I;have G:j=k:=oJ;subst G;rw[zS (by rw[lI];exact zM _)] at J;exact kk _ B1 _ J R U
section
variable {w:IK} {b s:Sl} {l:IT} {B:IS} {n:Int} {K:Sl->WP}
def qzU(h:gb w b l B)(u:l.length<=1000)(E:∀s B' w',gb w' s (l++bw 2 n) B'->Fr B w w'->(∀b∈B',b∈B\/w.heap.size<=b)->K s w'):cW 135 [b.v,.int .u16 n,.i 2] dl w K:=
 qo3 (Gj h (k:=2) oM u oM E)
def qzV(h:gb w b l B)(E:l.length<=1000)(G:∀s B' w',gb w' s (l++bw 4 n) B'->Fr B w w'->(∀b∈B',b∈B\/w.heap.size<=b)->K s w'):cW 133 [b.v,.u n,.i 4] dl w K:=
 qo4 (Gj h (k:=4) oM E oM G)
def qzW(h:gb w b l B)(u:l.length<=1000)(E:∀s B' w',gb w' s (l++bw 8 n) B'->Fr B w w'->(∀b∈B',b∈B\/w.heap.size<=b)->K s w'):cW 134 [b.v,.w n,.i 8] dl w K:=
 qo5 (Gj h (k:=8) oM u oM E)
def DG:∀l:List jf,(l.flatMap je).length=16*l.length
 | []=>rfl
 | x::l=>by rw[yH,zF,mV,DG l,yI];omega
def qqz{I:Sl->IT->WP}(hI:I b l w)(hf:∀s l w w',I s l w->Fr [] w w'->I s l w')(E:eI kG 2 [] w t ids)(hl:ids.length<=5)(R:∀(i:Nat) s l' w1 (a:Sl) x (K:Sl->WP),i<ids.length->ids[i]?=some x->l'=l++(ids.take i).flatMap je->I s l' w1->eI kG 2 [] w1 t ids->eN [] w1 a (je x)->(∀U w2,I U (l'++je x) w2->eI kG 2 [] w2 t ids->K U w2)-> Pt.run dl ((Builtin.append_ #[101,101] 101 #[s.v,a.v]).run Tryz.prog w1) K)(kk:∀s w',I s (l++ids.flatMap je) w'->K s w'):cW 103 [b.v,t.v] dl w K:=by refine qod ?_;have V:=E.1;refine jv (λq w'=>∃i:Nat,q.2=i/\i<=ids.length/\I q.1 (l++(ids.take i).flatMap je) w'/\eI kG 2 [] w' t ids) (λq _=>ids.length-q.2.toNat) ⟨0,rfl,yX _,by rw[take_zero,flatMap_nil,xI];exact hI,E⟩ ?_;rintro⟨s,x⟩ w1 ⟨i,hx,hi,J,r1⟩ X hX;dsimp only at hx J⊢;subst hx;apply eB<;>intro G;have G:=zC G;have u:i<ids.length:=oJ;refine eI.rY (x:=ids[i]) (y:=ids[i]) r1 i rfl (zA u) rfl rfl<|oB (oE [] w1) λr w2 e2 f2 h=>h.sz 0 rfl #[.w ids[i].1,.w ids[i].2] λw3 h _=>IR h 0 rfl (ids[i].1,ids[i].2)<|GH λr4 w4 h4 f4 _ _=>?_;have f:=h.fr.trans f4;refine R i _ _ _ ⟨pW r4,16,16⟩ ids[i] _ u (zA u) rfl (hf _ _ _ _ J f) (r1.q8 f) h4.rd λs5 w5 h5 r5=>?_;rw[gG _ oJ];refine hX _ _ ⟨i+1,rfl,u,?_,r5⟩ oN;rw[yG u,yQ,<- zV,flatMap_singleton];exact h5;have G:=zB G;have u:i=ids.length:=oJ;subst u;rw[vA] at J;exact kk _ _ J
def qyR(u:eI kG 2 [] w t ids)(hl:ids.length<=5)(kk:∀s B' w',gb w' s (ids.flatMap je) B'->Fr [] w w'->(∀b∈B',w.heap.size<=b)->K s w'): cW 103 [.slice none 0 0,t.v] dl w K:=by refine qqz (b:=dT) (l:=[]) (I:=λs l w'=>∃B',gb w' s l B'/\Fr [] w w'/\∀b∈B',w.heap.size<=b) ⟨[],fj.nil _ _ _,.refl _ _,λ_ h=>nomatch h⟩ (λs l w1 w2 ⟨B',R,G,J⟩ f=>⟨B',R.q8 f,G.trans f,J⟩) u hl (λi s l' w1 a x K hi _ U ⟨B1,R,G,J⟩ r1 ha k=>?_) λs w' ⟨B',b,f,n⟩=>kk s B' w' b f n;have:l'.length<=80:=(by rw[U,xJ,DG,yL];omega);refine AI R ha (by rw[mV];omega) λs2 B2 w2 b2 f2 n2=>?_;have E:Fr [] w w2:=G.J0 f2 λb V=>.inr (J b V);exact k s2 w2 ⟨B2,b2,E,λb V=>(n2 b V).elim (J b) (zL G.size)⟩ (u.q8 E)
end
def qAW{r u:Nat}{K:Int->WP}(I:w.heap[r]?=some (.c #[s.v] T))(J:eN S w s (l++rest))(hS:r∈S)(hB:eX l)(hl:l.length=u)(h8:u<=8)(kk:∀V w',w'.heap[r]?=some (.c #[V.v] T)->eN S w' V rest->Fr [r] w w'->K (pj l) w'):cW 120 [dS r,.i u] dv w K:=by subst hl;refine qht<|fO (iv I s rfl ?_);refine eI.part J 0 l.length rfl rfl (yX _) oL λs1 l1 r1 _=>?_;rw[xG,take_left' rfl] at r1;refine jv (λx w'=>w'=w/\∃i:Nat,x.2=i/\i<=l.length/\x.1=pj (l.take i)) (λx _=>((l.length:Int)-x.2).toNat) ⟨rfl,0,rfl,oJ,rfl⟩ ?_;rintro⟨y,ii⟩ w' ⟨rfl,i,G,hi,hy⟩ X hX;simp only at G hy;subst G hy;apply cD<;>intro R;have E:i<l.length:=oJ;refine eN.at r1 i rfl (zA E) ?_;rw[gG _ oJ,CU hB E oJ];exact hX _ _ ⟨rfl,i+1,oL,oJ,rfl⟩ oN;have E:i=l.length:=oJ;subst E;rw[vA];refine fO (iv I s rfl ?_);refine eI.part J l.length (l++rest).length rfl (by rw[xX,J.1]) oL (zM _) λs2 l2 r2 _=>?_;rw[vA,drop_left' rfl] at r2;refine fO (qH I #[s2.v] rfl rfl (zM _) λw2 U f2=>?_);exact kk s2 w2 U (r2.j1 (f2.mono λb h _=>by rw[zE.1 h];exact hS) λb h=>.inl h) f2
def G0{r h:Nat}{K:Int->WP}(G:w.heap[r]?=some (.c #[s.v] T))(I:eN S w s (bw h n++rest))(J:r∈S)(E:0<=n/\n<256^h)(R:h<=8)(U:∀u w',w'.heap[r]?=some (.c #[u.v] T)->eN S w' u rest->Fr [r] w w'->K n w'):cW 120 [dS r,.i h] dv w K:=
 qAW G I J (qi _ _) (lI _ _) R λu w' V h2 h3=>by rw[vw h E.1 E.2];exact U u w' V h2 h3
def qBb{r:Nat}{K:IV->WP}(u:w.heap[r]?=some (.c #[s.v] T))(U:eN S w s (je x++rest))(G:r∈S)(I:uy x)(V:∀J w',w'.heap[r]?=some (.c #[J.v] T)->eN S w' J rest->Fr [r] w w'->K x w'):cW 119 [dS r] [.agg dj] w K:=by refine qiX<|oB (EV u) λR w1 e1 f1 h=>?_;have E:eN (R::S) w1 s (je x++rest):=eI.j1 (U.j8 (S':=R::S) λb u=>(zG.1 u).elim (λe=>.inr oJ) .inl) (Fr.mono f1 λb h _=>nomatch h) λb u=>.inl u;rw[je,zV] at E;refine G0 (h.at (i:=1) rfl) E (zN _ G) (by rw[p8];exact I.1) oM λs2 w2 b2 r2 f2=>?_;have h:=DZ h 1 rfl f2 b2;refine G0 (h.at (i:=1) rfl) r2 (zN _ G) (by rw[p8];exact I.2) oM λs3 w3 b3 r3 f3=>?_;have h:=DZ h 1 rfl f3 b3;exact h.sz 0 rfl #[.w x.1,.w x.2] λw4 h f4=>IR h 0 rfl x<|V s3 w4 (h.at (i:=1) rfl) (r3.j1 (f4.mono λb h _=>by rw[zE.1 h];exact Is) λb u=>.inl (zN _ u)) h.fr
def vZ (m r:Nat):Array IL:=((List.range m).map λi=>Value.pointer (some ⟨r,2*i,none⟩)).toArray
def qzN{G:IS}{r9 I R:Nat}{P9 T7 T5:IM}{z:List IL}{E:WP}(hm:ids.length=m)(h5:m<=5)(hz:2*m<=z.length)(h:ef S w0 w ((r9,.c (vZ m I) P9)::(I,.c z.toArray T7)::(R,.c #[s.v] T5)::L))(J:eN G w s (ids.flatMap je++rest))(ad:R∈G)(ae:I∈G)(hW:∀x∈ids,uy x)(kk:∀U w',ef S w0 w' ((r9,.c (vZ m I) P9)::(I,.c (ids.flatMap kG++z.drop (2*m)).toArray T7)::(R,.c #[U.v] T5)::L)->eN G w' U rest->E w'): loop Int (λX x w=>cond (decide (x<(m:Int))) (idx ⟨pW r9,m,m⟩ x 1 λa=>ld .ptr a w λp=>cW 119 [dS R] [.agg dj] w λt w'=>nn p λa=>st a [.w t.1,.w t.2] w' λw2=>X (wrap .i64 (x+1)) w2) (E w)) 0 w:=by
 refine jv (λx w'=>∃i:Nat,∃U,x=i/\i<=m/\ef S w0 w' ((r9,.c (vZ m I) P9)::(I,.c ((ids.take i).flatMap kG++z.drop (2*i)).toArray T7)::(R,.c #[U.v] T5)::L)/\eN G w' U ((ids.drop i).flatMap je++rest)) (λx _=>m-x.toNat) ⟨0,s,rfl,yX _,h,J⟩ ?_;rintro x w1 ⟨i,s1,rfl,hi,h,J⟩ X hX;apply eB<;>intro V;have V:=zC V;have u:i<m:=oJ;refine vg oJ oJ ?_;rw[zJ,xU,xT];refine oA h 0 rfl (some ⟨I,2*i,none⟩) (by simp[vZ,u];rfl) ?_;rw[zX (by omega:i<ids.length),yH,zV] at J;refine qBb (h.at (i:=2) rfl) J ad (hW _ (zW _)) λs2 w2 b2 r2 f2=>?_;have h:=DZ h 2 rfl f2 b2;have hA:((ids.take i).flatMap kG).length=2*i:=(by rw[qI wT,yL];omega);have hZ:z.drop (2*i)=(z.drop (2*i)).take 2++z.drop (2*(i+1)):=(by rw[show 2*(i+1)=2*i+2 by omega,<- xE,xF]);have af:en ((ids.take i).flatMap kG++z.drop (2*i)).toArray (2*i) (kG ids[i])=((ids.take i).flatMap kG++kG ids[i]++z.drop (2*(i+1))).toArray:=by rw[hZ,<- zV,<- hA];exact t5 (by rw[yL,yB,wT];omega)
 refine fO (h.st' 1 rfl _ af rfl (by simp[hA];omega) λw3 h f3=>?_);rw[gG _ oJ];refine hX _ _ ⟨i+1,s2,rfl,u,?_,r2.j1 (f3.mono λb h _=>by rw[zE.1 h];exact ae) λb hb=>.inl hb⟩ oJ;rw[yG (by omega:i<ids.length),yQ,flatMap_singleton];exact h;have V:=zB V;have u:i=m:=oJ;subst u;rw[zS oJ] at h;rw[Iw oJ] at J;exact kk s1 w1 h J
def qAV{G:IS}{I J u off:Nat}{R:Nat×Obj}{U T5:IM}{v:IL}{V:Int->IL}{K:WP}(h:ef S w0 w (R::(I,.c cs U)::(J,.c #[s.v] T5)::L))(hr:eN G w s (bw u n++rest))(hG:J∈G/\I∈G)(hn:0<=n/\n<256^u)(hv:V n=v)(E:Array IL)(kk:∀s' w',ef S w0 w' (R::(I,.c E U)::(J,.c #[s'.v] T5)::L)->eN G w' s' rest->K w')(hs:en cs off [v]=E:=by rfl)(h1:v.oneCell'=true:=by rfl)(hl:off+1<=cs.size:=by exact zO rfl)(h8:u<=8:=by decide): cW 120 [dS J,.i u] dv w λx w'=>Pt.st (dk I off) [V x] w' K:=by refine G0 (h.at (i:=2) rfl) hr hG.1 hn h8 λs2 w2 b2 r2 f2=>?_;have h:=DZ h 2 rfl f2 b2;rw[hv];exact h.st' 1 rfl E hs (by simp[h1]) hl λw3 h f3=>kk s2 w3 h (r2.j1 (f3.mono λb h _=>by rw[zE.1 h];exact hG.2) λb hb=>.inl hb)
end
section
abbrev u2:List Cell:=dj
def Bf (w0 w:IK) (s:Sl) (l:IT) (n:Nat):Prop:=l.length=n/\∃B,gb w s l B/\Fr [] w0 w/\∀b∈B,w0.heap.size<=b
section
variable {w0 w w':IK} {s b:Sl} {l:IT} {k:Nat} {n:Int} {K:Sl->WP}
def Bf.fr(h:Bf w0 w s l k):Fr [] w0 w:=h.2.elim λ_ h=>h.2.1
def Bf.len(h:Bf w0 w s l k):s.len=k:=h.1▸h.2.elim λ_ h=>h.1.len
def Bf.down(h:Bf w w' s l k)(f:Fr [] w0 w):Bf w0 w' s l k:=⟨h.1,h.2.elim λB q=>⟨B,q.1,f.trans q.2.1,λb u=>zL f.size (q.2.2 b u)⟩⟩
def Bf.new(h:Bf w0 w s l k):lz w0 w s l:=h.2.elim λ_ h=>wU h.1 h.2.2
def Bf.q8(h:Bf w0 w s l k)(f:Fr [] w w'):Bf w0 w' s l k:=h.2.elim λB q=>⟨h.1,B,q.1.q8 f,q.2.1.trans f,q.2.2⟩
def Bf.of{B':IS}{l':IT}(h:Bf w0 w b l k)(I:gb w b l B)(E:∀x∈B,w0.heap.size<=x)(G:l'.length=m)(b':gb w' s (l++l') B')(f:Fr B w w')(n':∀x∈B',x∈B\/w.heap.size<=x):Bf w0 w' s (l++l') (k+m):=
 ⟨by rw[zF,h.1,G],B',b',h.fr.J0 f λx u=>.inr (E x u),λx u=>(n' x u).elim (E x) (zL h.fr.size)⟩
def Bf.vG(h:Bf w0 w b l k)(u:∀s w',Bf w0 w' s (l++bw 2 n) (k+2)->K s w')(E:k<=1000:=by decide):cW 135 [b.v,.int .u16 n,.i 2] dl w K:=by obtain⟨B,q,f,G⟩:=h.2;exact qzU q (by rw[h.1];exact E) λs B' w' b' I n'=>u s w' (h.of q G (lI _ _) b' I n')
def Bf.zt(h:Bf w0 w b l k)(E:∀s w',Bf w0 w' s (l++bw 4 n) (k+4)->K s w')(G:k<=1000:=by decide):cW 133 [b.v,.u n,.i 4] dl w K:=by obtain⟨B,q,f,I⟩:=h.2;exact qzV q (by rw[h.1];exact G) λs B' w' b' J n'=>E s w' (h.of q I (lI _ _) b' J n')
def Bf.uk(h:Bf w0 w b l k)(u:∀s w',Bf w0 w' s (l++bw 8 n) (k+8)->K s w')(E:k<=1000:=by decide):cW 134 [b.v,.w n,.i 8] dl w K:=by obtain⟨B,q,f,G⟩:=h.2;exact qzW q (by rw[h.1];exact E) λs B' w' b' I n'=>u s w' (h.of q G (lI _ _) b' I n')
def Ha{r:Nat}(u:w.heap[r]?=some (.c (ids.flatMap kG).toArray T))(E:ids.length=m)(G:m<=5)(I:∀s w',Bf w w' s (ids.flatMap je) (16*m)->K s w'): cW 103 [.slice none 0 0,.slice (pW r) m m] dl w K:=by subst E;have J:eI kG 2 [] w ⟨pW r,ids.length,ids.length⟩ ids:=fj.jQ wT (fj.fresh wT u rfl (zM _) (by rw[size_toArray,qI wT];exact zM _) (zS (by rw[qI wT];exact zM _))) λ_ _ h=>nomatch h;exact qyR J G λs B w' b f n=>I s w' ⟨DG _,B,b,f,n⟩
def eI.max{α:Type}{enc:α->List IL}{k n:Nat}{w:IK}{s:Sl}{l:List α}{hi:Int}{K:Sl->Prop}(h:eI enc k S w s l)(U:hi=n)(R:n<=l.length)(h0:0<n)(V:∀E,E.len=n->eI enc k S w E (l.take n)->K E):fM s none (some hi) (some hi) k K:=by obtain⟨h1,h2,G⟩:=h;subst U;unfold fM;refine⟨by simp;omega,V _ oL ⟨by simp;omega,oL,.inr ?_⟩⟩;rcases G with G|⟨bl,o,cs,T,fr,ha,I,J,hc⟩;rw[G] at R;simp at R;omega;refine⟨bl,o,cs,T,fr,?_,I,J,λi x u=>?_⟩;simp only[xX,xW,zJ];rw[iN oO,ha];simp[Addr.j3];rw[xB] at u;split at u;exact hc i x u;cases u
end
def p8u{x:Int}(h:IntKind.u64.has x):0<=x/\x<256^8:=by rw[p8];exact qm h
abbrev lN (x:jf):Prop:=IntKind.u64.has x.1/\IntKind.u64.has x.2
def lN.ok(h:lN x):uy x:=⟨qm h.1,qm h.2⟩
def qA6{a b c d:jf}(u:lN a)(E:lN b)(G:lN c)(I:lN d):∀x∈[a,b,c,d],uy x:=λx h=>by simp at h;rcases h with rfl|rfl|rfl|rfl;exact u.ok;exact E.ok;exact G.ok;exact I.ok
def nO (a:HL ll):jf:=(a.1,a.2.1)
def rB:HL ll->IT:=λ(_,_,h,u,E,G,I,J,R,U,t,l,k,f,n)=>je (h,u)++(je (E,G)++(je (I,J)++(je (R,U)++(bw 8 t++(bw 4 l++(bw 2 k++(bw 2 f++bw 8 n)))))))
def sG (a:HL ll):IT:=je (nO a)++rB a
def qrj(a:HL ll):(rB a).length=88:=by obtain⟨h,u,E,G,I,J,R,U,V,d1,t,l,k,f,n⟩:=a;simp only[rB,zF,mV,lI]
def qxU(a:HL ll):(sG a).length=104:=by rw[sG,zF,mV,qrj]
def qv0{a:HL ll}(kk:∀s w',Bf w w' s (sG a) 104->K s w'): cW 99 [Il ll a] dl w K:=by
 obtain⟨u,E,G,I,J,R,U,V,d0,d1,t,l,k,f,n⟩:=a;refine qiV<|oB (oE [] w) λr1 w1 e1 f1 h=>IR h 0 rfl (u,E) (IR h 0 rfl (G,I) (IR h 0 rfl (J,R) (IR h 0 rfl (U,V) (IR h 0 rfl (d0,d1) ?_))));refine oB h λr8 w2 e2 f2 h=>Ha (ids:=[(u,E),(G,I),(J,R),(U,V),(d0,d1)]) (h.at (i:=0) rfl) rfl oM λs3 w3 q=>?_;have h3:=(h.q8 q.fr).drew;refine IQ h3 1 rfl t (IQ h3 1 rfl l ?_);refine (q.q8 (Fr.refl [] w3).drew).uk λs4 w4 q=>iS ((h.q8 q.fr).cell 1) (q.zt λs5 w5 q=>?_);have h5:=(h.q8 q.fr).drew;refine IQ h5 1 rfl k (IQ h5 1 rfl f (IQ h5 1 rfl n ?_));refine (q.q8 (Fr.refl [] w5).drew).vG λs6 w6 q=>kV ((h.q8 q.fr).cell 1) ((h.q8 q.fr).cell 1) (q.vG λs7 w7 q=>?_);refine iS ((h.q8 q.fr).cell 1) (q.uk λs8 w8 q=>?_);have e:[(u,E),(G,I),(J,R),(U,V),(d0,d1)].flatMap je++bw 8 t++bw 4 l++bw 2 k++bw 2 f++bw 8 n=sG (u,E,G,I,J,R,U,V,d0,d1,t,l,k,f,n):=by simp only[yH,flatMap_nil,sG,nO,rB,zV,xI,xJ]
 rw[e] at q;exact kk s8 w8 (q.down (f1.trans f2))
def quu{a:HL ll}{K:Sl×Sl->WP}(I:∀s t w',lz w w' s (je (nO a))->lz w w' t (rB a)->Fr [] w w'->K (s,t) w'): cW 52 [Il ll a] du w K:=by refine qh7<|oB (oE [] w) λV w1 e1 u h=>IR h 0 rfl a<|qv0 λs w2 q=>?_;have hl:=qxU a;have J:=q.len;refine eI.max (n:=16) q.new rfl oJ oM λR _ E=>eI.part q.new 16 104 rfl (by rw[xX,J]) oM oJ λU _ G _=>?_;rw[sG,take_left' (mV _)] at E;rw[zS oJ,sG,drop_left' (mV _)] at G;exact I R U _ (lz.up E u.size) (lz.up G u.size) ((u.trans q.fr).drew)
end
def qAg{r:Nat}{m:IT}(G:w.heap[r]?=some (.c #[s.v,t.v] T))(I:eN [] w s l)(J:eN [] w t m)(V:l.length+m.length<=1000)(R:∀u w',eN [] w' u (l++m)->Fr [] w w'->K u w'):cW 88 [.slice (pW r) 2 2] dl w K:=by have U:jK [] w ⟨pW r,2,2⟩ [(s,l),(t,m)]:=⟨fj.jQ wX (fj.fresh wX G rfl (zM _) (zM _) rfl) (λ_ _ h=>nomatch h),λp E=>by rcases zG.1 E with rfl|E;exact I;rw[zE.1 E];exact J⟩;have e:(gH [(s,l),(t,m)]).flatten=l++m:=(by simp[gH]);refine qpl (s:=⟨pW r,2,2⟩) U (zO rfl) (by rw[e,zF];omega) λu B w' b f n=>R u w' ?_ f;rw[e] at b;exact b.jQ lY λ_ _ h=>nomatch h
def rm (t:HL qd):jf:=(t.1,t.2.1)
def qr:HL qd->IT:=λ(_,_,h,u,E,G,I,J,R,U,t,o,l,k,f,n)=>je (h,u)++(je (E,G)++(je (I,J)++(je (R,U)++(bw 8 t++(bw 4 o++(bw 4 l++(bw 2 k++(bw 2 f++bw 8 n))))))))
def rg (a:HL qd):IT:=je (rm a)++qr a
def Ek(a:HL qd):(qr a).length=92:=by obtain⟨h,u,E,G,I,J,R,U,V,d1,t,o,l,k,f,n⟩:=a;simp only[qr,zF,mV,lI]
def qyN(a:HL qd):(rg a).length=108:=by rw[rg,zF,mV,Ek]
def qv2{a:HL qd}(kk:∀s w',Bf w w' s (rg a) 108->K s w'): cW 102 [Il qd a] dl w K:=by
 obtain⟨u,E,G,I,J,R,U,V,d0,d1,t,o,l,k,f,n⟩:=a;refine qh8<|oB (oE [] w) λr1 w1 e1 f1 h=>IR h 0 rfl (u,E) (IR h 0 rfl (G,I) (IR h 0 rfl (J,R) (IR h 0 rfl (U,V) (IR h 0 rfl (d0,d1) ?_))));refine oB h λr8 w2 e2 f2 h=>Ha (ids:=[(u,E),(G,I),(J,R),(U,V),(d0,d1)]) (h.at (i:=0) rfl) rfl oM λs3 w3 q=>?_;have h3:=(h.q8 q.fr).drew;refine IQ h3 1 rfl t (IQ h3 1 rfl o (IQ h3 1 rfl l ?_));refine (q.q8 (Fr.refl [] w3).drew).uk λs4 w4 q=>kV ((h.q8 q.fr).cell 1) ((h.q8 q.fr).cell 1) (q.zt λs5 w5 q=>?_);refine iS ((h.q8 q.fr).cell 1) (q.zt λs5 w5 q=>?_);have h5:=(h.q8 q.fr).drew;refine IQ h5 1 rfl k (IQ h5 1 rfl f (IQ h5 1 rfl n ?_));refine (q.q8 (Fr.refl [] w5).drew).vG λs6 w6 q=>kV ((h.q8 q.fr).cell 1) ((h.q8 q.fr).cell 1) (q.vG λs7 w7 q=>?_);refine iS ((h.q8 q.fr).cell 1) (q.uk λs8 w8 q=>?_);have e:[(u,E),(G,I),(J,R),(U,V),(d0,d1)].flatMap je++bw 8 t++bw 4 o++bw 4 l++bw 2 k++bw 2 f++bw 8 n=rg (u,E,G,I,J,R,U,V,d0,d1,t,o,l,k,f,n):=by simp only[yH,flatMap_nil,rg,rm,qr,zV,xI,xJ]
 rw[e] at q;exact kk s8 w8 (q.down (f1.trans f2))
def eI.vX{b n c o cap:Nat}{L:IT}(h:eN S w ⟨pW b,n,c⟩ L)(G:o+m<=L.length)(I:m<=cap)(h0:0<m):eN S w ⟨some (dk b o),m,cap⟩ ((L.drop o).take m):=by
 obtain⟨h1,h2,E⟩:=h;refine⟨by simp;omega,I,.inr ?_⟩;rcases E with E|⟨bl,o',J,T,R,U,V,hS,hx⟩;subst E;simp at G;omega;cases U;refine⟨b,o,J,T,R,rfl,V,hS,λi x u=>?_⟩;rw[xB] at u;split at u;rw[xA] at u
 have:=hx (o+i) x u;rw[<- this];congr 2;omega;cases u
def qzf{E n c o:Nat}{ys:IT}{a:Sl}(U:w.heap[E]?=some (.c cs T))(h0:w0.heap.size<=E)(hn:n=l.length)(hc:n<=c)(V:c<=cs.size)(hl:cs.toList.take l.length=l.map (Value.int .u8))(f0:Fr [] w0 w)(ho:0<o/\o<n)(hr:eN [] w a ys)(hy:l.length+ys.length<=1000)(kk:∀s' w',lz w0 w' s' (l.drop o++ys)->lz w0 w' ⟨pW E,o,o⟩ (l.take o)->Fr [E] w w'->K s' w'): Pt.run dl ((Builtin.append_ #[101,101] 101 #[.slice (some (dk E o)) (n-o) (c-o),a.v]).run Tryz.prog w) K:=by
 obtain⟨i,hi,hz,I,af⟩:=wQ;subst hn;have ag:=hr.1;have aa:gb w ⟨pW E,l.length,c⟩ l [E]:=fj.one (e:=Value.int .u8) (λ_=>rfl) U rfl hc V hl;have hR:lz w0 w ⟨pW E,l.length,c⟩ l:=wU aa λb h=>by rw[zE.1 h];exact h0
 have G:=uU (P:=Tryz.prog) (tx:=101) (e':=5) hr lY (λx u hu=>by rw[zE.1 hu];rfl) oK;rw[sC] at G;have ab:eN [] w ⟨some (dk E o),l.length-o,c-o⟩ (l.drop o):=by
  have:=eI.vX (o:=o) (m:=l.length-o) (cap:=c-o) hR.rd oJ oJ oJ;rwa[zS oL] at this
 by_cases hroom:l.length+ys.length<=c;have aA:=G.newsLen;have hk:(l.length-o)+a.len<=c-o:=oJ;have e0:o+(l.length-o)*1=l.length:=oJ;refine uS ⟨_,_,_⟩ _ (run_append_room_src w 101 101 101 5 i oK hi E o (l.length-o) (c-o) _ a.len _ (by rw[I];exact G) hk (λj hj=>?_) λj hj=>?_) ?_;rw[I,e0,jC U];rw[zK] at hj;have:l.length+j<cs.size:=oJ;simp[this];simp[World.frozen?,U];rw[xo U,I,e0];have J:(iz w E (.c (en cs l.length (ys.map (Value.int .u8))) T)).heap[E]?=some (.c (en cs l.length (ys.map (Value.int .u8))) T):=(by rw[pf _ _ _ _ (eO U),iP rfl]);have R:gb _ ⟨pW E,(l++ys).length,c⟩ (l++ys) [E]:=fj.one (e:=Value.int .u8) (λ_=>rfl) J rfl (by rw[zF];exact hroom) (by rw[nT];exact V) (by rw[qJ _ _ _ oO,hl,xO,zF,Ir oL];exact zS oL);have ad:lz w0 _ ⟨pW E,(l++ys).length,c⟩ (l++ys):=wU R λb h=>by rw[zE.1 h];exact h0
 refine kk _ _ ?_ ?_ (oQ (eO U) _);have:=eI.vX (o:=o) (m:=l.length-o+a.len) (cap:=c-o) ad (by rw[zF];omega) hk oJ;rwa[Ix oJ,zS oO] at this;have:=eI.vX (o:=0) (m:=o) (cap:=o) ad (by rw[zF];omega) (zM _) ho.1;rwa[xG,Ir oJ] at this;have ah:=ab.cells lY rfl;refine qtC (m:=a.len) (e:=5) (olds:=(l.drop o).map (Value.int .u8)) (news:=ys.map (Value.int .u8)) oK hi hz I rfl oL (λj u hj=>?_) G oJ (by rw[af];omega) oJ λb' cs c' w' eb J f ai ae ht=>?_;rw[<- sC] at hj;exact ah j u hj;have aj:gb w' ⟨pW b',l.length-o+a.len,c'⟩ (l.drop o++ys) [b']:=fj.one (e:=Value.int .u8) (λ_=>rfl) J oO ai ae (by rw[zF,yB,<- ag,ht,xO]);refine kk _ w' (wU aj λb h=>by rw[zE.1 h,eb];exact f0.size) ?_ (f.mono λ_ h _=>nomatch h);have:=eI.vX (o:=0) (m:=o) (cap:=o) (hR.q8 f) oJ (zM _) ho.1;rwa[xG] at this
def qri{K:jf×Bool->WP}(G:eN [] w s (je x))(E:uy x)(kk:∀w',Fr [] w w'->K (x,true) w'): cW 42 [s.v] [.agg dj,.one .bool] w K:=by refine qsN ?_;have U:=G.1;rw[mV] at U;refine oB (oE [] w) λr1 w1 e1 f1 h=>Io (by rw[U];rfl) (oB h λr5 w2 e2 f2 h=>?_);have l0:=lI 8 x.1;have l1:=lI 8 x.2;refine jv (λq w'=>∃i:Nat,q=i/\i<=8/\ef [] w w' [(r5,.c #[.w (pj ((bw 8 x.1).take i)),.w (pj ((bw 8 x.2).take i))] vh),(r1,.c dd vh)]) (λq _=>8-q.toNat) ⟨0,rfl,oM,h⟩ ?_;rintro q w3 ⟨i,rfl,hi,h⟩ X hX;apply cD<;>intro I;have u:i<8:=oJ;have J:(je x)[i]?=some ((bw 8 x.1)[i]' oJ):=(by rw[je,yZ oJ,zA oJ]);have R:(je x)[8+i]?=some ((bw 8 x.2)[i]' oJ):=(by rw[je,yY oJ,l0,vE,zA oJ]);rw[gG (8+(i:Int)) oJ,gG ((i:Int)+1) oJ];refine oA h.drew 0 rfl _ rfl (eN.at (G.q8 h.drew.fr) i rfl J ?_);rw[CU (qi _ _) oJ u];refine h.drew.sz 0 rfl #[.w (pj ((bw 8 x.1).take (i+1))),.w (pj ((bw 8 x.2).take i))] λV h _=>oA h.drew 0 rfl _ rfl (eN.at (G.q8 h.drew.fr) (8+i) oJ R ?_);rw[CU (qi _ _) oJ u];exact h.drew.sz 0 rfl #[.w (pj ((bw 8 x.1).take (i+1))),.w (pj ((bw 8 x.2).take (i+1)))] λw5 h _=>hX _ _ ⟨i+1,rfl,u,h⟩ oJ;have u:i=8:=oJ;subst u;rw[zS oJ,zS oJ,vw 8 E.1.1 (by rw[p8];exact E.1.2),vw 8 E.2.1 (by rw[p8];exact E.2.2)] at h;refine IR h 0 rfl x (h.st' 1 rfl _ (mR rfl) rfl (zM _) λV h _=>?_);exact IR h 1 rfl x (kk V h.fr)
def E2{K:Int->WP}(h:eN S w s (bw 8 n))(u:lQ n)(E:K n w):cW 85 [s.v] dv w K:=
 quz h (qi _ _) (by rw[lI];decide) (by rw[vw 8 u.1 (by rw[p8];exact u.2)];exact E)
def qut{m:Int}{K:Int×Int×Bool->WP}(h:eN [] w s (lp n m))(I:lQ n)(J:lQ m)(R:K (n,m,true) w.drew): cW 48 [s.v] dO w K:=by refine qqD ?_;have u:=h.1;rw[zm] at u;refine Io (by rw[u];rfl) (eI.part h 0 8 rfl rfl oM (by rw[zm];decide) λU _ E _=>eI.part h 8 16 rfl (by rw[xX,u]) oM (by rw[zm];decide) λV _ G _=>?_);rw[lp,xG,take_left' (lI _ _)] at E;rw[zS (by rw[zm];decide),lp,drop_left' (lI _ _)] at G;exact E2 E.drew I (E2 G.drew J R)
def qvU{K:jf×Int×Bool->WP}(u:eN [] w s (gu x n))(J:uy x)(R:lQ n)(U:∀w',Fr [] w w'->K (x,n,true) w'): cW 41 [s.v] [.agg dj,.one (.w),.one .bool] w K:=by refine qrV ?_;have E:=u.1;rw[wo] at E;refine oB (oE [] w) λr1 w1 e1 V h=>Io (by rw[E];rfl) (eI.part (u.q8 V) 0 16 rfl rfl oM (by rw[wo];decide) λs1 _ G _=>?_);rw[gu,xG,take_left' (mV _)] at G;refine qri G J λw2 f2=>oB (h.q8 f2) λr8 w3 e3 f3 h=>h.sz 0 rfl #[.w x.1,.w x.2] λw4 h _=>IR h.drew 0 rfl x (eI.part (u.q8 h.drew.fr) 16 24 rfl (by rw[xX,E]) oM (by rw[wo];decide) λs2 _ I _=>?_);rw[zS (by rw[wo];decide),gu,drop_left' (mV _)] at I;refine E2 I R (iS (h.drew.cells 0) ?_);exact h.drew.sz 1 rfl #[.w x.1,.w x.2] λw5 h _=>IR h 1 rfl x (U w5 h.fr)
def qnc{e i0 u:Int}{K:Sl×Sl->WP}(J:∀s t w',lz w w' s (lp e n)->lz w w' t (je (i0,u))->Fr [] w w'->K (s,t) w'): cW 60 [.agg #[.w e,.w n,.w i0,.w u]] du w K:=by refine qlt<|oB (oE [] w) λr1 w1 e1 E h=>IQ h.drew 0 rfl e (IQ h.drew 0 rfl n (IR h.drew 0 rfl (i0,u) ?_));refine qtv λs w2 R G=>iS ((h.drew.q8 G).cells 0) (An λr3 U V I=>?_);have f:=E.drew.trans G;exact J s _ U ((R.up E.size).q8 I) (V.up f.size) (f.trans I)
def qux{e:Int}{K:I9×Bool->WP}(E:eN [] w s (lp e n))(G:eN [] w t (je x))(I:lQ e)(J:lQ n)(R:uy x)(U:∀w',Fr [] w w'->K ((e,n,x.1,x.2),true) w'): cW 36 [s.v,t.v] [.agg [.w,.w,.w,.w],.one .bool] w K:=by refine qlv<|oB (oE [] w) λr1 w1 e1 u h=>qut (E.q8 u) I J<|qri (G.q8 u.drew) R λw2 V=>oB (h.drew.q8 V) λr7 w3 e3 f3 h=>h.sz 0 rfl #[.w x.1,.w x.2] λw4 h _=>uu false w4 (λM hM=>Io rfl hM) (Io rfl ?_);refine IR h 0 rfl x (h.sz 1 rfl #[.w e,.w n,.w x.1,.w x.2] λw5 h _=>?_);exact IR h 1 rfl (e,n,x.1,x.2) (U w5 h.fr)
abbrev Gp:IM:=79
abbrev Kp:=HL qd×jf
def tg (k:Kp):List IL:=HL.mk qd k.1++kG k.2
def vt (k:Kp):IT:=qr k.1++je k.2
def wl(k:Kp):(tg k).length=18:=rfl
def qt4(k:Kp):(vt k).length=108:=by rw[vt,zF,Ek,mV]
def kpZ:Kp:=((0,0,0,0,0,0,0,0,0,0,0,0,0,0,0,0),(0,0))
def quw{k:Kp}{K:Sl×Sl->WP}(kk:∀s t w',lz w w' s (je (rm k.1))->lz w w' t (vt k)->Fr [] w w'->K (s,t) w'): cW 59 [.agg (tg k).toArray] du w K:=by
 refine qhs<|oB (oE [] w) λr1 w1 e1 f1 h=>IR h 0 rfl k.1 (qv2 λs w2 q=>?_);have hl:=qyN k.1;obtain⟨B,hb,f2,hB⟩:=q.2;obtain⟨u,cs,T,rfl,ha,J,hn,hc,R,ht⟩:=hb.ptr (by intro h;rw[h] at hl;simp at hl);obtain⟨sa,sn,sc⟩:=s;dsimp only at ha hn hc R;subst ha;have U:w1.heap.size<=u:=hB u (zE.2 rfl);rw[sC] at ht;unfold fM;refine⟨by simp;omega,by simp;omega,?_⟩;simp only[xX,xW];rw[iN oO,iN oL];simp only[Option.map_some,Addr.j3];have h:=(h.q8 f2).drew;refine IR h 0 rfl k.2 (oB h λr9 w3 e3 f3 h=>?_);have G:eI kG 2 [u] w3 ⟨pW r9,1,1⟩ [k.2]:=fj.jQ wT (fj.fresh wT (h.at (i:=0) rfl) rfl (zM _) (zM _) rfl) λb hb h=>by have:=zE.1 hb;have:=zE.1 h;have:u<w2.drew.heap.size:=eO J;omega
 have ad:Fr [] w2 w3:=(Fr.refl [] w2).drew.trans f3;have hV:(rg k.1).drop 16=qr k.1:=(by rw[rg,drop_left' (mV _)]);have hI:(rg k.1).take 16=je (rm k.1):=(by rw[rg,take_left' (mV _)]);have ae:qr k.1≠vt k:=λe=>by have:=IH List.length e;rw[Ek,qt4] at this;omega
 refine qqz (b:=⟨some (dk u 16),sn-16,sc-16⟩) (l:=qr k.1) (I:=λs l' w'=>(s=⟨some (dk u 16),sn-16,sc-16⟩/\l'=qr k.1/\Fr [] w3 w')\/(l'=vt k/\lz w w' s (vt k)/\lz w w' ⟨pW u,16,16⟩ (je (rm k.1))/\Fr [] w w')) (.inl ⟨rfl,rfl,.refl _ _⟩) (λs l w' aE q f=>q.elim (λq=>.inl ⟨q.1,q.2.1,q.2.2.trans f⟩) λq=>.inr ⟨q.1,q.2.1.q8 f,q.2.2.1.q8 f,q.2.2.2.trans f⟩) (G.j8 λ_ h=>nomatch h) (zO rfl) (λi s l' w4 a x K' hi hx E q r4 ra k'=>?_) λs w4 q=>?_;have ah:i=0:=(by simp at hi;exact hi);subst ah;cases hx;rcases q with ⟨rfl,E,V⟩|⟨e,_⟩;have ai:w4.heap[u]?=some (.c cs T):=(by rw[(ad.trans V).block u (eO J) λh=>nomatch h];exact J);refine qzf (w0:=w) (o:=16) ai (zL f1.size U) hn hc R ht (h.fr.trans V) oJ ra (by rw[hl,mV];decide) λs5 w5 h5 h6 f5=>?_;rw[hV] at h5;rw[hI] at h6;rw[E] at k';exact k' s5 w5 (.inr ⟨rfl,h5,h6,(h.fr.trans V).J0 f5 λb h=>.inr (by rw[zE.1 h];exact zL f1.size U)⟩) (((G.q8 V).j1 f5 λb h=>.inl h).j8 λ_ h=>nomatch h);rw[e] at E;exact absurd (oP E.symm) ae;rcases q with ⟨_,e,_⟩|⟨_,q1,q2,q3⟩
 have:=IH List.length e;rw[zF,DG,Ek] at this;simp at this;exact kk _ s w4 q2 q1 q3
def vr (k:Kp):Prop:=jX qd k.1/\lN k.2
def qS:HL mt->IT:=λ(h,u,E,G,I,J,R,U,n)=>je (h,u)++(je (E,G)++(je (I,J)++je (R,U)))
def lV (a:HL mt):Int:=a.2.2.2.2.2.2.2.2
def rh (a:HL mt):IT:=qS a++bw 8 (lV a)
def B0(a:HL mt):(qS a).length=64:=by obtain⟨h,u,E,G,I,J,R,U,n⟩:=a;simp only[qS,zF,mV]
def qrl(a:HL mt):(rh a).length=72:=by rw[rh,zF,B0,lI]
def qv1{a:HL mt}(kk:∀s w',Bf w w' s (rh a) 72->K s w'): cW 146 [Il mt a] dl w K:=by
 obtain⟨u,E,G,I,J,R,U,V,n⟩:=a;refine qiW<|oB (oE [] w) λr1 w1 e1 f1 h=>?_;have h:=h.drew;refine IR h 0 rfl (u,E) (IR h 0 rfl (G,I) (IR h 0 rfl (J,R) (IR h 0 rfl (U,V) (IQ h 0 rfl n ?_))));refine oB h λr8 w2 e2 f2 h=>iS (h.cell 1)<|Ha (ids:=[(u,E),(G,I),(J,R),(U,V)]) (h.at (i:=0) rfl) rfl oM λs3 w3 q=>iS ((h.q8 q.fr).cell 1) (q.uk λs4 w4 q=>?_);have e:[(u,E),(G,I),(J,R),(U,V)].flatMap je++bw 8 n=rh (u,E,G,I,J,R,U,V,n):=by simp only[yH,flatMap_nil,rh,lV,qS,zV,xI,xJ]
 rw[e] at q;exact kk s4 w4 (q.down h.fr)
def qpo{a:HL mt}{K:HL mt×Bool->WP}(hr:eN [] w s (rh a))(ha:jX mt a)(kk:∀w',Fr [] w w'->K (a,true) w'): cW 87 [s.v] [.agg mt,.one .bool] w K:=by
 refine qiU ?_;have hl:=hr.1;rw[qrl] at hl;obtain⟨u,E,G,I,J,R,U,V,n⟩:=a;obtain⟨aa,ab,ac,ad,ae,af,ag,ah,hn⟩:=ha;refine oB (oE [] w) λr1 w1 e1 f1 h=>Io (by rw[hl];rfl)<|oB h λr5 w2 e2 f2 h=>oB h λr7 w3 e3 f3 h=>oB h λr9 w4 e4 f4 h=>?_;have hG:eN [r5,r7,r1] w4 s ([(u,E),(G,I),(J,R),(U,V)].flatMap je++(bw 8 n++[])):=by
  have:=eI.q8 (hr.j8 (S':=[r5,r7,r1]) λb hb=>.inr (by have:=f1.size;have:=f2.size;simp at hb;omega)) h.fr;simpa only[yH,flatMap_nil,rh,lV,qS,zV,xI,xJ] using this
 refine qzN (m:=4) (P9:=_) rfl oM oM h hG oL oL (qA6 ⟨aa,ab⟩ ⟨ac,ad⟩ ⟨ae,af⟩ ⟨ag,ah⟩) λs5 w5 h ai=>qAV h ai oL (p8u hn) rfl (HL.mk mt (u,E,G,I,J,R,U,V,n)).toArray λs6 w6 h r6=>IR h 1 rfl (u,E,G,I,J,R,U,V,n) (h.st' 3 rfl _ (mR rfl) rfl (zM _) λaj h az=>?_);exact IR h 3 rfl (u,E,G,I,J,R,U,V,n) (kk aj h.fr)
def pX:HL ka->Int:=λ(_,_,_,_,_,_,_,_,_,s)=>s
def jM:HL ka->HL mt:=λ(h,u,E,G,I,J,R,U,n,_)=>(h,u,E,G,I,J,R,U,n)
def pG (r:HL ka):IT:=pX r::qS (jM r)
def D9(r:HL ka):(pG r).length=65:=by rw[pG,yI,B0]
def quv{a0 I:Int}{K:Sl×Sl->WP}(kk:∀s t w',lz w w' s (gu (a0,I) (lV (jM r)))->lz w w' t (pG r)->Fr [] w w'->K (s,t) w'): cW 111 [di a0 I,Il ka r] du w K:=by
 refine qlu<|oB (oE [] w) λr1 w1 e1 f1 h=>oB h λr3 w2 e2 f2 h=>IR h 0 rfl (jM r) (qv1 λs w3 q=>?_);have h:=(h.q8 q.fr).drew;have hq:=(q.new.q8 (Fr.refl [] w3).drew).rd;have hn:(lV (jM r))=r.2.2.2.2.2.2.2.2.1:=rfl;have hx:(rh (jM r)).take 64=qS (jM r):=(by rw[rh,take_left' (B0 _)]);have al:=qrl (jM r);have am:=B0 (jM r);simp only[Addr.j3];refine⟨?a,?b⟩;case' a=>refine IR h 1 rfl (a0,I) (IQ h 0 rfl (lV (jM r)) (IQ h 0 rfl (pX r) (eI.part hq 0 64 rfl rfl oM oJ λs4 _ J _=>AM λR w5 U u=>?_)))
 case' b=>refine IR h 1 rfl (a0,I) (IQ h 0 rfl (lV (jM r)) (IQ h 0 rfl (pX r) (eI.part hq 0 64 rfl rfl oM oJ λs4 _ J _=>?_)))
 all_goals rw[xG,hx] at J
 case a=>
  have h:=h.q8 u;refine iS (h.cell 0) (oB h λr6 w6 e6 E h=>kV (h.cell 1) (h.cells 2) ?_);exact Eb (w:=w6) (l:=[pX r]) (wK (o:=0) (n:=1) (L:=[pX r]) (h.at (i:=0) rfl) (zM _) (zM _) λh=>nomatch h) ((J.q8 u).q8 E) oJ oO λV B7 w7 b7 G n7=>kk R V w7 ((U.q8 (E.trans G)).up (f1.trans (f2.trans q.fr)).size) (wU b7 λb hb=>zL h.fr.size (n7 b hb)) (h.fr.trans G)
 case b=>
  refine oB h λr6 w6 e6 E h=>kV (h.cell 1) (h.cells 2) (AM λR w5 U u=>?_);have h:=h.q8 u;exact iS (h.cell 1)<|Eb (w:=w5) (l:=[pX r]) (wK (o:=0) (n:=1) (L:=[pX r]) (h.at (i:=0) rfl) (zM _) (zM _) λh=>nomatch h) ((J.q8 E).q8 u) oJ oO λV B7 w7 b7 G n7=>kk R V w7 ((U.q8 G).up ((f1.trans (f2.trans q.fr)).drew.trans E).size) (wU b7 λb hb=>zL h.fr.size (n7 b hb)) (h.fr.trans G)
abbrev BLT:IM:=60
abbrev zh:IM:=62
def vo:HL ka:=(0,0,0,0,0,0,0,0,0,0)
def Hh:HL mt:=(0,0,0,0,0,0,0,0,0)
def Fv{p q:Nat×Obj}(h:ef S w0 w (p::q::L)):ef S w0 w (p::L):=h.sub (.cons_cons _ (IC _ _))
def qw0{p:Nat×Obj}(h:ef S w0 w (p::L)):ef S w0 w L:=h.sub (IC _ _)
def Bs{w1:IK}{K:jf×HL ka×Bool->WP}{a b c d:Nat}(h:ef [] w w1 [(a,Ik mt Hh BLT),(b,.c #[.w x.1,.w x.2] vh),(c,Ik ka vo zh),(d,.c dd vh)])(J:eN [] w t (pG r))(kk:∀w',Fr [] w w'->K (x,r,true) w'):zj t K a (jM r,true) w1 b d c:=by
 unfold zj;refine h.st' 0 rfl _ (mR rfl) rfl (zM _) λw2 h _=>?_;have h:=h.drew;refine IR h 1 rfl x (IR h 0 rfl (jM r) ?_);obtain⟨hl,b',o,R,_,cs,T,fr,G,hc⟩:=(J.q8 h.fr).at 0 (x:=pX r) rfl;have u:w2.drew.cell? ⟨b',o+0*1,none⟩=some (.b (pX r)):=by
  rw[jC G];have:=IH (·[0]?) hc;simpa[encB] using this
 refine qM R ⟨oM,oJ⟩ (oX (pX r) u ?_);have ac:b'<w.heap.size:=by rcases Nat.lt_or_ge b' w.heap.size with U|U;exact U;obtain⟨_,b2,o2,E,_,ad,T2,ae,I,_⟩:=eI.at J 0 (x:=pX r) rfl;rw[R] at E;cases E;exact eO I
 have hn:∀p,p∈[a,b,c,d]->b'≠p:=λp hp e=>by
  have:∀q∈[a,b,c,d],w.heap.size<=q:=λq V=>by simp at V;rcases V with rfl|rfl|rfl|rfl;exact (h.own _ (yF (i:=0) rfl)).elim (λh=>nomatch h) id;exact (h.own _ (yF (i:=1) rfl)).elim (λh=>nomatch h) id;exact (h.own _ (yF (i:=2) rfl)).elim (λh=>nomatch h) id;exact (h.own _ (yF (i:=3) rfl)).elim (λh=>nomatch h) id
  have:=this p hp;omega
 exact h.sz 3 rfl #[.w x.1,.w x.2] λw3 h f3=>kV (by show _=_;rw[jC (b:=b') (by show _=_;rw[f3.block b' (eO G) (by simpa using hn d oL)];exact G),<- jC G];exact u) (h.cells 0)<|h.st' 2 rfl _ (mR rfl) rfl (zM _) λw4 h _=>IR h 3 rfl x (IR h 2 rfl r (kk w4 h.fr))
def quy{K:jf×HL ka×Bool->WP}(hs:eN [] w s (gu x (lV (jM r))))(ht:eN [] w t (pG r))(hx:lN x)(hr:jX ka r)(kk:∀w',Fr [] w w'->K (x,r,true) w'): cW 45 [s.v,t.v] [.agg dj,.agg ka,.one .bool] w K:=by
 refine qlw ?_;have hl:=ht.1;rw[D9] at hl;have hb:jX mt (jM r):=⟨hr.1,hr.2.1,hr.2.2.1,hr.2.2.2.1,hr.2.2.2.2.1,hr.2.2.2.2.2.1,hr.2.2.2.2.2.2.1,hr.2.2.2.2.2.2.2.1,hr.2.2.2.2.2.2.2.2.1⟩;have hn:lQ (lV (jM r)):=qm hr.2.2.2.2.2.2.2.2.1;refine oB (oE [] w) λr1 w1 e1 f1 h=>oB h λr3 w2 e2 f2 h=>qvU (hs.q8 h.fr) hx.ok hn λw3 f3=>oB (h.q8 f3) λr7 w4 e4 f4 h=>h.sz 0 rfl #[.w x.1,.w x.2] λw5 h _=>uu false w5 (λM hM=>Io rfl (by rw[hl];exact hM)) (Io rfl ?_);have aB:=B0 (jM r);have E:∀ {w':IK} {P:Sl->Prop},Fr [] w w'->(∀s',eN [] w' s' (qS (jM r))->P s')->fM t (some 1) none none 1 P:=λf k=>eI.part (ht.q8 f) 1 65 rfl (by rw[xX,hl]) oM (by rw[D9];decide) λs6 _ R _=>k s6 (by rw[zS (by rw[D9];decide)] at R;exact R);have h:=h.drew;have ab:∀ {w':IK} {q:Nat} {T:IM} {s' t':Sl} {P:HL mt×Bool->WP},w'.heap[q]?=some (.c #[s'.v,t'.v] T)->eN [] w' s' (qS (jM r))->eN [] w' t' (bw 8 (lV (jM r)))->(∀V,Fr [] w' V->P (jM r,true) V)->
   cW 88 [.slice (pW q) 2 2] dl w' λu V=>cW 87 [u.v] [.agg mt,.one .bool] V P:=λhq an ao k=>qAg hq an ao (by rw[lI];omega) λu V hu f=>qpo hu hb λw3 f3=>k w3 (f.trans f3)
 refine⟨E h.fr λs6 R=>u0 λr9 w7 h7 J=>?_,E h.fr λs6 R=>u0 λr9 w7 h7 J=>?_,E h.fr λs6 R=>u0 λr9 w7 h7 J=>?_,E h.fr λs6 R=>u0 λr9 w7 h7 J=>?_,E h.fr λs6 R=>?_⟩;exact oB (h.q8 J) λq w8 _ I h=>ab (h.at (i:=0) rfl) ((R.q8 J).q8 I) (h7.q8 I).rd λw9 U=>oB (h.q8 U) λa ac _ _ h=>Bs (Fv h) ht kk;exact oB (h.q8 J) λq w8 _ I h=>qAg (h.at (i:=0) rfl) ((R.q8 J).q8 I) (h7.q8 I).rd (by rw[lI];omega) λu w9 hu U=>oB (h.q8 U) λa ac _ G h=>qpo (hu.q8 G) hb λaD aq=>Bs (Fv (h.q8 aq)) ht kk;exact oB (h.q8 J) λq w8 _ I h=>oB h λa w9 _ U h=>ab (h.at (i:=1) rfl) (((R.q8 J).q8 I).q8 U) ((h7.q8 I).q8 U).rd λac G=>Bs (Fv (h.q8 G)) ht kk;exact oB (h.q8 J) λa w8 _ I h=>oB h λq w9 _ U h=>ab (h.at (i:=0) rfl) (((R.q8 J).q8 I).q8 U) ((h7.q8 I).q8 U).rd λac G=>Bs (qw0 (h.q8 G)) ht kk;exact oB h λa w7 _ J h=>u0 λr9 w8 h8 I=>oB (h.q8 I) λq w9 _ U h=>ab (h.at (i:=0) rfl) (((R.q8 J).q8 I).q8 U) (h8.q8 U).rd λac G=>Bs (qw0 (h.q8 G)) ht kk
section
section
variable {k v c:Nat} {t:Int} {w0 w:IK} {s:Sl} {m:Nat} {dbk pb:Nat} {FD F B:IS} {D:dV} {M:eH} {P:IT} {L:gr}
end
def qyJ{t:Int}{k v:Nat}(h:Be t)(E:si t=((k:Int),(v:Int))):4<=(eE k v).1:=by
 obtain⟨G,I⟩:=h;have:t=0\/t=1\/t=2\/t=3\/t=4\/t=5\/t=6\/t=7:=oJ;rcases this with rfl|rfl|rfl|rfl|rfl|rfl|rfl|rfl<;>
  (obtain⟨e1,u⟩:=vC E;have e1:=Int.ofNat.inj e1;have u:=Int.ofNat.inj u;subst e1 u;decide)
end
end
section
open Go Go.Pt List
open Go.IntKind (wrap)
open Classical
end
section
open Go Go.Pt List
open Go.IntKind (wrap)
open Classical
def uZ (frm to:Key) (x:Key×Key):Bool:=decide (cmpL x.1 frm>=0)&&decide (cmpL x.1 to<=0)
def lD (frm to:Key) (L:gr):gr:=L.filter (uZ frm to)
end
section
set_option linter.unusedSectionVars false
open Go Go.Pt List
open Go.IntKind (wrap)
section
variable {α:Type} {kf vf:α->Key} {L:gr} {l:List α} {a:α} {k v:Key}
def jd {κ:Type} [DecidableEq κ] (kf:α->κ) (a:α):List α->List α
 | []=>[a]
 | x::r=>if kf x=kf a then a::r else x::jd kf a r
def qsj{κ:Type}[DecidableEq κ]{kf:α->κ}:∀ {l:List α} {i:Nat} (h:i<l.length),kf l[i]=kf a->(∀(j:Nat) (E:j<i),kf (l[j]' oJ)≠kf a)->jd kf a l=l.set i a
 | x::r,0,h,e,_=>iP e
 | x::r,i+1,h,e,u=>by have G:kf x≠kf a:=u 0 oJ;rw[jd,iN G,set_cons_succ,qsj (i:=i) (oP h) e λj E=>u (j+1) oJ]
def G3{κ:Type}[DecidableEq κ]{kf:α->κ}:∀ {l:List α},(∀x∈l,kf x≠kf a)->jd kf a l=l++[a]
 | [],_=>rfl
 | x::r,h=>by rw[jd,iN (h x oL),G3 λy u=>h y (zN _ u),xK]
def qsk{κ:Type}[DecidableEq κ]{kf:α->κ}{x:α}:∀ {l:List α},x∈jd kf a l->x=a\/x∈l
 | [],h=>.inl (zE.1 h)
 | y::r,h=>by unfold jd at h;split at h;exact (zG.1 h).imp id λh=>zN _ h;rcases zG.1 h with h|h;exact .inr (by rw[h];exact Is);exact (qsk h).imp id λh=>zN _ h
def v8{κ:Type}[DecidableEq κ]{kf:α->κ}:∀ {l:List α},(jd kf a l).length<=l.length+1
 | []=>zM _
 | y::r=>by unfold jd;split;exact Nat.le_succ _;exact Nat.succ_le_succ v8
def qoa{κ:Type}[DecidableEq κ]{kf:α->κ}{kg:α->Key}:∀ {l:List α},(∀x∈l,kf x=kf a↔kg x=kg a)->jd kf a l=jd kg a l
 | [],_=>rfl
 | y::r,h=>by have u:=h y Is;have ih:=qoa (l:=r) λx E=>h x (zN _ E);unfold jd;by_cases e:kf y=kf a;rw[iP e,iP (u.1 e)];rw[iN e,iN λG=>e (u.2 G),ih]
def qpR:∀ {L:gr},k∉eh L->(gf k v L).Perm ((k,v)::L)
 | [],_=>.refl _
 | x::r,h=>by have h:=not_mem_of_not_mem_cons h |>λu=>And.intro (λe:k=x.1=>h (by rw[e];simp)) u;unfold gf;split;exact .refl _;rw[iN h.1];exact (List.Perm.cons x (qpR h.2)).trans (List.Perm.swap _ _ _)
structure lP (kf vf:α->Key) (L:gr) (l:List α):Prop where
 sort:fD L
 nodup:(l.map kf).Nodup
 perm:L.Perm (l.map λa=>(kf a,vf a))
def lP.len(h:lP kf vf L l):L.length=l.length:=by rw[h.perm.length_eq,zK]
def lP.J8(h:lP kf vf L l):k∈eh L↔∃x∈l,kf x=k:=by rw[(h.perm.map (·.1)).mem_iff,map_map];simp
def lP.nil:lP kf vf [] []:=⟨.nil,.nil,.refl _⟩
def lP.put(h:lP kf vf L l)(a:α):lP kf vf (gf (kf a) (vf a) L) (jd kf a l):=by
 by_cases hin:∃x∈l,kf x=kf a;obtain⟨x,E,e⟩:=hin;obtain⟨P,Q,rfl⟩:=append_of_mem E;have u:=h.nodup;have J:(kf a,vf x)∈L:=h.perm.mem_iff.2 (mem_map.2 ⟨x,E,by rw[e]⟩);obtain⟨A,B,rfl⟩:=append_of_mem J;have R:=h.sort;unfold fD fY eh at R;rw[xO,xP,pairwise_append] at R;have hA:∀y∈A,fT y.1 (kf a):=λy G=>R.2.2 _ (zY G) _ oL;rw[xO,xP,yM,nodup_cons] at u;have hP:jd kf a (P++x::Q)=P++a::Q:=by
  have I:∀y∈P,kf y≠kf a:=λy G U=>u.2.2 _ (zY G) _ oL (U.trans e.symm);clear E J h u R;induction P with
  | nil=>exact iP e
  | cons y P ih=>rw[xK,jd,iN (I y oL),ih λz V=>I z (zN _ V),xK]
 rw[GL hA,hP];refine⟨by have:=C6 (k:=kf a) (v:=vf a) h.sort;rw[GL hA] at this;exact this,?_,?_⟩;rw[xO,xP,yM,nodup_cons,<- e];exact u;have hp:=h.perm;rw[xO,xP] at hp;have h1:=(perm_middle.symm.trans hp).trans perm_middle;rw[e] at h1;have h2:=List.Perm.cons_inv h1;rw[xO,xP];exact (perm_middle.trans ((h2.cons _))).trans perm_middle.symm;have hn:∀x∈l,kf x≠kf a:=λx E e=>hin ⟨x,E,e⟩;have hk:kf a∉eh L:=λJ=>hin (h.J8.1 J);rw[G3 hn];refine⟨C6 h.sort,?_,?_⟩;rw[xO,yM];exact⟨h.nodup,oL,λx E y G e=>by obtain⟨z,V,rfl⟩:=mem_map.1 E;rw[map_singleton,zE] at G;exact hn z V (e.trans G)⟩;refine (qpR hk).trans ((h.perm.cons _).trans ?_);rw[xO];exact (Iq _ _).symm
def lP.cut(h:lP kf vf L l)(k:Key):lP kf vf (gL k L) (l.filter λx=>decide (kf x≠k)):=by
 refine⟨qpA h.sort,h.nodup.sublist (filter_sublist.map _),?_⟩;have:=h.perm.filter λx=>decide (x.1≠k);rw[filter_map] at this;exact this
end
structure pU (α κ:Type) where
 key:α->κ
 g:κ->Key
 val:α->Key
 ok:α->Prop
 CH:κ->Prop
 ES:∀ a,ok a->CH (key a)
 inj:∀ k k',CH k->CH k'->g k=g k'->k=k'
section
variable {α κ:Type} [DecidableEq κ] {K:pU α κ} {L:gr} {l:List α} {a:α} {k:κ}
def mW (K:pU α κ) (L:gr) (l:List α):Prop:=lP (λa=>K.g (K.key a)) K.val L l/\∀a∈l,K.ok a
def mW.nil:mW K [] []:=⟨.nil,λ_ h=>nomatch h⟩
def mW.len(h:mW K L l):L.length=l.length:=h.1.len
def mW.iff(h:mW K L l)(u:K.CH k)(E:a∈l):K.key a=k↔K.g (K.key a)=K.g k:=⟨λe=>by rw[e],K.inj _ _ (K.ES a (h.2 a E)) u⟩
def mW.put(h:mW K L l)(E:K.ok a):mW K (gf (K.g (K.key a)) (K.val a) L) (jd K.key a l):=
 ⟨by rw[qoa (kg:=λa=>K.g (K.key a)) λx u=>h.iff (K.ES a E) u];exact h.1.put a,λx u=>(qsk u).elim (λe=>by rw[e];exact E) (h.2 x)⟩
def mW.cut(h:mW K L l)(E:K.CH k):mW K (gL (K.g k) L) (l.filter λx=>decide (K.key x≠k)):=
 ⟨by rw[filter_congr (q:=λx=>decide (K.g (K.key x)≠K.g k)) λx u=>by rw[decide_eq_decide,ne_eq,ne_eq,h.iff E u]];exact h.1.cut _,λx u=>h.2 x (mem_filter.1 u).1⟩
def mW.mem(h:mW K L l)(E:∃x∈l,K.key x=k):K.g k∈eh L:=h.1.J8.2 (E.elim λx u=>⟨x,u.1,by rw[u.2]⟩)
end
end
section
open Go Go.Pt List
open Go.IntKind (wrap)
open Classical
structure Co (D:dV) (M:eH) (k v b q:Nat) (t:Int) (L:gr) (P:IT):Prop where
 J3:Calm D M b q
 J4:gq D M k v t L P
 nodup:P.Nodup
 use:∀ x,eA M x->x∈P
 many:b-2<=M.x5.length+90+eZ b
section
variable {D D':dV} {M M':eH} {k v b q:Nat} {t:Int} {L L':gr} {P P':IT}
end
def qwz{D:dV}{n k v:Nat}{t:Int}(I:0<=t/\t<8)(E:8<=n)(J:n<=4096)(G:(kO n).Wf)(u:Made D n):Co D (kO n) k v n 1 t [] []:=by
 have h:=qqt (D:=D) (k:=k) (v:=v) I E J G;have e:(kO n).J1.2.getD 0 0=n:=(by show wrap .u32 (n:Int)=_;exact pA _ oJ);refine⟨⟨u.quiet,u.Q9,u.size,e,E,G,h.x5,h.Q5,h.len,⟨(by decide:(0:Int)<=1),(by decide:(1:Int)<=1)⟩,⟨(by decide:(0:Int)<=1),(by decide:(1:Int)<=1)⟩⟩,h.J4,.nil,h.use,?_⟩;have:=h.many;have:=qnP (a:=n-2) (b:=n) oJ;omega
end
section
open Go Go.Pt List
open Go.IntKind (wrap)
open Classical
variable {D:dV}
structure pF (D:dV) (M:eH) (c:Nat) (Q:I1) (Fo:kM):Prop where
 J2:AB D M Fo
 J3:Calm D M Q.1 Q.2
 many:c<=M.x5.length
def m8 (M:eH):eH:={ M with Q3:=[],J9:=[],Q0:=[],Q4:=[] }
def kr (F:kM):Nat:=(F 0).1.length+(F 1).1.length+(F 2).1.length+(F 3).1.length+(F 4).1.length+(F 5).1.length+(F 6).1.length+(F 7).1.length
def qAP{t:Nat}(h:t<8):t=0\/t=1\/t=2\/t=3\/t=4\/t=5\/t=6\/t=7:=by omega
def Ch{F:kM}{t:Nat}(h:t<8):(F t).1.length<=kr F:=by unfold kr;rcases qAP h with rfl|rfl|rfl|rfl|rfl|rfl|rfl|rfl<;>omega
section
variable {D:dV} {M:eH} {c t:Nat} {Q:I1} {F:kM} {key val:Key}
def pF.cC(h:pF D M c Q F):((List.range 8).flatMap λu=>(F u).2).length<=kr F:=by
 have E:∀u,u<8->(F u).2.length<=(F u).1.length:=λu G=>(h.J2.J4 u G).dE (qyJ ⟨oJ,oJ⟩ (AX G).1);have e:(List.range 8)=[0,1,2,3,4,5,6,7]:=oM;rw[e];simp only[yH,flatMap_nil,zF,xL];unfold kr;have:=E 0 oM;have:=E 1 oM;have:=E 2 oM;have:=E 3 oM;have:=E 4 oM;have:=E 5 oM;have:=E 6 oM;have:=E 7 oM;omega
def pF.use(h:pF D M c Q F):∀x,eA M x->x∈(List.range 8).flatMap λu=>(F u).2:=λx E=>by obtain⟨u,G,E⟩:=h.J2.use x E;exact yK.2 ⟨u,mem_range.2 G,E⟩
def pF.Q3(h:pF D M c Q F):c<=M.Q3.length+kr F:=by have E:=h.J3.x5.length_eq;rw[zF] at E;have I:=h.many;have J:(M.Q0.map (·.1)).length<=((List.range 8).flatMap λu=>(F u).2).length:=List.Nodup.length_le_of_subset h.J3.wf.cN λx G=>h.use x (.inl G);have R:=h.cC;omega
def pF.room(h:pF D M c Q F)(u:t<8)(E:3*kr F+1<=c):2*(eF M t).2.2.toNat+1<=M.Q3.length:=by
 have G:=h.Q3;have I:=(h.J2.J4 t u).low;have:=Ch (F:=F) u;omega
def pF.next{M':eH}{L':gr}{P':IT}(h:pF D M c Q F)(E:t<8)(G:gq D M' (kv t).1 (kv t).2 t L' P')(u:oh D M M' t (F t).2 P'):pF D M' c Q (pJ F t (L',P')):=
 ⟨h.J2.next h.J3.Q5 E G u,h.J3.next u,by have:M'.x5=M.x5:=u.step.x5;rw[this];exact h.many⟩
def oh.base{M':eH}{P P':IT}{t:Int}(h:oh D M M' t P P')(u:M.Q5=false):m8 M'=m8 M:=by have E:=h.step.Q5;have G:=h.step.J1;have I:=h.step.Q7;have J:=h.step.x5;have R:=h.step.x8;cases M;cases M';unfold m8;simp_all
def pF.put(h:pF D M c Q F)(u:t<8)(G:3*kr F+1<=c)(I:c<=100000)(J:key.length=(kv t).1/\eX key)(R:val.length=(kv t).2/\eX val): ∃M' P',jZ D (kv t).1 (kv t).2 t key val (eF M t).2.2.toNat M=(0,M')/\pF D M' c Q (pJ F t (gf key val (F t).1,P'))/\m8 M'=m8 M:=by
 have:=Ch (F:=F) u;obtain⟨M',P',e,U,E,_⟩:=qwJ (AX u).2.1 ⟨oJ,oJ⟩ J R (h.J2.J4 t u) h.J3.wf h.J3.Q5 h.J3.len (h.J2.nodup t u) oJ (h.room u G);exact⟨M',P',e,h.next u U E,E.base h.J3.Q5⟩
def pF.cut(h:pF D M c Q F)(u:t<8)(G:3*kr F+1<=c)(I:c<=100000)(J:key∈eh (F t).1): ∃M' P',lu D (kv t).1 (kv t).2 t key (eF M t).2.2.toNat M=(0,M')/\pF D M' c Q (pJ F t (gL key (F t).1,P'))/\m8 M'=m8 M:=by
 have:=Ch (F:=F) u;obtain⟨M',P',e,R,E,_⟩:=qxg (AX u).2.1 ⟨oJ,oJ⟩ (h.J2.J4 t u) J h.J3.wf h.J3.Q5 h.J3.len (h.J2.nodup t u) oJ (h.room u G);exact⟨M',P',e,h.next u R E,E.base h.J3.Q5⟩
def pF.oz(h:pF D M c Q F)(G:Q.2<=1000000)(U:c+eZ Q.1+kr F+2<=Q.1)(V:eZ Q.1+kr F<=c):∃D' M',gX D M=((D',M'),0)/\pF D' M' c (Q.1,Q.2+1) F:=by have h1:=h.Q3;obtain⟨D',M',e,I,u,E⟩:=qrr h.J3 G h.use oJ;refine⟨D',M',e,⟨⟨λt J=>(h.J2.J4 t J).kept h.J3.Q5 u,h.J2.nodup,h.J2.J5,λx R=>h.J2.use x ((u.use x).1 R)⟩,I,?_⟩⟩;have h3:=h.cC;rcases E with rfl|E;exact h.many;omega
end
def pF.made{n:Nat}(u:8<=n)(E:n<=4096)(G:(kO n).Wf)(U:Made D n):pF D (kO n) ((n-2)-eZ (n-2)) (n,1) (λ_=>([],[])):=by have I:∀t:Nat,t<8->zy D (kO n) (kv t).1 (kv t).2 ((n-2)-eZ (n-2)) t [] []:=λt J=>qqt ⟨oJ,oJ⟩ u E G;have R:=I 0 oM;have V:Co D (kO n) (kv 0).1 (kv 0).2 n 1 0 [] []:=qwz ⟨oM,oM⟩ u E G U;exact⟨⟨λt J=>(I t J).J4,λ_ _=>.nil,λ_ _ _ _ _ _ h=>(nomatch h),λx h=>nomatch R.use x h⟩,V.J3,Nat.le_of_eq R.many.symm⟩
def TW.up{dbk pb j j':Nat}{FD Y F:IS}{w:IK}{M:eH}(h:TW dbk pb FD D j w Y F M)(u:j<=j'):TW dbk pb FD D j' w Y F M:=⟨h.dB,h.lim.mono u,h.z9,h.hv,h.wf,h.sep⟩
abbrev A0:IM:=100
abbrev pP (r:Nat):IL:=dS r
structure pu (w:IK) (Y:IS) (sb dbk pb:Nat) (FD F:IS) (D:dV) (M:eH) (c:Nat) (Q:I1) (Fo:kM):Prop where
 tw:TW dbk pb FD D (5000*Q.2) w Y F M
 st:pF D M c Q Fo
 cell:w.heap[sb]?=some (.c #[pP pb] A0)
 out:sb∉F
section
variable {w w':IK} {Q:I1} {sb dbk pb c t:Nat} {Y FD F F':IS} {D:dV} {M M':eH} {Fo Fo':kM} {key val:Key} {ks vs:Sl}
def pu.q8(h:pu w Y sb dbk pb FD F D M c Q Fo)(f:Fr [] w w'):pu w' Y sb dbk pb FD F D M c Q Fo:=⟨h.tw.q8 f,h.st,by rw[f.block sb (eO h.cell) λh=>nomatch h];exact h.cell,h.out⟩
def pu.tG{K:Option Addr->Prop}(h:pu w Y sb dbk pb FD F D M c Q Fo)(u:K (pW pb)):nn (pW sb) λa=>ld .ptr a w K:=fO (iv h.cell (pW pb) rfl u)
def pu.x8(h:pu w Y sb dbk pb FD F D M c Q Fo)(u:TW dbk pb FD D (5000*Q.2) w' Y F' M')(E:pF D M' c Q Fo')(f:Fr F w w')(n:∀b∈F',b∈F\/w.heap.size<=b):pu w' Y sb dbk pb FD F' D M' c Q Fo':=
 ⟨u,E,by rw[f.block sb (eO h.cell) h.out];exact h.cell,λG=>(n sb G).elim h.out λI=>by have:=eO h.cell;omega⟩
def pu.put{K:Int->WP}(h:pu w Y sb dbk pb FD F D M c Q Fo)(u:t<8)(R:3*kr Fo+1<=c)(E:c<=100000)(G:key.length=(kv t).1/\eX key)(I:val.length=(kv t).2/\eX val)(V:eN (Zo FD Y F) w ks key)(rv:eN (Zo FD Y F) w vs val)(kk:∀F' w' M' P',pu w' Y sb dbk pb FD F' D M' c Q (pJ Fo t (gf key val (Fo t).1,P'))->m8 M'=m8 M->Fr F w w'->(∀b∈F',b∈F\/w.heap.size<=b)->K 0 w'): cW 50 [pP pb,.i t,ks.v,vs.v] dm w K:=by
 obtain⟨M',P',e,hS,hB⟩:=h.st.put (key:=key) (val:=val) u R E G I;have hl:=(h.st.J2.J4 t u).low;have:=Ch (F:=Fo) u;have J:=AX u;refine qzb (f:=(eF M t).2.2.toNat) G.2 I.2 J.1 oJ G.1 I.1 h.tw V rv ⟨hl.2,oJ⟩ (h.st.room u R) (qtb e) λF' w' U f n=>?_;rw[e] at U⊢;exact kk F' w' M' P' (h.x8 U hS f n) hB f n
def pu.cut{K:Int->WP}(h:pu w Y sb dbk pb FD F D M c Q Fo)(E:t<8)(J:3*kr Fo+1<=c)(R:c<=100000)(u:key∈eh (Fo t).1)(V:eN (Zo FD Y F) w ks key)(kk:∀F' w' M' P',pu w' Y sb dbk pb FD F' D M' c Q (pJ Fo t (gL key (Fo t).1,P'))->m8 M'=m8 M->Fr F w w'->(∀b∈F',b∈F\/w.heap.size<=b)->K 0 w'): cW 61 [pP pb,.i t,ks.v] dm w K:=by
 obtain⟨M',P',e,hS,hB⟩:=h.st.cut (key:=key) E J R u;have G:=h.st.J2.J4 t E;have hl:=G.low;have:=Ch (F:=Fo) E;have I:=AX E;obtain⟨x,hx,rfl⟩:=mem_map.1 u;obtain⟨q1,q2,q3,q4⟩:=G.sort.2 x hx;obtain⟨y,hy⟩:=qwx u;have U:=G.get (key:=x.1) h.st.J3.wf h.st.J3.Q5;rw[hy] at U;refine qy0 (f:=(eF M t).2.2.toNat) (f2:=(eF M t).2.2.toNat) q3 I.2.1 I.1 oJ q1 h.tw V ⟨hl.2,oJ⟩ (h.st.room E J) (by rw[U]) (G.Q8 I.2.1 u h.st.J3.wf h.st.J3.Q5 (h.st.J2.nodup t E) (h.st.room E J)) λF' w' G f n=>?_;rw[e] at G⊢;exact kk F' w' M' P' (h.x8 G hS f n) hB f n
end
section
def qum{dbk pb j:Nat}{FD Y F:IS}{w:IK}{M:eH}{K:Int->WP}(h:TW dbk pb FD D j w Y F M)(hj:j<=900000)(ht:0<=M.x8/\M.x8<=1000000000)(I:HG∉FD)(kk:∀E F' w',TW dbk pb E (gX D M).1.1 (j+5000) w' Y F' (gX D M).1.2->Fr (FD++F) w w'->(∀b∈E++F',b∈FD++F\/w.heap.size<=b)->K (gX D M).2 w'): cW 72 [dS pb] dm w K:=by
 have J:HG∈FD++HG::Y:=oL;have R:HG∉F:=h.z9.sep HG J;refine qsR h.dB h.lim h.z9 (λb u=>zH _ u) h.wf oJ ht h.hv I λE F' w' d' l' p' U=>?_;have hn:∀b∈E++F',b∈FD++F\/w.heap.size<=b:=U.2;refine kk E F' w' ⟨d',l',p'.t9 λb u=>?_,h.hv.j1 U.1 λV=>(zD.1 V).elim I R,qwb h.wf,λb u=>⟨λV=>?_,(h.sep b u).2⟩⟩ U.1 hn;rcases zD.1 u with u|u;exact zH _ u;refine zI _ (zI _ u);rcases hn b (zH _ V) with G|G;rcases zD.1 G with G|G;exact (h.sep b u).1 G;exact h.yf b u G;have:=h.qZ b u;omega
structure Duo (w0 w:IK) (O:IS) (da pa:Nat) (Xa Fa:IS) (Da:dV) (ja:Nat) (Ma:eH) (db pb:Nat) (Xb Fb:IS) (Db:dV) (jb:Nat) (Mb:eH):Prop where
 a:TW da pa Xa Da ja w (Xb++(Fb++O)) Fa Ma
 b:TW db pb Xb Db jb w (Xa++(Fa++O)) Fb Mb
 Id:∀ x∈Xa++Fa,w0.heap.size<=x
 Ie:∀ x∈Xb++Fb,w0.heap.size<=x
 Ic:∀ x∈O,w0.heap.size<=x
 hg:HG<w0.heap.size
 fr:Fr [] w0 w
section
variable {w0 w w':IK} {O O':IS} {da pa db pb:Nat} {Xa Fa Xb Fb Xa' Fa':IS} {Da Db Da':dV} {ja jb ja':Nat} {Ma Mb Ma':eH}
end
end
end
section
open Go Go.Pt List
open Go.IntKind (wrap)
abbrev Mv:=jf×Int×jf
abbrev Ln:=jf×HL ka
def qe (m:Mv):jf×Int:=(m.1,m.2.1)
def qP (x:Ln):jf×Int:=(x.1,lV (jM x.2))
def lM (d:HL jB):IV:=(d.1,d.2.1)
def Ct (d:HL jB):jf:=(d.2.2.1,d.2.2.2)
def tK (k:Kp):jf:=rm k.1
def lN.inj{a b:jf}(u:lN a)(E:lN b)(h:je a=je b):a=b:=Gn u.ok E.ok h
abbrev vd (p:jf×Int):Prop:=lN p.1/\IntKind.u64.has p.2
def vd.inj{a b:jf×Int}(u:vd a)(E:vd b)(h:gu a.1 a.2=gu b.1 b.2):a=b:=by obtain⟨G,I⟩:=qw1 u.1.ok E.1.ok (qm u.2) (qm E.2) h;exact Prod.ext G I
def T64.inj{a b:IV}(u:lN a)(E:lN b)(h:lp a.1 a.2=lp b.1 b.2):a=b:=Gn u.ok E.ok h
def HQ:pU (HL ll) jf:=⟨nO,je,rB,jX ll,lN,λa h=>⟨h.1,h.2.1⟩,λ_ _=>lN.inj⟩
def HE:pU Kp jf:=⟨tK,je,vt,vr,lN,λa h=>⟨h.1.1,h.1.2.1⟩,λ_ _=>lN.inj⟩
def Hk:pU (jf×Int) jf:=⟨λx=>x.1,je,λx=>[x.2],λx=>lN x.1/\IntKind.u8.has x.2,lN,λa h=>h.1,λ_ _=>lN.inj⟩
def uw:pU (HL jB) (IV):=⟨lM,λp=>lp p.1 p.2,λd=>je (Ct d),jX jB,lN,λa h=>⟨h.1,h.2.1⟩,λ_ _=>T64.inj⟩
def CD:pU Mv (jf×Int):=⟨qe,λp=>gu p.1 p.2,λm=>je m.2.2,λm=>vd (qe m)/\lN m.2.2,vd,λa h=>h.1,λ_ _=>vd.inj⟩
def sD:pU Ln (jf×Int):=⟨qP,λp=>gu p.1 p.2,λx=>pG x.2,λx=>lN x.1/\jX ka x.2,vd,λa h=>⟨h.1,h.2.2.2.2.2.2.2.2.2.1⟩,λ_ _=>vd.inj⟩
abbrev Gh:=Nat×dV×eH
structure Bk where
 acc:List (HL ll)
 mg:List Kp
 lL:List (jf×Int)
 due:List (HL jB)
 nY:List Mv
 oi:List Mv
 iq:List Ln
 last:Option Int
 gn:Nat
 /-- The disk's blocks,the commits; what no operation turns but a oz. -/
 cm:Nat×Nat×Gh
def vp (o:Option Int):gr:=o.toList.map λn=>([1],bw 8 n)
structure Hb (T:Nat->gr) (b:Bk):Prop where
 acc:mW HQ (T 0) b.acc
 mg:mW HE (T 1) b.mg
 lL:mW Hk (T 2) b.lL
 due:mW uw (T 3) b.due
 nY:mW CD (T 4) b.nY
 oi:mW CD (T 5) b.oi
 iq:mW sD (T 6) b.iq
 rc:T 7=vp b.last
def Bk.size (b:Bk):Nat:=b.acc.length+b.mg.length+b.lL.length+b.due.length+b.nY.length+b.oi.length+b.iq.length+b.last.toList.length
def Bk.mL (b:Bk) (a:HL ll):Bk:={ b with acc:=jd nO a b.acc }
def Bk.lZ (b:Bk) (k:Kp):Bk:={ b with mg:=jd tK k b.mg }
def Bk.nM (b:Bk) (m:Mv):Bk:={ b with nY:=jd qe m b.nY }
def Bk.pO (b:Bk) (m:Mv):Bk:={ b with oi:=jd qe m b.oi }
def Bk.mf (b:Bk) (x:jf×Int):Bk:={ b with lL:=jd (λx=>x.1) x b.lL }
def Bk.mB (b:Bk) (x:Ln):Bk:={ b with iq:=jd qP x b.iq }
def mY (a b:HL jB):Bool:=decide (a.1<b.1\/a.1=b.1/\a.2.1<b.2.1)
def lU (d:HL jB):List (HL jB)->List (HL jB)
 | []=>[d]
 | x::r=>if mY d x then d::x::r else x::lU d r
def jE (d:HL jB) (l:List (HL jB)):List (HL jB):=l.filter λx=>decide (lM x≠lM d)
def Bk.k8 (b:Bk) (d:HL jB):Bk:={ b with due:=jE d b.due }
def Bk.jS (b:Bk) (d:HL jB):Bk:={ b with due:=lU d (jE d b.due) }
def Ak (t:HL qd):Mv:=((t.2.2.1,t.2.2.2.1),t.2.2.2.2.2.2.2.2.2.2.2.2.2.2.2,rm t)
def Dx (t:HL qd):Mv:=((t.2.2.2.2.1,t.2.2.2.2.2.1),t.2.2.2.2.2.2.2.2.2.2.2.2.2.2.2,rm t)
def Bk.kF (b:Bk) (k:Kp):Bk:=((b.lZ k).nM (Ak k.1)).pO (Dx k.1)
def Bk.yp (b:Bk):Bk:={ b with cm:=(b.cm.1,b.cm.2.1+1,b.cm.2.2) }
def zg (q:Nat×Nat×Gh):Bk:=⟨[],[],[],[],[],[],[],none,0,q⟩
def Bk.gs (b:Bk) (g:Gh):Bk:={ b with cm:=(b.cm.1,b.cm.2.1,g) }
def Bk.kA (b:Bk) (n:Int):Bk:={ b with last:=some n }
def DB{d:HL jB}:∀ {l:List (HL jB)},(lU d l).Perm (d::l)
 | []=>.refl _
 | x::r=>by unfold lU;split;exact .refl _;exact (DB.cons x).trans (.swap _ _ _)
def mW.perm{α κ:Type}{K:pU α κ}{L:gr}{l l':List α}(h:mW K L l)(p:l.Perm l'):mW K L l':=
 ⟨⟨h.1.sort,(p.map _).nodup_iff.1 h.1.nodup,h.1.perm.trans (p.map _)⟩,λx u=>h.2 x (p.mem_iff.2 u)⟩
def qqh{α κ:Type}[DecidableEq κ]{kf:α->κ}{a:α}:∀ {l:List α},(l.map kf).Nodup->(jd kf a l).Perm (a::l.filter λx=>decide (kf x≠kf a))
 | [],_=>.refl _
 | x::r,h=>by rw[xP,nodup_cons] at h;unfold jd;by_cases e:kf x=kf a;rw[iP e,filter_cons,iN (by simp[e]),filter_eq_self.2 λy u=>by have:kf y≠kf a:=λE=>h.1 (by rw[e,<- E];exact zY u);simpa using this];rw[iN e,filter_cons,iP (oP e)];exact ((qqh h.2).cons x).trans (.swap _ _ _)
def mW.nodup{α κ:Type}{K:pU α κ}{L:gr}{l:List α}(h:mW K L l):(l.map K.key).Nodup:=by
 have:=h.1.nodup;rw[show (λa=>K.g (K.key a))=K.g∘K.key from rfl,<- map_map] at this;exact this.of_map _ λa b h e=>h (by rw[e])
def nc (T:Nat->gr) (t:Nat) (L:gr):Nat->gr:=λu=>if u=t then L else T u
section
variable {T:Nat->gr} {b:Bk}
def Hb.mL(h:Hb T b){a:HL ll}(u:jX ll a):Hb (nc T 0 (gf (je (nO a)) (rB a) (T 0))) (b.mL a):=⟨h.acc.put u,h.mg,h.lL,h.due,h.nY,h.oi,h.iq,h.rc⟩
def Hb.lZ(h:Hb T b){a:Kp}(u:vr a):Hb (nc T 1 (gf (je (tK a)) (vt a) (T 1))) (b.lZ a):=⟨h.acc,h.mg.put u,h.lL,h.due,h.nY,h.oi,h.iq,h.rc⟩
def Hb.mf(h:Hb T b){a:jf×Int}(u:lN a.1/\IntKind.u8.has a.2):Hb (nc T 2 (gf (je a.1) [a.2] (T 2))) (b.mf a):=⟨h.acc,h.mg,h.lL.put u,h.due,h.nY,h.oi,h.iq,h.rc⟩
def Hb.nM(h:Hb T b){a:Mv}(u:vd (qe a)/\lN a.2.2):Hb (nc T 4 (gf (gu a.1 a.2.1) (je a.2.2) (T 4))) (b.nM a):=⟨h.acc,h.mg,h.lL,h.due,h.nY.put u,h.oi,h.iq,h.rc⟩
def Hb.pO(h:Hb T b){a:Mv}(u:vd (qe a)/\lN a.2.2):Hb (nc T 5 (gf (gu a.1 a.2.1) (je a.2.2) (T 5))) (b.pO a):=⟨h.acc,h.mg,h.lL,h.due,h.nY,h.oi.put u,h.iq,h.rc⟩
def Hb.mB(h:Hb T b){a:Ln}(u:lN a.1/\jX ka a.2):Hb (nc T 6 (gf (gu a.1 (lV (jM a.2))) (pG a.2) (T 6))) (b.mB a):=⟨h.acc,h.mg,h.lL,h.due,h.nY,h.oi,mW.put (K:=sD) (a:=a) h.iq u,h.rc⟩
def Hb.k8(h:Hb T b){d:HL jB}(u:jX jB d):Hb (nc T 3 (gL (lp d.1 d.2.1) (T 3))) (b.k8 d):=⟨h.acc,h.mg,h.lL,mW.cut (K:=uw) (k:=lM d) h.due ⟨u.1,u.2.1⟩,h.nY,h.oi,h.iq,h.rc⟩
def Hb.jS(h:Hb T b){d:HL jB}(u:jX jB d):Hb (nc T 3 (gf (lp d.1 d.2.1) (je (Ct d)) (T 3))) (b.jS d):=⟨h.acc,h.mg,h.lL,(mW.put (K:=uw) (a:=d) h.due u).perm ((qqh h.due.nodup).trans DB.symm),h.nY,h.oi,h.iq,h.rc⟩
def Hb.kA(h:Hb T b){n:Int}:Hb (nc T 7 (gf [1] (bw 8 n) (T 7))) (b.kA n):=⟨h.acc,h.mg,h.lL,h.due,h.nY,h.oi,h.iq,by
 show gf [1] (bw 8 n) (T 7)=vp (some n);rw[h.rc];cases b.last with
 | none=>rfl
 | some x=>simp[vp,gf,cmpL]⟩
def Hb.size(h:Hb T b):(T 0).length+(T 1).length+(T 2).length+(T 3).length+(T 4).length+(T 5).length+(T 6).length+(T 7).length=b.size:=by rw[h.acc.len,h.mg.len,h.lL.len,h.due.len,h.nY.len,h.oi.len,h.iq.len,h.rc,vp,zK];rfl
def qAi(q:Nat×Nat×Gh):Hb (λ_=>[]) ⟨[],[],[],[],[],[],[],none,0,q⟩:=⟨.nil,.nil,.nil,.nil,.nil,.nil,.nil,rfl⟩
end
end
section
open Go Go.Pt List
open Go.IntKind (wrap)
open Classical
variable {K:Int->WP} {L:IW} {T:IS} {wa:IK}
structure pd (F:IS) (w:IK) (F':IS) (w':IK):Prop where
 fr:Fr F w w'
 new:∀ x∈F',x∈F\/w.heap.size<=x
section
variable {F F' F2:IS} {w w' w2:IK}
def pd.trans(h:pd F w F' w')(k:pd F' w' F2 w2):pd F w F2 w2:=⟨h.fr.J0 k.fr h.new,λx u=>(k.new x u).elim (h.new x) λE=>.inr (zL h.fr.size E)⟩
def pd.pre(f:Fr [] w w')(k:pd F w' F' w2):pd F w F' w2:=⟨(f.mono λ_ h _=>nomatch h).trans k.fr,λx u=>(k.new x u).imp id λh=>zL f.size h⟩
def pd.Q5{B:IS}(h:pd F w F' w'):pd (B++F) w (B++F') w':=⟨h.fr.mono λ_ h _=>zI _ h,λx E=>(zD.1 E).elim (λu=>.inl (zH _ u)) λu=>(h.new x u).imp (zI _) id⟩
end
def tE (w:IK) (Y:IS) (sb pb:Nat) (F:IS) (c:Nat) (b:Bk):Prop:=∃dbk FD h D M Fo,F=FD++h/\pu w Y sb dbk pb FD h D M c (b.cm.1,b.cm.2.1) Fo/\HG∉FD/\sb∉FD/\Hb (λt=>(Fo t).1) b/\c<=100000/\b.cm.2.1<=150/\b.cm.2.2=(pb,D,m8 M)
def SB (w:IK) (Y:IS) (sb:Nat) (F:IS) (c:Nat) (b:Bk):Prop:=∃pb,tE w Y sb pb F c b
section
variable {w w' w1:IK} {Y Y' F F':IS} {sb c:Nat} {b b':Bk}
def SB.q8(h:SB w Y sb F c b)(f:Fr [] w w'):SB w' Y sb F c b:=by obtain⟨pb,dbk,FD,G,D,M,Fo,rfl,I,u,E,J,R,U⟩:=h;exact⟨pb,dbk,FD,G,D,M,Fo,rfl,I.q8 f,u,E,J,R,U⟩
def SB.y8(h:SB w Y sb F c b)(I:∀b∈Y',b∈Y):SB w Y' sb F c b:=by obtain⟨pb,dbk,FD,J,D,M,Fo,rfl,u,E,G,R,U,V⟩:=h;exact⟨pb,dbk,FD,J,D,M,Fo,rfl,⟨u.tw.y8 I,u.st,u.cell,u.out⟩,E,G,R,U,V⟩
def SB.yf(h:SB w Y sb F c b):∀b∈Y,b∉F:=by obtain⟨pb,dbk,FD,R,D,M,Fo,rfl,u,G,I,U,V,hj⟩:=h;exact λb E J=>(zD.1 J).elim (λh=>(u.tw.sep b E).1 h) (u.tw.yf b E)
def SB.J2(h:SB wa Y sb F c b)(o:ef [] wa w L):SB w (fH L++Y) sb F c b:=by obtain⟨pb,dbk,FD,I,D,M,Fo,rfl,u,E,G,J,R,U⟩:=h;exact⟨pb,dbk,FD,I,D,M,Fo,rfl,⟨u.tw.cS o,u.st,o.mT u.cell (λh=>nomatch h),u.out⟩,E,G,J,R,U⟩
def SB.HH{L':IW}(h:SB wa (fH L++Y) sb F c b)(I:sb∉fH L)(o:ef (fH L) wa w L'):SB w (fH L'++Y) sb F c b:=by obtain⟨pb,dbk,FD,J,D,M,Fo,rfl,u,E,G,R,U,V⟩:=h;exact⟨pb,dbk,FD,J,D,M,Fo,rfl,⟨u.tw.J2 o,u.st,o.mT u.cell I,u.out⟩,E,G,R,U,V⟩
def SB.own(h:SB w (fH L++Y) sb F c b)(o:ef T wa w L)(s:pd F w F' w'):ef (fH L) w' w' L:=ry o s.fr λb u=>h.yf b (zH _ u)
def SB.lt(h:SB w Y sb F c b):sb<w.heap.size:=by obtain⟨pb,dbk,FD,I,D,M,Fo,rfl,u,E,G,J,R,U⟩:=h;exact eO u.cell
def tE.tG{pb:Nat}{K:Addr->Option Addr->Prop}(h:tE w1 Y sb pb F c b)(f:Fr [] w1 w)(u:K (dk sb) (pW pb)):nn (pW sb) λa=>ld .ptr a w (K a):=by
 obtain⟨dbk,FD,J,D,M,Fo,rfl,E,G,I,R,U,V⟩:=h;have:=(E.q8 f).cell;exact fO (iv this (pW pb) rfl u)
def tE.held{pb:Nat}(h:tE w1 Y sb pb F c b)(f:Fr [] w1 w):w.cell? (dk sb)=some (dS pb):=by obtain⟨dbk,FD,I,D,M,Fo,rfl,u,E,G,J,R,U⟩:=h;rw[jC (u.q8 f).cell];rfl
def tE.put{t pb:Nat}{g v:Key}{ks vs:Sl}{K:Int->WP}(h:tE w1 Y sb pb F c b)(f:Fr [] w1 w)(hr:3*b.size+1<=c)(ht:t<8)(hk:g.length=(kv t).1/\eX g)(hv:v.length=(kv t).2/\eX v)(rk:lz w1 w ks g)(rv:lz w1 w vs v)(G:∀T,Hb T b->Hb (nc T t (gf g v (T t))) b')(kk:∀F' w',tE w' Y sb pb F' c b'->pd F w1 F' w'->K 0 w')(E:b'.cm=b.cm:=by rfl):cW 50 [dS pb,.i t,ks.v,vs.v] dm w K:=by
 obtain⟨dbk,FD,Fp,D,M,Fo,rfl,I,J,R,V,hc,hj⟩:=h;have h1:=I.q8 f;refine h1.put ht (by have:=V.size;unfold kr;omega) hc hk hv (rk.to I.tw.vV) (rv.to I.tw.vV) λF' w' M' P' U hB f2 n=>kk (FD++F') w' ⟨dbk,FD,F',D,M',_,rfl,by rw[E];exact U,J,R,?_,hc,by rw[E,hB];exact hj⟩ (.pre f (pd.Q5 ⟨f2,n⟩));have e:(λu=>(pJ Fo t (gf g v (Fo t).1,P') u).1)=nc (λu=>(Fo u).1) t (gf g v (Fo t).1):=by funext u;unfold pJ nc;split<;>rfl
 rw[e];exact G _ V
def SB.put{t:Nat}{g v:Key}{ks vs:Sl}{K:Int->WP}(h:SB w1 Y sb F c b)(f:Fr [] w1 w)(G:3*b.size+1<=c)(I:t<8)(J:g.length=(kv t).1/\eX g)(R:v.length=(kv t).2/\eX v)(U:lz w1 w ks g)(V:lz w1 w vs v)(u:∀T,Hb T b->Hb (nc T t (gf g v (T t))) b')(kk:∀F' w',SB w' Y sb F' c b'->pd F w1 F' w'->K 0 w')(E:b'.cm=b.cm:=by rfl):nn (pW sb) λa=>ld .ptr a w λp=>cW 50 [.p p,.i t,ks.v,vs.v] dm w K:=
 h.elim λpb h=>h.tG f (h.put f G I J R U V u (λF' w' h=>kk F' w' ⟨pb,h⟩) E)
end
section
def BX:HL ll:=(0,0,0,0,0,0,0,0,0,0,0,0,0,0,0)
def qn{a b:IT}(h:eX a)(u:eX b):eX (a++b):=λx E=>(zD.1 E).elim (h x) (u x)
def qxV(a:HL ll):eX (rB a):=qn (qg _) (qn (qg _) (qn (qg _) (qn (qg _) (qn (qi _ _) (qn (qi _ _) (qn (qi _ _) (qn (qi _ _) (qi _ _))))))))
def qyO(a:HL qd):eX (qr a):=qn (qg _) (qn (qg _) (qn (qg _) (qn (qg _) (qn (qi _ _) (qn (qi _ _) (qn (qi _ _) (qn (qi _ _) (qn (qi _ _) (qi _ _)))))))))
def qzC(k:Kp):eX (vt k):=qn (qyO _) (qg _)
def qyH{r:HL ka}(h:jX ka r):eX (pG r):=λx u=>by rcases zG.1 u with rfl|u;exact qyY h.2.2.2.2.2.2.2.2.2;exact (qn (qg _) (qn (qg _) (qn (qg _) (qg _)))) x u
section
variable {w w' w1:IK} {Y F:IS} {sb c:Nat} {b b':Bk}
def SB.cut{t:Nat}{g:Key}{ks:Sl}{K:Int->WP}(h:SB w1 Y sb F c b)(f:Fr [] w1 w)(hr:3*b.size+1<=c)(ht:t<8)(rk:lz w1 w ks g)(G:∀T,Hb T b->g∈eh (T t))(I:∀T,Hb T b->Hb (nc T t (gL g (T t))) b')(kk:∀F' w',SB w' Y sb F' c b'->pd F w1 F' w'->K 0 w')(E:b'.cm=b.cm:=by rfl):nn (pW sb) λa=>ld .ptr a w λp=>cW 61 [.p p,.i t,ks.v] dm w K:=by
 obtain⟨pb,dbk,FD,Fp,D,M,Fo,rfl,hS,J,R,U,hc,hj⟩:=h;have h1:=hS.q8 f;refine h1.tG (h1.cut ht (by have:=U.size;unfold kr;omega) hc (G _ U) (rk.to hS.tw.vV) λF' w' M' P' V hB f2 n=>kk (FD++F') w' ⟨pb,dbk,FD,F',D,M',_,rfl,by rw[E];exact V,J,R,?_,hc,by rw[E,hB];exact hj⟩ (.pre f (pd.Q5 ⟨f2,n⟩)));have e:(λu=>(pJ Fo t (gL g (Fo t).1,P') u).1)=nc (λu=>(Fo u).1) t (gL g (Fo t).1):=by funext u;unfold pJ nc;split<;>rfl
 rw[e];exact I _ U
end
end
section
section
variable {w w' w1:IK} {Y F:IS} {sb c:Nat} {b b':Bk}
def quK{a:HL ll}(h:SB w Y sb F c b)(E:3*b.size+1<=c)(G:jX ll a)(I:∀F' w',SB w' Y sb F' c (b.mL a)->pd F w F' w'->K 0 w'): cW 20 [dS sb,Il ll a] dm w K:=by refine qfH<|oB (oE [] w) λV w1 _ u o=>IR o 0 rfl a (quu λs t w2 J R U=>?_);exact SB.put (t:=0) h (u.trans U) E oM ⟨mV _,qg _⟩ ⟨qrj _,qxV _⟩ (J.up u.size) (R.up u.size) (λT q=>q.mL G) I
def quN{i0 u x:Int}(h:SB w Y sb F c b)(hr:3*b.size+1<=c)(hi:lN (i0,u))(G:IntKind.u8.has x)(kk:∀F' w',SB w' Y sb F' c (b.mf ((i0,u),x))->pd F w F' w'->K 0 w'): cW 67 [dS sb,di i0 u,.b x] dm w K:=by
 refine qgd ?_;obtain⟨pb,h⟩:=h;have hB:eX [x]:=λz hz=>by rw[zE.1 hz];exact qyY G
 have new:∀ {w2 I:IK} {r:Nat},Fr [] w w2->r=w2.heap.size->I.heap[r]?=some (.c (gw [x]) 5)->lz w I ⟨pW r,1,1⟩ [x]:=λf e hb=>Dg (by have:=f.size;omega) hb (zM _) (zM _) rfl;refine oB (oE [] w) λr1 w1 _ E o=>⟨h.tG E.drew (IR o.drew 0 rfl (i0,u) (An λr4 I J R=>iS (h.held (E.drew.trans R)) (oB (o.drew.q8 R) λr5 w4 U f4 o=>?_))),h.tG E.drew (IR o.drew 0 rfl (i0,u) (oB o.drew λr5 w4 U f4 o=>?_))⟩;refine kV (o.cells 1) (h.held o.fr) (h.put (t:=2) o.fr hr oM ⟨mV _,qg _⟩ ⟨rfl,hB⟩ ((J.q8 f4).up E.drew.size) (new (E.drew.trans R) U (o.at (i:=0) rfl)) (λT q=>q.mf (a:=((i0,u),x)) ⟨hi,G⟩) λF' w' h=>kk F' w' ⟨pb,h⟩);refine kV (o.cells 1) (h.held o.fr) (An λr6 w5 J V=>iS (h.held (o.fr.trans V)) ?_);exact h.put (t:=2) (o.fr.trans V) hr oM ⟨mV _,qg _⟩ ⟨rfl,hB⟩ (J.up o.fr.size) (new E.drew U ((o.q8 V).at (i:=0) rfl)) (λT q=>q.mf (a:=((i0,u),x)) ⟨hi,G⟩) λF' w' h=>kk F' w' ⟨pb,h⟩
def EI{u E d2 d3:Int}(h:SB w Y sb F c b)(I:3*b.size+1<=c)(J:jX jB (u,E,d2,d3))(R:∀F' w',SB w' Y sb F' c (b.jS (u,E,d2,d3))->pd F w F' w'->K 0 w'): cW 26 [dS sb,.agg #[.w u,.w E,.w d2,.w d3]] dm w K:=by refine qii<|oB (oE [] w) λr1 w1 _ G o=>IR o 0 rfl (u,E,d2,d3) (qnc λs t w2 U V f2=>?_);exact SB.put (t:=3) h (G.trans f2) I oM ⟨zm _ _,GO _ _⟩ ⟨mV _,qg _⟩ (U.up G.size) (V.up G.size) (λT q=>q.jS J) R
def quL{a0 u:Int}{r:HL ka}(h:SB w Y sb F c b)(G:3*b.size+1<=c)(I:lN (a0,u))(E:jX ka r)(J:∀F' w',SB w' Y sb F' c (b.mB ((a0,u),r))->pd F w F' w'->K 0 w'): cW 71 [dS sb,di a0 u,Il ka r] dm w K:=by refine qij<|oB (oE [] w) λr1 w1 _ f1 o=>oB o λr3 w2 _ f2 o=>IR o 1 rfl (a0,u) (IR o 0 rfl r (quv λs t w3 R U V=>?_));exact SB.put (t:=6) h (o.fr.trans V) G oM ⟨wo _ _,Bb _ _⟩ ⟨D9 _,qyH E⟩ (R.up o.fr.size) (U.up o.fr.size) (λT q=>q.mB (a:=((a0,u),r)) ⟨I,E⟩) J
end
end
section
section
variable {w w' w1:IK} {Y F F':IS} {sb pb c:Nat} {b b':Bk}
def tE.J2(h:tE wa Y sb pb F c b)(o:ef [] wa w L):tE w (fH L++Y) sb pb F c b:=by obtain⟨dbk,FD,I,D,M,Fo,rfl,u,E,G,J,R,U⟩:=h;exact⟨dbk,FD,I,D,M,Fo,rfl,⟨u.tw.cS o,u.st,o.mT u.cell (λh=>nomatch h),u.out⟩,E,G,J,R,U⟩
def tE.own(h:tE w (fH L++Y) sb pb F c b)(o:ef T wa w L)(s:pd F w F' w'):ef (fH L) w' w' L:=ry o s.fr λb u=>SB.yf ⟨pb,h⟩ b (zH _ u)
abbrev c8:List Cell:=[.u,.u,.u,.u,.u,.u,.u,.u]
def quM{k:Kp}(h:SB w Y sb F c b)(hr:3*(b.size+3)+1<=c)(E:vr k)(kk:∀F' w',SB w' Y sb F' c (b.kF k)->pd F w F' w'->K 0 w'): cW 24 [dS sb,.agg (tg k).toArray] dm w K:=by refine qfe ?_;obtain⟨pb,h⟩:=h;refine oB (oE [] w) λr1 w1 _ f1 o=>IR o 0 rfl k.1 (oB o λr4 w2 _ f2 o=>o.st' 0 rfl _ (mR rfl) rfl (zM _) λw3 o f3=>?_);refine rP (o.at (i:=1) rfl) (tg k) rfl rfl (quw λs t w4 hs ht f4=>?_);have R:=o.fr;have h:=h.J2 o;have p1:=v8 (kf:=tK) (a:=k) (l:=b.mg);have p2:=v8 (kf:=qe) (a:=Ak k.1) (l:=b.nY);have z1:(b.lZ k).size<=b.size+1:=(by unfold Bk.size Bk.lZ;dsimp only;omega);have z2:((b.lZ k).nM (Ak k.1)).size<=b.size+2:=(by unfold Bk.size Bk.nM Bk.lZ;dsimp only;omega);have hi:lN (rm k.1):=⟨E.1.1,E.1.2.1⟩;have hn:IntKind.u64.has k.1.2.2.2.2.2.2.2.2.2.2.2.2.2.2.2:=E.1.2.2.2.2.2.2.2.2.2.2.2.2.2.2.2;refine h.tG f4 (h.put (t:=1) f4 oJ oM ⟨mV _,qg _⟩ ⟨qt4 _,qzC _⟩ hs ht (λT q=>q.lZ E) λF5 w5 I s5=>Io rfl ?_);have o5:=h.own o s5;have o:=o5.drew;have g:=(Fr.refl [] w5).drew;have U:lN (k.1.2.2.1,k.1.2.2.2.1):=⟨E.1.2.2.1,E.1.2.2.2.1⟩;have V:lN (k.1.2.2.2.2.1,k.1.2.2.2.2.2.1):=⟨E.1.2.2.2.2.1,E.1.2.2.2.2.2.1⟩;refine I.tG g (IR o 0 rfl (k.1.2.2.1,k.1.2.2.2.1) (IQ o 0 rfl k.1.2.2.2.2.2.2.2.2.2.2.2.2.2.2.2 (IR o 0 rfl (k.1.1,k.1.2.1) (AM λs6 w6 h6 u=>kV ((o.q8 u).cells 0) (I.held (g.trans u)) (An λr7 w7 h7 G=>iS (I.held ((g.trans u).trans G)) ?_)))));refine I.put (t:=4) ((g.trans u).trans G) oJ oM ⟨wo _ _,Bb _ _⟩ ⟨mV _,qg _⟩ ((h6.q8 G).up (zM _)) (h7.up u.size) (λT q=>q.nM (a:=Ak k.1) ⟨⟨U,hn⟩,hi⟩) λF8 w8 J s8=>Io rfl ?_;have o:=(I.own o5 s8).drew;have g:=(Fr.refl [] w8).drew;refine J.tG g (IR o 0 rfl (k.1.2.2.2.2.1,k.1.2.2.2.2.2.1) (IQ o 0 rfl k.1.2.2.2.2.2.2.2.2.2.2.2.2.2.2.2 (IR o 0 rfl (k.1.1,k.1.2.1) (AM λs6 w9 h6 u=>kV ((o.q8 u).cells 0) (J.held (g.trans u)) (An λr7 av h7 G=>iS (J.held ((g.trans u).trans G)) ?_)))));exact J.put (t:=5) ((g.trans u).trans G) oJ oM ⟨wo _ _,Bb _ _⟩ ⟨mV _,qg _⟩ ((h6.q8 G).up (zM _)) (h7.up u.size) (λT q=>q.pO (a:=Dx k.1) ⟨⟨V,hn⟩,hi⟩) λac ad ae af=>kk ac ad (SB.y8 ⟨pb,ae⟩ λ_ h=>zI _ h) (.pre R ((s5.trans s8).trans af))
end
end
end
section
open Go Go.Pt List
open Go.IntKind (wrap)
open Classical
end
section
open Go Go.Pt List
open Go.IntKind (wrap)
open Classical
end
section
open Go Go.Pt List
open Go.IntKind (wrap)
open Classical
section
variable {w:IK} {a b:jf} {K:jf×Bool->WP}
end
end
section
open Go Go.Pt List
open Go.IntKind (wrap)
open Classical
end
section
open Go Go.Pt List
open Go.IntKind (wrap)
open Classical
variable {K:Int->WP}
section
variable {w w' w1:IK} {Y F F':IS} {sb pb c:Nat} {b b':Bk}
end
section
section
variable {w w' w1:IK} {Y F F':IS} {sb c:Nat} {b:Bk} {ks vs:Sl}
def qzO:eX [1]:=λx h=>by rw[zE.1 h];exact⟨oM,oM⟩
end
end
section
section
variable {w w' w1:IK} {Y F F':IS} {sb c:Nat} {b:Bk}
def qt8{r:Nat}{T:IM}(h:w.heap.size<=r)(u:w'.heap[r]?=some (.c #[.b 1] T)):lz w w' ⟨pW r,1,1⟩ [1]:=Dg (L:=[1]) h u oM oM rfl
def qsU{n:Int}(h:SB w Y sb F c b)(R:3*b.size+1<=c)(U:∀F' w',SB w' Y sb F' c (b.kA n)->pd F w F' w'->K 0 w'): cW 19 [dS sb,.w n] dm w K:=by
 refine qhw ?_;obtain⟨pb,h⟩:=h;have g:=(Fr.refl [] w).drew;have E:∀ {r:Nat} {s:Sl} {w2:IK},Fr [] w w2->lz w w2 ⟨pW r,1,1⟩ [1]->lz w w2 s (bw 8 n)->cW 50 [dS pb,.i 7,.slice (pW r) 1 1,s.v] dm w2 K:=λ{r s w2} f V n2=>
  h.put (t:=7) (ks:=⟨pW r,1,1⟩) f R oM ⟨rfl,qzO⟩ ⟨lI _ _,qi _ _⟩ V n2 (λT q=>q.kA) λF' w' h s=>U F' w' ⟨pb,h⟩ s
 refine⟨h.tG g (oB (oE [] w.drew) λr w1 e1 G o=>iS (h.held (g.trans G)) (u0 λr2 w2 I u=>iS (h.held ((g.trans G).trans u)) (E ((g.trans G).trans u) (qt8 (by rw[e1];exact zM _) ((o.q8 u).at (i:=0) rfl)) (I.up G.size)))),?_⟩;exact h.tG g (u0 λr2 w2 I u=>iS (h.held (g.trans u)) (oB (oE [] w2) λr w3 e3 J o=>iS (h.held ((g.trans u).trans J)) (E ((g.trans u).trans J) (qt8 (by rw[e3];exact u.size) (o.at (i:=0) rfl)) (I.q8 J))))
end
end
section
section
variable {w w':IK} {Q:I1} {sb dbk pb c t:Nat} {Y FD F F':IS} {D:dV} {M M':eH} {Fo Fo':kM} {b:Bk}
def pu.oz{K:Int->WP}(h:pu w Y sb dbk pb FD F D M c Q Fo)(hq:Q.2<=100)(U:c+eZ Q.1+kr Fo+2<=Q.1)(V:eZ Q.1+kr Fo<=c)(I:HG∉FD)(hs:sb∉FD)(kk:∀u F' w' D' M',pu w' Y sb dbk pb u F' D' M' c (Q.1,Q.2+1) Fo->HG∉u->sb∉u->Fr (FD++F) w w'->(∀b∈u++F',b∈FD++F\/w.heap.size<=b)->K 0 w'): cW 72 [pP pb] dm w K:=by obtain⟨D',M',e,hS⟩:=h.st.oz oJ U V;have ht:=h.st.J3.x8;have hl:=eO h.cell;have af:HG<w.heap.size:=h.tw.vV HG (by simp[Zo]);refine qum h.tw oJ ⟨ht.1,oJ⟩ I λu F' w' J f n=>?_;rw[e] at J⊢;have G:sb∉FD++F:=λE=>(zD.1 E).elim hs h.out;have hF:HG∉FD++F:=λE=>(zD.1 E).elim I (h.tw.z9.sep HG oL);exact kk u F' w' D' M' ⟨J,hS,by rw[f.block sb hl G];exact h.cell,λE=>(n sb (zI _ E)).elim G λR=>oJ⟩ (λE=>(n HG (zH _ E)).elim hF λR=>oJ) (λE=>(n sb (zH _ E)).elim G λR=>oJ) f n
def SB.oz{K:Int->WP}(h:SB w Y sb F c b)(hp:w.heap[sb]?=some (.c #[pP pb] A0))(hq:b.cm.2.1<=100)(hc:c+eZ b.cm.1+b.size+2<=b.cm.1)(hr:eZ b.cm.1+b.size<=c)(kk:∀F' w' g,SB w' Y sb F' c (b.yp.gs g)->pd F w F' w'->K 0 w'):cW 72 [pP pb] dm w K:=by
 obtain⟨G,dbk,FD,Fp,D,M,Fo,rfl,hS,I,J,u,R,hj⟩:=h;have e:pb=G:=by
  have:=hS.cell;rw[hp] at this;cases this;rfl
 subst e;have hs:=u.size;have hk:kr Fo=b.size:=(by unfold kr;exact hs);refine hS.oz (Q:=(b.cm.1,b.cm.2.1)) hq oN oN I J λE F' w' D' M' U V aa f n=>kk (E++F') w' (pb,D',m8 M') ⟨pb,dbk,E,F',D',M',Fo,rfl,U,V,aa,⟨u.acc,u.mg,u.lL,u.due,u.nY,u.oi,u.iq,u.rc⟩,R,by show b.cm.2.1+1<=150;omega,rfl⟩ ⟨f,n⟩
end
end
section
section
variable {dbk pb j:Nat} {FD Y F:IS} {D:dV} {M:eH} {k v:Nat} {t:Int} {w0:IK}
def qxB{ks:Sl}{key:Key}{f2:Nat}(G:eX key)(U:si t=((k:Int),(v:Int)))(E:k≠0)(I:key.length=k)(hT:TW dbk pb FD D j w0 Y F M)(V:eN (Zo FD Y F) w0 ks key)(u:(mv D k v key M f2 (eF M t).1).2=5)(kk:∀w',Fr [] w0 w'->K 5 w'): cW 61 [dS pb,.i t,ks.v] dm w0 K:=by refine qml ?_;have ac:=V.1;have h:=oE [] w0;refine oB h λr1 w2 _ _ h=>IQ h 0 rfl ks<|C0 (k:=k) (v:=v) U (λh=>absurd h E) (λ_ h=>absurd oJ h) λ_ _ w7 f7=>?_;have h:=h.q8 f7;refine oB h λr8 w9 _ _ h=>oD h 0 rfl (oj (kb k v pb t)) λae h _=>Io rfl<|IQ h 1 rfl ks<|qtu (f:=f2) G U E I (hT.cS h) (uT V h) (by rw[u];decide) λs J _ R=>?_;rw[u];exact Im rfl (kk J (h.fr.trans R))
end
section
variable {w w' w1:IK} {Q:I1} {sb dbk pb c t:Nat} {Y FD F F':IS} {D:dV} {M M':eH} {Fo Fo':kM} {key val:Key} {ks vs:Sl} {b b':Bk}
def pu.uN(h:pu w Y sb dbk pb FD F D M c Q Fo)(E:t<8)(G:key.length=(kv t).1/\eX key)(J:key∉eh (Fo t).1)(R:eN (Zo FD Y F) w ks key)(U:∀w',Fr [] w w'->K 5 w'):cW 61 [pP pb,.i t,ks.v] dm w K:=by have u:=AX E;have V:=h.st.J2.J4 t E;have I:=V.get (key:=key) h.st.J3.wf h.st.J3.Q5;have he:lW key (Fo t).1=none:=Ce λx hx e=>J (by rw[<- e];exact zY hx);rw[he] at I;exact qxB (f2:=(eF M t).2.2.toNat) G.2 u.1 oJ G.1 h.tw R (by rw[I]) U
def SB.uN{t:Nat}{g:Key}{ks:Sl}{K:Int->WP}(h:SB w1 Y sb F c b)(f:Fr [] w1 w)(G:t<8)(I:g.length=(kv t).1/\eX g)(J:lz w1 w ks g)(R:∀T,Hb T b->g∉eh (T t))(U:∀w',Fr [] w w'->K 5 w'):nn (pW sb) λa=>ld .ptr a w λp=>cW 61 [.p p,.i t,ks.v] dm w K:=by obtain⟨pb,dbk,FD,Fp,D,M,Fo,rfl,u,V,aa,hb,hc,hj⟩:=h;have E:=u.q8 f;exact E.tG (E.uN G I (R _ hb) (J.to u.tw.vV) U)
def qsT{u E d2 d3:Int}(h:SB w Y sb F c b)(V:3*b.size+1<=c)(J:jX jB (u,E,d2,d3))  (k0:(∃x∈b.due,lM x=(u,E))->∀F' w',SB w' Y sb F' c (b.k8 (u,E,d2,d3))->pd F w F' w'->K 0 w')(k5:(∀x∈b.due,lM x≠(u,E))->∀w',Fr [] w w'->K 5 w'): cW 25 [dS sb,.agg #[.w u,.w E,.w d2,.w d3]] dm w K:=by refine qih<|oB (oE [] w) λr1 w1 _ G o=>IR o 0 rfl (u,E,d2,d3) (qnc λs t w2 U ht R=>?_);by_cases hin:∃x∈b.due,lM x=(u,E);exact SB.cut (t:=3) h (G.trans R) V oM (U.up G.size) (λT q=>mW.mem (K:=uw) (k:=(u,E)) q.due hin) (λT q=>q.k8 J) (k0 hin);exact SB.uN (t:=3) h (G.trans R) oM ⟨zm _ _,GO _ _⟩ (U.up G.size) (λT q hm=>by obtain⟨x,I,e⟩:=q.due.1.J8.1 hm;exact hin ⟨x,I,T64.inj (q.due.2 x I |>.1 |>λh=>⟨h,(q.due.2 x I).2.1⟩) ⟨J.1,J.2.1⟩ e⟩) λw' f=>k5 (λx I e=>hin ⟨x,I,e⟩) w' ((G.trans R).trans f)
def qs1{d:HL jB}(h:∀x∈b.due,lM x≠lM d):b.k8 d=b:=by unfold Bk.k8 jE;rw[filter_eq_self.2 λx u=>zZ (h x u)]
end
end
end
section
open Go Go.Pt List
open Go.IntKind (wrap)
variable {K:Int->WP}
structure qf where
 pb:Nat
 k:Nat
 v:Nat
 frm:Sl
 to:Sl
 st:Sl
 f1:IL
 f2:IL
 f3:IL
def qf.cells (x:qf):Array IL:=#[.pointer (some ⟨x.pb,0,none⟩),.i x.k,.i x.v,x.frm.v,x.to.v,x.st.v,x.f1,x.f2,x.f3]
def nJ (w:IK) (cb:Nat) (x:qf):Prop:=∃T,w.heap[cb]?=some (.c x.cells T)
def nJ.j1{S:IS}{w w':IK}{cb:Nat}{x:qf}(h:nJ w cb x)(f:Fr S w w')(u:cb∉S):nJ w' cb x:=by obtain⟨T,h⟩:=h;exact⟨T,by rw[f.block cb (eO h) u];exact h⟩
def nJ.q8{w w':IK}{cb:Nat}{x:qf}(h:nJ w cb x)(f:Fr [] w w'):nJ w' cb x:=h.j1 f λh=>nomatch h
def nJ.frm{w:IK}{cb:Nat}{x:qf}{K:Sl->Prop}(h:nJ w cb x)(k:K x.frm):ld .slice (dk cb 3) w K:=by obtain⟨T,h⟩:=h;exact oX x.frm (jC h) k
def nJ.to{w:IK}{cb:Nat}{x:qf}{K:Sl->Prop}(h:nJ w cb x)(k:K x.to):ld .slice (dk cb 4) w K:=by obtain⟨T,h⟩:=h;exact oX x.to (jC h) k
section
variable {w:IK} {cb:Nat} {x:qf} {S:IS} {y:kQ} {n:dY} {frm to:Key}
def qA1{i:Int}(hi:-1000000<=i/\i<=1000000)(h:K (i+1) w):cW 76 [dS cb,.i i] dm w K:=by refine qjz ?_;rw[IntWalk.i64_in _ oJ];exact h
def qzl{i:Int}(hi:-1000000<=i/\i<=1000000)(h:K (i-1) w):cW 79 [dS cb,.i i] dm w K:=by refine qhI ?_;rw[IntWalk.i64_in _ oJ];exact h
def qxT{ks:Sl}{key:Key}{K:Bool->WP}(h:nJ w cb x)(u:eN S w ks key)(E:eN S w x.to to)(G:eX key)(I:eX to)(J:K (decide (cmpL key to>0)) w):cW 78 [dS cb,ks.v] dp w K:=by refine qhk<|fO (h.to ?_);exact Cw u E G I J
def qxZ{ks:Sl}{key:Key}{K:Bool->WP}(h:nJ w cb x)(u:eN S w ks key)(E:eN S w x.frm frm)(G:eX key)(I:eX frm)(J:K (decide (cmpL key frm<0)) w):cW 81 [dS cb,ks.v] dp w K:=by refine qhl<|fO (h.frm ?_);exact Cw u E G I J
def qx2(h:nJ w cb x)(G:eT S w y n)(U:eN S w x.frm frm)(V:eX frm)(hr:fY n.J8)(hl:n.J8.length<=1000000)(kk:∀w',Fr [] w w'->K (kD n frm) w'):cW 77 [dS cb,.agg (fg y)] dm w K:=by
 refine qiA<|oB (oE [] w) λr w1 e1 f1 ho=>IQ ho 0 rfl y.1 ?_;have hd:=oF ho;have u:=f1.trans (Fr.refl [] w1).drew;have hy:y.1=n.Q6:=G.1;apply eB<;>intro I;have E:n.Q6=false:=(by rw[<- hy];simpa using I);refine IR hd 0 rfl y<|fO ((h.q8 u).frm ?_);refine CQ (G.q8 u) (U.q8 u) V hr hl λJ R=>?_
 have:=kk J (u.trans R);rw[kD,iN (by rw[E];decide)] at this;exact this;have E:n.Q6=true:=(by rw[<- hy];simpa using I);refine IR hd 0 rfl y<|fO ((h.q8 u).frm ?_);refine C7 (G.q8 u) (U.q8 u) V hr hl λJ R=>?_;have:=kk J (u.trans R);rw[kD,iP E] at this;exact this
def qwd(h:nJ w cb x)(I:eT S w y n)(V:eN S w x.to to)(hB:eX to)(hr:fY n.J8)(hl:n.J8.length<=1000000)(kk:∀w',Fr [] w w'->K (iT n to) w'):cW 80 [dS cb,.agg (fg y)] dm w K:=by
 refine qhJ<|oB (oE [] w) λr w1 e1 f1 ho=>?_;have J:=oF ho;have u:=f1.trans (Fr.refl [] w1).drew;have R:y.1=n.Q6:=I.1;refine IR J 0 rfl y<|fO ((h.q8 u).to ?_);have ag:=AL n.J8 to;refine CQ (I.q8 u) (V.q8 u) hB hr hl λw3 U=>?_;have E:=J.q8 U;refine IQ E 0 rfl y.1 ?_
 have:=kk w3 (u.trans U);apply eB<;>intro G;rw[iT,iP (by rw[<- R];exact G)] at this;rw[IntWalk.i64_in _ oJ];exact this;rw[iT,iN (by rw[<- R,G];decide)] at this;exact this
end
end
end Go.Proofs.YtpcmehldpoljfaaGreatDoor
namespace Go.Pt
section
open Go
def AA{P:IN}{w:IK}{v:IL}{f:FuncId}{ra args:List IL}{ts:List iF}{K:jw ts->WP}(h:v=.func (.func f) ra.toArray #[])(u:i6 P f=false)(k:call P f (ra++args) ts w K):eJ P v args ts w K:=by subst h;refine .inl ⟨f,ra++args,?_,k⟩;simp[Deferred.ofValue,invoke,Av u]
def Cq{S ι:Type}{B:(S->WP)->S->WP}{s:S}{w:IK}(I:ι->S->WP)(m:ι->Nat)(i0:ι)(R:I i0 s w)(step:∀i s w,I i s w->∀X:S->WP,(∀h u w',I h u w'->m h<m i->X u w')->B X s w):loop S B s w:=by
 intro J U;have key:∀k i s w,m i=k->I i s w->J s w:=by
  intro k;induction k using Nat.strongRecOn with
  | _ k ih=>
   intro i s w V hI;exact U s w (step i s w hI J λh u w' E G=>ih (m h) (V▸G) h u w' rfl E)
 exact key _ i0 s w rfl R
end
end Go.Pt
namespace Go.Proofs.YtpcmehldpoljfaaGreatDoor
section
open Go Go.Pt List
open Go.IntKind (wrap)
abbrev qp:=kQ×kW
def BF (x:kQ) (i:Int):Array IL:=#[.bool x.1,x.2.1.v,x.2.2.1.v,x.2.2.2.v,.i i]
def jt (z:qp):List IL:=[.bool z.1.1,z.1.2.1.v,z.1.2.2.1.v,z.1.2.2.2.v,.i z.2.2]
def xc:∀z,(jt z).length=5:=λ_=>rfl
def qwp(z:qp):∀u∈jt z,u.oneCell'=true:=λu h=>by unfold jt at h;simp only[zG,xY,or_false] at h;rcases h with rfl|rfl|rfl|rfl|rfl<;>rfl
section
variable {w w':IK} {s:Sl} {zs:List qp} {z:qp} {SB:IS}
def Er(h:fj jt 5 w s (zs++[z]) SB):∃b u T,SB=[b]/\s.a=pW b/\w.heap[b]?=some (.c u T)/\s.len=zs.length+1/\s.len<=s.cap/\s.cap*5<=u.size/\u.toList.take (zs.length*5+5)=zs.flatMap jt++jt z:=by rcases h with ⟨_,h,_⟩|⟨b,o,u,T,I,rfl,J,R,G,U,V,E⟩;exact absurd h oL;rw[zF,xN] at G E;rw[xG,yQ,yH,flatMap_nil,xI,xV] at E;exact⟨b,u,T,I,J,R,G,U,oJ,E⟩
def qyL{b j:Nat}(h:fj jt 5 w s (zs++[z]) [b])(J:j<5):w.cell? ⟨b,zs.length*5+j,none⟩=(jt z)[j]?:=by obtain⟨b',R,T,E,U,G,V,h5,h6,I⟩:=Er h;cases E;rw[jC G,<- xM];have u:=IH (·[zs.length*5+j]?) I;rw[xB,iP,yY (by rw[qI xc];omega),qI xc,vE] at u;exact u
def qug{K:Addr->Prop}(h:fj jt 5 w s (zs++[z]) SB)(I:zs.length<=1000000)(u:∀b,SB=[b]->K ⟨b,zs.length*5,none⟩):idx s (wrap .i64 ((s.len:Int)-1)) 5 K:=by obtain⟨b,J,T,E,G,R,U,V,h6,h7⟩:=Er h;have e:wrap .i64 ((s.len:Int)-1)=(zs.length:Int):=(by rw[IntWalk.i64_in _ oJ];omega);rw[e];refine qM G ⟨oJ,oJ⟩ ?_;rw[zJ,xT];exact u b E
def qAI{b:Nat}{j:Int}{K:WP}(h:fj jt 5 w s (zs++[z]) [b])(kk:∀w',fj jt 5 w' s (zs++[(z.1,z.2.1,j)]) [b]->Fr [b] w w'->K w'):st ⟨b,zs.length*5+4,none⟩ [.i j] w K:=by
 obtain⟨b',cs,T,hB,h2,h3,h4,h5,h6,h7⟩:=Er h;cases hB;have hm:(zs.flatMap jt++jt z).length=zs.length*5+5:=(by rw[zF,qI xc];rfl);refine qH h3 _ rfl (by rfl) oO λw' hb f=>kk w' (.inr ⟨b,0,_,T,rfl,rfl,h2,hb,by rw[zF,xN];exact h4,h5,by rw[nT];omega,?_⟩) f
 have:=qqq (cs:=cs) (M:=zs.flatMap jt++jt z) (i:=zs.length*5+4) (v:=.i j) (by rw[hm];omega) (by rw[hm];exact h7);rw[hm,set_append_right _ _ (by rw[qI xc];omega),qI xc,vE] at this;rw[xG,zF,xN,xV,yQ,yH,flatMap_nil,xI];exact this
def qz3{K:Sl->Prop}(h:fj jt 5 w s (zs++[z]) SB)(hl:zs.length<=1000000)(G:∀u,fj jt 5 w u zs SB->K u):fM s none (some (wrap .i64 ((s.len:Int)-1))) none 5 K:=by obtain⟨b,I,T,J,R,U,h4,h5,h6,V⟩:=Er h;have e:wrap .i64 ((s.len:Int)-1)=(zs.length:Int):=(by rw[IntWalk.i64_in _ oJ];omega);rw[e];refine wW ⟨oJ,oJ⟩ ?_;rw[zJ];refine G _ (.inr ⟨b,0,I,T,J,rfl,R,U,rfl,by dsimp only;omega,by dsimp only;omega,?_⟩);have E:=IH (List.take (zs.length*5)) V;rw[take_take,xS oJ] at E;rw[xG,E,Ir (by rw[qI xc];exact zM _)];exact zS (by rw[qI xc];exact zM _)
end
def nf (cb:Nat) (down:Bool):IL:=.func (.func (if down then 79 else 76)) #[dS cb] #[]
def nI (cb:Nat) (down:Bool):IL:=.func (.func (if down then 80 else 77)) #[dS cb] #[]
def oT (cb:Nat) (down:Bool):IL:=.func (.func (if down then 81 else 78)) #[dS cb] #[]
def ki (down:Bool) (frm to:Key) (n:dY):Int:=if down then iT n to else kD n frm
def kx (down:Bool) (i:Int):Int:=if down then i-1 else i+1
def oc (down:Bool) (frm to key:Key):Bool:=if down then decide (cmpL key frm<0) else decide (cmpL key to>0)
structure gx (dbk pb:Nat) (FD:IS) (D:dV) (F:IS) (M:eH) (k v:Nat) (frm to:Key) (down:Bool) (w0:IK) (cb:Nat) (Y:IS) (w:IK) (st:Sl) (SB:IS) (zs:List qp):Prop where
 cell:∃ sf sto,nJ w cb ⟨pb,k,v,sf,sto,st,nf cb down,nI cb down,oT cb down⟩/\eN (cb::(SB++Y)) w sf frm/\eN (cb::(SB++Y)) w sto to
 tw:TW dbk pb FD D 900000 w (cb::(SB++Y)) F M
 uP:fj jt 5 w st zs SB
 nodes:∀ z∈zs,eT (cb::(SB++Y)) w z.1 z.2.1/\fW z.2.1 k v
 D8:cb∉SB
 Bj:cb∉Y
 yy:∀ b∈SB,b∉Y
 new:∀ b∈cb::SB,w0.heap.size<=b
 yj:eX frm
 HS:eX to
 Ba:zs.length<=100000
section
variable {dbk pb:Nat} {FD F:IS} {D:dV} {M:eH} {k v:Nat} {frm to:Key} {down:Bool} {w0 w w':IK} {cb:Nat} {Y Y' SB SB':IS} {st st':Sl} {zs zs':List qp}
def gx.x8(h:gx dbk pb FD D F M k v frm to down w0 cb Y w st SB zs)(f:Fr (cb::(SB++Y)) w w')(hc:∃sf I T,w.heap[cb]?=some (.c (qf.cells ⟨pb,k,v,sf,I,st,nf cb down,nI cb down,oT cb down⟩) T)/\w'.heap[cb]?=some (.c (qf.cells ⟨pb,k,v,sf,I,st',nf cb down,nI cb down,oT cb down⟩) T))(G:fj jt 5 w' st' zs' SB')(hn:∀z∈zs',eT (cb::(SB'++Y')) w' z.1 z.2.1/\fW z.2.1 k v)(hS:∀b∈SB',b∈SB\/w.heap.size<=b)(hY:∀b∈Y',b∈Y\/w.heap.size<=b)(ad:∀b∈Y',b<w'.heap.size)(ae:∀b∈SB',b∉Y')(hl:zs'.length<=100000):gx dbk pb FD D F M k v frm to down w0 cb Y' w' st' SB' zs':=by
 obtain⟨sf,I,⟨T,u⟩,af,ag⟩:=h.cell;obtain⟨V,J,T',e,ab⟩:=hc;rw[e] at u;have e1:V=sf/\J=I:=by
  injection u with u;injection u with u;unfold qf.cells at u;simp only[Array.mk.injEq,List.cons.injEq,Value.slice.injEq,and_true,true_and] at u;obtain⟨⟨a1,a2,a3⟩,⟨b1,b2,b3⟩⟩:=u;exact⟨by cases sf;cases V;simp_all,by cases I;cases J;simp_all⟩
 obtain⟨rfl,rfl⟩:=e1;have ao:=eO e;have R:∀b∈cb::(SB'++Y'),b∈cb::(SB++Y)\/w.heap.size<=b:=λb G=>by rcases zG.1 G with rfl|G;exact .inl oL;rcases zD.1 G with G|G;exact (hS b G).imp (λh=>by simp[h]) id;exact (hY b G).imp (λh=>by simp[h]) id
 have ah:∀b∈cb::(SB'++Y'),b<w'.heap.size:=λb E=>by rcases zG.1 E with rfl|E;exact eO ab;rcases zD.1 E with E|E;exact G.lt b E;exact ad b E
 have ai:w0.heap.size<=cb:=h.new cb oL;refine⟨⟨V,J,⟨T',ab⟩,af.j1 f R,ag.j1 f R⟩,h.tw.dA f ah R,G,hn,λhm=>?_,λhm=>?_,ae,λb G=>?_,h.yj,h.HS,hl⟩;rcases hS cb hm with U|U;exact h.D8 U;omega;rcases hY cb hm with U|U;exact h.Bj U;omega;rcases zG.1 G with rfl|G;exact ai;rcases hS b G with U|U;exact h.new b (by simp[U]);omega
def gx.at(h:gx dbk pb FD D F M k v frm to down w0 cb Y w st SB zs):∃E u T,w.heap[cb]?=some (.c (qf.cells ⟨pb,k,v,E,u,st,nf cb down,nI cb down,oT cb down⟩) T):=by obtain⟨E,u,⟨T,G⟩,_⟩:=h.cell;exact⟨E,u,T,G⟩
def gx.lt(h:gx dbk pb FD D F M k v frm to down w0 cb Y w st SB zs):∀b∈cb::(SB++Y),b<w.heap.size:=h.tw.qZ
def gx.j1(h:gx dbk pb FD D F M k v frm to down w0 cb Y w st SB zs)(f:Fr Y w w')(E:∀b∈Y',b∈Y\/w.heap.size<=b)(G:∀b∈Y',b<w'.heap.size):gx dbk pb FD D F M k v frm to down w0 cb Y' w' st SB zs:=by
 obtain⟨sf,I,T,J⟩:=h.at;have R:=eO J;have U:Fr (cb::(SB++Y)) w w':=f.mono λb u _=>by simp[u]
 refine h.x8 U ⟨sf,I,T,J,by rw[f.block cb R h.Bj];exact J⟩ (h.uP.j1 f h.yy) (λz V=>⟨(h.nodes z V).1.j1 U λb u=>?_,(h.nodes z V).2⟩) (λb u=>.inl u) E G (λb u hm=>?_) h.Ba;rcases zG.1 u with rfl|u;exact .inl oL;rcases zD.1 u with u|u;exact .inl (by simp[u]);exact (E b u).imp (λh=>by simp[h]) id;rcases E b hm with h1|h1;exact h.yy b u h1;have:=h.lt b (by simp[u]);omega
def gx.q8(h:gx dbk pb FD D F M k v frm to down w0 cb Y w st SB zs)(f:Fr [] w w'):gx dbk pb FD D F M k v frm to down w0 cb Y w' st SB zs:=
 h.j1 (f.mono λ_ h=>nomatch h) (λb u=>.inl u) λb u=>yC (h.lt b (by simp[u])) f.size
def gx.drew(h:gx dbk pb FD D F M k v frm to down w0 cb Y w st SB zs):gx dbk pb FD D F M k v frm to down w0 cb Y w.drew st SB zs:=h.q8 (Fr.refl [] w).drew
def gx.qt{K:Sl->Prop}(h:gx dbk pb FD D F M k v frm to down w0 cb Y w st SB zs)(u:K st):ld .slice (dk cb 5) w K:=by
 obtain⟨I,E,T,G⟩:=h.at;exact oX st (jC G) u
def gx.uj{K:WP}(h:gx dbk pb FD D F M k v frm to down w0 cb Y w st SB zs)(w1:IK)(f:Fr SB w w1)(u:fj jt 5 w1 st' zs' SB')(hn:∀z∈zs',z∈zs\/eT (cb::(SB'++Y)) w1 z.1 z.2.1/\fW z.2.1 k v)(U:∀b∈SB',b∈SB\/w.heap.size<=b)(hl:zs'.length<=100000)(kk:∀w',gx dbk pb FD D F M k v frm to down w0 cb Y w' st' SB' zs'->Fr (cb::SB) w w'->K w'):Pt.st (dk cb 5) [st'.v] w1 K:=by
 obtain⟨sf,G,T,hc⟩:=h.at;have ac:=eO hc;have ad:w1.heap[cb]?=some (.c (qf.cells ⟨pb,k,v,sf,G,st,nf cb down,nI cb down,oT cb down⟩) T):=(by rw[f.block cb ac h.D8];exact hc);have J:cb∉SB':=λI=>by rcases U cb I with E|E;exact h.D8 E;omega
 refine qH ad (qf.cells ⟨pb,k,v,sf,G,st',nf cb down,nI cb down,oT cb down⟩) rfl rfl (zO rfl) λw2 ae f2=>?_;have V:Fr (cb::SB) w w2:=(f.mono λb u _=>by simp[u]).J0 f2 λb u=>.inl (by rw[zE.1 u];simp);refine kk w2 (h.x8 (V.mono λb u _=>by rcases zG.1 u with rfl|u<;>simp[*]) ⟨sf,G,T,hc,ae⟩ (u.j1 f2 λb u I=>J (by rw[zE.1 I] at u;exact u)) (λz hz=>?_) U (λb u=>.inl u) (λb u=>yC (h.lt b (by simp[u])) V.size) (λb u I=>?_) hl) V;have R:∀b∈cb::(SB'++Y),b∈cb::(SB++Y)\/w.heap.size<=b:=λb u=>by rcases zG.1 u with rfl|u;exact .inl oL;rcases zD.1 u with u|u;exact (U b u).imp (λh=>by simp[h]) id;exact .inl (by simp[u])
 rcases hn z hz with E|E;exact⟨(h.nodes z E).1.j1 (V.mono λb u _=>by rcases zG.1 u with rfl|u<;>simp[*]) R,(h.nodes z E).2⟩;exact⟨E.1.j1 (f2.mono λb u _=>by rw[zE.1 u];simp) λb u=>.inl u,E.2⟩;rcases U b u with E|E;exact h.yy b E I;have:=h.lt b (by simp[I]);omega
def gx.wy{z:qp}{b:Nat}{j:Int}{K:WP}(h:gx dbk pb FD D F M k v frm to down w0 cb Y w st [b] (zs++[z]))(V:∀w',gx dbk pb FD D F M k v frm to down w0 cb Y w' st [b] (zs++[(z.1,z.2.1,j)])->Fr [b] w w'->K w'):Pt.st ⟨b,zs.length*5+4,none⟩ [.i j] w K:=by
 refine qAI h.uP λw' hb f=>V w' ?_ f;obtain⟨sf,I,T,J⟩:=h.at;have R:cb∉[b]:=h.D8;have U:Fr (cb::([b]++Y)) w w':=f.mono λx u _=>by rw[zE.1 u];simp
 have E:∀x∈cb::([b]++Y),x∈cb::([b]++Y)\/w.heap.size<=x:=λx u=>.inl u;refine h.x8 U ⟨sf,I,T,J,by rw[f.block cb (eO J) R];exact J⟩ hb (λy G=>?_) (λx u=>.inl u) (λx u=>.inl u) (λx u=>yC (h.lt x (by simp[u])) f.size) h.yy (by have:=h.Ba;rw[zF] at this⊢;exact this);rcases zD.1 G with G|G;exact⟨(h.nodes y (zH _ G)).1.j1 U E,(h.nodes y (zH _ G)).2⟩;rw[zE.1 G];exact⟨eT.j1 (h.nodes z oL).1 U E,(h.nodes z oL).2⟩
end
end
end Go.Proofs.YtpcmehldpoljfaaGreatDoor
namespace Go.Pt
section
open Go
def qyq{o:Obj}{w:IK}{H:WP}{R:Nat->WP}(h:Pt.new o w R)(u:∀w',Fr [] w w'->H w'):Pt.new o w λr w1=>held [H] w1 (R r w1):=⟨u _ ((Fr.refl [] w).alloc o),h⟩
end
end Go.Pt
namespace Go.Proofs.YtpcmehldpoljfaaGreatDoor
section
open Go Go.Pt List
open Classical
abbrev FT:IM:=176
def qAm:∃i,Tryz.prog.info? FT=some i/\i.zero=some (.agg dg)/\i.size=5/\i.bytes=88:=tB oK
def qAD{w:IK}{s:Sl}{zs:List qp}{SB:IS}{x:kQ}{n:dY}{i:Int}{H:WP}{K:Sl->WP}(h:fj jt 5 w s zs SB)(V:zs.length<=1000000)(I:∀w',Fr [] w w'->H w')(J:∀G B' w',fj jt 5 w' G (zs++[(x,n,i)]) B'->Fr SB w w'->(∀b∈B',b∈SB\/w.heap.size<=b)->K G w'): Pt.new (.cells (BF x i) FT) w λr w1=>held [H] w1 (Pt.run dl ((Builtin.append_ #[162,162] 162 #[s.v,.slice (pW r) 1 1]).run Tryz.prog w1) K):=by obtain⟨j,R,U,u,E⟩:=qAm;exact qyq (fj.push (e:=FT) (x:=((x,n,i):qp)) h xc (qwp _) oK R U u rfl rfl (by rw[E];omega) oJ J) I
section
variable {dbk pb:Nat} {FD F:IS} {D:dV} {M:eH} {k v:Nat} {frm to:Key} {down:Bool} {w0 w wA:IK} {cb:Nat} {Y SB:IS} {st:Sl} {zs:List qp} {x:kQ} {n:dY} {i:Int}
def qrF{S:IS}{K:Int->WP}(h:gx dbk pb FD D F M k v frm to down w0 cb Y w st SB zs)(u:eT (cb::(SB++Y)) w x n)(E:fY n.J8)(G:n.J8.length<=1000000)(I:∀w',Fr [] w w'->K (ki down frm to n) w'):eJ Tryz.prog (nI cb down) [.agg (fg x)] dm w K:=by
 obtain⟨sf,R,J,U,V⟩:=h.cell;cases down with
 | false=>exact AA (ra:=[dS cb]) rfl oK (qx2 J u U h.yj E G I)
 | true=>exact AA (ra:=[dS cb]) rfl oK (qwd J u V h.HS E G I)
def qxy{K:Int->WP}(hi:-1000000<=i/\i<=1000000)(h:K (kx down i) w):eJ Tryz.prog (nf cb down) [.i i] dm w K:=by
 cases down with
 | false=>exact AA (ra:=[dS cb]) rfl oK (qA1 hi h)
 | true=>exact AA (ra:=[dS cb]) rfl oK (qzl hi h)
def qzQ{ks:Sl}{key:Key}{K:Bool->WP}(h:gx dbk pb FD D F M k v frm to down w0 cb Y w st SB zs)(u:eN (cb::(SB++Y)) w ks key)(E:eX key)(G:K (oc down frm to key) w):eJ Tryz.prog (oT cb down) [ks.v] dp w K:=by
 obtain⟨V,J,I,R,U⟩:=h.cell;cases down with
 | false=>exact AA (ra:=[dS cb]) rfl oK (qxT I u U E h.HS G)
 | true=>exact AA (ra:=[dS cb]) rfl oK (qxZ I u R E h.yj G)
def gx.J2{T:IS}{L:IW}(E:gx dbk pb FD D F M k v frm to down w0 cb Y wA st SB zs)(h:ef T wA w L)(G:∀b∈T,b∈Y):gx dbk pb FD D F M k v frm to down w0 cb Y w st SB zs:=
 E.j1 (h.fr.mono λb u _=>G b u) (λb u=>.inl u) λb u=>yC (E.lt b (by simp[u])) h.fr.size
def eT.yk{T:IS}{L:IW}(E:eT (cb::(SB++Y)) wA x n)(h:ef T wA w L)(G:∀b∈T,b∈Y):eT (cb::(SB++Y)) w x n:=
 E.j1 (h.fr.mono λb u _=>by simp[G b u]) λb u=>.inl u
def qqf{T:IS}{E G:Nat}{X:Int->WP}{K:Unit->WP}(hA:gx dbk pb FD D F M k v frm to down w0 cb Y wA st SB zs)(hN:eT (cb::(SB++Y)) wA x n)(h:ef T wA w [(E,.c (BF fS 0) FT),(G,.c (fg x) ND)])(hT:∀b∈T,b∈Y)(hl:zs.length+1<=100000)(aj:fW n k v)(hI:n.Q6=false->∃j:Nat,i=j/\j<n.Q1.length)(I:∀w' st' SB',gx dbk pb FD D F M k v frm to down w0 cb Y w' st' SB' (zs++[(x,n,i)])->Fr (cb::(SB++T)) wA w'->(∀b∈SB',b∈SB\/wA.heap.size<=b)->if n.Q6 then K () w' else X (n.Q1.getD i.toNat 0) w'): C8 (pW cb) K E x i w G X:=by
 unfold C8;refine oD h 0 rfl (BF x i) λw1 h f1=>?_;have h:=oF h;have hC:=hA.J2 h hT;refine fO (hC.qt ?_);refine IR h 0 rfl (x.1,x.2.1,x.2.2.1,x.2.2.2,i)<|qAD (x:=x) (n:=n) (i:=i) hC.uP oJ (λw' f=>?_) λs' B' w2 ak f2 n2=>?_;obtain⟨sf,aA,T,R⟩:=(hC.q8 f).at
 exact jC R;refine fO ?_;have U:=eO (h.at (i:=1) rfl);have V:=eO (h.at (i:=0) rfl);have am:=h.fr.size;have an:=hN.yk h hT;refine hC.uj w2 f2 ak (λz hz=>(zD.1 hz).imp id λhz=>?_) n2 (by rw[zF];exact hl) λw3 h3 f3=>?_;rw[zE.1 hz];refine⟨an.j1 (f2.mono λb u _=>by simp[u]) λb u=>?_,aj⟩;rcases zG.1 u with rfl|u;exact .inl oL;rcases zD.1 u with u|u;exact (n2 b u).imp (λh=>by simp[h]) id;exact .inl (by simp[u]);have f4:Fr (cb::(SB++T)) wA w3:=(h.fr.mono λb u _=>by simp[u]).trans (f3.mono λb u _=>by rcases zG.1 u with rfl|u<;>simp[*]);have ab:∀r,r∈T\/wA.heap.size<=r->r∉cb::SB:=λr hr hm=>by
  rcases hr with hr|hr;rcases zG.1 hm with rfl|hm;exact hA.Bj (hT _ hr);exact hA.yy r hm (hT r hr);have:=hA.lt r (by rcases zG.1 hm with rfl|hm<;>simp[*]);omega
 have ae:w3.heap[G]?=some (.c (fg x) ND):=(by rw[f3.block G U (ab G (h.own (G,.c (fg x) ND) oL))];exact h.at (i:=1) rfl);have aq:w3.heap[E]?=some (.c (BF x i) FT):=(by rw[f3.block E V (ab E (h.own (E,.c (BF x i) FT) oL))];exact h.at (i:=0) rfl);have I:=I w3 s' B' h3 f4 λb u=>(n2 b u).imp id λh=>zL am h;have J:x.1=n.Q6:=hN.1;refine iv ae x.1 rfl ?_;apply eB<;>intro R;rw[<- J,R,iP rfl] at I;exact I;rw[<- J,R,iN oM] at I;refine iv ae x.2.2.2 rfl<|iv aq i rfl ?_;obtain⟨j,rfl,hj⟩:=hI (by rw[<- J,R]);have af:eI iZ 1 (cb::(B'++Y)) w3 x.2.2.2 n.Q1:=(h3.nodes (x,n,(j:Int)) oL).1.2.2.2.2;refine eI.get af j rfl (zA hj) (y:=n.Q1[j]) rfl ?_;rw[zJ,yR,zA hj] at I;exact I
def qw5{T:IS}{R:Nat}{X:Int->WP}{K:Unit->WP}(G:gx dbk pb FD D F M k v frm to down w0 cb Y wA st SB zs)(U:eT (cb::(SB++Y)) wA x n)(h:ef T wA w [(R,.c (fg fS) ND)])(E:∀b∈T,b∈Y)(hl:zs.length+1<=100000)(u:fW n k v)(hI:n.Q6=false->∃j:Nat,ki down frm to n=j/\j<n.Q1.length)(kk:∀w' st' SB',gx dbk pb FD D F M k v frm to down w0 cb Y w' st' SB' (zs++[(x,n,ki down frm to n)])->Fr (cb::(SB++T)) wA w'->(∀b∈SB',b∈SB\/wA.heap.size<=b)->if n.Q6 then K () w' else X (n.Q1.getD (ki down frm to n).toNat 0) w'): BU (pW cb) K R (x,0) w X:=by
 unfold BU;refine oD h 0 rfl (fg x) λw1 h f1=>?_;have h:=oF h;refine Io rfl<|⟨?_,?_⟩;refine IR h 0 rfl x ?_;obtain⟨V,I,T,J⟩:=(G.J2 h E).at;refine fO (oX (nI cb down) (jC J) ?_);refine IR h 0 rfl x<|qrF (S:=[]) (G.J2 h E) (U.yk h E) u.2.2.1 (by have:=(vR u).1;omega) λw2 f2=>?_;have h:=h.q8 f2;refine iS (h.cells 0)<|oB h λab w3 e3 f3 h=>?_;obtain⟨V,I,T,J⟩:=(G.J2 h E).at
 exact nj (h.cells 1) (jC J) (h.cells 1)<|qqf G U h E hl u hI kk;refine IR h 0 rfl x ?_;obtain⟨V,I,T,J⟩:=(G.J2 h E).at;refine fO (oX (nI cb down) (jC J) ?_);refine IR h 0 rfl x<|oB h λab w3 e3 f3 h=>?_;obtain⟨V,I,T,J⟩:=(G.J2 h E).at
 refine nj (h.cells 1) (jC J) (h.cells 1)<|qrF (S:=[]) (G.J2 h E) (U.yk h E) u.2.2.1 (by have:=(vR u).1;omega) λw2 f2=>?_;have h:=h.q8 f2;exact iS (h.cells 1)<|qqf G U h E hl u hI kk
def qpx{s:iK}{h:Nat}{K:Unit->WP}(hs:Has D M k v h s)(hu:ia s.x7)(hC:gx dbk pb FD D F M k v frm to down w0 cb Y w st SB zs)(hl:zs.length+h+1<=100000)(kk:∀w' st' SB' zs',gx dbk pb FD D F M k v frm to down w0 cb Y w' st' SB' (zs++zs')->i4 D k v M (ki down frm to) (h+1) s.x7=some (zs'.map (·.2))->Fr (cb::SB) w w'->(∀b∈SB',b∈SB\/w.heap.size<=b)->K () w'): cW 82 [dS cb,.u s.x7] [] w K:=by
 refine qhL<|Cq (λ(hh:Nat) p w'=>∃(sg:iK) (G:List qp) (af:Sl) (R:IS),p=sg.x7/\ia sg.x7/\Has D M k v hh sg/\gx dbk pb FD D F M k v frm to down w0 cb Y w' af R (zs++G)/\(i4 D k v M (ki down frm to) (hh+1) sg.x7).map (G.map (·.2)++·)=i4 D k v M (ki down frm to) (h+1) s.x7/\G.length+hh=h/\Fr (cb::SB) w w'/\∀b∈R,b∈SB\/w.heap.size<=b) id h ⟨s,[],st,SB,rfl,hu,hs,by rw[xI];exact hC,oL,oL,.refl _ _,λb E=>.inl E⟩ ?_;rintro hh p w1 ⟨sg,G,af,R,rfl,aI,av,ab,aw,a1,f1,n1⟩ X hX;have J:∃n,dW D M k v sg.x7=(n,0)/\(n.Q6=true->hh=0)/\(n.Q6=false->∃h2 V,hh=h2+1/\n=dZ V/\∃hj:eP n.J8 (if down then to else frm)<V.length,n.Q1.getD (eP n.J8 (if down then to else frm)) 0=V[eP n.J8 (if down then to else frm)].2.x7/\Has D M k v h2 V[eP n.J8 (if down then to else frm)].2):=by
  cases hh with
  | zero=>
   obtain⟨h1,h2,h3,h4⟩:=av;exact⟨_,h3.load h4,λ_=>rfl,(λe=>nomatch e)⟩
  | succ h2=>
   obtain⟨V,e1,hj,e2,e3⟩:=qyf (key:=if down then to else frm) av;exact⟨_,e1,(λe=>nomatch e),λ_=>⟨h2,V,rfl,rfl,hj,e2,e3⟩⟩
 obtain⟨n,J,aK,ax⟩:=J;have ay:=CG J;obtain⟨l1,l2,l3,l4,l5⟩:=vR ay;have am:(dU D M sg.x7).2.2=0/\i3 (dU D M sg.x7).1 (dU D M sg.x7).2.1 k v=(n,0):=by unfold dW at J;split at J;rename_i ag;exact absurd (vC J).2 ag;rename_i he;exact⟨oJ,J⟩
 have az:eX (dU D M sg.x7).2.1:=qhY ab.tw.lim.ok (λe he=>(ab.tw.wf.body e he).2.2) _;have aL:(zs++G).length+1<=100000:=(by rw[zF];omega);have hI:n.Q6=false->∃j:Nat,ki down frm to n=j/\j<n.Q1.length:=λe=>by
  obtain⟨h2,V,_,rfl,hj,_⟩:=ax e;refine⟨_,?_,by show _<(V.map _).length;rw[zK];exact hj⟩;cases down with
  | false=>
   show kD (dZ V) frm=_;exact iN (λg=>nomatch g)
  | true=>
   show iT (dZ V) to=_;exact iN (λg=>nomatch g)
 have rest:∀(x:kQ) (Y' T:IS) (wA wB:IK) (r:Nat),gx dbk pb FD D F M k v frm to down w0 cb Y' wA af R (zs++G)->eT (cb::(R++Y')) wA x n->ef T wA wB [(r,.c (fg fS) ND)]->(∀b∈T,b∈Y')->(∀b∈T,w1.heap.size<=b)->(∀b∈Y,b∈Y')->Fr [] w1 wA->BU (pW cb) K r (x,0) wB X:=by
  intro x Y' T wA wB r hA hN hO hT aN hY fA;refine qw5 hA hN hO hT aL ay hI λw2 an ah I f2 n2=>?_;have I:gx dbk pb FD D F M k v frm to down w0 cb Y w2 an ah (zs++(G++[(x,n,ki down frm to n)])):=by rw[<- zV];exact I.j1 (.refl _ _) (λb E=>.inl (hY b E)) λb E=>I.lt b (by simp[hY b E])
  have f3:Fr (cb::SB) w w2:=f1.J0 ((fA.mono λ_ h=>nomatch h).trans f2) λb E=>by rcases zG.1 E with rfl|E;exact .inl oL;rcases zD.1 E with E|E;exact (n1 b E).imp (λh=>by simp[h]) id;exact .inr (zL f1.size (aN b E))
  have n3:∀b∈ah,b∈SB\/w.heap.size<=b:=λb E=>by rcases n2 b E with h|h;exact n1 b h;exact .inr (zL f1.size (zL fA.size h))
  by_cases hlf2:n.Q6=true;rw[iP hlf2];obtain rfl:=aK hlf2;refine kk w2 an ah (G++[(x,n,ki down frm to n)]) I ?_ f3 n3;rw[<- aw,i4,J,iN λh=>h rfl,iP hlf2];simp
  ·rw[iN hlf2];have aA:n.Q6=false:=(oP hlf2);obtain⟨h2,V,rfl,ag,hj,ao,hk⟩:=ax aA;have aB:ki down frm to n=((eP n.J8 (if down then to else frm):Nat):Int):=by
    cases down with
    | false=>
     show kD n frm=_;exact iN hlf2
    | true=>
     show iT n to=_;exact iN hlf2
   rw[aB,zJ,ao];refine hX h2 _ w2 ⟨_,G++[(x,n,ki down frm to n)],an,ah,rfl,?_,hk,I,?_,by rw[zF,xN];omega,f3,n3⟩ (Nat.lt_succ_self _);rw[<- ao];have aC:eP n.J8 (if down then to else frm)<n.Q1.length:=(by rw[ag];show _<(V.map _).length;rw[zK,<- ag];exact hj);rw[yR,zA aC];exact hN.2.1.2.2 _ (zW aC)
   ·rw[<- aw];conv=>rhs;rw[i4,J,iN λh=>h rfl,iN hlf2]
    dsimp only;rw[aB,zJ,ao,Option.map_map];simp[Function.comp_def]
 obtain⟨sf,ap,T,hc⟩:=ab.at;refine fO (oX (pW pb) (jC hc) ?_);refine TW.read ab.tw aI λsb w2 aD f2=>?_;have I:=(ab.q8 f2).drew;refine Io (by dsimp only;rw[am.1];rfl) ?_;obtain⟨sf,ap,T,hc⟩:=I.at;have ac:=I.lt;refine⟨?_,?_⟩;refine fO (oX (k:Int) (jC hc) ?_);refine fO (oX (v:Int) (jC hc) ?_);refine GC (k:=k) (v:=v) (aD [] λ_ h=>nomatch h) az λx B w3 hN f3 aq=>?_;rw[am.2] at hN⊢;have U:=I.q8 f3;refine oB (oE [] w3) λr w4 e4 f4 h=>?_;obtain⟨sf,ap,T,hc⟩:=(U.q8 f4).at;refine kV (jC hc) (jC hc)<|rest x Y [] w3 w4 r U (hN.rd (λb E hm=>?_) λb E=>.inl ?_) h (λ_ h=>nomatch h) (λ_ h=>nomatch h) (λb E=>E) (f2.drew.trans f3);have:=aq b E;have:=ac b hm;omega;have:b<w2.heap.size:=ac b E;exact zH _ (mem_range.2 this);refine fO (oX (k:Int) (jC hc) ?_);refine fO (oX (v:Int) (jC hc) ?_);refine oB (oE [] w2.drew) λr w3 e3 f3 h=>?_;have aQ:=eO (h.at (i:=0) rfl);have U:gx dbk pb FD D F M k v frm to down w0 cb (r::Y) w3 af R (zs++G):=I.j1 (f3.mono λ_ h=>nomatch h) (λb E=>(zG.1 E).elim (λe=>.inr (by rw[e,e3];exact zM _)) .inl) λb E=>by rcases zG.1 E with rfl|E;exact aQ;exact yC (ac b (by simp[E])) f3.size
 obtain⟨sf,ap,T,hc⟩:=U.at;refine kV (jC hc) (jC hc)<|GC (k:=k) (v:=v) (eI.q8 (w:=w2.drew) (aD [] λ_ h=>nomatch h) f3) az λx B w4 hN f4 aq=>?_;rw[am.2] at hN⊢;have ak:=U.lt;refine rest x (r::Y) [r] w4 w4 r (U.q8 f4) (hN.rd (λb E hm=>?_) λb E=>.inl ?_) (EV ((h.q8 f4).at (i:=0) rfl)) (λb E=>by rw[zE.1 E];simp) (λb E=>?_) (λb E=>by simp[E]) ((f2.drew.trans f3).trans f4)
 have:=aq b E;have:=ak b hm;omega;exact zH _ (mem_range.2 (ak b E));rw[zE.1 E,e3];exact f2.size
end
end
section
open Go Go.Pt List
open Go.IntKind (wrap)
open Classical
section
variable {dbk pb:Nat} {FD F:IS} {D:dV} {M:eH} {k v:Nat} {frm to:Key} {down:Bool} {w0 w wA:IK} {cb:Nat} {Y SB:IS} {st:Sl} {zs:List qp}
def gx.lf{c:Cell}{b j:Nat}{z:qp}{K:c.El->Prop}(h:gx dbk pb FD D F M k v frm to down w0 cb Y w st [b] (zs++[z]))(u:j<5)(x:c.El)(E:(jt z)[j]?=some (c.mk x))(G:K x):ld c ⟨b,zs.length*5+j,none⟩ w K:=
 oX x ((qyL h.uP u).trans E) G
def qwe{h:Nat}{K:Unit->WP}(hp:Path D M k v (kx down) h (zs.map (·.2)))(hC:gx dbk pb FD D F M k v frm to down w0 cb Y w st SB zs)(kk:∀w' st' SB' zs',gx dbk pb FD D F M k v frm to down w0 cb Y w' st' SB' zs'->zs'.map (·.2)=(iU D k v M (ki down frm to) (kx down) h (zs.map (·.2))).getD []->Fr (cb::SB) w w'->(∀b∈SB',b∈SB\/w.heap.size<=b)->K () w'): cW 84 [dS cb] [] w K:=by
 refine qhK ?_;have J:=hp.len;have aU:=hC.Ba;rw[zK] at J;refine Cq (λ(ab:List kW) (_:PUnit) w'=>∃(u:List qp) (z:qp) (rest:List kW) (h1:Nat) (al:Sl) (ac:IS),u.map (·.2)=ab/\gx dbk pb FD D F M k v frm to down w0 cb Y w' al ac (u++[z])/\zs.map (·.2)=ab++rest/\ab.length+h1=h/\iU D k v M (ki down frm to) (kx down) h1 rest=none/\Fr (cb::SB) w w'/\∀b∈ac,b∈SB\/w.heap.size<=b) List.length (zs.map (·.2)).dropLast ?_ ?_
 ·have I:zs≠[]:=λe=>by rw[e] at J;simp at J
  have hz:=(vB I).symm;refine⟨zs.dropLast,zs.getLast I,[(zs.getLast I).2],0,st,SB,by rw[map_dropLast],by rw[<- hz];exact hC,?_,by simp;omega,rfl,.refl _ _,λb G=>.inl G⟩;conv=>lhs;rw[hz]
  simp
 rintro ab _ w1 ⟨u,z,rest,h1,al,ac,rfl,ad,hz,hh,hn,f1,n1⟩ X hX;have av:=ad.Ba;rw[zF,xN] at av;have aF:al.len=u.length+1:=(by rw[ad.uP.len,zF];rfl);refine fO (ad.qt (Im (by rw[aF];exact zZ oJ) ?_));have ae:=ad.drew;refine fO (ae.qt ?_);refine fO (ae.qt ?_);refine qz3 ae.uP oJ λs2 ax=>?_;refine fO ?_;refine ae.uj w1.drew (.refl _ _) ax (λz hz=>.inl (zH _ hz)) (λb G=>.inl G) oJ λw2 am f2=>?_;have ay:Fr (cb::SB) w w2:=f1.J0 ((Fr.refl _ w1).drew.trans f2) λb G=>by rcases zG.1 G with rfl|G;exact .inl oL;exact (n1 b G).imp (λh=>by simp[h]) id
 refine fO (am.qt ?_);have az:s2.len=u.length:=ax.len;apply eB<;>intro hc;have hc:(s2.len:Int)=0:=yP.1 hc;have e0:u=[]:=length_eq_zero_iff.1 oJ;subst e0;refine kk w2 s2 ac [] am ?_ ay n1;rw[hz,map_nil,xJ];have:h1=h:=(oP hh);rw[<- this,hn];rfl;have hc:¬(s2.len:Int)=0:=zR.1 hc;have I:u≠[]:=λe=>by rw[e] at az;simp at az;omega
 obtain⟨R,y,rfl⟩:∃R y,u=R++[y]:=⟨u.dropLast,u.getLast I,(vB I).symm⟩;rw[xO,xP,map_nil,zV,singleton_append] at hz;rw[xO,xP,map_nil,zF,xN] at hh;have af:(R.map (·.2)).length+(h1+1)=h:=oJ;have an:Path D M k v (kx down) (h1+1) (y.2::rest):=by rw[hz,<- af] at hp;exact hp.drop
 obtain⟨E,i,up,ey,a3,a4,aB,_⟩:=an;obtain⟨yx,yf⟩:=y;have aG:yf=(dZ E,i):=(vD ey).1;subst aG;have ag:=am.drew;rw[zF,xN] at av;refine fO (ag.qt ?_);refine fO (ag.qt ?_);refine qug ag.uP oJ λb hB=>?_;subst hB;have ah:=ag.drew;obtain⟨sf,a7,T,aH⟩:=ah.at;have ap:=ah.nodes (yx,dZ E,i) oL;have ai:(dZ E).Q1.length=E.length:=(by show (E.map (·.2.x7)).length=_;rw[zK]);have aX:E.length<=498:=(by rw[<- ai];exact (vR ap.2).2.2.1);refine fO (oX (nf cb down) (jC aH) ?_);refine ah.lf (j:=4) oM i rfl ?_;refine qxy oJ ?_;have aY:-1<=kx down i/\kx down i<=1000000:=(by unfold kx;split<;>omega);refine ah.wy λw3 aI f3=>?_;have U:=aI.drew;have aq:Fr (cb::SB) w w3:=ay.J0 (((Fr.refl _ w2).drew.drew).trans f3) λb' G=>by rw[zE.1 G];exact (n1 b oL).imp (λh=>by simp[h]) id
 have aJ:yx.2.2.2.len=E.length:=(by rw[ap.1.2.2.2.2.1,ai]);have V:=qvl (x:=(dZ E,i)) hn;refine iC (λq w'=>q=decide (0<=kx down i/\kx down i<E.length)/\w'=w3.drew) ?_ ?_;refine U.lf (j:=4) oM (kx down i) rfl ?_;apply eB<;>intro h;have h:=zC h;refine U.lf (j:=4) oM (kx down i) rfl ?_;refine U.lf (j:=3) oM yx.2.2.2 rfl ?_;exact⟨decide_eq_decide.2 (by rw[aJ];omega),rfl⟩;have h:=zB h;exact⟨(zU λg=>h g.1).symm,rfl⟩;rintro q w4 ⟨rfl,rfl⟩;have aj:=U.drew;apply eB<;>intro h;obtain⟨h5,h6⟩:=zC h;obtain⟨j,hj⟩:∃j:Nat,kx down i=j:=⟨(kx down i).toNat,oJ⟩;have aC:j<E.length:=oJ;refine aj.lf (j:=3) oM yx.2.2.2 rfl ?_;refine aj.lf (j:=4) oM (kx down i) rfl ?_;have aL:eI iZ 1 _ w3.drew.drew yx.2.2.2 (dZ E).Q1:=(aj.nodes (yx,dZ E,kx down i) oL).1.2.2.2.2;have ar:(dZ E).Q1[j]?=some E[j].2.x7:=(by show (E.map (·.2.x7))[j]?=_;rw[zQ,zA aC];rfl);refine eI.get aL j hj ar (y:=E[j].2.x7) rfl ?_;refine qpx (aB j hj aC) (ap.1.2.1.2.2 _ (yF ar)) aj (by rw[zF,xN];rw[zK] at af;omega) λw5 aM aN aO aP aQ f5 n5=>?_;refine kk w5 aM aN _ aP ?_ (aq.J0 ((Fr.refl _ w3).drew.drew.trans f5) λb' G=>?_) λb' G=>?_;have e1:iU D k v M (ki down frm to) (kx down) (h1+1) ((dZ E,i)::rest)=some ((dZ E,kx down i)::aO.map (·.2)):=(by rw[V,ul,iP ⟨by dsimp only;omega,by dsimp only;rw[ai];exact h6⟩];dsimp only;rw[hj,zJ,yR,ar];simp only[xW];rw[aQ];rfl);rw[hz,<- af,qp3 e1];simp;rcases zG.1 G with rfl|G;exact .inl oL;exact (n1 b' G).imp (λh=>by simp[h]) id;rcases n5 b' G with h|h;exact n1 b' h;exact .inr (zL aq.size h);have h:=zB h;refine hX (R.map (·.2)) _ _ ⟨R,(yx,dZ E,kx down i),(dZ E,i)::rest,h1+1,s2,[b],rfl,U,hz,af,?_,aq.drew,n1⟩ ?_;rw[V,ul,iN λg=>h ⟨g.1,by have:=g.2;dsimp only at this;rw[ai] at this;exact this⟩];simp
end
end
section
open Go Go.Pt List
open Go.IntKind (wrap)
open Classical
section
variable {D:dV} {M:eH} {k v:Nat} {frm to:Key} {down:Bool}
def mj (D:dV) (M:eH) (k v:Nat) (frm to:Key) (down:Bool) (h:Nat) (u:List kW) (T:gr):Prop:=if down then mN D M k v to h u T else mE D M k v frm h u T
def pz (down:Bool) (h:Nat) (u:List kW):Prop:=if down then kP h u else kN h u
def mj.path{h:Nat}{u:List kW}{T:gr}(E:mj D M k v frm to down h u T):Path D M k v (kx down) h u:=by
 cases down with
 | false=>exact mE.path (frm:=frm) E
 | true=>exact mN.path (to:=to) E
def mj.told{h:Nat}{E:List kW}{T:gr}(G:mj D M k v frm to down h E T):pz down h E\/∃(u:gr) (i:Nat) (lo:List kW) (hi:i<u.length) (T':gr),E=lo++[(eM u,(i:Int))]/\T=u[i]::T'/\mj D M k v frm to down h (lo++[(eM u,kx down i)]) T':=by
 cases down with
 | false=>exact quh (frm:=frm) G
 | true=>exact qqw (to:=to) G
def mj.next{h:Nat}{G:List kW}{T:gr}(I:mj D M k v frm to down h G T)(J:pz down h G):(iU D k v M (ki down frm to) (kx down) h G=none/\T=[])\/∃u,iU D k v M (ki down frm to) (kx down) h G=some u/\mj D M k v frm to down h u T/\¬pz down h u:=by
 cases down with
 | false=>
  rcases qt9 (frm:=frm) I J with E|⟨u,E,R⟩;exact .inl E;exact .inr ⟨u,E,R,qjl (frm:=frm) I J E⟩
 | true=>
  rcases qp4 (to:=to) I J with E|⟨u,E,R⟩;exact .inl E;exact .inr ⟨u,E,R,qgR (to:=to) I J E⟩
def kN.rc:∀ {h:Nat} {E:List kW},kN h E->∃(lo:List kW) (u:gr),E=lo++[(eM u,(u.length:Int))]
 | 0,_,⟨u,e⟩=>⟨[],u,e⟩
 | _+1,[],h=>h.elim
 | h+1,x::I,G=>by obtain⟨lo,u,e⟩:=kN.rc (h:=h) G;exact⟨x::lo,u,by rw[e];rfl⟩
def kP.rc:∀ {h:Nat} {E:List kW},kP h E->∃(lo:List kW) (u:gr),E=lo++[(eM u,-1)]
 | 0,_,⟨u,e⟩=>⟨[],u,e⟩
 | _+1,[],h=>h.elim
 | h+1,x::I,G=>by obtain⟨lo,u,e⟩:=kP.rc (h:=h) G;exact⟨x::lo,u,by rw[e];rfl⟩
def pz.rc{h:Nat}{E:List kW}(G:pz down h E):∃(lo:List kW) (u:gr) (i:Int),E=lo++[(eM u,i)]/\¬(0<=i/\i<u.length):=by
 cases down with
 | false=>
  obtain⟨lo,u,e⟩:=kN.rc G;exact⟨lo,u,_,e,oJ⟩
 | true=>
  obtain⟨lo,u,e⟩:=kP.rc G;exact⟨lo,u,_,e,oJ⟩
def Left (D:dV) (M:eH) (k v:Nat) (frm to:Key) (down:Bool) (n:Nat) (u:List kW) (L:gr):Prop:=
 (u=[]/\L=[])\/∃h T,mj D M k v frm to down h u T/\L=T.takeWhile (λx=>!oc down frm to x.1)/\(n=0->¬pz down h u)
def qvs{h:Nat}{s:iK}(u:Has D M k v h s):∃E,i4 D k v M (ki down frm to) (h+1) s.x7=some E/\mj D M k v frm to down h E (if down then (uY to s.y9).reverse else nA frm s.y9):=by
 cases down with
 | false=>exact G4 u
 | true=>exact Ia u
def EM{α:Type}{p:α->Bool}:∀ {l:List α},l.Pairwise (λa b=>p b=true->p a=true)->l.takeWhile p=l.filter p
 | [],_=>rfl
 | a::l,h=>by have E:=yJ.1 h;rw[takeWhile_cons,filter_cons];split;rw[EM E.2];rename_i G;exact (filter_eq_nil_iff.2 λb I u=>G (E.1 b I u)).symm
end
end
section
open Go Go.Pt List
open Go.IntKind (wrap)
open Classical
variable {L:gr} {P:IT} {S:IS}
abbrev wJ:IM:=104
def tJ (a b:Sl):Array IL:=#[a.v,b.v]
@[reducible] def CE:List Cell:=[.slice,.slice]
section
variable {dbk pb:Nat} {FD F:IS} {D:dV} {M:eH} {k v:Nat} {frm to:Key} {down:Bool} {w0 w wA:IK} {cb:Nat} {Y SB:IS} {st:Sl} {zs:List qp}
def qyF{n:dY}(h:fW n k v)(G:n.Q6=true):k<=24/\v<=108:=by obtain⟨_,_,_,E⟩:=h;rw[iP G] at E;have u:=E.2.2.1;unfold eE at u;split at u;dsimp only at u;omega;omega
def qpm{K:(Sl×Sl)×Bool->WP}(hC:gx dbk pb FD D F M k v frm to down w0 cb Y w st SB zs)(hL:Left D M k v frm to down 1 (zs.map (·.2)) L)(k0:L=[]->∀w',gx dbk pb FD D F M k v frm to down w0 cb Y w' dT [] []->Fr (cb::SB) w w'->K ((dT,dT),false) w')(k1:∀x L',L=x::L'->∀ks vs B1 B2 w' st' SB' zs',gb w' ks x.1 B1->gb w' vs x.2 B2->gx dbk pb FD D F M k v frm to down w0 cb (B1++(B2++Y)) w' st' SB' zs'->Left D M k v frm to down 1 (zs'.map (·.2)) L'->Fr (cb::SB) w w'->(∀b∈SB',b∈SB\/w.heap.size<=b)->(∀b∈B1,w.heap.size<=b)->(∀b∈B2,w.heap.size<=b)->(∀b∈B1,b∉B2)->K ((ks,vs),true) w'): cW 40 [dS cb] [.agg CE,.one .bool] w K:=by
 refine qhH (c:=pW cb)<|oB (oE [] w) λr w1 e1 f1 h=>?_;have hrl:=eO (h.at (i:=0) rfl);dsimp only at hrl;have hltw:=hC.lt;have hC1:gx dbk pb FD D F M k v frm to down w0 cb (r::Y) w1 st SB zs:=hC.j1 (f1.mono λ_ h=>nomatch h) (λb hb=>(zG.1 hb).elim (λe=>.inr (by rw[e,e1];exact zM _)) .inl) λb hb=>by rcases zG.1 hb with rfl|hb;exact hrl;exact yC (hltw b (by simp[hb])) f1.size
 have hr1:w1.heap[r]?=some (.c (tJ dT dT) wJ):=h.at (i:=0) rfl;have hrS:r∉cb::SB:=λhm=>by
  have:=hltw r (by rcases zG.1 hm with h|h<;>simp[h]);omega
 have hfr:∀ {w':IK},Fr (cb::SB) w1 w'->w'.heap[r]?=some (.c (tJ dT dT) wJ):=λf=>by rw[f.block r hrl hrS];exact hr1
 clear h;refine iC (λ_ w'=>L=[]/\Fr (cb::SB) w1 w'/\∃st' SB' zs',gx dbk pb FD D F M k v frm to down w0 cb (r::Y) w' st' SB' zs'/\∀b∈SB',b∈SB\/w1.heap.size<=b) ?_ ?_
 ·refine Cq (λ(n:Nat) (_:PUnit) w'=>Fr (cb::SB) w1 w'/\∃st' SB' zs',gx dbk pb FD D F M k v frm to down w0 cb (r::Y) w' st' SB' zs'/\(∀b∈SB',b∈SB\/w1.heap.size<=b)/\Left D M k v frm to down n (zs'.map (·.2)) L) id 1 ⟨.refl _ _,st,SB,zs,hC1,λb hb=>.inl hb,hL⟩ ?_;rintro n _ w2 ⟨f2,st2,SB2,zs2,hC2,n2,hL2⟩ X hX;refine fO (hC2.qt ?_);have hsl:st2.len=zs2.length:=hC2.uP.len;apply eB<;>intro hc;rotate_left;have hc:=zB hc;have e0:zs2=[]:=length_eq_zero_iff.1 oJ;refine⟨?_,f2,st2,SB2,zs2,hC2,n2⟩;rcases hL2 with h|⟨hh,T,ht,_,_⟩;exact h.2
  have:=ht.path.len;rw[e0] at this;simp at this;have hc:=zC hc;have hne:zs2≠[]:=λe=>by rw[e] at hsl;simp at hsl;omega
  rcases hL2 with ⟨h,_⟩|⟨hh,T,ht,hLT,hnd⟩;exact absurd (map_eq_nil_iff.1 h) hne;have htop:∃(lo:List kW) (y9:gr) (i:Int),zs2.map (·.2)=lo++[(eM y9,i)]/\((pz down hh (zs2.map (·.2))/\¬(0<=i/\i<y9.length))\/∃j:Nat,i=j/\∃hj:j<y9.length,∃T',T=y9[j]::T'/\mj D M k v frm to down hh (lo++[(eM y9,kx down i)]) T'):=by rcases ht.told with hd|⟨y9,j,lo,hj,T',e1,e2,e3⟩;obtain⟨lo,y9,i,e,hi⟩:=hd.rc;exact⟨lo,y9,i,e,.inl ⟨hd,hi⟩⟩;exact⟨lo,y9,j,e1,.inr ⟨j,rfl,hj,T',e2,e3⟩⟩
  obtain⟨lo,y9,i,ez,hcase⟩:=htop;obtain⟨zlo,zr,rfl,rfl,ezr⟩:=map_eq_append_iff.1 ez;obtain⟨⟨zx,zf⟩,rfl,ezf⟩:=map_eq_singleton_iff.1 ezr;have ezf:zf=(eM y9,i):=ezf;subst ezf;have hfew:=hC2.Ba;rw[zF,xN] at hfew;have hD2:=hC2.drew;refine fO (hD2.qt ?_);refine fO (hD2.qt ?_);refine qug hD2.uP oJ λb hB=>?_;subst hB;have hE2:=hD2.drew;have hny:=hE2.nodes (zx,eM y9,i) oL;have hkl:(eM y9).J8.length=y9.length:=zK ..;have hkl2:y9.length<=498:=(by rw[<- hkl];exact (vR hny.2).1);obtain⟨hzl,hNB,⟨pk,hpk,hpke⟩,⟨pv,hpv,hpve⟩,_⟩:=hny.1;dsimp only at hzl hpk hpke hpv hpve;have hpkl:pk.length=y9.length:=(by rw[<- hkl,<- hpke,zK]);have hpvl:pv.length=y9.length:=by have:(eM y9).Q2.length=y9.length:=zK ..;rw[<- this,<- hpve,zK]
  refine iC (λq w'=>q=decide (0<=i/\i<y9.length)/\w'=w2.drew.drew) ?_ ?_;refine hE2.lf (c:=.bool) (j:=0) oM zx.1 rfl<|Im hzl<|hE2.lf (c:=.i) (j:=4) oM i rfl ?_;apply eB<;>intro h;have h:=zC h;exact hE2.lf (c:=.i) (j:=4) oM i rfl<|hE2.lf (c:=.slice) (j:=1) oM zx.2.1 rfl<|⟨decide_eq_decide.2 (by rw[hpk.len,hpkl];omega),rfl⟩;have h:=zB h;exact⟨(zU λg=>h g.1).symm,rfl⟩;rintro q w3 ⟨rfl,rfl⟩;have hpth:=ht.path;apply eB<;>intro h;rotate_left;have h:=zB h;have hd:pz down hh ((zlo++[(zx,eM y9,i)]).map (·.2)):=by rcases hcase with hd|⟨j,rfl,hj,_⟩;exact hd.1;exact absurd ⟨oJ,oJ⟩ h
  have hn1:n≠0:=λe=>hnd e hd;refine qwe hpth hE2 λw4 st4 SB4 zs4 hC4 hz4 f4 n4=>?_;have f14:Fr (cb::SB) w1 w4:=f2.J0 ((Fr.refl _ w2).drew.drew.trans f4) λb' hb=>by rcases zG.1 hb with rfl|hb;exact .inl oL;exact (n2 b' hb).imp (λh=>by simp[h]) id
  have n14:∀b'∈SB4,b'∈SB\/w1.heap.size<=b':=λb' hb=>by rcases n4 b' hb with h|h;exact n2 b' h;exact .inr (zL f2.size h)
  refine hX 0 _ w4 ⟨f14,st4,SB4,zs4,hC4,n14,?_⟩ (by show 0<n;omega);rcases ht.next hd with ⟨e2,rfl⟩|⟨fs',e2,e3,e4⟩
  rw[e2] at hz4;exact .inl ⟨hz4,hLT⟩;rw[e2] at hz4;have hz4:zs4.map (·.2)=fs':=hz4;rw[hz4];exact .inr ⟨hh,T,e3,hLT,λ_=>e4⟩;have h:=zC h;obtain⟨j,rfl,hj,T',hT,ht'⟩:∃j:Nat,i=j/\∃hj:j<y9.length,∃T',T=y9[j]::T'/\mj D M k v frm to down hh (zlo.map (·.2)++[(eM y9,kx down i)]) T':=by rcases hcase with hd|hd;exact absurd h hd.2;exact hd
  have hG2:=hE2.drew;refine hG2.lf (c:=.slice) (j:=1) oM zx.2.1 rfl<|hG2.lf (c:=.i) (j:=4) oM (j:Int) rfl ?_;have hjk:j<pk.length:=oJ;have hjv:j<pv.length:=oJ;refine jK.get (hpk.q8 (Fr.refl [] _).drew) j rfl hjk<|hG2.lf (c:=.slice) (j:=2) oM zx.2.2.1 rfl<|hG2.lf (c:=.i) (j:=4) oM (j:Int) rfl<|jK.get (hpv.q8 (Fr.refl [] _).drew) j rfl hjv ?_;have hH2:=hG2.drew;obtain⟨sf,sto,Tc,hcc⟩:=hH2.at;refine fO (oX (c:=.any) (nf cb down) (jC hcc) ?_);refine hH2.lf (c:=.i) (j:=4) oM (j:Int) rfl<|qxy oJ<|hH2.wy λw5 hC5 f5=>?_;have f15:Fr (cb::SB) w1 w5:=f2.J0 ((Fr.refl _ w2).drew.drew.drew.drew.trans f5) λb' hb=>by rw[zE.1 hb];exact (n2 b oL).imp (λh=>by simp[h]) id
  obtain⟨sf,sto,Tc,hcc⟩:=hC5.at;refine fO (oX (c:=.any) (oT cb down) (jC hcc) ?_);have f5':Fr (cb::([b]++(r::Y))) w2.drew.drew w5:=(Fr.refl _ w2.drew.drew).drew.drew.trans (f5.mono λx hx _=>by rw[zE.1 hx];simp);have hks:eN (cb::([b]++(r::Y))) w5 pk[j].1 pk[j].2:=(hpk.2 _ (zW hjk)).j1 f5' λx hx=>.inl hx;have hvs:eN (cb::([b]++(r::Y))) w5 pv[j].1 pv[j].2:=(hpv.2 _ (zW hjv)).j1 f5' λx hx=>.inl hx;have ek:pk[j].2=y9[j].1:=by
   have:=IH (·[j]?) hpke;dsimp only [eM] at this;rw[zQ,zQ,zA hjk,zA hj] at this;exact yO this
  have ev:pv[j].2=y9[j].2:=by
   have:=IH (·[j]?) hpve;dsimp only [eM] at this;rw[zQ,zQ,zA hjv,zA hj] at this;exact yO this
  rw[ek] at hks;rw[ev] at hvs;have hkB:eX y9[j].1:=hNB.1 _ (zY (zW hj));have hkn:y9[j].1.length=k:=hny.2.1 _ (zY (zW hj));have hvn:y9[j].2.length=v:=hny.2.2.1 _ (zY (zW hj));have hkv:=qyF hny.2 rfl;refine qzQ hC5 hks hkB ?_;apply eB<;>intro ho;refine⟨?_,f15,st2,[b],_,hC5,n2⟩;rw[hLT,hT,takeWhile_cons,ho];rfl;refine wH hks oJ λs1 B1 w6 b6 f6 n6 _ _=>wH (hvs.q8 f6) oJ λs2 B2 w7 b7 f7 n7 _ _=>?_;have hr7:=hfr (f15.trans ((f6.trans f7).mono λ_ h=>nomatch h));refine qH hr7 (tJ s1 s2) rfl rfl (zO rfl) λw8 hr8 f8=>wL hr8 (s1,s2) rfl ?_;have hC7:=(hC5.q8 f6).q8 f7;have hn1:∀b'∈B1,w5.heap.size<=b':=n6;have hn2:∀b'∈B2,w5.heap.size<=b':=λb' hb=>zL f6.size (n7 b' hb);have hz5:=f15.size;have hz1:=f1.size;have h12:∀b'∈B1,b'∉B2:=λb' hb hm=>by have:=b6.lt b' hb;have:=n7 b' hm;omega
  have hrn:∀b'∈B1++B2,b'≠r:=λb' hb e=>by
   rcases zD.1 hb with hb|hb;have:=hn1 b' hb;omega;have:=hn2 b' hb;omega
  have b8:gb w8 s1 y9[j].1 B1:=(b6.q8 f7).j1 f8 λb' hb hm=>hrn b' (by simp[hb]) (zE.1 hm);have b9:gb w8 s2 y9[j].2 B2:=b7.j1 f8 λb' hb hm=>hrn b' (by simp[hb]) (zE.1 hm);have hC8:gx dbk pb FD D F M k v frm to down w0 cb (B1++(B2++Y)) w8 st2 [b] (zlo++[(zx,eM y9,kx down j)]):=by have hA:gx dbk pb FD D F M k v frm to down w0 cb (B1++(B2++(r::Y))) w7 st2 [b] (zlo++[(zx,eM y9,kx down j)]):=hC5.j1 ((f6.trans f7).mono λ_ h=>nomatch h) (λb' hb=>?_) λb' hb=>?_;exact hA.j1 (f8.mono λb' hb _=>by rw[zE.1 hb];simp) (λb' hb=>.inl (by simp only[zD] at hb⊢;rcases hb with h|h|h<;>simp[h])) λb' hb=>yC (hA.lt b' (by simp only[zD,zG] at hb⊢;rcases hb with h|h|h<;>simp[h])) f8.size;rcases zD.1 hb with h|hb;exact .inr (hn1 b' h);rcases zD.1 hb with h|hb;exact .inr (hn2 b' h);exact .inl hb;rcases zD.1 hb with h|hb;exact (b6.q8 f7).lt b' h;rcases zD.1 hb with h|hb;exact b7.lt b' h;exact hC7.lt b' (by simp only[zG,zD];exact .inr (.inr (zG.1 hb)))
  refine k1 y9[j] (T'.takeWhile λx=>!oc down frm to x.1) (by rw[hLT,hT,takeWhile_cons,ho];rfl) s1 s2 B1 B2 w8 st2 [b] _ b8 b9 hC8 (.inr ⟨hh,T',by rw[xO];exact ht',rfl,λe=>absurd e oM⟩) ?_ (λb' hb=>(n2 b' hb).imp id λh=>zL hz1 h) (λb' hb=>zL (zL hz1 hz5) (hn1 b' hb)) (λb' hb=>zL (zL hz1 hz5) (hn2 b' hb)) h12;refine ((f1.mono λ_ h=>nomatch h).trans (f15.trans ((f6.trans f7).mono λ_ h=>nomatch h))).J0 f8 λb' hb=>.inr ?_;rw[zE.1 hb,e1];exact zM _
 rintro _ w2 ⟨hL0,f2,st2,SB2,zs2,hC2,n2⟩;refine fO<|hC2.uj (st':=dT) (SB':=[]) (zs':=[]) w2 (.refl _ _) (.nil _ _ _) (λz hz=>nomatch hz) (λb hb=>nomatch hb) (yX _) λw3 hC3 f3=>?_;have f13:Fr (cb::SB) w1 w3:=f2.J0 f3 λb hb=>by rcases zG.1 hb with rfl|hb;exact .inl oL;exact (n2 b hb).imp (λh=>by simp[h]) id
 refine qH (hfr f13) (tJ dT dT) rfl rfl (zO rfl) λw4 hr4 f4=>wL hr4 (dT,dT) rfl<|k0 hL0 w4 (hC3.j1 (f4.mono λb hb _=>by rw[zE.1 hb];simp) (λb hb=>.inl (by simp[hb])) λb hb=>yC (hC3.lt b (by simp[hb])) f4.size) (((f1.mono λ_ h=>nomatch h).trans f13).J0 f4 λb hb=>.inr ?_);rw[zE.1 hb,e1];exact zM _
end
section
def gP (down:Bool) (frm to:Key) (L:gr):gr:=if down then (lD frm to L).reverse else lD frm to L
def qyA{frm to:Key}(I:fD L):(nA frm L).takeWhile (λx=>!oc false frm to x.1)=lD frm to L:=by
 unfold nA;rw[EM];rw[filter_filter];unfold lD;congr 1;funext x;unfold uZ oc fT;have:=Fh x.1 to;by_cases E:cmpL x.1 frm<0<;>by_cases u:cmpL x.1 to>0<;>simp[E,u]<;>omega;refine ((pairwise_map.1 I).filter _).imp ?_;intro a b G h;unfold oc at h⊢;simp only[Bool.false_eq_true,if_false,zT,IE] at h⊢;intro J;have E:fT to a.1:=(by unfold fT;rw[ug];omega);have u:=qc E G;unfold fT at u;rw[ug] at u;omega
def qvv{frm to:Key}(E:fD L):(uY to L).reverse.takeWhile (λx=>!oc true frm to x.1)=(lD frm to L).reverse:=by unfold uY;rw[EM];rw[filter_reverse,filter_filter];unfold lD;congr 2;funext x;have e:fT to x.1↔cmpL x.1 to>0:=(by unfold fT;rw[ug to x.1];omega);have G:decide (cmpL x.1 frm>=0) = !decide (cmpL x.1 frm<0):=(by rw[<- decide_not];exact decide_eq_decide.2 oJ);have I:decide (¬fT to x.1)=decide (cmpL x.1 to<=0):=decide_eq_decide.2 (by rw[e];omega);unfold uZ oc;simp only[if_true];rw[G,I];rw[pairwise_reverse];refine ((pairwise_map.1 E).filter _).imp ?_;intro a b u h;unfold oc at h⊢;simp only[if_true,zT,IE] at h⊢;intro J;exact h (qc u J)
section
variable {dbk pb:Nat} {FD F:IS} {D:dV} {M:eH} {k v:Nat} {frm to:Key} {down:Bool} {w0 w wA:IK} {cb:Nat} {Y SB:IS} {st:Sl} {zs:List qp}
def gb.dH{w:IK}{s:Sl}{l:IT}{B:IS}(h:gb w s l B)(u:∀b∈B,b∉S):eN S w s l:=h.jQ lY u
def qrg{t:Int}{sf sto:Sl}{K:Option Addr->WP}(hT:TW dbk pb FD D 900000 w Y F M)(hs:si t=((k:Int),(v:Int)))(hL:(k=0/\L=[])\/(k≠0/\gq D M k v t L P))(hLl:L.length<=90000)(hf:eN S w sf frm)(ht:eN S w sto to)(hfl:frm.length<=1000000)(htl:to.length<=1000000)(hfB:eX frm)(htB:eX to)(kk:∀cb w' st SB zs,gx dbk pb FD D F M k v frm to down w cb Y w' st SB zs->Left D M k v frm to down 1 (zs.map (·.2)) (gP down frm to L)->Fr [] w w'->K (pW cb) w'): cW 37 [dS pb,.i t,sf.v,sto.v,.bool down] dK w K:=by
 refine qnn (p:=pW pb) (t:=t) (from_:=sf) (to:=sto) (down:=down)<|qrd ?_;rw[hs];refine wH hf hfl λs1 B1 w1 b1 f1 n1 _ _=>wH (ht.q8 f1) htl λs2 B2 w2 b2 f2 n2 _ _=>oB (oE [] w2) λcb w3 e3 f3 h=>?_;have hnf:(#[dS pb,.i (k:Int),.i (v:Int),s1.v,s2.v,.slice none 0 0,.nilFunc,.nilFunc,.nilFunc]:Array IL)=(qf.cells ⟨pb,k,v,s1,s2,dT,.nilFunc,.nilFunc,.nilFunc⟩):=rfl;refine oD h 0 rfl (qf.cells ⟨pb,k,v,s1,s2,dT,nf cb false,.nilFunc,.nilFunc⟩) λw4 h f4=>oD h 0 rfl (qf.cells ⟨pb,k,v,s1,s2,dT,nf cb false,nI cb false,.nilFunc⟩) λw5 h f5=>oD h 0 rfl (qf.cells ⟨pb,k,v,s1,s2,dT,nf cb false,nI cb false,oT cb false⟩) λw6 h f6=>iC (λ_ w'=>∃T,ef [] w2 w' [(cb,.c (qf.cells ⟨pb,k,v,s1,s2,dT,nf cb down,nI cb down,oT cb down⟩) T)]) ?_ ?_;cases down with
 | false=>exact Io rfl ⟨_,h⟩
 | true=>
  exact Im rfl<|oD h 0 rfl (qf.cells ⟨pb,k,v,s1,s2,dT,nf cb true,nI cb false,oT cb false⟩) λw7 h f7=>oD h 0 rfl (qf.cells ⟨pb,k,v,s1,s2,dT,nf cb true,nI cb true,oT cb false⟩) λw8 h f8=>oD h 0 rfl (qf.cells ⟨pb,k,v,s1,s2,dT,nf cb true,nI cb true,oT cb true⟩) λw9 h f9=>⟨_,h⟩
 rintro _ w7 ⟨T,h⟩;have f07:Fr [] w w7:=(f1.trans f2).trans h.fr;have hcl:=eO (h.at (i:=0) rfl);dsimp only at hcl;have hz1:=f1.size;have hz2:=f2.size;have hT7:=hT.q8 f07;have hylt:=hT.qZ;have hcw:w.heap.size<=cb:=oJ;have hC:gx dbk pb FD D F M k v frm to down w cb Y w7 dT [] []:=by
  refine⟨⟨s1,s2,⟨T,h.at (i:=0) rfl⟩,gb.dH ((b1.q8 f2).q8 h.fr) λb hb hm=>?_,gb.dH (b2.q8 h.fr) λb hb hm=>?_⟩,?_,.nil _ _ _,(λz hz=>nomatch hz),(λh=>nomatch h),(λhm=>?_),(λb hb=>nomatch hb),(λb hb=>?_),hfB,htB,yX _⟩;have:=b1.lt b hb;have:=n1 b hb;rcases zG.1 hm with rfl|hm;omega;have:=hylt b (oP hm);omega;have:=b2.lt b hb;have:=n2 b hb;rcases zG.1 hm with rfl|hm;omega;have:=hylt b (oP hm);omega;exact hT.yo (B:=[cb]) (f07.mono λ_ h=>nomatch h) λb hb=>by rw[zE.1 hb];exact⟨hcw,hcl⟩
  have:=hylt cb hm;omega;rw[zE.1 hb];exact hcw
 refine iC (λ_ w'=>∃st SB zs,gx dbk pb FD D F M k v frm to down w cb Y w' st SB zs/\Left D M k v frm to down 1 (zs.map (·.2)) (gP down frm to L)/\Fr [] w w') ?_ ?_;refine TW.J7 hT7 λw8 f8=>?_;have hC8:=hC.q8 f8;refine iC (λq w'=>q=decide (0<k/\(eF M t).1≠0)/\w'=w8) ?_ ?_;refine eB (λh=>⟨?_,rfl⟩) λh=>⟨?_,rfl⟩;have h:=zC h;rw[It,yN,zT,zR];exact⟨λg=>⟨oJ,g⟩,λg=>g.2⟩;have h:=zB h;exact (zU λg=>h oJ).symm;rintro q w9 ⟨rfl,rfl⟩;have h0:L=[]->Left D M k v frm to down 1 ([]:List kW) (gP down frm to L):=λe=>.inl ⟨rfl,by rw[e];unfold gP lD;simp⟩;apply eB<;>intro hq;obtain⟨hk,hr⟩:=zC hq;obtain⟨_,hTr⟩:k≠0/\gq D M k v t L P:=hL.resolve_left λh=>by omega
 have hrh:=(qor hTr).1;rcases hTr with ⟨e,_,_⟩|⟨hh,n,p,hp,e,hHas⟩;rw[e] at hr;exact absurd rfl hr;have hrh2:hh+1<=L.length:=by rw[e] at hrh;exact hrh
 have hpu:ia p:=by
  have:=(CW hT.wf t).1;rw[e] at this;exact this
 rw[e];refine qpx (s:=⟨p,n,L,P⟩) hHas hpu hC8 (by show 0+hh+1<=100000;omega) λw10 st10 SB10 zs10 hC10 hp10 f10 n10=>⟨st10,SB10,zs10,hC10,?_,(f07.trans f8).J0 f10 λb hb=>.inr ?_⟩;obtain⟨fs,e1,e2⟩:=qvs (frm:=frm) (to:=to) (down:=down) hHas;rw[hp10] at e1;have e1:=yO e1;rw[e1];refine .inr ⟨hh,_,e2,?_,λe=>absurd e oM⟩;have hso:=hHas.sort;unfold gP;cases down with
 | false=>exact (qyA hso).symm
 | true=>exact (qvv hso).symm
 rw[zE.1 hb];exact hcw;have hq:=zB hq;have hLn:L=[]:=by rcases hL with h|⟨hk,hTr⟩;exact h.2;rcases hTr with ⟨_,h,_⟩|⟨hh,n,p,hp,e,hHas⟩;exact h;exact absurd ⟨oJ,by rw[e];exact hp⟩ hq
 exact⟨dT,[],[],hC8,h0 hLn,f07.trans f8⟩;rintro _ w8 ⟨st8,SB8,zs8,hC8,hL8,f8⟩;exact kk cb w8 st8 SB8 zs8 hC8 hL8 f8
end
end
section
abbrev SS:=Sl×Sl
def nz (x:SS):List IL:=[x.1.v,x.2.v]
def qpI:∀z,(nz z).length=2:=λ_=>rfl
def qwq(z:SS):∀u∈nz z,u.oneCell'=true:=λu h=>by unfold nz at h;simp only[zG,xY,or_false] at h;rcases h with rfl|rfl<;>rfl
def qAr:∃i,Tryz.prog.info? wJ=some i/\i.zero=some (.agg df)/\i.size=2/\i.bytes=48:=tB oK
def qAE{w:IK}{s:Sl}{zs:List SS}{SB:IS}{x:SS}{K:Sl->WP}(h:fj nz 2 w s zs SB)(U:zs.length<=1000000)(I:∀G B' w',fj nz 2 w' G (zs++[x]) B'->Fr SB w w'->(∀b∈B',b∈SB\/w.heap.size<=b)->K G w'): Pt.new (.cells (tJ x.1 x.2) wJ) w λr w1=>Pt.run dl ((Builtin.append_ #[97,97] 97 #[s.v,.slice (pW r) 1 1]).run Tryz.prog w1) K:=by obtain⟨j,J,R,u,E⟩:=qAr;exact fj.push (e:=wJ) (x:=x) h qpI (qwq _) oK J R u rfl rfl (by rw[E];omega) oJ I
def qa (w:IK) (h:IS) (ps:List (SS×(Key×Key))):Prop:=∀p∈ps,∃u E,gb w p.1.1 p.2.1 u/\gb w p.1.2 p.2.2 E/\(∀b∈u,b∈h)/\∀b∈E,b∈h
def qa.j1{w w':IK}{S G E:IS}{ps:List (SS×(Key×Key))}(h:qa w G ps)(f:Fr S w w')(I:∀b∈G,b∉S)(J:∀b∈G,b∈E):qa w' E ps:=λp V=>by obtain⟨B1,B2,h1,h2,R,U⟩:=h p V;exact⟨B1,B2,h1.j1 f λb u=>I b (R b u),h2.j1 f λb u=>I b (U b u),λb u=>J b (R b u),λb u=>J b (U b u)⟩
section
variable {dbk pb:Nat} {FD F:IS} {D:dV} {M:eH} {k v:Nat} {frm to:Key} {down:Bool} {w0 w wA:IK} {cb:Nat} {Y SB:IS} {st:Sl} {zs:List qp}
def qvR{t most:Int}{sf aj:Sl}{K:Sl->WP}(hT:TW dbk pb FD D 900000 w [] F M)(hs:si t=((k:Int),(v:Int)))(hL:(k=0/\L=[])\/(k≠0/\gq D M k v t L P))(ax:L.length<=90000)(hf:eN S w sf frm)(ht:eN S w aj to)(ay:frm.length<=1000000)(az:to.length<=1000000)(aA:eX frm)(aB:eX to)(kk:∀s w' B E ps,fj nz 2 w' s (ps.map (·.1)) B->qa w' E ps->(∀b∈E,b∉B)->ps.map (·.2)=(gP down frm to L).take most.toNat->Fr [] w w'->(∀b∈B,w.heap.size<=b)->(∀b∈E,w.heap.size<=b)->K s w'): cW 34 [dS pb,.i t,sf.v,aj.v,.bool down,.i most] dl w K:=by
 refine qoF<|qrg hT hs hL ax hf ht ay az aA aB λcb w1 st SB zs ak aC f1=>?_;have a7:(gP down frm to L).length<=90000:=by have h1:(lD frm to L).length<=L.length:=length_filter_le _ _;unfold gP;split;rw[length_reverse];omega;omega
 have a8:∀b∈cb::SB,w.heap.size<=b:=ak.new;refine iC (λs w'=>∃B E ps,fj nz 2 w' s (ps.map (·.1)) B/\qa w' E ps/\(∀b∈E,b∉B)/\ps.map (·.2)=(gP down frm to L).take most.toNat/\Fr [] w w'/\(∀b∈B,w.heap.size<=b)/\(∀b∈E,w.heap.size<=b)) ?_ ?_
 ·refine Cq (λ(i:Nat) s w'=>∃B E ps st SB zs,i<=(gP down frm to L).length/\fj nz 2 w' s (ps.map (·.1)) B/\qa w' E ps/\(∀b∈E,b∉B)/\ps.map (·.2)=(gP down frm to L).take i/\(most.toNat<i->i=0)/\Fr [] w w'/\(∀b∈B,w.heap.size<=b)/\(∀b∈E,w.heap.size<=b)/\gx dbk pb FD D F M k v frm to down w cb (B++E) w' st SB zs/\Left D M k v frm to down 1 (zs.map (·.2)) ((gP down frm to L).drop i)) (λi=>(gP down frm to L).length+1-i) 0 ⟨[],[],[],st,SB,zs,yX _,.nil _ _ _,(λp hp=>nomatch hp),(λb u=>nomatch u),rfl,λ_=>rfl,f1,(λb u=>nomatch u),(λb u=>nomatch u),ak,by rw[xG];exact aC⟩ ?_;rintro i s w2 ⟨B,E,ps,a9,ae,a',hi,u,hR,hd,U,aF,f2,n2,n3,I,aH⟩ X hX;have bb:s.len=i:=by
   rw[u.len,zK];have:=IH List.length U;rw[zK,yL] at this;omega
  apply eB<;>intro hc;rotate_left;have hc:=zB hc;refine⟨B,E,ps,u,hR,hd,?_,f2,n2,n3⟩;rw[U];by_cases h0:most.toNat<i;have:=aF h0;omega;have:most.toNat=i:=oJ;rw[this];have hc:=zC hc;have bc:i<most.toNat:=oJ;have bd:=I.lt;refine qpm I aH (λaI w3 af f3=>?_) λx L' V ks vs B1 B2 w3 aJ aK aL hk hv af aM f3 n4 n5 n6 aX=>?_;refine oB (oE [] w3) λr w4 e4 f4 h=>oD h 0 rfl (tJ dT dT) λw5 h f5=>Im rfl ?_;have ag:Fr (cb::ae) w2 w5:=f3.trans (h.fr.mono λ_ h=>nomatch h);have G:∀b∈B++E,b∉cb::ae:=λb u R=>by rcases zG.1 R with rfl|R;exact I.Bj u;exact I.yy b R u
  refine⟨B,E,ps,u.j1 ag λb u=>G b (by simp[u]),hR.j1 ag (λb u=>G b (by simp[u])) λb u=>u,hd,?_,f2.J0 ag λb u=>.inr (I.new b u),n2,n3⟩;rw[U];have J:(gP down frm to L).length<=i:=by
   have:=IH List.length aI;rw[yB,xL] at this;omega
  rw[zS J,zS oJ];have J:i<(gP down frm to L).length:=by
   have:=IH List.length V;rw[yB,yI] at this;omega
  have hx:(gP down frm to L).take (i+1)=(gP down frm to L).take i++[x]:=(by rw[yG J];rw[zX J] at V;rw[(vD V).1]);have ah:(gP down frm to L).drop (i+1)=L':=(by rw[zX J] at V;exact (vD V).2);have G:∀b∈B++E,b∉cb::ae:=λb u R=>by rcases zG.1 R with rfl|R;exact I.Bj u;exact I.yy b R u
  have aO:fj nz 2 w3 s (ps.map (·.1)) B:=u.j1 f3 λb u=>G b (by simp[u]);have aP:qa w3 (B1++(B2++E)) (ps++[((ks,vs),x)]):=λp hp=>by rcases zD.1 hp with hp|hp;exact hR.j1 f3 (λb u=>G b (by simp[u])) (λb u=>by simp[u]) p hp;rw[zE.1 hp];exact⟨B1,B2,hk,hv,λb u=>by simp[u],λb u=>by simp[u]⟩
  have aq:∀b∈B1++(B2++E),b∉B:=λb aa R=>by
   have:=u.lt b R;rcases zD.1 aa with h|aa;have:=n5 b h;omega;rcases zD.1 aa with h|aa;have:=n6 b h;omega;exact hd b aa R
  refine oB (oE [] w3) λr w4 e4 f4 h=>oD h 0 rfl (tJ ks vs) λw5 h f5=>Io rfl<|IR h 0 rfl (ks,vs) ?_;have aQ:=af.q8 h.fr;refine qAE (x:=(ks,vs)) (aO.q8 h.fr) (by rw[zK];have:=IH List.length U;rw[zK,yL] at this;omega) λs6 B6 w6 b6 f6 n7=>?_;have ar:=af.lt;have ac:∀b∈B1++(B2++E),b<w5.heap.size:=λb u=>yC (ar b (by simp only[zD,zG] at u⊢;rcases u with h|h|h<;>simp[h])) h.fr.size;have aT:Fr [] w w6:=by refine (f2.J0 f3 λb u=>.inr (I.new b u)).trans (h.fr) |>.J0 f6 λb u=>.inr (n2 b u)
  have hz:=(f2.J0 f3 λb u=>.inr (I.new b u)).size;refine hX (i+1) s6 w6 ⟨B6,B1++(B2++E),ps++[((ks,vs),x)],aJ,aK,aL,J,by rw[xO];exact b6,(aP.j1 h.fr (λ_ _ h=>nomatch h) λb u=>u).j1 f6 aq λb u=>u,λb u R=>?_,by rw[xO,U,hx];rfl,λh=>oJ,aT,λb u=>?_,λb u=>?_,aQ.j1 (f6.mono λb u _=>by simp[u]) (λb u=>?_) λb u=>?_,by rw[ah];exact aM⟩ ?_;rcases n7 b R with h1|h1;exact aq b u h1;have:=ac b u;omega;rcases n7 b u with h1|h1;exact n2 b h1;have:=h.fr.size;omega;have au:=f2.size;rcases zD.1 u with h|u;exact zL au (n5 b h);rcases zD.1 u with h|u;exact zL au (n6 b h);exact n3 b u;rcases zD.1 u with u|u;exact (n7 b u).imp (λh=>by simp[h]) id;exact .inl (by simp only[zD] at u⊢;rcases u with h|h|h<;>simp[h]);rcases zD.1 u with u|u;exact b6.lt b u;exact yC (ac b u) f6.size;show _+1-(i+1)<_+1-i;omega
 rintro s w2 ⟨B,E,ps,h1,h2,h3,h4,h5,h6,h7⟩;exact kk s w2 B E ps h1 h2 h3 h4 h5 h6 h7
end
end
end
end Go.Proofs.YtpcmehldpoljfaaGreatDoor
