/- Conditions: those that stand in each line. -/
import Derived.Test.YtpcmehldpoljfaaGreatDoorCSDQ5
import Derived.Test.YtpcmehldpoljfaaGreatDoorCSDQ4
import Derived.Test.YtpcmehldpoljfaaGreatDoorCSDQ2
import Derived.Test.YtpcmehldpoljfaaGreatDoorCSDQ3
import Derived.Laws.Externs
set_option linter.unusedVariables false
set_option linter.unusedSimpArgs false
set_option linter.defProp false
namespace Go.Proofs.YtpcmehldpoljfaaGreatDoor
open Go Go.Pt
attribute [local irreducible] ld dJ iH mZ i7 fi st new idx i8 jr fB js iY lV gT nn call dV inv run fc iM join loop held ext jR eI mH mz mI IntKind.wrap
section
open Go Go.Pt List
open Go.IntKind (wrap)
open Classical
variable {key:Key}
section
variable {D:dE} {M:dU} {k v side c:Nat} {n nx ny:dG}
def qxq{e:Int}(h:dF D M k v (n.J9.getD side 0)=(ny,e))(u:e≠0):jw D k v M n side c nx=((ie,e),M):=by unfold jw;rw[h,if_pos u]
def qvP(h:dF D M k v (n.J9.getD side 0)=(ny,0))(u:¬iF ny k v):jw D k v M n side c nx=lp k v M n (if side<c then side else c) (if side<c then ny else nx) (if side<c then nx else ny):=by unfold jw;rw[h,if_neg (fun h=>h rfl)];by_cases hsd:side<c;rw[if_pos hsd,if_pos hsd,if_pos hsd,if_pos hsd,if_pos u];rw[if_neg hsd,if_neg hsd,if_neg hsd,if_neg hsd,if_pos u]
def qvO(h:dF D M k v (n.J9.getD side 0)=(ny,0))(u:iF ny k v):jw D k v M n side c nx=mN k v M n (if side<c then side else c) (if side<c then iI ny nx (n.J6.getD side []) else takeN nx ny (n.J6.getD c [])):=by unfold jw;rw[h,if_neg (fun h=>h rfl)];by_cases hsd:side<c;rw[if_pos hsd,if_pos hsd,if_pos hsd,if_neg (fun h=>h u)];rw[if_neg hsd,if_neg hsd,if_neg hsd,if_neg (fun h=>h u)]
def qlM{n:dG}{k v:Nat}(h:fx n k v):gA n:=by obtain⟨E,G,I,u,C⟩:=ur h;exact⟨fun h=>(u h).1,fun h=>(C h).1.symm,oJ,oJ,oJ⟩
def qu5(E:gN k v)(u:iF n k v)(sn:gA n):1<=n.J6.length/\(n.Q4=true->2<=n.J6.length):=by
 have G:=E.Q4;have I:=E.inner;unfold iF at u;unfold eM at u;cases C:n.Q4 with
 | true=>rw[C,if_pos rfl] at u;dsimp only at u;exact⟨oJ,fun _=>oJ⟩
 | false=>
  have:=sn.inner C
  rw[C,if_neg oM] at u;dsimp only at u;exact⟨oJ,fun h=>nomatch h⟩
end
section
variable {dbk pb j:Nat} {FD S S0 N0 Y F F' T B Bl Br Bn Bx By:List Nat} {D:dE} {w0 wa w w' w7:World} {M M':dU} {L:List (Nat×Obj)} {x xx xy:jP} {n nx ny:dG} {k v:Nat} {t:Int}
def Ed.more(e:Ed dbk pb FD D j S0 N0 w0 w (eY L) Y F M x n B)(h:dM T wa w L)(J:TW dbk pb FD D j w7 (By++(eY L++(B++Y))) F M)(R:eV (Zo FD (By++(eY L++(B++Y))) F) w7 xy ny By)(f:Fr [] w w7)(E:∀c∈By,w.heap.size<=c): Ed dbk pb FD D j S0 N0 w0 w7 (eY L) (By++Y) F M x n B/\dM (eY L) w7 w7 L/\nc FD F w7 (eY L) (B++(By++Y)) xy ny By:=by
 have C:∀b∈Zo FD (eY L++(B++(By++Y))) F,b∈Zo FD (By++(eY L++(B++Y))) F:=fun b u=>by simp only[Zo,zD,zG] at u⊢;rcases u with (u|u|u|u|u|u)|u<;>simp[u]
 have G:∀b∈Zo FD (eY L++(B++(By++Y))) F,b∈Zo FD (eY L++(B++Y)) F\/w.heap.size<=b:=fun b u=>by simp only[Zo,zD,zG] at u⊢;rcases u with (u|u|u|u|u|u)|u;simp[u];simp[u];simp[u];simp[u];exact .inr (E b u);simp[u];simp[u]
 refine⟨⟨⟨e.sg.py.j8 f (fun _ h=>nomatch h),e.sg.new,e.sg.own⟩,J.y0 fun b u=>?_,e.node.q8 f (fun _ _ h=>nomatch h) (fun _ h=>nomatch h) G,e.sep,e.cE,e.cR,fun b u C=>?_⟩,pS h f (fun _ _ h=>nomatch h),R.j6 fun b u=>.inl (C b u),fun b u C=>?_⟩;simp only[zD] at u⊢;rcases u with u|u|u|u<;>simp[u];rcases zD.1 C with I|I
 have:=e.node.lt b u;have:=E b I;omega
 exact e.cK b u I
 have:=vO h b u;have:=E b C;omega
def nc.more(o:nc FD F w (eY L) (B++Y) x n Bx)(f:Fr [] w w7)(C:∀c∈By,w.heap.size<=c):nc FD F w7 (eY L) (B++(By++Y)) x n Bx:=
 ⟨o.node.q8 f (fun _ _ h=>nomatch h) (fun _ h=>nomatch h) fun b u=>by simp only[Zo,zD,zG] at u⊢;rcases u with (u|u|u|u|u|u)|u;simp[u];simp[u];simp[u];simp[u];exact .inr (C b u);simp[u];simp[u],o.sep⟩
def nc.q7{R:List Nat}(o:nc FD F w T R x n B)(f:Fr [] w w'):nc FD F w' T R x n B:=⟨o.node.q7 f,o.sep⟩
def qvS{nl nr:dG}(h:∀a∈nl.J6,eB a)(sl:gA nl)(u:gA nr):eB (iI nl nr key).2.2/\(iI nl nr key).1.J6.length<=9000/\(iI nl nr key).1.Q0.length<=9000/\(iI nl nr key).1.J9.length<=9000/\(iI nl nr key).2.1.J6.length<=9000/\(iI nl nr key).2.1.Q0.length<=9000/\(iI nl nr key).2.1.J9.length<=9000:=by obtain⟨_,_,C,E,G⟩:=sl;obtain⟨_,_,I,J,R⟩:=u;unfold iI;split;refine⟨rZ h _,?_⟩;simp only[yK,yH];omega;refine⟨rZ h _,?_⟩;simp only[yK,yH];omega
def qwM{nl nr:dG}(h:∀a∈nr.J6,eB a)(sl:gA nl)(u:gA nr):eB (takeN nl nr key).2.2/\(takeN nl nr key).1.J6.length<=9000/\(takeN nl nr key).1.Q0.length<=9000/\(takeN nl nr key).1.J9.length<=9000/\(takeN nl nr key).2.1.J6.length<=9000/\(takeN nl nr key).2.1.Q0.length<=9000/\(takeN nl nr key).2.1.J9.length<=9000:=by obtain⟨_,_,E,G,I⟩:=sl;obtain⟨_,_,J,R,U⟩:=u;unfold takeN;split;refine⟨rZ (fun a C=>h a (yT C)) _,?_⟩;simp only[zF,yB,yH,xJ];omega;refine⟨rZ h _,?_⟩;simp only[zF,yB,yH,xJ];omega
def tp{Y':List Nat}(h:∀b∈Y',b∈Y):∀b∈Zo FD Y' F,b∈Zo FD Y F:=fun b u=>by simp only[Zo,zD,zG] at u⊢;rcases u with (u|u|u)|u;simp[u];simp[u];simp[h b u];simp[u]
def Ed.fI{Y1:List Nat}(e:Ed dbk pb FD D j S0 N0 w0 w (eY L) Y F M x n B)(h:dM T wa w L)(R:TW dbk pb FD D j w' (eY L++(B++Y1)) F M)(f:Fr S w w')(G:∀b∈S,b∈S0\/w0.heap.size<=b)(C:∀b∈S,b∉B/\b∉eY L)(I:∀b∈S,b∈Zo FD (eY L++(B++Y)) F)(J:∀b∈Y1,b∈Y): Ed dbk pb FD D j S0 N0 w0 w' (eY L) Y1 F M x n B/\dM (eY L) w' w' L:=
 ⟨⟨⟨e.sg.py.j8 f G,e.sg.new,e.sg.own⟩,R,e.node.q8 f (fun b u E=>(C b E).1 u) (fun b u=>.inl (I b u)) fun b u=>.inl (by simp only[Zo,zD,zG] at u⊢;rcases u with (u|u|u|u|u)|u;simp[u];simp[u];simp[u];simp[u];simp[J b u];simp[u]),e.sep,e.cE,e.cR,fun b u E=>e.cK b u (J b E)⟩,pS h f fun b u E=>(C b E).2 u⟩
set_option maxHeartbeats 4000000 in
def qxr{side c:Nat}{K:jP×Int->WP}(hT:TW dbk pb FD D j w0 (Bn++(Bx++Y)) F M)(hn:eV (Zo FD (Bn++(Bx++Y)) F) w0 x n Bn)(hx:eV (Zo FD (Bn++(Bx++Y)) F) w0 xx nx Bx)(d1:∀b∈Bn,b∉Bx)(d2:∀b∈Bn,b∉Y)(d3:∀b∈Bx,b∉Y)(sn:gA n)(sx:gA nx)(a6:n.Q4=false)(ct:side+1=c\/c+1=side)(hs:side<n.J9.length)(cu:c<n.J9.length)(bL:∀ny,dF D M k v (n.J9.getD side 0)=(ny,0)->ny.Q4=nx.Q4)(a7:gN k v)(kk:∀yn B' F' w',TW dbk pb FD D j w' (B'++Y) F' (jw D k v M n side c nx).2->eV (Zo FD (B'++Y) F') w' yn (jw D k v M n side c nx).1.1 B'->Fr (Bn++(Bx++F)) w0 w'->(∀b∈B',b∈Bn\/w0.heap.size<=b)->(∀b∈F',b∈Bn++(Bx++F)\/w0.heap.size<=b)->K (yn,(jw D k v M n side c nx).1.2) w'): cW 170 [.agg (mR (jt k v pb t)),.agg (eF x),.i side,.i c,.agg (eF xx)] [.agg dT,.one .i] w0 K:=by
 refine qld ?_;unfold DX Ec;have ei:(if (c:Int)<(side:Int) then (c:Int) else (side:Int))=(((if side<c then side else c):Nat):Int):=by by_cases h1:c<side;rw[iP,iN];rw[iN,iP]
 have ao:(if side<c then side else c)+1<n.J9.length:=(by split<;>omega);rw[ei];generalize aC:(if side<c then side else c)=i at ao⊢;have il:=sn.inner a6;have s1:=sn.J6;have s3:=sn.J9;have aD:i<n.J6.length:=oJ;have ew:wrap .i64 ((i:Int)+1)=((i+1:Nat):Int):=qG oJ;rw[ew];have e0:Ed dbk pb FD D j (Bn++(Bx++F)) Bn w0 w0 [] (Bx++Y) F M x n Bn:=⟨⟨.refl _ _,fun b u=>.inl (by simp[u]),fun _ h=>nomatch h⟩,hT,hn,fun _ h=>(nomatch h),fun b u=>.inl u,fun b u=>by simp[u],fun b u I=>(zD.1 I).elim (d1 b u) (d2 b u)⟩;have o0:nc FD F w0 [] (Bn++(Bx++Y)) xx nx Bx:=⟨hx,fun _ h=>nomatch h⟩;rcases al:dF D M k v (n.J9.getD side 0) with ⟨ny,ey⟩;have bN:n.J9.getD side 0=n.J9[side]:=tL hs;have aL:dF D M k v n.J9[side]=(ny,ey):=(by rw[<- bN];exact al);have a8:=hx.lt;have a9:∀b∈Y,b<w0.heap.size:=fun b u=>hT.pX b (by simp[u]);have a':gy n.J9[side]:=hn.2.1.2.2 _ (zW hs);have h:=oE [] w0;refine oB h fun J w2 _ _ h=>oB h fun R w4 _ _ h=>oB h fun U w6 _ _ h=>oB h fun V w8 _ _ h=>?_;have h:=oF h;refine⟨?a,?b⟩;case' a=>
  have e:=e0.J0 h;have o:=o0.J0 h;refine oC h 3 rfl (jt k v pb t) rfl<|oA h 2 rfl x.2.2.2 rfl<|dW.cP e.y6 side rfl hs fun bO hh=>?_;have aQ:=e.fr.size;refine AN (k:=k) (v:=v) e.tw a' fun xy By bQ ap ab aq ac=>?_;rw[aL] at ab⊢;dsimp only at ab;obtain⟨e,h,oy⟩:=e.more h ap ab aq ac;have ox:=o.more (By:=By) aq ac;refine oB h fun C bR _ _ h=>mB (hh _ _ (e.J0 h).y6) (h.cell 3 rfl rfl) (h.cells 4 rfl rfl)<|oD h 0 rfl (eF xy) fun bS h _=>?_;have oy:=oy.J0 h;have ox:=ox.J0 h;have e:=e.J0 h;have h:=lq h (.refl _);have aE:∀b∈By,w0.heap.size<=b:=fun b u=>zL aQ (ac b u)
 case' b=>
  have e:=e0.J0 h;have o:=o0.J0 h;have h:=lq h (.refl _);refine oC h 3 rfl (jt k v pb t) rfl<|oA h 2 rfl x.2.2.2 rfl<|dW.cP e.y6 side rfl hs fun bO hh=>oB h fun C bR _ _ h=>?_;have e:=e.J0 h;have o:=o.J0 h;refine mB (hh _ _ e.y6) (h.cell 3 rfl rfl) (h.cells 4 rfl rfl) ?_;have aQ:=e.fr.size;refine AN (k:=k) (v:=v) e.tw a' fun xy By bQ ap ab aq ac=>?_;rw[aL] at ab⊢;dsimp only at ab;obtain⟨e,h,oy⟩:=e.more h ap ab aq ac;have ox:=o.more (By:=By) aq ac;refine oD h 0 rfl (eF xy) fun bS h _=>?_;have oy:=oy.J0 h;have ox:=ox.J0 h;have e:=e.J0 h;have h:=lq h (.refl _);have aE:∀b∈By,w0.heap.size<=b:=fun b u=>zL aQ (ac b u)
 all_goals
  apply dR<;>intro hc;have ar:ey≠0:=by rw[zT] at hc;exact zR.1 hc
  rw[qxq al ar] at kk;refine oD h 1 rfl (eF fl) fun bT h _=>oC h 1 rfl fl rfl ?_;have e:=e.J0 h;exact kk fl [] F bT (e.qb.y0 fun b u=>by simp at u⊢;simp[u]) (.zero _ _) e.fr (fun _ h=>(nomatch h)) e.sg.new;have bU:ey=0:=by rw[yD] at hc;exact yO.1 hc
  subst bU;have bV:=A6 al;have sy:=qlM bV;have aM:=bL ny al;have aR:∀b∈By,b∉Bx:=fun b u I=>by have:=aE b u;have:=a8 b I;omega
  have bb:∀b∈By,b∉Y:=fun b u I=>by have:=aE b u;have:=a9 b I;omega
  refine⟨?_,?_⟩;have h:=oF h;refine oC h 2 rfl xx rfl<|oC h 0 rfl xy rfl<|oB h fun E bW _ _ h=>jX (h.cells 1 rfl rfl) (h.cells 3 rfl rfl)<|oB h fun G bX _ _ h=>jX (h.cells 2 rfl rfl) (h.cells 4 rfl rfl)<|oD h 1 rfl (eF xx) fun bY h _=>ia (h.cells 2 rfl rfl)<|oD h 0 rfl (eF xy) fun bZ h _=>?_;rotate_left;have h:=oF h;refine oC h 2 rfl xx rfl<|oC h 0 rfl xy rfl<|oB h fun G bW _ _ h=>jX (h.cells 1 rfl rfl) (h.cells 3 rfl rfl)<|oB h fun E bX _ _ h=>jX (h.cells 2 rfl rfl) (h.cells 4 rfl rfl)<|oD h 0 rfl (eF xx) fun bY h _=>ia (h.cells 2 rfl rfl)<|oD h 1 rfl (eF xy) fun bZ h _=>?_;have h:=Bh h (List.Perm.swap _ _ _);all_goals
   obtain⟨xl,nl,Bl,xr,nr,Br,hP⟩:∃xl nl Bl xr nr Br,(side<c/\xl=xy/\nl=ny/\Bl=By/\xr=xx/\nr=nx/\Br=Bx)\/(¬side<c/\xl=xx/\nl=nx/\Bl=Bx/\xr=xy/\nr=ny/\Br=By):=by by_cases aa:side<c;exact⟨_,_,_,_,_,_,.inl ⟨aa,rfl,rfl,rfl,rfl,rfl,rfl⟩⟩;exact⟨_,_,_,_,_,_,.inr ⟨aa,rfl,rfl,rfl,rfl,rfl,rfl⟩⟩
   refine gQ (fun _ w'=>dM [G,E,C,V,U,R,J] w' w' [(G,.cells (eF xr) ND (0,0)),(E,.cells (eF xl) ND (0,0)),(C,.cells (eF xy) ND (0,0)),(V,.cells (eF fl) ND (0,0)),(U,.cells (eF xx) ND (0,0)),(R,.cells (eF x) ND (0,0)),(J,.cells (mR (jt k v pb t)) WK (0,0))]/\
    Ed dbk pb FD D j (Bn++(Bx++F)) Bn w0 w' [G,E,C,V,U,R,J] (By++(Bx++Y)) F M x n Bn/\nc FD F w' [G,E,C,V,U,R,J] (Bn++(By++(Bx++Y))) xx nx Bx/\nc FD F w' [G,E,C,V,U,R,J] (Bn++(By++(Bx++Y))) xy ny By) ?_ ?_
   apply dR<;>intro hc;have aa:side<c:=(by have:=zC hc;omega);rcases hP with ⟨_,rfl,rfl,rfl,rfl,rfl,rfl⟩|⟨hn,_⟩;have h:=oF h;exact oC h 2 rfl xl rfl<|oC h 4 rfl xr rfl<|oD h 1 rfl (eF xl) fun cx h _=>ia (h.cells 4 rfl rfl)<|oD h 0 rfl (eF xr) fun cy h _=>⟨lq h (.refl _),e.J0 h,ox.J0 h,oy.J0 h⟩;exact absurd aa hn;have aa:¬side<c:=(by have:=zB hc;omega);rcases hP with ⟨hn,_⟩|⟨_,rfl,rfl,rfl,rfl,rfl,rfl⟩;exact absurd hn aa;exact⟨lq h (.refl _),e.J0 h,ox.J0 h,oy.J0 h⟩;rintro _ cz ⟨h,e,ox,oy⟩;refine oC h 6 rfl (AY k v) rfl<|oC h 2 rfl xy rfl ?_;have ly:nz xy ny:=(oy.node.rd (S:=[]) (fun _ _ h=>(nomatch h)) fun _ h=>nomatch h).lens;refine qxZ ly fun am b0=>?_;have h:=h.q7 b0;have e:=e.J0 h;have ox:=ox.J0 h;have oy:=oy.J0 h;have h:=lq h (.refl _);apply dR<;>intro hc;have aG:¬iF ny k v:=by rw[zT] at hc;exact zB hc
   rw[qvP al aG] at kk;have hj:(if side<c then ny else nx)=nl/\(if side<c then nx else ny)=nr:=by rcases hP with ⟨h1,_,h2,_,_,h3,_⟩|⟨h1,_,h2,_,_,h3,_⟩;rw[if_pos h1,if_pos h1,h2,h3];exact⟨rfl,rfl⟩;rw[if_neg h1,if_neg h1,h2,h3];exact⟨rfl,rfl⟩
   rw[aC,hj.1,hj.2] at kk;have e:=e.sub (T1:=[G,E,C,V,U,R,J]) fun b u=>u;have aT:nc FD F am [G,E,C,V,U,R,J] (Bn++(By++(Bx++Y))) xl nl Bl:=by rcases hP with ⟨_,rfl,rfl,rfl,_⟩|⟨_,rfl,rfl,rfl,_⟩<;>assumption
   have b3:nc FD F am [G,E,C,V,U,R,J] (Bn++(By++(Bx++Y))) xr nr Br:=by rcases hP with ⟨_,_,_,_,rfl,rfl,rfl⟩|⟨_,_,_,_,rfl,rfl,rfl⟩<;>assumption
   have bc:gA nl/\gA nr:=by rcases hP with ⟨_,_,rfl,_,_,rfl,_⟩|⟨_,_,rfl,_,_,rfl,_⟩<;>exact⟨by assumption,by assumption⟩
   have b4:(∀b∈Bl,b∈By\/b∈Bx)/\(∀b∈Br,b∈By\/b∈Bx)/\∀b∈Bl,b∉Br:=by rcases hP with ⟨_,_,_,rfl,_,_,rfl⟩|⟨_,_,_,rfl,_,_,rfl⟩;exact⟨fun b u=>.inl u,fun b u=>.inr u,aR⟩;exact⟨fun b u=>.inr u,fun b u=>.inl u,fun b u I=>aR b I u⟩
   obtain⟨aH,bd,b5⟩:=b4;have aU:∀b,b∈By\/b∈Bx->b∉Bn/\b∉Y:=fun b u=>by rcases u with u|u;exact⟨fun I=>e.cK b I (by simp[u]),bb b u⟩;exact⟨fun I=>e.cK b I (by simp[u]),d3 b u⟩
   have au:∀b∈Bl++(Bn++(Br++([G,E,C,V,U,R,J]++Y))),b∈[G,E,C,V,U,R,J]++(Bn++(By++(Bx++Y))):=fun b u=>by have a1:=aH b;have a2:=bd b;rw[zD,zD,zD,zD] at u⊢;rcases u with u|u|u|u|u;rcases a1 u with h|h<;>simp[h];simp[u];rcases a2 u with h|h<;>simp[h];simp[u];simp[u]
   have hZ:∀b∈Zo FD (Bl++(Bn++(Br++([G,E,C,V,U,R,J]++Y)))) F,b∈Zo FD ([G,E,C,V,U,R,J]++(Bn++(By++(Bx++Y)))) F:=tp au;refine oC h 6 rfl (jt k v pb t) rfl<|oC h 5 rfl x rfl<|oC h 1 rfl xl rfl<|oC h 0 rfl xr rfl<|qxB (Y:=[G,E,C,V,U,R,J]++Y) (e.tw.y0 au) (aT.node.j6 fun b u=>.inl (hZ b u)) (e.node.j6 fun b u=>.inl (hZ b u)) (b3.node.j6 fun b u=>.inl (hZ b u)) (fun b u=>(aU b (aH b u)).1) b5 (fun b u I=>(zD.1 I).elim (fun I=>aT.sep b I u) (aU b (aH b u)).2) (fun b u I=>(aU b (bd b I)).1 u) (fun b u I=>(zD.1 I).elim (fun I=>e.sep b I u) (d2 b u)) bc.1 bc.2 sn aD a6 fun yn B' F' b8 bf bg bh nB nF=>?_;have b9:∀b∈[G,E,C,V,U,R,J],b<am.heap.size:=fun b u=>e.tw.pX b (zH _ u);have hS:∀b∈Bn++(Bl++F),b∈Bn++(Bx++F)\/w0.heap.size<=b:=fun b u=>by rcases zD.1 u with u|u;exact .inl (by simp[u]);rcases zD.1 u with u|u;rcases aH b u with h1|h1;exact .inr (aE b h1);exact .inl (by simp[h1]);exact .inl (by simp[u])
   have h:=pS h bh fun b u I=>by rcases zD.1 I with I|I;exact e.sep b u I;rcases zD.1 I with I|I;exact aT.sep b u I;exact e.tw.yf b (zH _ u) I
   refine oD h 3 rfl (eF yn) fun ca h _=>oC h 3 rfl yn rfl ?_;have bi:∀b∈[G,E,C,V,U,R,J]++(B'++Y),b∈B'++([G,E,C,V,U,R,J]++Y):=fun b u=>by rw[zD,zD] at u⊢;rcases u with u|u|u<;>simp[u]
   have o:nc FD F' b8 [G,E,C,V,U,R,J] (B'++Y) yn _ B':=⟨bg.j6 fun b u=>.inl (tp bi b u),fun b u I=>(nB b I).elim (e.sep b u) fun h1=>by have:=b9 b u;omega⟩;have cc:=bf.y0 bi;exact kk yn B' F' ca (TW.J0 (T:=[G,E,C,V,U,R,J]) cc h).j7 ((o.J0 h).node.j6 fun b u=>.inl (wT b u)) ((e.fr.j8 bh hS).j8 h.fr e.sg.own) (fun b u=>(nB b u).imp id fun h1=>zL e.fr.size h1) fun b u=>(nF b u).elim (hS b) fun h1=>.inr (zL e.fr.size h1);have aG:iF ny k v:=(by rw[yD] at hc;exact zC hc);rw[qvO al aG,aC] at kk;obtain⟨y1,y2⟩:=qu5 a7 aG sy;have e:=e.sub (T1:=[G,E,C,V,U,R,J]) fun b u=>u;have ox:nc FD F am [G,E,C,V,U,R,J] (Bn++(By++(Bx++Y))) xx nx Bx:=ox;have oy:nc FD F am [G,E,C,V,U,R,J] (Bn++(By++(Bx++Y))) xy ny By:=oy;have bj:∀b∈Bx++(By++([G,E,C,V,U,R,J]++(Bn++Y))),b∈[G,E,C,V,U,R,J]++(Bn++(By++(Bx++Y))):=fun b u=>by rw[zD,zD,zD,zD] at u⊢;rcases u with u|u|u|u|u<;>simp[u]
   have aV:∀b∈Zo FD (Bx++(By++([G,E,C,V,U,R,J]++(Bn++Y)))) F,b∈Zo FD ([G,E,C,V,U,R,J]++(Bn++(By++(Bx++Y)))) F:=tp bj;have bk:∀b∈Bx,b∉By:=fun b u I=>aR b I u;have aN:∀b∈Bx,b∉[G,E,C,V,U,R,J]++(Bn++Y):=fun b u I=>by rcases zD.1 I with I|I;exact ox.sep b I u;rcases zD.1 I with I|I;exact d1 b I u;exact d3 b u I
   have aO:∀b∈By,b∉[G,E,C,V,U,R,J]++(Bn++Y):=fun b u I=>by rcases zD.1 I with I|I;exact oy.sep b I u;rcases zD.1 I with I|I;exact e.cK b I (by simp[u]);exact bb b u I
   obtain⟨nk,nv,on⟩:=e.node.Am (S0:=[]) fun _ _ h=>nomatch h;have av:i<nk.length:=(by rw[on.sG];exact aD);have bl:eB nk[i].2:=(by rw[<- on.mt av];exact rZ on.nb.1 _);have bm:=(on.ek _ (zW av)).q8 (.refl _ _) fun b u=>.inl (aV b u);have bn:n.J6.getD i []=nk[i].2:=on.mt av;have bo:=e.tw.y0 bj;have bp:=ox.node.j6 fun b u=>.inl (aV b u);have aJ:=oy.node.j6 fun b u=>.inl (aV b u);refine gQ (fun _ w'=>∃yl yr r B',dM [G,E,C,V,U,R,J] w' w' [(G,.cells (eF yr) ND (0,0)),(E,.cells (eF yl) ND (0,0)),(C,.cells (eF xy) ND (0,0)),(V,.cells (eF fl) ND (0,0)),(U,.cells (eF xx) ND (0,0)),(R,.cells (eF x) ND (0,0)),(J,.cells (mR (jt k v pb t)) WK (0,0))]/\
    Ed dbk pb FD D j (Bn++(Bx++F)) Bn w0 w' [G,E,C,V,U,R,J] Y F M x { n with J6:=n.J6.set i r.2.2 } B'/\ef (Zo FD ([G,E,C,V,U,R,J]++(B'++Y)) F) w' yl r.1/\ef (Zo FD ([G,E,C,V,U,R,J]++(B'++Y)) F) w' yr r.2.1/\
    (if side<c then iI ny nx (n.J6.getD side []) else takeN nx ny (n.J6.getD c []))=r/\r.1.J6.length<=9000/\r.1.Q0.length<=9000/\r.1.J9.length<=9000/\r.2.1.J6.length<=9000/\r.2.1.Q0.length<=9000/\r.2.1.J9.length<=9000) ?_ ?_
   have bq:∀b∈Bx++F,b∈Bn++(Bx++F)\/w0.heap.size<=b:=fun b u=>.inl (zI _ u);have bt:∀b∈Bx++F,b∉Bn/\b∉[G,E,C,V,U,R,J]:=fun b u=>by rcases zD.1 u with u|u;exact⟨fun I=>d1 b I u,fun I=>ox.sep b I u⟩;exact⟨fun I=>e.tw.yf b (by simp[I]) u,fun I=>e.tw.yf b (zH _ I) u⟩
   have bu:∀b∈Bx++F,b∈Zo FD ([G,E,C,V,U,R,J]++(Bn++(By++(Bx++Y)))) F:=fun b u=>by rcases zD.1 u with u|u<;>simp[u]
   have fd:=(Fr.refl [] am).drew;apply cD<;>intro aX;have aa:side<c:=oJ;have aY:side=i:=(by rw[<- aC,if_pos aa]);rcases hP with ⟨_,rfl,rfl,rfl,rfl,rfl,rfl⟩|⟨hn,_⟩;have h:=oF h;have e:=e.J0 h;have h:=lq h (.refl _);refine oA h 5 rfl x.2.1 rfl<|oC h 1 rfl xl rfl<|oC h 0 rfl xr rfl<|oA h 5 rfl x.2.1 rfl<|dW.get (on.rk.q7 fd) i rfl (x:=nk[i].1) (by rw[zQ,zA av];rfl) (y:=nk[i].1) rfl ?_;have gm:=qvS (key:=nk[i].2) aJ.2.1.1 sy sx;refine qxu (Y:=[G,E,C,V,U,R,J]++(Bn++Y)) (bo.q7 fd) (aJ.q7 fd) (bp.q7 fd) bk aN aO (bm.q7 fd) bl aM y1 sy sx fun yl yr cd ce aw hL hR ak aZ=>?_;obtain⟨e,h⟩:=e.fI h aw aZ bq bt bu fun b u=>by simp[u]
   refine ia (h.cell 5 rfl rfl)<|oD h 1 rfl (eF yl) fun cf h _=>ia (h.cell 5 rfl rfl)<|oD h 0 rfl (eF yr) fun cg h _=>ia (h.cell 5 rfl rfl) ?_;have e:=e.J0 h;have hL:=ef.J0 (T:=[G,E,C,V,U,R,J]) hL h;have hR:=ef.J0 (T:=[G,E,C,V,U,R,J]) hR h;have ak:=pu (T:=[G,E,C,V,U,R,J]) ak h;have h:=lq h (.refl _);exact e.zm h (i:=i) aD rfl ak gm.1 fun B1 ch e h kp=>⟨yl,yr,_,B1,h,e,kp.node _ _ hL,kp.node _ _ hR,by rw[if_pos aa,aY,bn],gm.2.1,gm.2.2.1,gm.2.2.2.1,gm.2.2.2.2.1,gm.2.2.2.2.2.1,gm.2.2.2.2.2.2⟩;exact absurd aa hn;have aa:¬side<c:=oJ;have aY:c=i:=(by rw[<- aC,if_neg aa]);rcases hP with ⟨hn,_⟩|⟨_,rfl,rfl,rfl,rfl,rfl,rfl⟩;exact absurd hn aa;have h:=oF h;have e:=e.J0 h;have h:=lq h (.refl _);refine oA h 5 rfl x.2.1 rfl<|oC h 1 rfl xl rfl<|oC h 0 rfl xr rfl<|oA h 5 rfl x.2.1 rfl<|dW.get (on.rk.q7 fd) i rfl (x:=nk[i].1) (by rw[zQ,zA av];rfl) (y:=nk[i].1) rfl ?_;have gm:=qwM (key:=nk[i].2) aJ.2.1.1 sx sy;refine qx1 (Y:=[G,E,C,V,U,R,J]++(Bn++Y)) (bo.q7 fd) (bp.q7 fd) (aJ.q7 fd) bk aN aO (bm.q7 fd) bl aM.symm y1 y2 sx sy fun yl yr cd ce aw hL hR ak aZ=>?_;obtain⟨e,h⟩:=e.fI h aw aZ bq bt bu fun b u=>by simp[u]
   refine ia (h.cell 5 rfl rfl)<|oD h 1 rfl (eF yl) fun cf h _=>ia (h.cell 5 rfl rfl)<|oD h 0 rfl (eF yr) fun cg h _=>ia (h.cell 5 rfl rfl) ?_;have e:=e.J0 h;have hL:=ef.J0 (T:=[G,E,C,V,U,R,J]) hL h;have hR:=ef.J0 (T:=[G,E,C,V,U,R,J]) hR h;have ak:=pu (T:=[G,E,C,V,U,R,J]) ak h;have h:=lq h (.refl _);exact e.zm h (i:=i) aD rfl ak gm.1 fun B1 ch e h kp=>⟨yl,yr,_,B1,h,e,kp.node _ _ hL,kp.node _ _ hR,by rw[if_neg aa,aY,bn],gm.2.1,gm.2.2.1,gm.2.2.2.1,gm.2.2.2.2.1,gm.2.2.2.2.2.1,gm.2.2.2.2.2.2⟩;rintro _ cD ⟨yl,yr,r,B',h,e,hL,hR,hr,q1,q2,q3,q4,q5,q6⟩;have aK:i<n.J9.length:=oJ;rw[hr] at kk;unfold mN at kk;rw[tL aK,tL ao] at kk;have h:=oF h;have e:=e.J0 h;have hL:=ef.J0 (T:=[G,E,C,V,U,R,J]) hL h;have hR:=ef.J0 (T:=[G,E,C,V,U,R,J]) hR h;have h:=lq h (.refl _);refine oA h 5 rfl x.2.2.2 rfl<|oC h 6 rfl (jt k v pb t) rfl<|oA h 5 rfl x.2.2.2 rfl<|dW.get e.y6 i rfl (x:=n.J9[i]) (zA aK) (y:=n.J9[i]) rfl<|oC h 1 rfl yl rfl<|ud e.tw hL oJ oJ oJ fun F1 cG bv bx bz=>?_;obtain⟨e,h⟩:=e.next h bv bx bz
   have hR:=hR.next bx bz
   have a3:gy (dK k v M n.J9[i] r.1).1.1:=uk hT.wf (hn.2.1.2.2 _ (zW aK));generalize dK k v M n.J9[i] r.1=ci at kk e a3⊢;obtain⟨⟨a1,bA⟩,M1⟩:=ci;dsimp only at kk e a3⊢;refine ia (h.cell 5 rfl rfl)<|e.tj h (i:=i) aK rfl a3 fun B1 cH e h kp=>?_;have hR:=kp.node _ _ hR;apply dR<;>intro ay;have ar:bA≠0:=(by rw[zT] at ay;exact zR.1 ay);rw[if_pos ar] at kk;refine oD h 3 rfl (eF fl) fun bB h _=>oC h 3 rfl fl rfl ?_;have e:=e.J0 h;exact kk fl [] F1 bB e.qb.j7 (.zero _ _) e.fr (fun _ h=>(nomatch h)) e.sg.new;have ar:¬bA≠0:=(by rw[yD] at ay;exact fun h=>h (yO.1 ay));rw[if_neg ar] at kk;have bC:(n.J9.set i a1)[i+1]?=some n.J9[i+1]:=(by rw[List.getElem?_set_ne oJ,zA ao]);have h:=oF h;have e:=e.J0 h;have hR:=ef.J0 hR h;have h:=lq h (.refl _);refine oA h 5 rfl x.2.2.2 rfl<|oC h 6 rfl (jt k v pb t) rfl<|oA h 5 rfl x.2.2.2 rfl<|dW.get e.y6 (i+1) rfl (x:=n.J9[i+1]) bC (y:=n.J9[i+1]) rfl<|oC h 0 rfl yr rfl<|ud e.tw hR oJ oJ oJ fun F2 cr a4 bD bE=>?_;have a5:gy (dK k v M1 n.J9[i+1] r.2.1).1.1:=uk e.tw.wf (hn.2.1.2.2 _ (zW ao));obtain⟨e,h⟩:=e.next h a4 bD bE
   generalize dK k v M1 n.J9[i+1] r.2.1=cj at kk e a5⊢;obtain⟨⟨a2,cI⟩,M2⟩:=cj;dsimp only at kk e a5⊢;refine ia (h.cell 5 rfl rfl)<|e.tj h (i:=i+1) (by dsimp only;rw[xF];exact ao) rfl a5 fun B2 cs e h _=>oC h 5 rfl x rfl<|oD h 3 rfl (eF x) fun bF h _=>oC h 3 rfl x rfl ?_;have e:=e.J0 h;exact kk x B2 F2 bF e.tw.j7 (e.node.j6 fun b u=>.inl (wT b u)) e.fr e.cE e.sg.new
end
section
section
variable {D:dE} {M M1:dU} {k v f side c i:Nat} {key:Key} {p e0 e1:Int} {n nx N:dG}
def Cf{α:Type}{l:List α}{i:Nat}(h:i<l.length):(gH l i).length+1=l.length:=by unfold gH;rw[zF,yK,yB];omega
def qlw{l r:dG}(sn:gA n)(u:n.Q4=false)(hi:i<n.J6.length)(h:(lp k v M n i l r).1.2=0):gA (lp k v M n i l r).1.1:=by have J:=sn.inner u;obtain⟨_,_,R,G,U⟩:=sn;unfold lp at h⊢;split;rename_i C;rw[if_pos C] at h;exact absurd h C;rename_i C;rw[if_neg C] at h;split;rename_i E;rw[if_pos E] at h;exact absurd h E;have I:=Cf (l:=n.J9.set i (dK k v M (n.J9.getD i 0) (kr l r (n.J6.getD i []))).1.1) (i:=i+1) (by rw[xF];omega);have V:=Cf hi;rw[xF] at I;exact⟨(fun h=>by rw[u] at h;cases h),fun _=>by dsimp only;omega,by dsimp only;omega,G,by dsimp only;omega⟩
def qlj{r:dG×dG×Key}(sn:gA n)(u:n.Q4=false)(h:(mN k v M n i r).1.2=0):gA (mN k v M n i r).1.1:=by have E:=sn.inner u;obtain⟨_,_,G,I,J⟩:=sn;unfold mN at h⊢;split;rename_i C;rw[if_pos C] at h;exact absurd h C;exact⟨(fun h=>by rw[u] at h;cases h),fun _=>by dsimp only;rw[xF,xF,xF];exact E,by dsimp only;rw[xF];exact G,I,by dsimp only;rw[xF,xF];exact J⟩
def qsq(sn:gA n)(u:n.Q4=false)(I:side+1=c\/c+1=side)(R:side<n.J9.length)(J:c<n.J9.length)(h:(jw D k v M n side c nx).1.2=0):gA (jw D k v M n side c nx).1.1:=by have U:=sn.inner u;unfold jw at h⊢;split;rename_i G;rw[if_pos G] at h;exact absurd h G;rename_i G;rw[if_neg G] at h;split;rename_i C;rw[if_pos C] at h;split;rename_i E;rw[if_pos E] at h;exact qlw sn u oJ h;rename_i E;rw[if_neg E] at h;exact qlj sn u h;rename_i C;rw[if_neg C] at h;split;rename_i E;rw[if_pos E] at h;exact qlw sn u oJ h;rename_i E;rw[if_neg E] at h;exact qlj sn u h
def iD (c:Nat):Nat:=if c>0 then c-1 else c+1
def qxj(h:dF D M k v p=(n,e0))(u:e0≠0):gS D k v key (f+1) M p=((ie,e0),M):=by unfold gS;rw[h,if_pos u]
def qxk(h:dF D M k v p=(n,0))(u:n.Q4=true)(C:n.J6[dI n.J6 key]?=some key):gS D k v key (f+1) M p=(({ n with J6:=gH n.J6 (dI n.J6 key),Q0:=gH n.Q0 (dI n.J6 key) },0),M):=by unfold gS;rw[h,if_neg (fun h=>h rfl),if_pos u,if_pos C]
def qvC(h:dF D M k v p=(n,0))(u:n.Q4=true)(C:¬n.J6[dI n.J6 key]?=some key):gS D k v key (f+1) M p=((ie,5),M):=by unfold gS;rw[h,if_neg (fun h=>h rfl),if_pos u,if_neg C]
def qvB(h:dF D M k v p=(n,0))(u:¬n.Q4=true)(C:gS D k v key f M (n.J9.getD (dZ n.J6 key) 0)=((N,e1),M1))(E:e1≠0):gS D k v key (f+1) M p=((ie,e1),M1):=by unfold gS;rw[h,if_neg (fun h=>h rfl),if_neg u];dsimp only;rw[C,if_pos E]
def qvA(h:dF D M k v p=(n,0))(u:¬n.Q4=true)(C:gS D k v key f M (n.J9.getD (dZ n.J6 key) 0)=((N,0),M1))(E:¬nS N k v):gS D k v key (f+1) M p = (({ n with J9:=n.J9.set (dZ n.J6 key) (dK k v M1 (n.J9.getD (dZ n.J6 key) 0) N).1.1 },(dK k v M1 (n.J9.getD (dZ n.J6 key) 0) N).1.2),(dK k v M1 (n.J9.getD (dZ n.J6 key) 0) N).2):=by unfold gS;rw[h,if_neg (fun h=>h rfl),if_neg u];dsimp only;rw[C,if_neg (fun h=>h rfl),if_pos E]
def qvz(h:dF D M k v p=(n,0))(u:¬n.Q4=true)(C:gS D k v key f M (n.J9.getD (dZ n.J6 key) 0)=((N,0),M1))(E:nS N k v):gS D k v key (f+1) M p=jw D k v M1 n (iD (dZ n.J6 key)) (dZ n.J6 key) N:=by unfold gS iD;rw[h,if_neg (fun h=>h rfl),if_neg u];dsimp only;rw[C,if_neg (fun h=>h rfl),if_neg (fun h=>h E)];split<;>rfl
def lW (D:dE) (k v:Nat) (key:Key):Nat->dU->Int->Prop
 | 0,_,_=>False
 | f+1,M,p=>∀n,dF D M k v p=(n,0)->n.Q4=false->lW D k v key f M (n.J9.getD (dZ n.J6 key) 0)/\
  ∀N M1,gS D k v key f M (n.J9.getD (dZ n.J6 key) 0)=((N,0),M1)->nS N k v->∀ny,dF D M1 k v (n.J9.getD (iD (dZ n.J6 key)) 0)=(ny,0)->ny.Q4=N.Q4
end
section
variable {dbk pb j:Nat} {FD S S0 N0 Y Y1 F F' T B By:List Nat} {D:dE} {w0 wa w w' w7:World} {M M':dU} {L:List (Nat×Obj)} {x xy:jP} {n ny:dG} {k v:Nat} {t:Int}
def Ed.uW(e:Ed dbk pb FD D j S0 N0 w0 w (eY L) Y F M x n B)(h:dM T wa w L)(J:TW dbk pb FD D j w7 (By++(eY L++(B++Y))) F' M')(U:eV (Zo FD (By++(eY L++(B++Y))) F') w7 xy ny By)(f:Fr F w w7)(R:∀b∈F',b∈F\/w.heap.size<=b)(I:∀c∈By,w.heap.size<=c): Ed dbk pb FD D j S0 N0 w0 w7 (eY L) (By++Y) F' M' x n B/\dM (eY L) w7 w7 L/\nc FD F' w7 (eY L) (B++(By++Y)) xy ny By:=by
 have C:∀b∈eY L++(B++(By++Y)),b∈By++(eY L++(B++Y)):=fun b u=>by simp only[zD] at u⊢;rcases u with u|u|u|u<;>simp[u]
 obtain⟨e1,E⟩:=e.next h (J.y0 fun b u=>zI _ u) f R
 refine⟨⟨e1.sg,J.y0 C,e.node.q8 f (fun b u G=>e.tw.yf b (by simp[u]) G) (fun b u=>.inl (ux u)) fun b u=>?_,e1.sep,e1.cE,e1.cR,fun b u G=>?_⟩,E,U.j6 fun b u=>.inl (tp C b u),fun b u G=>?_⟩;simp only[Zo,zD,zG] at u⊢;rcases u with (u|u|u|u|u|u)|u;simp[u];simp[u];simp[u];simp[u];exact .inr (I b u);simp[u];exact (R b u).imp (fun h=>.inr h) id;rcases zD.1 G with E|E
 have:=e.node.lt b u;have:=I b E;omega
 exact e.cK b u E
 have:=vO h b u;have:=I b G;omega
def Ed.less(e:Ed dbk pb FD D j S0 N0 w0 w T Y F M x n B)(C:∀b∈Y1,b∈Y):Ed dbk pb FD D j S0 N0 w0 w T Y1 F M x n B:=by
 have E:∀b∈T++(B++Y1),b∈T++(B++Y):=fun b u=>by simp only[zD] at u⊢;rcases u with u|u|u;simp[u];simp[u];simp[C b u]
 exact⟨e.sg,e.tw.y0 E,e.node.j6 fun b u=>.inl (tp E b u),e.sep,e.cE,e.cR,fun b u h=>e.cK b u (C b h)⟩
def qyA{L':List (Nat×Obj)}(E:TW dbk pb FD D j w (B++(T++Y)) F M)(G:eV (Zo FD (B++(T++Y)) F) w x n B)(I:∀b∈T,b∉B)(h:dM T w w' L'): TW dbk pb FD D j w' (B++Y) F M/\eV (Zo FD (B++Y) F) w' x n B:=by
 have C:∀b∈T++(B++Y),b∈B++(T++Y):=fun b u=>by rw[zD,zD] at u⊢;rcases u with u|u|u<;>simp[u]
 have o:nc FD F w T (B++Y) x n B:=⟨G.j6 fun b u=>.inl (tp C b u),I⟩;exact⟨(TW.J0 (E.y0 C) h).j7,(o.J0 h).node.j6 fun b u=>.inl (wT b u)⟩
set_option maxHeartbeats 2000000 in
def FC{ks:Sl}{key:Key}(aA:eB key)(ao:gN k v):∀(f:Nat) {Y F:List Nat} {w0:World} {M:dU} {p:Int} {K:jP×Int->WP} (hT:TW dbk pb FD D j w0 Y F M) (hp:gy p) (hk:eE (Zo FD Y F) w0 ks key) (R:lW D k v key f M p) (kk:∀yn B' F' w',((gS D k v key f M p).1.2=0->gA (gS D k v key f M p).1.1)->TW dbk pb FD D j w' (B'++Y) F' (gS D k v key f M p).2->eV (Zo FD (B'++Y) F') w' yn (gS D k v key f M p).1.1 B'->Fr F w0 w'->(∀b∈B',w0.heap.size<=b)->(∀b∈F',b∈F\/w0.heap.size<=b)->K (yn,(gS D k v key f M p).1.2) w'), cW 136 [.agg (mR (jt k v pb t)),.u p,ks.v] [.agg dT,.one .i] w0 K
 | 0,_,_,_,_,_,_,_,_,_,R,_=>R.elim
 | f+1,Y,F,w0,M,p,K,hT,hp,hk,R,kk=>by
  refine qmD ?_;have h:=oE [] w0;have g:=Sg.start F w0;refine oB h fun r1 w2 _ _ h=>oB h fun r3 w4 _ _ h=>oC h 1 rfl (jt k v pb t) rfl ?_;rcases U:dF D M k v p with ⟨n,e0⟩;refine AN (k:=k) (v:=v) (hT.cB h) hp fun x B w7 bj aJ f7 bk=>?_;rw[U] at aJ⊢;dsimp only at aJ;obtain⟨e,h⟩:=Ed.load (N0:=[]) (fun _ h=>nomatch h) g h bj aJ f7 bk fun b C=>yC (hT.pX b C) h.fr.size;refine oB h fun r8 w9 _ _ h=>oD h 0 rfl (eF x) fun bV h _=>?_;have aq:∀ {e:Int} {M':dU} {F':List Nat} {w'},gS D k v key (f+1) M p=((ie,e),M')->e≠0->TW dbk pb FD D j w' Y F' M'->Fr F w0 w'->(∀b∈F',b∈F\/w0.heap.size<=b)->K (fl,e) w':=fun he bl bm fr hF=>by
   have:=kk fl [] _ _ (fun h=>by rw[he] at h;exact absurd h bl) (by rw[he];exact bm) (by rw[he];exact .zero _ _) fr (fun _ h=>nomatch h) hF
   rw[he] at this;exact this
  apply dR<;>intro V;have aE:e0≠0:=by rw[zT] at V;exact zR.1 V
  refine oD h 1 rfl (eF fl) fun bY h _=>oC h 1 rfl fl rfl ?_;have e:=e.J0 h;exact aq (qxj U aE) aE e.qb.j7 e.fr e.sg.new;have bn:e0=0:=by rw[yD] at V;exact yO.1 V
  subst bn;have hr:=A6 U;have sn:=qlM hr;obtain⟨l1,l2,l3,l4,l5⟩:=ur hr;have e:=e.J0 h;have h:=lq h (.refl _);have aV:x.1=n.Q4:=e.node.1;refine oA h 0 rfl x.1 rfl ?_;apply dR<;>intro V;rw[aV] at V;obtain⟨l6,l7⟩:=l4 V;refine oC h 0 rfl x rfl<|BX e.y9 (e.cT hk) aA hr.2.2.1 oJ fun b3 bo=>?_;obtain⟨e,h⟩:=e.cA h bo;have b4:=Fg n.J6 key;apply dR<;>intro aa;rw[zT] at aa;have aW:=zB aa;refine oD h 1 rfl (eF fl) fun b5 h _=>oC h 1 rfl fl rfl ?_;have e:=e.J0 h;exact aq (qvC U V aW) oM e.qb.j7 e.fr e.sg.new;rw[yD] at aa;have aX:=zC aa;have aY:=(zP.1 aX).1;have ac:=qxk (f:=f) U V aX;have ew:wrap .i64 ((dI n.J6 key:Int)+1)=((dI n.J6 key+1:Nat):Int):=qG oJ;rw[ac] at kk;have h:=oF h;refine oA h 0 rfl x.2.1 rfl<|oA h 0 rfl x.2.2.1 rfl ?_;have e:=e.J0 h;dsimp only;refine e.Ai h (i:=dI n.J6 key) aY rfl ew oJ fun ak B1 b6 e h _=>ia (h.cell 0 rfl rfl)<|e.Dy h (i:=dI n.J6 key) oN rfl ew oN fun ar B2 b7 e h _=>oD h 0 rfl (eF (x.1,ak,x.2.2.1,x.2.2.2)) fun b8 h _=>oD h 0 rfl (eF (x.1,ak,ar,x.2.2.2)) fun b9 h _=>oC h 0 rfl (x.1,ak,ar,x.2.2.2) rfl<|oD h 1 rfl (eF (x.1,ak,ar,x.2.2.2)) fun bq h _=>oC h 1 rfl (x.1,ak,ar,x.2.2.2) rfl ?_;have e:=e.J0 h;have k1:=Cf aY;have k2:=Cf (l:=n.Q0) (i:=dI n.J6 key) oJ;exact kk (x.1,ak,ar,x.2.2.2) B2 F bq (fun _=>⟨fun _=>by dsimp only;omega,(fun h=>by dsimp only at h;rw[V] at h;cases h),by dsimp only;omega,by dsimp only;omega,by dsimp only;omega⟩) e.tw.j7 (e.node.j6 fun b C=>.inl (wT b C)) e.fr (fun b C=>(e.cE b C).elim (fun h=>nomatch h) id) e.sg.new
  ·rw[aV] at V;have aK:¬n.Q4=true:=(by rw[V];decide);obtain⟨l6,l7,l8⟩:=l5 V;obtain⟨G,ab⟩:=R n U V;refine oC h 0 rfl x rfl<|Bc e.y9 (e.cT hk) aA hr.2.2.1 oJ fun ca bt=>?_;obtain⟨e,h⟩:=e.cA h bt;have bu:=xh n.J6 key;have au:=fun N e1 M1 he=>qvB (key:=key) (f:=f) (N:=N) (e1:=e1) (M1:=M1) U aK he;have aa:=fun N M1 he=>qvA (key:=key) (f:=f) (N:=N) (M1:=M1) U aK he;have aL:=fun N M1 he=>qvz (key:=key) (f:=f) (N:=N) (M1:=M1) U aK he;generalize cc:dZ n.J6 key=c at bu G ab au aa aL⊢;have ad:c<n.J9.length:=oJ;have bv:n.J9.getD c 0=n.J9[c]:=tL ad;rw[bv] at G ab au aa aL;have hu:gy n.J9[c]:=e.node.2.1.2.2 _ (zW ad);rcases al:gS D k v key f M n.J9[c] with ⟨⟨N1,e1⟩,M1⟩;have au:=au N1 e1 M1 al;refine⟨?a,?b⟩;case' a=>
    have h:=oF h;have e:=e.J0 h;refine oC h 2 rfl (jt k v pb t) rfl<|oA h 0 rfl x.2.2.2 rfl<|dW.cP e.y6 c rfl ad fun bz hh=>?_;have hz:=e.fr.size;refine FC aA ao f e.tw hu (e.cT hk) G fun xx Bx F1 bB an ae I aM af aN=>?_;rw[al] at an ae I⊢;dsimp only at an I⊢;obtain⟨e,h,ox⟩:=e.uW h ae I aM aN af;refine oB h fun J bC _ _ h=>mB (hh _ _ (e.J0 h).y6) (h.cell 1 rfl rfl) (h.cells 3 rfl rfl)<|oD h 0 rfl (eF xx) fun bD h _=>?_;have aD:∀b∈Bx,w0.heap.size<=b:=fun b C=>zL hz (af b C);have ox:=ox.J0 h;have e:=e.J0 h;have h:=lq h (.refl _)
   case' b=>
    have h:=oF h;have e:=e.J0 h;have h:=lq h (.refl _);refine oC h 2 rfl (jt k v pb t) rfl<|oA h 0 rfl x.2.2.2 rfl<|dW.cP e.y6 c rfl ad fun bz hh=>oB h fun J bC _ _ h=>?_;have e:=e.J0 h;refine mB (hh _ _ e.y6) (h.cell 1 rfl rfl) (h.cells 3 rfl rfl) ?_;have hz:=e.fr.size;refine FC aA ao f e.tw hu (e.cT hk) G fun xx Bx F1 bB an ae I aM af aN=>?_;rw[al] at an ae I⊢;dsimp only at an I⊢;obtain⟨e,h,ox⟩:=e.uW h ae I aM aN af;refine oD h 0 rfl (eF xx) fun bD h _=>?_;have aD:∀b∈Bx,w0.heap.size<=b:=fun b C=>zL hz (af b C);have ox:=ox.J0 h;have e:=e.J0 h;have h:=lq h (.refl _)
   all_goals
    apply dR<;>intro hq;have aF:e1≠0:=by rw[zT] at hq;exact zR.1 hq
    refine oD h 2 rfl (eF fl) fun cd h _=>oC h 2 rfl fl rfl ?_;have e:=e.J0 h;exact aq (au aF) aF (e.qb.y0 fun b C=>by simp[C]) e.fr e.sg.new;have bE:e1=0:=by rw[yD] at hq;exact yO.1 hq
    subst bE;have sx:=an rfl;refine oC h 3 rfl (AY k v) rfl<|oC h 0 rfl xx rfl ?_;have lx:nz xx N1:=(ox.node.rd (S:=[]) (fun _ _ h=>(nomatch h)) fun _ h=>nomatch h).lens;refine qzE lx fun ah a3=>?_;obtain⟨e,h⟩:=e.cA h a3;have ox:=ox.q7 a3;apply dR<;>intro av;have aj:¬nS N1 k v:=by rw[zT] at av;exact zB av
    have ac:=aa N1 M1 al aj;rw[ac] at kk;have h:=oF h;have e:=e.J0 h;have ox:=ox.J0 h;have h:=lq h (.refl _);refine oA h 1 rfl x.2.2.2 rfl<|oC h 3 rfl (jt k v pb t) rfl<|oA h 1 rfl x.2.2.2 rfl<|dW.get e.y6 c rfl (x:=n.J9[c]) (zA ad) (y:=n.J9[c]) rfl<|oC h 0 rfl xx rfl ?_;have z1:=sx.J6;have z2:=sx.Q0;have z3:=sx.J9;have bF:ef (Zo FD (eY _++(B++Y)) F1) ah.drew xx N1:=ox.node.rd (fun b C E=>by
     have hs:=e.tw.sep b (by simp[C]);rcases zD.1 E with E|E;rcases zD.1 E with E|E;exact hs.1 E;rcases zG.1 E with E|E;exact hs.2 E;rcases zD.1 E with E|E;exact ox.sep b E C;rcases zD.1 E with E|E;exact e.cK b E (by simp[C])
     have:=aD b C;have:=hT.pX b E;omega
     exact e.tw.yf b (by simp[C]) E) fun b C=>.inl (tp (fun b C=>by
     rw[zD,zD] at C⊢;rcases C with C|C|C;exact .inl C;exact .inr (by simp[C]);exact .inr (by simp[C])) b C)
    have e:=e.less (Y1:=Y) fun b C=>zI _ C;refine ud e.tw bF oJ oJ oJ fun F2 cf a5 bG bH=>?_;have aO:gy (dK k v M1 n.J9[c] N1).1.1:=uk e.tw.wf hu;obtain⟨e,h⟩:=e.next h a5 bG bH
    generalize dK k v M1 n.J9[c] N1=st at kk e aO⊢;obtain⟨⟨a1,s1⟩,M2⟩:=st;dsimp only at kk e aO⊢;refine ia (h.cell 1 rfl rfl)<|e.tj h (i:=c) ad rfl aO fun B2 cg e h _=>oC h 1 rfl x rfl<|oD h 2 rfl (eF x) fun bI h _=>oC h 2 rfl x rfl ?_;have e:=e.J0 h;exact kk x B2 F2 bI (fun _=>⟨(fun h=>by dsimp only at h;rw[V] at h;cases h),fun _=>by dsimp only;rw[xF];omega,by dsimp only;omega,by dsimp only;omega,by dsimp only;rw[xF];omega⟩) e.tw.j7 (e.node.j6 fun b C=>.inl (wT b C)) e.fr (fun b C=>(e.cE b C).elim (fun h=>nomatch h) id) e.sg.new;have aj:nS N1 k v:=by rw[yD] at av;exact zC av
    have ac:=aL N1 M1 al aj;have bJ:=ab N1 M1 al aj;rw[ac] at kk;have e:=e.sub (T1:=[J,r8,r3,r1]) fun b C=>C;have ox:nc FD F1 ah [J,r8,r3,r1] (B++(Bx++Y)) xx N1 Bx:=ox;have ai:∀b∈B++(Bx++([J,r8,r3,r1]++Y)),b∈[J,r8,r3,r1]++(B++(Bx++Y)):=fun b C=>by rw[zD,zD,zD] at C⊢;rcases C with C|C|C|C<;>simp[C]
    have bK:∀b∈Bx,b∉Y:=fun b C E=>by have:=aD b C;have:=hT.pX b E;omega
    have a6:iD c+1=c\/c+1=iD c:=(by unfold iD;split<;>omega);have hs:iD c<n.J9.length:=(by unfold iD;split<;>omega);have aG:=fun {K':jP×Int->WP} (bL)=>qxr (t:=t) (pb:=pb) (j:=j) (dbk:=dbk) (Y:=[J,r8,r3,r1]++Y) (K:=K') (e.tw.y0 ai) (e.node.j6 fun b C=>.inl (tp ai b C)) (ox.node.j6 fun b C=>.inl (tp ai b C)) (fun b C E=>e.cK b C (zH _ E)) (fun b C E=>(zD.1 E).elim (fun E=>e.sep b E C) fun E=>e.cK b C (zI _ E)) (fun b C E=>(zD.1 E).elim (fun E=>ox.sep b E C) (bK b C)) sn sx V a6 hs ad bJ ao bL;have a7:=fun h0=>qsq (D:=D) (M:=M1) (k:=k) (v:=v) (nx:=N1) sn V a6 hs ad h0;have hS:∀b∈B++(Bx++F1),b∈F\/w0.heap.size<=b:=fun b C=>by rcases zD.1 C with C|C;exact (e.cE b C).elim (fun h=>nomatch h) .inr;rcases zD.1 C with C|C;exact .inr (aD b C);exact e.sg.new b C
    have bM:∀b∈[J,r8,r3,r1],b<ah.heap.size:=fun b C=>e.tw.pX b (zH _ C);have a8:∀b∈[J,r8,r3,r1],b∉B++(Bx++F1):=fun b C E=>by rcases zD.1 E with E|E;exact e.sep b C E;rcases zD.1 E with E|E;exact ox.sep b C E;exact e.tw.yf b (zH _ C) E
    generalize jw D k v M1 n (iD c) c N1=ev at kk a7 aG;have aw:∀ {z:Int},z=(iD c:Int)->(dJ ir (dd r1) ah fun a9=>dJ dT (dd r8) ah fun a'=>dJ dT (dd J) ah fun ba=>
      cW 170 [fJ ir a9,fJ dT a',Value.int IntKind.i64 z,Value.int IntKind.i64 c,fJ dT ba] [gO.agg dT,gO.one (Cell.int IntKind.i64)] ah fun aH bb=>
      st (dd r3) (HL.mk dT aH.1) bb fun aI=>dJ dT (dd r3) aI fun bc=>K (bc,aH.2) aI):=fun hz=>by
     subst hz;refine oC h 3 rfl (jt k v pb t) rfl<|oC h 1 rfl x rfl<|oC h 0 rfl xx rfl<|aG fun yn B' F' cj bd bf bg nB nF=>?_;have h:=pS h bg a8;refine oD h 2 rfl (eF yn) fun bN h _=>oC h 2 rfl yn rfl ?_;obtain⟨bO,bP⟩:=qyA (T:=[J,r8,r3,r1]) bd bf (fun b C E=>(nB b E).elim (e.sep b C) fun h1=>by have:=bM b C;omega) h;exact kk yn B' F' bN a7 bO bP ((e.fr.j8 bg hS).j8 h.fr e.sg.own) (fun b C=>(nB b C).elim (fun h1=>(e.cE b h1).elim (fun h=>nomatch h) id) fun h1=>zL e.fr.size h1) fun b C=>(nF b C).elim (hS b) fun h1=>.inr (zL e.fr.size h1)
    apply cD<;>intro aP;have ax:0<c:=oJ;refine aw ?_;unfold iD;rw[if_pos ax,gc _ oJ];omega;have ax:¬0<c:=oJ;refine aw ?_;unfold iD;rw[if_neg ax,gc _ oJ];omega
end
end
section
abbrev RtC:=Int×Int×Int
def rD (x:RtC):Array Value:=#[.u x.1,.u x.2.1,.u x.2.2]
abbrev RT:TypeId:=125
section
variable {S:List Nat} {w:World}
def EX{vb:Nat}{T':TypeId}{h:Nat×Nat}{ks:Sl}(C:w.heap[vb]?=some (.cells #[fN ks] T' h))(E:vb∉S)(G:eE S w ks key):i9 S w ⟨pW vb,1,1⟩ [(ks,key)]:=
 ⟨⟨rfl,zM _,.inr ⟨vb,0,_,T',h,rfl,C,E,fun i x u=>by
  cases i with
  | zero=>cases u;rfl
  | succ i=>simp at u⟩⟩,fun p I=>by rw[zE.1 I];exact G⟩
def qzg{vb:Nat}{T':TypeId}{C:Nat×Nat}{a b:Int}(E:w.heap[vb]?=some (.cells #[.u a,.u b] T' C))(G:vb∉S):dW ik 1 S w ⟨pW vb,2,2⟩ [a,b]:=
 ⟨rfl,zM _,.inr ⟨vb,0,_,T',C,rfl,E,G,fun i x h=>by
  match i,h with
  | 0,h=>cases h;rfl
  | 1,h=>cases h;rfl
  | i+2,h=>simp at h⟩⟩
end
section
variable {dbk pb j:Nat} {FD Y F F' T:List Nat} {D:dE} {w0 w w':World} {M M':dU} {L L':List (Nat×Obj)} {k v:Nat} {t:Int}
def CZ{b:Nat}(h:TW dbk pb FD D j w Y F M)(C:w.heap.size<=b):b∉Zo FD Y F:=fun u=>by have:=h.uu b u;omega
set_option maxHeartbeats 1000000 in
def quw{f:Nat}{ks vs:Sl}{val:Key}{K:Int->WP}(aw:eB key)(ax:eB val)(hT:TW dbk pb FD D j w0 Y F M)(hk:eE (Zo FD Y F) w0 ks key)(hv:eE (Zo FD Y F) w0 vs val)(C:(dS M t).1≠0->(gM D k v key val f M (dS M t).1).1.2≠-1)(u:∀F' w',TW dbk pb FD D j w' Y F' (jo D k v t key val f M).2->Fr F w0 w'->(∀b∈F',b∈F\/w0.heap.size<=b)->K (jo D k v t key val f M).1 w'): cW 96 [.agg (mR (jt k v pb t)),ks.v,vs.v] df w0 K:=by
 refine qjn ?_;have g:=Sg.start F w0;have h:=oE [] w0;obtain⟨u1,u2,u3⟩:=C3 hT.wf t;refine oB h fun r1 w2 _ _ h=>oA h 0 rfl (pW pb) rfl<|oA h 0 rfl t rfl<|TW.J5 (hT.q7 h.fr) fun w6 f6=>?_;have h:=h.q7 f6;unfold jo at u;generalize dS M t=J at u C u1 u2 u3⊢;refine oB h fun r7 w8 _ _ h=>oD h 0 rfl (rD J) fun w9 h _=>oA h 0 rfl J.1 rfl ?_;apply dR<;>intro hc;have hc:J.1=0:=yO.1 hc;rw[if_pos hc] at u;refine oC h 1 rfl (jt k v pb t) rfl ?_;have ai:=hT.cB h;have aP:=tz hk h;have aQ:=tz hv h;have g:=g.cA h (.refl [] _);have h:=lq h (.refl _);refine oB h fun ay bm bn az h=>oB h fun aA aR bo aT h=>?_;have bj:=az.size;have ac:=az.trans aT;have ag:=ai.q7 ac;have aU:=CZ ai (b:=ay) oJ;have aV:=CZ ai (b:=aA) oJ;have aj:=EX (h.at (i:=1) rfl) aU (aP.q7 ac);have aW:=EX (h.at (i:=0) rfl) aV (aQ.q7 ac);have hx:ef _ aR (true,⟨pW ay,1,1⟩,⟨pW aA,1,1⟩,dC) (dY [(key,val)]):=⟨rfl,⟨fun a ha=>by rw[zE.1 ha];exact aw,fun a ha=>by rw[zE.1 ha];exact ax,fun _ h=>nomatch h⟩,⟨_,aj,rfl⟩,⟨_,aW,rfl⟩,.nil _ _ _ _⟩;refine ud ag hx (zO rfl) (zO rfl) (zO rfl) fun F1 aY U aB aZ=>?_;have g:=g.next h aB aZ
 have h:=pS (h.sub (.cons _ (.cons _ (.refl _)))) aB fun b hb=>ag.yf b (zH _ hb);have hu:gy (dK k v M 0 (dY [(key,val)])).1.1:=uk hT.wf tI;unfold kb at u;generalize dK k v M 0 (dY [(key,val)])=st at u U hu⊢;obtain⟨⟨q,e⟩,M1⟩:=st;dsimp only at u U hu⊢;apply dR<;>intro I;have C:e≠0:=by rw[zT] at I;exact zR.1 I
 rw[if_pos C] at u;exact u F1 aY U.j7 g.py g.new;have C:¬e≠0:=by rw[yD] at I;exact fun h=>h (yO.1 I)
 rw[if_neg C] at u;exact oA h 1 rfl (pW pb) rfl<|oA h 1 rfl t rfl<|TW.pF U hu ⟨oM,oM⟩ ⟨oM,oM⟩ fun a0 aC a1=>u F1 a0 aC.j7 (g.py.j8 a1 g.new) g.new;have hc:J.1≠0:=zR.1 hc;rw[if_neg hc] at u;refine oC h 1 rfl (jt k v pb t) rfl<|oA h 0 rfl J.1 rfl<|D6 aw ax f (hT.cB h) u1 (tz hk h) (tz hv h) (C hc) fun gs F1 aD hG R al aE a2=>?_;have g:=g.next h aE a2
 have h:=(hT.cB h).own h aE;generalize gM D k v key val f M J.1=pn at u hG R al⊢;obtain⟨⟨G,e1⟩,M1⟩:=pn;dsimp only at hG R al⊢;unfold rj at u;dsimp only at u;refine oB h fun aF bq _ _ h=>oD h 0 rfl (pg (sq G gs)) fun a3 h _=>?_;apply dR<;>intro I;have C:e1≠0:=by rw[zT] at I;exact zR.1 I
 rw[if_pos C] at u;exact u F1 a3 (R.J0 h).j7 (g.fr h) g.new;have C:¬e1≠0:=by rw[yD] at I;exact fun h=>h (yO.1 I)
 rw[if_neg C] at u;refine oA h 0 rfl G.x5 rfl<|oD h 1 rfl (rD (G.x5,J.2.1,J.2.2)) fun bt h _=>?_;have aG:gy (if G.J8 then wrap .u32 (J.2.1+1) else J.2.1):=by split;exact uC _;exact u2
 refine gQ (fun _ w'=>dM [r7,r1] aD w' [(aF,.cells (pg (sq G gs)) GR (0,0)),(r7,.cells (rD (G.x5,(if G.J8 then wrap .u32 (J.2.1+1) else J.2.1),J.2.2)) RT (0,0)),(r1,.cells (mR (jt k v pb t)) WK (0,0))]) ?_ ?_;refine oA h 0 rfl G.J8 rfl ?_;apply dR<;>intro E;rw[if_pos E];refine oA h 1 rfl J.2.1 rfl<|oD h 1 rfl (rD (G.x5,wrap .u32 (J.2.1+1),J.2.2)) fun bu h _=>h;rw[if_neg (by rw[E];decide)];exact h;intro _ a4 h;generalize (if G.J8 then wrap .u32 (J.2.1+1) else J.2.1)=ab at u aG h;refine gQ (fun _ w'=>∃(a c:Int) (F2 T:List Nat) (M2:dU) (wa:World),Sg F w0 wa F2 T/\TW dbk pb FD D j wa (T++Y) F2 M2/\dM T wa w' [(aF,.cells (pg (sq G gs)) GR (0,0)),(r7,.cells (rD (a,ab,c)) RT (0,0)),(r1,.cells (mR (jt k v pb t)) WK (0,0))]/\gy a/\gy c/\
  ∀F' w',TW dbk pb FD D j w' Y F' (eQ M2 t a ab c).2->Fr F w0 w'->(∀b∈F',b∈F\/w0.heap.size<=b)->K (eQ M2 t a ab c).1 w') ?_ ?_
 refine oA h 0 rfl G.x4 rfl ?_;apply dR<;>intro E;have E:G.x4≠0:=by rw[zT] at E;exact zR.1 E
 rw[if_pos E] at u;refine oC h 2 rfl (jt k v pb t) rfl<|oA h 0 rfl gs rfl ?_;have V:=TW.J0 (T:=[r7,r1]) R h;have am:=pu (T:=[r7,r1]) al h;have g:Sg F w0 a4 F1 (eY _):=g.cA h (.refl [] _);have h:=lq h (.refl _);refine oB h fun aH bv bx aI h=>oA h 1 rfl G.x5 rfl<|oA h 1 rfl G.x4 rfl<|oB h fun aJ a5 bz a6 h=>?_;have bk:=aI.size;have aK:=aI.trans a6;have ah:=V.q7 aK;have a7:=CZ V (b:=aH) oJ;have a8:=CZ V (b:=aJ) oJ;have aj:=EX (h.at (i:=1) rfl) a7 (am.q7 aK);have a9:=qzg (h.at (i:=0) rfl) a8;have hx:ef _ a5 (false,⟨pW aH,1,1⟩,dC,⟨pW aJ,2,2⟩) ⟨false,[G.key],[],[G.x5,G.x4]⟩:=⟨rfl,⟨fun a ha=>by rw[zE.1 ha];exact hG.key,fun _ h=>(nomatch h),fun a ha=>by simp only[zG,xW,or_false] at ha;rcases ha with rfl|rfl;exact hG.x5;exact hG.x4⟩,⟨_,aj,rfl⟩,⟨_,.nil _ _,rfl⟩,a9⟩;refine ud ah hx (zO rfl) (zO rfl) (zO rfl) fun F2 aL aa aM a'=>?_;have g:=g.next h aM a'
 have h:=pS (h.sub (.cons _ (.cons _ (.refl _)))) aM fun b hb=>ah.yf b (zH _ hb);have hu:gy (dK k v M1 0 ⟨false,[G.key],[],[G.x5,G.x4]⟩).1.1:=uk V.wf tI;unfold kb at u;generalize dK k v M1 0 ⟨false,[G.key],[],[G.x5,G.x4]⟩=st at u aa hu⊢;obtain⟨⟨q,e⟩,M2⟩:=st;dsimp only at u aa hu⊢;apply dR<;>intro ad;have C:e≠0:=by rw[zT] at ad;exact zR.1 ad
 rw[if_pos C] at u;exact u F2 aL aa.j7 g.py g.new;have C:¬e≠0:=by rw[yD] at ad;exact fun h=>h (yO.1 ad)
 rw[if_neg C] at u;exact oA h 1 rfl J.2.2 rfl<|oD h 1 rfl (rD (q,ab,J.2.2)) fun bA h _=>oD h 1 rfl (rD (q,ab,wrap .u32 (J.2.2+1))) fun bB h _=>⟨q,_,F2,_,M2,aL,⟨g.py,g.new,fun b hb=>g.own b (by simp at hb⊢;rcases hb with h|h|h<;>simp[h])⟩,aa,h,hu,uC _,u⟩;have E:¬G.x4≠0:=by rw[yD] at E;exact fun h=>h (yO.1 E)
 rw[if_neg E] at u;exact⟨G.x5,J.2.2,F1,[r7,r1],M1,aD,g,R,h,hG.x5,u3,u⟩;rintro _ bC ⟨a,c,F2,T,M2,wa,g,ba,h,ha,bb,u⟩;exact oA h 2 rfl (pW pb) rfl<|oA h 2 rfl t rfl<|oC h 1 rfl (a,ab,c) rfl<|TW.pF (ba.J0 h) ha aG bb fun bc aN bd=>u F2 bc aN.j7 ((g.fr h).j8 bd g.new) g.new
end
end
section
section
variable {dbk pb j:Nat} {FD Y F F' T:List Nat} {D:dE} {w0 w w':World} {M M':dU} {L L':List (Nat×Obj)} {k v:Nat} {t:Int}
def nc.rd{x:jP}{n:dG}{B:List Nat}(o:nc FD F w T (B++Y) x n B)(E:TW dbk pb FD D j w (T++(B++Y)) F M)(C:∀b∈B,b∉Y):ef (Zo FD (T++Y) F) w x n:=
 o.node.rd (fun b h u=>by
  have G:=E.sep b (by simp[h]);simp only[Zo,zD,zG] at u;rcases u with (u|u|u|u)|u;exact G.1 u;exact G.2 u;exact o.sep b u h;exact C b h u;exact E.yf b (by simp[h]) u) fun b h=>.inl (tp (fun b h=>by
  rw[zD] at h;simp only[zD];rcases h with h|h;exact .inl h;exact .inr (.inr h)) b h)
def nc.next{R:List Nat}{x:jP}{n:dG}{B:List Nat}(o:nc FD F w T R x n B)(f:Fr F w w')(h:∀b∈B,b∉F)(u:∀b∈F',b∈F\/w.heap.size<=b):nc FD F' w' T R x n B:=⟨o.node.q8 f h (fun b C=>.inl (ux C)) (TW.uq u),o.sep⟩
def qwG{r:Int×Int×Int}{N:dG}:lT k v t r ((N,0),M) = if N.Q4=true/\N.J6.length=0 then (if (e9 M r.1).1≠0 then ((e9 M r.1).1,(e9 M r.1).2) else eQ (e9 M r.1).2 t 0 0 0) else if N.Q4=false/\N.J9.length=1 then (if (e9 M r.1).1≠0 then ((e9 M r.1).1,(e9 M r.1).2) else eQ (e9 M r.1).2 t (N.J9.getD 0 0) (wrap .u32 (r.2.1-1)) (wrap .u32 (r.2.2-1))) else kb t (dK k v M r.1 N) (wrap .u32 (r.2.1-1)) r.2.2:=by unfold lT;rw[if_neg (fun h=>h rfl)]
set_option maxHeartbeats 1000000 in
def quX{f:Nat}{ks:Sl}{K:Int->WP}(aG:eB key)(am:gN k v)(hT:TW dbk pb FD D j w0 Y F M)(hk:eE (Zo FD Y F) w0 ks key)(U:lW D k v key f M (dS M t).1)(E:∀F' w',TW dbk pb FD D j w' Y F' (kD D k v t key f M).2->Fr F w0 w'->(∀b∈F',b∈F\/w0.heap.size<=b)->K (kD D k v t key f M).1 w'): cW 105 [.agg (mR (jt k v pb t)),ks.v] df w0 K:=by
 refine qjo ?_;have g:=Sg.start F w0;have h:=oE [] w0;obtain⟨u1,u2,u3⟩:=C3 hT.wf t;refine oB h fun r1 w2 _ _ h=>oA h 0 rfl (pW pb) rfl<|oA h 0 rfl t rfl<|TW.J5 (hT.q7 h.fr) fun w6 f6=>?_;have h:=h.q7 f6;unfold kD at E;generalize dS M t=G at E U u1 u2 u3⊢;refine oB h fun r7 w8 _ _ h=>oD h 0 rfl (rD G) fun w9 h _=>oC h 1 rfl (jt k v pb t) rfl<|oA h 0 rfl G.1 rfl<|FC aG am f (hT.cB h) u1 (tz hk h) U fun x B F1 aq ah V aa ar ae aI=>?_;have aJ:=vO h;have a4:=h.fr.size;have g:=g.next h ar aI
 have h:=(hT.cB h).own h ar;generalize gS D k v key f M G.1=cn at E ah V aa⊢;obtain⟨⟨N,e1⟩,M1⟩:=cn;dsimp only at ah V aa⊢;have au:TW dbk pb FD D j aq ([r7,r1]++(B++Y)) F1 M1:=V.y0 fun b u=>by rw[zD,zD] at u;simp only[zD];rcases u with u|u|u;exact .inr (.inl u);exact .inl u;exact .inr (.inr u)
 have o:nc FD F1 aq [r7,r1] (B++Y) x N B:=⟨aa.j6 fun b u=>.inl (tp (fun b u=>by rw[zD,zD] at u;simp only[zD];rcases u with u|u|u;exact .inr (.inl u);exact .inl u;exact .inr (.inr u)) b u),fun b u hm=>by have:=aJ b u;have:=ae b hm;omega⟩;have aL:∀b∈B,b∉Y:=fun b u hm=>by have:=hT.pX b hm;have:=ae b u;omega
 have I:∀ {T:List Nat},∀b∈T++Y,b∈T++(B++Y):=fun b u=>by rw[zD] at u;simp only[zD];rcases u with u|u;exact .inl u;exact .inr (.inr u)
 refine oB h fun aM a6 _ _ h=>oD h 0 rfl (eF x) fun aN h _=>?_;apply dR<;>intro J;have ab:e1≠0:=by rw[zT] at J;exact zR.1 J
 have e:lT k v t G ((N,e1),M1)=(e1,M1):=(by unfold lT;rw[if_pos ab]);rw[e] at E;exact E F1 aN ((TW.J0 (T:=[r7,r1]) au h).y0 fun b u=>by simp[u]) (g.fr h) g.new;have aO:e1=0:=(by rw[yD] at J;exact yO.1 J);subst aO;rw[qwG] at E;have ac:x.1=N.Q4:=o.node.1;have av:nz x N:=(o.node.rd (S:=[]) (fun _ _ h=>(nomatch h)) fun _ h=>nomatch h).lens;have ai:gy (wrap .u32 (G.2.1-1)):=uC _;refine oA h 1 rfl G.2.1 rfl<|oD h 1 rfl (rD (G.1,wrap .u32 (G.2.1-1),G.2.2)) fun aw h _=>?_;generalize wrap .u32 (G.2.1-1)=ad at E ai h;have C:=TW.J0 (T:=[r7,r1]) au h;have o:=o.J0 h;have g:Sg F w0 aw F1 (eY _):=g.cA h (.refl [] _);have h:=lq h (.refl _);refine gQ (fun e w'=>∃(a b c:Int) (F2 T:List Nat) (M2:dU) (wa:World),Sg F w0 wa F2 T/\TW dbk pb FD D j wa (T++Y) F2 M2/\dM T wa w' [(aM,.cells (eF x) ND (0,0)),(r7,.cells (rD (a,b,c)) RT (0,0)),(r1,.cells (mR (jt k v pb t)) WK (0,0))]/\gy a/\gy b/\gy c/\
  ∀F' w',TW dbk pb FD D j w' Y F' (if e≠0 then (e,M2) else eQ M2 t a b c).2->Fr F w0 w'->(∀b∈F',b∈F\/w0.heap.size<=b)->K (if e≠0 then (e,M2) else eQ M2 t a b c).1 w') ?_ ?_
 refine gQ (fun d w'=>d=decide (N.Q4=true/\N.J6.length=0)/\w'=aw) ?_ ?_;refine oA h 0 rfl x.1 rfl ?_;apply dR<;>intro J;rw[ac] at J;refine oA h 0 rfl x.2.1 rfl ⟨?_,rfl⟩;rw[av.J6,Bool.eq_iff_iff,yO,yM];exact⟨fun h=>⟨J,oJ⟩,fun h=>by rw[h.2];rfl⟩;rw[ac] at J;exact⟨(zU fun h=>by rw[J] at h;exact absurd h.1 oM).symm,rfl⟩;rintro d aP ⟨rfl,rfl⟩;apply dR<;>intro hd;have hd:=zC hd;rw[if_pos hd] at E;refine oA h 2 rfl (pW pb) rfl<|oA h 1 rfl G.1 rfl<|TW.drop (C.y0 I) fun F2 aQ ax ay aR=>?_;have g:=g.next h ay aR
 have h:=TW.own (C.y0 I) h ay;exact oD h 1 rfl (rD (0,0,0)) fun a7 h _=>⟨0,0,0,F2,_,_,aQ,g,ax,h,tI,tI,tI,E⟩;have hd:=zB hd;rw[if_neg hd] at E;refine gQ (fun d w'=>d=decide (N.Q4=false/\N.J9.length=1)/\w'=aP) ?_ ?_;refine oA h 0 rfl x.1 rfl ?_;apply dR<;>intro J;rw[ac,zT] at J;refine oA h 0 rfl x.2.2.2 rfl ⟨?_,rfl⟩;rw[av.J9,Bool.eq_iff_iff,yO,yM];exact⟨fun h=>⟨J,oJ⟩,fun h=>by rw[h.2];rfl⟩;rw[ac,yD] at J;exact⟨(zU fun h=>by rw[J] at h;exact absurd h.1 oM).symm,rfl⟩;rintro d a8 ⟨rfl,rfl⟩;apply dR<;>intro R;have R:=zC R;rw[if_pos R] at E;have ak:0<N.J9.length:=oJ;rw[tL ak] at E;have aT:gy N.J9[0]:=o.node.2.1.2.2 _ (zW ak);refine oA h 2 rfl (pW pb) rfl<|oA h 1 rfl G.1 rfl<|TW.drop C fun F2 aU az al aA=>?_;have g:=g.next h al aA
 have o:=o.next al (fun b u=>C.yf b (by simp[u])) aA
 have h:=TW.own C h al;have h:=oF h;refine oA h 0 rfl x.2.2.2 rfl ?_;have oR:ef [] _ x N:=(o.J0 h).node.rd (S:=[]) (fun _ _ h=>(nomatch h)) fun _ h=>nomatch h;exact dW.get oR.2.2.2.2 0 rfl (x:=N.J9[0]) (zA ak) (y:=N.J9[0]) rfl<|oA h 1 rfl G.2.2 rfl<|oD h 1 rfl (rD (N.J9[0],ad,G.2.2)) fun a' h _=>oD h 1 rfl (rD (N.J9[0],ad,wrap .u32 (G.2.2-1))) fun ba h _=>⟨_,_,_,F2,_,_,aU,g,az.y0 I,h,aT,ai,uC _,E⟩;have R:=zB R;rw[if_neg R] at E;have sx:=ah rfl;have z1:=sx.J6;have z2:=sx.Q0;have z3:=sx.J9;refine oC h 2 rfl (jt k v pb t) rfl<|oA h 1 rfl G.1 rfl<|oC h 0 rfl x rfl<|ud (C.y0 I) (o.rd C aL) oJ oJ oJ fun F2 aW ag aB aX=>?_;have aC:gy (dK k v M1 G.1 N).1.1:=uk C.wf u1;have g:=g.next h aB aX
 have h:=TW.own (C.y0 I) h aB;unfold kb at E;generalize dK k v M1 G.1 N=st at E ag aC⊢;obtain⟨⟨q,e2⟩,M2⟩:=st;exact oD h 1 rfl (rD (q,ad,G.2.2)) fun bb h _=>⟨q,ad,G.2.2,F2,_,M2,aW,g,ag,h,aC,ai,u3,E⟩;rintro e aY ⟨a,b,c,F2,T,M2,wa,g,aD,h,ua,ub,uc,E⟩;apply dR<;>intro R;have ab:e≠0:=by rw[zT] at R;exact zR.1 R
 rw[if_pos ab] at E;exact E F2 aY (aD.J0 h).j7 (g.fr h) g.new;have ab:¬e≠0:=by rw[yD] at R;exact fun h=>h (yO.1 R)
 rw[if_neg ab] at E;exact oA h 2 rfl (pW pb) rfl<|oA h 2 rfl t rfl<|oC h 1 rfl (a,b,c) rfl<|TW.pF (aD.J0 h) ua ub uc fun aZ aE a0=>E F2 aZ aE.j7 ((g.fr h).j8 a0 g.new) g.new
end
end
end
section
open Go Go.Pt List
open Go.IntKind (wrap)
open Classical
variable {K:Sl×Int->WP} {f:Nat} {key:Key} {ks:Sl}
def qwc{S:Type}{B:(S->WP)->S->WP}(I:Nat->S->WP)(E:∀f s w (X:S->WP),I f s w->(∀u C w',u<f->I u C w'->X C w')->B X s w):∀(f:Nat) {s:S} {w:World},I f s w->loop S B s w:=fun f=>by
 induction f using Nat.strongRecOn with
 | ind f ih=>exact fun {s w} h=>AE fun X G=>E f s w X h fun u C w' J R=>G _ _ (ih u J R)
noncomputable def lB (D:dE) (k v:Nat) (key:Key) (M:dU):Nat->Int->Key×Int
 | 0,p=>if p=0 then ([],5) else ([],-1)
 | f+1,p=>if p=0 then ([],5)
  else if (dF D M k v p).2≠0 then ([],(dF D M k v p).2)
  else if (dF D M k v p).1.Q4 then
   if (dF D M k v p).1.J6[dI (dF D M k v p).1.J6 key]?=some key then ((dF D M k v p).1.Q0.getD (dI (dF D M k v p).1.J6 key) [],0) else ([],5)
  else lB D k v key M f ((dF D M k v p).1.J9.getD (dZ (dF D M k v p).1.J6 key) 0)
section
variable {dbk pb j:Nat} {FD Y F F' T:List Nat} {D:dE} {w0 w w':World} {M M':dU} {k v:Nat} {t:Int}
def qyj(af:eB key)(hs:qS t=((k:Int),(v:Int)))(aw:k≠0)(aZ:key.length=k)(hT:TW dbk pb FD D j w0 Y F M)(hk:eE (Zo FD Y F) w0 ks key)(R:(lB D k v key M f (dS M t).1).2≠-1)(kk:∀s B w',fO w' s (lB D k v key M f (dS M t).1).1 B->(∀b∈B,w0.heap.size<=b)->Fr [] w0 w'->K (s,(lB D k v key M f (dS M t).1).2) w'): cW 47 [dB pb,.i t,ks.v] dh w0 K:=by
 refine qsP ?_;have aQ:=hk.1;refine C1 (k:=k) (v:=v) hs (fun h=>absurd h aw) (fun _ h=>absurd oJ h) fun _ _ w2 f2=>?_;have h:=(oE [] w0).q7 f2;refine oB h fun r3 w4 _ _ h=>oD h 0 rfl (mR (jt k v pb t)) fun w5 h _=>cond_false rfl<|TW.J5 (hT.q7 h.fr) fun w7 f7=>?_;have h:=h.q7 f7;have hu:=(C3 hT.wf t).1;generalize dS M t=rt at kk R hu⊢;generalize ah:lB D k v key M f rt.1=ai at kk R;refine gQ (fun _ w'=>ai=([],5)/\Fr [] w0 w') ?_ ?_
 ·refine qwc (fun f s w'=>lB D k v key M f s=ai/\gy s/\dM [] w0 w' [(r3,.cells (mR (jt k v pb t)) WK (0,0))]) ?_ f ⟨ah,hu,h⟩;rintro f s a4 X ⟨u,az,h⟩ hX;apply dR<;>intro hc
  ·have U:s≠0:=(by rw[zT] at hc;exact zR.1 hc);cases f with
   | zero=>
    unfold lB at u;rw[if_neg U] at u;rw[<- u] at R;exact absurd rfl R
   | succ f=>
   unfold lB at u;rw[if_neg U] at u;refine oC h 0 rfl (jt k v pb t) rfl ?_;rcases ab:dF D M k v s with ⟨n,e0⟩;rw[ab] at u;dsimp only at u;refine AN (k:=k) (v:=v) (hT.q7 h.fr) az fun x B aA aT C aB aU=>?_;rw[ab] at C⊢;dsimp only at C⊢;have J:ef [] aA x n:=C.rd (fun _ _ h=>(nomatch h)) fun _ h=>nomatch h;have h:=h.q7 aB;have aV:=h.fr;refine oB h fun aj aC a6 aD h=>?_;have J:ef [aj] aC x n:=(J.j6 (S':=[aj]) fun b hb=>by rw[zE.1 hb];exact .inr oJ).q7 aD;refine oD h 0 rfl (eF x) fun ak h aF=>?_;have J:=J.q8 aF fun b hb=>.inl hb;apply dR<;>intro E;have al:e0≠0:=by rw[zT] at E;exact zR.1 E
   rw[if_pos al] at u;subst u;exact kk dC [] ak (.nil _ _ _) (fun _ h=>nomatch h) h.fr;have aG:e0=0:=by rw[yD] at E;exact yO.1 E
   subst aG;rw[if_neg (fun h=>h rfl)] at u;have hr:=A6 ab;obtain⟨l1,l2,l3,l4,l5⟩:=ur hr;have am:x.1=n.Q4:=J.1;refine oA h 0 rfl x.1 rfl ?_;apply dR<;>intro G;have I:n.Q4=false:=(by rw[am,zT] at G;exact G);rw[if_neg (by rw[I];decide)] at u;obtain⟨l6,l7,l8⟩:=l5 I;have aW:=xh n.J6 key;have fd:=(Fr.refl [] ak).drew;have h:=oF h;refine oA h 0 rfl x.2.2.2 rfl<|oC h 0 rfl x rfl<|Bc (J.q7 fd) (hk.q7 h.fr) af hr.2.2.1 oJ fun aH an=>?_;have h:=h.q7 an;refine ia (h.cell 0 rfl rfl) ?_;have ac:dZ n.J6 key<n.J9.length:=oJ;refine dW.get ((J.q7 fd).q7 an).2.2.2.2 (dZ n.J6 key) rfl (zA ac) (y:=n.J9[dZ n.J6 key]) rfl ?_;rw[tL ac] at u;exact hX f _ aH (Nat.lt_succ_self f) ⟨u,J.2.1.2.2 _ (zW ac),h.sub (sublist_cons_self _ _)⟩;have I:n.Q4=true:=(by rw[am,yD] at G;exact G);rw[if_pos I] at u;obtain⟨l6,l7⟩:=l4 I;refine oC h 0 rfl x rfl<|BX J (hk.q7 h.fr) af hr.2.2.1 oJ fun ba ao=>?_;have h:=h.q7 ao;apply cD<;>intro ad;have ap:=ad;rw[if_pos ap] at u;have bb:=(zP.1 ap).1;obtain⟨pv,aq,ae⟩:=(J.q7 ao).2.2.2.1;have V:dI n.J6 key<pv.length:=by
    have:=congrArg List.length ae
    rw[zK] at this;omega
   refine oA h 0 rfl x.2.2.1 rfl<|i9.get aq (dI n.J6 key) rfl V ?_;have ar:n.Q0.getD (dI n.J6 key) []=pv[dI n.J6 key].2:=(by rw[<- ae,vV V]);rw[ar] at u;have aI:pv[dI n.J6 key].2.length<=1000000:=by have h1:=hr.2.1 pv[dI n.J6 key].2 (by rw[<- ae];exact zY (zW V));have h2:=qmP (k:=k) (v:=v) oJ;omega
   refine xj (aq.2 _ (zW V)) aI fun s' B' aJ aK aL aM _ _=>?_;subst u;have aN:=h.fr.size;exact kk s' B' aJ aK (fun c hc=>zL aN (aM c hc)) (h.fr.trans aL);have au:=ad;rw[if_neg au] at u;exact⟨u.symm,h.fr⟩
  have U:s=0:=(by rw[yD] at hc;exact yO.1 hc);refine⟨?_,h.fr⟩;rw[<- u];cases f<;>(unfold lB;rw[if_pos U])
 rintro _ aO ⟨rfl,aP⟩;exact kk dC [] aO (.nil _ _ _) (fun _ h=>nomatch h) aP
def qsR(h:eB key)(I:qS t=((k:Int),(v:Int)))(u:k≠0)(C:key.length=k)(J:TW dbk pb FD D j w0 Y F M)(R:eE (Zo FD Y F) w0 ks key)(E:(lB D k v key M f (dS M t).1).2≠-1)(U:∀s w',(∀G:List Nat,(∀b∈G,b<w0.heap.size)->eE G w' s (lB D k v key M f (dS M t).1).1)->Fr [] w0 w'->K (s,(lB D k v key M f (dS M t).1).2) w'): cW 47 [dB pb,.i t,ks.v] dh w0 K:=
 qyj h I u C J R E fun s B w' b n f=>U s w' (fun G V=>b.jq k8 fun c hc hm=>by have:=n c hc;have:=V c hm;omega) f
def qtE{r h:Int}(u:0<=r)(C:0<=h/\h<=1000000)(E:2*h.toNat+1<=r.toNat):decide (r>wrap .i64 (2*wrap .i64 h))=true:=by rw[gc h oJ,gc (2*h) oJ];exact zZ oJ
def qyq{vs:Sl}{val:Key}{K:Int->WP}(U:eB key)(V:eB val)(hs:qS t=((k:Int),(v:Int)))(aa:k≠0)(al:key.length=k)(ab:val.length=v)(hT:TW dbk pb FD D j w0 Y F M)(hk:eE (Zo FD Y F) w0 ks key)(hv:eE (Zo FD Y F) w0 vs val)(ac:0<=(dS M t).2.2/\(dS M t).2.2<=1000000)(ad:2*(dS M t).2.2.toNat+1<=M.Q1.length)(ae:(dS M t).1≠0->(gM D k v key val f M (dS M t).1).1.2≠-1)(kk:∀F' w',TW dbk pb FD D j w' Y F' (jo D k v t key val f M).2->Fr F w0 w'->(∀b∈F',b∈F\/w0.heap.size<=b)->K (jo D k v t key val f M).1 w'): cW 50 [dB pb,.i t,ks.v,vs.v] df w0 K:=by refine qsQ ?_;have ao:=hk.1;have af:=hv.1;have g:=Sg.start F w0;have h:=oE [] w0;refine oB h fun r1 w2 _ _ h=>oB h fun r3 w4 _ _ h=>oA h 1 rfl ks rfl<|C1 (k:=k) (v:=v) hs (fun h=>absurd h aa) (fun _ h=>absurd oJ h) fun _ _ w7 f7=>?_;have h:=h.q7 f7;refine oB h fun r8 w9 _ _ h=>oD h 0 rfl (mR (jt k v pb t)) fun ag h _=>cond_false rfl<|oA h 1 rfl vs rfl<|oA h 0 rfl (v:Int) rfl<|cond_false (by rw[af,ab];simp)<|oC h 0 rfl (jt k v pb t) rfl ?_;have u:=hT.cB h;have E:=tz hk h;have G:=tz hv h;have g:Sg F w0 ag F (eY _):=g.cA h (.refl [] _);have h:=lq h (.refl _);refine qeU<|oB h fun q1 av _ _ h=>?_;have h:=oF h;refine oA h 0 rfl (pW pb) rfl<|oA h 0 rfl (pW pb) rfl<|oA h 0 rfl t rfl<|TW.room (u.J0 h)<|jX (h.cell 0 rfl rfl) (h.cell 0 rfl rfl)<|TW.J5 (u.J0 h) fun aw C=>?_;have I:=(u.J0 h).q7 C;have J:=(pu E h).q7 C;have R:=(pu G h).q7 C;have g:=g.cA h C;have h:=pS h C fun _ _ h=>nomatch h;exact cond_true (qtE oJ ac oJ)<|sA (lb:=[dB r8,dB r1,dB r3]) rfl oK<|qoK<|oC h 1 rfl (jt k v pb t) rfl<|oA h 3 rfl ks rfl<|oA h 2 rfl vs rfl<|quw U V I J R ae fun F' w' ah f' n'=>kk F' w' ah.j7 (g.py.j8 f' g.new) fun b hb=>(n' b hb).elim (g.new b) fun h1=>.inr (zL g.py.size h1)
def qyf{f2:Nat}{K:Int->WP}(J:eB key)(R:gN k v)(hs:qS t=((k:Int),(v:Int)))(U:k≠0)(ac:key.length=k)(hT:TW dbk pb FD D j w0 Y F M)(hk:eE (Zo FD Y F) w0 ks key)(ae:0<=(dS M t).2.2/\(dS M t).2.2<=1000000)(af:2*(dS M t).2.2.toNat+1<=M.Q1.length)(G:(lB D k v key M f2 (dS M t).1).2=0)(I:lW D k v key f M (dS M t).1)(kk:∀F' w',TW dbk pb FD D j w' Y F' (kD D k v t key f M).2->Fr F w0 w'->(∀b∈F',b∈F\/w0.heap.size<=b)->K (kD D k v t key f M).1 w'): cW 61 [dB pb,.i t,ks.v] df w0 K:=by refine qlT ?_;have ak:=hk.1;have g:=Sg.start F w0;have h:=oE [] w0;refine oB h fun r1 w2 _ _ h=>oA h 0 rfl ks rfl<|C1 (k:=k) (v:=v) hs (fun h=>absurd h U) (fun _ h=>absurd oJ h) fun _ _ w7 f7=>?_;have h:=h.q7 f7;refine oB h fun r8 w9 _ _ h=>oD h 0 rfl (mR (jt k v pb t)) fun ao h _=>cond_false rfl<|oA h 1 rfl ks rfl<|qsR (f:=f2) J hs U ac (hT.cB h) (tz hk h) (by rw[G];decide) fun s ap _ C=>?_;rw[G];have u:=(hT.cB h).q7 C;have V:=(tz hk h).q7 C;have g:=g.cA h C;have h:=pS h C fun _ _ h=>nomatch h;refine cond_false rfl<|oC h 0 rfl (jt k v pb t) rfl<|qeU<|oB h fun q1 aq _ _ h=>?_;have h:=oF h;refine oA h 0 rfl (pW pb) rfl<|oA h 0 rfl (pW pb) rfl<|oA h 0 rfl t rfl<|TW.room (u.J0 h)<|jX (h.cell 0 rfl rfl) (h.cell 0 rfl rfl)<|TW.J5 (u.J0 h) fun ar E=>?_;have aa:=(u.J0 h).q7 E;have ab:=(pu V h).q7 E;have g:=g.cA h E;have h:=pS h E fun _ _ h=>nomatch h;exact cond_true (qtE oJ ae oJ)<|sA (lb:=[dB r8,dB r1]) rfl oK<|qoJ<|oC h 1 rfl (jt k v pb t) rfl<|oA h 2 rfl ks rfl<|quX J R aa ab I fun F' w' ag f' n'=>kk F' w' ag.j7 (g.py.j8 f' g.new) fun b hb=>(n' b hb).elim (g.new b) fun h1=>.inr (zL g.py.size h1)
end
end
section
open Go Go.Pt List
open Go.IntKind (wrap)
open Classical
variable {L:fL} {key:Key}
def kX (key:Key) (L:fL):Option Key:=(L.find? fun x=>decide (x.1=key)).map (·.2)
def Gq{A B:fL}:kX key (A++B)=match kX key A with|some v=>some v|none=>kX key B:=by unfold kX;rw[List.find?_append];cases A.find? (fun x=>decide (x.1=key))<;>rfl
def Al(h:∀x∈L,x.1≠key):kX key L=none:=by unfold kX;rw[List.find?_eq_none.2 fun x u=>by simp[h x u]];rfl
def qvR(h:key∈dL L):∃v,kX key L=some v:=by
 unfold kX;obtain⟨x,u,rfl⟩:=mem_map.1 h;cases e:L.find? (fun y=>decide (y.1=x.1)) with
 | none=>exact absurd (List.find?_eq_none.1 e x u) oL
 | some y=>exact⟨y.2,rfl⟩
section
variable {D:dE} {M M':dU} {k v:Nat} {key:Key}
def Has.get:∀ {h:Nat} {s:gU},Has D M k v h s->s.x5≠0->M.Wf->M.Q3=false->lB D k v key M (h+1) s.x5=match kX key s.y3 with|some x=>(x,0)|none=>([],5)
 | 0,s,hs,hp,hW,ho=>by
  obtain⟨h1,h2,h3,h4⟩:=hs;have hl:dF D M k v s.x5=(dY s.y3,0):=h3.load h4;have ac:eU s.y3:=h3.right.2.2.1;have al:(dY s.y3).J6=dL s.y3:=rfl;unfold lB;rw[if_neg hp,hl];dsimp only;rw[if_neg (fun h=>h rfl),if_pos (show (dY s.y3).Q4=true from rfl),al];by_cases hm:(dL s.y3)[dI (dL s.y3) key]?=some key
  ·rw[if_pos hm];have hi:dI (dL s.y3) key<s.y3.length:=by
    have:=(zP.1 hm).1
    simpa using this
   have am:=yj (k:=key) ac;have ad:s.y3=s.y3.take (dI (dL s.y3) key)++s.y3[dI (dL s.y3) key]::s.y3.drop (dI (dL s.y3) key+1):=by rw[getElem_cons_drop,xD]
   have I:s.y3[dI (dL s.y3) key].1=key:=(by rw[zQ,zA hi] at hm;simpa using hm);have hg:kX key s.y3=some s.y3[dI (dL s.y3) key].2:=by
    conv=>lhs;rw[ad]
    rw[Gq,Al fun x u=>wU (am.1 x u)];unfold kX;rw[List.find?_cons_of_pos (by simp[I])];rfl
   rw[hg];show ((List.map (·.2) s.y3).getD _ [],(0:Int))=_;rw[yQ,zQ,zA hi];rfl
  rw[if_neg hm];have hn:key∉dL s.y3:=fun h=>hm ((vv ac).2 h);rw[Al fun x u e=>hn (by rw[<- e];exact zY u)]
 | h+1,⟨p,n,L,P⟩,⟨es,h0,h1,h2,h3,h4,h5,h6,h7⟩,hp,hW,ho=>by
  dsimp only at h1 h2 h3 h5 hp;subst h1 h2 h3;have hl:dF D M k v p=(dH es,0):=h4.load h5;obtain⟨A,e,B,J,hA,I,an,R⟩:=tW (key:=key) h0 h6;have U:(dH es).J9.getD (dZ (dH es).J6 key) 0=e.2.x5:=R;have ao:e∈es:=(by rw[J];simp);obtain⟨V,_⟩:=h7 e ao;have aC:=tG hW (V.J4 ho e.2.x5 V.mem);unfold lB;rw[if_neg hp,hl];dsimp only;rw[if_neg (fun h=>h rfl),if_neg (show ¬(dH es).Q4=true from fun e=>nomatch e),U,V.get oJ hW ho];have G:=h6;rw[J] at G;have C:=G.mid;have E:es.flatMap (·.2.y3)=A.flatMap (·.2.y3)++(e.2.y3++B.flatMap (·.2.y3)):=(by rw[J,pU]);have ap:∀x∈A.flatMap (·.2.y3),x.1≠key:=fun x u=>by obtain⟨a,ha,u⟩:=yJ.1 u;exact wU (qK (C.1 a ha x u) I)
  have aq:∀x∈B.flatMap (·.2.y3),x.1≠key:=fun x u=>by obtain⟨b,hb,u⟩:=yJ.1 u;exact (wU (qK (an b hb) ((C.2 b hb).2.2 x u))).symm
  rw[E,Gq,Al ap,Gq,Al aq];cases kX key e.2.y3<;>rfl
def Has.Q6(hc:gN k v):∀(h:Nat) (M:dU) (s:gU),Has D M k v h s->M.Wf->M.Q3=false->s.y4.Nodup->key∈dL s.y3->2*h<=M.Q1.length->lW D k v key (h+1) M s.x5
 | 0,M,s,hs,hW,ho,ae,J,hf=>fun n hn hl=>by have af:dF D M k v s.x5=(dY s.y3,0):=hs.2.2.1.load hs.2.2.2;rw[af] at hn;cases hn;cases hl
 | h+1,M,⟨p,n,L,P⟩,⟨G,h0,h1,h2,h3,h4,h5,h6,h7⟩,hW,ho,ae,J,hf=>fun n' hn hl=>by
  dsimp only at h1 h2 h3 h5 ae J hn;subst h1 h2 h3;have ax:dF D M k v p=(dH G,0):=h4.load h5;rw[ax] at hn;cases hn;obtain⟨A,e,B,E,hA,ay,az,ag⟩:=tW (key:=key) h0 h6;have ah:(dH G).J9.getD (dZ (dH G).J6 key) 0=e.2.x5:=ag;have aA:dZ (dH G).J6 key=A.length:=hA.symm;have aB:e∈G:=(by rw[E];simp);obtain⟨an,aC⟩:=h7 e aB;have ai:G.flatMap (·.2.y4)=A.flatMap (·.2.y4)++(e.2.y4++B.flatMap (·.2.y4)):=(by rw[E,pU]);have V:G.flatMap (·.2.y3)=A.flatMap (·.2.y3)++(e.2.y3++B.flatMap (·.2.y3)):=(by rw[E,pU]);have aa:(A.flatMap (·.2.y4)++(e.2.y4++B.flatMap (·.2.y4))).Nodup:=(by rw[<- ai];exact (nodup_cons.1 ae).2);have ab:e.2.y4.Nodup:=(yL.1 (yL.1 aa).2.1).1;have ac:=h6;rw[E] at ac;have R:=ac.mid;have U:key∈dL e.2.y3:=by obtain⟨x,C,rfl⟩:=mem_map.1 J;rw[V] at C;rcases zD.1 C with C|C;obtain⟨a,ha,C⟩:=yJ.1 C;exact absurd (qK (R.1 a ha x C) ay) qw;rcases zD.1 C with C|C;exact zY C;obtain⟨b,I,C⟩:=yJ.1 C;exact absurd (qK (az b I) ((R.2 b I).2.2 x C)) qw
  obtain⟨N1,n1,M1,Re,a1,ec,aD,ao,st,a3,a4⟩:=Du hc h M e.2 an hW ho ab U oJ;rw[ah];refine⟨an.Q6 hc h M e.2 hW ho ab U oJ,fun N M2 ad aU ny aj=>?_⟩;rw[ec] at ad;cases ad;have aE:N1.Q4=decide (h=0):=by
   cases h with
   | zero=>rw[ao.1];rfl
   | succ h=>obtain⟨a5,_,h',_⟩:=ao;rw[h'];rfl
  have u:∀b,(b∈A\/b∈B)->(dH G).J9.getD (iD (dZ (dH G).J6 key)) 0=b.2.x5->ny.Q4=N1.Q4:=fun b I aF=>by
   rw[aF] at aj;have aG:b∈G:=by rw[E];rcases I with I|I<;>simp[I]
   obtain⟨ap,_⟩:=h7 b aG;have aq:Has D M1 k v h b.2:=ap.q8 fun x C=>(st.rest x (ap.J4 ho x C) fun hm=>by have ar:x∈e.2.y4:=(by rw[aD];exact zN _ hm);have hd:=yL.1 aa;have aH:=yL.1 hd.2.1;rcases I with I|I;exact hd.2.2 x (yJ.2 ⟨b,I,C⟩) x (zH _ ar) rfl;exact aH.2.2 x ar x (yJ.2 ⟨b,I,C⟩) rfl).1;obtain⟨N2,R2,af,_,_,au,_⟩:=aq.load;rw[af] at aj;cases aj;rw[au,aE]
  have h2:=h4.right.x9.1;rw[aA] at u;have aI:(dH G).J9=G.map (·.2.x5):=rfl;rw[aI] at u;by_cases hA0:A.length>0;have hs:iD A.length=A.length-1:=(by unfold iD;rw[if_pos hA0]);obtain⟨A',b,rfl⟩:∃A' b,A=A'++[b]:=⟨A.dropLast,A.getLast (length_pos_iff.1 hA0),(xZ _).symm⟩;refine u b (.inl oL) ?_;rw[hs,E];simp[yQ];have hs:iD A.length=A.length+1:=(by unfold iD;rw[if_neg hA0]);have aJ:A=[]:=eq_nil_of_length_eq_zero oJ;subst aJ;cases B with
  | nil=>rw[E] at h2;simp at h2
  | cons b B=>
   refine u b (.inr oL) ?_;rw[hs,E];rfl
def fK.get{t:Int}{L:fL}{P:List Int}(C:fK D M k v t L P)(E:M.Wf)(G:M.Q3=false):lB D k v key M (dS M t).2.2.toNat (dS M t).1=match kX key L with|some x=>(x,0)|none=>([],5):=by rcases C with ⟨e0,rfl,rfl⟩|⟨h,n,p,u,I,J⟩;rw[e0];rfl;rw[I];dsimp only;rw[zJ];exact J.get u E G
def fK.Q6(E:gN k v){t:Int}{L:fL}{P:List Int}(G:fK D M k v t L P)(u:key∈dL L)(I:M.Wf)(J:M.Q3=false)(R:P.Nodup)(C:2*(dS M t).2.2.toNat+1<=M.Q1.length):lW D k v key (dS M t).2.2.toNat M (dS M t).1:=by rcases G with ⟨e0,rfl,rfl⟩|⟨h,n,p,U,V,hs⟩;cases u;rw[V] at C⊢;dsimp only at C⊢;rw[zJ] at C⊢;exact hs.Q6 E h M _ I J R u oJ
def qsy{t:Int}{f:Nat}{val:Key}{M':dU}(h:jo D k v t key val f M=(0,M')):(dS M t).1≠0->(gM D k v key val f M (dS M t).1).1.2≠-1:=fun C u=>by unfold jo at h;rw[if_neg C] at h;unfold rj at h;rw[if_pos (by rw[u];decide),u] at h;cases h
end
section
structure Gd (N:dU) (b:Nat) (M:dU):Prop where
 Q3:M.Q3=false
 j9:M.j9=N.j9
 Q5:M.Q5=N.Q5
 Q9:M.Q9=N.Q9
 x6:M.x6=N.x6
 eA:N.j9.2.getD 0 0=(b:Int)/\2<=b
 Q1:∀ x∈M.Q1,x<(b:Int)
 J8:∀ x∈M.J8.map (·.1),x<(b:Int)
section
variable {α β:Type} {N:dU} {b c:Nat}
end
section
variable {N:dU} {b c k v:Nat} {D:dE} {M M':dU}
def fK.cC{D':dE}{t:Int}{L:fL}{P:List Int}(h:fK D M k v t L P)(C:∀x∈P,dD D' M' x=dD D M x)(e:dS M' t=dS M t):fK D' M' k v t L P:=by rcases h with ⟨E,G,I⟩|⟨h,n,p,J,u,R⟩;exact .inl ⟨e.trans E,G,I⟩;exact .inr ⟨h,n,p,J,e.trans u,R.cC C⟩
def fK.low{t:Int}{P:List Int}(h:fK D M k v t L P):(dS M t).2.2.toNat<=L.length/\0<=(dS M t).2.2:=by
 rcases h with ⟨u,G,I⟩|⟨h,n,p,J,C,E⟩;rw[u];exact⟨yW _,Int.le_refl _⟩
 have:=E.counts.1
 rw[C];exact⟨by dsimp only at this⊢;omega,by dsimp only;omega⟩
end
end
section
def kv (t:Int):Nat×Nat:=((qS t).1.toNat,(qS t).2.toNat)
def yw{t:Nat}(u:t<8):qS t=(((kv t).1:Int),((kv t).2:Int))/\gN (kv t).1 (kv t).2/\1<=(kv t).1/\(kv t).1<=24/\1<=(kv t).2/\(kv t).2<=108:=by obtain⟨k,v,e,h⟩:=qzc (t:=t) ⟨oJ,oJ⟩;have:kv t=(k,v):=(by unfold kv;rw[e];rfl);rw[this];exact⟨e,h⟩
abbrev jL:=Nat->fL×List Int
def nT (F:jL) (t:Nat) (x:fL×List Int):jL:=fun u=>if u=t then x else F u
def zq(F:jL)(t:Nat)(x:fL×List Int):nT F t x t=x:=if_pos rfl
def wG{F:jL}{t u:Nat}{x:fL×List Int}(h:u≠t):nT F t x u=F u:=if_neg h
structure xb (D:dE) (M:dU) (F:jL):Prop where
 J2:∀ t:Nat,t<8->fK D M (kv t).1 (kv t).2 t (F t).1 (F t).2
 nodup:∀ t:Nat,t<8->(F t).2.Nodup
 J3:∀ t u:Nat,t<8->u<8->t≠u->∀ x∈(F t).2,x∉(F u).2
 use:∀ x,dP M x->∃ t:Nat,t<8/\x∈(F t).2
section
variable {D D':dE} {M M':dU} {F W:jL} {b q t:Nat}
def fK.J4{k v:Nat}{t:Int}{L:fL}{P:List Int}(u:M.Q3=false)(h:fK D M k v t L P):∀x∈P,dP M x:=by rcases h with ⟨_,_,rfl⟩|⟨h,n,p,_,_,C⟩;exact fun x E=>nomatch E;exact C.J4 u
def xb.next{L':fL}{P':List Int}(h:xb D M F)(ho:M.Q3=false)(U:t<8)(hT:fK D M' (kv t).1 (kv t).2 t L' P')(I:mP D M M' t (F t).2 P'):xb D M' (nT F t (L',P')):=by have J:∀u:Nat,u<8->u≠t->∀x∈(F u).2,dP M x/\x∉(F t).2:=fun u G E x C=>⟨(h.J2 u G).J4 ho x C,h.J3 u t G U E x C⟩;have V:∀u:Nat,u<8->u≠t->∀x∈(F u).2,x∉P':=fun u G E x C=>(I.step.rest x (J u G E x C).1 (J u G E x C).2).2.2;refine⟨fun u G=>?_,fun u G=>?_,fun u z G hz E x C=>?_,fun x C=>?_⟩;by_cases e:u=t;subst e;rw[zq];exact hT;rw[wG e];exact (h.J2 u G).cC (fun x C=>(I.step.rest x (J u G e x C).1 (J u G e x C).2).1) (I.others u oJ);by_cases e:u=t;subst e;rw[zq];exact I.step.nodup;rw[wG e];exact h.nodup u G;by_cases e:u=t;subst e;rw[zq] at C;rw[wG E.symm];exact fun hm=>V z hz E.symm x hm C;rw[wG e] at C;by_cases e2:z=t;subst e2;rw[zq];exact V u G e x C;rw[wG e2];exact h.J3 u z G hz E x C;rcases I.step.use x C with R|⟨R,h2⟩;exact⟨t,U,by rw[zq];exact R⟩;obtain⟨u,G,C⟩:=h.use x R;exact⟨u,G,by rw[wG fun e=>h2 (by rw[<- e];exact C)];exact C⟩
def Calm.next{t:Int}{P P':List Int}(h:Calm D M b q)(u:mP D M M' t P P'):Calm D M' b q:=
 ⟨h.quiet,h.Q7,h.size,by have:=u.step.j9;rw[<- h.blocks,<- this],h.b8,u.wf,u.step.z9 h.Q9,u.step.Q3,u.len,by rw[show M'.j9=M.j9 from u.step.j9];exact h.seq,by rw[show M'.x6=M.x6 from u.step.x6];exact h.x6⟩
def Bb (t:Int) (M:dU):dU:=hU M.j9 M.Q5 M.Q9 t false M.Q9
structure Wo (D:dE) (M:dU) (b q:Nat) (F W:jL):Prop where
 J1:Calm D M b q
 J0:xb D M F
 was:xb D (Bb 0 M) W
 opens:oh D M.j9 M.Q5 M.Q9
 Q8:M.j9.2.length=27
 b4:8<=b/\b<=300
end
end
section
section
variable {D:dE} {M:dU} {k v:Nat} {frm:Key}
abbrev jU:=dG×Int
noncomputable def ip (D:dE) (k v:Nat) (M:dU) (pick:dG->Int):Nat->Int->Option (List jU)
 | 0,p=>none
 | f+1,p=>if (dF D M k v p).2≠0 then none
  else if (dF D M k v p).1.Q4 then some [((dF D M k v p).1,pick (dF D M k v p).1)]
  else (ip D k v M pick f ((dF D M k v p).1.J9.getD (pick (dF D M k v p).1).toNat 0)).map (((dF D M k v p).1,pick (dF D M k v p).1)::·)
def lI (D:dE) (M:dU) (k v:Nat) (frm:Key):Nat->List jU->fL->Prop
 | 0,E,T=>∃(u:fL) (i:Nat),E=[(dY u,(i:Int))]/\i<=u.length/\eU u/\T=u.drop i
 | h+1,E,T=>∃(C:List gC) (i:Nat) (G:List jU) (T1:fL),E=(dH C,(i:Int))::G/\i<C.length/\(∀e∈C.drop (i+1),Has D M k v h e.2/\∀x∈e.2.y3,¬fD x.1 frm)/\lI D M k v frm h G T1/\T=T1++(C.drop (i+1)).flatMap (·.2.y3)
def jE (n:dG) (frm:Key):Int:=if n.Q4 then dI n.J6 frm else dZ n.J6 frm
noncomputable def mq (frm:Key) (L:fL):fL:=L.filter fun x=>decide (¬fD x.1 frm)
def Ee(h:∀x∈L,¬fD x.1 frm):mq frm L=L:=filter_eq_self.2 fun x u=>zZ (h x u)
def qnb(h:∀x∈L,fD x.1 frm):mq frm L=[]:=filter_eq_nil_iff.2 fun x u=>by simpa using h x u
def DJ{A B:fL}:mq frm (A++B)=mq frm A++mq frm B:=xB ..
def qoq{a b:Key}(h:lz b a):¬fD a b:=h
def Et:∀ {h:Nat} {s:gU},Has D M k v h s->∃fs,ip D k v M (fun n=>jE n frm) (h+1) s.x5=some fs/\lI D M k v frm h fs (mq frm s.y3)
 | 0,s,hs=>by
  obtain⟨h1,h2,h3,h4⟩:=hs;have hl:dF D M k v s.x5=(dY s.y3,0):=h3.load h4;have ad:eU s.y3:=h3.right.2.2.1;have ae:=Fg (dL s.y3) frm;rw[zK] at ae;have af:=yj (k:=frm) ad;unfold ip;rw[hl,if_neg (fun h=>h rfl),if_pos (show (dY s.y3).Q4=true from rfl)];refine⟨_,rfl,s.y3,dI (dL s.y3) frm,?_,ae,ad,?_⟩;show [(dY s.y3,jE (dY s.y3) frm)]=_;rw[jE,if_pos (show (dY s.y3).Q4=true from rfl)];rfl
  ·conv=>lhs;rw[<- xD (dI (dL s.y3) frm) s.y3]
   rw[DJ,qnb af.1,xH,Ee fun x G=>qoq (af.2 x G)]
 | h+1,⟨p,n,L,P⟩,⟨u,h0,h1,h2,h3,h4,h5,h6,h7⟩=>by
  dsimp only at h1 h2 h3 h5;subst h1 h2 h3;have hl:dF D M k v p=(dH u,0):=h4.load h5;obtain⟨A,e,B,E,hA,am,ag,R⟩:=tW (key:=frm) h0 h6;have U:(dH u).J9.getD (dZ (dH u).J6 frm) 0=e.2.x5:=R;have V:dZ (dH u).J6 frm=A.length:=hA.symm;have an:e∈u:=(by rw[E];simp);obtain⟨ao,_⟩:=h7 e an;have J:=h6;rw[E] at J;have C:=J.mid;obtain⟨fs,e1,e2⟩:=Et ao;have ah:jE (dH u) frm=(A.length:Int):=by rw[jE,if_neg (show ¬(dH u).Q4=true from fun e=>nomatch e),V]
  unfold ip;rw[hl,if_neg (fun h=>h rfl),if_neg (show ¬(dH u).Q4=true from fun e=>nomatch e)];show ∃fs,Option.map (((dH u),jE (dH u) frm)::·) (ip D k v M (fun n=>jE n frm) (h+1) ((dH u).J9.getD (jE (dH u) frm).toNat 0))=some fs/\_;rw[ah,zJ,<- V,U,e1,V];have I:u.drop (A.length+1)=B:=(by rw[E];simp);refine⟨_,rfl,u,A.length,fs,_,rfl,by rw[E];simp,fun b hb=>?_,e2,?_⟩;rw[I] at hb;exact⟨(h7 b (by rw[E];simp[hb])).1,fun x G g=>(C.2 b hb).2.2 x G (om g (ag b hb))⟩
  ·rw[I];show mq frm (u.flatMap (·.2.y3))=_;conv=>lhs;rw[E]
   rw[yP,yG,DJ,DJ,qnb fun x G=>?_,xH,Ee (L:=B.flatMap _) fun x G=>?_];obtain⟨b,hb,G⟩:=yJ.1 G;exact fun g=>(C.2 b hb).2.2 x G (om g (ag b hb));obtain⟨a,ha,G⟩:=yJ.1 G;exact qK (C.1 a ha x G) am
end
end
section
section
variable {D:dE} {M:dU} {k v:Nat} {frm:Key}
noncomputable def ic (D:dE) (k v:Nat) (M:dU) (pick:dG->Int) (step:Int->Int):Nat->List jU->Option (List jU)
 | 0,_=>none
 | _+1,[]=>none
 | h+1,(n,i)::C=>match ic D k v M pick step h C with
  | some u=>some ((n,i)::u)
  | none=>if 0<=step i/\step i<n.J9.length then (ip D k v M pick (h+1) (n.J9.getD (step i).toNat 0)).map ((n,step i)::·) else none
def jM:Nat->List jU->Prop
 | 0,C=>∃u:fL,C=[(dY u,(u.length:Int))]
 | _+1,[]=>False
 | h+1,_::E=>jM h E
def qtx:∀ {h:Nat} {G:List jU} {T:fL},lI D M k v frm h G T->jM h G->(ic D k v M (fun n=>jE n frm) (fun i=>i+1) h G=none/\T=[])\/∃I,ic D k v M (fun n=>jE n frm) (fun i=>i+1) h G=some I/\lI D M k v frm h I T
 | 0,G,T,⟨U,i,e,hi,hs,J⟩,⟨R,e'⟩=>by rw[e] at e';have e1:=(vA (vB e').1);have e2:dL U=dL R:=congrArg dG.J6 e1.1;have e3:=congrArg List.length e2;rw[zK,zK] at e3;have e4:=Int.ofNat.inj e1.2;exact .inl ⟨rfl,by rw[J];exact vD oJ⟩
 | h+1,G,T,⟨E,i,up,T1,e,hi,V,hu,J⟩,u=>by
  subst e;have u:jM h up:=u;rcases qtx hu u with ⟨h1,rfl⟩|⟨ab,h1,h2⟩;have ac:(dH E).J9.length=E.length:=(by show (E.map (·.2.x5)).length=_;rw[zK]);have ej:((i:Int)+1).toNat=i+1:=oJ;unfold ic;rw[h1];dsimp only;rw[ac,ej];by_cases hlt:i+1<E.length;rw[if_pos ⟨oJ,oJ⟩];have ad:(dH E).J9.getD (i+1) 0=E[i+1].2.x5:=by show (E.map (·.2.x5)).getD _ 0=_;rw[yQ,zQ,zA hlt];rfl
  have C:E.drop (i+1)=E[i+1]::E.drop (i+2):=zX hlt;obtain⟨q1,q2⟩:=V E[i+1] (by rw[C];exact mem_cons_self ..);obtain⟨ae,p1,p2⟩:=Et (frm:=frm) q1;rw[Ee q2] at p2;rw[ad,p1];refine .inr ⟨_,rfl,E,i+1,ae,_,rfl,hlt,fun e he=>V e (by rw[C];exact zN _ he),p2,?_⟩;rw[J,xH,C,yG];rw[iN];exact .inl ⟨rfl,by rw[J,vD oJ];rfl⟩;unfold ic;rw[h1];exact .inr ⟨_,rfl,E,i,ab,T1,rfl,hi,V,h2,J⟩
end
end
section
section
variable {D:dE} {M:dU} {k v:Nat} {to:Key}
def ib (n:dG) (to:Key):Int:=if n.Q4 then (dZ n.J6 to:Int)-1 else dZ n.J6 to
def lP (D:dE) (M:dU) (k v:Nat) (to:Key):Nat->List jU->fL->Prop
 | 0,E,T=>∃(u:fL) (i:Nat),E=[(dY u,(i:Int)-1)]/\i<=u.length/\eU u/\T=(u.take i).reverse
 | h+1,E,T=>∃(C:List gC) (i:Nat) (G:List jU) (T1:fL),E=(dH C,(i:Int))::G/\i<C.length/\(∀e∈C.take i,Has D M k v h e.2/\∀x∈e.2.y3,¬fD to x.1)/\lP D M k v to h G T1/\T=T1++((C.take i).flatMap (·.2.y3)).reverse
noncomputable def tE (to:Key) (L:fL):fL:=L.filter fun x=>decide (¬fD to x.1)
def FM(h:∀x∈L,¬fD to x.1):tE to L=L:=filter_eq_self.2 fun x u=>zZ (h x u)
def qr2(h:∀x∈L,fD to x.1):tE to L=[]:=filter_eq_nil_iff.2 fun x u=>by simpa using h x u
def Fd{A B:fL}:tE to (A++B)=tE to A++tE to B:=xB ..
def qpn{l:fL}{k:Key}(u:eU l):(∀x∈l.take (dZ (dL l) k),lz x.1 k)/\∀x∈l.drop (dZ (dL l) k),fD k x.1:=by refine⟨fun x h=>qnj (l:=dL l) ?_,fun x h=>qlz (l:=dL l) u ?_⟩;rw[<- xO];exact zY h;rw[<- xP];exact zY h
def Dj:∀ {h:Nat} {s:gU},Has D M k v h s->∃fs,ip D k v M (fun n=>ib n to) (h+1) s.x5=some fs/\lP D M k v to h fs (tE to s.y3).reverse
 | 0,s,hs=>by
  obtain⟨h1,h2,h3,h4⟩:=hs;have hl:dF D M k v s.x5=(dY s.y3,0):=h3.load h4;have ae:eU s.y3:=h3.right.2.2.1;have af:=xh (dL s.y3) to;rw[zK] at af;have ag:=qpn (k:=to) ae;unfold ip;rw[hl,if_neg (fun h=>h rfl),if_pos (show (dY s.y3).Q4=true from rfl)];refine⟨_,rfl,s.y3,dZ (dL s.y3) to,?_,af,ae,?_⟩;show [(dY s.y3,ib (dY s.y3) to)]=_;rw[ib,if_pos (show (dY s.y3).Q4=true from rfl)];rfl
  ·congr 1;conv=>lhs;rw[<- xD (dZ (dL s.y3) to) s.y3]
   rw[Fd,qr2 ag.2,xG,FM fun x E=>ag.1 x E]
 | h+1,⟨p,n,L,P⟩,⟨u,h0,h1,h2,h3,h4,h5,h6,h7⟩=>by
  dsimp only at h1 h2 h3 h5;subst h1 h2 h3;have hl:dF D M k v p=(dH u,0):=h4.load h5;obtain⟨A,e,B,C,hA,am,an,U⟩:=tW (key:=to) h0 h6;have V:(dH u).J9.getD (dZ (dH u).J6 to) 0=e.2.x5:=U;have aa:dZ (dH u).J6 to=A.length:=hA.symm;have ao:e∈u:=(by rw[C];simp);obtain⟨ap,_⟩:=h7 e ao;have J:=h6;rw[C] at J;have G:=J.mid;obtain⟨fs,e1,e2⟩:=Dj ap;have ah:ib (dH u) to=(A.length:Int):=by rw[ib,if_neg (show ¬(dH u).Q4=true from fun e=>nomatch e),aa]
  unfold ip;rw[hl,if_neg (fun h=>h rfl),if_neg (show ¬(dH u).Q4=true from fun e=>nomatch e)];show ∃fs,Option.map (((dH u),ib (dH u) to)::·) (ip D k v M (fun n=>ib n to) (h+1) ((dH u).J9.getD (ib (dH u) to).toNat 0))=some fs/\_;rw[ah,zJ,<- aa,V,e1,aa];have I:u.take A.length=A:=(by rw[C];simp);have R:∀a∈A,∀x∈a.2.y3,¬fD to x.1:=fun a ha x E g=>am (om g (G.1 a ha x E));refine⟨_,rfl,u,A.length,fs,_,rfl,by rw[C];simp,fun b hb=>?_,e2,?_⟩;rw[I] at hb;exact⟨(h7 b (by rw[C];simp[hb])).1,R b hb⟩
  ·rw[I];show (tE to (u.flatMap (·.2.y3))).reverse=_;conv=>lhs;rw[C]
   rw[yP,yG,Fd,Fd,qr2 (L:=B.flatMap _) fun x E=>?_,xG,FM (L:=A.flatMap _) fun x E=>?_,reverse_append];obtain⟨a,ha,E⟩:=yJ.1 E;exact R a ha x E;obtain⟨b,hb,E⟩:=yJ.1 E;exact qK (an b hb) ((G.2 b hb).2.2 x E)
end
end
section
section
variable {D:dE} {M:dU} {k v:Nat} {to:Key}
def jO:Nat->List jU->Prop
 | 0,C=>∃u:fL,C=[(dY u,-1)]
 | _+1,[]=>False
 | h+1,_::E=>jO h E
def qpv:∀ {h:Nat} {I:List jU} {T:fL},lP D M k v to h I T->jO h I->(ic D k v M (fun n=>ib n to) (fun i=>i-1) h I=none/\T=[])\/∃J,ic D k v M (fun n=>ib n to) (fun i=>i-1) h I=some J/\lP D M k v to h J T
 | 0,I,T,⟨aj,i,e,hi,hs,R⟩,⟨ag,e'⟩=>by rw[e] at e';have e1:=(vA (vB e').1);have e4:(i:Int)-1=-1:=e1.2;have e5:i=0:=oJ;subst e5;exact .inl ⟨rfl,by rw[R];rfl⟩
 | h+1,I,T,⟨E,i,up,T1,e,hi,U,hu,R⟩,u=>by
  subst e;have u:jO h up:=u;rcases qpv hu u with ⟨V,rfl⟩|⟨aa,V,h2⟩;have ab:(dH E).J9.length=E.length:=(by show (E.map (·.2.x5)).length=_;rw[zK]);unfold ic;rw[V];dsimp only;rw[ab];cases i with
  | zero=>
   rw[iN];exact .inl ⟨rfl,by rw[R];rfl⟩
  | succ i=>
   have ej:(((i+1:Nat):Int)-1).toNat=i:=oJ;have ac:((i+1:Nat):Int)-1=(i:Int):=oJ;have G:i<E.length:=oJ;rw[ej,if_pos ⟨oJ,oJ⟩,ac];have ad:(dH E).J9.getD i 0=E[i].2.x5:=(by show (E.map (·.2.x5)).getD _ 0=_;rw[yQ,zQ,zA G];rfl);have C:E.take (i+1)=E.take i++[E[i]]:=yF G;obtain⟨q1,q2⟩:=U E[i] (by rw[C];exact zI _ (mem_cons_self ..));obtain⟨ae,p1,p2⟩:=Dj (to:=to) q1;rw[FM q2] at p2;rw[ad,p1];refine .inr ⟨_,rfl,E,i,ae,_,rfl,G,fun e he=>U e (by rw[C];exact zH _ he),p2,?_⟩;rw[R,xH,C,yP,reverse_append,yG,flatMap_nil,xG]
  unfold ic;rw[V];exact .inr ⟨_,rfl,E,i,aa,T1,rfl,hi,U,h2,R⟩
end
end
section
section
variable {D:dE} {M:dU} {k v:Nat} {frm to:Key}
def qtG:∀ {h:Nat} {C:List jU} {T:fL},lI D M k v frm h C T->jM h C\/∃(u:fL) (i:Nat) (lo:List jU) (hi:i<u.length) (T':fL),C=lo++[(dY u,(i:Int))]/\T=u[i]::T'/\lI D M k v frm h (lo++[(dY u,(i:Int)+1)]) T'
 | 0,C,T,⟨u,i,e,hi,I,E⟩=>by by_cases hlt:i<u.length;exact .inr ⟨u,i,[],hlt,u.drop (i+1),e,by rw[E,zX hlt],u,i+1,rfl,hlt,I,rfl⟩;have:i=u.length:=oJ;subst this;exact .inl ⟨u,e⟩
 | h+1,C,T,⟨G,i,up,T1,e,hi,J,R,E⟩=>by subst e;rcases qtG R with U|⟨u,j,lo,V,T',e1,e2,e3⟩;exact .inl U;refine .inr ⟨u,j,(dH G,(i:Int))::lo,V,T'++(G.drop (i+1)).flatMap (·.2.y3),by rw[e1];rfl,by rw[E,e2];rfl,G,i,_,T',rfl,hi,J,e3,rfl⟩
def qpX:∀ {h:Nat} {C:List jU} {T:fL},lP D M k v to h C T->jO h C\/∃(u:fL) (i:Nat) (lo:List jU) (hi:i<u.length) (T':fL),C=lo++[(dY u,(i:Int))]/\T=u[i]::T'/\lP D M k v to h (lo++[(dY u,(i:Int)-1)]) T'
 | 0,C,T,⟨u,i,e,hi,J,G⟩=>by
  cases i with
  | zero=>exact .inl ⟨u,e⟩
  | succ i=>
   have E:i<u.length:=oJ;have e0:((i+1:Nat):Int)-1=(i:Int):=oJ;rw[e0] at e;exact .inr ⟨u,i,[],E,(u.take i).reverse,e,by rw[G,yF E,reverse_append];rfl,u,i,rfl,oJ,J,rfl⟩
 | h+1,C,T,⟨I,i,up,T1,e,hi,R,U,G⟩=>by subst e;rcases qpX U with V|⟨u,j,lo,hj,T',e1,e2,e3⟩;exact .inl V;refine .inr ⟨u,j,(dH I,(i:Int))::lo,hj,T'++((I.take i).flatMap (·.2.y3)).reverse,by rw[e1];rfl,by rw[G,e2];rfl,I,i,_,T',rfl,hi,R,e3,rfl⟩
end
end
section
section
variable {D:dE} {M:dU} {k v:Nat} {frm to:Key}
def qq7:∀ {h:Nat} {s:gU} {R:List jU},Has D M k v h s->(∀x∈s.y3,¬fD x.1 frm)->ip D k v M (fun n=>jE n frm) (h+1) s.x5=some R->¬jM h R
 | 0,s,R,hs,u,C=>by have ad:=hs.ne;obtain⟨h1,h2,U,h4⟩:=hs;have hl:dF D M k v s.x5=(dY s.y3,0):=U.load h4;have ai:=yj (k:=frm) U.right.2.2.1;unfold ip at C;rw[hl,if_neg (fun h=>h rfl),if_pos (show (dY s.y3).Q4=true from rfl)] at C;have C:=yN C;rintro⟨G,e⟩;rw[<- C] at e;have e1:=(vA (vB e).1);have e2:dL s.y3=dL G:=congrArg dG.J6 e1.1;have e3:=congrArg List.length e2;rw[zK,zK] at e3;have e4:jE (dY s.y3) frm=(G.length:Int):=e1.2;rw[jE,if_pos (show (dY s.y3).Q4=true from rfl)] at e4;have e5:dI (dL s.y3) frm=G.length:=Int.ofNat.inj e4;obtain⟨x,r,hx⟩:=exists_cons_of_ne_nil ad;refine u x (by rw[hx];exact mem_cons_self ..) (ai.1 x ?_);rw[e5,zS oJ,hx];exact mem_cons_self ..
 | h+1,⟨p,n,L,P⟩,R,⟨E,h0,h1,h2,U,h4,h5,h6,h7⟩,u,C=>by
  dsimp only at h1 h2 U h5 u C;subst h1 h2 U;have hl:dF D M k v p=(dH E,0):=h4.load h5;obtain⟨A,e,B,aj,hA,ay,az,I⟩:=tW (key:=frm) h0 h6;have J:(dH E).J9.getD (dZ (dH E).J6 frm) 0=e.2.x5:=I;have V:dZ (dH E).J6 frm=A.length:=hA.symm;have aa:e∈E:=(by rw[aj];simp);obtain⟨ak,_⟩:=h7 e aa;have ab:jE (dH E) frm=(A.length:Int):=by rw[jE,if_neg (show ¬(dH E).Q4=true from fun e=>nomatch e),V]
  unfold ip at C;rw[hl,if_neg (fun h=>h rfl),if_neg (show ¬(dH E).Q4=true from fun e=>nomatch e)] at C;have C:Option.map (((dH E),jE (dH E) frm)::·) (ip D k v M (fun n=>jE n frm) (h+1) ((dH E).J9.getD (jE (dH E) frm).toNat 0))=some R:=C;rw[ab,zJ,<- V,J] at C;obtain⟨al,e1,rfl⟩:=yS.1 C;show ¬jM h al;exact qq7 ak (fun x hx=>u x (yJ.2 ⟨e,aa,hx⟩)) e1
end
end
section
section
variable {D:dE} {M:dU} {k v:Nat} {frm to:Key}
def qna:∀ {h:Nat} {s:gU} {J:List jU},Has D M k v h s->(∀x∈s.y3,¬fD to x.1)->ip D k v M (fun n=>ib n to) (h+1) s.x5=some J->¬jO h J
 | 0,s,J,hs,u,C=>by
  have ac:=hs.ne;obtain⟨h1,h2,R,h4⟩:=hs;have hl:dF D M k v s.x5=(dY s.y3,0):=R.load h4;have ah:=qpn (k:=to) R.right.2.2.1;unfold ip at C;rw[hl,if_neg (fun h=>h rfl),if_pos (show (dY s.y3).Q4=true from rfl)] at C;have C:=yN C;rintro⟨ao,e⟩;rw[<- C] at e;have e1:=(vA (vB e).1);have e4:ib (dY s.y3) to=-1:=e1.2;rw[ib,if_pos (show (dY s.y3).Q4=true from rfl)] at e4;have e5:dZ (dL s.y3) to=0:=by have e6:((dZ (dL s.y3) to:Nat):Int)-1=-1:=e4;omega
  obtain⟨x,r,hx⟩:=exists_cons_of_ne_nil ac;refine u x (by rw[hx];exact mem_cons_self ..) (ah.2 x ?_);rw[e5,xE,hx];exact mem_cons_self ..
 | h+1,⟨p,n,L,P⟩,J,⟨E,h0,h1,h2,R,h4,h5,h6,h7⟩,u,C=>by
  dsimp only at h1 h2 R h5 u C;subst h1 h2 R;have hl:dF D M k v p=(dH E,0):=h4.load h5;obtain⟨A,e,B,ai,hA,aw,ax,G⟩:=tW (key:=to) h0 h6;have I:(dH E).J9.getD (dZ (dH E).J6 to) 0=e.2.x5:=G;have U:dZ (dH E).J6 to=A.length:=hA.symm;have V:e∈E:=(by rw[ai];simp);obtain⟨aj,_⟩:=h7 e V;have aa:ib (dH E) to=(A.length:Int):=by rw[ib,if_neg (show ¬(dH E).Q4=true from fun e=>nomatch e),U]
  unfold ip at C;rw[hl,if_neg (fun h=>h rfl),if_neg (show ¬(dH E).Q4=true from fun e=>nomatch e)] at C;have C:Option.map (((dH E),ib (dH E) to)::·) (ip D k v M (fun n=>ib n to) (h+1) ((dH E).J9.getD (ib (dH E) to).toNat 0))=some J:=C;rw[aa,zJ,<- U,I] at C;obtain⟨ak,e1,rfl⟩:=yS.1 C;show ¬jO h ak;exact qna aj (fun x hx=>u x (yJ.2 ⟨e,V,hx⟩)) e1
end
end
section
section
variable {D:dE} {M:dU} {k v:Nat} {frm to:Key} {pick:dG->Int} {step:Int->Int}
def qiW:∀ {h:Nat} {R I:List jU} {T:fL},lI D M k v frm h R T->jM h R->ic D k v M (fun n=>jE n frm) (fun i=>i+1) h R=some I->¬jM h I
 | 0,_,_,_,_,_,h=>nomatch h
 | h+1,R,I,T,⟨C,i,up,T1,e,hi,hd,hu,hT⟩,u,E=>by
  subst e;have u:jM h up:=u;unfold ic at E;cases e1:ic D k v M (fun n=>jE n frm) (fun i=>i+1) h up with
  | some U=>
   rw[e1] at E;cases E;show ¬jM h U;exact qiW hu u e1
  | none=>
   rw[e1] at E;dsimp only at E;split at E;rename_i G;have V:(dH C).J9.length=C.length:=(by show (C.map (·.2.x5)).length=_;rw[zK]);have ej:((i:Int)+1).toNat=i+1:=oJ;rw[V] at G;rw[ej] at E;have G:i+1<C.length:=oJ;have aa:(dH C).J9.getD (i+1) 0=C[i+1].2.x5:=by show (C.map (·.2.x5)).getD _ 0=_;rw[yQ,zQ,zA G];rfl
   have J:C.drop (i+1)=C[i+1]::C.drop (i+2):=zX G;obtain⟨q1,q2⟩:=hd C[i+1] (by rw[J];exact mem_cons_self ..);obtain⟨ab,e2,rfl⟩:=yS.1 E;show ¬jM h ab;exact qq7 q1 q2 (by rw[<- aa];exact e2);cases E
def qgw:∀ {h:Nat} {R G:List jU} {T:fL},lP D M k v to h R T->jO h R->ic D k v M (fun n=>ib n to) (fun i=>i-1) h R=some G->¬jO h G
 | 0,_,_,_,_,_,h=>nomatch h
 | h+1,R,G,T,⟨E,i,up,T1,e,hi,hd,hu,hT⟩,u,C=>by
  subst e;have u:jO h up:=u;unfold ic at C;cases e1:ic D k v M (fun n=>ib n to) (fun i=>i-1) h up with
  | some U=>
   rw[e1] at C;cases C;show ¬jO h U;exact qgw hu u e1
  | none=>
   rw[e1] at C;dsimp only at C;split at C;rename_i I;obtain⟨i,rfl⟩:∃j,i=j+1:=⟨i-1,oJ⟩;have ej:(((i+1:Nat):Int)-1).toNat=i:=oJ;rw[ej] at C;have I:i<E.length:=oJ;have V:(dH E).J9.getD i 0=E[i].2.x5:=by show (E.map (·.2.x5)).getD _ 0=_;rw[yQ,zQ,zA I];rfl
   have J:E.take (i+1)=E.take i++[E[i]]:=yF I;obtain⟨q1,q2⟩:=hd E[i] (by rw[J];exact zI _ (mem_cons_self ..));obtain⟨aa,e2,rfl⟩:=yS.1 C;show ¬jO h aa;exact qna q1 q2 (by rw[<- V];exact e2);cases C
def Path (D:dE) (M:dU) (k v:Nat) (step:Int->Int):Nat->List jU->Prop
 | 0,E=>∃(u:fL) (i:Int),E=[(dY u,i)]/\-1<=i/\i<=u.length
 | h+1,E=>∃(C:List gC) (i:Int) (G:List jU),E=(dH C,i)::G/\0<=i/\i<C.length/\(∀j:Nat,step i=j->∀I:j<C.length,Has D M k v h C[j].2)/\Path D M k v step h G
def lI.path:∀ {h:Nat} {u:List jU} {T:fL},lI D M k v frm h u T->Path D M k v (fun i=>i+1) h u
 | 0,u,T,⟨E,i,e,G,hs,I⟩=>⟨E,i,e,oJ,oJ⟩
 | h+1,u,T,⟨J,i,R,T1,e,G,U,V,I⟩=>⟨J,i,R,e,oJ,oJ,fun j C hj=>by have C:(i:Int)+1=j:=C;have C:j=i+1:=oJ;subst C;exact (U _ (by rw[zX hj];exact mem_cons_self ..)).1,V.path⟩
def lP.path:∀ {h:Nat} {u:List jU} {T:fL},lP D M k v to h u T->Path D M k v (fun i=>i-1) h u
 | 0,u,T,⟨E,i,e,G,hs,I⟩=>⟨E,_,e,oJ,oJ⟩
 | h+1,u,T,⟨J,i,R,T1,e,G,U,V,I⟩=>⟨J,i,R,e,oJ,oJ,fun j C hj=>by have C:(i:Int)-1=j:=C;have C:i=j+1:=oJ;subst C;exact (U _ (by rw[yF hj];exact zI _ (mem_cons_self ..))).1,V.path⟩
def Path.len:∀ {h:Nat} {u:List jU},Path D M k v step h u->u.length=h+1
 | 0,_,⟨_,_,e,_⟩=>by rw[e];rfl
 | h+1,_,⟨_,_,E,e,_,_,_,C⟩=>by rw[e,yH,C.len]
def Path.drop:∀ {pre u:List jU} {h:Nat},Path D M k v step (pre.length+h) (pre++u)->Path D M k v step h u
 | [],_,_,h=>by rw[xJ,xR] at h;exact h
 | x::pre,u,n,h=>by have e:(x::pre).length+n=(pre.length+n)+1:=(by rw[yH];omega);rw[e] at h;obtain⟨E,i,G,e1,_,_,_,C⟩:=h;rw[(vB e1).2.symm] at C;exact C.drop
noncomputable def sQ (D:dE) (k v:Nat) (M:dU) (pick:dG->Int) (step:Int->Int) (h:Nat) (x:jU):Option (List jU):=
 if 0<=step x.2/\step x.2<x.1.J9.length then (ip D k v M pick (h+1) (x.1.J9.getD (step x.2).toNat 0)).map ((x.1,step x.2)::·) else none
def quG{h:Nat}{x:jU}{u:List jU}(e:ic D k v M pick step h u=none):ic D k v M pick step (h+1) (x::u)=sQ D k v M pick step h x:=by obtain⟨n,i⟩:=x;unfold ic;rw[e];rfl
def qpu:∀ {pre u r:List jU} {h:Nat},ic D k v M pick step h u=some r->ic D k v M pick step (pre.length+h) (pre++u)=some (pre++r)
 | [],u,r,h,e=>by rw[xJ,xR];exact e
 | (n,i)::pre,u,r,h,e=>by have e1:((n,i)::pre).length+h=(pre.length+h)+1:=(by rw[yH];omega);rw[e1,xI];unfold ic;rw[qpu (pre:=pre) e];rfl
def qxw{h:Nat}{s:gU}(hs:Has D M k v (h+1) s):∃u:List gC,dF D M k v s.x5=(dH u,0)/\∃hj:dZ (dH u).J6 key<u.length,(dH u).J9.getD (dZ (dH u).J6 key) 0=u[dZ (dH u).J6 key].2.x5/\Has D M k v h u[dZ (dH u).J6 key].2:=by obtain⟨p,n,L,P⟩:=s;obtain⟨u,h0,J,R,U,h4,V,h6,h7⟩:=hs;dsimp only at J R U V;subst J R U;refine⟨u,h4.load V,?_⟩;obtain⟨A,e,B,E,hA,ag,ah,G⟩:=tW (key:=key) h0 h6;have I:dZ (dH u).J6 key=A.length:=hA.symm;have C:dZ (dH u).J6 key<u.length:=(by rw[I,E];simp);refine⟨C,?_,(h7 _ (zW C)).1⟩;show (u.map (·.2.x5)).getD _ 0=_;rw[yQ,zQ,zA C];rfl
end
end
end
section
open Go Go.Pt List
open Go.IntKind (wrap)
open Classical
variable {K:Option Addr×Option Addr->WP}
def qwd{w:World}{n:Nat}(Y:List Nat)(I:∀b∈Y,b<w.heap.size)(hY:HG∉Y)(hv:Hv w)(h8:8<=n)(h4:n<=4096)(hk:∀dbk pb FD F D w',TW dbk pb FD D 5000 w' Y F (jN n)->Made D n->Fr [] w w'->(∀b∈FD++F,w.heap.size<=b)->K (pW dbk,pW pb) w'): cW 62 [.i n] du w K:=by
 refine qhe<|qyg (fun h=>oJ) fun _ _ dbk FD w1 d1 V n1=>?_;rw[zJ] at d1;obtain⟨D',e1,q1,s1,ac,o1,z1⟩:=qq6 (quF n) (qwi n) h8 h4;have J:=hv.q7 V;have hg:HG∉FD:=fun hm=>by have:=n1 _ hm;have:=hv.lt;omega
 have ar:(mC n).Q6.length=n:=(by simp[mC]);refine gQ (fun b w'=>b=false/\∃F',DS dbk w1 FD w' F' D' (0+5000)) ?_ ?_;refine cond_false rfl (cond_false rfl ?_);refine qtX d1 (ls.new h4) oM oJ J hg fun w' F' d'=>?_;rw[e1] at d'⊢;exact⟨rfl,F',d'⟩;rintro b w2 ⟨rfl,F2,C⟩;refine cond_false rfl ?_;have E:∀b∈F2,w.heap.size<=b:=fun b u=>by rcases C.nw b u with h|h;exact n1 b h;exact zL V.size h
 have R:=o1.open;have G:=(C.hv J hg).1;have U:w.heap.size<=w2.heap.size:=zL V.size C.fr.size;refine qvh (F2++HG::Y) (fun b u=>?_) C.at_ C.lim.ok G (fun h=>by rw[R] at h;cases h) fun pb F M w3 hM hp f3 n3=>?_;rcases zD.1 u with u|u;exact C.at_.lt b u;rcases zG.1 u with rfl|u;exact G.lt;exact yC (I b u) U;rw[R] at hM;cases hM;refine cond_false rfl<|hk dbk pb F2 F D' w3 ⟨C.at_.q7 f3,C.lim,hp,G.q7 f3,qyV h8 h4,fun b u=>⟨fun hm=>?_,fun e=>hY (e▸u)⟩⟩ ⟨q1,s1,ac,o1,e1,z1⟩ ((V.j8 C.fr fun b u=>.inr (n1 b u)).j8 f3 oL) fun b u=>?_
 have:=E b hm
 have:=I b u
 omega;rcases zD.1 u with u|u;exact E b u;exact zL U (n3 b u)
def zv (x:Key×Key):List Value:=[.string (A8 x.1),.string (A8 x.2)]
def eO.none{α:Type}{enc:α->List Value}{k:Nat}{w:World}{b:Nat}{T:TypeId}(h:w.heap[b]?=some (.cells #[] T (0,0))):eO enc k w ⟨pW b,0,0⟩ [] [b]:=
 .inr ⟨b,0,#[],T,rfl,rfl,rfl,h,rfl,zM _,oL,oL⟩
end
section
open Go Go.Pt List
open Go.IntKind (wrap)
open Classical
end
section
open Go Go.Pt List
open Go.IntKind (wrap)
open Classical
structure HiI (k v c:Nat) (t:Int) (w0 w:World) (s:Sl) (m:Nat) (dbk pb:Nat) (FD:List Nat) (D:dE) (F:List Nat) (M:dU) (P:List Int) (L:fL) (B:List Nat):Prop where
 tw:TW dbk pb FD D 5000 w [] F M
 GB:wo D M k v c t L P
 tv:eO zv 2 w s L B
 len:L.length<=m
 fr:Fr [] w0 w
 new:∀ b∈FD++F,w0.heap.size<=b
 J3:∀ b∈B,b∉F
section
variable {k v c:Nat} {t:Int} {w0 w:World} {s:Sl} {m:Nat} {dbk pb:Nat} {FD F B:List Nat} {D:dE} {M:dU} {P:List Int} {L:fL}
end
end
section
open Go Go.Pt List
open Go.IntKind (wrap)
open Classical
end
section
open Go Go.Pt List
open Go.IntKind (wrap)
open Classical
variable {B S:List Nat} {K:Sl->WP} {L l:List Int} {T:TypeId} {ids:List jc} {m:Nat} {n:Int} {s:Sl} {w:World}
def BG:∀ {k i:Nat} {n:Int},i<k->(bw k n)[i]?=some (n / 256^(k-1-i)%256)
 | k+1,i,n,h=>by rw[bw];by_cases hi:i<k;rw[yY (by rw[kY];exact hi),BG hi,Int.ediv_ediv_of_nonneg oM,show k+1-1-i=(k-1-i)+1 by omega,Int.pow_succ,Int.mul_comm];have:i=k:=oJ;subst this;rw[yX (by rw[kY];exact zM _),kY,Nat.sub_self,show i+1-1-i=0 by omega,Int.pow_zero,Int.ediv_one];rfl
def EF{i:Nat}(h:8*i<=m):wrap .u8 (Int.fdiv n (2^min (8*i) m))=n / 256^i%256:=by rw[yy,xQ h,Int.fdiv_eq_ediv_of_nonneg _ (Int.le_of_lt (Int.pow_pos oM)),Int.pow_mul];rfl
def qmO{j:Nat}{x:Int}:dN (fM l) j [.b x]=fM (l.set j x):=by rw[dN,dN];apply Array.ext';rw[Array.toList_setIfInBounds];show (fM _).toList.set _ _=(fM _).toList;unfold fM;simp only[toList_toArray];rw[<- map_set]
def kG (w w':World) (s:Sl) (l:List Int):Prop:=eE (List.range w.heap.size) w' s l
section
variable {w w1 w2 w':World} {s:Sl} {l:List Int} {S:List Nat}
def kG.q7(h:kG w w' s l)(f:Fr [] w' w2):kG w w2 s l:=dW.q7 h f
def kG.to(h:kG w w' s l)(u:∀b∈S,b<w.heap.size):eE S w' s l:=dW.j6 h fun b C=>.inl (mem_range.2 (u b C))
def kG.up(h:kG w1 w' s l)(f:w.heap.size<=w1.heap.size):kG w w' s l:=h.to fun b u=>yC (mem_range.1 u) f
def kG.rd(h:kG w w' s l):eE [] w' s l:=h.to fun _ h=>nomatch h
def BR{b o n cap:Nat}{u:Nat×Nat}(I:w.heap.size<=b)(C:w'.heap[b]?=some (.cells (fM L) T u))(E:o+n<=L.length)(G:n<=cap)(e:(L.drop o).take n=l):kG w w' ⟨some (dd b o),n,cap⟩ l:=by rw[<- e];exact uG C E G fun h=>by have:=mem_range.1 h;omega
def uK(h:fO w' s l B)(u:∀b∈B,w.heap.size<=b):kG w w' s l:=h.jq k8 fun b C h=>by have:=mem_range.1 h;have:=u b C;omega
def BI{b o n:Nat}{a:Sl}{ys:List Int}(h:eE [] w ⟨some (dd b o),n,n⟩ l)(V:eE [] w a ys)(hy:0<ys.length)(hl:l.length+ys.length<=1000000)(kk:∀s' B w',fO w' s' (l++ys) B->Fr [] w w'->(∀b∈B,w.heap.size<=b)->K s' w'): Pt.run de ((Builtin.append_ #[101,101] 101 #[.slice (some (dd b o)) n n,a.v]).run Tryz.prog w) K:=by
 obtain⟨i,hi,hz,E,G⟩:=uL;have I:=V.1;have C:n=l.length:=h.1;have hc:=h.cells k8 rfl;refine qs0 (m:=a.len) (e:=5) (olds:=l.map (Value.int .u8)) (news:=ys.map (Value.int .u8)) oK hi hz E rfl (by rw[zK,C]) (fun j u hj=>?_) ?_ oJ (by rw[G];omega) oJ fun b' cs c w' eb J f R U ht=>?_;rw[<- qI] at hj;exact hc j u hj
 have:=uv (P:=Tryz.prog) (tx:=101) (e':=5) V k8 (fun x u hu=>by rw[zE.1 hu];rfl) oK
 rw[qI] at this;exact this;refine kk _ [b'] w' (eO.one (e:=Value.int .u8) (fun _=>rfl) J (by rw[zF];omega) R U ?_) f fun b J=>by rw[zE.1 J,eb];exact zM _
 rw[zF,<- C,<- I,ht,xM]
end
def qzp{K:Int×Int->WP}(u:∀w',Fr [] w w'->K (0,n) w'):cW 98 [.int .u64 n] [.agg dc] w K:=by exact qva<|oB (oE [] w) fun r w1 e1 C h=>h.sz 0 rfl #[.int .u64 0,.int .u64 n] fun w2 h _=>oC h 0 rfl (0,n) rfl<|u w2 h.fr
def Fz{a0 C:Int}(R:∀r w',kG w w' ⟨pW r,16,16⟩ (i3 (a0,C))->Fr [] w w'->w'.heap[r]?=some (.cells (fM (i3 (a0,C))) 5 (0,0))->w.heap.size<=r->K ⟨pW r,16,16⟩ w'): cW 97 [c6 a0 C] de w K:=by
 refine qqk<|oB (oE [] w) fun U w1 e1 V h=>dM.mkN h rfl oM oM oM oM fun r w2 e2 h=>?_;have I:w.heap.size<=r:=(by have:=V.size;omega);refine iV (fun x w'=>∃j:Nat,∃l:List Int,x=j/\j<=8/\l.length=16/\dM [] w w' [(r,.cells (fM l) 5 (0,0)),(U,.cells #[.int .u64 a0,.int .u64 C] 39 (0,0))]/\∀i<j,l[i]?=(bw 8 a0)[i]?/\l[8+i]?=(bw 8 C)[i]?) (fun x _=>8-x.toNat) ⟨0,zs 16,rfl,oM,rfl,h,fun i h=>oJ⟩ ?_;rintro x w3 ⟨j,l,rfl,hj,hl,h,E⟩ X hX;apply cD<;>intro G;have u:j<8:=oJ;have e1:wrap .i64 (56-wrap .i64 (8*(j:Int)))=((8*(7-j):Nat):Int):=by rw[gc (8*(j:Int)) oJ,gc _ oJ];omega
 rw[e1,gc (8+(j:Int)) oJ,gc ((j:Int)+1) oJ,zJ];refine oA h 1 rfl a0 rfl (pc oJ (tY oJ oJ ?_));rw[EF (n:=a0) (i:=7-j) (m:=64) oJ];refine h.st' 0 rfl _ qmO rfl (by rw[wW];simp;omega) fun w4 h _=>oA h 1 rfl C rfl (pc oJ (tY oJ oJ ?_));rw[EF (n:=C) (i:=7-j) (m:=64) oJ];refine h.st' 0 rfl _ qmO rfl (by rw[wW];simp;omega) fun w5 h _=>hX _ _ ⟨j+1,_,rfl,u,by simpa using hl,h,fun i ad=>?_⟩ oJ;rw[show (0+(j:Int).toNat*1)=j by omega,show (0+(8+(j:Int)).toNat*1)=8+j by omega];by_cases e:i=j;subst e;rw[BG u,BG u,show 8-1-i=7-i by omega];exact⟨by rw[List.getElem?_set_ne oJ,List.getElem?_set_self oJ],by rw[List.getElem?_set_self (by rw[xF];omega)]⟩
 have:=E i oJ
 exact⟨by rw[List.getElem?_set_ne oJ,List.getElem?_set_ne oJ];exact this.1,by rw[List.getElem?_set_ne oJ,List.getElem?_set_ne oJ];exact this.2⟩;have u:j=8:=oJ;subst u;have e:l=i3 (a0,C):=by
  apply ext_getElem?;intro i;unfold i3;by_cases h8:i<8;rw[yY (by rw[kY];exact h8)];exact (E i h8).1;rw[yX (by rw[kY];omega),kY];by_cases h16:i<16
  have:=(E (i-8) oJ).2
  rwa[show 8+(i-8)=i by omega] at this;rw[yR oJ,yR (by rw[kY];omega)]
 subst e;have J:=h.at (i:=0) rfl;exact R r w3 (BR I J (by rw[m8];decide) oM (by rw[xE];exact zS (by rw[m8];decide))) h.fr J I
def yp{a0 u:Int}(E:∀r w',kG w w' ⟨pW r,16,16⟩ (i3 (a0,u))->Fr [] w w'->K ⟨pW r,16,16⟩ w'): cW 55 [c6 a0 u] de w K:=by exact qv5<|oB (oE [] w) fun J w1 e1 C h=>oC h 0 rfl (a0,u) rfl<|Fz fun r w2 G I _ _=>E r w2 (G.up C.size) (C.trans I)
def Ah(u:∀r w',kG w w' ⟨some (dd r 8),8,8⟩ (bw 8 n)->Fr [] w w'->K ⟨some (dd r 8),8,8⟩ w'): cW 51 [.int .u64 n] de w K:=by refine qri<|qzp fun w1 h=>Fz fun r w2 I C E G=>CB oM oM oM oM<|u r w2 (BR (zL h.size G) E (by rw[m8];decide) oM ?_) (h.trans C);rw[i3,drop_left' (kY _ _)];exact zS (by rw[kY];decide)
def Cd{a0 u:Int}(E:∀s w',kG w w' s (kF (a0,u) n)->Fr [] w w'->K s w'): cW 38 [c6 a0 u,.int .u64 n] de w K:=by refine qsz<|oB (oE [] w) fun r1 w1 e1 f1 h=>oC h 0 rfl (a0,u) rfl<|qoj<|oB h fun r2 w2 e2 f2 h=>oC h 0 rfl (a0,u) rfl<|sA (lb:=[]) rfl oK (yp fun r3 w3 G I=>?_);refine sA (lb:=[]) rfl oK (Ah fun r4 w4 J C=>?_);refine BI (G.q7 C).rd J.rd (by rw[kY];decide) (by rw[kY,m8];decide) fun s B R U V n5=>?_;have f:=h.fr.trans (I.trans C);exact E s R (uK U fun b hb=>zL f.size (n5 b hb)) (f.trans V)
def qsS{m:Int}(u:∀s w',kG w w' s (ky n m)->Fr [] w w'->K s w'): cW 35 [.int .u64 n,.int .u64 m] de w K:=by refine quz<|qoi<|sA (lb:=[]) rfl oK (Ah fun r3 w3 C E=>?_);refine sA (lb:=[]) rfl oK (Ah fun r4 w4 G h=>?_);refine BI (C.q7 h).rd G.rd (by rw[kY];decide) (by rw[kY,kY];decide) fun s B I J R U=>?_;have f:=E.trans h;exact u s I (uK J fun b V=>zL f.size (U b V)) (f.trans R)
def DH{j:Nat}(h:eB l)(u:j<l.length)(I:j<8):bits .or .u64 (wrap .u64 (nV (l.take j)*2^8)) (wrap .u64 l[j])=nV (l.take (j+1)):=by
 have J:=h l[j] (zW u);have R:=C6 (l:=l.take j) fun y C=>h y (yU C);have E:(256:Int)^(l.take j).length<=256^7:=by
  have:((256^(l.take j).length:Nat):Int)<=((256^7:Nat):Int):=by
   have:=Nat.pow_le_pow_right (n:=256) oM (show (l.take j).length<=7 by rw[yK];omega)
   omega
  simpa using this
 have G:(256:Int)^7=72057594037927936:=oM;rw[G] at E;rw[yF u,qqJ,vT l[j] oJ,vT _ oJ];rw[qpA 8 oJ oJ oJ oJ oJ];omega
def qtW{K:Int->WP}(h:eE S w s l)(J:eB l)(V:l.length<=8)(R:K (nV l) w):cW 85 [s.v] dr w K:=by refine qp5 ?_;have G:=h.1;refine iV (fun x w'=>w'=w/\∃i:Nat,x.2=i/\i<=l.length/\x.1=nV (l.take i)) (fun x _=>((l.length:Int)-x.2).toNat) ⟨rfl,0,rfl,oJ,rfl⟩ ?_;rintro⟨r,ii⟩ w' ⟨rfl,i,C,hi,I⟩ X U;simp only at C I;subst C I;apply cD<;>intro E;have u:i<l.length:=oJ;refine eE.at h i rfl (zA u) ?_;rw[gc _ oJ,DH J u oJ];exact U _ _ ⟨rfl,i+1,oL,oJ,rfl⟩ oN;have u:i=l.length:=oJ;subst u;rw[xY];exact R
section
abbrev A0:TypeId:=39
abbrev mr:jc->List Value:=fun x=>[.int .u64 x.1,.int .u64 x.2]
def xu(x:jc):(mr x).length=2:=rfl
def qH{x:Int}(h:IntKind.u64.has x):nu x:=by have u:(0:Int)<=x/\x<=18446744073709551615:=h;exact⟨u.1,oJ⟩
def Fu{b:Sl}{k:Nat}{E:Sl->WP}(h:fO w b l B)(hm:8*k<=m+8)(hl:l.length<=1000)(h8:k<=8)(kk:∀s B' w',fO w' s (l++bw k n) B'->Fr B w w'->(∀b∈B',b∈B\/w.heap.size<=b)->E s w'): loop (Sl×Int) (fun X t w3=>cond (decide (t.2>=0)) (gT (0<=wrap .i64 (8*t.2))<|Pt.new (.cells #[.b (wrap .u8 (Int.fdiv n (2^min (Int.toNat (wrap .i64 (8*t.2))) m)))] 5) w3 fun r w5=>Pt.run de ((Builtin.append_ #[101,101] 101 #[t.1.v,.slice (pW r) 1 1]).run Tryz.prog w5) fun s w7=>X (s,wrap .i64 (t.2-1)) w7) (E t.1 w3)) (b,wrap .i64 (k-1)) w:=by
 refine iV (fun t w'=>∃j:Nat,∃B',t.2=(k:Int)-1-j/\j<=k/\fO w' t.1 (l++(bw k n).take j) B'/\Fr B w w'/\∀b∈B',b∈B\/w.heap.size<=b) (fun t _=>(t.2+1).toNat) ⟨0,B,by dsimp only;rw[gc _ oJ];omega,yW _,by rw[take_zero,xG];exact h,.refl _ _,fun _ h=>.inl h⟩ ?_;rintro⟨s,x⟩ w1 ⟨j,B1,hx,hj,I,J,R⟩ X hX;dsimp only at hx I⊢;subst hx;apply dR<;>intro G;have G:=zC G;have C:j<k:=oJ;have e1:wrap .i64 (8*((k:Int)-1-j))=((8*(k-1-j):Nat):Int):=(by rw[gc _ oJ];omega);rw[e1,zJ,EF oJ,gc _ oJ];obtain⟨i,hi,hz,U,V⟩:=uL;have ad:(l++(bw k n).take j).length<=1008:=(by rw[zF,yK];omega);refine pc oJ (eO.push (e:=5) (x:=n / 256^(k-1-j)%256) I k8 (fun u hu=>by rw[zE.1 hu];rfl) oK hi hz U rfl rfl (by rw[V];omega) oJ fun s2 B2 w2 b2 f2 n2=>?_);refine hX _ _ ⟨j+1,B2,by dsimp only;omega,C,?_,J.j8 f2 R,fun b hb=>(n2 b hb).elim (R b) fun h=>.inr (zL J.size h)⟩ oN
 have:=BG (n:=n) C
 obtain⟨hb,e⟩:=zP.1 this;rw[yF hb,e,<- zV];exact b2;have G:=zB G;have C:j=k:=oJ;subst C;rw[zS (by rw[kY];exact zM _)] at I;exact kk _ B1 _ I J R
section
variable {w:World} {b s:Sl} {l:List Int} {B:List Nat} {n:Int} {K:Sl->WP}
def qy4(h:fO w b l B)(u:l.length<=1000)(C:∀s B' w',fO w' s (l++bw 2 n) B'->Fr B w w'->(∀b∈B',b∈B\/w.heap.size<=b)->K s w'):cW 135 [b.v,.int .u16 n,.i 2] de w K:=
 qow (Fu h (k:=2) oM u oM C)
def qy5(h:fO w b l B)(C:l.length<=1000)(E:∀s B' w',fO w' s (l++bw 4 n) B'->Fr B w w'->(∀b∈B',b∈B\/w.heap.size<=b)->K s w'):cW 133 [b.v,.u n,.i 4] de w K:=
 qox (Fu h (k:=4) oM C oM E)
def qy6(h:fO w b l B)(u:l.length<=1000)(C:∀s B' w',fO w' s (l++bw 8 n) B'->Fr B w w'->(∀b∈B',b∈B\/w.heap.size<=b)->K s w'):cW 134 [b.v,.int .u64 n,.i 8] de w K:=
 qoy (Fu h (k:=8) oM u oM C)
def Cy:∀l:List jc,(l.flatMap i3).length=16*l.length
 | []=>rfl
 | x::l=>by rw[yG,zF,m8,Cy l,yH];omega
def qp0{I:Sl->List Int->WP}{t:Sl}(hI:I b l w)(hf:∀s l w w',I s l w->Fr [] w w'->I s l w')(C:dW mr 2 [] w t ids)(hl:ids.length<=5)(J:∀(i:Nat) s l' w1 (a:Sl) x (K:Sl->WP),i<ids.length->ids[i]?=some x->l'=l++(ids.take i).flatMap i3->I s l' w1->dW mr 2 [] w1 t ids->eE [] w1 a (i3 x)->(∀R w2,I R (l'++i3 x) w2->dW mr 2 [] w2 t ids->K R w2)-> Pt.run de ((Builtin.append_ #[101,101] 101 #[s.v,a.v]).run Tryz.prog w1) K)(kk:∀s w',I s (l++ids.flatMap i3) w'->K s w'):cW 103 [b.v,t.v] de w K:=by refine qnL ?_;have U:=C.1;refine iV (fun q w'=>∃i:Nat,q.2=i/\i<=ids.length/\I q.1 (l++(ids.take i).flatMap i3) w'/\dW mr 2 [] w' t ids) (fun q _=>ids.length-q.2.toNat) ⟨0,rfl,yW _,by rw[take_zero,flatMap_nil,xG];exact hI,C⟩ ?_;rintro⟨s,x⟩ w1 ⟨i,V,hi,G,r1⟩ X hX;dsimp only at V G⊢;subst V;apply dR<;>intro E;have E:=zC E;have u:i<ids.length:=oJ;refine dW.pO (x:=ids[i]) (y:=ids[i]) r1 i rfl (zA u) rfl rfl<|oB (oE [] w1) fun r w2 e2 f2 h=>h.sz 0 rfl #[.int .u64 ids[i].1,.int .u64 ids[i].2] fun w3 h _=>oC h 0 rfl (ids[i].1,ids[i].2) rfl<|Fz fun r4 w4 h4 f4 _ _=>?_;have f:=h.fr.trans f4;refine J i _ _ _ ⟨pW r4,16,16⟩ ids[i] _ u (zA u) rfl (hf _ _ _ _ G f) (r1.q7 f) h4.rd fun s5 w5 h5 r5=>?_;rw[gc _ oJ];refine hX _ _ ⟨i+1,rfl,u,?_,r5⟩ oN;rw[yF u,yP,<- zV,flatMap_singleton];exact h5;have E:=zB E;have u:i=ids.length:=oJ;subst u;rw[xY] at G;exact kk _ _ G
def qx6{t:Sl}(u:dW mr 2 [] w t ids)(V:ids.length<=5)(kk:∀s B' w',fO w' s (ids.flatMap i3) B'->Fr [] w w'->(∀b∈B',w.heap.size<=b)->K s w'): cW 103 [.slice none 0 0,t.v] de w K:=by refine qp0 (b:=dC) (l:=[]) (I:=fun s l w'=>∃B',fO w' s l B'/\Fr [] w w'/\∀b∈B',w.heap.size<=b) ⟨[],eO.nil _ _ _,.refl _ _,fun _ h=>nomatch h⟩ (fun s l w1 w2 ⟨B',J,E,G⟩ f=>⟨B',J.q7 f,E.trans f,G⟩) u V (fun i s l' w1 a x K hi _ R ⟨B1,J,E,G⟩ r1 ha k=>?_) fun s w' ⟨B',b,f,n⟩=>kk s B' w' b f n;have:l'.length<=80:=(by rw[R,xH,Cy,yK];omega);refine wC J ha (by rw[m8];omega) fun s2 B2 w2 b2 f2 n2=>?_;have C:Fr [] w w2:=E.j8 f2 fun b U=>.inr (G b U);exact k s2 w2 ⟨B2,b2,C,fun b U=>(n2 b U).elim (G b) (zL E.size)⟩ (u.q7 C)
end
end
section
abbrev u2:List Cell:=dc
def Bf (w0 w:World) (s:Sl) (l:List Int) (n:Nat):Prop:=l.length=n/\∃B,fO w s l B/\Fr [] w0 w/\∀b∈B,w0.heap.size<=b
section
variable {w0 w w':World} {s b:Sl} {l:List Int} {k:Nat} {n:Int} {K:Sl->WP}
def Bf.fr(h:Bf w0 w s l k):Fr [] w0 w:=h.2.elim fun _ h=>h.2.1
def Bf.len(h:Bf w0 w s l k):s.len=k:=h.1▸h.2.elim fun _ h=>h.1.len
def Bf.down(h:Bf w w' s l k)(f:Fr [] w0 w):Bf w0 w' s l k:=⟨h.1,h.2.elim fun B q=>⟨B,q.1,f.trans q.2.1,fun b u=>zL f.size (q.2.2 b u)⟩⟩
def Bf.new(h:Bf w0 w s l k):kG w0 w s l:=h.2.elim fun _ h=>uK h.1 h.2.2
def Bf.q7(h:Bf w0 w s l k)(f:Fr [] w w'):Bf w0 w' s l k:=h.2.elim fun B q=>⟨h.1,B,q.1.q7 f,q.2.1.trans f,q.2.2⟩
def Bf.of{B':List Nat}{l':List Int}(h:Bf w0 w b l k)(G:fO w b l B)(C:∀x∈B,w0.heap.size<=x)(E:l'.length=m)(b':fO w' s (l++l') B')(f:Fr B w w')(n':∀x∈B',x∈B\/w.heap.size<=x):Bf w0 w' s (l++l') (k+m):=
 ⟨by rw[zF,h.1,E],B',b',h.fr.j8 f fun x u=>.inr (C x u),fun x u=>(n' x u).elim (C x) (zL h.fr.size)⟩
def Bf.t6(h:Bf w0 w b l k)(u:∀s w',Bf w0 w' s (l++bw 2 n) (k+2)->K s w')(C:k<=1000:=by decide):cW 135 [b.v,.int .u16 n,.i 2] de w K:=by obtain⟨B,q,f,E⟩:=h.2;exact qy4 q (by rw[h.1];exact C) fun s B' w' b' G n'=>u s w' (h.of q E (kY _ _) b' G n')
def Bf.wl(h:Bf w0 w b l k)(C:∀s w',Bf w0 w' s (l++bw 4 n) (k+4)->K s w')(E:k<=1000:=by decide):cW 133 [b.v,.u n,.i 4] de w K:=by obtain⟨B,q,f,G⟩:=h.2;exact qy5 q (by rw[h.1];exact E) fun s B' w' b' I n'=>C s w' (h.of q G (kY _ _) b' I n')
def Bf.sP(h:Bf w0 w b l k)(u:∀s w',Bf w0 w' s (l++bw 8 n) (k+8)->K s w')(C:k<=1000:=by decide):cW 134 [b.v,.int .u64 n,.i 8] de w K:=by obtain⟨B,q,f,E⟩:=h.2;exact qy6 q (by rw[h.1];exact C) fun s B' w' b' G n'=>u s w' (h.of q E (kY _ _) b' G n')
def Ev{r:Nat}(u:w.heap[r]?=some (.cells (ids.flatMap mr).toArray T (0,0)))(C:ids.length=m)(E:m<=5)(G:∀s w',Bf w w' s (ids.flatMap i3) (16*m)->K s w'): cW 103 [.slice none 0 0,.slice (pW r) m m] de w K:=by subst C;have I:dW mr 2 [] w ⟨pW r,ids.length,ids.length⟩ ids:=eO.jq xu (eO.fresh xu u rfl (zM _) (by rw[size_toArray,qi xu];exact zM _) (zS (by rw[qi xu];exact zM _))) fun _ _ h=>nomatch h;exact qx6 I E fun s B w' b f n=>G s w' ⟨Cy _,B,b,f,n⟩
def dW.max{α:Type}{enc:α->List Value}{k n:Nat}{w:World}{s:Sl}{l:List α}{hi:Int}{K:Sl->Prop}(h:dW enc k S w s l)(R:hi=n)(J:n<=l.length)(h0:0<n)(U:∀C,C.len=n->dW enc k S w C (l.take n)->K C):fB s none (some hi) (some hi) k K:=by obtain⟨h1,h2,E⟩:=h;subst R;unfold fB;refine⟨by simp;omega,U _ oL ⟨by simp;omega,oL,.inr ?_⟩⟩;rcases E with E|⟨V,o,cs,T,fr,ha,G,I,hc⟩;rw[E] at J;simp at J;omega;refine⟨V,o,cs,T,fr,?_,G,I,fun i x u=>?_⟩;simp only[xV,xU,zJ];rw[if_neg oO,ha];simp[Addr.q9];rw[xA] at u;split at u;exact hc i x u;cases u
end
abbrev mX (x:jc):Prop:=IntKind.u64.has x.1/\IntKind.u64.has x.2
def mX.ok{x:jc}(h:mX x):wg x:=⟨qH h.1,qH h.2⟩
def mA (a:HL ku):jc:=(a.1,a.2.1)
def qc:HL ku->List Int:=fun (_,_,h,u,C,E,G,I,J,R,t,l,k,f,n)=>i3 (h,u)++(i3 (C,E)++(i3 (G,I)++(i3 (J,R)++(bw 8 t++(bw 4 l++(bw 2 k++(bw 2 f++bw 8 n)))))))
def qO (a:HL ku):List Int:=i3 (mA a)++qc a
def qqH(a:HL ku):(qc a).length=88:=by obtain⟨h,u,C,E,G,I,J,R,U,V,t,l,k,f,n⟩:=a;simp only[qc,zF,m8,kY]
def qw9(a:HL ku):(qO a).length=104:=by rw[qO,zF,m8,qqH]
def qvk{a:HL ku}(kk:∀s w',Bf w w' s (qO a) 104->K s w'): cW 99 [.agg (HL.mk ku a).toArray] de w K:=by
 obtain⟨u,C,E,G,I,J,R,U,V,d1,t,l,k,f,n⟩:=a;refine qiz<|oB (oE [] w) fun r1 w1 e1 f1 h=>oC h 0 rfl (u,C) rfl (oC h 0 rfl (E,G) rfl (oC h 0 rfl (I,J) rfl (oC h 0 rfl (R,U) rfl (oC h 0 rfl (V,d1) rfl ?_))));refine oB h fun r8 w2 e2 f2 h=>Ev (ids:=[(u,C),(E,G),(I,J),(R,U),(V,d1)]) (h.at (i:=0) rfl) rfl oM fun s3 w3 q=>?_;have h3:=(h.q7 q.fr).drew;refine oA h3 1 rfl t rfl (oA h3 1 rfl l rfl ?_);refine (q.q7 (Fr.refl [] w3).drew).sP fun s4 w4 q=>ia ((h.q7 q.fr).cell 1 rfl rfl) (q.wl fun s5 w5 q=>?_);have h5:=(h.q7 q.fr).drew;refine oA h5 1 rfl k rfl (oA h5 1 rfl f rfl (oA h5 1 rfl n rfl ?_));refine (q.q7 (Fr.refl [] w5).drew).t6 fun s6 w6 q=>jX ((h.q7 q.fr).cell 1 rfl rfl) ((h.q7 q.fr).cell 1 rfl rfl) (q.t6 fun s7 w7 q=>?_);refine ia ((h.q7 q.fr).cell 1 rfl rfl) (q.sP fun s8 w8 q=>?_);have e:[(u,C),(E,G),(I,J),(R,U),(V,d1)].flatMap i3++bw 8 t++bw 4 l++bw 2 k++bw 2 f++bw 8 n=qO (u,C,E,G,I,J,R,U,V,d1,t,l,k,f,n):=by simp only[yG,flatMap_nil,qO,mA,qc,zV,xG,xH]
 rw[e] at q;exact kk s8 w8 (q.down (f1.trans f2))
def qtS{a:HL ku}{K:Sl×Sl->WP}(G:∀s t w',kG w w' s (i3 (mA a))->kG w w' t (qc a)->Fr [] w w'->K (s,t) w'): cW 52 [.agg (HL.mk ku a).toArray] dk w K:=by refine qhI<|oB (oE [] w) fun U w1 e1 u h=>oC h 0 rfl a rfl<|qvk fun s w2 q=>?_;have V:=qw9 a;have I:=q.len;refine dW.max (n:=16) q.new rfl oJ oM fun J _ C=>dW.part q.new 16 104 rfl (by rw[xV,I]) oM oJ fun R _ E _=>?_;rw[qO,take_left' (m8 _)] at C;rw[zS oJ,qO,drop_left' (m8 _)] at E;exact G J R _ (kG.up C u.size) (kG.up E u.size) ((u.trans q.fr).drew)
end
def qAk{r:Nat}{t:Sl}{m:List Int}(E:w.heap[r]?=some (.cells #[s.v,t.v] T (0,0)))(G:eE [] w s l)(I:eE [] w t m)(U:l.length+m.length<=1000)(J:∀u w',eE [] w' u (l++m)->Fr [] w w'->K u w'):cW 88 [.slice (pW r) 2 2] de w K:=by have R:i9 [] w ⟨pW r,2,2⟩ [(s,l),(t,m)]:=⟨eO.jq vh (eO.fresh vh E rfl (zM _) (zM _) rfl) (fun _ _ h=>nomatch h),fun p C=>by rcases zG.1 C with rfl|C;exact G;rw[zE.1 C];exact I⟩;have e:(fV [(s,l),(t,m)]).flatten=l++m:=(by simp[fV]);refine qoO (s:=⟨pW r,2,2⟩) R (zO rfl) (by rw[e,zF];omega) fun u B w' b f n=>J u w' ?_ f;rw[e] at b;exact b.jq k8 fun _ _ h=>nomatch h
def pQ (t:HL oq):jc:=(t.1,t.2.1)
def oW:HL oq->List Int:=fun (_,_,h,u,C,E,G,I,J,R,t,o,l,k,f,n)=>i3 (h,u)++(i3 (C,E)++(i3 (G,I)++(i3 (J,R)++(bw 8 t++(bw 4 o++(bw 4 l++(bw 2 k++(bw 2 f++bw 8 n))))))))
def pM (a:HL oq):List Int:=i3 (pQ a)++oW a
def CS(a:HL oq):(oW a).length=92:=by obtain⟨h,u,C,E,G,I,J,R,U,V,t,o,l,k,f,n⟩:=a;simp only[oW,zF,m8,kY]
def qx2(a:HL oq):(pM a).length=108:=by rw[pM,zF,m8,CS]
def qvm{a:HL oq}(kk:∀s w',Bf w w' s (pM a) 108->K s w'): cW 102 [.agg (HL.mk oq a).toArray] de w K:=by
 obtain⟨u,C,E,G,I,J,R,U,V,d1,t,o,l,k,f,n⟩:=a;refine qhJ<|oB (oE [] w) fun r1 w1 e1 f1 h=>oC h 0 rfl (u,C) rfl (oC h 0 rfl (E,G) rfl (oC h 0 rfl (I,J) rfl (oC h 0 rfl (R,U) rfl (oC h 0 rfl (V,d1) rfl ?_))));refine oB h fun r8 w2 e2 f2 h=>Ev (ids:=[(u,C),(E,G),(I,J),(R,U),(V,d1)]) (h.at (i:=0) rfl) rfl oM fun s3 w3 q=>?_;have h3:=(h.q7 q.fr).drew;refine oA h3 1 rfl t rfl (oA h3 1 rfl o rfl (oA h3 1 rfl l rfl ?_));refine (q.q7 (Fr.refl [] w3).drew).sP fun s4 w4 q=>jX ((h.q7 q.fr).cell 1 rfl rfl) ((h.q7 q.fr).cell 1 rfl rfl) (q.wl fun s5 w5 q=>?_);refine ia ((h.q7 q.fr).cell 1 rfl rfl) (q.wl fun s5 w5 q=>?_);have h5:=(h.q7 q.fr).drew;refine oA h5 1 rfl k rfl (oA h5 1 rfl f rfl (oA h5 1 rfl n rfl ?_));refine (q.q7 (Fr.refl [] w5).drew).t6 fun s6 w6 q=>jX ((h.q7 q.fr).cell 1 rfl rfl) ((h.q7 q.fr).cell 1 rfl rfl) (q.t6 fun s7 w7 q=>?_);refine ia ((h.q7 q.fr).cell 1 rfl rfl) (q.sP fun s8 w8 q=>?_);have e:[(u,C),(E,G),(I,J),(R,U),(V,d1)].flatMap i3++bw 8 t++bw 4 o++bw 4 l++bw 2 k++bw 2 f++bw 8 n=pM (u,C,E,G,I,J,R,U,V,d1,t,o,l,k,f,n):=by simp only[yG,flatMap_nil,pM,pQ,oW,zV,xG,xH]
 rw[e] at q;exact kk s8 w8 (q.down (f1.trans f2))
def dW.uw{b n c o cap:Nat}(h:eE S w ⟨pW b,n,c⟩ L)(E:o+m<=L.length)(G:m<=cap)(h0:0<m):eE S w ⟨some (dd b o),m,cap⟩ ((L.drop o).take m):=by
 obtain⟨h1,h2,C⟩:=h;refine⟨by simp;omega,G,.inr ?_⟩;rcases C with C|⟨bl,o',I,T,J,R,U,V,hx⟩;subst C;simp at E;omega;cases R;refine⟨b,o,I,T,J,rfl,U,V,fun i x u=>?_⟩;rw[xA] at u;split at u;rw[yZ] at u
 have:=hx (o+i) x u
 rw[<- this];congr 2;omega;cases u
def qyt{w0:World}{C n c o:Nat}{cs:Array Value}{ys:List Int}{a:Sl}(R:w.heap[C]?=some (.cells cs T (0,0)))(h0:w0.heap.size<=C)(hn:n=l.length)(hc:n<=c)(U:c<=cs.size)(hl:cs.toList.take l.length=l.map (Value.int .u8))(f0:Fr [] w0 w)(ho:0<o/\o<n)(hr:eE [] w a ys)(hy:l.length+ys.length<=1000)(kk:∀s' w',kG w0 w' s' (l.drop o++ys)->kG w0 w' ⟨pW C,o,o⟩ (l.take o)->Fr [C] w w'->K s' w'): Pt.run de ((Builtin.append_ #[101,101] 101 #[.slice (some (dd C o)) (n-o) (c-o),a.v]).run Tryz.prog w) K:=by
 obtain⟨i,hi,hz,G,ae⟩:=uL;subst hn;have af:=hr.1;have V:fO w ⟨pW C,l.length,c⟩ l [C]:=eO.one (e:=Value.int .u8) (fun _=>rfl) R rfl hc U hl;have hR:kG w0 w ⟨pW C,l.length,c⟩ l:=uK V fun b h=>by rw[zE.1 h];exact h0
 have E:=uv (P:=Tryz.prog) (tx:=101) (e':=5) hr k8 (fun x u hu=>by rw[zE.1 hu];rfl) oK;rw[qI] at E;have aa:eE [] w ⟨some (dd C o),l.length-o,c-o⟩ (l.drop o):=by
  have:=dW.uw (o:=o) (m:=l.length-o) (cap:=c-o) hR.rd oJ oJ oJ
  rwa[zS oL] at this
 by_cases hroom:l.length+ys.length<=c;have az:=E.newsLen;have hk:(l.length-o)+a.len<=c-o:=oJ;have e0:o+(l.length-o)*1=l.length:=oJ;refine tF ⟨_,_,_⟩ _ (run_append_room_src w 101 101 101 5 i oK hi C o (l.length-o) (c-o) _ a.len _ (by rw[G];exact E) hk (fun j hj=>?_) (fun j hj=>?_)) ?_;rw[G,e0,je R];rw[zK] at hj;have:l.length+j<cs.size:=oJ;simp[this];simp[World.frozen?,R];rw[vp R,G,e0];have I:(gL w C (.cells (dN cs l.length (ys.map (Value.int .u8))) T (0,0))).heap[C]?=some (.cells (dN cs l.length (ys.map (Value.int .u8))) T (0,0)):=(by rw[nW _ _ _ _ (eT R),if_pos rfl]);have J:fO _ ⟨pW C,(l++ys).length,c⟩ (l++ys) [C]:=eO.one (e:=Value.int .u8) (fun _=>rfl) I rfl (by rw[zF];exact hroom) (by rw[mG];exact U) (by rw[px _ _ _ oO,hl,xM,zF,take_append_of_le_length oL];exact zS oL);have ac:kG w0 _ ⟨pW C,(l++ys).length,c⟩ (l++ys):=uK J fun b h=>by rw[zE.1 h];exact h0
 refine kk _ _ ?_ ?_ (rR (eT R) _)
 have:=dW.uw (o:=o) (m:=l.length-o+a.len) (cap:=c-o) ac (by rw[zF];omega) hk oJ
 rwa[drop_append_of_le_length oJ,zS oO] at this
 have:=dW.uw (o:=0) (m:=o) (cap:=o) ac (by rw[zF];omega) (zM _) ho.1
 rwa[xE,take_append_of_le_length oJ] at this;have ag:=aa.cells k8 rfl;refine qs0 (m:=a.len) (e:=5) (olds:=(l.drop o).map (Value.int .u8)) (news:=ys.map (Value.int .u8)) oK hi hz G rfl oL (fun j u hj=>?_) E oJ (by rw[ae];omega) oJ fun b' cs c' w' eb I f ah ad ht=>?_;rw[<- qI] at hj;exact ag j u hj;have ai:fO w' ⟨pW b',l.length-o+a.len,c'⟩ (l.drop o++ys) [b']:=eO.one (e:=Value.int .u8) (fun _=>rfl) I oO ah ad (by rw[zF,yB,<- af,ht,xM]);refine kk _ w' (uK ai fun b h=>by rw[zE.1 h,eb];exact f0.size) ?_ (f.mono fun _ h _=>nomatch h)
 have:=dW.uw (o:=0) (m:=o) (cap:=o) (hR.q7 f) oJ (zM _) ho.1
 rwa[xE] at this
def qw6{x:jc}{K:jc×Bool->WP}(E:eE [] w s (i3 x))(C:wg x)(V:∀w',Fr [] w w'->K (x,true) w'): cW 42 [s.v] [.agg dc,.one .bool] w K:=by refine qr9 ?_;have R:=E.1;rw[m8] at R;refine oB (oE [] w) fun r1 w1 e1 f1 h=>cond_false (by rw[R];rfl) (oB h fun r5 w2 e2 f2 h=>?_);have l0:=kY 8 x.1;have l1:=kY 8 x.2;refine iV (fun q w'=>∃i:Nat,q=i/\i<=8/\dM [] w w' [(r5,.cells #[.int .u64 (nV ((bw 8 x.1).take i)),.int .u64 (nV ((bw 8 x.2).take i))] A0 (0,0)),(r1,.cells cX A0 (0,0))]) (fun q _=>8-q.toNat) ⟨0,rfl,oM,h⟩ ?_;rintro q w3 ⟨i,rfl,hi,h⟩ X hX;apply cD<;>intro G;have u:i<8:=oJ;have I:(i3 x)[i]?=some ((bw 8 x.1)[i]' oJ):=(by rw[i3,yY oJ,zA oJ]);have J:(i3 x)[8+i]?=some ((bw 8 x.2)[i]' oJ):=(by rw[i3,yX oJ,l0,vC,zA oJ]);rw[gc (8+(i:Int)) oJ,gc ((i:Int)+1) oJ];refine oA h.drew 0 rfl _ rfl (eE.at (E.q7 h.drew.fr) i rfl I ?_);rw[DH (pf _ _) oJ u];refine h.drew.sz 0 rfl #[.int .u64 (nV ((bw 8 x.1).take (i+1))),.int .u64 (nV ((bw 8 x.2).take i))] fun U h _=>oA h.drew 0 rfl _ rfl (eE.at (E.q7 h.drew.fr) (8+i) oJ J ?_);rw[DH (pf _ _) oJ u];exact h.drew.sz 0 rfl #[.int .u64 (nV ((bw 8 x.1).take (i+1))),.int .u64 (nV ((bw 8 x.2).take (i+1)))] fun w5 h _=>hX _ _ ⟨i+1,rfl,u,h⟩ oJ;have u:i=8:=oJ;subst u;rw[zS oJ,zS oJ,uZ 8 C.1.1 (by rw[p8];exact C.1.2),uZ 8 C.2.1 (by rw[p8];exact C.2.2)] at h;refine oC h 0 rfl x rfl (h.st' 1 rfl _ (oc rfl) rfl (zM _) fun U h _=>?_);exact oC h 1 rfl x rfl (V U h.fr)
def qzl{K:Int->WP}(h:eE S w s (bw 8 n))(u:nu n)(C:K n w):cW 85 [s.v] dr w K:=
 qtW h (pf _ _) (by rw[kY];decide) (by rw[uZ 8 u.1 (by rw[p8];exact u.2)];exact C)
def qtR{m:Int}{K:Int×Int×Bool->WP}(h:eE [] w s (ky n m))(G:nu n)(I:nu m)(J:K (n,m,true) w.drew): cW 48 [s.v] dx w K:=by refine qp4 ?_;have u:=h.1;rw[wn] at u;refine cond_false (by rw[u];rfl) (dW.part h 0 8 rfl rfl oM (by rw[wn];decide) fun R _ C _=>dW.part h 8 16 rfl (by rw[xV,u]) oM (by rw[wn];decide) fun U _ E _=>?_);rw[ky,xE,take_left' (kY _ _)] at C;rw[zS (by rw[wn];decide),ky,drop_left' (kY _ _)] at E;exact qzl C.drew G (qzl E.drew I J)
def qmK{e i0 u:Int}{K:Sl×Sl->WP}(I:∀s t w',kG w w' s (ky e n)->kG w w' t (i3 (i0,u))->Fr [] w w'->K (s,t) w'): cW 60 [.agg #[.int .u64 e,.int .u64 n,.int .u64 i0,.int .u64 u]] dk w K:=by refine qk3<|oB (oE [] w) fun V w1 e1 C h=>oA h.drew 0 rfl e rfl (oA h.drew 0 rfl n rfl (oC h.drew 0 rfl (i0,u) rfl ?_));refine qsS fun s w2 J E=>ia ((h.drew.q7 E).cells 0 rfl rfl) (yp fun r3 R U G=>?_);have f:=C.drew.trans E;exact I s _ R ((J.up C.size).q7 G) (U.up f.size) (f.trans G)
def qtV{t:Sl}{e:Int}{x:jc}{K:(Int×Int×Int×Int)×Bool->WP}(C:eE [] w s (ky e n))(E:eE [] w t (i3 x))(G:nu e)(I:nu n)(J:wg x)(R:∀w',Fr [] w w'->K ((e,n,x.1,x.2),true) w'): cW 36 [s.v,t.v] [.agg [.int .u64,.int .u64,.int .u64,.int .u64],.one .bool] w K:=by refine qk5<|oB (oE [] w) fun r1 w1 e1 u h=>qtR (C.q7 u) G I<|qw6 (E.q7 u.drew) J fun w2 U=>oB (h.drew.q7 U) fun r7 w3 e3 f3 h=>h.sz 0 rfl #[.int .u64 x.1,.int .u64 x.2] fun V h _=>tN false V (fun M hM=>cond_false rfl hM) (cond_false rfl ?_);refine oC h 0 rfl x rfl (h.sz 1 rfl #[.int .u64 e,.int .u64 n,.int .u64 x.1,.int .u64 x.2] fun w5 h _=>?_);exact oC h 1 rfl (e,n,x.1,x.2) rfl (R w5 h.fr)
abbrev EH:TypeId:=79
abbrev Kp:=HL oq×jc
def rz (k:Kp):List Value:=HL.mk oq k.1++mr k.2
def tX (k:Kp):List Int:=oW k.1++i3 k.2
def t8(k:Kp):(rz k).length=18:=rfl
def qts(k:Kp):(tX k).length=108:=by rw[tX,zF,CS,m8]
def kpZ:Kp:=((0,0,0,0,0,0,0,0,0,0,0,0,0,0,0,0),(0,0))
def qtU{k:Kp}{K:Sl×Sl->WP}(kk:∀s t w',kG w w' s (i3 (pQ k.1))->kG w w' t (tX k)->Fr [] w w'->K (s,t) w'): cW 59 [.agg (rz k).toArray] dk w K:=by
 refine qg5<|oB (oE [] w) fun r1 w1 e1 f1 h=>oC h 0 rfl k.1 rfl (qvm fun s w2 q=>?_);have V:=qx2 k.1;obtain⟨B,hb,f2,hB⟩:=q.2;obtain⟨u,cs,T,rfl,ha,G,hn,hc,J,ht⟩:=hb.ptr (by intro h;rw[h] at V;simp at V);obtain⟨sa,sn,sc⟩:=s;dsimp only at ha hn hc J;subst ha;have R:w1.heap.size<=u:=hB u (zE.2 rfl);rw[qI] at ht;unfold fB;refine⟨by simp;omega,by simp;omega,?_⟩;simp only[xV,xU];rw[if_neg oO,if_neg oL];simp only[Option.map_some,Addr.q9];have h:=(h.q7 f2).drew;refine oC h 0 rfl k.2 rfl (oB h fun r9 w3 e3 f3 h=>?_);have E:dW mr 2 [u] w3 ⟨pW r9,1,1⟩ [k.2]:=eO.jq xu (eO.fresh xu (h.at (i:=0) rfl) rfl (zM _) (zM _) rfl) fun b hb h=>by have:=zE.1 hb;have:=zE.1 h;have:u<w2.drew.heap.size:=eT G;omega
 have ac:Fr [] w2 w3:=(Fr.refl [] w2).drew.trans f3;have hV:(pM k.1).drop 16=oW k.1:=(by rw[pM,drop_left' (m8 _)]);have hI:(pM k.1).take 16=i3 (pQ k.1):=(by rw[pM,take_left' (m8 _)]);have ad:oW k.1≠tX k:=fun e=>by have:=congrArg List.length e;rw[CS,qts] at this;omega
 refine qp0 (b:=⟨some (dd u 16),sn-16,sc-16⟩) (l:=oW k.1) (I:=fun s l' w'=>(s=⟨some (dd u 16),sn-16,sc-16⟩/\l'=oW k.1/\Fr [] w3 w')\/(l'=tX k/\kG w w' s (tX k)/\kG w w' ⟨pW u,16,16⟩ (i3 (pQ k.1))/\Fr [] w w')) (.inl ⟨rfl,rfl,.refl _ _⟩) (fun s l w' aD q f=>q.elim (fun q=>.inl ⟨q.1,q.2.1,q.2.2.trans f⟩) fun q=>.inr ⟨q.1,q.2.1.q7 f,q.2.2.1.q7 f,q.2.2.2.trans f⟩) (E.j6 fun _ h=>nomatch h) (zO rfl) (fun i s l' w4 a x K' hi hx C q r4 ra k'=>?_) fun s w4 q=>?_;have ag:i=0:=(by simp at hi;exact hi);subst ag;cases hx;rcases q with ⟨rfl,C,U⟩|⟨e,_⟩;have ah:w4.heap[u]?=some (.cells cs T (0,0)):=(by rw[(ac.trans U).block u (eT G) (fun h=>nomatch h)];exact G);refine qyt (w0:=w) (o:=16) ah (zL f1.size R) hn hc J ht (h.fr.trans U) oJ ra (by rw[V,m8];decide) fun s5 w5 h5 h6 f5=>?_;rw[hV] at h5;rw[hI] at h6;rw[C] at k';exact k' s5 w5 (.inr ⟨rfl,h5,h6,(h.fr.trans U).j8 f5 fun b h=>.inr (by rw[zE.1 h];exact zL f1.size R)⟩) (((E.q7 U).q8 f5 fun b h=>.inl h).j6 fun _ h=>nomatch h);rw[e] at C;exact absurd (oP C.symm) ad;rcases q with ⟨_,e,_⟩|⟨_,q1,q2,q3⟩
 have:=congrArg List.length e
 rw[zF,Cy,CS] at this;simp at this;exact kk _ s w4 q2 q1 q3
def tV (k:Kp):Prop:=kx oq k.1/\mX k.2
def rL:HL rW->List Int:=fun (h,u,C,E,G,I,J,R,n)=>i3 (h,u)++(i3 (C,E)++(i3 (G,I)++i3 (J,R)))
def mF (a:HL rW):Int:=a.2.2.2.2.2.2.2.2
def rg (a:HL rW):List Int:=rL a++bw 8 (mF a)
def BV(a:HL rW):(rL a).length=64:=by obtain⟨h,u,C,E,G,I,J,R,n⟩:=a;simp only[rL,zF,m8]
def qxb(a:HL rW):(rg a).length=72:=by rw[rg,zF,BV,kY]
def qvl{a:HL rW}(V:∀s w',Bf w w' s (rg a) 72->K s w'): cW 146 [.agg (HL.mk rW a).toArray] de w K:=by
 obtain⟨u,C,E,G,I,J,R,U,n⟩:=a;refine qiA<|oB (oE [] w) fun r1 w1 e1 f1 h=>?_;have h:=h.drew;refine oC h 0 rfl (u,C) rfl (oC h 0 rfl (E,G) rfl (oC h 0 rfl (I,J) rfl (oC h 0 rfl (R,U) rfl (oA h 0 rfl n rfl ?_))));refine oB h fun r8 w2 e2 f2 h=>ia (h.cell 1 rfl rfl)<|Ev (ids:=[(u,C),(E,G),(I,J),(R,U)]) (h.at (i:=0) rfl) rfl oM fun s3 w3 q=>ia ((h.q7 q.fr).cell 1 rfl rfl) (q.sP fun s4 w4 q=>?_);have e:[(u,C),(E,G),(I,J),(R,U)].flatMap i3++bw 8 n=rg (u,C,E,G,I,J,R,U,n):=by simp only[yG,flatMap_nil,rg,mF,rL,zV,xG,xH]
 rw[e] at q;exact V s4 w4 (q.down h.fr)
def qQ:HL lX->Int:=fun (_,_,_,_,_,_,_,_,_,s)=>s
def k9:HL lX->HL rW:=fun (h,u,C,E,G,I,J,R,n,_)=>(h,u,C,E,G,I,J,R,n)
def rQ (r:HL lX):List Int:=qQ r::rL (k9 r)
def qxW(r:HL lX):(rQ r).length=65:=by rw[rQ,yH,BV]
def qtT{a0 G:Int}{r:HL lX}{K:Sl×Sl->WP}(kk:∀s t w',kG w w' s (kF (a0,G) (mF (k9 r)))->kG w w' t (rQ r)->Fr [] w w'->K (s,t) w'): cW 111 [c6 a0 G,.agg (HL.mk lX r).toArray] dk w K:=by
 refine qk4<|oB (oE [] w) fun r1 w1 e1 f1 h=>oB h fun r3 w2 e2 f2 h=>oC h 0 rfl (k9 r) rfl (qvl fun s w3 q=>?_);have h:=(h.q7 q.fr).drew;have hq:=(q.new.q7 (Fr.refl [] w3).drew).rd;have hn:(mF (k9 r))=r.2.2.2.2.2.2.2.2.1:=rfl;have hx:(rg (k9 r)).take 64=rL (k9 r):=(by rw[rg,take_left' (BV _)]);have ak:=qxb (k9 r);have al:=BV (k9 r);simp only[Addr.q9];refine⟨?a,?b⟩;case' a=>refine oC h 1 rfl (a0,G) rfl (oA h 0 rfl (mF (k9 r)) rfl (oA h 0 rfl (qQ r) rfl (dW.part hq 0 64 rfl rfl oM oJ fun s4 _ I _=>Cd fun J w5 R u=>?_)))
 case' b=>refine oC h 1 rfl (a0,G) rfl (oA h 0 rfl (mF (k9 r)) rfl (oA h 0 rfl (qQ r) rfl (dW.part hq 0 64 rfl rfl oM oJ fun s4 _ I _=>?_)))
 all_goals rw[xE,hx] at I
 case a=>
  have h:=h.q7 u;refine ia (h.cell 0 rfl rfl) (oB h fun r6 w6 e6 C h=>jX (h.cell 1 rfl rfl) (h.cells 2 rfl rfl) ?_);exact BI (w:=w6) (l:=[qQ r]) (uG (o:=0) (n:=1) (L:=[qQ r]) (h.at (i:=0) rfl) (zM _) (zM _) (fun h=>nomatch h)) ((I.q7 u).q7 C) oJ oO fun U B7 w7 V E n7=>kk J U w7 ((R.q7 (C.trans E)).up (f1.trans (f2.trans q.fr)).size) (uK V fun b hb=>zL h.fr.size (n7 b hb)) (h.fr.trans E)
 case b=>
  refine oB h fun r6 w6 e6 C h=>jX (h.cell 1 rfl rfl) (h.cells 2 rfl rfl) (Cd fun J w5 R u=>?_);have h:=h.q7 u;exact ia (h.cell 1 rfl rfl)<|BI (w:=w5) (l:=[qQ r]) (uG (o:=0) (n:=1) (L:=[qQ r]) (h.at (i:=0) rfl) (zM _) (zM _) (fun h=>nomatch h)) ((I.q7 C).q7 u) oJ oO fun U B7 w7 V E n7=>kk J U w7 ((R.q7 E).up ((f1.trans (f2.trans q.fr)).drew.trans C).size) (uK V fun b hb=>zL h.fr.size (n7 b hb)) (h.fr.trans E)
def zp:HL lX:=(0,0,0,0,0,0,0,0,0,0)
section
section
variable {k v c:Nat} {t:Int} {w0 w:World} {s:Sl} {m:Nat} {dbk pb:Nat} {FD F B:List Nat} {D:dE} {M:dU} {P:List Int} {L:fL}
end
def qxY{t:Int}{k v:Nat}(h:zi t)(C:qS t=((k:Int),(v:Int))):4<=(dQ k v).1:=by
 obtain⟨E,G⟩:=h;have:t=0\/t=1\/t=2\/t=3\/t=4\/t=5\/t=6\/t=7:=oJ;rcases this with rfl|rfl|rfl|rfl|rfl|rfl|rfl|rfl<;>
  (obtain⟨e1,u⟩:=vA C;have e1:=Int.ofNat.inj e1;have u:=Int.ofNat.inj u;subst e1 u;decide)
end
end
section
open Go Go.Pt List
open Go.IntKind (wrap)
open Classical
end
section
open Go Go.Pt List
open Go.IntKind (wrap)
open Classical
def AL (frm to:Key) (x:Key×Key):Bool:=decide (cmpL x.1 frm>=0)&&decide (cmpL x.1 to<=0)
def k6 (frm to:Key) (L:fL):fL:=L.filter (AL frm to)
end
section
set_option linter.unusedSectionVars false
open Go Go.Pt List
open Go.IntKind (wrap)
section
variable {α:Type} {kf vf:α->Key} {L:fL} {l:List α} {a:α} {k v:Key}
def iy {κ:Type} [DecidableEq κ] (kf:α->κ) (a:α):List α->List α
 | []=>[a]
 | x::r=>if kf x=kf a then a::r else x::iy kf a r
def qrF{κ:Type}[DecidableEq κ]{kf:α->κ}:∀ {l:List α} {i:Nat} (h:i<l.length),kf l[i]=kf a->(∀(j:Nat) (C:j<i),kf (l[j]' oJ)≠kf a)->iy kf a l=l.set i a
 | x::r,0,h,e,_=>if_pos e
 | x::r,i+1,h,e,u=>by have E:kf x≠kf a:=u 0 oJ;rw[iy,if_neg E,set_cons_succ,qrF (i:=i) (oP h) e fun j C=>u (j+1) oJ]
def EZ{κ:Type}[DecidableEq κ]{kf:α->κ}:∀ {l:List α},(∀x∈l,kf x≠kf a)->iy kf a l=l++[a]
 | [],_=>rfl
 | x::r,h=>by rw[iy,if_neg (h x oL),EZ fun y u=>h y (zN _ u),xI]
def qrG{κ:Type}[DecidableEq κ]{kf:α->κ}{x:α}:∀ {l:List α},x∈iy kf a l->x=a\/x∈l
 | [],h=>.inl (zE.1 h)
 | y::r,h=>by unfold iy at h;split at h;exact (zG.1 h).imp id fun h=>zN _ h;rcases zG.1 h with h|h;exact .inr (by rw[h];exact mem_cons_self);exact (qrG h).imp id fun h=>zN _ h
def uz{κ:Type}[DecidableEq κ]{kf:α->κ}:∀ {l:List α},(iy kf a l).length<=l.length+1
 | []=>zM _
 | y::r=>by unfold iy;split;exact Nat.le_succ _;exact Nat.succ_le_succ uz
def qnI{κ:Type}[DecidableEq κ]{kf:α->κ}{kg:α->Key}:∀ {l:List α},(∀x∈l,kf x=kf a↔kg x=kg a)->iy kf a l=iy kg a l
 | [],_=>rfl
 | y::r,h=>by have u:=h y mem_cons_self;have ih:=qnI (l:=r) fun x C=>h x (zN _ C);unfold iy;by_cases e:kf y=kf a;rw[if_pos e,if_pos (u.1 e)];rw[if_neg e,if_neg fun E=>e (u.2 E),ih]
def qpi:∀ {L:fL},k∉dL L->(fC k v L).Perm ((k,v)::L)
 | [],_=>.refl _
 | x::r,h=>by have h:=not_mem_of_not_mem_cons h |> fun u=>And.intro (fun e:k=x.1=>h (by rw[e];simp)) u;unfold fC;split;exact .refl _;rw[if_neg h.1];exact (List.Perm.cons x (qpi h.2)).trans (List.Perm.swap _ _ _)
structure kR (kf vf:α->Key) (L:fL) (l:List α):Prop where
 sort:eU L
 nodup:(l.map kf).Nodup
 perm:L.Perm (l.map fun a=>(kf a,vf a))
def kR.len(h:kR kf vf L l):L.length=l.length:=by rw[h.perm.length_eq,zK]
def kR.J6(h:kR kf vf L l):k∈dL L↔∃x∈l,kf x=k:=by rw[(h.perm.map (·.1)).mem_iff,map_map];simp
def kR.nil:kR kf vf [] []:=⟨.nil,.nil,.refl _⟩
def kR.put(h:kR kf vf L l)(a:α):kR kf vf (fC (kf a) (vf a) L) (iy kf a l):=by
 by_cases hin:∃x∈l,kf x=kf a;obtain⟨x,C,e⟩:=hin;obtain⟨P,Q,rfl⟩:=append_of_mem C;have u:=h.nodup;have I:(kf a,vf x)∈L:=h.perm.mem_iff.2 (mem_map.2 ⟨x,C,by rw[e]⟩);obtain⟨A,B,rfl⟩:=append_of_mem I;have J:=h.sort;unfold eU fE dL at J;rw[xM,xN,pairwise_append] at J;have V:∀y∈A,fD y.1 (kf a):=fun y E=>J.2.2 _ (zY E) _ oL;rw[xM,xN,yL,nodup_cons] at u;have hP:iy kf a (P++x::Q)=P++a::Q:=by
  have G:∀y∈P,kf y≠kf a:=fun y E R=>u.2.2 _ (zY E) _ oL (R.trans e.symm);clear C I h u J;induction P with
  | nil=>exact if_pos e
  | cons y P ih=>rw[xI,iy,if_neg (G y oL),ih fun z U=>G z (zN _ U),xI]
 rw[Fx V,hP];refine⟨by have:=Bm (k:=kf a) (v:=vf a) h.sort;rw[Fx V] at this;exact this,?_,?_⟩;rw[xM,xN,yL,nodup_cons,<- e];exact u;have hp:=h.perm;rw[xM,xN] at hp;have h1:=(perm_middle.symm.trans hp).trans perm_middle;rw[e] at h1;have h2:=List.Perm.cons_inv h1;rw[xM,xN];exact (perm_middle.trans ((h2.cons _))).trans perm_middle.symm;have hn:∀x∈l,kf x≠kf a:=fun x C e=>hin ⟨x,C,e⟩;have hk:kf a∉dL L:=fun I=>hin (h.J6.1 I);rw[EZ hn];refine⟨Bm h.sort,?_,?_⟩;rw[xM,yL];exact⟨h.nodup,oL,fun x C y E e=>by obtain⟨z,U,rfl⟩:=mem_map.1 C;rw[map_singleton,zE] at E;exact hn z U (e.trans E)⟩;refine (qpi hk).trans ((h.perm.cons _).trans ?_);rw[xM];exact (perm_append_singleton _ _).symm
def kR.cut(h:kR kf vf L l)(k:Key):kR kf vf (gb k L) (l.filter fun x=>decide (kf x≠k)):=by
 refine⟨qo1 h.sort,h.nodup.sublist (filter_sublist.map _),?_⟩
 have:=h.perm.filter fun x=>decide (x.1≠k)
 rw[filter_map] at this;exact this
end
structure oi (α κ:Type) where
 key:α->κ
 g:κ->Key
 val:α->Key
 ok:α->Prop
 A4:κ->Prop
 okk:∀ a,ok a->A4 (key a)
 inj:∀ k k',A4 k->A4 k'->g k=g k'->k=k'
section
variable {α κ:Type} [DecidableEq κ] {K:oi α κ} {L:fL} {l:List α} {a:α} {k:κ}
def mh (K:oi α κ) (L:fL) (l:List α):Prop:=kR (fun a=>K.g (K.key a)) K.val L l/\∀a∈l,K.ok a
def mh.nil:mh K [] []:=⟨.nil,fun _ h=>nomatch h⟩
def mh.len(h:mh K L l):L.length=l.length:=h.1.len
def mh.iff(h:mh K L l)(u:K.A4 k)(C:a∈l):K.key a=k↔K.g (K.key a)=K.g k:=⟨fun e=>by rw[e],K.inj _ _ (K.okk a (h.2 a C)) u⟩
def mh.put(h:mh K L l)(C:K.ok a):mh K (fC (K.g (K.key a)) (K.val a) L) (iy K.key a l):=
 ⟨by rw[qnI (kg:=fun a=>K.g (K.key a)) fun x u=>h.iff (K.okk a C) u];exact h.1.put a,fun x u=>(qrG u).elim (fun e=>by rw[e];exact C) (h.2 x)⟩
def mh.cut(h:mh K L l)(C:K.A4 k):mh K (gb (K.g k) L) (l.filter fun x=>decide (K.key x≠k)):=
 ⟨by rw[filter_congr (q:=fun x=>decide (K.g (K.key x)≠K.g k)) fun x u=>by rw[decide_eq_decide,ne_eq,ne_eq,h.iff C u]];exact h.1.cut _,fun x u=>h.2 x (mem_filter.1 u).1⟩
def mh.mem(h:mh K L l)(C:∃x∈l,K.key x=k):K.g k∈dL L:=h.1.J6.2 (C.elim fun x u=>⟨x,u.1,by rw[u.2]⟩)
end
end
section
open Go Go.Pt List
open Go.IntKind (wrap)
open Classical
structure AH (D:dE) (M:dU) (k v b q:Nat) (t:Int) (L:fL) (P:List Int):Prop where
 J1:Calm D M b q
 J2:fK D M k v t L P
 nodup:P.Nodup
 use:∀ x,dP M x->x∈P
 many:b-2<=M.Q9.length+90+eC b
section
variable {D D':dE} {M M':dU} {k v b q:Nat} {t:Int} {L L':fL} {P P':List Int}
end
def qvT{D:dE}{n k v:Nat}{t:Int}(G:0<=t/\t<8)(C:8<=n)(I:n<=4096)(E:(jN n).Wf)(u:Made D n):AH D (jN n) k v n 1 t [] []:=by
 have h:=qpU (D:=D) (k:=k) (v:=v) G C I E;have e:(jN n).j9.2.getD 0 0=n:=(by show wrap .u32 (n:Int)=_;exact nD _ oJ);refine⟨⟨u.quiet,u.Q7,u.size,e,C,E,h.Q9,h.Q3,h.len,⟨(by decide:(0:Int)<=1),(by decide:(1:Int)<=1)⟩,⟨(by decide:(0:Int)<=1),(by decide:(1:Int)<=1)⟩⟩,h.J2,.nil,h.use,?_⟩
 have:=h.many
 have:=qno (a:=n-2) (b:=n) oJ
 omega
end
section
open Go Go.Pt List
open Go.IntKind (wrap)
open Classical
variable {D:dE}
structure nR (D:dE) (M:dU) (c:Nat) (Q:Nat×Nat) (Fo:jL):Prop where
 J0:xb D M Fo
 J1:Calm D M Q.1 Q.2
 many:c<=M.Q9.length
def ma (M:dU):dU:={ M with Q1:=[],J7:=[],J8:=[],Q2:=[] }
def jy (F:jL):Nat:=(F 0).1.length+(F 1).1.length+(F 2).1.length+(F 3).1.length+(F 4).1.length+(F 5).1.length+(F 6).1.length+(F 7).1.length
def qzY{t:Nat}(h:t<8):t=0\/t=1\/t=2\/t=3\/t=4\/t=5\/t=6\/t=7:=by omega
def zw{F:jL}{t:Nat}(h:t<8):(F t).1.length<=jy F:=by unfold jy;rcases qzY h with rfl|rfl|rfl|rfl|rfl|rfl|rfl|rfl<;>omega
section
variable {D:dE} {M:dU} {c t:Nat} {Q:Nat×Nat} {F:jL} {key val:Key}
def nR.y4(h:nR D M c Q F):((List.range 8).flatMap fun u=>(F u).2).length<=jy F:=by
 have C:∀u,u<8->(F u).2.length<=(F u).1.length:=fun u E=>(h.J0.J2 u E).cQ (qxY ⟨oJ,oJ⟩ (yw E).1);have e:(List.range 8)=[0,1,2,3,4,5,6,7]:=oM;rw[e];simp only[yG,flatMap_nil,zF,xJ];unfold jy
 have:=C 0 oM;have:=C 1 oM;have:=C 2 oM;have:=C 3 oM;have:=C 4 oM;have:=C 5 oM;have:=C 6 oM;have:=C 7 oM
 omega
def nR.use(h:nR D M c Q F):∀x,dP M x->x∈(List.range 8).flatMap fun u=>(F u).2:=fun x C=>by obtain⟨u,E,C⟩:=h.J0.use x C;exact yJ.2 ⟨u,mem_range.2 E,C⟩
def nR.Q1(h:nR D M c Q F):c<=M.Q1.length+jy F:=by have C:=h.J1.Q9.length_eq;rw[zF] at C;have G:=h.many;have I:(M.J8.map (·.1)).length<=((List.range 8).flatMap fun u=>(F u).2).length:=List.Nodup.length_le_of_subset h.J1.wf.y8 fun x E=>h.use x (.inl E);have J:=h.y4;omega
def nR.room(h:nR D M c Q F)(u:t<8)(C:3*jy F+1<=c):2*(dS M t).2.2.toNat+1<=M.Q1.length:=by
 have E:=h.Q1;have G:=(h.J0.J2 t u).low
 have:=zw (F:=F) u
 omega
def nR.next{M':dU}{L':fL}{P':List Int}(h:nR D M c Q F)(C:t<8)(E:fK D M' (kv t).1 (kv t).2 t L' P')(u:mP D M M' t (F t).2 P'):nR D M' c Q (nT F t (L',P')):=
 ⟨h.J0.next h.J1.Q3 C E u,h.J1.next u,by have:M'.Q9=M.Q9:=u.step.Q9;rw[this];exact h.many⟩
def mP.base{M':dU}{P P':List Int}{t:Int}(h:mP D M M' t P P')(u:M.Q3=false):ma M'=ma M:=by have C:=h.step.Q3;have E:=h.step.j9;have G:=h.step.Q5;have I:=h.step.Q9;have J:=h.step.x6;cases M;cases M';unfold ma;simp_all
def nR.put(h:nR D M c Q F)(u:t<8)(E:3*jy F+1<=c)(G:c<=100000)(I:key.length=(kv t).1/\eB key)(J:val.length=(kv t).2/\eB val): ∃M' P',jo D (kv t).1 (kv t).2 t key val (dS M t).2.2.toNat M=(0,M')/\nR D M' c Q (nT F t (fC key val (F t).1,P'))/\ma M'=ma M:=by
 have:=zw (F:=F) u
 obtain⟨M',P',e,R,C,_⟩:=qv3 (yw u).2.1 ⟨oJ,oJ⟩ I J (h.J0.J2 t u) h.J1.wf h.J1.Q3 h.J1.len (h.J0.nodup t u) oJ (h.room u E);exact⟨M',P',e,h.next u R C,C.base h.J1.Q3⟩
def nR.cut(h:nR D M c Q F)(u:t<8)(E:3*jy F+1<=c)(G:c<=100000)(I:key∈dL (F t).1): ∃M' P',kD D (kv t).1 (kv t).2 t key (dS M t).2.2.toNat M=(0,M')/\nR D M' c Q (nT F t (gb key (F t).1,P'))/\ma M'=ma M:=by
 have:=zw (F:=F) u
 obtain⟨M',P',e,J,C,_⟩:=qwz (yw u).2.1 ⟨oJ,oJ⟩ (h.J0.J2 t u) I h.J1.wf h.J1.Q3 h.J1.len (h.J0.nodup t u) oJ (h.room u E);exact⟨M',P',e,h.next u J C,C.base h.J1.Q3⟩
def nR.na(h:nR D M c Q F)(E:Q.2<=1000000)(R:c+eC Q.1+jy F+2<=Q.1)(U:eC Q.1+jy F<=c):∃D' M',gw D M=((D',M'),0)/\nR D' M' c (Q.1,Q.2+1) F:=by have V:=h.Q1;obtain⟨D',M',e,G,u,C⟩:=qqO h.J1 E h.use oJ;refine⟨D',M',e,⟨⟨fun t I=>(h.J0.J2 t I).kept h.J1.Q3 u,h.J0.nodup,h.J0.J3,fun x J=>h.J0.use x ((u.use x).1 J)⟩,G,?_⟩⟩;have h3:=h.y4;rcases C with rfl|C;exact h.many;omega
end
def nR.made{n:Nat}(u:8<=n)(C:n<=4096)(E:(jN n).Wf)(R:Made D n):nR D (jN n) ((n-2)-eC (n-2)) (n,1) (fun _=>([],[])):=by have G:∀t:Nat,t<8->wo D (jN n) (kv t).1 (kv t).2 ((n-2)-eC (n-2)) t [] []:=fun t I=>qpU ⟨oJ,oJ⟩ u C E;have J:=G 0 oM;have U:AH D (jN n) (kv 0).1 (kv 0).2 n 1 0 [] []:=qvT ⟨oM,oM⟩ u C E R;exact⟨⟨fun t I=>(G t I).J2,fun _ _=>.nil,fun _ _ _ _ _ _ h=>(nomatch h),fun x h=>nomatch J.use x h⟩,U.J1,Nat.le_of_eq J.many.symm⟩
def TW.up{dbk pb j u:Nat}{FD Y F:List Nat}{w:World}{M:dU}(h:TW dbk pb FD D j w Y F M)(C:j<=u):TW dbk pb FD D u w Y F M:=⟨h.cN,h.lim.mono C,h.x8,h.hv,h.wf,h.sep⟩
abbrev yi:TypeId:=100
abbrev pP (r:Nat):Value:=dB r
structure nG (w:World) (Y:List Nat) (sb dbk pb:Nat) (FD F:List Nat) (D:dE) (M:dU) (c:Nat) (Q:Nat×Nat) (Fo:jL):Prop where
 tw:TW dbk pb FD D (5000*Q.2) w Y F M
 st:nR D M c Q Fo
 cell:w.heap[sb]?=some (.cells #[pP pb] yi (0,0))
 out:sb∉F
section
variable {w w':World} {Q:Nat×Nat} {sb dbk pb c t:Nat} {Y FD F F':List Nat} {D:dE} {M M':dU} {Fo Fo':jL} {key val:Key} {ks vs:Sl}
def nG.q7(h:nG w Y sb dbk pb FD F D M c Q Fo)(f:Fr [] w w'):nG w' Y sb dbk pb FD F D M c Q Fo:=⟨h.tw.q7 f,h.st,by rw[f.block sb (eT h.cell) (fun h=>nomatch h)];exact h.cell,h.out⟩
def nG.sw{K:Option Addr->Prop}(h:nG w Y sb dbk pb FD F D M c Q Fo)(u:K (pW pb)):nn (pW sb) fun a=>ld .ptr a w K:=fq (iG h.cell (pW pb) rfl u)
def nG.x6(h:nG w Y sb dbk pb FD F D M c Q Fo)(u:TW dbk pb FD D (5000*Q.2) w' Y F' M')(C:nR D M' c Q Fo')(f:Fr F w w')(n:∀b∈F',b∈F\/w.heap.size<=b):nG w' Y sb dbk pb FD F' D M' c Q Fo':=
 ⟨u,C,by rw[f.block sb (eT h.cell) h.out];exact h.cell,fun E=>(n sb E).elim h.out fun G=>by have:=eT h.cell;omega⟩
def nG.put{K:Int->WP}(h:nG w Y sb dbk pb FD F D M c Q Fo)(u:t<8)(J:3*jy Fo+1<=c)(C:c<=100000)(E:key.length=(kv t).1/\eB key)(G:val.length=(kv t).2/\eB val)(U:eE (Zo FD Y F) w ks key)(V:eE (Zo FD Y F) w vs val)(kk:∀F' w' M' P',nG w' Y sb dbk pb FD F' D M' c Q (nT Fo t (fC key val (Fo t).1,P'))->ma M'=ma M->Fr F w w'->(∀b∈F',b∈F\/w.heap.size<=b)->K 0 w'): cW 50 [pP pb,.i t,ks.v,vs.v] df w K:=by
 obtain⟨M',P',e,hS,hB⟩:=h.st.put (key:=key) (val:=val) u J C E G;have hl:=(h.st.J0.J2 t u).low
 have:=zw (F:=Fo) u
 have I:=yw u;refine qyq (f:=(dS M t).2.2.toNat) E.2 G.2 I.1 oJ E.1 G.1 h.tw U V ⟨hl.2,oJ⟩ (h.st.room u J) (qsy e) fun F' w' R f n=>?_;rw[e] at R⊢;exact kk F' w' M' P' (h.x6 R hS f n) hB f n
def nG.cut{K:Int->WP}(h:nG w Y sb dbk pb FD F D M c Q Fo)(C:t<8)(I:3*jy Fo+1<=c)(J:c<=100000)(u:key∈dL (Fo t).1)(U:eE (Zo FD Y F) w ks key)(V:∀F' w' M' P',nG w' Y sb dbk pb FD F' D M' c Q (nT Fo t (gb key (Fo t).1,P'))->ma M'=ma M->Fr F w w'->(∀b∈F',b∈F\/w.heap.size<=b)->K 0 w'): cW 61 [pP pb,.i t,ks.v] df w K:=by
 obtain⟨M',P',e,hS,hB⟩:=h.st.cut (key:=key) C I J u;have E:=h.st.J0.J2 t C;have hl:=E.low
 have:=zw (F:=Fo) C
 have G:=yw C;obtain⟨x,hx,rfl⟩:=mem_map.1 u;obtain⟨q1,q2,q3,q4⟩:=E.sort.2 x hx;obtain⟨y,hy⟩:=qvR u;have R:=E.get (key:=x.1) h.st.J1.wf h.st.J1.Q3;rw[hy] at R;refine qyf (f:=(dS M t).2.2.toNat) (f2:=(dS M t).2.2.toNat) q3 G.2.1 G.1 oJ q1 h.tw U ⟨hl.2,oJ⟩ (h.st.room C I) (by rw[R]) (E.Q6 G.2.1 u h.st.J1.wf h.st.J1.Q3 (h.st.J0.nodup t C) (h.st.room C I)) fun F' w' E f n=>?_;rw[e] at E⊢;exact V F' w' M' P' (h.x6 E hS f n) hB f n
end
section
def qtL{dbk pb j:Nat}{FD Y F:List Nat}{w:World}{M:dU}{K:Int->WP}(h:TW dbk pb FD D j w Y F M)(hj:j<=900000)(ht:0<=M.x6/\M.x6<=1000000000)(G:HG∉FD)(kk:∀C F' w',TW dbk pb C (gw D M).1.1 (j+5000) w' Y F' (gw D M).1.2->Fr (FD++F) w w'->(∀b∈C++F',b∈FD++F\/w.heap.size<=b)->K (gw D M).2 w'): cW 72 [dB pb] df w K:=by
 have I:HG∈FD++HG::Y:=oL;have J:HG∉F:=h.x8.sep HG I;refine qsd h.cN h.lim h.x8 (fun b u=>zH _ u) h.wf oJ ht h.hv G fun C F' w' d' l' p' R=>?_;have V:∀b∈C++F',b∈FD++F\/w.heap.size<=b:=R.2;refine kk C F' w' ⟨d',l',p'.sH fun b u=>?_,h.hv.q8 R.1 (fun U=>(zD.1 U).elim G J),qvv h.wf,fun b u=>⟨fun U=>?_,(h.sep b u).2⟩⟩ R.1 V;rcases zD.1 u with u|u;exact zH _ u;refine zI _ (zI _ u);rcases V b (zH _ U) with E|E;rcases zD.1 E with E|E;exact (h.sep b u).1 E;exact h.yf b u E
 have:=h.pX b u;omega
structure Duo (w0 w:World) (O:List Nat) (da pa:Nat) (Xa Fa:List Nat) (Da:dE) (ja:Nat) (Ma:dU) (db pb:Nat) (Xb Fb:List Nat) (Db:dE) (jb:Nat) (Mb:dU):Prop where
 a:TW da pa Xa Da ja w (Xb++(Fb++O)) Fa Ma
 b:TW db pb Xb Db jb w (Xa++(Fa++O)) Fb Mb
 Gz:∀ x∈Xa++Fa,w0.heap.size<=x
 GA:∀ x∈Xb++Fb,w0.heap.size<=x
 Gy:∀ x∈O,w0.heap.size<=x
 hg:HG<w0.heap.size
 fr:Fr [] w0 w
section
variable {w0 w w':World} {O O':List Nat} {da pa db pb:Nat} {Xa Fa Xb Fb Xa' Fa':List Nat} {Da Db Da':dE} {ja jb ja':Nat} {Ma Mb Ma':dU}
end
end
end
section
open Go Go.Pt List
open Go.IntKind (wrap)
abbrev Mv:=jc×Int×jc
abbrev Ln:=jc×HL lX
def ow (m:Mv):jc×Int:=(m.1,m.2.1)
def qF (x:Ln):jc×Int:=(x.1,mF (k9 x.2))
def kP (d:HL iS):Int×Int:=(d.1,d.2.1)
def AT (d:HL iS):jc:=(d.2.2.1,d.2.2.2)
def rV (k:Kp):jc:=pQ k.1
def mX.inj{a b:jc}(u:mX a)(C:mX b)(h:i3 a=i3 b):a=b:=DP u.ok C.ok h
abbrev tK (p:jc×Int):Prop:=mX p.1/\IntKind.u64.has p.2
def tK.inj{a b:jc×Int}(u:tK a)(C:tK b)(h:kF a.1 a.2=kF b.1 b.2):a=b:=by obtain⟨E,G⟩:=qwk u.1.ok C.1.ok (qH u.2) (qH C.2) h;exact Prod.ext E G
def T64.inj{a b:Int×Int}(u:mX a)(C:mX b)(h:ky a.1 a.2=ky b.1 b.2):a=b:=DP u.ok C.ok h
def Ge:oi (HL ku) jc:=⟨mA,i3,qc,kx ku,mX,fun a h=>⟨h.1,h.2.1⟩,fun _ _=>mX.inj⟩
def FU:oi Kp jc:=⟨rV,i3,tX,tV,mX,fun a h=>⟨h.1.1,h.1.2.1⟩,fun _ _=>mX.inj⟩
def FA:oi (jc×Int) jc:=⟨fun x=>x.1,i3,fun x=>[x.2],fun x=>mX x.1/\IntKind.u8.has x.2,mX,fun a h=>h.1,fun _ _=>mX.inj⟩
def sW:oi (HL iS) (Int×Int):=⟨kP,fun p=>ky p.1 p.2,fun d=>i3 (AT d),kx iS,mX,fun a h=>⟨h.1,h.2.1⟩,fun _ _=>T64.inj⟩
def AZ:oi Mv (jc×Int):=⟨ow,fun p=>kF p.1 p.2,fun m=>i3 m.2.2,fun m=>tK (ow m)/\mX m.2.2,tK,fun a h=>h.1,fun _ _=>tK.inj⟩
def za:oi Ln (jc×Int):=⟨qF,fun p=>kF p.1 p.2,fun x=>rQ x.2,fun x=>mX x.1/\kx lX x.2,tK,fun a h=>⟨h.1,h.2.2.2.2.2.2.2.2.2.1⟩,fun _ _=>tK.inj⟩
abbrev Gh:=Nat×dE×dU
structure Bk where
 acc:List (HL ku)
 ll:List Kp
 kO:List (jc×Int)
 due:List (HL iS)
 mL:List Mv
 mQ:List Mv
 jH:List Ln
 last:Option Int
 gn:Nat
 /-- The disk's blocks,the commits; what no operation turns but a na. -/
 cm:Nat×Nat×Gh
def tT (o:Option Int):fL:=o.toList.map fun n=>([1],bw 8 n)
structure Hb (T:Nat->fL) (b:Bk):Prop where
 acc:mh Ge (T 0) b.acc
 ll:mh FU (T 1) b.ll
 kO:mh FA (T 2) b.kO
 due:mh sW (T 3) b.due
 mL:mh AZ (T 4) b.mL
 mQ:mh AZ (T 5) b.mQ
 jH:mh za (T 6) b.jH
 pJ:T 7=tT b.last
def Bk.size (b:Bk):Nat:=b.acc.length+b.ll.length+b.kO.length+b.due.length+b.mL.length+b.mQ.length+b.jH.length+b.last.toList.length
def Bk.lO (b:Bk) (a:HL ku):Bk:={ b with acc:=iy mA a b.acc }
def Bk.k7 (b:Bk) (k:Kp):Bk:={ b with ll:=iy rV k b.ll }
def Bk.my (b:Bk) (m:Mv):Bk:={ b with mL:=iy ow m b.mL }
def Bk.oe (b:Bk) (m:Mv):Bk:={ b with mQ:=iy ow m b.mQ }
def Bk.li (b:Bk) (x:jc×Int):Bk:={ b with kO:=iy (fun x=>x.1) x b.kO }
def Bk.lG (b:Bk) (x:Ln):Bk:={ b with jH:=iy qF x b.jH }
def lY (a b:HL iS):Bool:=decide (a.1<b.1\/a.1=b.1/\a.2.1<b.2.1)
def kW (d:HL iS):List (HL iS)->List (HL iS)
 | []=>[d]
 | x::r=>if lY d x then d::x::r else x::kW d r
def iX (d:HL iS) (l:List (HL iS)):List (HL iS):=l.filter fun x=>decide (kP x≠kP d)
def Bk.ka (b:Bk) (d:HL iS):Bk:={ b with due:=iX d b.due }
def Bk.jh (b:Bk) (d:HL iS):Bk:={ b with due:=kW d (iX d b.due) }
def wI (t:HL oq):Mv:=((t.2.2.1,t.2.2.2.1),t.2.2.2.2.2.2.2.2.2.2.2.2.2.2.2,pQ t)
def Cg (t:HL oq):Mv:=((t.2.2.2.2.1,t.2.2.2.2.2.1),t.2.2.2.2.2.2.2.2.2.2.2.2.2.2.2,pQ t)
def Bk.jF (b:Bk) (k:Kp):Bk:=((b.k7 k).my (wI k.1)).oe (Cg k.1)
def Bk.vP (b:Bk):Bk:={ b with cm:=(b.cm.1,b.cm.2.1+1,b.cm.2.2) }
def vY (q:Nat×Nat×Gh):Bk:=⟨[],[],[],[],[],[],[],none,0,q⟩
def Bk.gs (b:Bk) (g:Gh):Bk:={ b with cm:=(b.cm.1,b.cm.2.1,g) }
def Bk.jC (b:Bk) (n:Int):Bk:={ b with last:=some n }
def Cw{d:HL iS}:∀ {l:List (HL iS)},(kW d l).Perm (d::l)
 | []=>.refl _
 | x::r=>by unfold kW;split;exact .refl _;exact (Cw.cons x).trans (.swap _ _ _)
def mh.perm{α κ:Type}{K:oi α κ}{L:fL}{l l':List α}(h:mh K L l)(p:l.Perm l'):mh K L l':=
 ⟨⟨h.1.sort,(p.map _).nodup_iff.1 h.1.nodup,h.1.perm.trans (p.map _)⟩,fun x u=>h.2 x (p.mem_iff.2 u)⟩
def qpI{α κ:Type}[DecidableEq κ]{kf:α->κ}{a:α}:∀ {l:List α},(l.map kf).Nodup->(iy kf a l).Perm (a::l.filter fun x=>decide (kf x≠kf a))
 | [],_=>.refl _
 | x::r,h=>by rw[xN,nodup_cons] at h;unfold iy;by_cases e:kf x=kf a;rw[if_pos e,filter_cons,if_neg (by simp[e]),filter_eq_self.2 fun y u=>by have:kf y≠kf a:=fun C=>h.1 (by rw[e,<- C];exact zY u);simpa using this];rw[if_neg e,filter_cons,if_pos (oP e)];exact ((qpI h.2).cons x).trans (.swap _ _ _)
def mh.nodup{α κ:Type}{K:oi α κ}{L:fL}{l:List α}(h:mh K L l):(l.map K.key).Nodup:=by
 have:=h.1.nodup
 rw[show (fun a=>K.g (K.key a))=K.g∘K.key from rfl,<- map_map] at this;exact this.of_map _ fun a b h e=>h (by rw[e])
def md (T:Nat->fL) (t:Nat) (L:fL):Nat->fL:=fun u=>if u=t then L else T u
section
variable {T:Nat->fL} {b:Bk}
def Hb.lO(h:Hb T b){a:HL ku}(u:kx ku a):Hb (md T 0 (fC (i3 (mA a)) (qc a) (T 0))) (b.lO a):=⟨h.acc.put u,h.ll,h.kO,h.due,h.mL,h.mQ,h.jH,h.pJ⟩
def Hb.k7(h:Hb T b){a:Kp}(u:tV a):Hb (md T 1 (fC (i3 (rV a)) (tX a) (T 1))) (b.k7 a):=⟨h.acc,h.ll.put u,h.kO,h.due,h.mL,h.mQ,h.jH,h.pJ⟩
def Hb.li(h:Hb T b){a:jc×Int}(u:mX a.1/\IntKind.u8.has a.2):Hb (md T 2 (fC (i3 a.1) [a.2] (T 2))) (b.li a):=⟨h.acc,h.ll,h.kO.put u,h.due,h.mL,h.mQ,h.jH,h.pJ⟩
def Hb.my(h:Hb T b){a:Mv}(u:tK (ow a)/\mX a.2.2):Hb (md T 4 (fC (kF a.1 a.2.1) (i3 a.2.2) (T 4))) (b.my a):=⟨h.acc,h.ll,h.kO,h.due,h.mL.put u,h.mQ,h.jH,h.pJ⟩
def Hb.oe(h:Hb T b){a:Mv}(u:tK (ow a)/\mX a.2.2):Hb (md T 5 (fC (kF a.1 a.2.1) (i3 a.2.2) (T 5))) (b.oe a):=⟨h.acc,h.ll,h.kO,h.due,h.mL,h.mQ.put u,h.jH,h.pJ⟩
def Hb.lG(h:Hb T b){a:Ln}(u:mX a.1/\kx lX a.2):Hb (md T 6 (fC (kF a.1 (mF (k9 a.2))) (rQ a.2) (T 6))) (b.lG a):=⟨h.acc,h.ll,h.kO,h.due,h.mL,h.mQ,mh.put (K:=za) (a:=a) h.jH u,h.pJ⟩
def Hb.ka(h:Hb T b){d:HL iS}(u:kx iS d):Hb (md T 3 (gb (ky d.1 d.2.1) (T 3))) (b.ka d):=⟨h.acc,h.ll,h.kO,mh.cut (K:=sW) (k:=kP d) h.due ⟨u.1,u.2.1⟩,h.mL,h.mQ,h.jH,h.pJ⟩
def Hb.jh(h:Hb T b){d:HL iS}(u:kx iS d):Hb (md T 3 (fC (ky d.1 d.2.1) (i3 (AT d)) (T 3))) (b.jh d):=⟨h.acc,h.ll,h.kO,(mh.put (K:=sW) (a:=d) h.due u).perm ((qpI h.due.nodup).trans Cw.symm),h.mL,h.mQ,h.jH,h.pJ⟩
def Hb.jC(h:Hb T b){n:Int}:Hb (md T 7 (fC [1] (bw 8 n) (T 7))) (b.jC n):=⟨h.acc,h.ll,h.kO,h.due,h.mL,h.mQ,h.jH,by
 show fC [1] (bw 8 n) (T 7)=tT (some n);rw[h.pJ];cases b.last with
 | none=>rfl
 | some x=>simp[tT,fC,cmpL]⟩
def Hb.size(h:Hb T b):(T 0).length+(T 1).length+(T 2).length+(T 3).length+(T 4).length+(T 5).length+(T 6).length+(T 7).length=b.size:=by rw[h.acc.len,h.ll.len,h.kO.len,h.due.len,h.mL.len,h.mQ.len,h.jH.len,h.pJ,tT,zK];rfl
def qzs(q:Nat×Nat×Gh):Hb (fun _=>[]) ⟨[],[],[],[],[],[],[],none,0,q⟩:=⟨.nil,.nil,.nil,.nil,.nil,.nil,.nil,rfl⟩
end
end
section
open Go Go.Pt List
open Go.IntKind (wrap)
open Classical
variable {K:Int->WP} {L:List (Nat×Obj)} {T:List Nat} {wa:World}
structure np (F:List Nat) (w:World) (F':List Nat) (w':World):Prop where
 fr:Fr F w w'
 new:∀ x∈F',x∈F\/w.heap.size<=x
section
variable {F F' F2:List Nat} {w w' w2:World}
def np.trans(h:np F w F' w')(k:np F' w' F2 w2):np F w F2 w2:=⟨h.fr.j8 k.fr h.new,fun x u=>(k.new x u).elim (h.new x) fun C=>.inr (zL h.fr.size C)⟩
def np.pre(f:Fr [] w w')(k:np F w' F' w2):np F w F' w2:=⟨(f.mono fun _ h _=>nomatch h).trans k.fr,fun x u=>(k.new x u).imp id fun h=>zL f.size h⟩
def np.Q3{B:List Nat}(h:np F w F' w'):np (B++F) w (B++F') w':=⟨h.fr.mono fun _ h _=>zI _ h,fun x C=>(zD.1 C).elim (fun u=>.inl (zH _ u)) fun u=>(h.new x u).imp (zI _) id⟩
end
def rO (w:World) (Y:List Nat) (sb pb:Nat) (F:List Nat) (c:Nat) (b:Bk):Prop:=∃dbk FD h D M Fo,F=FD++h/\nG w Y sb dbk pb FD h D M c (b.cm.1,b.cm.2.1) Fo/\HG∉FD/\sb∉FD/\Hb (fun t=>(Fo t).1) b/\c<=100000/\b.cm.2.1<=150/\b.cm.2.2=(pb,D,ma M)
def SB (w:World) (Y:List Nat) (sb:Nat) (F:List Nat) (c:Nat) (b:Bk):Prop:=∃pb,rO w Y sb pb F c b
section
variable {w w' w1:World} {Y Y' F F':List Nat} {sb c:Nat} {b b':Bk}
def SB.q7(h:SB w Y sb F c b)(f:Fr [] w w'):SB w' Y sb F c b:=by obtain⟨pb,dbk,FD,E,D,M,Fo,rfl,G,u,C,I,J,R⟩:=h;exact⟨pb,dbk,FD,E,D,M,Fo,rfl,G.q7 f,u,C,I,J,R⟩
def SB.y0(h:SB w Y sb F c b)(G:∀b∈Y',b∈Y):SB w Y' sb F c b:=by obtain⟨pb,dbk,FD,I,D,M,Fo,rfl,u,C,E,J,R,U⟩:=h;exact⟨pb,dbk,FD,I,D,M,Fo,rfl,⟨u.tw.y0 G,u.st,u.cell,u.out⟩,C,E,J,R,U⟩
def SB.yf(h:SB w Y sb F c b):∀b∈Y,b∉F:=by obtain⟨pb,dbk,FD,J,D,M,Fo,rfl,u,E,G,R,U,V⟩:=h;exact fun b C I=>(zD.1 I).elim (fun h=>(u.tw.sep b C).1 h) (u.tw.yf b C)
def SB.FX{L':List (Nat×Obj)}(h:SB wa (eY L++Y) sb F c b)(G:sb∉eY L)(o:dM (eY L) wa w L'):SB w (eY L'++Y) sb F c b:=by obtain⟨pb,dbk,FD,I,D,M,Fo,rfl,u,C,E,J,R,U⟩:=h;exact⟨pb,dbk,FD,I,D,M,Fo,rfl,⟨u.tw.J0 o,u.st,o.pd u.cell G,u.out⟩,C,E,J,R,U⟩
def SB.own(h:SB w (eY L++Y) sb F c b)(o:dM T wa w L)(s:np F w F' w'):dM (eY L) w' w' L:=pS o s.fr fun b u=>h.yf b (zH _ u)
def SB.lt(h:SB w Y sb F c b):sb<w.heap.size:=by obtain⟨pb,dbk,FD,G,D,M,Fo,rfl,u,C,E,I,J,R⟩:=h;exact eT u.cell
def rO.sw{pb:Nat}{K:Addr->Option Addr->Prop}(h:rO w1 Y sb pb F c b)(f:Fr [] w1 w)(u:K (dd sb) (pW pb)):nn (pW sb) fun a=>ld .ptr a w (K a):=by
 obtain⟨dbk,FD,I,D,M,Fo,rfl,C,E,G,J,R,U⟩:=h
 have:=(C.q7 f).cell
 exact fq (iG this (pW pb) rfl u)
def rO.held{pb:Nat}(h:rO w1 Y sb pb F c b)(f:Fr [] w1 w):w.cell? (dd sb)=some (dB pb):=by obtain⟨dbk,FD,G,D,M,Fo,rfl,u,C,E,I,J,R⟩:=h;rw[je (u.q7 f).cell];rfl
def rO.put{t pb:Nat}{g v:Key}{ks vs:Sl}{K:Int->WP}(h:rO w1 Y sb pb F c b)(f:Fr [] w1 w)(hr:3*b.size+1<=c)(ht:t<8)(hk:g.length=(kv t).1/\eB g)(hv:v.length=(kv t).2/\eB v)(rk:kG w1 w ks g)(rv:kG w1 w vs v)(E:∀T,Hb T b->Hb (md T t (fC g v (T t))) b')(kk:∀F' w',rO w' Y sb pb F' c b'->np F w1 F' w'->K 0 w')(C:b'.cm=b.cm:=by rfl):cW 50 [dB pb,.i t,ks.v,vs.v] df w K:=by
 obtain⟨dbk,FD,Fp,D,M,Fo,rfl,G,I,J,U,V,hj⟩:=h;have h1:=G.q7 f;refine h1.put ht (by have:=U.size;unfold jy;omega) V hk hv (rk.to G.tw.uu) (rv.to G.tw.uu) fun F' w' M' P' R hB f2 n=>kk (FD++F') w' ⟨dbk,FD,F',D,M',_,rfl,by rw[C];exact R,I,J,?_,V,by rw[C,hB];exact hj⟩ (.pre f (np.Q3 ⟨f2,n⟩));have e:(fun u=>(nT Fo t (fC g v (Fo t).1,P') u).1)=md (fun u=>(Fo u).1) t (fC g v (Fo t).1):=by funext u;unfold nT md;split<;>rfl
 rw[e];exact E _ U
def SB.put{t:Nat}{g v:Key}{ks vs:Sl}{K:Int->WP}(h:SB w1 Y sb F c b)(f:Fr [] w1 w)(E:3*b.size+1<=c)(G:t<8)(I:g.length=(kv t).1/\eB g)(J:v.length=(kv t).2/\eB v)(R:kG w1 w ks g)(U:kG w1 w vs v)(u:∀T,Hb T b->Hb (md T t (fC g v (T t))) b')(V:∀F' w',SB w' Y sb F' c b'->np F w1 F' w'->K 0 w')(C:b'.cm=b.cm:=by rfl):nn (pW sb) fun a=>ld .ptr a w fun p=>cW 50 [.pointer p,.i t,ks.v,vs.v] df w K:=
 h.elim fun pb h=>h.sw f (h.put f E G I J R U u (fun F' w' h=>V F' w' ⟨pb,h⟩) C)
end
section
def Ao:HL ku:=(0,0,0,0,0,0,0,0,0,0,0,0,0,0,0)
def oZ{a b:List Int}(h:eB a)(u:eB b):eB (a++b):=fun x C=>(zD.1 C).elim (h x) (u x)
def qxa(a:HL ku):eB (qc a):=oZ (oz _) (oZ (oz _) (oZ (oz _) (oZ (oz _) (oZ (pf _ _) (oZ (pf _ _) (oZ (pf _ _) (oZ (pf _ _) (pf _ _))))))))
def qx3(a:HL oq):eB (oW a):=oZ (oz _) (oZ (oz _) (oZ (oz _) (oZ (oz _) (oZ (pf _ _) (oZ (pf _ _) (oZ (pf _ _) (oZ (pf _ _) (oZ (pf _ _) (pf _ _)))))))))
def qyO(k:Kp):eB (tX k):=oZ (qx3 _) (oz _)
def qxV{r:HL lX}(h:kx lX r):eB (rQ r):=fun x u=>by rcases zG.1 u with rfl|u;exact qyd h.2.2.2.2.2.2.2.2.2;exact (oZ (oz _) (oZ (oz _) (oZ (oz _) (oz _)))) x u
section
variable {w w' w1:World} {Y F:List Nat} {sb c:Nat} {b b':Bk}
def SB.cut{t:Nat}{g:Key}{ks:Sl}{K:Int->WP}(h:SB w1 Y sb F c b)(f:Fr [] w1 w)(hr:3*b.size+1<=c)(ht:t<8)(rk:kG w1 w ks g)(E:∀T,Hb T b->g∈dL (T t))(G:∀T,Hb T b->Hb (md T t (gb g (T t))) b')(kk:∀F' w',SB w' Y sb F' c b'->np F w1 F' w'->K 0 w')(C:b'.cm=b.cm:=by rfl):nn (pW sb) fun a=>ld .ptr a w fun p=>cW 61 [.pointer p,.i t,ks.v] df w K:=by
 obtain⟨pb,dbk,FD,Fp,D,M,Fo,rfl,V,I,J,R,hc,hj⟩:=h;have h1:=V.q7 f;refine h1.sw (h1.cut ht (by have:=R.size;unfold jy;omega) hc (E _ R) (rk.to V.tw.uu) fun F' w' M' P' U hB f2 n=>kk (FD++F') w' ⟨pb,dbk,FD,F',D,M',_,rfl,by rw[C];exact U,I,J,?_,hc,by rw[C,hB];exact hj⟩ (.pre f (np.Q3 ⟨f2,n⟩)));have e:(fun u=>(nT Fo t (gb g (Fo t).1,P') u).1)=md (fun u=>(Fo u).1) t (gb g (Fo t).1):=by funext u;unfold nT md;split<;>rfl
 rw[e];exact G _ R
end
end
section
section
variable {w w' w1:World} {Y F:List Nat} {sb c:Nat} {b b':Bk}
def qt7{a:HL ku}(h:SB w Y sb F c b)(C:3*b.size+1<=c)(E:kx ku a)(G:∀F' w',SB w' Y sb F' c (b.lO a)->np F w F' w'->K 0 w'): cW 20 [dB sb,.agg (HL.mk ku a).toArray] df w K:=by refine qft<|oB (oE [] w) fun U w1 _ u o=>oC o 0 rfl a rfl (qtS fun s t w2 I J R=>?_);exact SB.put (t:=0) h (u.trans R) C oM ⟨m8 _,oz _⟩ ⟨qqH _,qxa _⟩ (I.up u.size) (J.up u.size) (fun T q=>q.lO E) G
def qua{i0 u x:Int}(h:SB w Y sb F c b)(V:3*b.size+1<=c)(hi:mX (i0,u))(E:IntKind.u8.has x)(kk:∀F' w',SB w' Y sb F' c (b.li ((i0,u),x))->np F w F' w'->K 0 w'): cW 67 [dB sb,c6 i0 u,.b x] df w K:=by
 refine qfW ?_;obtain⟨pb,h⟩:=h;have hB:eB [x]:=fun z hz=>by rw[zE.1 hz];exact qyd E
 have new:∀ {w2 G:World} {r:Nat},Fr [] w w2->r=w2.heap.size->G.heap[r]?=some (.cells (fM [x]) 5 (0,0))->kG w G ⟨pW r,1,1⟩ [x]:=fun f e hb=>BR (by have:=f.size;omega) hb (zM _) (zM _) rfl;refine oB (oE [] w) fun r1 w1 _ C o=>⟨h.sw C.drew (oC o.drew 0 rfl (i0,u) rfl (yp fun r4 G I J=>ia (h.held (C.drew.trans J)) (oB (o.drew.q7 J) fun r5 w4 R f4 o=>?_))),h.sw C.drew (oC o.drew 0 rfl (i0,u) rfl (oB o.drew fun r5 w4 R f4 o=>?_))⟩;refine jX (o.cells 1 rfl rfl) (h.held o.fr) (h.put (t:=2) o.fr V oM ⟨m8 _,oz _⟩ ⟨rfl,hB⟩ ((I.q7 f4).up C.drew.size) (new (C.drew.trans J) R (o.at (i:=0) rfl)) (fun T q=>q.li (a:=((i0,u),x)) ⟨hi,E⟩) fun F' w' h=>kk F' w' ⟨pb,h⟩);refine jX (o.cells 1 rfl rfl) (h.held o.fr) (yp fun r6 w5 I U=>ia (h.held (o.fr.trans U)) ?_);exact h.put (t:=2) (o.fr.trans U) V oM ⟨m8 _,oz _⟩ ⟨rfl,hB⟩ (I.up o.fr.size) (new C.drew R ((o.q7 U).at (i:=0) rfl)) (fun T q=>q.li (a:=((i0,u),x)) ⟨hi,E⟩) fun F' w' h=>kk F' w' ⟨pb,h⟩
def Em{u C d2 d3:Int}(h:SB w Y sb F c b)(G:3*b.size+1<=c)(I:kx iS (u,C,d2,d3))(J:∀F' w',SB w' Y sb F' c (b.jh (u,C,d2,d3))->np F w F' w'->K 0 w'): cW 26 [dB sb,.agg #[.int .u64 u,.int .u64 C,.int .u64 d2,.int .u64 d3]] df w K:=by refine qhU<|oB (oE [] w) fun r1 w1 _ E o=>oC o 0 rfl (u,C,d2,d3) rfl (qmK fun s t w2 R U V=>?_);exact SB.put (t:=3) h (E.trans V) G oM ⟨wn _ _,Df _ _⟩ ⟨m8 _,oz _⟩ (R.up E.size) (U.up E.size) (fun T q=>q.jh I) J
def qt8{a0 u:Int}{r:HL lX}(h:SB w Y sb F c b)(E:3*b.size+1<=c)(G:mX (a0,u))(C:kx lX r)(I:∀F' w',SB w' Y sb F' c (b.lG ((a0,u),r))->np F w F' w'->K 0 w'): cW 71 [dB sb,c6 a0 u,.agg (HL.mk lX r).toArray] df w K:=by refine qhV<|oB (oE [] w) fun V w1 _ f1 o=>oB o fun r3 w2 _ f2 o=>oC o 1 rfl (a0,u) rfl (oC o 0 rfl r rfl (qtT fun s t w3 J R U=>?_));exact SB.put (t:=6) h (o.fr.trans U) E oM ⟨Ef _ _,Fq _ _⟩ ⟨qxW _,qxV C⟩ (J.up o.fr.size) (R.up o.fr.size) (fun T q=>q.lG (a:=((a0,u),r)) ⟨G,C⟩) I
end
end
section
section
variable {w w' w1:World} {Y F F':List Nat} {sb pb c:Nat} {b b':Bk}
def rO.J0(h:rO wa Y sb pb F c b)(o:dM [] wa w L):rO w (eY L++Y) sb pb F c b:=by obtain⟨dbk,FD,G,D,M,Fo,rfl,u,C,E,I,J,R⟩:=h;exact⟨dbk,FD,G,D,M,Fo,rfl,⟨u.tw.cB o,u.st,o.pd u.cell (fun h=>nomatch h),u.out⟩,C,E,I,J,R⟩
def rO.own(h:rO w (eY L++Y) sb pb F c b)(o:dM T wa w L)(s:np F w F' w'):dM (eY L) w' w' L:=pS o s.fr fun b u=>SB.yf ⟨pb,h⟩ b (zH _ u)
abbrev c8:List Cell:=[.u,.u,.u,.u,.u,.u,.u,.u]
def qt9{k:Kp}(h:SB w Y sb F c b)(hr:3*(b.size+3)+1<=c)(C:tV k)(kk:∀F' w',SB w' Y sb F' c (b.jF k)->np F w F' w'->K 0 w'): cW 24 [dB sb,.agg (rz k).toArray] df w K:=by refine qe1 ?_;obtain⟨pb,h⟩:=h;refine oB (oE [] w) fun r1 w1 _ f1 o=>oC o 0 rfl k.1 rfl (oB o fun r4 w2 _ f2 o=>o.st' 0 rfl _ (oc rfl) rfl (zM _) fun w3 o f3=>?_);refine qA (o.at (i:=1) rfl) (rz k) rfl rfl (qtU fun s t w4 hs ht f4=>?_);have J:=o.fr;have h:=h.J0 o;have p1:=uz (kf:=rV) (a:=k) (l:=b.ll);have p2:=uz (kf:=ow) (a:=wI k.1) (l:=b.mL);have z1:(b.k7 k).size<=b.size+1:=(by unfold Bk.size Bk.k7;dsimp only;omega);have z2:((b.k7 k).my (wI k.1)).size<=b.size+2:=(by unfold Bk.size Bk.my Bk.k7;dsimp only;omega);have hi:mX (pQ k.1):=⟨C.1.1,C.1.2.1⟩;have hn:IntKind.u64.has k.1.2.2.2.2.2.2.2.2.2.2.2.2.2.2.2:=C.1.2.2.2.2.2.2.2.2.2.2.2.2.2.2.2;refine h.sw f4 (h.put (t:=1) f4 oJ oM ⟨m8 _,oz _⟩ ⟨qts _,qyO _⟩ hs ht (fun T q=>q.k7 C) fun F5 w5 G s5=>cond_false rfl ?_);have o5:=h.own o s5;have o:=o5.drew;have g:=(Fr.refl [] w5).drew;have R:mX (k.1.2.2.1,k.1.2.2.2.1):=⟨C.1.2.2.1,C.1.2.2.2.1⟩;have U:mX (k.1.2.2.2.2.1,k.1.2.2.2.2.2.1):=⟨C.1.2.2.2.2.1,C.1.2.2.2.2.2.1⟩;refine G.sw g (oC o 0 rfl (k.1.2.2.1,k.1.2.2.2.1) rfl (oA o 0 rfl k.1.2.2.2.2.2.2.2.2.2.2.2.2.2.2.2 rfl (oC o 0 rfl (k.1.1,k.1.2.1) rfl (Cd fun s6 w6 V u=>jX ((o.q7 u).cells 0 rfl rfl) (G.held (g.trans u)) (yp fun r7 w7 h7 E=>ia (G.held ((g.trans u).trans E)) ?_)))));refine G.put (t:=4) ((g.trans u).trans E) oJ oM ⟨Ef _ _,Fq _ _⟩ ⟨m8 _,oz _⟩ ((V.q7 E).up (zM _)) (h7.up u.size) (fun T q=>q.my (a:=wI k.1) ⟨⟨R,hn⟩,hi⟩) fun F8 w8 I s8=>cond_false rfl ?_;have o:=(G.own o5 s8).drew;have g:=(Fr.refl [] w8).drew;refine I.sw g (oC o 0 rfl (k.1.2.2.2.2.1,k.1.2.2.2.2.2.1) rfl (oA o 0 rfl k.1.2.2.2.2.2.2.2.2.2.2.2.2.2.2.2 rfl (oC o 0 rfl (k.1.1,k.1.2.1) rfl (Cd fun s6 w9 V u=>jX ((o.q7 u).cells 0 rfl rfl) (I.held (g.trans u)) (yp fun r7 au h7 E=>ia (I.held ((g.trans u).trans E)) ?_)))));exact I.put (t:=5) ((g.trans u).trans E) oJ oM ⟨Ef _ _,Fq _ _⟩ ⟨m8 _,oz _⟩ ((V.q7 E).up (zM _)) (h7.up u.size) (fun T q=>q.oe (a:=Cg k.1) ⟨⟨U,hn⟩,hi⟩) fun ab ac ad ae=>kk ab ac (SB.y0 ⟨pb,ad⟩ fun _ h=>zI _ h) (.pre J ((s5.trans s8).trans ae))
end
end
end
section
open Go Go.Pt List
open Go.IntKind (wrap)
open Classical
end
section
open Go Go.Pt List
open Go.IntKind (wrap)
open Classical
end
section
open Go Go.Pt List
open Go.IntKind (wrap)
open Classical
section
variable {w:World} {a b:jc} {K:jc×Bool->WP}
end
end
section
open Go Go.Pt List
open Go.IntKind (wrap)
open Classical
end
section
open Go Go.Pt List
open Go.IntKind (wrap)
open Classical
variable {K:Int->WP}
section
variable {w w' w1:World} {Y F F':List Nat} {sb pb c:Nat} {b b':Bk}
end
section
section
variable {w w' w1:World} {Y F F':List Nat} {sb c:Nat} {b:Bk} {ks vs:Sl}
def qyZ:eB [1]:=fun x h=>by rw[zE.1 h];exact⟨oM,oM⟩
end
end
section
section
variable {w w' w1:World} {Y F F':List Nat} {sb c:Nat} {b:Bk}
def qtw{r:Nat}{T:TypeId}(h:w.heap.size<=r)(u:w'.heap[r]?=some (.cells #[.b 1] T (0,0))):kG w w' ⟨pW r,1,1⟩ [1]:=BR (L:=[1]) h u oM oM rfl
def qsg{n:Int}(h:SB w Y sb F c b)(J:3*b.size+1<=c)(R:∀F' w',SB w' Y sb F' c (b.jC n)->np F w F' w'->K 0 w'): cW 19 [dB sb,.int .u64 n] df w K:=by
 refine qg7 ?_;obtain⟨pb,h⟩:=h;have g:=(Fr.refl [] w).drew;have C:∀ {r:Nat} {s:Sl} {w2:World},Fr [] w w2->kG w w2 ⟨pW r,1,1⟩ [1]->kG w w2 s (bw 8 n)->cW 50 [dB pb,.i 7,.slice (pW r) 1 1,s.v] df w2 K:=fun {r s w2} f U V=>
  h.put (t:=7) (ks:=⟨pW r,1,1⟩) f J oM ⟨rfl,qyZ⟩ ⟨kY _ _,pf _ _⟩ U V (fun T q=>q.jC) fun F' w' h s=>R F' w' ⟨pb,h⟩ s
 refine⟨h.sw g (oB (oE [] w.drew) fun r w1 e1 E o=>ia (h.held (g.trans E)) (Ah fun r2 w2 G u=>ia (h.held ((g.trans E).trans u)) (C ((g.trans E).trans u) (qtw (by rw[e1];exact zM _) ((o.q7 u).at (i:=0) rfl)) (G.up E.size)))),?_⟩;exact h.sw g (Ah fun r2 w2 G u=>ia (h.held (g.trans u)) (oB (oE [] w2) fun r w3 e3 I o=>ia (h.held ((g.trans u).trans I)) (C ((g.trans u).trans I) (qtw (by rw[e3];exact u.size) (o.at (i:=0) rfl)) (G.q7 I))))
end
end
section
section
variable {w w':World} {Q:Nat×Nat} {sb dbk pb c t:Nat} {Y FD F F':List Nat} {D:dE} {M M':dU} {Fo Fo':jL} {b:Bk}
def nG.na{K:Int->WP}(h:nG w Y sb dbk pb FD F D M c Q Fo)(hq:Q.2<=100)(R:c+eC Q.1+jy Fo+2<=Q.1)(U:eC Q.1+jy Fo<=c)(G:HG∉FD)(V:sb∉FD)(kk:∀u F' w' D' M',nG w' Y sb dbk pb u F' D' M' c (Q.1,Q.2+1) Fo->HG∉u->sb∉u->Fr (FD++F) w w'->(∀b∈u++F',b∈FD++F\/w.heap.size<=b)->K 0 w'): cW 72 [pP pb] df w K:=by obtain⟨D',M',e,hS⟩:=h.st.na oJ R U;have ht:=h.st.J1.x6;have hl:=eT h.cell;have ae:HG<w.heap.size:=h.tw.uu HG (by simp[Zo]);refine qtL h.tw oJ ⟨ht.1,oJ⟩ G fun u F' w' I f n=>?_;rw[e] at I⊢;have E:sb∉FD++F:=fun C=>(zD.1 C).elim V h.out;have hF:HG∉FD++F:=fun C=>(zD.1 C).elim G (h.tw.x8.sep HG oL);exact kk u F' w' D' M' ⟨I,hS,by rw[f.block sb hl E];exact h.cell,fun C=>(n sb (zI _ C)).elim E fun J=>oJ⟩ (fun C=>(n HG (zH _ C)).elim hF fun J=>oJ) (fun C=>(n sb (zH _ C)).elim E fun J=>oJ) f n
def SB.na{K:Int->WP}(h:SB w Y sb F c b)(hp:w.heap[sb]?=some (.cells #[pP pb] yi (0,0)))(hq:b.cm.2.1<=100)(hc:c+eC b.cm.1+b.size+2<=b.cm.1)(hr:eC b.cm.1+b.size<=c)(kk:∀F' w' g,SB w' Y sb F' c (b.vP.gs g)->np F w F' w'->K 0 w'):cW 72 [pP pb] df w K:=by
 obtain⟨E,dbk,FD,Fp,D,M,Fo,rfl,hS,G,I,u,J,hj⟩:=h;have e:pb=E:=by
  have:=hS.cell
  rw[hp] at this;cases this;rfl
 subst e;have hs:=u.size;have hk:jy Fo=b.size:=(by unfold jy;exact hs);refine hS.na (Q:=(b.cm.1,b.cm.2.1)) hq oN oN G I fun C F' w' D' M' R U V f n=>kk (C++F') w' (pb,D',ma M') ⟨pb,dbk,C,F',D',M',Fo,rfl,R,U,V,⟨u.acc,u.ll,u.kO,u.due,u.mL,u.mQ,u.jH,u.pJ⟩,J,by show b.cm.2.1+1<=150;omega,rfl⟩ ⟨f,n⟩
end
end
section
section
variable {dbk pb j:Nat} {FD Y F:List Nat} {D:dE} {M:dU} {k v:Nat} {t:Int} {w0:World}
def qwS{ks:Sl}{key:Key}{f2:Nat}(E:eB key)(R:qS t=((k:Int),(v:Int)))(C:k≠0)(G:key.length=k)(V:TW dbk pb FD D j w0 Y F M)(U:eE (Zo FD Y F) w0 ks key)(u:(lB D k v key M f2 (dS M t).1).2=5)(kk:∀w',Fr [] w0 w'->K 5 w'): cW 61 [dB pb,.i t,ks.v] df w0 K:=by refine qlT ?_;have ab:=U.1;have h:=oE [] w0;refine oB h fun r1 w2 _ _ h=>oA h 0 rfl ks rfl<|C1 (k:=k) (v:=v) R (fun h=>absurd h C) (fun _ h=>absurd oJ h) fun _ _ w7 f7=>?_;have h:=h.q7 f7;refine oB h fun r8 w9 _ _ h=>oD h 0 rfl (mR (jt k v pb t)) fun ad h _=>cond_false rfl<|oA h 1 rfl ks rfl<|qsR (f:=f2) E R C G (V.cB h) (tz U h) (by rw[u];decide) fun s I _ J=>?_;rw[u];exact cond_true rfl (kk I (h.fr.trans J))
end
section
variable {w w' w1:World} {Q:Nat×Nat} {sb dbk pb c t:Nat} {Y FD F F':List Nat} {D:dE} {M M':dU} {Fo Fo':jL} {key val:Key} {ks vs:Sl} {b b':Bk}
def nG.tt(h:nG w Y sb dbk pb FD F D M c Q Fo)(C:t<8)(E:key.length=(kv t).1/\eB key)(I:key∉dL (Fo t).1)(J:eE (Zo FD Y F) w ks key)(R:∀w',Fr [] w w'->K 5 w'):cW 61 [pP pb,.i t,ks.v] df w K:=by have u:=yw C;have U:=h.st.J0.J2 t C;have G:=U.get (key:=key) h.st.J1.wf h.st.J1.Q3;have V:kX key (Fo t).1=none:=Al fun x hx e=>I (by rw[<- e];exact zY hx);rw[V] at G;exact qwS (f2:=(dS M t).2.2.toNat) E.2 u.1 oJ E.1 h.tw J (by rw[G]) R
def SB.tt{t:Nat}{g:Key}{ks:Sl}{K:Int->WP}(h:SB w1 Y sb F c b)(f:Fr [] w1 w)(E:t<8)(G:g.length=(kv t).1/\eB g)(I:kG w1 w ks g)(J:∀T,Hb T b->g∉dL (T t))(R:∀w',Fr [] w w'->K 5 w'):nn (pW sb) fun a=>ld .ptr a w fun p=>cW 61 [.pointer p,.i t,ks.v] df w K:=by obtain⟨pb,dbk,FD,Fp,D,M,Fo,rfl,u,U,V,hb,hc,hj⟩:=h;have C:=u.q7 f;exact C.sw (C.tt E G (J _ hb) (I.to u.tw.uu) R)
def qsf{u C d2 d3:Int}(h:SB w Y sb F c b)(U:3*b.size+1<=c)(I:kx iS (u,C,d2,d3))  (V:(∃x∈b.due,kP x=(u,C))->∀F' w',SB w' Y sb F' c (b.ka (u,C,d2,d3))->np F w F' w'->K 0 w')(k5:(∀x∈b.due,kP x≠(u,C))->∀w',Fr [] w w'->K 5 w'): cW 25 [dB sb,.agg #[.int .u64 u,.int .u64 C,.int .u64 d2,.int .u64 d3]] df w K:=by refine qhT<|oB (oE [] w) fun r1 w1 _ E o=>oC o 0 rfl (u,C,d2,d3) rfl (qmK fun s t w2 R ht J=>?_);by_cases hin:∃x∈b.due,kP x=(u,C);exact SB.cut (t:=3) h (E.trans J) U oM (R.up E.size) (fun T q=>mh.mem (K:=sW) (k:=(u,C)) q.due hin) (fun T q=>q.ka I) (V hin);exact SB.tt (t:=3) h (E.trans J) oM ⟨wn _ _,Df _ _⟩ (R.up E.size) (fun T q hm=>by obtain⟨x,G,e⟩:=q.due.1.J6.1 hm;exact hin ⟨x,G,T64.inj (q.due.2 x G |>.1 |> fun h=>⟨h,(q.due.2 x G).2.1⟩) ⟨I.1,I.2.1⟩ e⟩) fun w' f=>k5 (fun x G e=>hin ⟨x,G,e⟩) w' ((E.trans J).trans f)
def qso{d:HL iS}(h:∀x∈b.due,kP x≠kP d):b.ka d=b:=by unfold Bk.ka iX;rw[filter_eq_self.2 fun x u=>zZ (h x u)]
end
end
end
section
open Go Go.Pt List
open Go.IntKind (wrap)
variable {K:Int->WP}
structure oQ where
 pb:Nat
 k:Nat
 v:Nat
 frm:Sl
 to:Sl
 st:Sl
 f1:Value
 f2:Value
 f3:Value
def oQ.cells (x:oQ):Array Value:=#[.pointer (some ⟨x.pb,0,none⟩),.i x.k,.i x.v,x.frm.v,x.to.v,x.st.v,x.f1,x.f2,x.f3]
def mw (w:World) (cb:Nat) (x:oQ):Prop:=∃T,w.heap[cb]?=some (.cells x.cells T (0,0))
def mw.q8{S:List Nat}{w w':World}{cb:Nat}{x:oQ}(h:mw w cb x)(f:Fr S w w')(u:cb∉S):mw w' cb x:=by obtain⟨T,h⟩:=h;exact⟨T,by rw[f.block cb (eT h) u];exact h⟩
def mw.q7{w w':World}{cb:Nat}{x:oQ}(h:mw w cb x)(f:Fr [] w w'):mw w' cb x:=h.q8 f fun h=>nomatch h
def mw.frm{w:World}{cb:Nat}{x:oQ}{K:Sl->Prop}(h:mw w cb x)(k:K x.frm):ld .slice (dd cb 3) w K:=by obtain⟨T,h⟩:=h;exact oV x.frm (je h) k
def mw.to{w:World}{cb:Nat}{x:oQ}{K:Sl->Prop}(h:mw w cb x)(k:K x.to):ld .slice (dd cb 4) w K:=by obtain⟨T,h⟩:=h;exact oV x.to (je h) k
section
variable {w:World} {cb:Nat} {x:oQ} {S:List Nat} {y:jP} {n:dG} {frm to:Key}
def qz7{i:Int}(hi:-1000000<=i/\i<=1000000)(h:K (i+1) w):cW 76 [dB cb,.i i] df w K:=by refine qja ?_;rw[IntWalk.i64_in _ oJ];exact h
def qyy{i:Int}(hi:-1000000<=i/\i<=1000000)(h:K (i-1) w):cW 79 [dB cb,.i i] df w K:=by refine qhj ?_;rw[IntWalk.i64_in _ oJ];exact h
def qw8{ks:Sl}{key:Key}{K:Bool->WP}(h:mw w cb x)(u:eE S w ks key)(C:eE S w x.to to)(E:eB key)(G:eB to)(I:K (decide (cmpL key to>0)) w):cW 78 [dB cb,ks.v] dg w K:=by refine qgX<|fq (h.to ?_);exact A3 u C E G I
def qxe{ks:Sl}{key:Key}{K:Bool->WP}(h:mw w cb x)(u:eE S w ks key)(C:eE S w x.frm frm)(E:eB key)(G:eB frm)(I:K (decide (cmpL key frm<0)) w):cW 81 [dB cb,ks.v] dg w K:=by refine qgY<|fq (h.frm ?_);exact A3 u C E G I
def qxi(h:mw w cb x)(E:ef S w y n)(R:eE S w x.frm frm)(U:eB frm)(V:fE n.J6)(hl:n.J6.length<=1000000)(kk:∀w',Fr [] w w'->K (jE n frm) w'):cW 77 [dB cb,.agg (eF y)] df w K:=by
 refine qie<|oB (oE [] w) fun r w1 e1 f1 ho=>oA ho 0 rfl y.1 rfl ?_;have hd:=oF ho;have u:=f1.trans (Fr.refl [] w1).drew;have hy:y.1=n.Q4:=E.1;apply dR<;>intro G;have C:n.Q4=false:=(by rw[<- hy];simpa using G);refine oC hd 0 rfl y rfl<|fq ((h.q7 u).frm ?_);refine Bc (E.q7 u) (R.q7 u) U V hl fun I J=>?_
 have:=kk I (u.trans J)
 rw[jE,if_neg (by rw[C];decide)] at this;exact this;have C:n.Q4=true:=(by rw[<- hy];simpa using G);refine oC hd 0 rfl y rfl<|fq ((h.q7 u).frm ?_);refine BX (E.q7 u) (R.q7 u) U V hl fun I J=>?_
 have:=kk I (u.trans J)
 rw[jE,if_pos C] at this;exact this
def qvx(h:mw w cb x)(G:ef S w y n)(U:eE S w x.to to)(V:eB to)(hr:fE n.J6)(hl:n.J6.length<=1000000)(kk:∀w',Fr [] w w'->K (ib n to) w'):cW 80 [dB cb,.agg (eF y)] df w K:=by
 refine qhk<|oB (oE [] w) fun r w1 e1 f1 ho=>?_;have I:=oF ho;have u:=f1.trans (Fr.refl [] w1).drew;have J:y.1=n.Q4:=G.1;refine oC I 0 rfl y rfl<|fq ((h.q7 u).to ?_);have af:=xh n.J6 to;refine Bc (G.q7 u) (U.q7 u) V hr hl fun w3 R=>?_;have C:=I.q7 R;refine oA C 0 rfl y.1 rfl ?_
 have:=kk w3 (u.trans R)
 apply dR<;>intro E;rw[ib,if_pos (by rw[<- J];exact E)] at this;rw[IntWalk.i64_in _ oJ];exact this;rw[ib,if_neg (by rw[<- J,E];decide)] at this;exact this
end
end
end Go.Proofs.YtpcmehldpoljfaaGreatDoor
namespace Go.Pt
section
open Go
def yh{P:Program}{w:World}{v:Value}{f:FuncId}{ra args:List Value}{ts:List gO}{K:iO ts->WP}(h:v=.func (.func f) ra.toArray #[])(u:iq P f=false)(k:call P f (ra++args) ts w K):dV P v args ts w K:=by subst h;refine .inl ⟨f,ra++args,?_,k⟩;simp[Deferred.ofValue,invoke,xq u]
def CU{S ι:Type}{B:(S->WP)->S->WP}{s:S}{w:World}(I:ι->S->WP)(m:ι->Nat)(i0:ι)(G:I i0 s w)(step:∀i s w,I i s w->∀X:S->WP,(∀h u w',I h u w'->m h<m i->X u w')->B X s w):loop S B s w:=by
 intro J R;have key:∀k i s w,m i=k->I i s w->J s w:=by
  intro k;induction k using Nat.strongRecOn with
  | _ k ih=>
   intro i s w U V;exact R s w (step i s w V J fun h u w' C E=>ih (m h) (U▸E) h u w' rfl C)
 exact key _ i0 s w rfl G
end
end Go.Pt
namespace Go.Proofs.YtpcmehldpoljfaaGreatDoor
open Go Go.Pt
attribute [local irreducible] ld dJ iH mZ i7 fi st new idx i8 jr fB js iY lV gT nn call dV inv run fc iM join loop held ext jR eI mH mz mI IntKind.wrap
section
open Go Go.Pt List
open Go.IntKind (wrap)
abbrev pT:=jP×jU
def Aa (x:jP) (i:Int):Array Value:=#[.bool x.1,x.2.1.v,x.2.2.1.v,x.2.2.2.v,.i i]
def iJ (z:pT):List Value:=[.bool z.1.1,z.1.2.1.v,z.1.2.2.1.v,z.1.2.2.2.v,.i z.2.2]
def uQ:∀z,(iJ z).length=5:=fun _=>rfl
def qvJ(z:pT):∀u∈iJ z,u.oneCell'=true:=fun u h=>by unfold iJ at h;simp only[zG,xW,or_false] at h;rcases h with rfl|rfl|rfl|rfl|rfl<;>rfl
section
variable {w w':World} {s:Sl} {zs:List pT} {z:pT} {SB:List Nat}
def BQ(h:eO iJ 5 w s (zs++[z]) SB):∃b u T,SB=[b]/\s.a=pW b/\w.heap[b]?=some (.cells u T (0,0))/\s.len=zs.length+1/\s.len<=s.cap/\s.cap*5<=u.size/\u.toList.take (zs.length*5+5)=zs.flatMap iJ++iJ z:=by rcases h with ⟨_,h,_⟩|⟨b,o,u,T,G,rfl,I,J,E,R,U,C⟩;exact absurd h oL;rw[zF,xL] at E C;rw[xE,yP,yG,flatMap_nil,xG,xT] at C;exact⟨b,u,T,G,I,J,E,R,oJ,C⟩
def qx0{b j:Nat}(h:eO iJ 5 w s (zs++[z]) [b])(I:j<5):w.cell? ⟨b,zs.length*5+j,none⟩=(iJ z)[j]?:=by obtain⟨b',J,T,C,R,E,U,V,h6,G⟩:=BQ h;cases C;rw[je E,<- xK];have u:=congrArg (·[zs.length*5+j]?) G;rw[xA,iP,yX (by rw[qi uQ];omega),qi uQ,vC] at u;exact u
def qtF{K:Addr->Prop}(h:eO iJ 5 w s (zs++[z]) SB)(G:zs.length<=1000000)(u:∀b,SB=[b]->K ⟨b,zs.length*5,none⟩):idx s (wrap .i64 ((s.len:Int)-1)) 5 K:=by obtain⟨b,I,T,C,E,J,R,U,V,h7⟩:=BQ h;have e:wrap .i64 ((s.len:Int)-1)=(zs.length:Int):=(by rw[IntWalk.i64_in _ oJ];omega);rw[e];refine pY E ⟨oJ,oJ⟩ ?_;rw[zJ,xR];exact u b C
def qzQ{b:Nat}{j:Int}{K:WP}(h:eO iJ 5 w s (zs++[z]) [b])(kk:∀w',eO iJ 5 w' s (zs++[(z.1,z.2.1,j)]) [b]->Fr [b] w w'->K w'):st ⟨b,zs.length*5+4,none⟩ [.i j] w K:=by
 obtain⟨b',cs,T,hB,h2,h3,h4,h5,h6,h7⟩:=BQ h;cases hB;have hm:(zs.flatMap iJ++iJ z).length=zs.length*5+5:=(by rw[zF,qi uQ];rfl);refine qD h3 _ rfl (by rfl) oO fun w' hb f=>kk w' (.inr ⟨b,0,_,T,rfl,rfl,h2,hb,by rw[zF,xL];exact h4,h5,by rw[mG];omega,?_⟩) f
 have:=qpR (cs:=cs) (M:=zs.flatMap iJ++iJ z) (i:=zs.length*5+4) (v:=.i j) (by rw[hm];omega) (by rw[hm];exact h7)
 rw[hm,set_append_right _ _ (by rw[qi uQ];omega),qi uQ,vC] at this;rw[xE,zF,xL,xT,yP,yG,flatMap_nil,xG];exact this
def qzd{K:Sl->Prop}(h:eO iJ 5 w s (zs++[z]) SB)(V:zs.length<=1000000)(E:∀u,eO iJ 5 w u zs SB->K u):fB s none (some (wrap .i64 ((s.len:Int)-1))) none 5 K:=by obtain⟨b,G,T,I,J,R,h4,h5,h6,U⟩:=BQ h;have e:wrap .i64 ((s.len:Int)-1)=(zs.length:Int):=(by rw[IntWalk.i64_in _ oJ];omega);rw[e];refine wD ⟨oJ,oJ⟩ ?_;rw[zJ];refine E _ (.inr ⟨b,0,G,T,I,rfl,J,R,rfl,by dsimp only;omega,by dsimp only;omega,?_⟩);have C:=congrArg (List.take (zs.length*5)) U;rw[take_take,xQ oJ] at C;rw[xE,C,take_append_of_le_length (by rw[qi uQ];exact zM _)];exact zS (by rw[qi uQ];exact zM _)
end
def mf (cb:Nat) (down:Bool):Value:=.func (.func (if down then 79 else 76)) #[dB cb] #[]
def mv (cb:Nat) (down:Bool):Value:=.func (.func (if down then 80 else 77)) #[dB cb] #[]
def nd (cb:Nat) (down:Bool):Value:=.func (.func (if down then 81 else 78)) #[dB cb] #[]
def jv (down:Bool) (frm to:Key) (n:dG):Int:=if down then ib n to else jE n frm
def jA (down:Bool) (i:Int):Int:=if down then i-1 else i+1
def mM (down:Bool) (frm to key:Key):Bool:=if down then decide (cmpL key frm<0) else decide (cmpL key to>0)
structure fX (dbk pb:Nat) (FD:List Nat) (D:dE) (F:List Nat) (M:dU) (k v:Nat) (frm to:Key) (down:Bool) (w0:World) (cb:Nat) (Y:List Nat) (w:World) (st:Sl) (SB:List Nat) (zs:List pT):Prop where
 cell:∃ sf sto,mw w cb ⟨pb,k,v,sf,sto,st,mf cb down,mv cb down,nd cb down⟩/\eE (cb::(SB++Y)) w sf frm/\eE (cb::(SB++Y)) w sto to
 tw:TW dbk pb FD D 900000 w (cb::(SB++Y)) F M
 tv:eO iJ 5 w st zs SB
 nodes:∀ z∈zs,ef (cb::(SB++Y)) w z.1 z.2.1/\fx z.2.1 k v
 CR:cb∉SB
 zo:cb∉Y
 vU:∀ b∈SB,b∉Y
 new:∀ b∈cb::SB,w0.heap.size<=b
 vL:eB frm
 Gg:eB to
 ze:zs.length<=100000
section
variable {dbk pb:Nat} {FD F:List Nat} {D:dE} {M:dU} {k v:Nat} {frm to:Key} {down:Bool} {w0 w w':World} {cb:Nat} {Y Y' SB SB':List Nat} {st st':Sl} {zs zs':List pT}
def fX.x6(h:fX dbk pb FD D F M k v frm to down w0 cb Y w st SB zs)(f:Fr (cb::(SB++Y)) w w')(hc:∃V G T,w.heap[cb]?=some (.cells (oQ.cells ⟨pb,k,v,V,G,st,mf cb down,mv cb down,nd cb down⟩) T (0,0))/\w'.heap[cb]?=some (.cells (oQ.cells ⟨pb,k,v,V,G,st',mf cb down,mv cb down,nd cb down⟩) T (0,0)))(E:eO iJ 5 w' st' zs' SB')(hn:∀z∈zs',ef (cb::(SB'++Y')) w' z.1 z.2.1/\fx z.2.1 k v)(hS:∀b∈SB',b∈SB\/w.heap.size<=b)(hY:∀b∈Y',b∈Y\/w.heap.size<=b)(ac:∀b∈Y',b<w'.heap.size)(ad:∀b∈SB',b∉Y')(hl:zs'.length<=100000):fX dbk pb FD D F M k v frm to down w0 cb Y' w' st' SB' zs':=by
 obtain⟨V,G,⟨T,u⟩,ae,af⟩:=h.cell;obtain⟨U,I,T',e,aa⟩:=hc;rw[e] at u;have e1:U=V/\I=G:=by
  injection u with u
  injection u with u
  unfold oQ.cells at u;simp only[Array.mk.injEq,List.cons.injEq,Value.slice.injEq,and_true,true_and] at u;obtain⟨⟨a1,a2,a3⟩,⟨b1,b2,b3⟩⟩:=u;exact⟨by cases V;cases U;simp_all,by cases G;cases I;simp_all⟩
 obtain⟨rfl,rfl⟩:=e1;have an:=eT e;have J:∀b∈cb::(SB'++Y'),b∈cb::(SB++Y)\/w.heap.size<=b:=fun b E=>by rcases zG.1 E with rfl|E;exact .inl oL;rcases zD.1 E with E|E;exact (hS b E).imp (fun h=>by simp[h]) id;exact (hY b E).imp (fun h=>by simp[h]) id
 have ag:∀b∈cb::(SB'++Y'),b<w'.heap.size:=fun b C=>by rcases zG.1 C with rfl|C;exact eT aa;rcases zD.1 C with C|C;exact E.lt b C;exact ac b C
 have ah:w0.heap.size<=cb:=h.new cb oL;refine⟨⟨U,I,⟨T',aa⟩,ae.q8 f J,af.q8 f J⟩,h.tw.cM f ag J,E,hn,fun hm=>?_,fun hm=>?_,ad,fun b E=>?_,h.vL,h.Gg,hl⟩;rcases hS cb hm with R|R;exact h.CR R;omega;rcases hY cb hm with R|R;exact h.zo R;omega;rcases zG.1 E with rfl|E;exact ah;rcases hS b E with R|R;exact h.new b (by simp[R]);omega
def fX.at(h:fX dbk pb FD D F M k v frm to down w0 cb Y w st SB zs):∃C u T,w.heap[cb]?=some (.cells (oQ.cells ⟨pb,k,v,C,u,st,mf cb down,mv cb down,nd cb down⟩) T (0,0)):=by obtain⟨C,u,⟨T,E⟩,_⟩:=h.cell;exact⟨C,u,T,E⟩
def fX.lt(h:fX dbk pb FD D F M k v frm to down w0 cb Y w st SB zs):∀b∈cb::(SB++Y),b<w.heap.size:=h.tw.pX
def fX.q8(h:fX dbk pb FD D F M k v frm to down w0 cb Y w st SB zs)(f:Fr Y w w')(C:∀b∈Y',b∈Y\/w.heap.size<=b)(E:∀b∈Y',b<w'.heap.size):fX dbk pb FD D F M k v frm to down w0 cb Y' w' st SB zs:=by
 obtain⟨sf,G,T,I⟩:=h.at
 have J:=eT I;have R:Fr (cb::(SB++Y)) w w':=f.mono fun b u _=>by simp[u]
 refine h.x6 R ⟨sf,G,T,I,by rw[f.block cb J h.zo];exact I⟩ (h.tv.q8 f h.vU) (fun z U=>⟨(h.nodes z U).1.q8 R fun b u=>?_,(h.nodes z U).2⟩) (fun b u=>.inl u) C E (fun b u hm=>?_) h.ze;rcases zG.1 u with rfl|u;exact .inl oL;rcases zD.1 u with u|u;exact .inl (by simp[u]);exact (C b u).imp (fun h=>by simp[h]) id;rcases C b hm with V|V;exact h.vU b u V
 have:=h.lt b (by simp[u]);omega
def fX.q7(h:fX dbk pb FD D F M k v frm to down w0 cb Y w st SB zs)(f:Fr [] w w'):fX dbk pb FD D F M k v frm to down w0 cb Y w' st SB zs:=
 h.q8 (f.mono fun _ h=>nomatch h) (fun b u=>.inl u) fun b u=>yC (h.lt b (by simp[u])) f.size
def fX.drew(h:fX dbk pb FD D F M k v frm to down w0 cb Y w st SB zs):fX dbk pb FD D F M k v frm to down w0 cb Y w.drew st SB zs:=h.q7 (Fr.refl [] w).drew
def fX.o9{K:Sl->Prop}(h:fX dbk pb FD D F M k v frm to down w0 cb Y w st SB zs)(u:K st):ld .slice (dd cb 5) w K:=by
 obtain⟨G,C,T,E⟩:=h.at
 exact oV st (je E) u
def fX.sO{K:WP}(h:fX dbk pb FD D F M k v frm to down w0 cb Y w st SB zs)(w1:World)(f:Fr SB w w1)(u:eO iJ 5 w1 st' zs' SB')(hn:∀z∈zs',z∈zs\/ef (cb::(SB'++Y)) w1 z.1 z.2.1/\fx z.2.1 k v)(R:∀b∈SB',b∈SB\/w.heap.size<=b)(hl:zs'.length<=100000)(kk:∀w',fX dbk pb FD D F M k v frm to down w0 cb Y w' st' SB' zs'->Fr (cb::SB) w w'->K w'):Pt.st (dd cb 5) [st'.v] w1 K:=by
 obtain⟨V,E,T,hc⟩:=h.at
 have ab:=eT hc;have ac:w1.heap[cb]?=some (.cells (oQ.cells ⟨pb,k,v,V,E,st,mf cb down,mv cb down,nd cb down⟩) T (0,0)):=(by rw[f.block cb ab h.CR];exact hc);have I:cb∉SB':=fun G=>by rcases R cb G with C|C;exact h.CR C;omega
 refine qD ac (oQ.cells ⟨pb,k,v,V,E,st',mf cb down,mv cb down,nd cb down⟩) rfl rfl (zO rfl) fun w2 ad f2=>?_;have U:Fr (cb::SB) w w2:=(f.mono fun b u _=>by simp[u]).j8 f2 fun b u=>.inl (by rw[zE.1 u];simp);refine kk w2 (h.x6 (U.mono fun b u _=>by rcases zG.1 u with rfl|u<;>simp[*]) ⟨V,E,T,hc,ad⟩ (u.q8 f2 fun b u G=>I (by rw[zE.1 G] at u;exact u)) (fun z hz=>?_) R (fun b u=>.inl u) (fun b u=>yC (h.lt b (by simp[u])) U.size) (fun b u G=>?_) hl) U;have J:∀b∈cb::(SB'++Y),b∈cb::(SB++Y)\/w.heap.size<=b:=fun b u=>by rcases zG.1 u with rfl|u;exact .inl oL;rcases zD.1 u with u|u;exact (R b u).imp (fun h=>by simp[h]) id;exact .inl (by simp[u])
 rcases hn z hz with C|C;exact⟨(h.nodes z C).1.q8 (U.mono fun b u _=>by rcases zG.1 u with rfl|u<;>simp[*]) J,(h.nodes z C).2⟩;exact⟨C.1.q8 (f2.mono fun b u _=>by rw[zE.1 u];simp) fun b u=>.inl u,C.2⟩;rcases R b u with C|C;exact h.vU b C G
 have:=h.lt b (by simp[G]);omega
def fX.uJ{z:pT}{b:Nat}{j:Int}{K:WP}(h:fX dbk pb FD D F M k v frm to down w0 cb Y w st [b] (zs++[z]))(U:∀w',fX dbk pb FD D F M k v frm to down w0 cb Y w' st [b] (zs++[(z.1,z.2.1,j)])->Fr [b] w w'->K w'):Pt.st ⟨b,zs.length*5+4,none⟩ [.i j] w K:=by
 refine qzQ h.tv fun w' V f=>U w' ?_ f;obtain⟨sf,G,T,I⟩:=h.at
 have J:cb∉[b]:=h.CR;have R:Fr (cb::([b]++Y)) w w':=f.mono fun x u _=>by rw[zE.1 u];simp
 have C:∀x∈cb::([b]++Y),x∈cb::([b]++Y)\/w.heap.size<=x:=fun x u=>.inl u;refine h.x6 R ⟨sf,G,T,I,by rw[f.block cb (eT I) J];exact I⟩ V (fun y E=>?_) (fun x u=>.inl u) (fun x u=>.inl u) (fun x u=>yC (h.lt x (by simp[u])) f.size) h.vU (by have:=h.ze;rw[zF] at this⊢;exact this);rcases zD.1 E with E|E;exact⟨(h.nodes y (zH _ E)).1.q8 R C,(h.nodes y (zH _ E)).2⟩;rw[zE.1 E];exact⟨ef.q8 (h.nodes z oL).1 R C,(h.nodes z oL).2⟩
end
end
end Go.Proofs.YtpcmehldpoljfaaGreatDoor
namespace Go.Pt
section
open Go
def qxH{o:Obj}{w:World}{H:WP}{R:Nat->WP}(h:Pt.new o w R)(u:∀w',Fr [] w w'->H w'):Pt.new o w fun r w1=>held [H] w1 (R r w1):=⟨u _ ((Fr.refl [] w).alloc o),h⟩
end
end Go.Pt
namespace Go.Proofs.YtpcmehldpoljfaaGreatDoor
open Go Go.Pt
attribute [local irreducible] ld dJ iH mZ i7 fi st new idx i8 jr fB js iY lV gT nn call dV inv run fc iM join loop held ext jR eI mH mz mI IntKind.wrap
section
open Go Go.Pt List
open Classical
abbrev FT:TypeId:=176
def qzv:∃i,Tryz.prog.info? FT=some i/\i.zero=some (.agg cw)/\i.size=5/\i.bytes=88:=se oK
def qzL{w:World}{s:Sl}{zs:List pT}{SB:List Nat}{x:jP}{n:dG}{i:Int}{H:WP}{K:Sl->WP}(h:eO iJ 5 w s zs SB)(U:zs.length<=1000000)(G:∀w',Fr [] w w'->H w')(I:∀E B' w',eO iJ 5 w' E (zs++[(x,n,i)]) B'->Fr SB w w'->(∀b∈B',b∈SB\/w.heap.size<=b)->K E w'): Pt.new (.cells (Aa x i) FT) w fun r w1=>held [H] w1 (Pt.run de ((Builtin.append_ #[162,162] 162 #[s.v,.slice (pW r) 1 1]).run Tryz.prog w1) K):=by obtain⟨j,J,R,u,C⟩:=qzv;exact qxH (eO.push (e:=FT) (x:=((x,n,i):pT)) h uQ (qvJ _) oK J R u rfl rfl (by rw[C];omega) oJ I) G
section
variable {dbk pb:Nat} {FD F:List Nat} {D:dE} {M:dU} {k v:Nat} {frm to:Key} {down:Bool} {w0 w wA:World} {cb:Nat} {Y SB:List Nat} {st:Sl} {zs:List pT} {x:jP} {n:dG} {i:Int}
def qq2{S:List Nat}{K:Int->WP}(h:fX dbk pb FD D F M k v frm to down w0 cb Y w st SB zs)(u:ef (cb::(SB++Y)) w x n)(C:fE n.J6)(E:n.J6.length<=1000000)(G:∀w',Fr [] w w'->K (jv down frm to n) w'):dV Tryz.prog (mv cb down) [.agg (eF x)] df w K:=by
 obtain⟨V,J,I,R,U⟩:=h.cell;cases down with
 | false=>exact yh (ra:=[dB cb]) rfl oK (qxi I u R h.vL C E G)
 | true=>exact yh (ra:=[dB cb]) rfl oK (qvx I u U h.Gg C E G)
def qwP{K:Int->WP}(hi:-1000000<=i/\i<=1000000)(h:K (jA down i) w):dV Tryz.prog (mf cb down) [.i i] df w K:=by
 cases down with
 | false=>exact yh (ra:=[dB cb]) rfl oK (qz7 hi h)
 | true=>exact yh (ra:=[dB cb]) rfl oK (qyy hi h)
def qy1{ks:Sl}{key:Key}{K:Bool->WP}(h:fX dbk pb FD D F M k v frm to down w0 cb Y w st SB zs)(u:eE (cb::(SB++Y)) w ks key)(C:eB key)(E:K (mM down frm to key) w):dV Tryz.prog (nd cb down) [ks.v] dg w K:=by
 obtain⟨U,I,G,J,R⟩:=h.cell;cases down with
 | false=>exact yh (ra:=[dB cb]) rfl oK (qw8 G u R C h.Gg E)
 | true=>exact yh (ra:=[dB cb]) rfl oK (qxe G u J C h.vL E)
def fX.J0{T:List Nat}{L:List (Nat×Obj)}(C:fX dbk pb FD D F M k v frm to down w0 cb Y wA st SB zs)(h:dM T wA w L)(E:∀b∈T,b∈Y):fX dbk pb FD D F M k v frm to down w0 cb Y w st SB zs:=
 C.q8 (h.fr.mono fun b u _=>E b u) (fun b u=>.inl u) fun b u=>yC (C.lt b (by simp[u])) h.fr.size
def ef.vM{T:List Nat}{L:List (Nat×Obj)}(C:ef (cb::(SB++Y)) wA x n)(h:dM T wA w L)(E:∀b∈T,b∈Y):ef (cb::(SB++Y)) w x n:=
 C.q8 (h.fr.mono fun b u _=>by simp[E b u]) fun b u=>.inl u
def qpG{T:List Nat}{C E:Nat}{X:Int->WP}{K:Unit->WP}(hA:fX dbk pb FD D F M k v frm to down w0 cb Y wA st SB zs)(hN:ef (cb::(SB++Y)) wA x n)(h:dM T wA w [(C,.cells (Aa fl 0) FT (0,0)),(E,.cells (eF x) ND (0,0))])(hT:∀b∈T,b∈Y)(hl:zs.length+1<=100000)(ai:fx n k v)(hI:n.Q4=false->∃j:Nat,i=j/\j<n.J9.length)(G:∀w' st' SB',fX dbk pb FD D F M k v frm to down w0 cb Y w' st' SB' (zs++[(x,n,i)])->Fr (cb::(SB++T)) wA w'->(∀b∈SB',b∈SB\/wA.heap.size<=b)->if n.Q4 then K () w' else X (n.J9.getD i.toNat 0) w'): BK (pW cb) K C x i w E X:=by
 unfold BK;refine oD h 0 rfl (Aa x i) fun w1 h f1=>?_;have h:=oF h;have hC:=hA.J0 h hT;refine fq (hC.o9 ?_);refine oC h 0 rfl (x.1,x.2.1,x.2.2.1,x.2.2.2,i) rfl<|qzL (x:=x) (n:=n) (i:=i) hC.tv oJ (fun w' f=>?_) fun s' B' w2 aj f2 n2=>?_;obtain⟨sf,az,T,J⟩:=(hC.q7 f).at
 exact je J;refine fq ?_;have R:=eT (h.at (i:=1) rfl);have U:=eT (h.at (i:=0) rfl);have al:=h.fr.size;have am:=hN.vM h hT;refine hC.sO w2 f2 aj (fun z hz=>(zD.1 hz).imp id fun hz=>?_) n2 (by rw[zF];exact hl) fun V h3 f3=>?_;rw[zE.1 hz];refine⟨am.q8 (f2.mono fun b u _=>by simp[u]) fun b u=>?_,ai⟩;rcases zG.1 u with rfl|u;exact .inl oL;rcases zD.1 u with u|u;exact (n2 b u).imp (fun h=>by simp[h]) id;exact .inl (by simp[u]);have f4:Fr (cb::(SB++T)) wA V:=(h.fr.mono fun b u _=>by simp[u]).trans (f3.mono fun b u _=>by rcases zG.1 u with rfl|u<;>simp[*]);have aa:∀r,r∈T\/wA.heap.size<=r->r∉cb::SB:=fun r hr hm=>by
  rcases hr with hr|hr;rcases zG.1 hm with rfl|hm;exact hA.zo (hT _ hr);exact hA.vU r hm (hT r hr)
  have:=hA.lt r (by rcases zG.1 hm with rfl|hm<;>simp[*])
  omega
 have ad:V.heap[E]?=some (.cells (eF x) ND (0,0)):=(by rw[f3.block E R (aa E (h.own (E,.cells (eF x) ND (0,0)) oL))];exact h.at (i:=1) rfl);have ap:V.heap[C]?=some (.cells (Aa x i) FT (0,0)):=(by rw[f3.block C U (aa C (h.own (C,.cells (Aa x i) FT (0,0)) oL))];exact h.at (i:=0) rfl);have G:=G V s' B' h3 f4 fun b u=>(n2 b u).imp id fun h=>zL al h;have I:x.1=n.Q4:=hN.1;refine iG ad x.1 rfl ?_;apply dR<;>intro J;rw[<- I,J,if_pos rfl] at G;exact G;rw[<- I,J,if_neg oM] at G;refine iG ad x.2.2.2 rfl<|iG ap i rfl ?_;obtain⟨j,rfl,hj⟩:=hI (by rw[<- I,J]);have ae:dW ik 1 (cb::(B'++Y)) V x.2.2.2 n.J9:=(h3.nodes (x,n,(j:Int)) oL).1.2.2.2.2;refine dW.get ae j rfl (zA hj) (y:=n.J9[j]) rfl ?_;rw[zJ,yQ,zA hj] at G;exact G
def qwo{T:List Nat}{J:Nat}{X:Int->WP}{K:Unit->WP}(E:fX dbk pb FD D F M k v frm to down w0 cb Y wA st SB zs)(R:ef (cb::(SB++Y)) wA x n)(h:dM T wA w [(J,.cells (eF fl) ND (0,0))])(C:∀b∈T,b∈Y)(hl:zs.length+1<=100000)(u:fx n k v)(hI:n.Q4=false->∃j:Nat,jv down frm to n=j/\j<n.J9.length)(kk:∀w' st' SB',fX dbk pb FD D F M k v frm to down w0 cb Y w' st' SB' (zs++[(x,n,jv down frm to n)])->Fr (cb::(SB++T)) wA w'->(∀b∈SB',b∈SB\/wA.heap.size<=b)->if n.Q4 then K () w' else X (n.J9.getD (jv down frm to n).toNat 0) w'): Az (pW cb) K J (x,0) w X:=by
 unfold Az;refine oD h 0 rfl (eF x) fun w1 h f1=>?_;have h:=oF h;refine cond_false rfl<|⟨?_,?_⟩;refine oC h 0 rfl x rfl ?_;obtain⟨U,G,T,I⟩:=(E.J0 h C).at
 refine fq (oV (mv cb down) (je I) ?_);refine oC h 0 rfl x rfl<|qq2 (S:=[]) (E.J0 h C) (R.vM h C) u.2.2.1 (by have:=(ur u).1;omega) fun w2 V=>?_;have h:=h.q7 V;refine ia (h.cells 0 rfl rfl)<|oB h fun aa w3 e3 f3 h=>?_;obtain⟨U,G,T,I⟩:=(E.J0 h C).at
 exact mB (h.cells 1 rfl rfl) (je I) (h.cells 1 rfl rfl)<|qpG E R h C hl u hI kk;refine oC h 0 rfl x rfl ?_;obtain⟨U,G,T,I⟩:=(E.J0 h C).at
 refine fq (oV (mv cb down) (je I) ?_);refine oC h 0 rfl x rfl<|oB h fun aa w3 e3 f3 h=>?_;obtain⟨U,G,T,I⟩:=(E.J0 h C).at
 refine mB (h.cells 1 rfl rfl) (je I) (h.cells 1 rfl rfl)<|qq2 (S:=[]) (E.J0 h C) (R.vM h C) u.2.2.1 (by have:=(ur u).1;omega) fun w2 V=>?_;have h:=h.q7 V;exact ia (h.cells 1 rfl rfl)<|qpG E R h C hl u hI kk
def qoY{s:gU}{h:Nat}{K:Unit->WP}(hs:Has D M k v h s)(hu:gy s.x5)(hC:fX dbk pb FD D F M k v frm to down w0 cb Y w st SB zs)(hl:zs.length+h+1<=100000)(kk:∀w' st' SB' zs',fX dbk pb FD D F M k v frm to down w0 cb Y w' st' SB' (zs++zs')->ip D k v M (jv down frm to) (h+1) s.x5=some (zs'.map (·.2))->Fr (cb::SB) w w'->(∀b∈SB',b∈SB\/w.heap.size<=b)->K () w'): cW 82 [dB cb,.u s.x5] [] w K:=by
 refine qhm<|CU (fun (hh:Nat) p w'=>∃(sg:gU) (E:List pT) (ae:Sl) (J:List Nat),p=sg.x5/\gy sg.x5/\Has D M k v hh sg/\fX dbk pb FD D F M k v frm to down w0 cb Y w' ae J (zs++E)/\(ip D k v M (jv down frm to) (hh+1) sg.x5).map (E.map (·.2)++·)=ip D k v M (jv down frm to) (h+1) s.x5/\E.length+hh=h/\Fr (cb::SB) w w'/\∀b∈J,b∈SB\/w.heap.size<=b) id h ⟨s,[],st,SB,rfl,hu,hs,by rw[xG];exact hC,oL,oL,.refl _ _,fun b C=>.inl C⟩ ?_;rintro hh p w1 ⟨sg,E,ae,J,rfl,aI,av,aa,aw,a1,f1,n1⟩ X hX;have I:∃n,dF D M k v sg.x5=(n,0)/\(n.Q4=true->hh=0)/\(n.Q4=false->∃h2 U,hh=h2+1/\n=dH U/\∃hj:dZ n.J6 (if down then to else frm)<U.length,n.J9.getD (dZ n.J6 (if down then to else frm)) 0=U[dZ n.J6 (if down then to else frm)].2.x5/\Has D M k v h2 U[dZ n.J6 (if down then to else frm)].2):=by
  cases hh with
  | zero=>
   obtain⟨h1,h2,h3,h4⟩:=av;exact⟨_,h3.load h4,fun _=>rfl,(fun e=>nomatch e)⟩
  | succ h2=>
   obtain⟨U,e1,hj,e2,e3⟩:=qxw (key:=if down then to else frm) av;exact⟨_,e1,(fun e=>nomatch e),fun _=>⟨h2,U,rfl,rfl,hj,e2,e3⟩⟩
 obtain⟨n,I,aK,ax⟩:=I;have ay:=A6 I;obtain⟨l1,l2,l3,l4,l5⟩:=ur ay;have am:(dD D M sg.x5).2.2=0/\io (dD D M sg.x5).1 (dD D M sg.x5).2.1 k v=(n,0):=by unfold dF at I;split at I;rename_i af;exact absurd (vA I).2 af;rename_i he;exact⟨oJ,I⟩
 have az:eB (dD D M sg.x5).2.1:=qhy aa.tw.lim.ok (fun e he=>(aa.tw.wf.body e he).2.2) _;have aL:(zs++E).length+1<=100000:=(by rw[zF];omega);have hI:n.Q4=false->∃j:Nat,jv down frm to n=j/\j<n.J9.length:=fun e=>by
  obtain⟨h2,U,_,rfl,hj,_⟩:=ax e;refine⟨_,?_,by show _<(U.map _).length;rw[zK];exact hj⟩;cases down with
  | false=>
   show jE (dH U) frm=_;exact if_neg (fun g=>nomatch g)
  | true=>
   show ib (dH U) to=_;exact if_neg (fun g=>nomatch g)
 have ai:∀(x:jP) (Y' T:List Nat) (wA wB:World) (r:Nat),fX dbk pb FD D F M k v frm to down w0 cb Y' wA ae J (zs++E)->ef (cb::(J++Y')) wA x n->dM T wA wB [(r,.cells (eF fl) ND (0,0))]->(∀b∈T,b∈Y')->(∀b∈T,w1.heap.size<=b)->(∀b∈Y,b∈Y')->Fr [] w1 wA->Az (pW cb) K r (x,0) wB X:=by
  intro x Y' T wA wB r hA hN hO hT aN hY fA;refine qwo hA hN hO hT aL ay hI fun w2 an ag G f2 n2=>?_;have G:fX dbk pb FD D F M k v frm to down w0 cb Y w2 an ag (zs++(E++[(x,n,jv down frm to n)])):=by rw[<- zV];exact G.q8 (.refl _ _) (fun b C=>.inl (hY b C)) fun b C=>G.lt b (by simp[hY b C])
  have f3:Fr (cb::SB) w w2:=f1.j8 ((fA.mono fun _ h=>nomatch h).trans f2) fun b C=>by rcases zG.1 C with rfl|C;exact .inl oL;rcases zD.1 C with C|C;exact (n1 b C).imp (fun h=>by simp[h]) id;exact .inr (zL f1.size (aN b C))
  have n3:∀b∈ag,b∈SB\/w.heap.size<=b:=fun b C=>by rcases n2 b C with h|h;exact n1 b h;exact .inr (zL f1.size (zL fA.size h))
  by_cases hlf2:n.Q4=true;rw[if_pos hlf2];obtain rfl:=aK hlf2;refine kk w2 an ag (E++[(x,n,jv down frm to n)]) G ?_ f3 n3;rw[<- aw,ip,I,if_neg (fun h=>h rfl),if_pos hlf2];simp
  ·rw[if_neg hlf2];have aA:n.Q4=false:=(oP hlf2);obtain⟨h2,U,rfl,af,hj,ao,hk⟩:=ax aA;have aB:jv down frm to n=((dZ n.J6 (if down then to else frm):Nat):Int):=by
    cases down with
    | false=>
     show jE n frm=_;exact if_neg hlf2
    | true=>
     show ib n to=_;exact if_neg hlf2
   rw[aB,zJ,ao];refine hX h2 _ w2 ⟨_,E++[(x,n,jv down frm to n)],an,ag,rfl,?_,hk,G,?_,by rw[zF,xL];omega,f3,n3⟩ (Nat.lt_succ_self _);rw[<- ao];have aC:dZ n.J6 (if down then to else frm)<n.J9.length:=(by rw[af];show _<(U.map _).length;rw[zK,<- af];exact hj);rw[yQ,zA aC];exact hN.2.1.2.2 _ (zW aC)
   ·rw[<- aw];conv=>rhs;rw[ip,I,if_neg (fun h=>h rfl),if_neg hlf2]
    dsimp only;rw[aB,zJ,ao,Option.map_map];simp[Function.comp_def]
 obtain⟨sf,ap,T,V⟩:=aa.at
 refine fq (oV (pW pb) (je V) ?_);refine TW.read aa.tw aI fun sb w2 aD f2=>?_;have G:=(aa.q7 f2).drew;refine cond_false (by dsimp only;rw[am.1];rfl) ?_;obtain⟨sf,ap,T,V⟩:=G.at
 have ab:=G.lt;refine⟨?_,?_⟩;refine fq (oV (k:Int) (je V) ?_);refine fq (oV (v:Int) (je V) ?_);refine FL (k:=k) (v:=v) (aD [] fun _ h=>nomatch h) az fun x B w3 hN f3 aq=>?_;rw[am.2] at hN⊢;have R:=G.q7 f3;refine oB (oE [] w3) fun r w4 e4 f4 h=>?_;obtain⟨sf,ap,T,V⟩:=(R.q7 f4).at
 refine jX (je V) (je V)<|ai x Y [] w3 w4 r R (hN.rd (fun b C hm=>?_) fun b C=>.inl ?_) h (fun _ h=>nomatch h) (fun _ h=>nomatch h) (fun b C=>C) (f2.drew.trans f3)
 have:=aq b C;have:=ab b hm;omega
 have:b<w2.heap.size:=ab b C;exact zH _ (mem_range.2 this);refine fq (oV (k:Int) (je V) ?_);refine fq (oV (v:Int) (je V) ?_);refine oB (oE [] w2.drew) fun r w3 e3 f3 h=>?_;have aQ:=eT (h.at (i:=0) rfl);have R:fX dbk pb FD D F M k v frm to down w0 cb (r::Y) w3 ae J (zs++E):=G.q8 (f3.mono fun _ h=>nomatch h) (fun b C=>(zG.1 C).elim (fun e=>.inr (by rw[e,e3];exact zM _)) .inl) fun b C=>by rcases zG.1 C with rfl|C;exact aQ;exact yC (ab b (by simp[C])) f3.size
 obtain⟨sf,ap,T,V⟩:=R.at
 refine jX (je V) (je V)<|FL (k:=k) (v:=v) (dW.q7 (w:=w2.drew) (aD [] fun _ h=>nomatch h) f3) az fun x B w4 hN f4 aq=>?_;rw[am.2] at hN⊢;have ak:=R.lt;refine ai x (r::Y) [r] w4 w4 r (R.q7 f4) (hN.rd (fun b C hm=>?_) fun b C=>.inl ?_) (qtA ((h.q7 f4).at (i:=0) rfl)) (fun b C=>by rw[zE.1 C];simp) (fun b C=>?_) (fun b C=>by simp[C]) ((f2.drew.trans f3).trans f4)
 have:=aq b C;have:=ak b hm;omega
 exact zH _ (mem_range.2 (ak b C));rw[zE.1 C,e3];exact f2.size
end
end
section
open Go Go.Pt List
open Go.IntKind (wrap)
open Classical
section
variable {dbk pb:Nat} {FD F:List Nat} {D:dE} {M:dU} {k v:Nat} {frm to:Key} {down:Bool} {w0 w wA:World} {cb:Nat} {Y SB:List Nat} {st:Sl} {zs:List pT}
def fX.ki{c:Cell}{b j:Nat}{z:pT}{K:c.El->Prop}(h:fX dbk pb FD D F M k v frm to down w0 cb Y w st [b] (zs++[z]))(u:j<5)(x:c.El)(C:(iJ z)[j]?=some (c.mk x))(E:K x):ld c ⟨b,zs.length*5+j,none⟩ w K:=
 oV x ((qx0 h.tv u).trans C) E
def qvy{h:Nat}{K:Unit->WP}(hp:Path D M k v (jA down) h (zs.map (·.2)))(hC:fX dbk pb FD D F M k v frm to down w0 cb Y w st SB zs)(kk:∀w' st' SB' zs',fX dbk pb FD D F M k v frm to down w0 cb Y w' st' SB' zs'->zs'.map (·.2)=(ic D k v M (jv down frm to) (jA down) h (zs.map (·.2))).getD []->Fr (cb::SB) w w'->(∀b∈SB',b∈SB\/w.heap.size<=b)->K () w'): cW 84 [dB cb] [] w K:=by
 refine qhl ?_;have J:=hp.len;have aU:=hC.ze;rw[zK] at J;refine CU (fun (ab:List jU) (_:PUnit) w'=>∃(u:List pT) (z:pT) (C:List jU) (h1:Nat) (al:Sl) (ac:List Nat),u.map (·.2)=ab/\fX dbk pb FD D F M k v frm to down w0 cb Y w' al ac (u++[z])/\zs.map (·.2)=ab++C/\ab.length+h1=h/\ic D k v M (jv down frm to) (jA down) h1 C=none/\Fr (cb::SB) w w'/\∀b∈ac,b∈SB\/w.heap.size<=b) List.length (zs.map (·.2)).dropLast ?_ ?_
 ·have I:zs≠[]:=fun e=>by rw[e] at J;simp at J
  have hz:=(xZ I).symm;refine⟨zs.dropLast,zs.getLast I,[(zs.getLast I).2],0,st,SB,by rw[map_dropLast],by rw[<- hz];exact hC,?_,by simp;omega,rfl,.refl _ _,fun b G=>.inl G⟩;conv=>lhs;rw[hz]
  simp
 rintro ab _ w1 ⟨u,z,C,h1,al,ac,rfl,ad,hz,hh,hn,f1,n1⟩ X hX;have av:=ad.ze;rw[zF,xL] at av;have aF:al.len=u.length+1:=(by rw[ad.tv.len,zF];rfl);refine fq (ad.o9 (cond_true (by rw[aF];exact zZ oJ) ?_));have ae:=ad.drew;refine fq (ae.o9 ?_);refine fq (ae.o9 ?_);refine qzd ae.tv oJ fun s2 ax=>?_;refine fq ?_;refine ae.sO w1.drew (.refl _ _) ax (fun z hz=>.inl (zH _ hz)) (fun b G=>.inl G) oJ fun w2 am f2=>?_;have ay:Fr (cb::SB) w w2:=f1.j8 ((Fr.refl _ w1).drew.trans f2) fun b G=>by rcases zG.1 G with rfl|G;exact .inl oL;exact (n1 b G).imp (fun h=>by simp[h]) id
 refine fq (am.o9 ?_);have az:s2.len=u.length:=ax.len;apply dR<;>intro hc;have hc:(s2.len:Int)=0:=yO.1 hc;have e0:u=[]:=length_eq_zero_iff.1 oJ;subst e0;refine kk w2 s2 ac [] am ?_ ay n1;rw[hz,map_nil,xH];have:h1=h:=(oP hh);rw[<- this,hn];rfl;have hc:¬(s2.len:Int)=0:=zR.1 hc;have I:u≠[]:=fun e=>by rw[e] at az;simp at az;omega
 obtain⟨R,y,rfl⟩:∃R y,u=R++[y]:=⟨u.dropLast,u.getLast I,(xZ I).symm⟩;rw[xM,xN,map_nil,zV,singleton_append] at hz;rw[xM,xN,map_nil,zF,xL] at hh;have af:(R.map (·.2)).length+(h1+1)=h:=oJ;have an:Path D M k v (jA down) (h1+1) (y.2::C):=by rw[hz,<- af] at hp;exact hp.drop
 obtain⟨E,i,up,ey,a3,a4,aB,_⟩:=an;obtain⟨yx,yf⟩:=y;have aG:yf=(dH E,i):=(vB ey).1;subst aG;have ag:=am.drew;rw[zF,xL] at av;refine fq (ag.o9 ?_);refine fq (ag.o9 ?_);refine qtF ag.tv oJ fun b hB=>?_;subst hB;have ah:=ag.drew;obtain⟨sf,a7,T,aH⟩:=ah.at
 have ap:=ah.nodes (yx,dH E,i) oL;have ai:(dH E).J9.length=E.length:=(by show (E.map (·.2.x5)).length=_;rw[zK]);have aX:E.length<=498:=(by rw[<- ai];exact (ur ap.2).2.2.1);refine fq (oV (mf cb down) (je aH) ?_);refine ah.ki (j:=4) oM i rfl ?_;refine qwP oJ ?_;have aY:-1<=jA down i/\jA down i<=1000000:=(by unfold jA;split<;>omega);refine ah.uJ fun w3 aI f3=>?_;have U:=aI.drew;have aq:Fr (cb::SB) w w3:=ay.j8 (((Fr.refl _ w2).drew.drew).trans f3) fun b' G=>by rw[zE.1 G];exact (n1 b oL).imp (fun h=>by simp[h]) id
 have aJ:yx.2.2.2.len=E.length:=(by rw[ap.1.2.2.2.2.1,ai]);have V:=quG (x:=(dH E,i)) hn;refine gQ (fun q w'=>q=decide (0<=jA down i/\jA down i<E.length)/\w'=w3.drew) ?_ ?_;refine U.ki (j:=4) oM (jA down i) rfl ?_;apply dR<;>intro h;have h:=zC h;refine U.ki (j:=4) oM (jA down i) rfl ?_;refine U.ki (j:=3) oM yx.2.2.2 rfl ?_;exact⟨decide_eq_decide.2 (by rw[aJ];omega),rfl⟩;have h:=zB h;exact⟨(zU fun g=>h g.1).symm,rfl⟩;rintro q w4 ⟨rfl,rfl⟩;have aj:=U.drew;apply dR<;>intro h;obtain⟨h5,h6⟩:=zC h;obtain⟨j,hj⟩:∃j:Nat,jA down i=j:=⟨(jA down i).toNat,oJ⟩;have aC:j<E.length:=oJ;refine aj.ki (j:=3) oM yx.2.2.2 rfl ?_;refine aj.ki (j:=4) oM (jA down i) rfl ?_;have aL:dW ik 1 _ w3.drew.drew yx.2.2.2 (dH E).J9:=(aj.nodes (yx,dH E,jA down i) oL).1.2.2.2.2;have ar:(dH E).J9[j]?=some E[j].2.x5:=(by show (E.map (·.2.x5))[j]?=_;rw[zQ,zA aC];rfl);refine dW.get aL j hj ar (y:=E[j].2.x5) rfl ?_;refine qoY (aB j hj aC) (ap.1.2.1.2.2 _ (yE ar)) aj (by rw[zF,xL];rw[zK] at af;omega) fun w5 aM aN aO aP aQ f5 n5=>?_;refine kk w5 aM aN _ aP ?_ (aq.j8 ((Fr.refl _ w3).drew.drew.trans f5) fun b' G=>?_) fun b' G=>?_;have e1:ic D k v M (jv down frm to) (jA down) (h1+1) ((dH E,i)::C)=some ((dH E,jA down i)::aO.map (·.2)):=(by rw[V,sQ,if_pos ⟨by dsimp only;omega,by dsimp only;rw[ai];exact h6⟩];dsimp only;rw[hj,zJ,yQ,ar];simp only[xU];rw[aQ];rfl);rw[hz,<- af,qpu e1];simp;rcases zG.1 G with rfl|G;exact .inl oL;exact (n1 b' G).imp (fun h=>by simp[h]) id;rcases n5 b' G with h|h;exact n1 b' h;exact .inr (zL aq.size h);have h:=zB h;refine hX (R.map (·.2)) _ _ ⟨R,(yx,dH E,jA down i),(dH E,i)::C,h1+1,s2,[b],rfl,U,hz,af,?_,aq.drew,n1⟩ ?_;rw[V,sQ,if_neg fun g=>h ⟨g.1,by have:=g.2;dsimp only at this;rw[ai] at this;exact this⟩];simp
end
end
section
open Go Go.Pt List
open Go.IntKind (wrap)
open Classical
section
variable {D:dE} {M:dU} {k v:Nat} {frm to:Key} {down:Bool}
def lr (D:dE) (M:dU) (k v:Nat) (frm to:Key) (down:Bool) (h:Nat) (u:List jU) (T:fL):Prop:=if down then lP D M k v to h u T else lI D M k v frm h u T
def nK (down:Bool) (h:Nat) (u:List jU):Prop:=if down then jO h u else jM h u
def lr.path{h:Nat}{u:List jU}{T:fL}(C:lr D M k v frm to down h u T):Path D M k v (jA down) h u:=by
 cases down with
 | false=>exact lI.path (frm:=frm) C
 | true=>exact lP.path (to:=to) C
def lr.told{h:Nat}{C:List jU}{T:fL}(E:lr D M k v frm to down h C T):nK down h C\/∃(u:fL) (i:Nat) (lo:List jU) (hi:i<u.length) (T':fL),C=lo++[(dY u,(i:Int))]/\T=u[i]::T'/\lr D M k v frm to down h (lo++[(dY u,jA down i)]) T':=by
 cases down with
 | false=>exact qtG (frm:=frm) E
 | true=>exact qpX (to:=to) E
def lr.next{h:Nat}{E:List jU}{T:fL}(G:lr D M k v frm to down h E T)(I:nK down h E):(ic D k v M (jv down frm to) (jA down) h E=none/\T=[])\/∃u,ic D k v M (jv down frm to) (jA down) h E=some u/\lr D M k v frm to down h u T/\¬nK down h u:=by
 cases down with
 | false=>
  rcases qtx (frm:=frm) G I with C|⟨u,C,J⟩;exact .inl C;exact .inr ⟨u,C,J,qiW (frm:=frm) G I C⟩
 | true=>
  rcases qpv (to:=to) G I with C|⟨u,C,J⟩;exact .inl C;exact .inr ⟨u,C,J,qgw (to:=to) G I C⟩
def jM.pJ:∀ {h:Nat} {C:List jU},jM h C->∃(lo:List jU) (u:fL),C=lo++[(dY u,(u.length:Int))]
 | 0,_,⟨u,e⟩=>⟨[],u,e⟩
 | _+1,[],h=>h.elim
 | h+1,x::G,E=>by obtain⟨lo,u,e⟩:=jM.pJ (h:=h) E;exact⟨x::lo,u,by rw[e];rfl⟩
def jO.pJ:∀ {h:Nat} {C:List jU},jO h C->∃(lo:List jU) (u:fL),C=lo++[(dY u,-1)]
 | 0,_,⟨u,e⟩=>⟨[],u,e⟩
 | _+1,[],h=>h.elim
 | h+1,x::G,E=>by obtain⟨lo,u,e⟩:=jO.pJ (h:=h) E;exact⟨x::lo,u,by rw[e];rfl⟩
def nK.pJ{h:Nat}{C:List jU}(E:nK down h C):∃(lo:List jU) (u:fL) (i:Int),C=lo++[(dY u,i)]/\¬(0<=i/\i<u.length):=by
 cases down with
 | false=>
  obtain⟨lo,u,e⟩:=jM.pJ E;exact⟨lo,u,_,e,oJ⟩
 | true=>
  obtain⟨lo,u,e⟩:=jO.pJ E;exact⟨lo,u,_,e,oJ⟩
def Left (D:dE) (M:dU) (k v:Nat) (frm to:Key) (down:Bool) (n:Nat) (u:List jU) (L:fL):Prop:=
 (u=[]/\L=[])\/∃h T,lr D M k v frm to down h u T/\L=T.takeWhile (fun x=>!mM down frm to x.1)/\(n=0->¬nK down h u)
def quN{h:Nat}{s:gU}(u:Has D M k v h s):∃C,ip D k v M (jv down frm to) (h+1) s.x5=some C/\lr D M k v frm to down h C (if down then (tE to s.y3).reverse else mq frm s.y3):=by
 cases down with
 | false=>exact Et u
 | true=>exact Dj u
def Gj{α:Type}{p:α->Bool}:∀ {l:List α},l.Pairwise (fun a b=>p b=true->p a=true)->l.takeWhile p=l.filter p
 | [],_=>rfl
 | a::l,h=>by have C:=yI.1 h;rw[takeWhile_cons,filter_cons];split;rw[Gj C.2];rename_i E;exact (filter_eq_nil_iff.2 fun b G u=>E (C.1 b G u)).symm
end
end
section
open Go Go.Pt List
open Go.IntKind (wrap)
open Classical
variable {B S:List Nat} {K:Sl->WP} {L:fL} {P:List Int} {l:List (HL iS)} {most:Int} {s:Sl} {w:World}
abbrev Ar:TypeId:=104
def v9 (a b:Sl):Array Value:=#[a.v,b.v]
@[reducible] def F9:List Cell:=[.slice,.slice]
section
variable {dbk pb:Nat} {FD F:List Nat} {D:dE} {M:dU} {k v:Nat} {frm to:Key} {down:Bool} {w0 w wA:World} {cb:Nat} {Y SB:List Nat} {st:Sl} {zs:List pT}
def qxT{n:dG}(h:fx n k v)(E:n.Q4=true):k<=24/\v<=108:=by obtain⟨_,_,_,C⟩:=h;rw[if_pos E] at C;have u:=C.2.2.1;unfold dQ at u;split at u;dsimp only at u;omega;omega
def qvc{K:(Sl×Sl)×Bool->WP}(hC:fX dbk pb FD D F M k v frm to down w0 cb Y w st SB zs)(hL:Left D M k v frm to down 1 (zs.map (·.2)) L)(k0:L=[]->∀w',fX dbk pb FD D F M k v frm to down w0 cb Y w' dC [] []->Fr (cb::SB) w w'->K ((dC,dC),false) w')(k1:∀x L',L=x::L'->∀ks vs B1 B2 w' st' SB' zs',fO w' ks x.1 B1->fO w' vs x.2 B2->fX dbk pb FD D F M k v frm to down w0 cb (B1++(B2++Y)) w' st' SB' zs'->Left D M k v frm to down 1 (zs'.map (·.2)) L'->Fr (cb::SB) w w'->(∀b∈SB',b∈SB\/w.heap.size<=b)->(∀b∈B1,w.heap.size<=b)->(∀b∈B2,w.heap.size<=b)->(∀b∈B1,b∉B2)->K ((ks,vs),true) w'): cW 40 [dB cb] [.agg F9,.one .bool] w K:=by
 refine qhi (c:=pW cb)<|oB (oE [] w) fun r w1 e1 f1 h=>?_;have hrl:=eT (h.at (i:=0) rfl);dsimp only at hrl;have hltw:=hC.lt;have hC1:fX dbk pb FD D F M k v frm to down w0 cb (r::Y) w1 st SB zs:=hC.q8 (f1.mono fun _ h=>nomatch h) (fun b hb=>(zG.1 hb).elim (fun e=>.inr (by rw[e,e1];exact zM _)) .inl) fun b hb=>by rcases zG.1 hb with rfl|hb;exact hrl;exact yC (hltw b (by simp[hb])) f1.size
 have hr1:w1.heap[r]?=some (.cells (v9 dC dC) Ar (0,0)):=h.at (i:=0) rfl;have hrS:r∉cb::SB:=fun hm=>by
  have:=hltw r (by rcases zG.1 hm with h|h<;>simp[h])
  omega
 have hfr:∀ {w':World},Fr (cb::SB) w1 w'->w'.heap[r]?=some (.cells (v9 dC dC) Ar (0,0)):=fun f=>by rw[f.block r hrl hrS];exact hr1
 clear h;refine gQ (fun _ w'=>L=[]/\Fr (cb::SB) w1 w'/\∃st' SB' zs',fX dbk pb FD D F M k v frm to down w0 cb (r::Y) w' st' SB' zs'/\∀b∈SB',b∈SB\/w1.heap.size<=b) ?_ ?_
 ·refine CU (fun (n:Nat) (_:PUnit) w'=>Fr (cb::SB) w1 w'/\∃st' SB' zs',fX dbk pb FD D F M k v frm to down w0 cb (r::Y) w' st' SB' zs'/\(∀b∈SB',b∈SB\/w1.heap.size<=b)/\Left D M k v frm to down n (zs'.map (·.2)) L) id 1 ⟨.refl _ _,st,SB,zs,hC1,fun b hb=>.inl hb,hL⟩ ?_;rintro n _ w2 ⟨f2,st2,SB2,zs2,hC2,n2,hL2⟩ X hX;refine fq (hC2.o9 ?_);have hsl:st2.len=zs2.length:=hC2.tv.len;apply dR<;>intro hc;rotate_left;have hc:=zB hc;have e0:zs2=[]:=length_eq_zero_iff.1 oJ;refine⟨?_,f2,st2,SB2,zs2,hC2,n2⟩;rcases hL2 with h|⟨hh,T,ht,_,_⟩;exact h.2
  have:=ht.path.len
  rw[e0] at this;simp at this;have hc:=zC hc;have hne:zs2≠[]:=fun e=>by rw[e] at hsl;simp at hsl;omega
  rcases hL2 with ⟨h,_⟩|⟨hh,T,ht,hLT,hnd⟩;exact absurd (map_eq_nil_iff.1 h) hne;have htop:∃(lo:List jU) (y3:fL) (i:Int),zs2.map (·.2)=lo++[(dY y3,i)]/\((nK down hh (zs2.map (·.2))/\¬(0<=i/\i<y3.length))\/∃j:Nat,i=j/\∃hj:j<y3.length,∃T',T=y3[j]::T'/\lr D M k v frm to down hh (lo++[(dY y3,jA down i)]) T'):=by rcases ht.told with hd|⟨y3,j,lo,hj,T',e1,e2,e3⟩;obtain⟨lo,y3,i,e,hi⟩:=hd.pJ;exact⟨lo,y3,i,e,.inl ⟨hd,hi⟩⟩;exact⟨lo,y3,j,e1,.inr ⟨j,rfl,hj,T',e2,e3⟩⟩
  obtain⟨lo,y3,i,ez,hcase⟩:=htop;obtain⟨zlo,zr,rfl,rfl,ezr⟩:=map_eq_append_iff.1 ez;obtain⟨⟨zx,zf⟩,rfl,ezf⟩:=map_eq_singleton_iff.1 ezr;have ezf:zf=(dY y3,i):=ezf;subst ezf;have hfew:=hC2.ze;rw[zF,xL] at hfew;have hD2:=hC2.drew;refine fq (hD2.o9 ?_);refine fq (hD2.o9 ?_);refine qtF hD2.tv oJ fun b hB=>?_;subst hB;have hE2:=hD2.drew;have hny:=hE2.nodes (zx,dY y3,i) oL;have hkl:(dY y3).J6.length=y3.length:=zK ..;have hkl2:y3.length<=498:=(by rw[<- hkl];exact (ur hny.2).1);obtain⟨hzl,hNB,⟨pk,hpk,hpke⟩,⟨pv,hpv,hpve⟩,_⟩:=hny.1;dsimp only at hzl hpk hpke hpv hpve;have hpkl:pk.length=y3.length:=(by rw[<- hkl,<- hpke,zK]);have hpvl:pv.length=y3.length:=by have:(dY y3).Q0.length=y3.length:=zK ..;rw[<- this,<- hpve,zK]
  refine gQ (fun q w'=>q=decide (0<=i/\i<y3.length)/\w'=w2.drew.drew) ?_ ?_;refine hE2.ki (c:=.bool) (j:=0) oM zx.1 rfl<|cond_true hzl<|hE2.ki (c:=.i) (j:=4) oM i rfl ?_;apply dR<;>intro h;have h:=zC h;exact hE2.ki (c:=.i) (j:=4) oM i rfl<|hE2.ki (c:=.slice) (j:=1) oM zx.2.1 rfl<|⟨decide_eq_decide.2 (by rw[hpk.len,hpkl];omega),rfl⟩;have h:=zB h;exact⟨(zU fun g=>h g.1).symm,rfl⟩;rintro q w3 ⟨rfl,rfl⟩;have hpth:=ht.path;apply dR<;>intro h;rotate_left;have h:=zB h;have hd:nK down hh ((zlo++[(zx,dY y3,i)]).map (·.2)):=by rcases hcase with hd|⟨j,rfl,hj,_⟩;exact hd.1;exact absurd ⟨oJ,oJ⟩ h
  have hn1:n≠0:=fun e=>hnd e hd;refine qvy hpth hE2 fun w4 st4 SB4 zs4 hC4 hz4 f4 n4=>?_;have f14:Fr (cb::SB) w1 w4:=f2.j8 ((Fr.refl _ w2).drew.drew.trans f4) fun b' hb=>by rcases zG.1 hb with rfl|hb;exact .inl oL;exact (n2 b' hb).imp (fun h=>by simp[h]) id
  have n14:∀b'∈SB4,b'∈SB\/w1.heap.size<=b':=fun b' hb=>by rcases n4 b' hb with h|h;exact n2 b' h;exact .inr (zL f2.size h)
  refine hX 0 _ w4 ⟨f14,st4,SB4,zs4,hC4,n14,?_⟩ (by show 0<n;omega);rcases ht.next hd with ⟨e2,rfl⟩|⟨fs',e2,e3,e4⟩
  rw[e2] at hz4;exact .inl ⟨hz4,hLT⟩;rw[e2] at hz4;have hz4:zs4.map (·.2)=fs':=hz4;rw[hz4];exact .inr ⟨hh,T,e3,hLT,fun _=>e4⟩;have h:=zC h;obtain⟨j,rfl,hj,T',hT,ht'⟩:∃j:Nat,i=j/\∃hj:j<y3.length,∃T',T=y3[j]::T'/\lr D M k v frm to down hh (zlo.map (·.2)++[(dY y3,jA down i)]) T':=by rcases hcase with hd|hd;exact absurd h hd.2;exact hd
  have hG2:=hE2.drew;refine hG2.ki (c:=.slice) (j:=1) oM zx.2.1 rfl<|hG2.ki (c:=.i) (j:=4) oM (j:Int) rfl ?_;have hjk:j<pk.length:=oJ;have hjv:j<pv.length:=oJ;refine i9.get (hpk.q7 (Fr.refl [] _).drew) j rfl hjk<|hG2.ki (c:=.slice) (j:=2) oM zx.2.2.1 rfl<|hG2.ki (c:=.i) (j:=4) oM (j:Int) rfl<|i9.get (hpv.q7 (Fr.refl [] _).drew) j rfl hjv ?_;have hH2:=hG2.drew;obtain⟨sf,sto,Tc,hcc⟩:=hH2.at
  refine fq (oV (c:=.any) (mf cb down) (je hcc) ?_);refine hH2.ki (c:=.i) (j:=4) oM (j:Int) rfl<|qwP oJ<|hH2.uJ fun w5 hC5 f5=>?_;have f15:Fr (cb::SB) w1 w5:=f2.j8 ((Fr.refl _ w2).drew.drew.drew.drew.trans f5) fun b' hb=>by rw[zE.1 hb];exact (n2 b oL).imp (fun h=>by simp[h]) id
  obtain⟨sf,sto,Tc,hcc⟩:=hC5.at
  refine fq (oV (c:=.any) (nd cb down) (je hcc) ?_);have f5':Fr (cb::([b]++(r::Y))) w2.drew.drew w5:=(Fr.refl _ w2.drew.drew).drew.drew.trans (f5.mono fun x hx _=>by rw[zE.1 hx];simp);have hks:eE (cb::([b]++(r::Y))) w5 pk[j].1 pk[j].2:=(hpk.2 _ (zW hjk)).q8 f5' fun x hx=>.inl hx;have hvs:eE (cb::([b]++(r::Y))) w5 pv[j].1 pv[j].2:=(hpv.2 _ (zW hjv)).q8 f5' fun x hx=>.inl hx;have ek:pk[j].2=y3[j].1:=by
   have:=congrArg (·[j]?) hpke
   dsimp only [dY] at this;rw[zQ,zQ,zA hjk,zA hj] at this;exact yN this
  have ev:pv[j].2=y3[j].2:=by
   have:=congrArg (·[j]?) hpve
   dsimp only [dY] at this;rw[zQ,zQ,zA hjv,zA hj] at this;exact yN this
  rw[ek] at hks;rw[ev] at hvs;have hkB:eB y3[j].1:=hNB.1 _ (zY (zW hj));have hkn:y3[j].1.length=k:=hny.2.1 _ (zY (zW hj));have hvn:y3[j].2.length=v:=hny.2.2.1 _ (zY (zW hj));have hkv:=qxT hny.2 rfl;refine qy1 hC5 hks hkB ?_;apply dR<;>intro ho;refine⟨?_,f15,st2,[b],_,hC5,n2⟩;rw[hLT,hT,takeWhile_cons,ho];rfl;refine xj hks oJ fun s1 B1 w6 b6 f6 n6 _ _=>xj (hvs.q7 f6) oJ fun s2 B2 w7 b7 f7 n7 _ _=>?_;have hr7:=hfr (f15.trans ((f6.trans f7).mono fun _ h=>nomatch h));refine qD hr7 (v9 s1 s2) rfl rfl (zO rfl) fun w8 hr8 f8=>CV hr8 (s1,s2) rfl ?_;have hC7:=(hC5.q7 f6).q7 f7;have hn1:∀b'∈B1,w5.heap.size<=b':=n6;have hn2:∀b'∈B2,w5.heap.size<=b':=fun b' hb=>zL f6.size (n7 b' hb);have hz5:=f15.size;have hz1:=f1.size;have h12:∀b'∈B1,b'∉B2:=fun b' hb hm=>by have:=b6.lt b' hb;have:=n7 b' hm;omega
  have hrn:∀b'∈B1++B2,b'≠r:=fun b' hb e=>by
   rcases zD.1 hb with hb|hb
   have:=hn1 b' hb;omega
   have:=hn2 b' hb;omega
  have b8:fO w8 s1 y3[j].1 B1:=(b6.q7 f7).q8 f8 fun b' hb hm=>hrn b' (by simp[hb]) (zE.1 hm);have b9:fO w8 s2 y3[j].2 B2:=b7.q8 f8 fun b' hb hm=>hrn b' (by simp[hb]) (zE.1 hm);have hC8:fX dbk pb FD D F M k v frm to down w0 cb (B1++(B2++Y)) w8 st2 [b] (zlo++[(zx,dY y3,jA down j)]):=by have hA:fX dbk pb FD D F M k v frm to down w0 cb (B1++(B2++(r::Y))) w7 st2 [b] (zlo++[(zx,dY y3,jA down j)]):=hC5.q8 ((f6.trans f7).mono fun _ h=>nomatch h) (fun b' hb=>?_) fun b' hb=>?_;exact hA.q8 (f8.mono fun b' hb _=>by rw[zE.1 hb];simp) (fun b' hb=>.inl (by simp only[zD] at hb⊢;rcases hb with h|h|h<;>simp[h])) fun b' hb=>yC (hA.lt b' (by simp only[zD,zG] at hb⊢;rcases hb with h|h|h<;>simp[h])) f8.size;rcases zD.1 hb with h|hb;exact .inr (hn1 b' h);rcases zD.1 hb with h|hb;exact .inr (hn2 b' h);exact .inl hb;rcases zD.1 hb with h|hb;exact (b6.q7 f7).lt b' h;rcases zD.1 hb with h|hb;exact b7.lt b' h;exact hC7.lt b' (by simp only[zG,zD];exact .inr (.inr (zG.1 hb)))
  refine k1 y3[j] (T'.takeWhile fun x=>!mM down frm to x.1) (by rw[hLT,hT,takeWhile_cons,ho];rfl) s1 s2 B1 B2 w8 st2 [b] _ b8 b9 hC8 (.inr ⟨hh,T',by rw[xM];exact ht',rfl,fun e=>absurd e oM⟩) ?_ (fun b' hb=>(n2 b' hb).imp id fun h=>zL hz1 h) (fun b' hb=>zL (zL hz1 hz5) (hn1 b' hb)) (fun b' hb=>zL (zL hz1 hz5) (hn2 b' hb)) h12;refine ((f1.mono fun _ h=>nomatch h).trans (f15.trans ((f6.trans f7).mono fun _ h=>nomatch h))).j8 f8 fun b' hb=>.inr ?_;rw[zE.1 hb,e1];exact zM _
 rintro _ w2 ⟨hL0,f2,st2,SB2,zs2,hC2,n2⟩;refine fq<|hC2.sO (st':=dC) (SB':=[]) (zs':=[]) w2 (.refl _ _) (.nil _ _ _) (fun z hz=>nomatch hz) (fun b hb=>nomatch hb) (yW _) fun w3 hC3 f3=>?_;have f13:Fr (cb::SB) w1 w3:=f2.j8 f3 fun b hb=>by rcases zG.1 hb with rfl|hb;exact .inl oL;exact (n2 b hb).imp (fun h=>by simp[h]) id
 refine qD (hfr f13) (v9 dC dC) rfl rfl (zO rfl) fun w4 hr4 f4=>CV hr4 (dC,dC) rfl<|k0 hL0 w4 (hC3.q8 (f4.mono fun b hb _=>by rw[zE.1 hb];simp) (fun b hb=>.inl (by simp[hb])) fun b hb=>yC (hC3.lt b (by simp[hb])) f4.size) (((f1.mono fun _ h=>nomatch h).trans f13).j8 f4 fun b hb=>.inr ?_);rw[zE.1 hb,e1];exact zM _
end
section
def gX (down:Bool) (frm to:Key) (L:fL):fL:=if down then (k6 frm to L).reverse else k6 frm to L
def qxO{frm to:Key}(G:eU L):(mq frm L).takeWhile (fun x=>!mM false frm to x.1)=k6 frm to L:=by
 unfold mq;rw[Gj];rw[filter_filter];unfold k6;congr 1;funext x;unfold AL mM fD
 have:=Gc x.1 to
 by_cases C:cmpL x.1 frm<0<;>by_cases u:cmpL x.1 to>0<;>simp[C,u]<;>omega;refine ((pairwise_map.1 G).filter _).imp ?_;intro a b E h;unfold mM at h⊢;simp only[Bool.false_eq_true,if_false,zT,decide_eq_false_iff_not] at h⊢;intro I;have C:fD to a.1:=(by unfold fD;rw[tA];omega);have u:=om C E;unfold fD at u;rw[tA] at u;omega
def quQ{frm to:Key}(C:eU L):(tE to L).reverse.takeWhile (fun x=>!mM true frm to x.1)=(k6 frm to L).reverse:=by unfold tE;rw[Gj];rw[filter_reverse,filter_filter];unfold k6;congr 2;funext x;have e:fD to x.1↔cmpL x.1 to>0:=(by unfold fD;rw[tA to x.1];omega);have E:decide (cmpL x.1 frm>=0) = !decide (cmpL x.1 frm<0):=(by rw[<- decide_not];exact decide_eq_decide.2 oJ);have G:decide (¬fD to x.1)=decide (cmpL x.1 to<=0):=decide_eq_decide.2 (by rw[e];omega);unfold AL mM;simp only[if_true];rw[E,G];rw[pairwise_reverse];refine ((pairwise_map.1 C).filter _).imp ?_;intro a b u h;unfold mM at h⊢;simp only[if_true,zT,decide_eq_false_iff_not] at h⊢;intro I;exact h (om u I)
section
variable {dbk pb:Nat} {FD F:List Nat} {D:dE} {M:dU} {k v:Nat} {frm to:Key} {down:Bool} {w0 w wA:World} {cb:Nat} {Y SB:List Nat} {st:Sl} {zs:List pT}
def fO.cT{w:World}{l:List Int}(h:fO w s l B)(u:∀b∈B,b∉S):eE S w s l:=h.jq k8 u
def qw5{t:Int}{sf sto:Sl}{K:Option Addr->WP}(hT:TW dbk pb FD D 900000 w Y F M)(hs:qS t=((k:Int),(v:Int)))(hL:(k=0/\L=[])\/(k≠0/\fK D M k v t L P))(hLl:L.length<=90000)(hf:eE S w sf frm)(ht:eE S w sto to)(hfl:frm.length<=1000000)(htl:to.length<=1000000)(hfB:eB frm)(htB:eB to)(kk:∀cb w' st SB zs,fX dbk pb FD D F M k v frm to down w cb Y w' st SB zs->Left D M k v frm to down 1 (zs.map (·.2)) (gX down frm to L)->Fr [] w w'->K (pW cb) w'): cW 37 [dB pb,.i t,sf.v,sto.v,.bool down] dt w K:=by
 refine qmV (p:=pW pb) (t:=t) (from_:=sf) (to:=sto) (down:=down)<|qqE ?_;rw[hs];refine xj hf hfl fun s1 B1 w1 b1 f1 n1 _ _=>xj (ht.q7 f1) htl fun s2 B2 w2 b2 f2 n2 _ _=>oB (oE [] w2) fun cb w3 e3 f3 h=>?_;have hnf:(#[dB pb,.i (k:Int),.i (v:Int),s1.v,s2.v,.slice none 0 0,.nilFunc,.nilFunc,.nilFunc]:Array Value)=(oQ.cells ⟨pb,k,v,s1,s2,dC,.nilFunc,.nilFunc,.nilFunc⟩):=rfl;refine oD h 0 rfl (oQ.cells ⟨pb,k,v,s1,s2,dC,mf cb false,.nilFunc,.nilFunc⟩) fun w4 h f4=>oD h 0 rfl (oQ.cells ⟨pb,k,v,s1,s2,dC,mf cb false,mv cb false,.nilFunc⟩) fun w5 h f5=>oD h 0 rfl (oQ.cells ⟨pb,k,v,s1,s2,dC,mf cb false,mv cb false,nd cb false⟩) fun w6 h f6=>gQ (fun _ w'=>∃T,dM [] w2 w' [(cb,.cells (oQ.cells ⟨pb,k,v,s1,s2,dC,mf cb down,mv cb down,nd cb down⟩) T (0,0))]) ?_ ?_;cases down with
 | false=>exact cond_false rfl ⟨_,h⟩
 | true=>
  exact cond_true rfl<|oD h 0 rfl (oQ.cells ⟨pb,k,v,s1,s2,dC,mf cb true,mv cb false,nd cb false⟩) fun w7 h f7=>oD h 0 rfl (oQ.cells ⟨pb,k,v,s1,s2,dC,mf cb true,mv cb true,nd cb false⟩) fun w8 h f8=>oD h 0 rfl (oQ.cells ⟨pb,k,v,s1,s2,dC,mf cb true,mv cb true,nd cb true⟩) fun w9 h f9=>⟨_,h⟩
 rintro _ w7 ⟨T,h⟩;have f07:Fr [] w w7:=(f1.trans f2).trans h.fr;have hcl:=eT (h.at (i:=0) rfl);dsimp only at hcl;have hz1:=f1.size;have hz2:=f2.size;have hT7:=hT.q7 f07;have hylt:=hT.pX;have hcw:w.heap.size<=cb:=oJ;have hC:fX dbk pb FD D F M k v frm to down w cb Y w7 dC [] []:=by
  refine⟨⟨s1,s2,⟨T,h.at (i:=0) rfl⟩,fO.cT ((b1.q7 f2).q7 h.fr) (fun b hb hm=>?_),fO.cT (b2.q7 h.fr) (fun b hb hm=>?_)⟩,?_,.nil _ _ _,(fun z hz=>nomatch hz),(fun h=>nomatch h),(fun hm=>?_),(fun b hb=>nomatch hb),(fun b hb=>?_),hfB,htB,yW _⟩
  have:=b1.lt b hb;have:=n1 b hb
  rcases zG.1 hm with rfl|hm;omega
  have:=hylt b (oP hm);omega
  have:=b2.lt b hb;have:=n2 b hb
  rcases zG.1 hm with rfl|hm;omega
  have:=hylt b (oP hm);omega
  exact hT.As (B:=[cb]) (f07.mono fun _ h=>nomatch h) fun b hb=>by rw[zE.1 hb];exact⟨hcw,hcl⟩
  have:=hylt cb hm;omega
  rw[zE.1 hb];exact hcw
 refine gQ (fun _ w'=>∃st SB zs,fX dbk pb FD D F M k v frm to down w cb Y w' st SB zs/\Left D M k v frm to down 1 (zs.map (·.2)) (gX down frm to L)/\Fr [] w w') ?_ ?_;refine TW.J5 hT7 fun w8 f8=>?_;have hC8:=hC.q7 f8;refine gQ (fun q w'=>q=decide (0<k/\(dS M t).1≠0)/\w'=w8) ?_ ?_;refine dR (fun h=>⟨?_,rfl⟩) (fun h=>⟨?_,rfl⟩);have h:=zC h;rw[Bool.eq_iff_iff,yM,zT,zR];exact⟨fun g=>⟨oJ,g⟩,fun g=>g.2⟩;have h:=zB h;exact (zU fun g=>h oJ).symm;rintro q w9 ⟨rfl,rfl⟩;have h0:L=[]->Left D M k v frm to down 1 ([]:List jU) (gX down frm to L):=fun e=>.inl ⟨rfl,by rw[e];unfold gX k6;simp⟩;apply dR<;>intro hq;obtain⟨hk,hr⟩:=zC hq;obtain⟨_,hTr⟩:k≠0/\fK D M k v t L P:=hL.resolve_left fun h=>by omega
 have hrh:=(qnY hTr).1;rcases hTr with ⟨e,_,_⟩|⟨hh,n,p,hp,e,hHas⟩;rw[e] at hr;exact absurd rfl hr;have hrh2:hh+1<=L.length:=by rw[e] at hrh;exact hrh
 have hpu:gy p:=by
  have:=(C3 hT.wf t).1
  rw[e] at this;exact this
 rw[e];refine qoY (s:=⟨p,n,L,P⟩) hHas hpu hC8 (by show 0+hh+1<=100000;omega) fun w10 st10 SB10 zs10 hC10 hp10 f10 n10=>⟨st10,SB10,zs10,hC10,?_,(f07.trans f8).j8 f10 fun b hb=>.inr ?_⟩;obtain⟨fs,e1,e2⟩:=quN (frm:=frm) (to:=to) (down:=down) hHas;rw[hp10] at e1;have e1:=yN e1;rw[e1];refine .inr ⟨hh,_,e2,?_,fun e=>absurd e oM⟩;have hso:=hHas.sort;unfold gX;cases down with
 | false=>exact (qxO hso).symm
 | true=>exact (quQ hso).symm
 rw[zE.1 hb];exact hcw;have hq:=zB hq;have hLn:L=[]:=by rcases hL with h|⟨hk,hTr⟩;exact h.2;rcases hTr with ⟨_,h,_⟩|⟨hh,n,p,hp,e,hHas⟩;exact h;exact absurd ⟨oJ,by rw[e];exact hp⟩ hq
 exact⟨dC,[],[],hC8,h0 hLn,f07.trans f8⟩;rintro _ w8 ⟨st8,SB8,zs8,hC8,hL8,f8⟩;exact kk cb w8 st8 SB8 zs8 hC8 hL8 f8
end
end
section
abbrev SS:=Sl×Sl
def mp (x:SS):List Value:=[x.1.v,x.2.v]
def qo9:∀z,(mp z).length=2:=fun _=>rfl
def qvK(z:SS):∀u∈mp z,u.oneCell'=true:=fun u h=>by unfold mp at h;simp only[zG,xW,or_false] at h;rcases h with rfl|rfl<;>rfl
def qzz:∃i,Tryz.prog.info? Ar=some i/\i.zero=some (.agg cZ)/\i.size=2/\i.bytes=48:=se oK
def qzM{zs:List SS}{SB:List Nat}{x:SS}(h:eO mp 2 w s zs SB)(R:zs.length<=1000000)(G:∀E B' w',eO mp 2 w' E (zs++[x]) B'->Fr SB w w'->(∀b∈B',b∈SB\/w.heap.size<=b)->K E w'): Pt.new (.cells (v9 x.1 x.2) Ar) w fun r w1=>Pt.run de ((Builtin.append_ #[97,97] 97 #[s.v,.slice (pW r) 1 1]).run Tryz.prog w1) K:=by obtain⟨j,I,J,u,C⟩:=qzz;exact eO.push (e:=Ar) (x:=x) h qo9 (qvK _) oK I J u rfl rfl (by rw[C];omega) oJ G
def ot (w:World) (h:List Nat) (ps:List (SS×(Key×Key))):Prop:=∀p∈ps,∃u C,fO w p.1.1 p.2.1 u/\fO w p.1.2 p.2.2 C/\(∀b∈u,b∈h)/\∀b∈C,b∈h
def ot.q8{w w':World}{S E C:List Nat}{ps:List (SS×(Key×Key))}(h:ot w E ps)(f:Fr S w w')(G:∀b∈E,b∉S)(I:∀b∈E,b∈C):ot w' C ps:=fun p U=>by obtain⟨V,B2,h1,h2,J,R⟩:=h p U;exact⟨V,B2,h1.q8 f fun b u=>G b (J b u),h2.q8 f fun b u=>G b (R b u),fun b u=>I b (J b u),fun b u=>I b (R b u)⟩
section
variable {dbk pb:Nat} {FD F:List Nat} {D:dE} {M:dU} {k v:Nat} {frm to:Key} {down:Bool} {w0 w wA:World} {cb:Nat} {Y SB:List Nat} {st:Sl} {zs:List pT}
def qvb{t:Int}{sf ai:Sl}(hT:TW dbk pb FD D 900000 w [] F M)(hs:qS t=((k:Int),(v:Int)))(hL:(k=0/\L=[])\/(k≠0/\fK D M k v t L P))(aw:L.length<=90000)(hf:eE S w sf frm)(ht:eE S w ai to)(ax:frm.length<=1000000)(ay:to.length<=1000000)(az:eB frm)(aA:eB to)(kk:∀s w' B C ps,eO mp 2 w' s (ps.map (·.1)) B->ot w' C ps->(∀b∈C,b∉B)->ps.map (·.2)=(gX down frm to L).take most.toNat->Fr [] w w'->(∀b∈B,w.heap.size<=b)->(∀b∈C,w.heap.size<=b)->K s w'): cW 34 [dB pb,.i t,sf.v,ai.v,.bool down,.i most] de w K:=by
 refine qob<|qw5 hT hs hL aw hf ht ax ay az aA fun cb w1 st SB zs aj aB f1=>?_;have a6:(gX down frm to L).length<=90000:=by have h1:(k6 frm to L).length<=L.length:=length_filter_le _ _;unfold gX;split;rw[length_reverse];omega;omega
 have a7:∀b∈cb::SB,w.heap.size<=b:=aj.new;refine gQ (fun s w'=>∃B C ps,eO mp 2 w' s (ps.map (·.1)) B/\ot w' C ps/\(∀b∈C,b∉B)/\ps.map (·.2)=(gX down frm to L).take most.toNat/\Fr [] w w'/\(∀b∈B,w.heap.size<=b)/\(∀b∈C,w.heap.size<=b)) ?_ ?_
 ·refine CU (fun (i:Nat) s w'=>∃B C ps st SB zs,i<=(gX down frm to L).length/\eO mp 2 w' s (ps.map (·.1)) B/\ot w' C ps/\(∀b∈C,b∉B)/\ps.map (·.2)=(gX down frm to L).take i/\(most.toNat<i->i=0)/\Fr [] w w'/\(∀b∈B,w.heap.size<=b)/\(∀b∈C,w.heap.size<=b)/\fX dbk pb FD D F M k v frm to down w cb (B++C) w' st SB zs/\Left D M k v frm to down 1 (zs.map (·.2)) ((gX down frm to L).drop i)) (fun i=>(gX down frm to L).length+1-i) 0 ⟨[],[],[],st,SB,zs,yW _,.nil _ _ _,(fun p hp=>nomatch hp),(fun b u=>nomatch u),rfl,fun _=>rfl,f1,(fun b u=>nomatch u),(fun b u=>nomatch u),aj,by rw[xE];exact aB⟩ ?_;rintro i s w2 ⟨B,C,ps,a8,ad,a9,hi,u,hR,hd,R,aE,f2,n2,n3,G,aG⟩ X hX;have ba:s.len=i:=by
   rw[u.len,zK]
   have:=congrArg List.length R
   rw[zK,yK] at this;omega
  apply dR<;>intro hc;rotate_left;have hc:=zB hc;refine⟨B,C,ps,u,hR,hd,?_,f2,n2,n3⟩;rw[R];by_cases h0:most.toNat<i
  have:=aE h0;omega
  have:most.toNat=i:=oJ;rw[this];have hc:=zC hc;have bb:i<most.toNat:=oJ;have bc:=G.lt;refine qvc G aG (fun aH w3 ae f3=>?_) (fun x L' U ks vs B1 B2 w3 aI aJ aK hk hv ae aL f3 n4 n5 n6 aW=>?_);refine oB (oE [] w3) fun r w4 e4 f4 h=>oD h 0 rfl (v9 dC dC) fun w5 h f5=>cond_true rfl ?_;have af:Fr (cb::ad) w2 w5:=f3.trans (h.fr.mono fun _ h=>nomatch h);have E:∀b∈B++C,b∉cb::ad:=fun b u J=>by rcases zG.1 J with rfl|J;exact G.zo u;exact G.vU b J u
  refine⟨B,C,ps,u.q8 af fun b u=>E b (by simp[u]),hR.q8 af (fun b u=>E b (by simp[u])) fun b u=>u,hd,?_,f2.j8 af fun b u=>.inr (G.new b u),n2,n3⟩;rw[R];have I:(gX down frm to L).length<=i:=by
   have:=congrArg List.length aH
   rw[yB,xJ] at this;omega
  rw[zS I,zS oJ];have I:i<(gX down frm to L).length:=by
   have:=congrArg List.length U
   rw[yB,yH] at this;omega
  have hx:(gX down frm to L).take (i+1)=(gX down frm to L).take i++[x]:=(by rw[yF I];rw[zX I] at U;rw[(vB U).1]);have ag:(gX down frm to L).drop (i+1)=L':=(by rw[zX I] at U;exact (vB U).2);have E:∀b∈B++C,b∉cb::ad:=fun b u J=>by rcases zG.1 J with rfl|J;exact G.zo u;exact G.vU b J u
  have aN:eO mp 2 w3 s (ps.map (·.1)) B:=u.q8 f3 fun b u=>E b (by simp[u]);have aO:ot w3 (B1++(B2++C)) (ps++[((ks,vs),x)]):=fun p hp=>by rcases zD.1 hp with hp|hp;exact hR.q8 f3 (fun b u=>E b (by simp[u])) (fun b u=>by simp[u]) p hp;rw[zE.1 hp];exact⟨B1,B2,hk,hv,fun b u=>by simp[u],fun b u=>by simp[u]⟩
  have ap:∀b∈B1++(B2++C),b∉B:=fun b V J=>by
   have:=u.lt b J
   rcases zD.1 V with h|V
   have:=n5 b h;omega
   rcases zD.1 V with h|V
   have:=n6 b h;omega
   exact hd b V J
  refine oB (oE [] w3) fun r w4 e4 f4 h=>oD h 0 rfl (v9 ks vs) fun w5 h f5=>cond_false rfl<|oC h 0 rfl (ks,vs) rfl ?_;have aP:=ae.q7 h.fr;refine qzM (x:=(ks,vs)) (aN.q7 h.fr) (by rw[zK];have:=congrArg List.length R;rw[zK,yK] at this;omega) fun s6 B6 w6 b6 f6 n7=>?_;have aq:=ae.lt;have ab:∀b∈B1++(B2++C),b<w5.heap.size:=fun b u=>yC (aq b (by simp only[zD,zG] at u⊢;rcases u with h|h|h<;>simp[h])) h.fr.size;have aR:Fr [] w w6:=by refine (f2.j8 f3 fun b u=>.inr (G.new b u)).trans (h.fr) |>.j8 f6 fun b u=>.inr (n2 b u)
  have hz:=(f2.j8 f3 fun b u=>.inr (G.new b u)).size;refine hX (i+1) s6 w6 ⟨B6,B1++(B2++C),ps++[((ks,vs),x)],aI,aJ,aK,I,by rw[xM];exact b6,(aO.q8 h.fr (fun _ _ h=>nomatch h) fun b u=>u).q8 f6 ap fun b u=>u,fun b u J=>?_,by rw[xM,R,hx];rfl,fun h=>oJ,aR,fun b u=>?_,fun b u=>?_,aP.q8 (f6.mono fun b u _=>by simp[u]) (fun b u=>?_) (fun b u=>?_),by rw[ag];exact aL⟩ ?_;rcases n7 b J with h1|h1;exact ap b u h1
  have:=ab b u;omega
  rcases n7 b u with h1|h1;exact n2 b h1
  have:=h.fr.size;omega
  have ar:=f2.size;rcases zD.1 u with h|u;exact zL ar (n5 b h);rcases zD.1 u with h|u;exact zL ar (n6 b h);exact n3 b u;rcases zD.1 u with u|u;exact (n7 b u).imp (fun h=>by simp[h]) id;exact .inl (by simp only[zD] at u⊢;rcases u with h|h|h<;>simp[h]);rcases zD.1 u with u|u;exact b6.lt b u;exact yC (ab b u) f6.size;show _+1-(i+1)<_+1-i;omega
 rintro s w2 ⟨B,C,ps,h1,h2,h3,h4,h5,h6,h7⟩;exact kk s w2 B C ps h1 h2 h3 h4 h5 h6 h7
end
end
section
def qAc{frm to:Key}{x:Key×Key}:AL frm to x=true↔¬fD x.1 frm/\¬fD to x.1:=by unfold AL;rw[yA,yM,yM];have h:cmpL x.1 frm>=0↔¬fD x.1 frm:=(by unfold fD;omega);have u:cmpL x.1 to<=0↔¬fD to x.1:=(by unfold fD;rw[tA x.1 to];omega);rw[h,u]
def qxh(l:List Int):¬cmpL l l<0:=qw
def qzR{x y:List Int}{n m:Int}(u:nu n)(C:nu m)(E:x.length=y.length):fD (x++bw 8 n) (y++bw 8 m)↔fD x y\/x=y/\n<m:=by unfold fD;rw[qs8 E];by_cases e:x=y;rw[if_pos e,qvu u C,e];exact⟨fun h=>.inr ⟨rfl,h⟩,fun h=>h.elim (fun h=>absurd h (qxh y)) fun h=>h.2⟩;rw[if_neg e];exact⟨.inl,fun h=>h.elim id fun h=>absurd h.1 e⟩
def qtI{a b c d:Int}(u:nu a)(E:nu b)(C:nu c)(G:nu d):fD (ky a b) (ky c d)↔a<c\/a=c/\b<d:=by unfold ky;rw[qzR E G (by rw[kY,kY]),show fD (bw 8 a) (bw 8 c)↔a<c from qvu u C];exact⟨fun h=>h.imp id fun h=>⟨BH (by rw[p8];exact u) (by rw[p8];exact C) h.1,h.2⟩,fun h=>h.imp id fun h=>⟨by rw[h.1],h.2⟩⟩
def tZ (l:List (HL iS)):Prop:=l.Pairwise fun a b=>lY a b=true
def uR (d:HL iS):Key×Key:=(ky d.1 d.2.1,i3 (AT d))
def qxo{a b:HL iS}(h:kx iS a)(u:kx iS b):fD (uR a).1 (uR b).1↔lY a b=true:=by unfold lY;rw[yM];exact qtI (qH h.1) (qH h.2.1) (qH u.1) (qH u.2.1)
def mh.eqs{α κ:Type}{K:oi α κ}{l:List α}{f:α->Key×Key}(h:mh K L l)(u:∀a,f a=(K.g (K.key a),K.val a))(C:l.Pairwise fun a b=>fD (f a).1 (f b).1):L=l.map f:=by
 refine List.Perm.eq_of_pairwise (le:=fun x y=>fD x.1 y.1) (fun a b _ _ E G=>absurd G (rX E)) ?_ ?_ ?_
 have:=h.1.sort
 unfold eU fE dL at this;exact pairwise_map.1 this;exact pairwise_map.2 C;rw[show f=fun a=>(K.g (K.key a),K.val a) from funext u];exact h.1.perm
def kU (l:List (HL iS)) (J0 most:Int):List (HL iS):=(l.filter fun d=>decide (d.1<=J0)).take most.toNat
def qvH{J0:Int}(h:mh sW L l)(G:tZ l)(I:nu J0):(gX false [] (ky J0 18446744073709551615) L).take most.toNat=(kU l J0 most).map uR:=by
 have e:L=l.map uR:=h.eqs (fun _=>rfl) (List.Pairwise.imp_of_mem (fun {a b} J R u=>(qxo (h.2 a J) (h.2 b R)).2 u) G);unfold gX k6 kU;rw[if_neg oM,e,filter_map,xO];congr 2;refine filter_congr fun d U=>?_;have E:=h.2 d U;have u:=qH E.1;have C:=qH E.2.1;rw[Bool.eq_iff_iff,Function.comp,qAc,yM];have V:¬fD (uR d).1 []:=by
  unfold uR ky fD;have:bw 8 d.1≠[]:=fun e=>by have:=congrArg List.length e;rw[kY] at this;cases this
  cases hx:bw 8 d.1 with
  | nil=>exact absurd hx this
  | cons x r=>exact (by decide:¬(1:Int)<0)
 have h3:fD (ky J0 18446744073709551615) (uR d).1↔J0<d.1\/J0=d.1/\18446744073709551615<d.2.1:=qtI I ⟨oM,oM⟩ u C;rw[h3];have key:∀a e:Int,nu e->(¬(J0<a\/J0=a/\18446744073709551615<e)↔a<=J0):=fun a e h=>by omega
 exact⟨fun h=>(key _ _ C).1 h.2,fun h=>⟨V,(key _ _ C).2 h⟩⟩
abbrev A5:TypeId:=41
abbrev jl:HL iS->List Value:=HL.mk iS
def wL(d:HL iS):(jl d).length=4:=rfl
def qzu:∃i,Tryz.prog.info? A5=some i/\i.zero=some (.agg cY)/\i.size=4/\i.bytes=32:=se oK
def qvI(d:HL iS):∀u∈jl d,u.oneCell'=true:=fun u h=>by obtain⟨a,b,c,e⟩:=d;rcases zG.1 h with rfl|h;rfl;rcases zG.1 h with rfl|h;rfl;rcases zG.1 h with rfl|h;rfl;rw[zE.1 h];rfl
def wv{x:HL iS}(h:eO jl 4 w s l B)(R:l.length<=1000000)(G:∀E B' w',eO jl 4 w' E (l++[x]) B'->Fr B w w'->(∀b∈B',b∈B\/w.heap.size<=b)->K E w'): Pt.new (.cells (HL.mk iS x).toArray A5) w fun r w1=>Pt.run de ((Builtin.append_ #[29,29] 29 #[s.v,.slice (pW r) 1 1]).run Tryz.prog w1) K:=by obtain⟨j,I,J,u,C⟩:=qzu;exact eO.push (e:=A5) (x:=x) h wL (qvI x) oK I J u rfl rfl (by rw[C];omega) oJ G
section
variable {w w' w1:World} {Y F F':List Nat} {sb pb c:Nat} {b b':Bk}
def qsV{J0:Int}(h:SB w Y sb F c b)(hn:IntKind.u64.has J0)(hd:tZ b.due)(hl:b.size<=90000)(kk:∀s B w',eO jl 4 w' s (kU b.due J0 most) B->Fr [] w w'->(∀x∈B,w.heap.size<=x)->(∀d∈b.due,kx iS d)->K s w'): cW 10 [dB sb,.int .u64 J0,.i most] de w K:=by
 refine qkk ?_;obtain⟨pb,h⟩:=h;have g:=(Fr.refl [] w).drew;refine h.sw g (qsS fun s1 w1 h1 f1=>ia (h.held (g.trans f1)) ?_);obtain⟨dbk,FD,Fp,D,M,Fo,rfl,hS,ay,az,hb,hc,hj⟩:=h;have C:=hb.due;have aB:=C.len;have ad:=(hS.q7 g).q7 f1;have hz:b.due.length<=b.size:=(by unfold Bk.size;omega);refine qvb (S:=[]) (k:=16) (v:=16) (frm:=[]) (L:=(Fo 3).1) (P:=(Fo 3).2) ((ad.tw.y0 (Y':=[]) (fun _ h=>nomatch h)).up (by omega)) rfl (.inr ⟨oM,hS.st.J0.J2 3 oM⟩) oJ (.nil _ _ _ _) h1.rd (yW _) (by rw[wn];decide) (fun _ h=>nomatch h) (Df _ _) fun s2 w2 B KB ps hB hR _ E f2 nB _=>?_;rw[qvH C hd (qH hn)] at E;have ae:ps.length=(kU b.due J0 most).length:=(by have:=congrArg List.length E;simpa using this);have aE:(kU b.due J0 most).length<=b.due.length:=(by unfold kU;rw[yK];exact zL (Nat.min_le_right _ _) (length_filter_le _ _));have aF:s2.len=ps.length:=(by rw[hB.len,zK]);have af:dW mp 2 [] w2 s2 (ps.map (·.1)):=hB.jq qo9 fun _ _ h=>nomatch h;refine iV (fun q w'=>∃i:Nat,∃B',q.2=i/\i<=ps.length/\eO jl 4 w' q.1 ((kU b.due J0 most).take i) B'/\Fr [] w2 w'/\∀x∈B',w2.heap.size<=x) (fun q _=>ps.length-q.2.toNat) ⟨0,[],rfl,yW _,eO.nil _ _ _,.refl _ _,fun _ h=>nomatch h⟩ ?_;rintro⟨s3,q⟩ w3 ⟨i,B3,hq,hi,b3,J,n3⟩ X hX;dsimp only at hq b3⊢;subst hq;apply cD<;>intro G;have u:i<ps.length:=oJ;have I:i<(kU b.due J0 most).length:=oJ;have R:ps[i].2=uR (kU b.due J0 most)[i]:=by
  have:=congrArg (·[i]?) E
  simp only[zQ,zA u,zA I,Option.map_some] at this;exact yN this
 generalize U:(kU b.due J0 most)[i]=d at R;have hm:d∈b.due:=(by rw[<- U];exact (mem_filter.1 (yU (zW I))).1);have ok:=C.2 d hm;obtain⟨B1,B2,k1,k2,_,_⟩:=hR ps[i] (zW u);rw[R] at k1 k2;have ah:eE [] w2 ps[i].1.1 (ky d.1 d.2.1):=k1.jq k8 fun _ _ h=>nomatch h;have ai:eE [] w2 ps[i].1.2 (i3 (AT d)):=k2.jq k8 fun _ _ h=>nomatch h;refine gQ (fun q w'=>∃B',eO jl 4 w' q ((kU b.due J0 most).take (i+1)) B'/\Fr [] w2 w'/\∀x∈B',w2.heap.size<=x) ?_ fun s4 w4 ⟨B4,b4,f4,n4⟩=>hX _ _ ⟨i+1,B4,by dsimp only;rw[gc _ oJ];rfl,u,b4,f4,n4⟩ (by dsimp only;rw[gc _ oJ];omega);refine dW.pO (x:=ps[i].1) (y:=ps[i].1) (af.q7 J) i rfl (by rw[zQ,zA u];rfl) rfl rfl<|oB (oE [] w3) fun r4 w4 _ f4 o=>o.st' 0 rfl _ (oc rfl) rfl (zM _) fun w5 o _=>oA o 0 rfl ps[i].1.1 rfl (oA o 0 rfl ps[i].1.2 rfl ?_);have f5:=J.trans o.fr;refine qtV (x:=AT d) (ah.q7 f5) (ai.q7 f5) (qH ok.1) (qH ok.2.1) ⟨qH ok.2.2.1,qH ok.2.2.2⟩ fun w6 f6=>oB (o.q7 f6) fun r7 w7 _ f7 o=>o.st' 0 rfl _ (oc rfl) rfl (zM _) fun w8 o _=>cond_true rfl (oC o 0 rfl d rfl ?_);refine wv (b3.q7 o.fr) (by rw[yK];omega) fun s9 B9 w9 b9 f9 n9=>⟨B9,?_,(J.trans o.fr).j8 f9 fun x V=>.inr (n3 x V),fun x V=>(n9 x V).elim (n3 x) fun h=>zL (J.trans o.fr).size h⟩;rw[yF I,U];exact b9;have u:i=ps.length:=oJ;subst u;rw[ae,xY] at b3;have f:=(g.trans f1).trans f2;exact kk s3 B3 w3 b3 (f.trans J) (fun x V=>zL f.size (n3 x V)) C.2
end
end
section
def BF{x:Int}(h:nu x):IntKind.u64.has x:=show (0:Int)<=x/\x<=18446744073709551615 from⟨h.1,oJ⟩
def qya:IntKind.u64.has 0:=BF ⟨oM,oM⟩
section
variable {w w' w1:World} {Y F F':List Nat} {sb pb c:Nat} {b b':Bk}
end
end
section
section
variable {w w' w1:World} {Y F F':List Nat} {sb pb c:Nat} {b b':Bk}
def SB.flt(h:SB w Y sb F c b):∀x∈F,x<w.heap.size:=by obtain⟨pb,dbk,FD,I,D,M,Fo,rfl,u,C,E,J,R,U⟩:=h;exact fun x G=>(zD.1 G).elim (fun h=>u.tw.x8.nQ x (zH _ h)) fun h=>u.tw.x8.lt x h
def qxp{J0:Int}:(kU l J0 most).length<=l.length:=by unfold kU;rw[yK];exact zL (Nat.min_le_right _ _) (length_filter_le _ _)
end
end
section
def zj{a b:jc}{x y:Operand}{K:Bool->Prop}(k:K (decide (a=b))): fc [gO.one Cell.bool] (fun w'=>(do eqGuard .eql A0 x y (c6 a.1 a.2) (c6 b.1 b.2);binOp .eql A0 (c6 a.1 a.2) (c6 b.1 b.2):Sem Value).run Tryz.prog w') w K:=by have e:sd Tryz.prog 2 A0 (c6 a.1 a.2) (c6 b.1 b.2)=some (bif a.1==b.1 then (bif a.2==b.2 then true else false) else false):=oK;have h:(bif a.1==b.1 then (bif a.2==b.2 then true else false) else false)=decide (a=b):=(by obtain⟨u,C⟩:=a;obtain⟨E,G⟩:=b;dsimp only;by_cases h0:u=E;by_cases h1:C=G;simp[h0,h1];simp[h0,h1];simp[h0]);rw[h] at e;exact FO 2 oM _ e oK k
def dW.kX{α:Type}{enc:α->List Value}{k:Nat}{l:List α}{cl:List Cell}(h:dW enc k S w s l)(n:Nat){i:Int}{x:α}{y:HL cl}{K:HL cl->Prop}(hi:i=n)(u:l[n]?=some x)(C:cl.length<=k)(E:(enc x).take cl.length=HL.mk cl y)(G:K y):idx s i k fun a=>dJ cl a w K:=by subst hi;obtain⟨U,b,o,I,_,V,T,fr,J,R⟩:=h.at n u;refine pY I ⟨oJ,oJ⟩ ?_;rw[zJ];refine CV J y ?_ G;rw[<- E,<- R,take_take,xQ C]
def dW.yz{α:Type}{enc:α->List Value}{k:Nat}{l:List α}{c:Cell}(h:dW enc k S w s l)(n j:Nat){i:Int}{x:α}{y:c.El}{K:c.El->Prop}(hi:i=n)(C:l[n]?=some x)(E:j<k)(u:(enc x)[j]?=some (c.mk y))(G:K y):idx s i k fun a=>ld c ⟨a.block,a.off+j,none⟩ w K:=by subst hi;obtain⟨U,b,o,I,_,V,T,fr,J,R⟩:=h.at n C;refine pY I ⟨oJ,oJ⟩ ?_;rw[zJ];refine iG J y ?_ G;rw[<- R,xA,if_pos E,yZ] at u;rw[<- xK];exact u
def oj (x:jc×Int):List Value:=[.int .u64 x.1.1,.int .u64 x.1.2,.b x.2]
def nC (m:Mv):List Value:=[.int .u64 m.1.1,.int .u64 m.1.2,.int .u64 m.2.1,.int .u64 m.2.2.1,.int .u64 m.2.2.2]
def mn (x:Ln):List Value:=[.int .u64 x.1.1,.int .u64 x.1.2]++HL.mk lX x.2
def An (x:jc×Int):List Value:=[.int .u64 x.1.1,.int .u64 x.1.2,.int .u64 x.2]
abbrev ql:HL ku->List Value:=HL.mk ku
abbrev ph:=HL fT
structure RB (S:List Nat) (w:World) (r:ph) (b:Bk):Prop where
 acc:dW ql 15 S w r.1 b.acc
 ll:dW rz 18 S w r.2.1 b.ll
 kO:dW oj 3 S w r.2.2.1 b.kO
 due:dW jl 4 S w r.2.2.2.1 b.due
 mL:dW nC 5 S w r.2.2.2.2.1 b.mL
 mQ:dW nC 5 S w r.2.2.2.2.2.1 b.mQ
 jH:dW mn 12 S w r.2.2.2.2.2.2.1 b.jH
 told:r.2.2.2.2.2.2.2.2.1=b.last.isSome/\r.2.2.2.2.2.2.2.1=b.last.getD 0
 gone:∃ g:List (jc×Int),g.length<=b.gn/\dW An 3 S w r.2.2.2.2.2.2.2.2.2 g
section
variable {S S':List Nat} {w w':World} {r:ph} {b:Bk}
def RB.q8(h:RB S w r b)(f:Fr S w w')(u:∀x∈S',x∈S\/w.heap.size<=x):RB S' w' r b:=⟨h.acc.q8 f u,h.ll.q8 f u,h.kO.q8 f u,h.due.q8 f u,h.mL.q8 f u,h.mQ.q8 f u,h.jH.q8 f u,h.told,h.gone.elim fun g q=>⟨g,q.1,q.2.q8 f u⟩⟩
def RB.q7(h:RB S w r b)(f:Fr [] w w'):RB S w' r b:=h.q8 (f.mono fun _ h _=>nomatch h) fun _ h=>.inl h
def At{α:Type}{p:α->Bool}{l:List α}{i:Nat}{x:α}(G:l[i]?=some x)(C:(l.take i).find? p=none):(p x=true->l.find? p=some x)/\(p x=false->(l.take (i+1)).find? p=none):=by obtain⟨E,u⟩:=zP.1 G;constructor;intro h;rw[show l.find? p=(l.take i++l.drop i).find? p by rw[xD],List.find?_append,C,zX E,u,List.find?_cons,h];rfl;intro h;rw[yF E,u,List.find?_append,C,List.find?_cons,h];rfl
end
end
end
end Go.Proofs.YtpcmehldpoljfaaGreatDoor
