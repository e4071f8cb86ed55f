/- Conditions: those that stand in each line. -/
import Derived.Test.YtpcmehldpoljfaaGreatDoorCSMQ5
import Derived.Test.YtpcmehldpoljfaaGreatDoorCSMQ4
import Derived.Test.YtpcmehldpoljfaaGreatDoorCSMQ2
import Derived.Test.YtpcmehldpoljfaaGreatDoorCSMQ3
import Derived.Laws.Externs
set_option linter.unusedVariables false
set_option linter.unusedSimpArgs false
set_option linter.defProp false
namespace Go.Proofs.YtpcmehldpoljfaaGreatDoor
open Go Go.Pt
attribute [local irreducible] ld dK iF mK iY fq st new idx i3 ji fy jk iL lN gU nn call dU inv run eX iD join loop held ext jQ eu mr ma mv IntKind.wrap
section
open Go Go.Pt List
open Go.IntKind (wrap)
open Classical
variable {key:Key}
section
variable {D:dI} {M:dZ} {k v side c:Nat} {n nx ny:dL}
def qxK{e:Int}(h:dJ D M k v (n.J9.getD side 0)=(ny,e))(u:e≠0):jG D k v M n side c nx=((iv,e),M):=by unfold jG;rw[h,if_pos u]
def qwa(h:dJ D M k v (n.J9.getD side 0)=(ny,0))(u:¬iV ny k v):jG D k v M n side c nx=lI k v M n (if side<c then side else c) (if side<c then ny else nx) (if side<c then nx else ny):=by unfold jG;rw[h,if_neg (fun h=>h rfl)];by_cases hsd:side<c;rw[if_pos hsd,if_pos hsd,if_pos hsd,if_pos hsd,if_pos u];rw[if_neg hsd,if_neg hsd,if_neg hsd,if_neg hsd,if_pos u]
def qv9(h:dJ D M k v (n.J9.getD side 0)=(ny,0))(u:iV ny k v):jG D k v M n side c nx=np k v M n (if side<c then side else c) (if side<c then iX ny nx (n.J6.getD side []) else takeN nx ny (n.J6.getD c [])):=by unfold jG;rw[h,if_neg (fun h=>h rfl)];by_cases hsd:side<c;rw[if_pos hsd,if_pos hsd,if_pos hsd,if_neg (fun h=>h u)];rw[if_neg hsd,if_neg hsd,if_neg hsd,if_neg (fun h=>h u)]
def qlV{n:dL}{k v:Nat}(h:fJ n k v):gK n:=by obtain⟨G,I,J,u,E⟩:=uV h;exact⟨fun h=>(u h).1,fun h=>(E h).1.symm,oJ,oJ,oJ⟩
def qvp(G:gZ k v)(u:iV n k v)(sn:gK n):1<=n.J6.length/\(n.Q4=true->2<=n.J6.length):=by
 have I:=G.Q4;have J:=G.inner;unfold iV at u;unfold eS at u;cases E:n.Q4 with
 | true=>rw[E,if_pos rfl] at u;dsimp only at u;exact⟨oJ,fun _=>oJ⟩
 | false=>
  have:=sn.inner E
  rw[E,if_neg oM] at u;dsimp only at u;exact⟨oJ,fun h=>nomatch h⟩
end
section
variable {dbk pb j:Nat} {FD S S0 N0 Y F F' T B Bl Br Bn Bx By:List Nat} {D:dI} {w0 wa w w' w7:World} {M M':dZ} {L:List (Nat×Obj)} {x xx xy:kj} {n nx ny:dL} {k v:Nat} {t:Int}
def Ed.more(e:Ed dbk pb FD D j S0 N0 w0 w (fh L) Y F M x n B)(h:dQ T wa w L)(R:TW dbk pb FD D j w7 (By++(fh L++(B++Y))) F M)(U:fi (Zo FD (By++(fh L++(B++Y))) F) w7 xy ny By)(f:Fr [] w w7)(G:∀c∈By,w.heap.size<=c): Ed dbk pb FD D j S0 N0 w0 w7 (fh L) (By++Y) F M x n B/\dQ (fh L) w7 w7 L/\nO FD F w7 (fh L) (B++(By++Y)) xy ny By:=by
 have E:∀b∈Zo FD (fh L++(B++(By++Y))) F,b∈Zo FD (By++(fh L++(B++Y))) F:=fun b u=>by simp only[Zo,zD,zG] at u⊢;rcases u with (u|u|u|u|u|u)|u<;>simp[u]
 have I:∀b∈Zo FD (fh L++(B++(By++Y))) F,b∈Zo FD (fh L++(B++Y)) F\/w.heap.size<=b:=fun b u=>by simp only[Zo,zD,zG] at u⊢;rcases u with (u|u|u|u|u|u)|u;simp[u];simp[u];simp[u];simp[u];exact .inr (G b u);simp[u];simp[u]
 refine⟨⟨⟨e.sg.pY.j8 f (fun _ h=>nomatch h),e.sg.new,e.sg.own⟩,R.y3 fun b u=>?_,e.node.q8 f (fun _ _ h=>nomatch h) (fun _ h=>nomatch h) I,e.sep,e.cG,e.cT,fun b u E=>?_⟩,pG h f (fun _ _ h=>nomatch h),U.j6 fun b u=>.inl (E b u),fun b u E=>?_⟩;simp only[zD] at u⊢;rcases u with u|u|u|u<;>simp[u];rcases zD.1 E with J|J
 have:=e.node.lt b u;have:=G b J;omega
 exact e.cM b u J
 have:=ws h b u;have:=G b E;omega
def nO.more(o:nO FD F w (fh L) (B++Y) x n Bx)(f:Fr [] w w7)(E:∀c∈By,w.heap.size<=c):nO FD F w7 (fh L) (B++(By++Y)) x n Bx:=
 ⟨o.node.q8 f (fun _ _ h=>nomatch h) (fun _ h=>nomatch h) fun b u=>by simp only[Zo,zD,zG] at u⊢;rcases u with (u|u|u|u|u|u)|u;simp[u];simp[u];simp[u];simp[u];exact .inr (E b u);simp[u];simp[u],o.sep⟩
def nO.q7{R:List Nat}(o:nO FD F w T R x n B)(f:Fr [] w w'):nO FD F w' T R x n B:=⟨o.node.q7 f,o.sep⟩
def qwd{nl nr:dL}(h:∀a∈nl.J6,eH a)(sl:gK nl)(u:gK nr):eH (iX nl nr key).2.2/\(iX nl nr key).1.J6.length<=9000/\(iX nl nr key).1.Q0.length<=9000/\(iX nl nr key).1.J9.length<=9000/\(iX nl nr key).2.1.J6.length<=9000/\(iX nl nr key).2.1.Q0.length<=9000/\(iX nl nr key).2.1.J9.length<=9000:=by obtain⟨_,_,E,G,I⟩:=sl;obtain⟨_,_,J,R,U⟩:=u;unfold iX;split;refine⟨tk h _,?_⟩;simp only[yL,yI];omega;refine⟨tk h _,?_⟩;simp only[yL,yI];omega
def qw8{nl nr:dL}(h:∀a∈nr.J6,eH a)(sl:gK nl)(u:gK nr):eH (takeN nl nr key).2.2/\(takeN nl nr key).1.J6.length<=9000/\(takeN nl nr key).1.Q0.length<=9000/\(takeN nl nr key).1.J9.length<=9000/\(takeN nl nr key).2.1.J6.length<=9000/\(takeN nl nr key).2.1.Q0.length<=9000/\(takeN nl nr key).2.1.J9.length<=9000:=by obtain⟨_,_,G,I,J⟩:=sl;obtain⟨_,_,R,U,V⟩:=u;unfold takeN;split;refine⟨tk (fun a E=>h a (yU E)) _,?_⟩;simp only[zF,yC,yI,xK];omega;refine⟨tk h _,?_⟩;simp only[zF,yC,yI,xK];omega
def tG{Y':List Nat}(h:∀b∈Y',b∈Y):∀b∈Zo FD Y' F,b∈Zo FD Y F:=fun b u=>by simp only[Zo,zD,zG] at u⊢;rcases u with (u|u|u)|u;simp[u];simp[u];simp[h b u];simp[u]
def Ed.fP{Y1:List Nat}(e:Ed dbk pb FD D j S0 N0 w0 w (fh L) Y F M x n B)(h:dQ T wa w L)(U:TW dbk pb FD D j w' (fh L++(B++Y1)) F M)(f:Fr S w w')(I:∀b∈S,b∈S0\/w0.heap.size<=b)(E:∀b∈S,b∉B/\b∉fh L)(J:∀b∈S,b∈Zo FD (fh L++(B++Y)) F)(R:∀b∈Y1,b∈Y): Ed dbk pb FD D j S0 N0 w0 w' (fh L) Y1 F M x n B/\dQ (fh L) w' w' L:=
 ⟨⟨⟨e.sg.pY.j8 f I,e.sg.new,e.sg.own⟩,U,e.node.q8 f (fun b u G=>(E b G).1 u) (fun b u=>.inl (J b u)) fun b u=>.inl (by simp only[Zo,zD,zG] at u⊢;rcases u with (u|u|u|u|u)|u;simp[u];simp[u];simp[u];simp[u];simp[R b u];simp[u]),e.sep,e.cG,e.cT,fun b u G=>e.cM b u (R b G)⟩,pG h f fun b u G=>(E b G).2 u⟩
set_option maxHeartbeats 4000000 in
def qxL{side c:Nat}{K:kj×Int->WP}(hT:TW dbk pb FD D j w0 (Bn++(Bx++Y)) F M)(hn:fi (Zo FD (Bn++(Bx++Y)) F) w0 x n Bn)(hx:fi (Zo FD (Bn++(Bx++Y)) F) w0 xx nx Bx)(d1:∀b∈Bn,b∉Bx)(d2:∀b∈Bn,b∉Y)(d3:∀b∈Bx,b∉Y)(sn:gK n)(sx:gK nx)(a7:n.Q4=false)(cu:side+1=c\/c+1=side)(hs:side<n.J9.length)(cv:c<n.J9.length)(bM:∀ny,dJ D M k v (n.J9.getD side 0)=(ny,0)->ny.Q4=nx.Q4)(a8:gZ k v)(kk:∀yn B' F' w',TW dbk pb FD D j w' (B'++Y) F' (jG D k v M n side c nx).2->fi (Zo FD (B'++Y) F') w' yn (jG D k v M n side c nx).1.1 B'->Fr (Bn++(Bx++F)) w0 w'->(∀b∈B',b∈Bn\/w0.heap.size<=b)->(∀b∈F',b∈Bn++(Bx++F)\/w0.heap.size<=b)->K (yn,(jG D k v M n side c nx).1.2) w'): cW 170 [.agg (nz (jD k v pb t)),.agg (eK x),.i side,.i c,.agg (eK xx)] [.agg dY,.one .i] w0 K:=by
 refine qlk ?_;unfold Eb Ft;have ei:(if (c:Int)<(side:Int) then (c:Int) else (side:Int))=(((if side<c then side else c):Nat):Int):=by by_cases h1:c<side;rw[iP,iN];rw[iN,iP]
 have ap:(if side<c then side else c)+1<n.J9.length:=(by split<;>omega);rw[ei];generalize aD:(if side<c then side else c)=i at ap⊢;have il:=sn.inner a7;have s1:=sn.J6;have s3:=sn.J9;have aE:i<n.J6.length:=oJ;have ew:wrap .i64 ((i:Int)+1)=((i+1:Nat):Int):=rz oJ;rw[ew];have e0:Ed dbk pb FD D j (Bn++(Bx++F)) Bn w0 w0 [] (Bx++Y) F M x n Bn:=⟨⟨.refl _ _,fun b u=>.inl (by simp[u]),fun _ h=>nomatch h⟩,hT,hn,fun _ h=>(nomatch h),fun b u=>.inl u,fun b u=>by simp[u],fun b u J=>(zD.1 J).elim (d1 b u) (d2 b u)⟩;have o0:nO FD F w0 [] (Bn++(Bx++Y)) xx nx Bx:=⟨hx,fun _ h=>nomatch h⟩;rcases am:dJ D M k v (n.J9.getD side 0) with ⟨ny,ey⟩;have bO:n.J9.getD side 0=n.J9[side]:=uy hs;have aM:dJ D M k v n.J9[side]=(ny,ey):=(by rw[<- bO];exact am);have a9:=hx.lt;have a':∀b∈Y,b<w0.heap.size:=fun b u=>hT.qx b (by simp[u]);have ba:gI n.J9[side]:=hn.2.1.2.2 _ (zX hs);have h:=oE [] w0;refine oB h fun R w2 _ _ h=>oB h fun U w4 _ _ h=>oB h fun V w6 _ _ h=>oB h fun r7 w8 _ _ h=>?_;have h:=oF h;refine⟨?a,?b⟩;case' a=>
  have e:=e0.J0 h;have o:=o0.J0 h;refine oC h 3 rfl (jD k v pb t) rfl<|oA h 2 rfl x.2.2.2 rfl<|ed.cR e.y7 side rfl hs fun bP hh=>?_;have aR:=e.fr.size;refine Bu (k:=k) (v:=v) e.tw ba fun xy By bR aq ac ar ad=>?_;rw[aM] at ac⊢;dsimp only at ac;obtain⟨e,h,oy⟩:=e.more h aq ac ar ad;have ox:=o.more (By:=By) ar ad;refine oB h fun E bS _ _ h=>l9 (hh _ _ (e.J0 h).y7) (h.cell 3 rfl rfl) (h.cells 4 rfl rfl)<|oD h 0 rfl (eK xy) fun bT h _=>?_;have oy:=oy.J0 h;have ox:=ox.J0 h;have e:=e.J0 h;have h:=lL h (.refl _);have aF:∀b∈By,w0.heap.size<=b:=fun b u=>zL aR (ad b u)
 case' b=>
  have e:=e0.J0 h;have o:=o0.J0 h;have h:=lL h (.refl _);refine oC h 3 rfl (jD k v pb t) rfl<|oA h 2 rfl x.2.2.2 rfl<|ed.cR e.y7 side rfl hs fun bP hh=>oB h fun E bS _ _ h=>?_;have e:=e.J0 h;have o:=o.J0 h;refine l9 (hh _ _ e.y7) (h.cell 3 rfl rfl) (h.cells 4 rfl rfl) ?_;have aR:=e.fr.size;refine Bu (k:=k) (v:=v) e.tw ba fun xy By bR aq ac ar ad=>?_;rw[aM] at ac⊢;dsimp only at ac;obtain⟨e,h,oy⟩:=e.more h aq ac ar ad;have ox:=o.more (By:=By) ar ad;refine oD h 0 rfl (eK xy) fun bT h _=>?_;have oy:=oy.J0 h;have ox:=ox.J0 h;have e:=e.J0 h;have h:=lL h (.refl _);have aF:∀b∈By,w0.heap.size<=b:=fun b u=>zL aR (ad b u)
 all_goals
  apply dV<;>intro hc;have au:ey≠0:=by rw[zT] at hc;exact zR.1 hc
  rw[qxK am au] at kk;refine oD h 1 rfl (eK fD) fun bU h _=>oC h 1 rfl fD rfl ?_;have e:=e.J0 h;exact kk fD [] F bU (e.qA.y3 fun b u=>by simp at u⊢;simp[u]) (.zero _ _) e.fr (fun _ h=>(nomatch h)) e.sg.new;have bV:ey=0:=by rw[yE] at hc;exact yP.1 hc
  subst bV;have bW:=BY am;have sy:=qlV bW;have aN:=bM ny am;have aT:∀b∈By,b∉Bx:=fun b u J=>by have:=aF b u;have:=a9 b J;omega
  have bc:∀b∈By,b∉Y:=fun b u J=>by have:=aF b u;have:=a' b J;omega
  refine⟨?_,?_⟩;have h:=oF h;refine oC h 2 rfl xx rfl<|oC h 0 rfl xy rfl<|oB h fun G bX _ _ h=>jU (h.cells 1 rfl rfl) (h.cells 3 rfl rfl)<|oB h fun I bY _ _ h=>jU (h.cells 2 rfl rfl) (h.cells 4 rfl rfl)<|oD h 1 rfl (eK xx) fun bZ h _=>ig (h.cells 2 rfl rfl)<|oD h 0 rfl (eK xy) fun b0 h _=>?_;rotate_left;have h:=oF h;refine oC h 2 rfl xx rfl<|oC h 0 rfl xy rfl<|oB h fun I bX _ _ h=>jU (h.cells 1 rfl rfl) (h.cells 3 rfl rfl)<|oB h fun G bY _ _ h=>jU (h.cells 2 rfl rfl) (h.cells 4 rfl rfl)<|oD h 0 rfl (eK xx) fun bZ h _=>ig (h.cells 2 rfl rfl)<|oD h 1 rfl (eK xy) fun b0 h _=>?_;have h:=De h (List.Perm.swap _ _ _);all_goals
   obtain⟨xl,nl,Bl,xr,nr,Br,hP⟩:∃xl nl Bl xr nr Br,(side<c/\xl=xy/\nl=ny/\Bl=By/\xr=xx/\nr=nx/\Br=Bx)\/(¬side<c/\xl=xx/\nl=nx/\Bl=Bx/\xr=xy/\nr=ny/\Br=By):=by by_cases ab:side<c;exact⟨_,_,_,_,_,_,.inl ⟨ab,rfl,rfl,rfl,rfl,rfl,rfl⟩⟩;exact⟨_,_,_,_,_,_,.inr ⟨ab,rfl,rfl,rfl,rfl,rfl,rfl⟩⟩
   refine hU (fun _ w'=>dQ [I,G,E,r7,V,U,R] w' w' [(I,.cells (eK xr) ND (0,0)),(G,.cells (eK xl) ND (0,0)),(E,.cells (eK xy) ND (0,0)),(r7,.cells (eK fD) ND (0,0)),(V,.cells (eK xx) ND (0,0)),(U,.cells (eK x) ND (0,0)),(R,.cells (nz (jD k v pb t)) WK (0,0))]/\
    Ed dbk pb FD D j (Bn++(Bx++F)) Bn w0 w' [I,G,E,r7,V,U,R] (By++(Bx++Y)) F M x n Bn/\nO FD F w' [I,G,E,r7,V,U,R] (Bn++(By++(Bx++Y))) xx nx Bx/\nO FD F w' [I,G,E,r7,V,U,R] (Bn++(By++(Bx++Y))) xy ny By) ?_ ?_
   apply dV<;>intro hc;have ab:side<c:=(by have:=zC hc;omega);rcases hP with ⟨_,rfl,rfl,rfl,rfl,rfl,rfl⟩|⟨hn,_⟩;have h:=oF h;exact oC h 2 rfl xl rfl<|oC h 4 rfl xr rfl<|oD h 1 rfl (eK xl) fun cy h _=>ig (h.cells 4 rfl rfl)<|oD h 0 rfl (eK xr) fun cz h _=>⟨lL h (.refl _),e.J0 h,ox.J0 h,oy.J0 h⟩;exact absurd ab hn;have ab:¬side<c:=(by have:=zB hc;omega);rcases hP with ⟨hn,_⟩|⟨_,rfl,rfl,rfl,rfl,rfl,rfl⟩;exact absurd hn ab;exact⟨lL h (.refl _),e.J0 h,ox.J0 h,oy.J0 h⟩;rintro _ cA ⟨h,e,ox,oy⟩;refine oC h 6 rfl (BV k v) rfl<|oC h 2 rfl xy rfl ?_;have ly:oc xy ny:=(oy.node.rd (S:=[]) (fun _ _ h=>(nomatch h)) fun _ h=>nomatch h).lens;refine qyl ly fun an b1=>?_;have h:=h.q7 b1;have e:=e.J0 h;have ox:=ox.J0 h;have oy:=oy.J0 h;have h:=lL h (.refl _);apply dV<;>intro hc;have aH:¬iV ny k v:=by rw[zT] at hc;exact zB hc
   rw[qwa am aH] at kk;have hj:(if side<c then ny else nx)=nl/\(if side<c then nx else ny)=nr:=by rcases hP with ⟨h1,_,h2,_,_,h3,_⟩|⟨h1,_,h2,_,_,h3,_⟩;rw[if_pos h1,if_pos h1,h2,h3];exact⟨rfl,rfl⟩;rw[if_neg h1,if_neg h1,h2,h3];exact⟨rfl,rfl⟩
   rw[aD,hj.1,hj.2] at kk;have e:=e.sub (T1:=[I,G,E,r7,V,U,R]) fun b u=>u;have aU:nO FD F an [I,G,E,r7,V,U,R] (Bn++(By++(Bx++Y))) xl nl Bl:=by rcases hP with ⟨_,rfl,rfl,rfl,_⟩|⟨_,rfl,rfl,rfl,_⟩<;>assumption
   have b4:nO FD F an [I,G,E,r7,V,U,R] (Bn++(By++(Bx++Y))) xr nr Br:=by rcases hP with ⟨_,_,_,_,rfl,rfl,rfl⟩|⟨_,_,_,_,rfl,rfl,rfl⟩<;>assumption
   have bd:gK nl/\gK nr:=by rcases hP with ⟨_,_,rfl,_,_,rfl,_⟩|⟨_,_,rfl,_,_,rfl,_⟩<;>exact⟨by assumption,by assumption⟩
   have b5:(∀b∈Bl,b∈By\/b∈Bx)/\(∀b∈Br,b∈By\/b∈Bx)/\∀b∈Bl,b∉Br:=by rcases hP with ⟨_,_,_,rfl,_,_,rfl⟩|⟨_,_,_,rfl,_,_,rfl⟩;exact⟨fun b u=>.inl u,fun b u=>.inr u,aT⟩;exact⟨fun b u=>.inr u,fun b u=>.inl u,fun b u J=>aT b J u⟩
   obtain⟨aI,bf,b6⟩:=b5;have aV:∀b,b∈By\/b∈Bx->b∉Bn/\b∉Y:=fun b u=>by rcases u with u|u;exact⟨fun J=>e.cM b J (by simp[u]),bc b u⟩;exact⟨fun J=>e.cM b J (by simp[u]),d3 b u⟩
   have av:∀b∈Bl++(Bn++(Br++([I,G,E,r7,V,U,R]++Y))),b∈[I,G,E,r7,V,U,R]++(Bn++(By++(Bx++Y))):=fun b u=>by have a1:=aI b;have a2:=bf b;rw[zD,zD,zD,zD] at u⊢;rcases u with u|u|u|u|u;rcases a1 u with h|h<;>simp[h];simp[u];rcases a2 u with h|h<;>simp[h];simp[u];simp[u]
   have hZ:∀b∈Zo FD (Bl++(Bn++(Br++([I,G,E,r7,V,U,R]++Y)))) F,b∈Zo FD ([I,G,E,r7,V,U,R]++(Bn++(By++(Bx++Y)))) F:=tG av;refine oC h 6 rfl (jD k v pb t) rfl<|oC h 5 rfl x rfl<|oC h 1 rfl xl rfl<|oC h 0 rfl xr rfl<|qxV (Y:=[I,G,E,r7,V,U,R]++Y) (e.tw.y3 av) (aU.node.j6 fun b u=>.inl (hZ b u)) (e.node.j6 fun b u=>.inl (hZ b u)) (b4.node.j6 fun b u=>.inl (hZ b u)) (fun b u=>(aV b (aI b u)).1) b6 (fun b u J=>(zD.1 J).elim (fun J=>aU.sep b J u) (aV b (aI b u)).2) (fun b u J=>(aV b (bf b J)).1 u) (fun b u J=>(zD.1 J).elim (fun J=>e.sep b J u) (d2 b u)) bd.1 bd.2 sn aE a7 fun yn B' F' b9 bg bh bi nB nF=>?_;have ca:∀b∈[I,G,E,r7,V,U,R],b<an.heap.size:=fun b u=>e.tw.qx b (zH _ u);have hS:∀b∈Bn++(Bl++F),b∈Bn++(Bx++F)\/w0.heap.size<=b:=fun b u=>by rcases zD.1 u with u|u;exact .inl (by simp[u]);rcases zD.1 u with u|u;rcases aI b u with h1|h1;exact .inr (aF b h1);exact .inl (by simp[h1]);exact .inl (by simp[u])
   have h:=pG h bi fun b u J=>by rcases zD.1 J with J|J;exact e.sep b u J;rcases zD.1 J with J|J;exact aU.sep b u J;exact e.tw.yf b (zH _ u) J
   refine oD h 3 rfl (eK yn) fun cc h _=>oC h 3 rfl yn rfl ?_;have bj:∀b∈[I,G,E,r7,V,U,R]++(B'++Y),b∈B'++([I,G,E,r7,V,U,R]++Y):=fun b u=>by rw[zD,zD] at u⊢;rcases u with u|u|u<;>simp[u]
   have o:nO FD F' b9 [I,G,E,r7,V,U,R] (B'++Y) yn _ B':=⟨bh.j6 fun b u=>.inl (tG bj b u),fun b u J=>(nB b J).elim (e.sep b u) fun h1=>by have:=ca b u;omega⟩;have cd:=bg.y3 bj;exact kk yn B' F' cc (TW.J0 (T:=[I,G,E,r7,V,U,R]) cd h).j7 ((o.J0 h).node.j6 fun b u=>.inl (yk b u)) ((e.fr.j8 bi hS).j8 h.fr e.sg.own) (fun b u=>(nB b u).imp id fun h1=>zL e.fr.size h1) fun b u=>(nF b u).elim (hS b) fun h1=>.inr (zL e.fr.size h1);have aH:iV ny k v:=(by rw[yE] at hc;exact zC hc);rw[qv9 am aH,aD] at kk;obtain⟨y1,y2⟩:=qvp a8 aH sy;have e:=e.sub (T1:=[I,G,E,r7,V,U,R]) fun b u=>u;have ox:nO FD F an [I,G,E,r7,V,U,R] (Bn++(By++(Bx++Y))) xx nx Bx:=ox;have oy:nO FD F an [I,G,E,r7,V,U,R] (Bn++(By++(Bx++Y))) xy ny By:=oy;have bk:∀b∈Bx++(By++([I,G,E,r7,V,U,R]++(Bn++Y))),b∈[I,G,E,r7,V,U,R]++(Bn++(By++(Bx++Y))):=fun b u=>by rw[zD,zD,zD,zD] at u⊢;rcases u with u|u|u|u|u<;>simp[u]
   have aW:∀b∈Zo FD (Bx++(By++([I,G,E,r7,V,U,R]++(Bn++Y)))) F,b∈Zo FD ([I,G,E,r7,V,U,R]++(Bn++(By++(Bx++Y)))) F:=tG bk;have bl:∀b∈Bx,b∉By:=fun b u J=>aT b J u;have aO:∀b∈Bx,b∉[I,G,E,r7,V,U,R]++(Bn++Y):=fun b u J=>by rcases zD.1 J with J|J;exact ox.sep b J u;rcases zD.1 J with J|J;exact d1 b J u;exact d3 b u J
   have aP:∀b∈By,b∉[I,G,E,r7,V,U,R]++(Bn++Y):=fun b u J=>by rcases zD.1 J with J|J;exact oy.sep b J u;rcases zD.1 J with J|J;exact e.cM b J (by simp[u]);exact bc b u J
   obtain⟨nk,nv,on⟩:=e.node.A7 (S0:=[]) fun _ _ h=>nomatch h;have aw:i<nk.length:=(by rw[on.tA];exact aE);have bm:eH nk[i].2:=(by rw[<- on.mV aw];exact tk on.nb.1 _);have bn:=(on.ek _ (zX aw)).q8 (.refl _ _) fun b u=>.inl (aW b u);have bo:n.J6.getD i []=nk[i].2:=on.mV aw;have bp:=e.tw.y3 bk;have bq:=ox.node.j6 fun b u=>.inl (aW b u);have aK:=oy.node.j6 fun b u=>.inl (aW b u);refine hU (fun _ w'=>∃yl yr r B',dQ [I,G,E,r7,V,U,R] w' w' [(I,.cells (eK yr) ND (0,0)),(G,.cells (eK yl) ND (0,0)),(E,.cells (eK xy) ND (0,0)),(r7,.cells (eK fD) ND (0,0)),(V,.cells (eK xx) ND (0,0)),(U,.cells (eK x) ND (0,0)),(R,.cells (nz (jD k v pb t)) WK (0,0))]/\
    Ed dbk pb FD D j (Bn++(Bx++F)) Bn w0 w' [I,G,E,r7,V,U,R] Y F M x { n with J6:=n.J6.set i r.2.2 } B'/\eB (Zo FD ([I,G,E,r7,V,U,R]++(B'++Y)) F) w' yl r.1/\eB (Zo FD ([I,G,E,r7,V,U,R]++(B'++Y)) F) w' yr r.2.1/\
    (if side<c then iX ny nx (n.J6.getD side []) else takeN nx ny (n.J6.getD c []))=r/\r.1.J6.length<=9000/\r.1.Q0.length<=9000/\r.1.J9.length<=9000/\r.2.1.J6.length<=9000/\r.2.1.Q0.length<=9000/\r.2.1.J9.length<=9000) ?_ ?_
   have bt:∀b∈Bx++F,b∈Bn++(Bx++F)\/w0.heap.size<=b:=fun b u=>.inl (zI _ u);have bu:∀b∈Bx++F,b∉Bn/\b∉[I,G,E,r7,V,U,R]:=fun b u=>by rcases zD.1 u with u|u;exact⟨fun J=>d1 b J u,fun J=>ox.sep b J u⟩;exact⟨fun J=>e.tw.yf b (by simp[J]) u,fun J=>e.tw.yf b (zH _ J) u⟩
   have bv:∀b∈Bx++F,b∈Zo FD ([I,G,E,r7,V,U,R]++(Bn++(By++(Bx++Y)))) F:=fun b u=>by rcases zD.1 u with u|u<;>simp[u]
   have fd:=(Fr.refl [] an).drew;apply cD<;>intro aY;have ab:side<c:=oJ;have aZ:side=i:=(by rw[<- aD,if_pos ab]);rcases hP with ⟨_,rfl,rfl,rfl,rfl,rfl,rfl⟩|⟨hn,_⟩;have h:=oF h;have e:=e.J0 h;have h:=lL h (.refl _);refine oA h 5 rfl x.2.1 rfl<|oC h 1 rfl xl rfl<|oC h 0 rfl xr rfl<|oA h 5 rfl x.2.1 rfl<|ed.get (on.rk.q7 fd) i rfl (x:=nk[i].1) (by rw[zQ,zA aw];rfl) (y:=nk[i].1) rfl ?_;have gm:=qwd (key:=nk[i].2) aK.2.1.1 sy sx;refine qxO (Y:=[I,G,E,r7,V,U,R]++(Bn++Y)) (bp.q7 fd) (aK.q7 fd) (bq.q7 fd) bl aO aP (bn.q7 fd) bm aN y1 sy sx fun yl yr ce cf ax hL hR al a0=>?_;obtain⟨e,h⟩:=e.fP h ax a0 bt bu bv fun b u=>by simp[u]
   refine ig (h.cell 5 rfl rfl)<|oD h 1 rfl (eK yl) fun cg h _=>ig (h.cell 5 rfl rfl)<|oD h 0 rfl (eK yr) fun ch h _=>ig (h.cell 5 rfl rfl) ?_;have e:=e.J0 h;have hL:=eB.J0 (T:=[I,G,E,r7,V,U,R]) hL h;have hR:=eB.J0 (T:=[I,G,E,r7,V,U,R]) hR h;have al:=pU (T:=[I,G,E,r7,V,U,R]) al h;have h:=lL h (.refl _);exact e.AG h (i:=i) aE rfl al gm.1 fun B1 ci e h kp=>⟨yl,yr,_,B1,h,e,kp.node _ _ hL,kp.node _ _ hR,by rw[if_pos ab,aZ,bo],gm.2.1,gm.2.2.1,gm.2.2.2.1,gm.2.2.2.2.1,gm.2.2.2.2.2.1,gm.2.2.2.2.2.2⟩;exact absurd ab hn;have ab:¬side<c:=oJ;have aZ:c=i:=(by rw[<- aD,if_neg ab]);rcases hP with ⟨hn,_⟩|⟨_,rfl,rfl,rfl,rfl,rfl,rfl⟩;exact absurd hn ab;have h:=oF h;have e:=e.J0 h;have h:=lL h (.refl _);refine oA h 5 rfl x.2.1 rfl<|oC h 1 rfl xl rfl<|oC h 0 rfl xr rfl<|oA h 5 rfl x.2.1 rfl<|ed.get (on.rk.q7 fd) i rfl (x:=nk[i].1) (by rw[zQ,zA aw];rfl) (y:=nk[i].1) rfl ?_;have gm:=qw8 (key:=nk[i].2) aK.2.1.1 sx sy;refine qyn (Y:=[I,G,E,r7,V,U,R]++(Bn++Y)) (bp.q7 fd) (bq.q7 fd) (aK.q7 fd) bl aO aP (bn.q7 fd) bm aN.symm y1 y2 sx sy fun yl yr ce cf ax hL hR al a0=>?_;obtain⟨e,h⟩:=e.fP h ax a0 bt bu bv fun b u=>by simp[u]
   refine ig (h.cell 5 rfl rfl)<|oD h 1 rfl (eK yl) fun cg h _=>ig (h.cell 5 rfl rfl)<|oD h 0 rfl (eK yr) fun ch h _=>ig (h.cell 5 rfl rfl) ?_;have e:=e.J0 h;have hL:=eB.J0 (T:=[I,G,E,r7,V,U,R]) hL h;have hR:=eB.J0 (T:=[I,G,E,r7,V,U,R]) hR h;have al:=pU (T:=[I,G,E,r7,V,U,R]) al h;have h:=lL h (.refl _);exact e.AG h (i:=i) aE rfl al gm.1 fun B1 ci e h kp=>⟨yl,yr,_,B1,h,e,kp.node _ _ hL,kp.node _ _ hR,by rw[if_neg ab,aZ,bo],gm.2.1,gm.2.2.1,gm.2.2.2.1,gm.2.2.2.2.1,gm.2.2.2.2.2.1,gm.2.2.2.2.2.2⟩;rintro _ cE ⟨yl,yr,r,B',h,e,hL,hR,hr,q1,q2,q3,q4,q5,q6⟩;have aL:i<n.J9.length:=oJ;rw[hr] at kk;unfold np at kk;rw[uy aL,uy ap] at kk;have h:=oF h;have e:=e.J0 h;have hL:=eB.J0 (T:=[I,G,E,r7,V,U,R]) hL h;have hR:=eB.J0 (T:=[I,G,E,r7,V,U,R]) hR h;have h:=lL h (.refl _);refine oA h 5 rfl x.2.2.2 rfl<|oC h 6 rfl (jD k v pb t) rfl<|oA h 5 rfl x.2.2.2 rfl<|ed.get e.y7 i rfl (x:=n.J9[i]) (zA aL) (y:=n.J9[i]) rfl<|oC h 1 rfl yl rfl<|vd e.tw hL oJ oJ oJ fun F1 cH bx bz bA=>?_;obtain⟨e,h⟩:=e.next h bx bz bA
   have hR:=hR.next bz bA
   have a4:gI (dO k v M n.J9[i] r.1).1.1:=uH hT.wf (hn.2.1.2.2 _ (zX aL));generalize dO k v M n.J9[i] r.1=cj at kk e a4⊢;obtain⟨⟨a1,bB⟩,M1⟩:=cj;dsimp only at kk e a4⊢;refine ig (h.cell 5 rfl rfl)<|e.t6 h (i:=i) aL rfl a4 fun B1 cI e h kp=>?_;have hR:=kp.node _ _ hR;apply dV<;>intro az;have au:bB≠0:=(by rw[zT] at az;exact zR.1 az);rw[if_pos au] at kk;refine oD h 3 rfl (eK fD) fun bC h _=>oC h 3 rfl fD rfl ?_;have e:=e.J0 h;exact kk fD [] F1 bC e.qA.j7 (.zero _ _) e.fr (fun _ h=>(nomatch h)) e.sg.new;have au:¬bB≠0:=(by rw[yE] at az;exact fun h=>h (yP.1 az));rw[if_neg au] at kk;have bD:(n.J9.set i a1)[i+1]?=some n.J9[i+1]:=(by rw[List.getElem?_set_ne oJ,zA ap]);have h:=oF h;have e:=e.J0 h;have hR:=eB.J0 hR h;have h:=lL h (.refl _);refine oA h 5 rfl x.2.2.2 rfl<|oC h 6 rfl (jD k v pb t) rfl<|oA h 5 rfl x.2.2.2 rfl<|ed.get e.y7 (i+1) rfl (x:=n.J9[i+1]) bD (y:=n.J9[i+1]) rfl<|oC h 0 rfl yr rfl<|vd e.tw hR oJ oJ oJ fun F2 cs a5 bE bF=>?_;have a6:gI (dO k v M1 n.J9[i+1] r.2.1).1.1:=uH e.tw.wf (hn.2.1.2.2 _ (zX ap));obtain⟨e,h⟩:=e.next h a5 bE bF
   generalize dO k v M1 n.J9[i+1] r.2.1=ck at kk e a6⊢;obtain⟨⟨a2,cJ⟩,M2⟩:=ck;dsimp only at kk e a6⊢;refine ig (h.cell 5 rfl rfl)<|e.t6 h (i:=i+1) (by dsimp only;rw[xG];exact ap) rfl a6 fun B2 ct e h _=>oC h 5 rfl x rfl<|oD h 3 rfl (eK x) fun bG h _=>oC h 3 rfl x rfl ?_;have e:=e.J0 h;exact kk x B2 F2 bG e.tw.j7 (e.node.j6 fun b u=>.inl (yk b u)) e.fr e.cG e.sg.new
end
section
section
variable {D:dI} {M M1:dZ} {k v f side c i:Nat} {key:Key} {p e0 e1:Int} {n nx N:dL}
def Cy{α:Type}{l:List α}{i:Nat}(h:i<l.length):(gR l i).length+1=l.length:=by unfold gR;rw[zF,yL,yC];omega
def qlD{l r:dL}(sn:gK n)(u:n.Q4=false)(hi:i<n.J6.length)(h:(lI k v M n i l r).1.2=0):gK (lI k v M n i l r).1.1:=by have R:=sn.inner u;obtain⟨_,_,U,I,V⟩:=sn;unfold lI at h⊢;split;rename_i E;rw[if_pos E] at h;exact absurd h E;rename_i E;rw[if_neg E] at h;split;rename_i G;rw[if_pos G] at h;exact absurd h G;have J:=Cy (l:=n.J9.set i (dO k v M (n.J9.getD i 0) (kK l r (n.J6.getD i []))).1.1) (i:=i+1) (by rw[xG];omega);have h2:=Cy hi;rw[xG] at J;exact⟨(fun h=>by rw[u] at h;cases h),fun _=>by dsimp only;omega,by dsimp only;omega,I,by dsimp only;omega⟩
def qlq{r:dL×dL×Key}(sn:gK n)(u:n.Q4=false)(h:(np k v M n i r).1.2=0):gK (np k v M n i r).1.1:=by have G:=sn.inner u;obtain⟨_,_,I,J,R⟩:=sn;unfold np at h⊢;split;rename_i E;rw[if_pos E] at h;exact absurd h E;exact⟨(fun h=>by rw[u] at h;cases h),fun _=>by dsimp only;rw[xG,xG,xG];exact G,by dsimp only;rw[xG];exact I,J,by dsimp only;rw[xG,xG];exact R⟩
def qsJ(sn:gK n)(u:n.Q4=false)(J:side+1=c\/c+1=side)(U:side<n.J9.length)(R:c<n.J9.length)(h:(jG D k v M n side c nx).1.2=0):gK (jG D k v M n side c nx).1.1:=by have V:=sn.inner u;unfold jG at h⊢;split;rename_i I;rw[if_pos I] at h;exact absurd h I;rename_i I;rw[if_neg I] at h;split;rename_i E;rw[if_pos E] at h;split;rename_i G;rw[if_pos G] at h;exact qlD sn u oJ h;rename_i G;rw[if_neg G] at h;exact qlq sn u h;rename_i E;rw[if_neg E] at h;split;rename_i G;rw[if_pos G] at h;exact qlD sn u oJ h;rename_i G;rw[if_neg G] at h;exact qlq sn u h
def iT (c:Nat):Nat:=if c>0 then c-1 else c+1
def qxE(h:dJ D M k v p=(n,e0))(u:e0≠0):ic D k v key (f+1) M p=((iv,e0),M):=by unfold ic;rw[h,if_pos u]
def qxF(h:dJ D M k v p=(n,0))(u:n.Q4=true)(E:n.J6[dN n.J6 key]?=some key):ic D k v key (f+1) M p=(({ n with J6:=gR n.J6 (dN n.J6 key),Q0:=gR n.Q0 (dN n.J6 key) },0),M):=by unfold ic;rw[h,if_neg (fun h=>h rfl),if_pos u,if_pos E]
def qvX(h:dJ D M k v p=(n,0))(u:n.Q4=true)(E:¬n.J6[dN n.J6 key]?=some key):ic D k v key (f+1) M p=((iv,5),M):=by unfold ic;rw[h,if_neg (fun h=>h rfl),if_pos u,if_neg E]
def qvW(h:dJ D M k v p=(n,0))(u:¬n.Q4=true)(E:ic D k v key f M (n.J9.getD (eh n.J6 key) 0)=((N,e1),M1))(G:e1≠0):ic D k v key (f+1) M p=((iv,e1),M1):=by unfold ic;rw[h,if_neg (fun h=>h rfl),if_neg u];dsimp only;rw[E,if_pos G]
def qvV(h:dJ D M k v p=(n,0))(u:¬n.Q4=true)(E:ic D k v key f M (n.J9.getD (eh n.J6 key) 0)=((N,0),M1))(G:¬oQ N k v):ic D k v key (f+1) M p = (({ n with J9:=n.J9.set (eh n.J6 key) (dO k v M1 (n.J9.getD (eh n.J6 key) 0) N).1.1 },(dO k v M1 (n.J9.getD (eh n.J6 key) 0) N).1.2),(dO k v M1 (n.J9.getD (eh n.J6 key) 0) N).2):=by unfold ic;rw[h,if_neg (fun h=>h rfl),if_neg u];dsimp only;rw[E,if_neg (fun h=>h rfl),if_pos G]
def qvU(h:dJ D M k v p=(n,0))(u:¬n.Q4=true)(E:ic D k v key f M (n.J9.getD (eh n.J6 key) 0)=((N,0),M1))(G:oQ N k v):ic D k v key (f+1) M p=jG D k v M1 n (iT (eh n.J6 key)) (eh n.J6 key) N:=by unfold ic iT;rw[h,if_neg (fun h=>h rfl),if_neg u];dsimp only;rw[E,if_neg (fun h=>h rfl),if_neg (fun h=>h G)];split<;>rfl
def my (D:dI) (k v:Nat) (key:Key):Nat->dZ->Int->Prop
 | 0,_,_=>False
 | f+1,M,p=>∀n,dJ D M k v p=(n,0)->n.Q4=false->my D k v key f M (n.J9.getD (eh n.J6 key) 0)/\
  ∀N M1,ic D k v key f M (n.J9.getD (eh n.J6 key) 0)=((N,0),M1)->oQ N k v->∀ny,dJ D M1 k v (n.J9.getD (iT (eh n.J6 key)) 0)=(ny,0)->ny.Q4=N.Q4
end
section
variable {dbk pb j:Nat} {FD S S0 N0 Y Y1 F F' T B By:List Nat} {D:dI} {w0 wa w w' w7:World} {M M':dZ} {L:List (Nat×Obj)} {x xy:kj} {n ny:dL} {k v:Nat} {t:Int}
def Ed.vP(e:Ed dbk pb FD D j S0 N0 w0 w (fh L) Y F M x n B)(h:dQ T wa w L)(R:TW dbk pb FD D j w7 (By++(fh L++(B++Y))) F' M')(V:fi (Zo FD (By++(fh L++(B++Y))) F') w7 xy ny By)(f:Fr F w w7)(U:∀b∈F',b∈F\/w.heap.size<=b)(J:∀c∈By,w.heap.size<=c): Ed dbk pb FD D j S0 N0 w0 w7 (fh L) (By++Y) F' M' x n B/\dQ (fh L) w7 w7 L/\nO FD F' w7 (fh L) (B++(By++Y)) xy ny By:=by
 have E:∀b∈fh L++(B++(By++Y)),b∈By++(fh L++(B++Y)):=fun b u=>by simp only[zD] at u⊢;rcases u with u|u|u|u<;>simp[u]
 obtain⟨e1,G⟩:=e.next h (R.y3 fun b u=>zI _ u) f U
 refine⟨⟨e1.sg,R.y3 E,e.node.q8 f (fun b u I=>e.tw.yf b (by simp[u]) I) (fun b u=>.inl (vh u)) fun b u=>?_,e1.sep,e1.cG,e1.cT,fun b u I=>?_⟩,G,V.j6 fun b u=>.inl (tG E b u),fun b u I=>?_⟩;simp only[Zo,zD,zG] at u⊢;rcases u with (u|u|u|u|u|u)|u;simp[u];simp[u];simp[u];simp[u];exact .inr (J b u);simp[u];exact (U b u).imp (fun h=>.inr h) id;rcases zD.1 I with G|G
 have:=e.node.lt b u;have:=J b G;omega
 exact e.cM b u G
 have:=ws h b u;have:=J b I;omega
def Ed.less(e:Ed dbk pb FD D j S0 N0 w0 w T Y F M x n B)(E:∀b∈Y1,b∈Y):Ed dbk pb FD D j S0 N0 w0 w T Y1 F M x n B:=by
 have G:∀b∈T++(B++Y1),b∈T++(B++Y):=fun b u=>by simp only[zD] at u⊢;rcases u with u|u|u;simp[u];simp[u];simp[E b u]
 exact⟨e.sg,e.tw.y3 G,e.node.j6 fun b u=>.inl (tG G b u),e.sep,e.cG,e.cT,fun b u h=>e.cM b u (E b h)⟩
def qyX{L':List (Nat×Obj)}(G:TW dbk pb FD D j w (B++(T++Y)) F M)(I:fi (Zo FD (B++(T++Y)) F) w x n B)(J:∀b∈T,b∉B)(h:dQ T w w' L'): TW dbk pb FD D j w' (B++Y) F M/\fi (Zo FD (B++Y) F) w' x n B:=by
 have E:∀b∈T++(B++Y),b∈B++(T++Y):=fun b u=>by rw[zD,zD] at u⊢;rcases u with u|u|u<;>simp[u]
 have o:nO FD F w T (B++Y) x n B:=⟨I.j6 fun b u=>.inl (tG E b u),J⟩;exact⟨(TW.J0 (G.y3 E) h).j7,(o.J0 h).node.j6 fun b u=>.inl (yk b u)⟩
set_option maxHeartbeats 2000000 in
def DW{ks:Sl}{key:Key}(aB:eH key)(ap:gZ k v):∀(f:Nat) {Y F:List Nat} {w0:World} {M:dZ} {p:Int} {K:kj×Int->WP} (hT:TW dbk pb FD D j w0 Y F M) (hp:gI p) (hk:eE (Zo FD Y F) w0 ks key) (U:my D k v key f M p) (kk:∀yn B' F' w',((ic D k v key f M p).1.2=0->gK (ic D k v key f M p).1.1)->TW dbk pb FD D j w' (B'++Y) F' (ic D k v key f M p).2->fi (Zo FD (B'++Y) F') w' yn (ic D k v key f M p).1.1 B'->Fr F w0 w'->(∀b∈B',w0.heap.size<=b)->(∀b∈F',b∈F\/w0.heap.size<=b)->K (yn,(ic D k v key f M p).1.2) w'), cW 136 [.agg (nz (jD k v pb t)),.u p,ks.v] [.agg dY,.one .i] w0 K
 | 0,_,_,_,_,_,_,_,_,_,U,_=>U.elim
 | f+1,Y,F,w0,M,p,K,hT,hp,hk,U,kk=>by
  refine qmN ?_;have h:=oE [] w0;have g:=Sg.start F w0;refine oB h fun r1 w2 _ _ h=>oB h fun r3 w4 _ _ h=>oC h 1 rfl (jD k v pb t) rfl ?_;rcases V:dJ D M k v p with ⟨n,e0⟩;refine Bu (k:=k) (v:=v) (hT.cD h) hp fun x B w7 bk aK f7 bl=>?_;rw[V] at aK⊢;dsimp only at aK;obtain⟨e,h⟩:=Ed.load (N0:=[]) (fun _ h=>nomatch h) g h bk aK f7 bl fun b E=>yD (hT.qx b E) h.fr.size;refine oB h fun r8 w9 _ _ h=>oD h 0 rfl (eK x) fun bW h _=>?_;have ar:∀ {e:Int} {M':dZ} {F':List Nat} {w'},ic D k v key (f+1) M p=((iv,e),M')->e≠0->TW dbk pb FD D j w' Y F' M'->Fr F w0 w'->(∀b∈F',b∈F\/w0.heap.size<=b)->K (fD,e) w':=fun he bm bn fr hF=>by
   have:=kk fD [] _ _ (fun h=>by rw[he] at h;exact absurd h bm) (by rw[he];exact bn) (by rw[he];exact .zero _ _) fr (fun _ h=>nomatch h) hF
   rw[he] at this;exact this
  apply dV<;>intro hc;have aF:e0≠0:=by rw[zT] at hc;exact zR.1 hc
  refine oD h 1 rfl (eK fD) fun bZ h _=>oC h 1 rfl fD rfl ?_;have e:=e.J0 h;exact ar (qxE V aF) aF e.qA.j7 e.fr e.sg.new;have bo:e0=0:=by rw[yE] at hc;exact yP.1 hc
  subst bo;have hr:=BY V;have sn:=qlV hr;obtain⟨l1,l2,l3,l4,l5⟩:=uV hr;have e:=e.J0 h;have h:=lL h (.refl _);have aW:x.1=n.Q4:=e.node.1;refine oA h 0 rfl x.1 rfl ?_;apply dV<;>intro hc;rw[aW] at hc;obtain⟨l6,l7⟩:=l4 hc;refine oC h 0 rfl x rfl<|Cj e.cB (e.cV hk) aB hr.2.2.1 oJ fun b4 bp=>?_;obtain⟨e,h⟩:=e.cC h bp;have b5:=FP n.J6 key;apply dV<;>intro ab;rw[zT] at ab;have aX:=zB ab;refine oD h 1 rfl (eK fD) fun b6 h _=>oC h 1 rfl fD rfl ?_;have e:=e.J0 h;exact ar (qvX V hc aX) oM e.qA.j7 e.fr e.sg.new;rw[yE] at ab;have aY:=zC ab;have aZ:=(zP.1 aY).1;have ad:=qxF (f:=f) V hc aY;have ew:wrap .i64 ((dN n.J6 key:Int)+1)=((dN n.J6 key+1:Nat):Int):=rz oJ;rw[ad] at kk;have h:=oF h;refine oA h 0 rfl x.2.1 rfl<|oA h 0 rfl x.2.2.1 rfl ?_;have e:=e.J0 h;dsimp only;refine e.A3 h (i:=dN n.J6 key) aZ rfl ew oJ fun al B1 b7 e h _=>ig (h.cell 0 rfl rfl)<|e.Ey h (i:=dN n.J6 key) oN rfl ew oN fun au B2 b8 e h _=>oD h 0 rfl (eK (x.1,al,x.2.2.1,x.2.2.2)) fun b9 h _=>oD h 0 rfl (eK (x.1,al,au,x.2.2.2)) fun ca h _=>oC h 0 rfl (x.1,al,au,x.2.2.2) rfl<|oD h 1 rfl (eK (x.1,al,au,x.2.2.2)) fun bt h _=>oC h 1 rfl (x.1,al,au,x.2.2.2) rfl ?_;have e:=e.J0 h;have k1:=Cy aZ;have k2:=Cy (l:=n.Q0) (i:=dN n.J6 key) oJ;exact kk (x.1,al,au,x.2.2.2) B2 F bt (fun _=>⟨fun _=>by dsimp only;omega,(fun h=>by dsimp only at h;rw[hc] at h;cases h),by dsimp only;omega,by dsimp only;omega,by dsimp only;omega⟩) e.tw.j7 (e.node.j6 fun b E=>.inl (yk b E)) e.fr (fun b E=>(e.cG b E).elim (fun h=>nomatch h) id) e.sg.new
  ·rw[aW] at hc;have aL:¬n.Q4=true:=(by rw[hc];decide);obtain⟨l6,l7,l8⟩:=l5 hc;obtain⟨I,ac⟩:=U n V hc;refine oC h 0 rfl x rfl<|Bm e.cB (e.cV hk) aB hr.2.2.1 oJ fun cc bu=>?_;obtain⟨e,h⟩:=e.cC h bu;have bv:=Ak n.J6 key;have av:=fun N e1 M1 he=>qvW (key:=key) (f:=f) (N:=N) (e1:=e1) (M1:=M1) V aL he;have ab:=fun N M1 he=>qvV (key:=key) (f:=f) (N:=N) (M1:=M1) V aL he;have aM:=fun N M1 he=>qvU (key:=key) (f:=f) (N:=N) (M1:=M1) V aL he;generalize cd:eh n.J6 key=c at bv I ac av ab aM⊢;have ae:c<n.J9.length:=oJ;have bx:n.J9.getD c 0=n.J9[c]:=uy ae;rw[bx] at I ac av ab aM;have hu:gI n.J9[c]:=e.node.2.1.2.2 _ (zX ae);rcases am:ic D k v key f M n.J9[c] with ⟨⟨N1,e1⟩,M1⟩;have av:=av N1 e1 M1 am;refine⟨?a,?b⟩;case' a=>
    have h:=oF h;have e:=e.J0 h;refine oC h 2 rfl (jD k v pb t) rfl<|oA h 0 rfl x.2.2.2 rfl<|ed.cR e.y7 c rfl ae fun bA hh=>?_;have hz:=e.fr.size;refine DW aB ap f e.tw hu (e.cV hk) I fun xx Bx F1 bC ao af J aN ag aO=>?_;rw[am] at ao af J⊢;dsimp only at ao J⊢;obtain⟨e,h,ox⟩:=e.vP h af J aN aO ag;refine oB h fun R bD _ _ h=>l9 (hh _ _ (e.J0 h).y7) (h.cell 1 rfl rfl) (h.cells 3 rfl rfl)<|oD h 0 rfl (eK xx) fun bE h _=>?_;have aE:∀b∈Bx,w0.heap.size<=b:=fun b E=>zL hz (ag b E);have ox:=ox.J0 h;have e:=e.J0 h;have h:=lL h (.refl _)
   case' b=>
    have h:=oF h;have e:=e.J0 h;have h:=lL h (.refl _);refine oC h 2 rfl (jD k v pb t) rfl<|oA h 0 rfl x.2.2.2 rfl<|ed.cR e.y7 c rfl ae fun bA hh=>oB h fun R bD _ _ h=>?_;have e:=e.J0 h;refine l9 (hh _ _ e.y7) (h.cell 1 rfl rfl) (h.cells 3 rfl rfl) ?_;have hz:=e.fr.size;refine DW aB ap f e.tw hu (e.cV hk) I fun xx Bx F1 bC ao af J aN ag aO=>?_;rw[am] at ao af J⊢;dsimp only at ao J⊢;obtain⟨e,h,ox⟩:=e.vP h af J aN aO ag;refine oD h 0 rfl (eK xx) fun bE h _=>?_;have aE:∀b∈Bx,w0.heap.size<=b:=fun b E=>zL hz (ag b E);have ox:=ox.J0 h;have e:=e.J0 h;have h:=lL h (.refl _)
   all_goals
    apply dV<;>intro hq;have aG:e1≠0:=by rw[zT] at hq;exact zR.1 hq
    refine oD h 2 rfl (eK fD) fun ce h _=>oC h 2 rfl fD rfl ?_;have e:=e.J0 h;exact ar (av aG) aG (e.qA.y3 fun b E=>by simp[E]) e.fr e.sg.new;have bF:e1=0:=by rw[yE] at hq;exact yP.1 hq
    subst bF;have sx:=ao rfl;refine oC h 3 rfl (BV k v) rfl<|oC h 0 rfl xx rfl ?_;have lx:oc xx N1:=(ox.node.rd (S:=[]) (fun _ _ h=>(nomatch h)) fun _ h=>nomatch h).lens;refine qz2 lx fun ai a4=>?_;obtain⟨e,h⟩:=e.cC h a4;have ox:=ox.q7 a4;apply dV<;>intro aw;have ak:¬oQ N1 k v:=by rw[zT] at aw;exact zB aw
    have ad:=ab N1 M1 am ak;rw[ad] at kk;have h:=oF h;have e:=e.J0 h;have ox:=ox.J0 h;have h:=lL h (.refl _);refine oA h 1 rfl x.2.2.2 rfl<|oC h 3 rfl (jD k v pb t) rfl<|oA h 1 rfl x.2.2.2 rfl<|ed.get e.y7 c rfl (x:=n.J9[c]) (zA ae) (y:=n.J9[c]) rfl<|oC h 0 rfl xx rfl ?_;have z1:=sx.J6;have z2:=sx.Q0;have z3:=sx.J9;have bG:eB (Zo FD (fh _++(B++Y)) F1) ai.drew xx N1:=ox.node.rd (fun b E G=>by
     have hs:=e.tw.sep b (by simp[E]);rcases zD.1 G with G|G;rcases zD.1 G with G|G;exact hs.1 G;rcases zG.1 G with G|G;exact hs.2 G;rcases zD.1 G with G|G;exact ox.sep b G E;rcases zD.1 G with G|G;exact e.cM b G (by simp[E])
     have:=aE b E;have:=hT.qx b G;omega
     exact e.tw.yf b (by simp[E]) G) fun b E=>.inl (tG (fun b E=>by
     rw[zD,zD] at E⊢;rcases E with E|E|E;exact .inl E;exact .inr (by simp[E]);exact .inr (by simp[E])) b E)
    have e:=e.less (Y1:=Y) fun b E=>zI _ E;refine vd e.tw bG oJ oJ oJ fun F2 cg a6 bH bI=>?_;have aP:gI (dO k v M1 n.J9[c] N1).1.1:=uH e.tw.wf hu;obtain⟨e,h⟩:=e.next h a6 bH bI
    generalize dO k v M1 n.J9[c] N1=st at kk e aP⊢;obtain⟨⟨a1,s1⟩,M2⟩:=st;dsimp only at kk e aP⊢;refine ig (h.cell 1 rfl rfl)<|e.t6 h (i:=c) ae rfl aP fun B2 ch e h _=>oC h 1 rfl x rfl<|oD h 2 rfl (eK x) fun bJ h _=>oC h 2 rfl x rfl ?_;have e:=e.J0 h;exact kk x B2 F2 bJ (fun _=>⟨(fun h=>by dsimp only at h;rw[hc] at h;cases h),fun _=>by dsimp only;rw[xG];omega,by dsimp only;omega,by dsimp only;omega,by dsimp only;rw[xG];omega⟩) e.tw.j7 (e.node.j6 fun b E=>.inl (yk b E)) e.fr (fun b E=>(e.cG b E).elim (fun h=>nomatch h) id) e.sg.new;have ak:oQ N1 k v:=by rw[yE] at aw;exact zC aw
    have ad:=aM N1 M1 am ak;have bK:=ac N1 M1 am ak;rw[ad] at kk;have e:=e.sub (T1:=[R,r8,r3,r1]) fun b E=>E;have ox:nO FD F1 ai [R,r8,r3,r1] (B++(Bx++Y)) xx N1 Bx:=ox;have aj:∀b∈B++(Bx++([R,r8,r3,r1]++Y)),b∈[R,r8,r3,r1]++(B++(Bx++Y)):=fun b E=>by rw[zD,zD,zD] at E⊢;rcases E with E|E|E|E<;>simp[E]
    have bL:∀b∈Bx,b∉Y:=fun b E G=>by have:=aE b E;have:=hT.qx b G;omega
    have a7:iT c+1=c\/c+1=iT c:=(by unfold iT;split<;>omega);have hs:iT c<n.J9.length:=(by unfold iT;split<;>omega);have aH:=fun {K':kj×Int->WP} (bM)=>qxL (t:=t) (pb:=pb) (j:=j) (dbk:=dbk) (Y:=[R,r8,r3,r1]++Y) (K:=K') (e.tw.y3 aj) (e.node.j6 fun b E=>.inl (tG aj b E)) (ox.node.j6 fun b E=>.inl (tG aj b E)) (fun b E G=>e.cM b E (zH _ G)) (fun b E G=>(zD.1 G).elim (fun G=>e.sep b G E) fun G=>e.cM b E (zI _ G)) (fun b E G=>(zD.1 G).elim (fun G=>ox.sep b G E) (bL b E)) sn sx hc a7 hs ae bK ap bM;have a8:=fun h0=>qsJ (D:=D) (M:=M1) (k:=k) (v:=v) (nx:=N1) sn hc a7 hs ae h0;have hS:∀b∈B++(Bx++F1),b∈F\/w0.heap.size<=b:=fun b E=>by rcases zD.1 E with E|E;exact (e.cG b E).elim (fun h=>nomatch h) .inr;rcases zD.1 E with E|E;exact .inr (aE b E);exact e.sg.new b E
    have bN:∀b∈[R,r8,r3,r1],b<ai.heap.size:=fun b E=>e.tw.qx b (zH _ E);have a9:∀b∈[R,r8,r3,r1],b∉B++(Bx++F1):=fun b E G=>by rcases zD.1 G with G|G;exact e.sep b E G;rcases zD.1 G with G|G;exact ox.sep b E G;exact e.tw.yf b (zH _ E) G
    generalize jG D k v M1 n (iT c) c N1=ev at kk a8 aH;have ax:∀ {z:Int},z=(iT c:Int)->(dK iE (dh r1) ai fun a'=>dK dY (dh r8) ai fun ba=>dK dY (dh R) ai fun bb=>
      cW 170 [fQ iE a',fQ dY ba,Value.int IntKind.i64 z,Value.int IntKind.i64 c,fQ dY bb] [gX.agg dY,gX.one (Cell.int IntKind.i64)] ai fun aI bc=>
      st (dh r3) (HL.mk dY aI.1) bc fun aJ=>dK dY (dh r3) aJ fun bd=>K (bd,aI.2) aJ):=fun hz=>by
     subst hz;refine oC h 3 rfl (jD k v pb t) rfl<|oC h 1 rfl x rfl<|oC h 0 rfl xx rfl<|aH fun yn B' F' ck bf bg bh nB nF=>?_;have h:=pG h bh a9;refine oD h 2 rfl (eK yn) fun bO h _=>oC h 2 rfl yn rfl ?_;obtain⟨bP,bQ⟩:=qyX (T:=[R,r8,r3,r1]) bf bg (fun b E G=>(nB b G).elim (e.sep b E) fun h1=>by have:=bN b E;omega) h;exact kk yn B' F' bO a8 bP bQ ((e.fr.j8 bh hS).j8 h.fr e.sg.own) (fun b E=>(nB b E).elim (fun h1=>(e.cG b h1).elim (fun h=>nomatch h) id) fun h1=>zL e.fr.size h1) fun b E=>(nF b E).elim (hS b) fun h1=>.inr (zL e.fr.size h1)
    apply cD<;>intro aQ;have ay:0<c:=oJ;refine ax ?_;unfold iT;rw[if_pos ay,gq _ oJ];omega;have ay:¬0<c:=oJ;refine ax ?_;unfold iT;rw[if_neg ay,gq _ oJ];omega
end
end
section
abbrev RtC:=Int×Int×Int
def sC (x:RtC):Array Value:=#[.u x.1,.u x.2.1,.u x.2.2]
abbrev RT:TypeId:=125
section
variable {S:List Nat} {w:World}
def Ei{vb:Nat}{T':TypeId}{h:Nat×Nat}{ks:Sl}(E:w.heap[vb]?=some (.cells #[fU ks] T' h))(G:vb∉S)(I:eE S w ks key):js S w ⟨pW vb,1,1⟩ [(ks,key)]:=
 ⟨⟨rfl,zM _,.inr ⟨vb,0,_,T',h,rfl,E,G,fun i x u=>by
  cases i with
  | zero=>cases u;rfl
  | succ i=>simp at u⟩⟩,fun p J=>by rw[zE.1 J];exact I⟩
def qzF{vb:Nat}{T':TypeId}{E:Nat×Nat}{a b:Int}(G:w.heap[vb]?=some (.cells #[.u a,.u b] T' E))(I:vb∉S):ed iz 1 S w ⟨pW vb,2,2⟩ [a,b]:=
 ⟨rfl,zM _,.inr ⟨vb,0,_,T',E,rfl,G,I,fun i x h=>by
  match i,h with
  | 0,h=>cases h;rfl
  | 1,h=>cases h;rfl
  | i+2,h=>simp at h⟩⟩
end
section
variable {dbk pb j:Nat} {FD Y F F' T:List Nat} {D:dI} {w0 w w':World} {M M':dZ} {L L':List (Nat×Obj)} {k v:Nat} {t:Int}
def C5{b:Nat}(h:TW dbk pb FD D j w Y F M)(E:w.heap.size<=b):b∉Zo FD Y F:=fun u=>by have:=h.ve b u;omega
set_option maxHeartbeats 1000000 in
def quQ{f:Nat}{ks vs:Sl}{val:Key}{K:Int->WP}(ax:eH key)(ay:eH val)(hT:TW dbk pb FD D j w0 Y F M)(hk:eE (Zo FD Y F) w0 ks key)(hv:eE (Zo FD Y F) w0 vs val)(E:(dX M t).1≠0->(gY D k v key val f M (dX M t).1).1.2≠-1)(u:∀F' w',TW dbk pb FD D j w' Y F' (jC D k v t key val f M).2->Fr F w0 w'->(∀b∈F',b∈F\/w0.heap.size<=b)->K (jC D k v t key val f M).1 w'): cW 96 [.agg (nz (jD k v pb t)),ks.v,vs.v] dj w0 K:=by
 refine qjw ?_;have g:=Sg.start F w0;have h:=oE [] w0;obtain⟨u1,u2,u3⟩:=Dr hT.wf t;refine oB h fun r1 w2 _ _ h=>oA h 0 rfl (pW pb) rfl<|oA h 0 rfl t rfl<|TW.J5 (hT.q7 h.fr) fun w6 f6=>?_;have h:=h.q7 f6;unfold jC at u;generalize dX M t=R at u E u1 u2 u3⊢;refine oB h fun r7 w8 _ _ h=>oD h 0 rfl (sC R) fun w9 h _=>oA h 0 rfl R.1 rfl ?_;apply dV<;>intro hc;have hc:R.1=0:=yP.1 hc;rw[if_pos hc] at u;refine oC h 1 rfl (jD k v pb t) rfl ?_;have aj:=hT.cD h;have aQ:=uv hk h;have aR:=uv hv h;have g:=g.cC h (.refl [] _);have h:=lL h (.refl _);refine oB h fun az bn bo aA h=>oB h fun aB aT bp aU h=>?_;have bk:=aA.size;have ad:=aA.trans aU;have ah:=aj.q7 ad;have aV:=C5 aj (b:=az) oJ;have aW:=C5 aj (b:=aB) oJ;have ak:=Ei (h.at (i:=1) rfl) aV (aQ.q7 ad);have aX:=Ei (h.at (i:=0) rfl) aW (aR.q7 ad);have hx:eB _ aT (true,⟨pW az,1,1⟩,⟨pW aB,1,1⟩,dG) (ef [(key,val)]):=⟨rfl,⟨fun a ha=>by rw[zE.1 ha];exact ax,fun a ha=>by rw[zE.1 ha];exact ay,fun _ h=>nomatch h⟩,⟨_,ak,rfl⟩,⟨_,aX,rfl⟩,.nil _ _ _ _⟩;refine vd ah hx (zO rfl) (zO rfl) (zO rfl) fun F1 aZ V aC a0=>?_;have g:=g.next h aC a0
 have h:=pG (h.sub (.cons _ (.cons _ (.refl _)))) aC fun b hb=>ah.yf b (zH _ hb);have hu:gI (dO k v M 0 (ef [(key,val)])).1.1:=uH hT.wf ui;unfold kF at u;generalize dO k v M 0 (ef [(key,val)])=st at u V hu⊢;obtain⟨⟨q,e⟩,M1⟩:=st;dsimp only at u V hu⊢;apply dV<;>intro J;have E:e≠0:=by rw[zT] at J;exact zR.1 J
 rw[if_pos E] at u;exact u F1 aZ V.j7 g.pY g.new;have E:¬e≠0:=by rw[yE] at J;exact fun h=>h (yP.1 J)
 rw[if_neg E] at u;exact oA h 1 rfl (pW pb) rfl<|oA h 1 rfl t rfl<|TW.qg V hu ⟨oM,oM⟩ ⟨oM,oM⟩ fun a1 aD a2=>u F1 a1 aD.j7 (g.pY.j8 a2 g.new) g.new;have hc:R.1≠0:=zR.1 hc;rw[if_neg hc] at u;refine oC h 1 rfl (jD k v pb t) rfl<|oA h 0 rfl R.1 rfl<|GW ax ay f (hT.cD h) u1 (uv hk h) (uv hv h) (E hc) fun gs F1 aE hG U am aF a3=>?_;have g:=g.next h aF a3
 have h:=(hT.cD h).own h aF;generalize gY D k v key val f M R.1=pn at u hG U am⊢;obtain⟨⟨I,e1⟩,M1⟩:=pn;dsimp only at hG U am⊢;unfold rV at u;dsimp only at u;refine oB h fun aG bt _ _ h=>oD h 0 rfl (pL (tj I gs)) fun a4 h _=>?_;apply dV<;>intro J;have E:e1≠0:=by rw[zT] at J;exact zR.1 J
 rw[if_pos E] at u;exact u F1 a4 (U.J0 h).j7 (g.fr h) g.new;have E:¬e1≠0:=by rw[yE] at J;exact fun h=>h (yP.1 J)
 rw[if_neg E] at u;refine oA h 0 rfl I.x5 rfl<|oD h 1 rfl (sC (I.x5,R.2.1,R.2.2)) fun bu h _=>?_;have aH:gI (if I.J8 then wrap .u32 (R.2.1+1) else R.2.1):=by split;exact vK _;exact u2
 refine hU (fun _ w'=>dQ [r7,r1] aE w' [(aG,.cells (pL (tj I gs)) GR (0,0)),(r7,.cells (sC (I.x5,(if I.J8 then wrap .u32 (R.2.1+1) else R.2.1),R.2.2)) RT (0,0)),(r1,.cells (nz (jD k v pb t)) WK (0,0))]) ?_ ?_;refine oA h 0 rfl I.J8 rfl ?_;apply dV<;>intro G;rw[if_pos G];refine oA h 1 rfl R.2.1 rfl<|oD h 1 rfl (sC (I.x5,wrap .u32 (R.2.1+1),R.2.2)) fun bv h _=>h;rw[if_neg (by rw[G];decide)];exact h;intro _ a5 h;generalize (if I.J8 then wrap .u32 (R.2.1+1) else R.2.1)=ac at u aH h;refine hU (fun _ w'=>∃(a c:Int) (F2 T:List Nat) (M2:dZ) (wa:World),Sg F w0 wa F2 T/\TW dbk pb FD D j wa (T++Y) F2 M2/\dQ T wa w' [(aG,.cells (pL (tj I gs)) GR (0,0)),(r7,.cells (sC (a,ac,c)) RT (0,0)),(r1,.cells (nz (jD k v pb t)) WK (0,0))]/\gI a/\gI c/\
  ∀F' w',TW dbk pb FD D j w' Y F' (eW M2 t a ac c).2->Fr F w0 w'->(∀b∈F',b∈F\/w0.heap.size<=b)->K (eW M2 t a ac c).1 w') ?_ ?_
 refine oA h 0 rfl I.x4 rfl ?_;apply dV<;>intro G;have G:I.x4≠0:=by rw[zT] at G;exact zR.1 G
 rw[if_pos G] at u;refine oC h 2 rfl (jD k v pb t) rfl<|oA h 0 rfl gs rfl ?_;have aa:=TW.J0 (T:=[r7,r1]) U h;have an:=pU (T:=[r7,r1]) am h;have g:Sg F w0 a5 F1 (fh _):=g.cC h (.refl [] _);have h:=lL h (.refl _);refine oB h fun aI bx bz aJ h=>oA h 1 rfl I.x5 rfl<|oA h 1 rfl I.x4 rfl<|oB h fun aK a6 bA a7 h=>?_;have bl:=aJ.size;have aL:=aJ.trans a7;have ai:=aa.q7 aL;have a8:=C5 aa (b:=aI) oJ;have a9:=C5 aa (b:=aK) oJ;have ak:=Ei (h.at (i:=1) rfl) a8 (an.q7 aL);have a':=qzF (h.at (i:=0) rfl) a9;have hx:eB _ a6 (false,⟨pW aI,1,1⟩,dG,⟨pW aK,2,2⟩) ⟨false,[I.key],[],[I.x5,I.x4]⟩:=⟨rfl,⟨fun a ha=>by rw[zE.1 ha];exact hG.key,fun _ h=>(nomatch h),fun a ha=>by simp only[zG,xX,or_false] at ha;rcases ha with rfl|rfl;exact hG.x5;exact hG.x4⟩,⟨_,ak,rfl⟩,⟨_,.nil _ _,rfl⟩,a'⟩;refine vd ai hx (zO rfl) (zO rfl) (zO rfl) fun F2 aM ab aN ba=>?_;have g:=g.next h aN ba
 have h:=pG (h.sub (.cons _ (.cons _ (.refl _)))) aN fun b hb=>ai.yf b (zH _ hb);have hu:gI (dO k v M1 0 ⟨false,[I.key],[],[I.x5,I.x4]⟩).1.1:=uH aa.wf ui;unfold kF at u;generalize dO k v M1 0 ⟨false,[I.key],[],[I.x5,I.x4]⟩=st at u ab hu⊢;obtain⟨⟨q,e⟩,M2⟩:=st;dsimp only at u ab hu⊢;apply dV<;>intro ae;have E:e≠0:=by rw[zT] at ae;exact zR.1 ae
 rw[if_pos E] at u;exact u F2 aM ab.j7 g.pY g.new;have E:¬e≠0:=by rw[yE] at ae;exact fun h=>h (yP.1 ae)
 rw[if_neg E] at u;exact oA h 1 rfl R.2.2 rfl<|oD h 1 rfl (sC (q,ac,R.2.2)) fun bB h _=>oD h 1 rfl (sC (q,ac,wrap .u32 (R.2.2+1))) fun bC h _=>⟨q,_,F2,_,M2,aM,⟨g.pY,g.new,fun b hb=>g.own b (by simp at hb⊢;rcases hb with h|h|h<;>simp[h])⟩,ab,h,hu,vK _,u⟩;have G:¬I.x4≠0:=by rw[yE] at G;exact fun h=>h (yP.1 G)
 rw[if_neg G] at u;exact⟨I.x5,R.2.2,F1,[r7,r1],M1,aE,g,U,h,hG.x5,u3,u⟩;rintro _ bD ⟨a,c,F2,T,M2,wa,g,bb,h,ha,bc,u⟩;exact oA h 2 rfl (pW pb) rfl<|oA h 2 rfl t rfl<|oC h 1 rfl (a,ac,c) rfl<|TW.qg (bb.J0 h) ha aH bc fun bd aO bf=>u F2 bd aO.j7 ((g.fr h).j8 bf g.new) g.new
end
end
section
section
variable {dbk pb j:Nat} {FD Y F F' T:List Nat} {D:dI} {w0 w w':World} {M M':dZ} {L L':List (Nat×Obj)} {k v:Nat} {t:Int}
def nO.rd{x:kj}{n:dL}{B:List Nat}(o:nO FD F w T (B++Y) x n B)(G:TW dbk pb FD D j w (T++(B++Y)) F M)(E:∀b∈B,b∉Y):eB (Zo FD (T++Y) F) w x n:=
 o.node.rd (fun b h u=>by
  have I:=G.sep b (by simp[h]);simp only[Zo,zD,zG] at u;rcases u with (u|u|u|u)|u;exact I.1 u;exact I.2 u;exact o.sep b u h;exact E b h u;exact G.yf b (by simp[h]) u) fun b h=>.inl (tG (fun b h=>by
  rw[zD] at h;simp only[zD];rcases h with h|h;exact .inl h;exact .inr (.inr h)) b h)
def nO.next{R:List Nat}{x:kj}{n:dL}{B:List Nat}(o:nO FD F w T R x n B)(f:Fr F w w')(h:∀b∈B,b∉F)(u:∀b∈F',b∈F\/w.heap.size<=b):nO FD F' w' T R x n B:=⟨o.node.q8 f h (fun b E=>.inl (vh E)) (TW.u9 u),o.sep⟩
def qw2{r:Int×Int×Int}{N:dL}:mq k v t r ((N,0),M) = if N.Q4=true/\N.J6.length=0 then (if (fl M r.1).1≠0 then ((fl M r.1).1,(fl M r.1).2) else eW (fl M r.1).2 t 0 0 0) else if N.Q4=false/\N.J9.length=1 then (if (fl M r.1).1≠0 then ((fl M r.1).1,(fl M r.1).2) else eW (fl M r.1).2 t (N.J9.getD 0 0) (wrap .u32 (r.2.1-1)) (wrap .u32 (r.2.2-1))) else kF t (dO k v M r.1 N) (wrap .u32 (r.2.1-1)) r.2.2:=by unfold mq;rw[if_neg (fun h=>h rfl)]
set_option maxHeartbeats 1000000 in
def qvh{f:Nat}{ks:Sl}{K:Int->WP}(aH:eH key)(an:gZ k v)(hT:TW dbk pb FD D j w0 Y F M)(hk:eE (Zo FD Y F) w0 ks key)(V:my D k v key f M (dX M t).1)(G:∀F' w',TW dbk pb FD D j w' Y F' (kQ D k v t key f M).2->Fr F w0 w'->(∀b∈F',b∈F\/w0.heap.size<=b)->K (kQ D k v t key f M).1 w'): cW 105 [.agg (nz (jD k v pb t)),ks.v] dj w0 K:=by
 refine qjx ?_;have g:=Sg.start F w0;have h:=oE [] w0;obtain⟨u1,u2,u3⟩:=Dr hT.wf t;refine oB h fun r1 w2 _ _ h=>oA h 0 rfl (pW pb) rfl<|oA h 0 rfl t rfl<|TW.J5 (hT.q7 h.fr) fun w6 f6=>?_;have h:=h.q7 f6;unfold kQ at G;generalize dX M t=I at G V u1 u2 u3⊢;refine oB h fun r7 w8 _ _ h=>oD h 0 rfl (sC I) fun w9 h _=>oC h 1 rfl (jD k v pb t) rfl<|oA h 0 rfl I.1 rfl<|DW aH an f (hT.cD h) u1 (uv hk h) V fun x B F1 ar ai aa ab au af aJ=>?_;have aK:=ws h;have a5:=h.fr.size;have g:=g.next h au aJ
 have h:=(hT.cD h).own h au;generalize ic D k v key f M I.1=cn at G ai aa ab⊢;obtain⟨⟨N,e1⟩,M1⟩:=cn;dsimp only at ai aa ab⊢;have av:TW dbk pb FD D j ar ([r7,r1]++(B++Y)) F1 M1:=aa.y3 fun b u=>by rw[zD,zD] at u;simp only[zD];rcases u with u|u|u;exact .inr (.inl u);exact .inl u;exact .inr (.inr u)
 have o:nO FD F1 ar [r7,r1] (B++Y) x N B:=⟨ab.j6 fun b u=>.inl (tG (fun b u=>by rw[zD,zD] at u;simp only[zD];rcases u with u|u|u;exact .inr (.inl u);exact .inl u;exact .inr (.inr u)) b u),fun b u hm=>by have:=aK b u;have:=af b hm;omega⟩;have aM:∀b∈B,b∉Y:=fun b u hm=>by have:=hT.qx b hm;have:=af b u;omega
 have J:∀ {T:List Nat},∀b∈T++Y,b∈T++(B++Y):=fun b u=>by rw[zD] at u;simp only[zD];rcases u with u|u;exact .inl u;exact .inr (.inr u)
 refine oB h fun aN a7 _ _ h=>oD h 0 rfl (eK x) fun aO h _=>?_;apply dV<;>intro R;have ac:e1≠0:=by rw[zT] at R;exact zR.1 R
 have e:mq k v t I ((N,e1),M1)=(e1,M1):=(by unfold mq;rw[if_pos ac]);rw[e] at G;exact G F1 aO ((TW.J0 (T:=[r7,r1]) av h).y3 fun b u=>by simp[u]) (g.fr h) g.new;have aP:e1=0:=(by rw[yE] at R;exact yP.1 R);subst aP;rw[qw2] at G;have ad:x.1=N.Q4:=o.node.1;have aw:oc x N:=(o.node.rd (S:=[]) (fun _ _ h=>(nomatch h)) fun _ h=>nomatch h).lens;have aj:gI (wrap .u32 (I.2.1-1)):=vK _;refine oA h 1 rfl I.2.1 rfl<|oD h 1 rfl (sC (I.1,wrap .u32 (I.2.1-1),I.2.2)) fun ax h _=>?_;generalize wrap .u32 (I.2.1-1)=ae at G aj h;have E:=TW.J0 (T:=[r7,r1]) av h;have o:=o.J0 h;have g:Sg F w0 ax F1 (fh _):=g.cC h (.refl [] _);have h:=lL h (.refl _);refine hU (fun e w'=>∃(a b c:Int) (F2 T:List Nat) (M2:dZ) (wa:World),Sg F w0 wa F2 T/\TW dbk pb FD D j wa (T++Y) F2 M2/\dQ T wa w' [(aN,.cells (eK x) ND (0,0)),(r7,.cells (sC (a,b,c)) RT (0,0)),(r1,.cells (nz (jD k v pb t)) WK (0,0))]/\gI a/\gI b/\gI c/\
  ∀F' w',TW dbk pb FD D j w' Y F' (if e≠0 then (e,M2) else eW M2 t a b c).2->Fr F w0 w'->(∀b∈F',b∈F\/w0.heap.size<=b)->K (if e≠0 then (e,M2) else eW M2 t a b c).1 w') ?_ ?_
 refine hU (fun d w'=>d=decide (N.Q4=true/\N.J6.length=0)/\w'=ax) ?_ ?_;refine oA h 0 rfl x.1 rfl ?_;apply dV<;>intro R;rw[ad] at R;refine oA h 0 rfl x.2.1 rfl ⟨?_,rfl⟩;rw[aw.J6,Bool.eq_iff_iff,yP,yN];exact⟨fun h=>⟨R,oJ⟩,fun h=>by rw[h.2];rfl⟩;rw[ad] at R;exact⟨(zU fun h=>by rw[R] at h;exact absurd h.1 oM).symm,rfl⟩;rintro d aQ ⟨rfl,rfl⟩;apply dV<;>intro hd;have hd:=zC hd;rw[if_pos hd] at G;refine oA h 2 rfl (pW pb) rfl<|oA h 1 rfl I.1 rfl<|TW.drop (E.y3 J) fun F2 aR ay az aT=>?_;have g:=g.next h az aT
 have h:=TW.own (E.y3 J) h az;exact oD h 1 rfl (sC (0,0,0)) fun a8 h _=>⟨0,0,0,F2,_,_,aR,g,ay,h,ui,ui,ui,G⟩;have hd:=zB hd;rw[if_neg hd] at G;refine hU (fun d w'=>d=decide (N.Q4=false/\N.J9.length=1)/\w'=aQ) ?_ ?_;refine oA h 0 rfl x.1 rfl ?_;apply dV<;>intro R;rw[ad,zT] at R;refine oA h 0 rfl x.2.2.2 rfl ⟨?_,rfl⟩;rw[aw.J9,Bool.eq_iff_iff,yP,yN];exact⟨fun h=>⟨R,oJ⟩,fun h=>by rw[h.2];rfl⟩;rw[ad,yE] at R;exact⟨(zU fun h=>by rw[R] at h;exact absurd h.1 oM).symm,rfl⟩;rintro d a9 ⟨rfl,rfl⟩;apply dV<;>intro U;have U:=zC U;rw[if_pos U] at G;have al:0<N.J9.length:=oJ;rw[uy al] at G;have aU:gI N.J9[0]:=o.node.2.1.2.2 _ (zX al);refine oA h 2 rfl (pW pb) rfl<|oA h 1 rfl I.1 rfl<|TW.drop E fun F2 aV aA am aB=>?_;have g:=g.next h am aB
 have o:=o.next am (fun b u=>E.yf b (by simp[u])) aB
 have h:=TW.own E h am;have h:=oF h;refine oA h 0 rfl x.2.2.2 rfl ?_;have oR:eB [] _ x N:=(o.J0 h).node.rd (S:=[]) (fun _ _ h=>(nomatch h)) fun _ h=>nomatch h;exact ed.get oR.2.2.2.2 0 rfl (x:=N.J9[0]) (zA al) (y:=N.J9[0]) rfl<|oA h 1 rfl I.2.2 rfl<|oD h 1 rfl (sC (N.J9[0],ae,I.2.2)) fun ba h _=>oD h 1 rfl (sC (N.J9[0],ae,wrap .u32 (I.2.2-1))) fun bb h _=>⟨_,_,_,F2,_,_,aV,g,aA.y3 J,h,aU,aj,vK _,G⟩;have U:=zB U;rw[if_neg U] at G;have sx:=ai rfl;have z1:=sx.J6;have z2:=sx.Q0;have z3:=sx.J9;refine oC h 2 rfl (jD k v pb t) rfl<|oA h 1 rfl I.1 rfl<|oC h 0 rfl x rfl<|vd (E.y3 J) (o.rd E aM) oJ oJ oJ fun F2 aX ah aC aY=>?_;have aD:gI (dO k v M1 I.1 N).1.1:=uH E.wf u1;have g:=g.next h aC aY
 have h:=TW.own (E.y3 J) h aC;unfold kF at G;generalize dO k v M1 I.1 N=st at G ah aD⊢;obtain⟨⟨q,e2⟩,M2⟩:=st;exact oD h 1 rfl (sC (q,ae,I.2.2)) fun bc h _=>⟨q,ae,I.2.2,F2,_,M2,aX,g,ah,h,aD,aj,u3,G⟩;rintro e aZ ⟨a,b,c,F2,T,M2,wa,g,aE,h,ua,ub,uc,G⟩;apply dV<;>intro U;have ac:e≠0:=by rw[zT] at U;exact zR.1 U
 rw[if_pos ac] at G;exact G F2 aZ (aE.J0 h).j7 (g.fr h) g.new;have ac:¬e≠0:=by rw[yE] at U;exact fun h=>h (yP.1 U)
 rw[if_neg ac] at G;exact oA h 2 rfl (pW pb) rfl<|oA h 2 rfl t rfl<|oC h 1 rfl (a,b,c) rfl<|TW.qg (aE.J0 h) ua ub uc fun a0 aF a1=>G F2 a0 aF.j7 ((g.fr h).j8 a1 g.new) g.new
end
end
end
section
open Go Go.Pt List
open Go.IntKind (wrap)
open Classical
variable {K:Sl×Int->WP} {f:Nat} {key:Key} {ks:Sl}
def qwy{S:Type}{B:(S->WP)->S->WP}(I:Nat->S->WP)(G:∀f s w (X:S->WP),I f s w->(∀u E w',u<f->I u E w'->X E w')->B X s w):∀(f:Nat) {s:S} {w:World},I f s w->loop S B s w:=fun f=>by
 induction f using Nat.strongRecOn with
 | ind f ih=>exact fun {s w} h=>AJ fun X J=>G f s w X h fun u E w' R U=>J _ _ (ih u R U)
noncomputable def lR (D:dI) (k v:Nat) (key:Key) (M:dZ):Nat->Int->Key×Int
 | 0,p=>if p=0 then ([],5) else ([],-1)
 | f+1,p=>if p=0 then ([],5)
  else if (dJ D M k v p).2≠0 then ([],(dJ D M k v p).2)
  else if (dJ D M k v p).1.Q4 then
   if (dJ D M k v p).1.J6[dN (dJ D M k v p).1.J6 key]?=some key then ((dJ D M k v p).1.Q0.getD (dN (dJ D M k v p).1.J6 key) [],0) else ([],5)
  else lR D k v key M f ((dJ D M k v p).1.J9.getD (eh (dJ D M k v p).1.J6 key) 0)
section
variable {dbk pb j:Nat} {FD Y F F' T:List Nat} {D:dI} {w0 w w':World} {M M':dZ} {k v:Nat} {t:Int}
def qyF(ag:eH key)(hs:rG t=((k:Int),(v:Int)))(ax:k≠0)(a0:key.length=k)(hT:TW dbk pb FD D j w0 Y F M)(hk:eE (Zo FD Y F) w0 ks key)(U:(lR D k v key M f (dX M t).1).2≠-1)(kk:∀s B w',fV w' s (lR D k v key M f (dX M t).1).1 B->(∀b∈B,w0.heap.size<=b)->Fr [] w0 w'->K (s,(lR D k v key M f (dX M t).1).2) w'): cW 47 [dF pb,.i t,ks.v] dl w0 K:=by
 refine qs9 ?_;have aR:=hk.1;refine CP (k:=k) (v:=v) hs (fun h=>absurd h ax) (fun _ h=>absurd oJ h) fun _ _ w2 f2=>?_;have h:=(oE [] w0).q7 f2;refine oB h fun r3 w4 _ _ h=>oD h 0 rfl (nz (jD k v pb t)) fun w5 h _=>cond_false rfl<|TW.J5 (hT.q7 h.fr) fun w7 f7=>?_;have h:=h.q7 f7;have hu:=(Dr hT.wf t).1;generalize dX M t=rt at kk U hu⊢;generalize ai:lR D k v key M f rt.1=aj at kk U;refine hU (fun _ w'=>aj=([],5)/\Fr [] w0 w') ?_ ?_
 ·refine qwy (fun f s w'=>lR D k v key M f s=aj/\gI s/\dQ [] w0 w' [(r3,.cells (nz (jD k v pb t)) WK (0,0))]) ?_ f ⟨ai,hu,h⟩;rintro f s a5 X ⟨u,aA,h⟩ hX;apply dV<;>intro hc
  ·have V:s≠0:=(by rw[zT] at hc;exact zR.1 hc);cases f with
   | zero=>
    unfold lR at u;rw[if_neg V] at u;rw[<- u] at U;exact absurd rfl U
   | succ f=>
   unfold lR at u;rw[if_neg V] at u;refine oC h 0 rfl (jD k v pb t) rfl ?_;rcases ac:dJ D M k v s with ⟨n,e0⟩;rw[ac] at u;dsimp only at u;refine Bu (k:=k) (v:=v) (hT.q7 h.fr) aA fun x B aB aU E aC aV=>?_;rw[ac] at E⊢;dsimp only at E⊢;have R:eB [] aB x n:=E.rd (fun _ _ h=>(nomatch h)) fun _ h=>nomatch h;have h:=h.q7 aC;have aW:=h.fr;refine oB h fun ak aD a7 aE h=>?_;have R:eB [ak] aD x n:=(R.j6 (S':=[ak]) fun b hb=>by rw[zE.1 hb];exact .inr oJ).q7 aE;refine oD h 0 rfl (eK x) fun al h aG=>?_;have R:=R.q8 aG fun b hb=>.inl hb;apply dV<;>intro G;have am:e0≠0:=by rw[zT] at G;exact zR.1 G
   rw[if_pos am] at u;subst u;exact kk dG [] al (.nil _ _ _) (fun _ h=>nomatch h) h.fr;have aH:e0=0:=by rw[yE] at G;exact yP.1 G
   subst aH;rw[if_neg (fun h=>h rfl)] at u;have hr:=BY ac;obtain⟨l1,l2,l3,l4,l5⟩:=uV hr;have an:x.1=n.Q4:=R.1;refine oA h 0 rfl x.1 rfl ?_;apply dV<;>intro I;have J:n.Q4=false:=(by rw[an,zT] at I;exact I);rw[if_neg (by rw[J];decide)] at u;obtain⟨l6,l7,l8⟩:=l5 J;have aX:=Ak n.J6 key;have fd:=(Fr.refl [] al).drew;have h:=oF h;refine oA h 0 rfl x.2.2.2 rfl<|oC h 0 rfl x rfl<|Bm (R.q7 fd) (hk.q7 h.fr) ag hr.2.2.1 oJ fun aI ao=>?_;have h:=h.q7 ao;refine ig (h.cell 0 rfl rfl) ?_;have ad:eh n.J6 key<n.J9.length:=oJ;refine ed.get ((R.q7 fd).q7 ao).2.2.2.2 (eh n.J6 key) rfl (zA ad) (y:=n.J9[eh n.J6 key]) rfl ?_;rw[uy ad] at u;exact hX f _ aI (Nat.lt_succ_self f) ⟨u,R.2.1.2.2 _ (zX ad),h.sub (sublist_cons_self _ _)⟩;have J:n.Q4=true:=(by rw[an,yE] at I;exact I);rw[if_pos J] at u;obtain⟨l6,l7⟩:=l4 J;refine oC h 0 rfl x rfl<|Cj R (hk.q7 h.fr) ag hr.2.2.1 oJ fun bb ap=>?_;have h:=h.q7 ap;apply cD<;>intro ae;have aq:=ae;rw[if_pos aq] at u;have bc:=(zP.1 aq).1;obtain⟨pv,ar,af⟩:=(R.q7 ap).2.2.2.1;have aa:dN n.J6 key<pv.length:=by
    have:=congrArg List.length af
    rw[zK] at this;omega
   refine oA h 0 rfl x.2.2.1 rfl<|js.get ar (dN n.J6 key) rfl aa ?_;have au:n.Q0.getD (dN n.J6 key) []=pv[dN n.J6 key].2:=(by rw[<- af,wu aa]);rw[au] at u;have aJ:pv[dN n.J6 key].2.length<=1000000:=by have h1:=hr.2.1 pv[dN n.J6 key].2 (by rw[<- af];exact zZ (zX aa));have h2:=qmZ (k:=k) (v:=v) oJ;omega
   refine Ad (ar.2 _ (zX aa)) aJ fun s' B' aK aL aM aN _ _=>?_;subst u;have aO:=h.fr.size;exact kk s' B' aK aL (fun c hc=>zL aO (aN c hc)) (h.fr.trans aM);have av:=ae;rw[if_neg av] at u;exact⟨u.symm,h.fr⟩
  have V:s=0:=(by rw[yE] at hc;exact yP.1 hc);refine⟨?_,h.fr⟩;rw[<- u];cases f<;>(unfold lR;rw[if_pos V])
 rintro _ aP ⟨rfl,aQ⟩;exact kk dG [] aP (.nil _ _ _) (fun _ h=>nomatch h) aQ
def qtb(h:eH key)(J:rG t=((k:Int),(v:Int)))(u:k≠0)(E:key.length=k)(R:TW dbk pb FD D j w0 Y F M)(U:eE (Zo FD Y F) w0 ks key)(I:(lR D k v key M f (dX M t).1).2≠-1)(V:∀s w',(∀G:List Nat,(∀b∈G,b<w0.heap.size)->eE G w' s (lR D k v key M f (dX M t).1).1)->Fr [] w0 w'->K (s,(lR D k v key M f (dX M t).1).2) w'): cW 47 [dF pb,.i t,ks.v] dl w0 K:=
 qyF h J u E R U I fun s B w' b n f=>V s w' (fun G hG=>b.jw lr fun c hc hm=>by have:=n c hc;have:=hG c hm;omega) f
def qtX{r h:Int}(u:0<=r)(E:0<=h/\h<=1000000)(G:2*h.toNat+1<=r.toNat):decide (r>wrap .i64 (2*wrap .i64 h))=true:=by rw[gq h oJ,gq (2*h) oJ];exact yA oJ
def qyM{vs:Sl}{val:Key}{K:Int->WP}(V:eH key)(aa:eH val)(hs:rG t=((k:Int),(v:Int)))(ab:k≠0)(am:key.length=k)(ac:val.length=v)(hT:TW dbk pb FD D j w0 Y F M)(hk:eE (Zo FD Y F) w0 ks key)(hv:eE (Zo FD Y F) w0 vs val)(ad:0<=(dX M t).2.2/\(dX M t).2.2<=1000000)(ae:2*(dX M t).2.2.toNat+1<=M.Q1.length)(af:(dX M t).1≠0->(gY D k v key val f M (dX M t).1).1.2≠-1)(kk:∀F' w',TW dbk pb FD D j w' Y F' (jC D k v t key val f M).2->Fr F w0 w'->(∀b∈F',b∈F\/w0.heap.size<=b)->K (jC D k v t key val f M).1 w'): cW 50 [dF pb,.i t,ks.v,vs.v] dj w0 K:=by refine qta ?_;have ap:=hk.1;have ag:=hv.1;have g:=Sg.start F w0;have h:=oE [] w0;refine oB h fun r1 w2 _ _ h=>oB h fun r3 w4 _ _ h=>oA h 1 rfl ks rfl<|CP (k:=k) (v:=v) hs (fun h=>absurd h ab) (fun _ h=>absurd oJ h) fun _ _ w7 f7=>?_;have h:=h.q7 f7;refine oB h fun r8 w9 _ _ h=>oD h 0 rfl (nz (jD k v pb t)) fun ah h _=>cond_false rfl<|oA h 1 rfl vs rfl<|oA h 0 rfl (v:Int) rfl<|cond_false (by rw[ag,ac];simp)<|oC h 0 rfl (jD k v pb t) rfl ?_;have u:=hT.cD h;have G:=uv hk h;have I:=uv hv h;have g:Sg F w0 ah F (fh _):=g.cC h (.refl [] _);have h:=lL h (.refl _);refine qe3<|oB h fun q1 aw _ _ h=>?_;have h:=oF h;refine oA h 0 rfl (pW pb) rfl<|oA h 0 rfl (pW pb) rfl<|oA h 0 rfl t rfl<|TW.room (u.J0 h)<|jU (h.cell 0 rfl rfl) (h.cell 0 rfl rfl)<|TW.J5 (u.J0 h) fun ax E=>?_;have J:=(u.J0 h).q7 E;have R:=(pU G h).q7 E;have U:=(pU I h).q7 E;have g:=g.cC h E;have h:=pG h E fun _ _ h=>nomatch h;exact cond_true (qtX oJ ad oJ)<|sV (lb:=[dF r8,dF r1,dF r3]) rfl oK<|qoY<|oC h 1 rfl (jD k v pb t) rfl<|oA h 3 rfl ks rfl<|oA h 2 rfl vs rfl<|quQ V aa J R U af fun F' w' ai f' n'=>kk F' w' ai.j7 (g.pY.j8 f' g.new) fun b hb=>(n' b hb).elim (g.new b) fun h1=>.inr (zL g.pY.size h1)
def qyB{f2:Nat}{K:Int->WP}(R:eH key)(U:gZ k v)(hs:rG t=((k:Int),(v:Int)))(V:k≠0)(ad:key.length=k)(hT:TW dbk pb FD D j w0 Y F M)(hk:eE (Zo FD Y F) w0 ks key)(af:0<=(dX M t).2.2/\(dX M t).2.2<=1000000)(ag:2*(dX M t).2.2.toNat+1<=M.Q1.length)(I:(lR D k v key M f2 (dX M t).1).2=0)(J:my D k v key f M (dX M t).1)(kk:∀F' w',TW dbk pb FD D j w' Y F' (kQ D k v t key f M).2->Fr F w0 w'->(∀b∈F',b∈F\/w0.heap.size<=b)->K (kQ D k v t key f M).1 w'): cW 61 [dF pb,.i t,ks.v] dj w0 K:=by refine ql2 ?_;have al:=hk.1;have g:=Sg.start F w0;have h:=oE [] w0;refine oB h fun r1 w2 _ _ h=>oA h 0 rfl ks rfl<|CP (k:=k) (v:=v) hs (fun h=>absurd h V) (fun _ h=>absurd oJ h) fun _ _ w7 f7=>?_;have h:=h.q7 f7;refine oB h fun r8 w9 _ _ h=>oD h 0 rfl (nz (jD k v pb t)) fun ap h _=>cond_false rfl<|oA h 1 rfl ks rfl<|qtb (f:=f2) R hs V ad (hT.cD h) (uv hk h) (by rw[I];decide) fun s aq _ E=>?_;rw[I];have u:=(hT.cD h).q7 E;have aa:=(uv hk h).q7 E;have g:=g.cC h E;have h:=pG h E fun _ _ h=>nomatch h;refine cond_false rfl<|oC h 0 rfl (jD k v pb t) rfl<|qe3<|oB h fun q1 ar _ _ h=>?_;have h:=oF h;refine oA h 0 rfl (pW pb) rfl<|oA h 0 rfl (pW pb) rfl<|oA h 0 rfl t rfl<|TW.room (u.J0 h)<|jU (h.cell 0 rfl rfl) (h.cell 0 rfl rfl)<|TW.J5 (u.J0 h) fun au G=>?_;have ab:=(u.J0 h).q7 G;have ac:=(pU aa h).q7 G;have g:=g.cC h G;have h:=pG h G fun _ _ h=>nomatch h;exact cond_true (qtX oJ af oJ)<|sV (lb:=[dF r8,dF r1]) rfl oK<|qoX<|oC h 1 rfl (jD k v pb t) rfl<|oA h 2 rfl ks rfl<|qvh R U ab ac J fun F' w' ah f' n'=>kk F' w' ah.j7 (g.pY.j8 f' g.new) fun b hb=>(n' b hb).elim (g.new b) fun h1=>.inr (zL g.pY.size h1)
end
end
section
open Go Go.Pt List
open Go.IntKind (wrap)
open Classical
variable {L:fR} {key:Key}
def k6 (key:Key) (L:fR):Option Key:=(L.find? fun x=>decide (x.1=key)).map (·.2)
def Et{A B:fR}:k6 key (A++B)=match k6 key A with|some v=>some v|none=>k6 key B:=by unfold k6;rw[List.find?_append];cases A.find? (fun x=>decide (x.1=key))<;>rfl
def Bh(h:∀x∈L,x.1≠key):k6 key L=none:=by unfold k6;rw[List.find?_eq_none.2 fun x u=>by simp[h x u]];rfl
def qwc(h:key∈dP L):∃v,k6 key L=some v:=by
 unfold k6;obtain⟨x,u,rfl⟩:=mem_map.1 h;cases e:L.find? (fun y=>decide (y.1=x.1)) with
 | none=>exact absurd (List.find?_eq_none.1 e x u) oL
 | some y=>exact⟨y.2,rfl⟩
section
variable {D:dI} {M M':dZ} {k v:Nat} {key:Key}
def Has.get:∀ {h:Nat} {s:ie},Has D M k v h s->s.x5≠0->M.Wf->M.Q3=false->lR D k v key M (h+1) s.x5=match k6 key s.y4 with|some x=>(x,0)|none=>([],5)
 | 0,s,hs,hp,hW,ho=>by
  obtain⟨h1,h2,h3,h4⟩:=hs;have hl:dJ D M k v s.x5=(ef s.y4,0):=h3.load h4;have ad:fg s.y4:=h3.right.2.2.1;have am:(ef s.y4).J6=dP s.y4:=rfl;unfold lR;rw[if_neg hp,hl];dsimp only;rw[if_neg (fun h=>h rfl),if_pos (show (ef s.y4).Q4=true from rfl),am];by_cases hm:(dP s.y4)[dN (dP s.y4) key]?=some key
  ·rw[if_pos hm];have hi:dN (dP s.y4) key<s.y4.length:=by
    have:=(zP.1 hm).1
    simpa using this
   have an:=yz (k:=key) ad;have ae:s.y4=s.y4.take (dN (dP s.y4) key)++s.y4[dN (dP s.y4) key]::s.y4.drop (dN (dP s.y4) key+1):=by rw[getElem_cons_drop,xE]
   have J:s.y4[dN (dP s.y4) key].1=key:=(by rw[zQ,zA hi] at hm;simpa using hm);have hg:k6 key s.y4=some s.y4[dN (dP s.y4) key].2:=by
    conv=>lhs;rw[ae]
    rw[Et,Bh fun x u=>yy (an.1 x u)];unfold k6;rw[List.find?_cons_of_pos (by simp[J])];rfl
   rw[hg];show ((List.map (·.2) s.y4).getD _ [],(0:Int))=_;rw[yR,zQ,zA hi];rfl
  rw[if_neg hm];have hn:key∉dP s.y4:=fun h=>hm ((wH ad).2 h);rw[Bh fun x u e=>hn (by rw[<- e];exact zZ u)]
 | h+1,⟨p,n,L,P⟩,⟨es,h0,h1,h2,h3,h4,h5,h6,h7⟩,hp,hW,ho=>by
  dsimp only at h1 h2 h3 h5 hp;subst h1 h2 h3;have hl:dJ D M k v p=(dM es,0):=h4.load h5;obtain⟨A,e,B,R,hA,J,ao,U⟩:=uO (key:=key) h0 h6;have V:(dM es).J9.getD (eh (dM es).J6 key) 0=e.2.x5:=U;have ap:e∈es:=(by rw[R];simp);obtain⟨aa,_⟩:=h7 e ap;have aD:=ur hW (aa.J4 ho e.2.x5 aa.mem);unfold lR;rw[if_neg hp,hl];dsimp only;rw[if_neg (fun h=>h rfl),if_neg (show ¬(dM es).Q4=true from fun e=>nomatch e),V,aa.get oJ hW ho];have I:=h6;rw[R] at I;have E:=I.mid;have G:es.flatMap (·.2.y4)=A.flatMap (·.2.y4)++(e.2.y4++B.flatMap (·.2.y4)):=(by rw[R,qu]);have aq:∀x∈A.flatMap (·.2.y4),x.1≠key:=fun x u=>by obtain⟨a,ha,u⟩:=yK.1 u;exact yy (rq (E.1 a ha x u) J)
  have ar:∀x∈B.flatMap (·.2.y4),x.1≠key:=fun x u=>by obtain⟨b,hb,u⟩:=yK.1 u;exact (yy (rq (ao b hb) ((E.2 b hb).2.2 x u))).symm
  rw[G,Et,Bh aq,Et,Bh ar];cases k6 key e.2.y4<;>rfl
def Has.Q6(hc:gZ k v):∀(h:Nat) (M:dZ) (s:ie),Has D M k v h s->M.Wf->M.Q3=false->s.y5.Nodup->key∈dP s.y4->2*h<=M.Q1.length->my D k v key (h+1) M s.x5
 | 0,M,s,hs,hW,ho,af,R,hf=>fun n hn hl=>by have ag:dJ D M k v s.x5=(ef s.y4,0):=hs.2.2.1.load hs.2.2.2;rw[ag] at hn;cases hn;cases hl
 | h+1,M,⟨p,n,L,P⟩,⟨I,h0,h1,h2,h3,h4,h5,h6,h7⟩,hW,ho,af,R,hf=>fun n' hn hl=>by
  dsimp only at h1 h2 h3 h5 af R hn;subst h1 h2 h3;have ay:dJ D M k v p=(dM I,0):=h4.load h5;rw[ay] at hn;cases hn;obtain⟨A,e,B,G,hA,az,aA,ah⟩:=uO (key:=key) h0 h6;have ai:(dM I).J9.getD (eh (dM I).J6 key) 0=e.2.x5:=ah;have aB:eh (dM I).J6 key=A.length:=hA.symm;have aC:e∈I:=(by rw[G];simp);obtain⟨ao,aD⟩:=h7 e aC;have aj:I.flatMap (·.2.y5)=A.flatMap (·.2.y5)++(e.2.y5++B.flatMap (·.2.y5)):=(by rw[G,qu]);have aa:I.flatMap (·.2.y4)=A.flatMap (·.2.y4)++(e.2.y4++B.flatMap (·.2.y4)):=(by rw[G,qu]);have ab:(A.flatMap (·.2.y5)++(e.2.y5++B.flatMap (·.2.y5))).Nodup:=(by rw[<- aj];exact (nodup_cons.1 af).2);have ac:e.2.y5.Nodup:=(yM.1 (yM.1 ab).2.1).1;have ad:=h6;rw[G] at ad;have U:=ad.mid;have V:key∈dP e.2.y4:=by obtain⟨x,E,rfl⟩:=mem_map.1 R;rw[aa] at E;rcases zD.1 E with E|E;obtain⟨a,ha,E⟩:=yK.1 E;exact absurd (rq (U.1 a ha x E) az) qW;rcases zD.1 E with E|E;exact zZ E;obtain⟨b,J,E⟩:=yK.1 E;exact absurd (rq (aA b J) ((U.2 b J).2.2 x E)) qW
  obtain⟨N1,n1,M1,Re,a2,ec,aE,ap,st,a4,a5⟩:=E2 hc h M e.2 ao hW ho ac V oJ;rw[ai];refine⟨ao.Q6 hc h M e.2 hW ho ac V oJ,fun N M2 ae aV ny ak=>?_⟩;rw[ec] at ae;cases ae;have aF:N1.Q4=decide (h=0):=by
   cases h with
   | zero=>rw[ap.1];rfl
   | succ h=>obtain⟨a6,_,h',_⟩:=ap;rw[h'];rfl
  have u:∀b,(b∈A\/b∈B)->(dM I).J9.getD (iT (eh (dM I).J6 key)) 0=b.2.x5->ny.Q4=N1.Q4:=fun b J aG=>by
   rw[aG] at ak;have aH:b∈I:=by rw[G];rcases J with J|J<;>simp[J]
   obtain⟨aq,_⟩:=h7 b aH;have ar:Has D M1 k v h b.2:=aq.q8 fun x E=>(st.rest x (aq.J4 ho x E) fun hm=>by have au:x∈e.2.y5:=(by rw[aE];exact zN _ hm);have hd:=yM.1 ab;have aI:=yM.1 hd.2.1;rcases J with J|J;exact hd.2.2 x (yK.2 ⟨b,J,E⟩) x (zH _ au) rfl;exact aI.2.2 x au x (yK.2 ⟨b,J,E⟩) rfl).1;obtain⟨N2,R2,ag,_,_,av,_⟩:=ar.load;rw[ag] at ak;cases ak;rw[av,aF]
  have h2:=h4.right.x9.1;rw[aB] at u;have aJ:(dM I).J9=I.map (·.2.x5):=rfl;rw[aJ] at u;by_cases hA0:A.length>0;have hs:iT A.length=A.length-1:=(by unfold iT;rw[if_pos hA0]);obtain⟨A',b,rfl⟩:∃A' b,A=A'++[b]:=⟨A.dropLast,A.getLast (length_pos_iff.1 hA0),(vA _).symm⟩;refine u b (.inl oL) ?_;rw[hs,G];simp[yR];have hs:iT A.length=A.length+1:=(by unfold iT;rw[if_neg hA0]);have aK:A=[]:=eq_nil_of_length_eq_zero oJ;subst aK;cases B with
  | nil=>rw[G] at h2;simp at h2
  | cons b B=>
   refine u b (.inr oL) ?_;rw[hs,G];rfl
def fS.get{t:Int}{L:fR}{P:List Int}(E:fS D M k v t L P)(G:M.Wf)(I:M.Q3=false):lR D k v key M (dX M t).2.2.toNat (dX M t).1=match k6 key L with|some x=>(x,0)|none=>([],5):=by rcases E with ⟨e0,rfl,rfl⟩|⟨h,n,p,u,J,R⟩;rw[e0];rfl;rw[J];dsimp only;rw[zJ];exact R.get u G I
def fS.Q6(G:gZ k v){t:Int}{L:fR}{P:List Int}(I:fS D M k v t L P)(u:key∈dP L)(J:M.Wf)(R:M.Q3=false)(U:P.Nodup)(E:2*(dX M t).2.2.toNat+1<=M.Q1.length):my D k v key (dX M t).2.2.toNat M (dX M t).1:=by rcases I with ⟨e0,rfl,rfl⟩|⟨h,n,p,V,er,hs⟩;cases u;rw[er] at E⊢;dsimp only at E⊢;rw[zJ] at E⊢;exact hs.Q6 G h M _ J R U u oJ
def qsR{t:Int}{f:Nat}{val:Key}{M':dZ}(h:jC D k v t key val f M=(0,M')):(dX M t).1≠0->(gY D k v key val f M (dX M t).1).1.2≠-1:=fun E u=>by unfold jC at h;rw[if_neg E] at h;unfold rV at h;rw[if_pos (by rw[u];decide),u] at h;cases h
end
section
structure Gd (N:dZ) (b:Nat) (M:dZ):Prop where
 Q3:M.Q3=false
 j9:M.j9=N.j9
 Q5:M.Q5=N.Q5
 Q9:M.Q9=N.Q9
 x6:M.x6=N.x6
 eI:N.j9.2.getD 0 0=(b:Int)/\2<=b
 Q1:∀ x∈M.Q1,x<(b:Int)
 J8:∀ x∈M.J8.map (·.1),x<(b:Int)
section
variable {α β:Type} {N:dZ} {b c:Nat}
end
section
variable {N:dZ} {b c k v:Nat} {D:dI} {M M':dZ}
def fS.cF{D':dI}{t:Int}{L:fR}{P:List Int}(h:fS D M k v t L P)(E:∀x∈P,dH D' M' x=dH D M x)(e:dX M' t=dX M t):fS D' M' k v t L P:=by rcases h with ⟨G,I,J⟩|⟨h,n,p,R,u,U⟩;exact .inl ⟨e.trans G,I,J⟩;exact .inr ⟨h,n,p,R,e.trans u,U.cF E⟩
def fS.low{t:Int}{P:List Int}(h:fS D M k v t L P):(dX M t).2.2.toNat<=L.length/\0<=(dX M t).2.2:=by
 rcases h with ⟨u,I,J⟩|⟨h,n,p,R,E,G⟩;rw[u];exact⟨yX _,Int.le_refl _⟩
 have:=G.counts.1
 rw[E];exact⟨by dsimp only at this⊢;omega,by dsimp only;omega⟩
end
end
section
def kv (t:Int):Nat×Nat:=((rG t).1.toNat,(rG t).2.toNat)
def wQ{t:Nat}(u:t<8):rG t=(((kv t).1:Int),((kv t).2:Int))/\gZ (kv t).1 (kv t).2/\1<=(kv t).1/\(kv t).1<=24/\1<=(kv t).2/\(kv t).2<=108:=by obtain⟨k,v,e,h⟩:=qzB (t:=t) ⟨oJ,oJ⟩;have:kv t=(k,v):=(by unfold kv;rw[e];rfl);rw[this];exact⟨e,h⟩
abbrev ka:=Nat->fR×List Int
def oT (F:ka) (t:Nat) (x:fR×List Int):ka:=fun u=>if u=t then x else F u
def AZ(F:ka)(t:Nat)(x:fR×List Int):oT F t x t=x:=if_pos rfl
def As{F:ka}{t u:Nat}{x:fR×List Int}(h:u≠t):oT F t x u=F u:=if_neg h
structure zg (D:dI) (M:dZ) (F:ka):Prop where
 J2:∀ t:Nat,t<8->fS D M (kv t).1 (kv t).2 t (F t).1 (F t).2
 nodup:∀ t:Nat,t<8->(F t).2.Nodup
 J3:∀ t u:Nat,t<8->u<8->t≠u->∀ x∈(F t).2,x∉(F u).2
 use:∀ x,dT M x->∃ t:Nat,t<8/\x∈(F t).2
section
variable {D D':dI} {M M':dZ} {F W:ka} {b q t:Nat}
def fS.J4{k v:Nat}{t:Int}{L:fR}{P:List Int}(u:M.Q3=false)(h:fS D M k v t L P):∀x∈P,dT M x:=by rcases h with ⟨_,_,rfl⟩|⟨h,n,p,_,_,E⟩;exact fun x G=>nomatch G;exact E.J4 u
def zg.next{L':fR}{P':List Int}(h:zg D M F)(ho:M.Q3=false)(V:t<8)(hT:fS D M' (kv t).1 (kv t).2 t L' P')(J:nu D M M' t (F t).2 P'):zg D M' (oT F t (L',P')):=by have R:∀u:Nat,u<8->u≠t->∀x∈(F u).2,dT M x/\x∉(F t).2:=fun u I G x E=>⟨(h.J2 u I).J4 ho x E,h.J3 u t I V G x E⟩;have hp:∀u:Nat,u<8->u≠t->∀x∈(F u).2,x∉P':=fun u I G x E=>(J.step.rest x (R u I G x E).1 (R u I G x E).2).2.2;refine⟨fun u I=>?_,fun u I=>?_,fun u z I hz G x E=>?_,fun x E=>?_⟩;by_cases e:u=t;subst e;rw[AZ];exact hT;rw[As e];exact (h.J2 u I).cF (fun x E=>(J.step.rest x (R u I e x E).1 (R u I e x E).2).1) (J.others u oJ);by_cases e:u=t;subst e;rw[AZ];exact J.step.nodup;rw[As e];exact h.nodup u I;by_cases e:u=t;subst e;rw[AZ] at E;rw[As G.symm];exact fun hm=>hp z hz G.symm x hm E;rw[As e] at E;by_cases e2:z=t;subst e2;rw[AZ];exact hp u I e x E;rw[As e2];exact h.J3 u z I hz G x E;rcases J.step.use x E with U|⟨U,h2⟩;exact⟨t,V,by rw[AZ];exact U⟩;obtain⟨u,I,E⟩:=h.use x U;exact⟨u,I,by rw[As fun e=>h2 (by rw[<- e];exact E)];exact E⟩
def Calm.next{t:Int}{P P':List Int}(h:Calm D M b q)(u:nu D M M' t P P'):Calm D M' b q:=
 ⟨h.quiet,h.Q7,h.size,by have:=u.step.j9;rw[<- h.blocks,<- this],h.b8,u.wf,u.step.y0 h.Q9,u.step.Q3,u.len,by rw[show M'.j9=M.j9 from u.step.j9];exact h.seq,by rw[show M'.x6=M.x6 from u.step.x6];exact h.x6⟩
def Cc (t:Int) (M:dZ):dZ:=iq M.j9 M.Q5 M.Q9 t false M.Q9
structure Wo (D:dI) (M:dZ) (b q:Nat) (F W:ka):Prop where
 J1:Calm D M b q
 J0:zg D M F
 was:zg D (Cc 0 M) W
 opens:ph D M.j9 M.Q5 M.Q9
 Q8:M.j9.2.length=27
 b4:8<=b/\b<=300
end
end
section
section
variable {D:dI} {M:dZ} {k v:Nat} {frm:Key}
abbrev kx:=dL×Int
noncomputable def iB (D:dI) (k v:Nat) (M:dZ) (pick:dL->Int):Nat->Int->Option (List kx)
 | 0,p=>none
 | f+1,p=>if (dJ D M k v p).2≠0 then none
  else if (dJ D M k v p).1.Q4 then some [((dJ D M k v p).1,pick (dJ D M k v p).1)]
  else (iB D k v M pick f ((dJ D M k v p).1.J9.getD (pick (dJ D M k v p).1).toNat 0)).map (((dJ D M k v p).1,pick (dJ D M k v p).1)::·)
def mc (D:dI) (M:dZ) (k v:Nat) (frm:Key):Nat->List kx->fR->Prop
 | 0,G,T=>∃(u:fR) (i:Nat),G=[(ef u,(i:Int))]/\i<=u.length/\fg u/\T=u.drop i
 | h+1,G,T=>∃(E:List gM) (i:Nat) (I:List kx) (T1:fR),G=(dM E,(i:Int))::I/\i<E.length/\(∀e∈E.drop (i+1),Has D M k v h e.2/\∀x∈e.2.y4,¬fE x.1 frm)/\mc D M k v frm h I T1/\T=T1++(E.drop (i+1)).flatMap (·.2.y4)
def jN (n:dL) (frm:Key):Int:=if n.Q4 then dN n.J6 frm else eh n.J6 frm
noncomputable def mS (frm:Key) (L:fR):fR:=L.filter fun x=>decide (¬fE x.1 frm)
def EY(h:∀x∈L,¬fE x.1 frm):mS frm L=L:=filter_eq_self.2 fun x u=>yA (h x u)
def qnl(h:∀x∈L,fE x.1 frm):mS frm L=[]:=filter_eq_nil_iff.2 fun x u=>by simpa using h x u
def Gx{A B:fR}:mS frm (A++B)=mS frm A++mS frm B:=xC ..
def qoE{a b:Key}(h:lP b a):¬fE a b:=h
def Ga:∀ {h:Nat} {s:ie},Has D M k v h s->∃fs,iB D k v M (fun n=>jN n frm) (h+1) s.x5=some fs/\mc D M k v frm h fs (mS frm s.y4)
 | 0,s,hs=>by
  obtain⟨h1,h2,h3,h4⟩:=hs;have hl:dJ D M k v s.x5=(ef s.y4,0):=h3.load h4;have ae:fg s.y4:=h3.right.2.2.1;have af:=FP (dP s.y4) frm;rw[zK] at af;have ag:=yz (k:=frm) ae;unfold iB;rw[hl,if_neg (fun h=>h rfl),if_pos (show (ef s.y4).Q4=true from rfl)];refine⟨_,rfl,s.y4,dN (dP s.y4) frm,?_,af,ae,?_⟩;show [(ef s.y4,jN (ef s.y4) frm)]=_;rw[jN,if_pos (show (ef s.y4).Q4=true from rfl)];rfl
  ·conv=>lhs;rw[<- xE (dN (dP s.y4) frm) s.y4]
   rw[Gx,qnl ag.1,xI,EY fun x I=>qoE (ag.2 x I)]
 | h+1,⟨p,n,L,P⟩,⟨u,h0,h1,h2,h3,h4,h5,h6,h7⟩=>by
  dsimp only at h1 h2 h3 h5;subst h1 h2 h3;have hl:dJ D M k v p=(dM u,0):=h4.load h5;obtain⟨A,e,B,G,hA,an,ah,U⟩:=uO (key:=frm) h0 h6;have V:(dM u).J9.getD (eh (dM u).J6 frm) 0=e.2.x5:=U;have aa:eh (dM u).J6 frm=A.length:=hA.symm;have ao:e∈u:=(by rw[G];simp);obtain⟨ap,_⟩:=h7 e ao;have R:=h6;rw[G] at R;have E:=R.mid;obtain⟨fs,e1,e2⟩:=Ga ap;have ai:jN (dM u) frm=(A.length:Int):=by rw[jN,if_neg (show ¬(dM u).Q4=true from fun e=>nomatch e),aa]
  unfold iB;rw[hl,if_neg (fun h=>h rfl),if_neg (show ¬(dM u).Q4=true from fun e=>nomatch e)];show ∃fs,Option.map (((dM u),jN (dM u) frm)::·) (iB D k v M (fun n=>jN n frm) (h+1) ((dM u).J9.getD (jN (dM u) frm).toNat 0))=some fs/\_;rw[ai,zJ,<- aa,V,e1,aa];have J:u.drop (A.length+1)=B:=(by rw[G];simp);refine⟨_,rfl,u,A.length,fs,_,rfl,by rw[G];simp,fun b hb=>?_,e2,?_⟩;rw[J] at hb;exact⟨(h7 b (by rw[G];simp[hb])).1,fun x I g=>(E.2 b hb).2.2 x I (pw g (ah b hb))⟩
  ·rw[J];show mS frm (u.flatMap (·.2.y4))=_;conv=>lhs;rw[G]
   rw[yQ,yH,Gx,Gx,qnl fun x I=>?_,xI,EY (L:=B.flatMap _) fun x I=>?_];obtain⟨b,hb,I⟩:=yK.1 I;exact fun g=>(E.2 b hb).2.2 x I (pw g (ah b hb));obtain⟨a,ha,I⟩:=yK.1 I;exact rq (E.1 a ha x I) an
end
end
section
section
variable {D:dI} {M:dZ} {k v:Nat} {frm:Key}
noncomputable def iu (D:dI) (k v:Nat) (M:dZ) (pick:dL->Int) (step:Int->Int):Nat->List kx->Option (List kx)
 | 0,_=>none
 | _+1,[]=>none
 | h+1,(n,i)::E=>match iu D k v M pick step h E with
  | some u=>some ((n,i)::u)
  | none=>if 0<=step i/\step i<n.J9.length then (iB D k v M pick (h+1) (n.J9.getD (step i).toNat 0)).map ((n,step i)::·) else none
def kb:Nat->List kx->Prop
 | 0,E=>∃u:fR,E=[(ef u,(u.length:Int))]
 | _+1,[]=>False
 | h+1,_::G=>kb h G
def qtQ:∀ {h:Nat} {I:List kx} {T:fR},mc D M k v frm h I T->kb h I->(iu D k v M (fun n=>jN n frm) (fun i=>i+1) h I=none/\T=[])\/∃J,iu D k v M (fun n=>jN n frm) (fun i=>i+1) h I=some J/\mc D M k v frm h J T
 | 0,I,T,⟨V,i,e,hi,hs,R⟩,⟨U,e'⟩=>by rw[e] at e';have e1:=(vB (vC e').1);have e2:dP V=dP U:=congrArg dL.J6 e1.1;have e3:=congrArg List.length e2;rw[zK,zK] at e3;have e4:=Int.ofNat.inj e1.2;exact .inl ⟨rfl,by rw[R];exact vE oJ⟩
 | h+1,I,T,⟨G,i,up,T1,e,hi,hd,hu,R⟩,u=>by
  subst e;have u:kb h up:=u;rcases qtQ hu u with ⟨h1,rfl⟩|⟨ac,h1,h2⟩;have ad:(dM G).J9.length=G.length:=(by show (G.map (·.2.x5)).length=_;rw[zK]);have ej:((i:Int)+1).toNat=i+1:=oJ;unfold iu;rw[h1];dsimp only;rw[ad,ej];by_cases hlt:i+1<G.length;rw[if_pos ⟨oJ,oJ⟩];have ae:(dM G).J9.getD (i+1) 0=G[i+1].2.x5:=by show (G.map (·.2.x5)).getD _ 0=_;rw[yR,zQ,zA hlt];rfl
  have E:G.drop (i+1)=G[i+1]::G.drop (i+2):=zY hlt;obtain⟨q1,q2⟩:=hd G[i+1] (by rw[E];exact mem_cons_self ..);obtain⟨af,p1,p2⟩:=Ga (frm:=frm) q1;rw[EY q2] at p2;rw[ae,p1];refine .inr ⟨_,rfl,G,i+1,af,_,rfl,hlt,fun e he=>hd e (by rw[E];exact zN _ he),p2,?_⟩;rw[R,xI,E,yH];rw[iN];exact .inl ⟨rfl,by rw[R,vE oJ];rfl⟩;unfold iu;rw[h1];exact .inr ⟨_,rfl,G,i,ac,T1,rfl,hi,hd,h2,R⟩
end
end
section
section
variable {D:dI} {M:dZ} {k v:Nat} {to:Key}
def ir (n:dL) (to:Key):Int:=if n.Q4 then (eh n.J6 to:Int)-1 else eh n.J6 to
def ml (D:dI) (M:dZ) (k v:Nat) (to:Key):Nat->List kx->fR->Prop
 | 0,G,T=>∃(u:fR) (i:Nat),G=[(ef u,(i:Int)-1)]/\i<=u.length/\fg u/\T=(u.take i).reverse
 | h+1,G,T=>∃(E:List gM) (i:Nat) (I:List kx) (T1:fR),G=(dM E,(i:Int))::I/\i<E.length/\(∀e∈E.take i,Has D M k v h e.2/\∀x∈e.2.y4,¬fE to x.1)/\ml D M k v to h I T1/\T=T1++((E.take i).flatMap (·.2.y4)).reverse
noncomputable def ul (to:Key) (L:fR):fR:=L.filter fun x=>decide (¬fE to x.1)
def EA(h:∀x∈L,¬fE to x.1):ul to L=L:=filter_eq_self.2 fun x u=>yA (h x u)
def qsm(h:∀x∈L,fE to x.1):ul to L=[]:=filter_eq_nil_iff.2 fun x u=>by simpa using h x u
def DR{A B:fR}:ul to (A++B)=ul to A++ul to B:=xC ..
def qpC{l:fR}{k:Key}(u:fg l):(∀x∈l.take (eh (dP l) k),lP x.1 k)/\∀x∈l.drop (eh (dP l) k),fE k x.1:=by refine⟨fun x h=>qnu (l:=dP l) ?_,fun x h=>qlG (l:=dP l) u ?_⟩;rw[<- xP];exact zZ h;rw[<- xQ];exact zZ h
def Ez:∀ {h:Nat} {s:ie},Has D M k v h s->∃fs,iB D k v M (fun n=>ir n to) (h+1) s.x5=some fs/\ml D M k v to h fs (ul to s.y4).reverse
 | 0,s,hs=>by
  obtain⟨h1,h2,h3,h4⟩:=hs;have hl:dJ D M k v s.x5=(ef s.y4,0):=h3.load h4;have af:fg s.y4:=h3.right.2.2.1;have ag:=Ak (dP s.y4) to;rw[zK] at ag;have ah:=qpC (k:=to) af;unfold iB;rw[hl,if_neg (fun h=>h rfl),if_pos (show (ef s.y4).Q4=true from rfl)];refine⟨_,rfl,s.y4,eh (dP s.y4) to,?_,ag,af,?_⟩;show [(ef s.y4,ir (ef s.y4) to)]=_;rw[ir,if_pos (show (ef s.y4).Q4=true from rfl)];rfl
  ·congr 1;conv=>lhs;rw[<- xE (eh (dP s.y4) to) s.y4]
   rw[DR,qsm ah.2,xH,EA fun x G=>ah.1 x G]
 | h+1,⟨p,n,L,P⟩,⟨u,h0,h1,h2,h3,h4,h5,h6,h7⟩=>by
  dsimp only at h1 h2 h3 h5;subst h1 h2 h3;have hl:dJ D M k v p=(dM u,0):=h4.load h5;obtain⟨A,e,B,E,hA,an,ao,V⟩:=uO (key:=to) h0 h6;have aa:(dM u).J9.getD (eh (dM u).J6 to) 0=e.2.x5:=V;have ab:eh (dM u).J6 to=A.length:=hA.symm;have ap:e∈u:=(by rw[E];simp);obtain⟨aq,_⟩:=h7 e ap;have R:=h6;rw[E] at R;have I:=R.mid;obtain⟨fs,e1,e2⟩:=Ez aq;have ai:ir (dM u) to=(A.length:Int):=by rw[ir,if_neg (show ¬(dM u).Q4=true from fun e=>nomatch e),ab]
  unfold iB;rw[hl,if_neg (fun h=>h rfl),if_neg (show ¬(dM u).Q4=true from fun e=>nomatch e)];show ∃fs,Option.map (((dM u),ir (dM u) to)::·) (iB D k v M (fun n=>ir n to) (h+1) ((dM u).J9.getD (ir (dM u) to).toNat 0))=some fs/\_;rw[ai,zJ,<- ab,aa,e1,ab];have J:u.take A.length=A:=(by rw[E];simp);have U:∀a∈A,∀x∈a.2.y4,¬fE to x.1:=fun a ha x G g=>an (pw g (I.1 a ha x G));refine⟨_,rfl,u,A.length,fs,_,rfl,by rw[E];simp,fun b hb=>?_,e2,?_⟩;rw[J] at hb;exact⟨(h7 b (by rw[E];simp[hb])).1,U b hb⟩
  ·rw[J];show (ul to (u.flatMap (·.2.y4))).reverse=_;conv=>lhs;rw[E]
   rw[yQ,yH,DR,DR,qsm (L:=B.flatMap _) fun x G=>?_,xH,EA (L:=A.flatMap _) fun x G=>?_,reverse_append];obtain⟨a,ha,G⟩:=yK.1 G;exact U a ha x G;obtain⟨b,hb,G⟩:=yK.1 G;exact rq (ao b hb) ((I.2 b hb).2.2 x G)
end
end
section
section
variable {D:dI} {M:dZ} {k v:Nat} {to:Key}
def ki:Nat->List kx->Prop
 | 0,E=>∃u:fR,E=[(ef u,-1)]
 | _+1,[]=>False
 | h+1,_::G=>ki h G
def qpK:∀ {h:Nat} {J:List kx} {T:fR},ml D M k v to h J T->ki h J->(iu D k v M (fun n=>ir n to) (fun i=>i-1) h J=none/\T=[])\/∃R,iu D k v M (fun n=>ir n to) (fun i=>i-1) h J=some R/\ml D M k v to h R T
 | 0,J,T,⟨ak,i,e,hi,hs,U⟩,⟨ah,e'⟩=>by rw[e] at e';have e1:=(vB (vC e').1);have e4:(i:Int)-1=-1:=e1.2;have e5:i=0:=oJ;subst e5;exact .inl ⟨rfl,by rw[U];rfl⟩
 | h+1,J,T,⟨G,i,up,T1,e,hi,V,hu,U⟩,u=>by
  subst e;have u:ki h up:=u;rcases qpK hu u with ⟨h1,rfl⟩|⟨ab,h1,h2⟩;have ac:(dM G).J9.length=G.length:=(by show (G.map (·.2.x5)).length=_;rw[zK]);unfold iu;rw[h1];dsimp only;rw[ac];cases i with
  | zero=>
   rw[iN];exact .inl ⟨rfl,by rw[U];rfl⟩
  | succ i=>
   have ej:(((i+1:Nat):Int)-1).toNat=i:=oJ;have ad:((i+1:Nat):Int)-1=(i:Int):=oJ;have I:i<G.length:=oJ;rw[ej,if_pos ⟨oJ,oJ⟩,ad];have ae:(dM G).J9.getD i 0=G[i].2.x5:=(by show (G.map (·.2.x5)).getD _ 0=_;rw[yR,zQ,zA I];rfl);have E:G.take (i+1)=G.take i++[G[i]]:=yG I;obtain⟨q1,q2⟩:=V G[i] (by rw[E];exact zI _ (mem_cons_self ..));obtain⟨af,p1,p2⟩:=Ez (to:=to) q1;rw[EA q2] at p2;rw[ae,p1];refine .inr ⟨_,rfl,G,i,af,_,rfl,I,fun e he=>V e (by rw[E];exact zH _ he),p2,?_⟩;rw[U,xI,E,yQ,reverse_append,yH,flatMap_nil,xH]
  unfold iu;rw[h1];exact .inr ⟨_,rfl,G,i,ab,T1,rfl,hi,V,h2,U⟩
end
end
section
section
variable {D:dI} {M:dZ} {k v:Nat} {frm to:Key}
def qtZ:∀ {h:Nat} {E:List kx} {T:fR},mc D M k v frm h E T->kb h E\/∃(u:fR) (i:Nat) (lo:List kx) (hi:i<u.length) (T':fR),E=lo++[(ef u,(i:Int))]/\T=u[i]::T'/\mc D M k v frm h (lo++[(ef u,(i:Int)+1)]) T'
 | 0,E,T,⟨u,i,e,hi,J,G⟩=>by by_cases hlt:i<u.length;exact .inr ⟨u,i,[],hlt,u.drop (i+1),e,by rw[G,zY hlt],u,i+1,rfl,hlt,J,rfl⟩;have:i=u.length:=oJ;subst this;exact .inl ⟨u,e⟩
 | h+1,E,T,⟨I,i,up,T1,e,hi,R,U,G⟩=>by subst e;rcases qtZ U with V|⟨u,j,lo,hj,T',e1,e2,e3⟩;exact .inl V;refine .inr ⟨u,j,(dM I,(i:Int))::lo,hj,T'++(I.drop (i+1)).flatMap (·.2.y4),by rw[e1];rfl,by rw[G,e2];rfl,I,i,_,T',rfl,hi,R,e3,rfl⟩
def qqc:∀ {h:Nat} {E:List kx} {T:fR},ml D M k v to h E T->ki h E\/∃(u:fR) (i:Nat) (lo:List kx) (hi:i<u.length) (T':fR),E=lo++[(ef u,(i:Int))]/\T=u[i]::T'/\ml D M k v to h (lo++[(ef u,(i:Int)-1)]) T'
 | 0,E,T,⟨u,i,e,hi,R,I⟩=>by
  cases i with
  | zero=>exact .inl ⟨u,e⟩
  | succ i=>
   have G:i<u.length:=oJ;have e0:((i+1:Nat):Int)-1=(i:Int):=oJ;rw[e0] at e;exact .inr ⟨u,i,[],G,(u.take i).reverse,e,by rw[I,yG G,reverse_append];rfl,u,i,rfl,oJ,R,rfl⟩
 | h+1,E,T,⟨J,i,up,T1,e,hi,U,V,I⟩=>by subst e;rcases qqc V with h1|⟨u,j,lo,hj,T',e1,e2,e3⟩;exact .inl h1;refine .inr ⟨u,j,(dM J,(i:Int))::lo,hj,T'++((J.take i).flatMap (·.2.y4)).reverse,by rw[e1];rfl,by rw[I,e2];rfl,J,i,_,T',rfl,hi,U,e3,rfl⟩
end
end
section
section
variable {D:dI} {M:dZ} {k v:Nat} {frm to:Key}
def qrp:∀ {h:Nat} {s:ie} {U:List kx},Has D M k v h s->(∀x∈s.y4,¬fE x.1 frm)->iB D k v M (fun n=>jN n frm) (h+1) s.x5=some U->¬kb h U
 | 0,s,U,hs,u,E=>by have ae:=hs.ne;obtain⟨h1,h2,V,h4⟩:=hs;have hl:dJ D M k v s.x5=(ef s.y4,0):=V.load h4;have aj:=yz (k:=frm) V.right.2.2.1;unfold iB at E;rw[hl,if_neg (fun h=>h rfl),if_pos (show (ef s.y4).Q4=true from rfl)] at E;have E:=yO E;rintro⟨I,e⟩;rw[<- E] at e;have e1:=(vB (vC e).1);have e2:dP s.y4=dP I:=congrArg dL.J6 e1.1;have e3:=congrArg List.length e2;rw[zK,zK] at e3;have e4:jN (ef s.y4) frm=(I.length:Int):=e1.2;rw[jN,if_pos (show (ef s.y4).Q4=true from rfl)] at e4;have e5:dN (dP s.y4) frm=I.length:=Int.ofNat.inj e4;obtain⟨x,r,hx⟩:=exists_cons_of_ne_nil ae;refine u x (by rw[hx];exact mem_cons_self ..) (aj.1 x ?_);rw[e5,zS oJ,hx];exact mem_cons_self ..
 | h+1,⟨p,n,L,P⟩,U,⟨G,h0,h1,h2,V,h4,h5,h6,h7⟩,u,E=>by
  dsimp only at h1 h2 V h5 u E;subst h1 h2 V;have hl:dJ D M k v p=(dM G,0):=h4.load h5;obtain⟨A,e,B,ak,hA,az,aA,J⟩:=uO (key:=frm) h0 h6;have R:(dM G).J9.getD (eh (dM G).J6 frm) 0=e.2.x5:=J;have aa:eh (dM G).J6 frm=A.length:=hA.symm;have ab:e∈G:=(by rw[ak];simp);obtain⟨al,_⟩:=h7 e ab;have ac:jN (dM G) frm=(A.length:Int):=by rw[jN,if_neg (show ¬(dM G).Q4=true from fun e=>nomatch e),aa]
  unfold iB at E;rw[hl,if_neg (fun h=>h rfl),if_neg (show ¬(dM G).Q4=true from fun e=>nomatch e)] at E;have E:Option.map (((dM G),jN (dM G) frm)::·) (iB D k v M (fun n=>jN n frm) (h+1) ((dM G).J9.getD (jN (dM G) frm).toNat 0))=some U:=E;rw[ac,zJ,<- aa,R] at E;obtain⟨am,e1,rfl⟩:=yT.1 E;show ¬kb h am;exact qrp al (fun x hx=>u x (yK.2 ⟨e,ab,hx⟩)) e1
end
end
section
section
variable {D:dI} {M:dZ} {k v:Nat} {frm to:Key}
def qnk:∀ {h:Nat} {s:ie} {R:List kx},Has D M k v h s->(∀x∈s.y4,¬fE to x.1)->iB D k v M (fun n=>ir n to) (h+1) s.x5=some R->¬ki h R
 | 0,s,R,hs,u,E=>by
  have ad:=hs.ne;obtain⟨h1,h2,U,h4⟩:=hs;have hl:dJ D M k v s.x5=(ef s.y4,0):=U.load h4;have ai:=qpC (k:=to) U.right.2.2.1;unfold iB at E;rw[hl,if_neg (fun h=>h rfl),if_pos (show (ef s.y4).Q4=true from rfl)] at E;have E:=yO E;rintro⟨ap,e⟩;rw[<- E] at e;have e1:=(vB (vC e).1);have e4:ir (ef s.y4) to=-1:=e1.2;rw[ir,if_pos (show (ef s.y4).Q4=true from rfl)] at e4;have e5:eh (dP s.y4) to=0:=by have e6:((eh (dP s.y4) to:Nat):Int)-1=-1:=e4;omega
  obtain⟨x,r,hx⟩:=exists_cons_of_ne_nil ad;refine u x (by rw[hx];exact mem_cons_self ..) (ai.2 x ?_);rw[e5,xF,hx];exact mem_cons_self ..
 | h+1,⟨p,n,L,P⟩,R,⟨G,h0,h1,h2,U,h4,h5,h6,h7⟩,u,E=>by
  dsimp only at h1 h2 U h5 u E;subst h1 h2 U;have hl:dJ D M k v p=(dM G,0):=h4.load h5;obtain⟨A,e,B,aj,hA,ax,ay,I⟩:=uO (key:=to) h0 h6;have J:(dM G).J9.getD (eh (dM G).J6 to) 0=e.2.x5:=I;have V:eh (dM G).J6 to=A.length:=hA.symm;have aa:e∈G:=(by rw[aj];simp);obtain⟨ak,_⟩:=h7 e aa;have ab:ir (dM G) to=(A.length:Int):=by rw[ir,if_neg (show ¬(dM G).Q4=true from fun e=>nomatch e),V]
  unfold iB at E;rw[hl,if_neg (fun h=>h rfl),if_neg (show ¬(dM G).Q4=true from fun e=>nomatch e)] at E;have E:Option.map (((dM G),ir (dM G) to)::·) (iB D k v M (fun n=>ir n to) (h+1) ((dM G).J9.getD (ir (dM G) to).toNat 0))=some R:=E;rw[ab,zJ,<- V,J] at E;obtain⟨al,e1,rfl⟩:=yT.1 E;show ¬ki h al;exact qnk ak (fun x hx=>u x (yK.2 ⟨e,aa,hx⟩)) e1
end
end
section
section
variable {D:dI} {M:dZ} {k v:Nat} {frm to:Key} {pick:dL->Int} {step:Int->Int}
def qi5:∀ {h:Nat} {U J:List kx} {T:fR},mc D M k v frm h U T->kb h U->iu D k v M (fun n=>jN n frm) (fun i=>i+1) h U=some J->¬kb h J
 | 0,_,_,_,_,_,h=>nomatch h
 | h+1,U,J,T,⟨E,i,up,T1,e,hi,hd,hu,hT⟩,u,G=>by
  subst e;have u:kb h up:=u;unfold iu at G;cases e1:iu D k v M (fun n=>jN n frm) (fun i=>i+1) h up with
  | some V=>
   rw[e1] at G;cases G;show ¬kb h V;exact qi5 hu u e1
  | none=>
   rw[e1] at G;dsimp only at G;split at G;rename_i I;have aa:(dM E).J9.length=E.length:=(by show (E.map (·.2.x5)).length=_;rw[zK]);have ej:((i:Int)+1).toNat=i+1:=oJ;rw[aa] at I;rw[ej] at G;have I:i+1<E.length:=oJ;have ab:(dM E).J9.getD (i+1) 0=E[i+1].2.x5:=by show (E.map (·.2.x5)).getD _ 0=_;rw[yR,zQ,zA I];rfl
   have R:E.drop (i+1)=E[i+1]::E.drop (i+2):=zY I;obtain⟨q1,q2⟩:=hd E[i+1] (by rw[R];exact mem_cons_self ..);obtain⟨ac,e2,rfl⟩:=yT.1 G;show ¬kb h ac;exact qrp q1 q2 (by rw[<- ab];exact e2);cases G
def qgF:∀ {h:Nat} {U I:List kx} {T:fR},ml D M k v to h U T->ki h U->iu D k v M (fun n=>ir n to) (fun i=>i-1) h U=some I->¬ki h I
 | 0,_,_,_,_,_,h=>nomatch h
 | h+1,U,I,T,⟨G,i,up,T1,e,hi,hd,hu,hT⟩,u,E=>by
  subst e;have u:ki h up:=u;unfold iu at E;cases e1:iu D k v M (fun n=>ir n to) (fun i=>i-1) h up with
  | some V=>
   rw[e1] at E;cases E;show ¬ki h V;exact qgF hu u e1
  | none=>
   rw[e1] at E;dsimp only at E;split at E;rename_i J;obtain⟨i,rfl⟩:∃j,i=j+1:=⟨i-1,oJ⟩;have ej:(((i+1:Nat):Int)-1).toNat=i:=oJ;rw[ej] at E;have J:i<G.length:=oJ;have aa:(dM G).J9.getD i 0=G[i].2.x5:=by show (G.map (·.2.x5)).getD _ 0=_;rw[yR,zQ,zA J];rfl
   have R:G.take (i+1)=G.take i++[G[i]]:=yG J;obtain⟨q1,q2⟩:=hd G[i] (by rw[R];exact zI _ (mem_cons_self ..));obtain⟨ab,e2,rfl⟩:=yT.1 E;show ¬ki h ab;exact qnk q1 q2 (by rw[<- aa];exact e2);cases E
def Path (D:dI) (M:dZ) (k v:Nat) (step:Int->Int):Nat->List kx->Prop
 | 0,G=>∃(u:fR) (i:Int),G=[(ef u,i)]/\-1<=i/\i<=u.length
 | h+1,G=>∃(E:List gM) (i:Int) (I:List kx),G=(dM E,i)::I/\0<=i/\i<E.length/\(∀j:Nat,step i=j->∀J:j<E.length,Has D M k v h E[j].2)/\Path D M k v step h I
def mc.path:∀ {h:Nat} {u:List kx} {T:fR},mc D M k v frm h u T->Path D M k v (fun i=>i+1) h u
 | 0,u,T,⟨G,i,e,I,hs,J⟩=>⟨G,i,e,oJ,oJ⟩
 | h+1,u,T,⟨R,i,U,T1,e,I,V,hu,J⟩=>⟨R,i,U,e,oJ,oJ,fun j E hj=>by have E:(i:Int)+1=j:=E;have E:j=i+1:=oJ;subst E;exact (V _ (by rw[zY hj];exact mem_cons_self ..)).1,hu.path⟩
def ml.path:∀ {h:Nat} {u:List kx} {T:fR},ml D M k v to h u T->Path D M k v (fun i=>i-1) h u
 | 0,u,T,⟨G,i,e,I,hs,J⟩=>⟨G,_,e,oJ,oJ⟩
 | h+1,u,T,⟨R,i,U,T1,e,I,V,hu,J⟩=>⟨R,i,U,e,oJ,oJ,fun j E hj=>by have E:(i:Int)-1=j:=E;have E:i=j+1:=oJ;subst E;exact (V _ (by rw[yG hj];exact zI _ (mem_cons_self ..))).1,hu.path⟩
def Path.len:∀ {h:Nat} {u:List kx},Path D M k v step h u->u.length=h+1
 | 0,_,⟨_,_,e,_⟩=>by rw[e];rfl
 | h+1,_,⟨_,_,G,e,_,_,_,E⟩=>by rw[e,yI,E.len]
def Path.drop:∀ {pre rest:List kx} {h:Nat},Path D M k v step (pre.length+h) (pre++rest)->Path D M k v step h rest
 | [],_,_,h=>by rw[xK,xS] at h;exact h
 | x::pre,rest,n,h=>by have e:(x::pre).length+n=(pre.length+n)+1:=(by rw[yI];omega);rw[e] at h;obtain⟨E,i,G,e1,_,_,_,u⟩:=h;rw[(vC e1).2.symm] at u;exact u.drop
noncomputable def tK (D:dI) (k v:Nat) (M:dZ) (pick:dL->Int) (step:Int->Int) (h:Nat) (x:kx):Option (List kx):=
 if 0<=step x.2/\step x.2<x.1.J9.length then (iB D k v M pick (h+1) (x.1.J9.getD (step x.2).toNat 0)).map ((x.1,step x.2)::·) else none
def qu0{h:Nat}{x:kx}{u:List kx}(e:iu D k v M pick step h u=none):iu D k v M pick step (h+1) (x::u)=tK D k v M pick step h x:=by obtain⟨n,i⟩:=x;unfold iu;rw[e];rfl
def qpJ:∀ {pre rest r:List kx} {h:Nat},iu D k v M pick step h rest=some r->iu D k v M pick step (pre.length+h) (pre++rest)=some (pre++r)
 | [],rest,r,h,e=>by rw[xK,xS];exact e
 | (n,i)::pre,rest,r,h,e=>by have e1:((n,i)::pre).length+h=(pre.length+h)+1:=(by rw[yI];omega);rw[e1,xJ];unfold iu;rw[qpJ (pre:=pre) e];rfl
def qxQ{h:Nat}{s:ie}(hs:Has D M k v (h+1) s):∃u:List gM,dJ D M k v s.x5=(dM u,0)/\∃hj:eh (dM u).J6 key<u.length,(dM u).J9.getD (eh (dM u).J6 key) 0=u[eh (dM u).J6 key].2.x5/\Has D M k v h u[eh (dM u).J6 key].2:=by obtain⟨p,n,L,P⟩:=s;obtain⟨u,h0,R,U,V,h4,h5,h6,h7⟩:=hs;dsimp only at R U V h5;subst R U V;refine⟨u,h4.load h5,?_⟩;obtain⟨A,e,B,G,hA,ah,ai,I⟩:=uO (key:=key) h0 h6;have J:eh (dM u).J6 key=A.length:=hA.symm;have E:eh (dM u).J6 key<u.length:=(by rw[J,G];simp);refine⟨E,?_,(h7 _ (zX E)).1⟩;show (u.map (·.2.x5)).getD _ 0=_;rw[yR,zQ,zA E];rfl
end
end
end
section
open Go Go.Pt List
open Go.IntKind (wrap)
open Classical
variable {K:Option Addr×Option Addr->WP}
def qwz{w:World}{n:Nat}(Y:List Nat)(J:∀b∈Y,b<w.heap.size)(hY:HG∉Y)(hv:Hv w)(h8:8<=n)(h4:n<=4096)(hk:∀dbk pb FD F D w',TW dbk pb FD D 5000 w' Y F (kc n)->Made D n->Fr [] w w'->(∀b∈FD++F,w.heap.size<=b)->K (pW dbk,pW pb) w'): cW 62 [.i n] dy w K:=by
 refine qho<|qyC (fun h=>oJ) fun _ _ dbk FD w1 d1 f1 n1=>?_;rw[zJ] at d1;obtain⟨D',e1,q1,s1,ad,o1,z1⟩:=qro (quZ n) (qwE n) h8 h4;have R:=hv.q7 f1;have hg:HG∉FD:=fun hm=>by have:=n1 _ hm;have:=hv.lt;omega
 have au:(m8 n).Q6.length=n:=(by simp[m8]);refine hU (fun b w'=>b=false/\∃F',DS dbk w1 FD w' F' D' (0+5000)) ?_ ?_;refine cond_false rfl (cond_false rfl ?_);refine qug d1 (lK.new h4) oM oJ R hg fun w' F' d'=>?_;rw[e1] at d'⊢;exact⟨rfl,F',d'⟩;rintro b w2 ⟨rfl,F2,E⟩;refine cond_false rfl ?_;have G:∀b∈F2,w.heap.size<=b:=fun b u=>by rcases E.nw b u with h|h;exact n1 b h;exact zL f1.size h
 have U:=o1.open;have I:=(E.hv R hg).1;have V:w.heap.size<=w2.heap.size:=zL f1.size E.fr.size;refine qvB (F2++HG::Y) (fun b u=>?_) E.at_ E.lim.ok I (fun h=>by rw[U] at h;cases h) fun pb F M w3 hM hp f3 n3=>?_;rcases zD.1 u with u|u;exact E.at_.lt b u;rcases zG.1 u with rfl|u;exact I.lt;exact yD (J b u) V;rw[U] at hM;cases hM;refine cond_false rfl<|hk dbk pb F2 F D' w3 ⟨E.at_.q7 f3,E.lim,hp,I.q7 f3,qzj h8 h4,fun b u=>⟨fun hm=>?_,fun e=>hY (e▸u)⟩⟩ ⟨q1,s1,ad,o1,e1,z1⟩ ((f1.j8 E.fr fun b u=>.inr (n1 b u)).j8 f3 oL) fun b u=>?_
 have:=G b hm
 have:=J b u
 omega;rcases zD.1 u with u|u;exact G b u;exact zL V (n3 b u)
def AN (x:Key×Key):List Value:=[.string (Cb x.1),.string (Cb x.2)]
def eP.none{α:Type}{enc:α->List Value}{k:Nat}{w:World}{b:Nat}{T:TypeId}(h:w.heap[b]?=some (.cells #[] T (0,0))):eP enc k w ⟨pW b,0,0⟩ [] [b]:=
 .inr ⟨b,0,#[],T,rfl,rfl,rfl,h,rfl,zM _,oL,oL⟩
end
section
open Go Go.Pt List
open Go.IntKind (wrap)
open Classical
end
section
open Go Go.Pt List
open Go.IntKind (wrap)
open Classical
structure HiI (k v c:Nat) (t:Int) (w0 w:World) (s:Sl) (m:Nat) (dbk pb:Nat) (FD:List Nat) (D:dI) (F:List Nat) (M:dZ) (P:List Int) (L:fR) (B:List Nat):Prop where
 tw:TW dbk pb FD D 5000 w [] F M
 Ho:xn D M k v c t L P
 ug:eP AN 2 w s L B
 len:L.length<=m
 fr:Fr [] w0 w
 new:∀ b∈FD++F,w0.heap.size<=b
 J3:∀ b∈B,b∉F
section
variable {k v c:Nat} {t:Int} {w0 w:World} {s:Sl} {m:Nat} {dbk pb:Nat} {FD F B:List Nat} {D:dI} {M:dZ} {P:List Int} {L:fR}
end
end
section
open Go Go.Pt List
open Go.IntKind (wrap)
open Classical
end
section
open Go Go.Pt List
open Go.IntKind (wrap)
open Classical
variable {B S:List Nat} {K:Sl->WP} {L l:List Int} {T:TypeId} {ids:List jg} {m:Nat} {n:Int} {s:Sl} {w:World} {x:jg}
def DA:∀ {k i:Nat} {n:Int},i<k->(bw k n)[i]?=some (n / 256^(k-1-i)%256)
 | k+1,i,n,h=>by rw[bw];by_cases hi:i<k;rw[yZ (by rw[lp];exact hi),DA hi,Int.ediv_ediv_of_nonneg oM,show k+1-1-i=(k-1-i)+1 by omega,Int.pow_succ,Int.mul_comm];have:i=k:=oJ;subst this;rw[yY (by rw[lp];exact zM _),lp,Nat.sub_self,show i+1-1-i=0 by omega,Int.pow_zero,Int.ediv_one];rfl
def Eg{i:Nat}(h:8*i<=m):wrap .u8 (Int.fdiv n (2^min (8*i) m))=n / 256^i%256:=by rw[Ax,xR h,Int.fdiv_eq_ediv_of_nonneg _ (Int.le_of_lt (Int.pow_pos oM)),Int.pow_mul];rfl
def qmY{j:Nat}{x:Int}:dS (fT l) j [.b x]=fT (l.set j x):=by rw[dS,dS];apply Array.ext';rw[Array.toList_setIfInBounds];show (fT _).toList.set _ _=(fT _).toList;unfold fT;simp only[toList_toArray];rw[<- map_set]
def kE (w w':World) (s:Sl) (l:List Int):Prop:=eE (List.range w.heap.size) w' s l
section
variable {w w1 w2 w':World} {s:Sl} {l:List Int} {S:List Nat}
def kE.q7(h:kE w w' s l)(f:Fr [] w' w2):kE w w2 s l:=ed.q7 h f
def kE.to(h:kE w w' s l)(u:∀b∈S,b<w.heap.size):eE S w' s l:=ed.j6 h fun b E=>.inl (mem_range.2 (u b E))
def kE.up(h:kE w1 w' s l)(f:w.heap.size<=w1.heap.size):kE w w' s l:=h.to fun b u=>yD (mem_range.1 u) f
def kE.rd(h:kE w w' s l):eE [] w' s l:=h.to fun _ h=>nomatch h
def CG{b o n cap:Nat}{u:Nat×Nat}(J:w.heap.size<=b)(E:w'.heap[b]?=some (.cells (fT L) T u))(G:o+n<=L.length)(I:n<=cap)(e:(L.drop o).take n=l):kE w w' ⟨some (dh b o),n,cap⟩ l:=by rw[<- e];exact vX E G I fun h=>by have:=mem_range.1 h;omega
def uz(h:fV w' s l B)(u:∀b∈B,w.heap.size<=b):kE w w' s l:=h.jw lr fun b E h=>by have:=mem_range.1 h;have:=u b E;omega
def CA{b o n:Nat}{a:Sl}{ys:List Int}(h:eE [] w ⟨some (dh b o),n,n⟩ l)(hr:eE [] w a ys)(hy:0<ys.length)(hl:l.length+ys.length<=1000000)(kk:∀s' B w',fV w' s' (l++ys) B->Fr [] w w'->(∀b∈B,w.heap.size<=b)->K s' w'): Pt.run di ((Builtin.append_ #[101,101] 101 #[.slice (some (dh b o)) n n,a.v]).run Tryz.prog w) K:=by
 obtain⟨i,hi,hz,G,I⟩:=vq;have J:=hr.1;have E:n=l.length:=h.1;have hc:=h.cells lr rfl;refine qtj (m:=a.len) (e:=5) (olds:=l.map (Value.int .u8)) (news:=ys.map (Value.int .u8)) oK hi hz G rfl (by rw[zK,E]) (fun j u hj=>?_) ?_ oJ (by rw[I];omega) oJ fun b' cs c w' eb R f U V ht=>?_;rw[<- rx] at hj;exact hc j u hj
 have:=uk (P:=Tryz.prog) (tx:=101) (e':=5) hr lr (fun x u hu=>by rw[zE.1 hu];rfl) oK
 rw[rx] at this;exact this;refine kk _ [b'] w' (eP.one (e:=Value.int .u8) (fun _=>rfl) R (by rw[zF];omega) U V ?_) f fun b R=>by rw[zE.1 R,eb];exact zM _
 rw[zF,<- E,<- J,ht,xN]
end
def qzN{K:Int×Int->WP}(u:∀w',Fr [] w w'->K (0,n) w'):cW 98 [.int .u64 n] [.agg dg] w K:=by exact qvu<|oB (oE [] w) fun r w1 e1 E h=>h.sz 0 rfl #[.int .u64 0,.int .u64 n] fun w2 h _=>oC h 0 rfl (0,n) rfl<|u w2 h.fr
def EW{a0 E:Int}(U:∀r w',kE w w' ⟨pW r,16,16⟩ (jf (a0,E))->Fr [] w w'->w'.heap[r]?=some (.cells (fT (jf (a0,E))) 5 (0,0))->w.heap.size<=r->K ⟨pW r,16,16⟩ w'): cW 97 [df a0 E] di w K:=by
 refine qqA<|oB (oE [] w) fun V w1 e1 f1 h=>dQ.mkN h rfl oM oM oM oM fun r w2 e2 h=>?_;have J:w.heap.size<=r:=(by have:=f1.size;omega);refine je (fun x w'=>∃j:Nat,∃l:List Int,x=j/\j<=8/\l.length=16/\dQ [] w w' [(r,.cells (fT l) 5 (0,0)),(V,.cells #[.int .u64 a0,.int .u64 E] 39 (0,0))]/\∀i<j,l[i]?=(bw 8 a0)[i]?/\l[8+i]?=(bw 8 E)[i]?) (fun x _=>8-x.toNat) ⟨0,zs 16,rfl,oM,rfl,h,fun i h=>oJ⟩ ?_;rintro x w3 ⟨j,l,rfl,hj,hl,h,G⟩ X hX;apply cD<;>intro I;have u:j<8:=oJ;have e1:wrap .i64 (56-wrap .i64 (8*(j:Int)))=((8*(7-j):Nat):Int):=by rw[gq (8*(j:Int)) oJ,gq _ oJ];omega
 rw[e1,gq (8+(j:Int)) oJ,gq ((j:Int)+1) oJ,zJ];refine oA h 1 rfl a0 rfl (pD oJ (uR oJ oJ ?_));rw[Eg (n:=a0) (i:=7-j) (m:=64) oJ];refine h.st' 0 rfl _ qmY rfl (by rw[Ap];simp;omega) fun w4 h _=>oA h 1 rfl E rfl (pD oJ (uR oJ oJ ?_));rw[Eg (n:=E) (i:=7-j) (m:=64) oJ];refine h.st' 0 rfl _ qmY rfl (by rw[Ap];simp;omega) fun w5 h _=>hX _ _ ⟨j+1,_,rfl,u,by simpa using hl,h,fun i ae=>?_⟩ oJ;rw[show (0+(j:Int).toNat*1)=j by omega,show (0+(8+(j:Int)).toNat*1)=8+j by omega];by_cases e:i=j;subst e;rw[DA u,DA u,show 8-1-i=7-i by omega];exact⟨by rw[List.getElem?_set_ne oJ,List.getElem?_set_self oJ],by rw[List.getElem?_set_self (by rw[xG];omega)]⟩
 have:=G i oJ
 exact⟨by rw[List.getElem?_set_ne oJ,List.getElem?_set_ne oJ];exact this.1,by rw[List.getElem?_set_ne oJ,List.getElem?_set_ne oJ];exact this.2⟩;have u:j=8:=oJ;subst u;have e:l=jf (a0,E):=by
  apply ext_getElem?;intro i;unfold jf;by_cases h8:i<8;rw[yZ (by rw[lp];exact h8)];exact (G i h8).1;rw[yY (by rw[lp];omega),lp];by_cases h16:i<16
  have:=(G (i-8) oJ).2
  rwa[show 8+(i-8)=i by omega] at this;rw[yS oJ,yS (by rw[lp];omega)]
 subst e;have R:=h.at (i:=0) rfl;exact U r w3 (CG J R (by rw[mu];decide) oM (by rw[xF];exact zS (by rw[mu];decide))) h.fr R J
def ze{a0 u:Int}(G:∀r w',kE w w' ⟨pW r,16,16⟩ (jf (a0,u))->Fr [] w w'->K ⟨pW r,16,16⟩ w'): cW 55 [df a0 u] di w K:=by exact qwr<|oB (oE [] w) fun R w1 e1 E h=>oC h 0 rfl (a0,u) rfl<|EW fun r w2 I J _ _=>G r w2 (I.up E.size) (E.trans J)
def AM(u:∀r w',kE w w' ⟨some (dh r 8),8,8⟩ (bw 8 n)->Fr [] w w'->K ⟨some (dh r 8),8,8⟩ w'): cW 51 [.int .u64 n] di w K:=by refine qrB<|qzN fun w1 h=>EW fun r w2 J E G I=>CY oM oM oM oM<|u r w2 (CG (zL h.size I) G (by rw[mu];decide) oM ?_) (h.trans E);rw[jf,drop_left' (lp _ _)];exact zS (by rw[lp];decide)
def tq{a0 u:Int}(G:∀s w',kE w w' s (gg (a0,u) n)->Fr [] w w'->K s w'): cW 38 [df a0 u,.int .u64 n] di w K:=by refine qsS<|oB (oE [] w) fun r1 w1 e1 f1 h=>oC h 0 rfl (a0,u) rfl<|qox<|oB h fun r2 w2 e2 f2 h=>oC h 0 rfl (a0,u) rfl<|sV (lb:=[]) rfl oK (ze fun r3 w3 I J=>?_);refine sV (lb:=[]) rfl oK (AM fun r4 w4 R E=>?_);refine CA (I.q7 E).rd R.rd (by rw[lp];decide) (by rw[lp,mu];decide) fun s B U V f5 n5=>?_;have f:=h.fr.trans (J.trans E);exact G s U (uz V fun b hb=>zL f.size (n5 b hb)) (f.trans f5)
def qtc{m:Int}(u:∀s w',kE w w' s (kM n m)->Fr [] w w'->K s w'): cW 35 [.int .u64 n,.int .u64 m] di w K:=by refine quT<|qow<|sV (lb:=[]) rfl oK (AM fun r3 w3 E G=>?_);refine sV (lb:=[]) rfl oK (AM fun r4 w4 I h=>?_);refine CA (E.q7 h).rd I.rd (by rw[lp];decide) (by rw[lp,lp];decide) fun s B J R U V=>?_;have f:=G.trans h;exact u s J (uz R fun b hb=>zL f.size (V b hb)) (f.trans U)
def Hd{j:Nat}(h:eH l)(u:j<l.length)(J:j<8):bits .or .u64 (wrap .u64 (oX (l.take j)*2^8)) (wrap .u64 l[j])=oX (l.take (j+1)):=by
 have R:=h l[j] (zX u);have U:=DP (l:=l.take j) fun y E=>h y (yV E);have G:(256:Int)^(l.take j).length<=256^7:=by
  have:((256^(l.take j).length:Nat):Int)<=((256^7:Nat):Int):=by
   have:=Nat.pow_le_pow_right (n:=256) oM (show (l.take j).length<=7 by rw[yL];omega)
   omega
  simpa using this
 have I:(256:Int)^7=72057594037927936:=oM;rw[I] at G;rw[yG u,qq1,xa l[j] oJ,xa _ oJ];rw[qpP 8 oJ oJ oJ oJ oJ];omega
def quf{K:Int->WP}(h:eE S w s l)(R:eH l)(hl:l.length<=8)(U:K (oX l) w):cW 85 [s.v] dx w K:=by refine qql ?_;have I:=h.1;refine je (fun x w'=>w'=w/\∃i:Nat,x.2=i/\i<=l.length/\x.1=oX (l.take i)) (fun x _=>((l.length:Int)-x.2).toNat) ⟨rfl,0,rfl,oJ,rfl⟩ ?_;rintro⟨r,ii⟩ w' ⟨rfl,i,E,hi,J⟩ X V;simp only at E J;subst E J;apply cD<;>intro G;have u:i<l.length:=oJ;refine eE.at h i rfl (zA u) ?_;rw[gq _ oJ,Hd R u oJ];exact V _ _ ⟨rfl,i+1,oL,oJ,rfl⟩ oN;have u:i=l.length:=oJ;subst u;rw[xZ];exact U
section
abbrev v9:TypeId:=39
abbrev mT:jg->List Value:=fun x=>[.int .u64 x.1,.int .u64 x.2]
def ym(x:jg):(mT x).length=2:=rfl
def qe{x:Int}(h:IntKind.u64.has x):lg x:=by have u:(0:Int)<=x/\x<=18446744073709551615:=h;exact⟨u.1,oJ⟩
def Es{b:Sl}{k:Nat}{E:Sl->WP}(h:fV w b l B)(hm:8*k<=m+8)(hl:l.length<=1000)(h8:k<=8)(kk:∀s B' w',fV w' s (l++bw k n) B'->Fr B w w'->(∀b∈B',b∈B\/w.heap.size<=b)->E s w'): loop (Sl×Int) (fun X t w3=>cond (decide (t.2>=0)) (gU (0<=wrap .i64 (8*t.2))<|Pt.new (.cells #[.b (wrap .u8 (Int.fdiv n (2^min (Int.toNat (wrap .i64 (8*t.2))) m)))] 5) w3 fun r w5=>Pt.run di ((Builtin.append_ #[101,101] 101 #[t.1.v,.slice (pW r) 1 1]).run Tryz.prog w5) fun s w7=>X (s,wrap .i64 (t.2-1)) w7) (E t.1 w3)) (b,wrap .i64 (k-1)) w:=by
 refine je (fun t w'=>∃j:Nat,∃B',t.2=(k:Int)-1-j/\j<=k/\fV w' t.1 (l++(bw k n).take j) B'/\Fr B w w'/\∀b∈B',b∈B\/w.heap.size<=b) (fun t _=>(t.2+1).toNat) ⟨0,B,by dsimp only;rw[gq _ oJ];omega,yX _,by rw[take_zero,xH];exact h,.refl _ _,fun _ h=>.inl h⟩ ?_;rintro⟨s,x⟩ w1 ⟨j,B1,hx,hj,J,R,U⟩ X hX;dsimp only at hx J⊢;subst hx;apply dV<;>intro I;have I:=zC I;have G:j<k:=oJ;have e1:wrap .i64 (8*((k:Int)-1-j))=((8*(k-1-j):Nat):Int):=(by rw[gq _ oJ];omega);rw[e1,zJ,Eg oJ,gq _ oJ];obtain⟨i,hi,hz,V,aa⟩:=vq;have ae:(l++(bw k n).take j).length<=1008:=(by rw[zF,yL];omega);refine pD oJ (eP.push (e:=5) (x:=n / 256^(k-1-j)%256) J lr (fun u hu=>by rw[zE.1 hu];rfl) oK hi hz V rfl rfl (by rw[aa];omega) oJ fun s2 B2 w2 b2 f2 n2=>?_);refine hX _ _ ⟨j+1,B2,by dsimp only;omega,G,?_,R.j8 f2 U,fun b hb=>(n2 b hb).elim (U b) fun h=>.inr (zL R.size h)⟩ oN
 have:=DA (n:=n) G
 obtain⟨hb,e⟩:=zP.1 this;rw[yG hb,e,<- zV];exact b2;have I:=zB I;have G:j=k:=oJ;subst G;rw[zS (by rw[lp];exact zM _)] at J;exact kk _ B1 _ J R U
section
variable {w:World} {b s:Sl} {l:List Int} {B:List Nat} {n:Int} {K:Sl->WP}
def qzt(h:fV w b l B)(u:l.length<=1000)(E:∀s B' w',fV w' s (l++bw 2 n) B'->Fr B w w'->(∀b∈B',b∈B\/w.heap.size<=b)->K s w'):cW 135 [b.v,.int .u16 n,.i 2] di w K:=
 qoK (Es h (k:=2) oM u oM E)
def qzu(h:fV w b l B)(E:l.length<=1000)(G:∀s B' w',fV w' s (l++bw 4 n) B'->Fr B w w'->(∀b∈B',b∈B\/w.heap.size<=b)->K s w'):cW 133 [b.v,.u n,.i 4] di w K:=
 qoL (Es h (k:=4) oM E oM G)
def qzv(h:fV w b l B)(u:l.length<=1000)(E:∀s B' w',fV w' s (l++bw 8 n) B'->Fr B w w'->(∀b∈B',b∈B\/w.heap.size<=b)->K s w'):cW 134 [b.v,.int .u64 n,.i 8] di w K:=
 qoM (Es h (k:=8) oM u oM E)
def Cf:∀l:List jg,(l.flatMap jf).length=16*l.length
 | []=>rfl
 | x::l=>by rw[yH,zF,mu,Cf l,yI];omega
def qqf{I:Sl->List Int->WP}{t:Sl}(hI:I b l w)(hf:∀s l w w',I s l w->Fr [] w w'->I s l w')(E:ed mT 2 [] w t ids)(hl:ids.length<=5)(R:∀(i:Nat) s l' w1 (a:Sl) x (K:Sl->WP),i<ids.length->ids[i]?=some x->l'=l++(ids.take i).flatMap jf->I s l' w1->ed mT 2 [] w1 t ids->eE [] w1 a (jf x)->(∀U w2,I U (l'++jf x) w2->ed mT 2 [] w2 t ids->K U w2)-> Pt.run di ((Builtin.append_ #[101,101] 101 #[s.v,a.v]).run Tryz.prog w1) K)(kk:∀s w',I s (l++ids.flatMap jf) w'->K s w'):cW 103 [b.v,t.v] di w K:=by refine qnY ?_;have V:=E.1;refine je (fun q w'=>∃i:Nat,q.2=i/\i<=ids.length/\I q.1 (l++(ids.take i).flatMap jf) w'/\ed mT 2 [] w' t ids) (fun q _=>ids.length-q.2.toNat) ⟨0,rfl,yX _,by rw[take_zero,flatMap_nil,xH];exact hI,E⟩ ?_;rintro⟨s,x⟩ w1 ⟨i,hx,hi,J,r1⟩ X hX;dsimp only at hx J⊢;subst hx;apply dV<;>intro G;have G:=zC G;have u:i<ids.length:=oJ;refine ed.rf (x:=ids[i]) (y:=ids[i]) r1 i rfl (zA u) rfl rfl<|oB (oE [] w1) fun r w2 e2 f2 h=>h.sz 0 rfl #[.int .u64 ids[i].1,.int .u64 ids[i].2] fun w3 h _=>oC h 0 rfl (ids[i].1,ids[i].2) rfl<|EW fun r4 w4 h4 f4 _ _=>?_;have f:=h.fr.trans f4;refine R i _ _ _ ⟨pW r4,16,16⟩ ids[i] _ u (zA u) rfl (hf _ _ _ _ J f) (r1.q7 f) h4.rd fun s5 w5 h5 r5=>?_;rw[gq _ oJ];refine hX _ _ ⟨i+1,rfl,u,?_,r5⟩ oN;rw[yG u,yQ,<- zV,flatMap_singleton];exact h5;have G:=zB G;have u:i=ids.length:=oJ;subst u;rw[xZ] at J;exact kk _ _ J
def qys{t:Sl}(u:ed mT 2 [] w t ids)(hl:ids.length<=5)(kk:∀s B' w',fV w' s (ids.flatMap jf) B'->Fr [] w w'->(∀b∈B',w.heap.size<=b)->K s w'): cW 103 [.slice none 0 0,t.v] di w K:=by refine qqf (b:=dG) (l:=[]) (I:=fun s l w'=>∃B',fV w' s l B'/\Fr [] w w'/\∀b∈B',w.heap.size<=b) ⟨[],eP.nil _ _ _,.refl _ _,fun _ h=>nomatch h⟩ (fun s l w1 w2 ⟨B',R,G,J⟩ f=>⟨B',R.q7 f,G.trans f,J⟩) u hl (fun i s l' w1 a x K hi _ U ⟨B1,R,G,J⟩ r1 ha k=>?_) fun s w' ⟨B',b,f,n⟩=>kk s B' w' b f n;have:l'.length<=80:=(by rw[U,xI,Cf,yL];omega);refine zt R ha (by rw[mu];omega) fun s2 B2 w2 b2 f2 n2=>?_;have E:Fr [] w w2:=G.j8 f2 fun b V=>.inr (J b V);exact k s2 w2 ⟨B2,b2,E,fun b V=>(n2 b V).elim (J b) (zL G.size)⟩ (u.q7 E)
end
end
section
abbrev u2:List Cell:=dg
def Bf (w0 w:World) (s:Sl) (l:List Int) (n:Nat):Prop:=l.length=n/\∃B,fV w s l B/\Fr [] w0 w/\∀b∈B,w0.heap.size<=b
section
variable {w0 w w':World} {s b:Sl} {l:List Int} {k:Nat} {n:Int} {K:Sl->WP}
def Bf.fr(h:Bf w0 w s l k):Fr [] w0 w:=h.2.elim fun _ h=>h.2.1
def Bf.len(h:Bf w0 w s l k):s.len=k:=h.1▸h.2.elim fun _ h=>h.1.len
def Bf.down(h:Bf w w' s l k)(f:Fr [] w0 w):Bf w0 w' s l k:=⟨h.1,h.2.elim fun B q=>⟨B,q.1,f.trans q.2.1,fun b u=>zL f.size (q.2.2 b u)⟩⟩
def Bf.new(h:Bf w0 w s l k):kE w0 w s l:=h.2.elim fun _ h=>uz h.1 h.2.2
def Bf.q7(h:Bf w0 w s l k)(f:Fr [] w w'):Bf w0 w' s l k:=h.2.elim fun B q=>⟨h.1,B,q.1.q7 f,q.2.1.trans f,q.2.2⟩
def Bf.of{B':List Nat}{l':List Int}(h:Bf w0 w b l k)(I:fV w b l B)(E:∀x∈B,w0.heap.size<=x)(G:l'.length=m)(b':fV w' s (l++l') B')(f:Fr B w w')(n':∀x∈B',x∈B\/w.heap.size<=x):Bf w0 w' s (l++l') (k+m):=
 ⟨by rw[zF,h.1,G],B',b',h.fr.j8 f fun x u=>.inr (E x u),fun x u=>(n' x u).elim (E x) (zL h.fr.size)⟩
def Bf.uP(h:Bf w0 w b l k)(u:∀s w',Bf w0 w' s (l++bw 2 n) (k+2)->K s w')(E:k<=1000:=by decide):cW 135 [b.v,.int .u16 n,.i 2] di w K:=by obtain⟨B,q,f,G⟩:=h.2;exact qzt q (by rw[h.1];exact E) fun s B' w' b' I n'=>u s w' (h.of q G (lp _ _) b' I n')
def Bf.xj(h:Bf w0 w b l k)(E:∀s w',Bf w0 w' s (l++bw 4 n) (k+4)->K s w')(G:k<=1000:=by decide):cW 133 [b.v,.u n,.i 4] di w K:=by obtain⟨B,q,f,I⟩:=h.2;exact qzu q (by rw[h.1];exact G) fun s B' w' b' J n'=>E s w' (h.of q I (lp _ _) b' J n')
def Bf.tJ(h:Bf w0 w b l k)(u:∀s w',Bf w0 w' s (l++bw 8 n) (k+8)->K s w')(E:k<=1000:=by decide):cW 134 [b.v,.int .u64 n,.i 8] di w K:=by obtain⟨B,q,f,G⟩:=h.2;exact qzv q (by rw[h.1];exact E) fun s B' w' b' I n'=>u s w' (h.of q G (lp _ _) b' I n')
def EL{r:Nat}(u:w.heap[r]?=some (.cells (ids.flatMap mT).toArray T (0,0)))(E:ids.length=m)(G:m<=5)(I:∀s w',Bf w w' s (ids.flatMap jf) (16*m)->K s w'): cW 103 [.slice none 0 0,.slice (pW r) m m] di w K:=by subst E;have J:ed mT 2 [] w ⟨pW r,ids.length,ids.length⟩ ids:=eP.jw ym (eP.fresh ym u rfl (zM _) (by rw[size_toArray,qs ym];exact zM _) (zS (by rw[qs ym];exact zM _))) fun _ _ h=>nomatch h;exact qys J G fun s B w' b f n=>I s w' ⟨Cf _,B,b,f,n⟩
def ed.max{α:Type}{enc:α->List Value}{k n:Nat}{w:World}{s:Sl}{l:List α}{hi:Int}{K:Sl->Prop}(h:ed enc k S w s l)(U:hi=n)(R:n<=l.length)(h0:0<n)(V:∀E,E.len=n->ed enc k S w E (l.take n)->K E):fy s none (some hi) (some hi) k K:=by obtain⟨h1,h2,G⟩:=h;subst U;unfold fy;refine⟨by simp;omega,V _ oL ⟨by simp;omega,oL,.inr ?_⟩⟩;rcases G with G|⟨bl,o,cs,T,fr,ha,I,J,hc⟩;rw[G] at R;simp at R;omega;refine⟨bl,o,cs,T,fr,?_,I,J,fun i x u=>?_⟩;simp only[xW,xV,zJ];rw[if_neg oO,ha];simp[Addr.q9];rw[xB] at u;split at u;exact hc i x u;cases u
end
abbrev lq (x:jg):Prop:=IntKind.u64.has x.1/\IntKind.u64.has x.2
def lq.ok(h:lq x):vW x:=⟨qe h.1,qe h.2⟩
def m7 (a:HL kL):jg:=(a.1,a.2.1)
def qB:HL kL->List Int:=fun (_,_,h,u,E,G,I,J,R,U,t,l,k,f,n)=>jf (h,u)++(jf (E,G)++(jf (I,J)++(jf (R,U)++(bw 8 t++(bw 4 l++(bw 2 k++(bw 2 f++bw 8 n)))))))
def rC (a:HL kL):List Int:=jf (m7 a)++qB a
def qqZ(a:HL kL):(qB a).length=88:=by obtain⟨h,u,E,G,I,J,R,U,V,d1,t,l,k,f,n⟩:=a;simp only[qB,zF,mu,lp]
def qxu(a:HL kL):(rC a).length=104:=by rw[rC,zF,mu,qqZ]
def qvE{a:HL kL}(kk:∀s w',Bf w w' s (rC a) 104->K s w'): cW 99 [.agg (HL.mk kL a).toArray] di w K:=by
 obtain⟨u,E,G,I,J,R,U,V,d0,d1,t,l,k,f,n⟩:=a;refine qiH<|oB (oE [] w) fun r1 w1 e1 f1 h=>oC h 0 rfl (u,E) rfl (oC h 0 rfl (G,I) rfl (oC h 0 rfl (J,R) rfl (oC h 0 rfl (U,V) rfl (oC h 0 rfl (d0,d1) rfl ?_))));refine oB h fun r8 w2 e2 f2 h=>EL (ids:=[(u,E),(G,I),(J,R),(U,V),(d0,d1)]) (h.at (i:=0) rfl) rfl oM fun s3 w3 q=>?_;have h3:=(h.q7 q.fr).drew;refine oA h3 1 rfl t rfl (oA h3 1 rfl l rfl ?_);refine (q.q7 (Fr.refl [] w3).drew).tJ fun s4 w4 q=>ig ((h.q7 q.fr).cell 1 rfl rfl) (q.xj fun s5 w5 q=>?_);have h5:=(h.q7 q.fr).drew;refine oA h5 1 rfl k rfl (oA h5 1 rfl f rfl (oA h5 1 rfl n rfl ?_));refine (q.q7 (Fr.refl [] w5).drew).uP fun s6 w6 q=>jU ((h.q7 q.fr).cell 1 rfl rfl) ((h.q7 q.fr).cell 1 rfl rfl) (q.uP fun s7 w7 q=>?_);refine ig ((h.q7 q.fr).cell 1 rfl rfl) (q.tJ fun s8 w8 q=>?_);have e:[(u,E),(G,I),(J,R),(U,V),(d0,d1)].flatMap jf++bw 8 t++bw 4 l++bw 2 k++bw 2 f++bw 8 n=rC (u,E,G,I,J,R,U,V,d0,d1,t,l,k,f,n):=by simp only[yH,flatMap_nil,rC,m7,qB,zV,xH,xI]
 rw[e] at q;exact kk s8 w8 (q.down (f1.trans f2))
def qub{a:HL kL}{K:Sl×Sl->WP}(I:∀s t w',kE w w' s (jf (m7 a))->kE w w' t (qB a)->Fr [] w w'->K (s,t) w'): cW 52 [.agg (HL.mk kL a).toArray] dq w K:=by refine qhR<|oB (oE [] w) fun V w1 e1 u h=>oC h 0 rfl a rfl<|qvE fun s w2 q=>?_;have hl:=qxu a;have J:=q.len;refine ed.max (n:=16) q.new rfl oJ oM fun R _ E=>ed.part q.new 16 104 rfl (by rw[xW,J]) oM oJ fun U _ G _=>?_;rw[rC,take_left' (mu _)] at E;rw[zS oJ,rC,drop_left' (mu _)] at G;exact I R U _ (kE.up E u.size) (kE.up G u.size) ((u.trans q.fr).drew)
end
def qAH{r:Nat}{t:Sl}{m:List Int}(G:w.heap[r]?=some (.cells #[s.v,t.v] T (0,0)))(I:eE [] w s l)(J:eE [] w t m)(V:l.length+m.length<=1000)(R:∀u w',eE [] w' u (l++m)->Fr [] w w'->K u w'):cW 88 [.slice (pW r) 2 2] di w K:=by have U:js [] w ⟨pW r,2,2⟩ [(s,l),(t,m)]:=⟨eP.jw vr (eP.fresh vr G rfl (zM _) (zM _) rfl) (fun _ _ h=>nomatch h),fun p E=>by rcases zG.1 E with rfl|E;exact I;rw[zE.1 E];exact J⟩;have e:(gf [(s,l),(t,m)]).flatten=l++m:=(by simp[gf]);refine qo2 (s:=⟨pW r,2,2⟩) U (zO rfl) (by rw[e,zF];omega) fun u B w' b f n=>R u w' ?_ f;rw[e] at b;exact b.jw lr fun _ _ h=>nomatch h
def qr (t:HL pq):jg:=(t.1,t.2.1)
def pE:HL pq->List Int:=fun (_,_,h,u,E,G,I,J,R,U,t,o,l,k,f,n)=>jf (h,u)++(jf (E,G)++(jf (I,J)++(jf (R,U)++(bw 8 t++(bw 4 o++(bw 4 l++(bw 2 k++(bw 2 f++bw 8 n))))))))
def qp (a:HL pq):List Int:=jf (qr a)++pE a
def CX(a:HL pq):(pE a).length=92:=by obtain⟨h,u,E,G,I,J,R,U,V,d1,t,o,l,k,f,n⟩:=a;simp only[pE,zF,mu,lp]
def qyo(a:HL pq):(qp a).length=108:=by rw[qp,zF,mu,CX]
def qvG{a:HL pq}(kk:∀s w',Bf w w' s (qp a) 108->K s w'): cW 102 [.agg (HL.mk pq a).toArray] di w K:=by
 obtain⟨u,E,G,I,J,R,U,V,d0,d1,t,o,l,k,f,n⟩:=a;refine qhS<|oB (oE [] w) fun r1 w1 e1 f1 h=>oC h 0 rfl (u,E) rfl (oC h 0 rfl (G,I) rfl (oC h 0 rfl (J,R) rfl (oC h 0 rfl (U,V) rfl (oC h 0 rfl (d0,d1) rfl ?_))));refine oB h fun r8 w2 e2 f2 h=>EL (ids:=[(u,E),(G,I),(J,R),(U,V),(d0,d1)]) (h.at (i:=0) rfl) rfl oM fun s3 w3 q=>?_;have h3:=(h.q7 q.fr).drew;refine oA h3 1 rfl t rfl (oA h3 1 rfl o rfl (oA h3 1 rfl l rfl ?_));refine (q.q7 (Fr.refl [] w3).drew).tJ fun s4 w4 q=>jU ((h.q7 q.fr).cell 1 rfl rfl) ((h.q7 q.fr).cell 1 rfl rfl) (q.xj fun s5 w5 q=>?_);refine ig ((h.q7 q.fr).cell 1 rfl rfl) (q.xj fun s5 w5 q=>?_);have h5:=(h.q7 q.fr).drew;refine oA h5 1 rfl k rfl (oA h5 1 rfl f rfl (oA h5 1 rfl n rfl ?_));refine (q.q7 (Fr.refl [] w5).drew).uP fun s6 w6 q=>jU ((h.q7 q.fr).cell 1 rfl rfl) ((h.q7 q.fr).cell 1 rfl rfl) (q.uP fun s7 w7 q=>?_);refine ig ((h.q7 q.fr).cell 1 rfl rfl) (q.tJ fun s8 w8 q=>?_);have e:[(u,E),(G,I),(J,R),(U,V),(d0,d1)].flatMap jf++bw 8 t++bw 4 o++bw 4 l++bw 2 k++bw 2 f++bw 8 n=qp (u,E,G,I,J,R,U,V,d0,d1,t,o,l,k,f,n):=by simp only[yH,flatMap_nil,qp,qr,pE,zV,xH,xI]
 rw[e] at q;exact kk s8 w8 (q.down (f1.trans f2))
def ed.vg{b n c o cap:Nat}(h:eE S w ⟨pW b,n,c⟩ L)(G:o+m<=L.length)(I:m<=cap)(h0:0<m):eE S w ⟨some (dh b o),m,cap⟩ ((L.drop o).take m):=by
 obtain⟨h1,h2,E⟩:=h;refine⟨by simp;omega,I,.inr ?_⟩;rcases E with E|⟨bl,o',J,T,R,U,V,hS,hx⟩;subst E;simp at G;omega;cases U;refine⟨b,o,J,T,R,rfl,V,hS,fun i x u=>?_⟩;rw[xB] at u;split at u;rw[xA] at u
 have:=hx (o+i) x u
 rw[<- this];congr 2;omega;cases u
def qyP{w0:World}{E n c o:Nat}{cs:Array Value}{ys:List Int}{a:Sl}(U:w.heap[E]?=some (.cells cs T (0,0)))(h0:w0.heap.size<=E)(hn:n=l.length)(hc:n<=c)(V:c<=cs.size)(hl:cs.toList.take l.length=l.map (Value.int .u8))(f0:Fr [] w0 w)(ho:0<o/\o<n)(hr:eE [] w a ys)(hy:l.length+ys.length<=1000)(kk:∀s' w',kE w0 w' s' (l.drop o++ys)->kE w0 w' ⟨pW E,o,o⟩ (l.take o)->Fr [E] w w'->K s' w'): Pt.run di ((Builtin.append_ #[101,101] 101 #[.slice (some (dh E o)) (n-o) (c-o),a.v]).run Tryz.prog w) K:=by
 obtain⟨i,hi,hz,I,af⟩:=vq;subst hn;have ag:=hr.1;have aa:fV w ⟨pW E,l.length,c⟩ l [E]:=eP.one (e:=Value.int .u8) (fun _=>rfl) U rfl hc V hl;have hR:kE w0 w ⟨pW E,l.length,c⟩ l:=uz aa fun b h=>by rw[zE.1 h];exact h0
 have G:=uk (P:=Tryz.prog) (tx:=101) (e':=5) hr lr (fun x u hu=>by rw[zE.1 hu];rfl) oK;rw[rx] at G;have ab:eE [] w ⟨some (dh E o),l.length-o,c-o⟩ (l.drop o):=by
  have:=ed.vg (o:=o) (m:=l.length-o) (cap:=c-o) hR.rd oJ oJ oJ
  rwa[zS oL] at this
 by_cases hroom:l.length+ys.length<=c;have aA:=G.newsLen;have hk:(l.length-o)+a.len<=c-o:=oJ;have e0:o+(l.length-o)*1=l.length:=oJ;refine ux ⟨_,_,_⟩ _ (run_append_room_src w 101 101 101 5 i oK hi E o (l.length-o) (c-o) _ a.len _ (by rw[I];exact G) hk (fun j hj=>?_) (fun j hj=>?_)) ?_;rw[I,e0,jq U];rw[zK] at hj;have:l.length+j<cs.size:=oJ;simp[this];simp[World.frozen?,U];rw[wK U,I,e0];have J:(gW w E (.cells (dS cs l.length (ys.map (Value.int .u8))) T (0,0))).heap[E]?=some (.cells (dS cs l.length (ys.map (Value.int .u8))) T (0,0)):=(by rw[oV _ _ _ _ (eV U),if_pos rfl]);have R:fV _ ⟨pW E,(l++ys).length,c⟩ (l++ys) [E]:=eP.one (e:=Value.int .u8) (fun _=>rfl) J rfl (by rw[zF];exact hroom) (by rw[nf];exact V) (by rw[pR _ _ _ oO,hl,xN,zF,take_append_of_le_length oL];exact zS oL);have ad:kE w0 _ ⟨pW E,(l++ys).length,c⟩ (l++ys):=uz R fun b h=>by rw[zE.1 h];exact h0
 refine kk _ _ ?_ ?_ (tc (eV U) _)
 have:=ed.vg (o:=o) (m:=l.length-o+a.len) (cap:=c-o) ad (by rw[zF];omega) hk oJ
 rwa[drop_append_of_le_length oJ,zS oO] at this
 have:=ed.vg (o:=0) (m:=o) (cap:=o) ad (by rw[zF];omega) (zM _) ho.1
 rwa[xF,take_append_of_le_length oJ] at this;have ah:=ab.cells lr rfl;refine qtj (m:=a.len) (e:=5) (olds:=(l.drop o).map (Value.int .u8)) (news:=ys.map (Value.int .u8)) oK hi hz I rfl oL (fun j u hj=>?_) G oJ (by rw[af];omega) oJ fun b' cs c' w' eb J f ai ae ht=>?_;rw[<- rx] at hj;exact ah j u hj;have aj:fV w' ⟨pW b',l.length-o+a.len,c'⟩ (l.drop o++ys) [b']:=eP.one (e:=Value.int .u8) (fun _=>rfl) J oO ai ae (by rw[zF,yC,<- ag,ht,xN]);refine kk _ w' (uz aj fun b h=>by rw[zE.1 h,eb];exact f0.size) ?_ (f.mono fun _ h _=>nomatch h)
 have:=ed.vg (o:=0) (m:=o) (cap:=o) (hR.q7 f) oJ (zM _) ho.1
 rwa[xF] at this
def Gu{K:jg×Bool->WP}(G:eE [] w s (jf x))(E:vW x)(kk:∀w',Fr [] w w'->K (x,true) w'): cW 42 [s.v] [.agg dg,.one .bool] w K:=by refine qst ?_;have U:=G.1;rw[mu] at U;refine oB (oE [] w) fun r1 w1 e1 f1 h=>cond_false (by rw[U];rfl) (oB h fun r5 w2 e2 f2 h=>?_);have l0:=lp 8 x.1;have l1:=lp 8 x.2;refine je (fun q w'=>∃i:Nat,q=i/\i<=8/\dQ [] w w' [(r5,.cells #[.int .u64 (oX ((bw 8 x.1).take i)),.int .u64 (oX ((bw 8 x.2).take i))] v9 (0,0)),(r1,.cells cx v9 (0,0))]) (fun q _=>8-q.toNat) ⟨0,rfl,oM,h⟩ ?_;rintro q w3 ⟨i,rfl,hi,h⟩ X hX;apply cD<;>intro I;have u:i<8:=oJ;have J:(jf x)[i]?=some ((bw 8 x.1)[i]' oJ):=(by rw[jf,yZ oJ,zA oJ]);have R:(jf x)[8+i]?=some ((bw 8 x.2)[i]' oJ):=(by rw[jf,yY oJ,l0,vD,zA oJ]);rw[gq (8+(i:Int)) oJ,gq ((i:Int)+1) oJ];refine oA h.drew 0 rfl _ rfl (eE.at (G.q7 h.drew.fr) i rfl J ?_);rw[Hd (pH _ _) oJ u];refine h.drew.sz 0 rfl #[.int .u64 (oX ((bw 8 x.1).take (i+1))),.int .u64 (oX ((bw 8 x.2).take i))] fun V h _=>oA h.drew 0 rfl _ rfl (eE.at (G.q7 h.drew.fr) (8+i) oJ R ?_);rw[Hd (pH _ _) oJ u];exact h.drew.sz 0 rfl #[.int .u64 (oX ((bw 8 x.1).take (i+1))),.int .u64 (oX ((bw 8 x.2).take (i+1)))] fun w5 h _=>hX _ _ ⟨i+1,rfl,u,h⟩ oJ;have u:i=8:=oJ;subst u;rw[zS oJ,zS oJ,vI 8 E.1.1 (by rw[p8];exact E.1.2),vI 8 E.2.1 (by rw[p8];exact E.2.2)] at h;refine oC h 0 rfl x rfl (h.st' 1 rfl _ (lZ rfl) rfl (zM _) fun V h _=>?_);exact oC h 1 rfl x rfl (kk V h.fr)
def Gg{K:Int->WP}(h:eE S w s (bw 8 n))(u:lg n)(E:K n w):cW 85 [s.v] dx w K:=
 quf h (pH _ _) (by rw[lp];decide) (by rw[vI 8 u.1 (by rw[p8];exact u.2)];exact E)
def qua{m:Int}{K:Int×Int×Bool->WP}(h:eE [] w s (kM n m))(I:lg n)(J:lg m)(R:K (n,m,true) w.drew): cW 48 [s.v] dB w K:=by refine qqk ?_;have u:=h.1;rw[wy] at u;refine cond_false (by rw[u];rfl) (ed.part h 0 8 rfl rfl oM (by rw[wy];decide) fun U _ E _=>ed.part h 8 16 rfl (by rw[xW,u]) oM (by rw[wy];decide) fun V _ G _=>?_);rw[kM,xF,take_left' (lp _ _)] at E;rw[zS (by rw[wy];decide),kM,drop_left' (lp _ _)] at G;exact Gg E.drew I (Gg G.drew J R)
def qvy{K:jg×Int×Bool->WP}(u:eE [] w s (gg x n))(J:vW x)(R:lg n)(U:∀w',Fr [] w w'->K (x,n,true) w'): cW 41 [s.v] [.agg dg,.one (.int .u64),.one .bool] w K:=by refine qrA ?_;have E:=u.1;rw[vQ] at E;refine oB (oE [] w) fun r1 w1 e1 V h=>cond_false (by rw[E];rfl) (ed.part (u.q7 V) 0 16 rfl rfl oM (by rw[vQ];decide) fun s1 _ G _=>?_);rw[gg,xF,take_left' (mu _)] at G;refine Gu G J fun w2 f2=>oB (h.q7 f2) fun r8 w3 e3 f3 h=>h.sz 0 rfl #[.int .u64 x.1,.int .u64 x.2] fun w4 h _=>oC h.drew 0 rfl x rfl (ed.part (u.q7 h.drew.fr) 16 24 rfl (by rw[xW,E]) oM (by rw[vQ];decide) fun s2 _ I _=>?_);rw[zS (by rw[vQ];decide),gg,drop_left' (mu _)] at I;refine Gg I R (ig (h.drew.cells 0 rfl rfl) ?_);exact h.drew.sz 1 rfl #[.int .u64 x.1,.int .u64 x.2] fun w5 h _=>oC h 1 rfl x rfl (U w5 h.fr)
def qmU{e i0 u:Int}{K:Sl×Sl->WP}(J:∀s t w',kE w w' s (kM e n)->kE w w' t (jf (i0,u))->Fr [] w w'->K (s,t) w'): cW 60 [.agg #[.int .u64 e,.int .u64 n,.int .u64 i0,.int .u64 u]] dq w K:=by refine qla<|oB (oE [] w) fun r1 w1 e1 E h=>oA h.drew 0 rfl e rfl (oA h.drew 0 rfl n rfl (oC h.drew 0 rfl (i0,u) rfl ?_));refine qtc fun s w2 R G=>ig ((h.drew.q7 G).cells 0 rfl rfl) (ze fun r3 U V I=>?_);have f:=E.drew.trans G;exact J s _ U ((R.up E.size).q7 I) (V.up f.size) (f.trans I)
def que{t:Sl}{e:Int}{K:(Int×Int×Int×Int)×Bool->WP}(E:eE [] w s (kM e n))(G:eE [] w t (jf x))(I:lg e)(J:lg n)(R:vW x)(U:∀w',Fr [] w w'->K ((e,n,x.1,x.2),true) w'): cW 36 [s.v,t.v] [.agg [.int .u64,.int .u64,.int .u64,.int .u64],.one .bool] w K:=by refine qlc<|oB (oE [] w) fun r1 w1 e1 u h=>qua (E.q7 u) I J<|Gu (G.q7 u.drew) R fun w2 V=>oB (h.drew.q7 V) fun r7 w3 e3 f3 h=>h.sz 0 rfl #[.int .u64 x.1,.int .u64 x.2] fun w4 h _=>sS false w4 (fun M hM=>cond_false rfl hM) (cond_false rfl ?_);refine oC h 0 rfl x rfl (h.sz 1 rfl #[.int .u64 e,.int .u64 n,.int .u64 x.1,.int .u64 x.2] fun w5 h _=>?_);exact oC h 1 rfl (e,n,x.1,x.2) rfl (U w5 h.fr)
abbrev Fu:TypeId:=79
abbrev Kp:=HL pq×jg
def si (k:Kp):List Value:=HL.mk pq k.1++mT k.2
def uK (k:Kp):List Int:=pE k.1++jf k.2
def uX(k:Kp):(si k).length=18:=rfl
def qtL(k:Kp):(uK k).length=108:=by rw[uK,zF,CX,mu]
def kpZ:Kp:=((0,0,0,0,0,0,0,0,0,0,0,0,0,0,0,0),(0,0))
def qud{k:Kp}{K:Sl×Sl->WP}(kk:∀s t w',kE w w' s (jf (qr k.1))->kE w w' t (uK k)->Fr [] w w'->K (s,t) w'): cW 59 [.agg (si k).toArray] dq w K:=by
 refine qhf<|oB (oE [] w) fun r1 w1 e1 f1 h=>oC h 0 rfl k.1 rfl (qvG fun s w2 q=>?_);have hl:=qyo k.1;obtain⟨B,hb,f2,hB⟩:=q.2;obtain⟨u,cs,T,rfl,ha,J,hn,hc,R,ht⟩:=hb.ptr (by intro h;rw[h] at hl;simp at hl);obtain⟨sa,sn,sc⟩:=s;dsimp only at ha hn hc R;subst ha;have U:w1.heap.size<=u:=hB u (zE.2 rfl);rw[rx] at ht;unfold fy;refine⟨by simp;omega,by simp;omega,?_⟩;simp only[xW,xV];rw[if_neg oO,if_neg oL];simp only[Option.map_some,Addr.q9];have h:=(h.q7 f2).drew;refine oC h 0 rfl k.2 rfl (oB h fun r9 w3 e3 f3 h=>?_);have G:ed mT 2 [u] w3 ⟨pW r9,1,1⟩ [k.2]:=eP.jw ym (eP.fresh ym (h.at (i:=0) rfl) rfl (zM _) (zM _) rfl) fun b hb h=>by have:=zE.1 hb;have:=zE.1 h;have:u<w2.drew.heap.size:=eV J;omega
 have ad:Fr [] w2 w3:=(Fr.refl [] w2).drew.trans f3;have hV:(qp k.1).drop 16=pE k.1:=(by rw[qp,drop_left' (mu _)]);have hI:(qp k.1).take 16=jf (qr k.1):=(by rw[qp,take_left' (mu _)]);have ae:pE k.1≠uK k:=fun e=>by have:=congrArg List.length e;rw[CX,qtL] at this;omega
 refine qqf (b:=⟨some (dh u 16),sn-16,sc-16⟩) (l:=pE k.1) (I:=fun s l' w'=>(s=⟨some (dh u 16),sn-16,sc-16⟩/\l'=pE k.1/\Fr [] w3 w')\/(l'=uK k/\kE w w' s (uK k)/\kE w w' ⟨pW u,16,16⟩ (jf (qr k.1))/\Fr [] w w')) (.inl ⟨rfl,rfl,.refl _ _⟩) (fun s l w' aE q f=>q.elim (fun q=>.inl ⟨q.1,q.2.1,q.2.2.trans f⟩) fun q=>.inr ⟨q.1,q.2.1.q7 f,q.2.2.1.q7 f,q.2.2.2.trans f⟩) (G.j6 fun _ h=>nomatch h) (zO rfl) (fun i s l' w4 a x K' hi hx E q r4 ra k'=>?_) fun s w4 q=>?_;have ah:i=0:=(by simp at hi;exact hi);subst ah;cases hx;rcases q with ⟨rfl,E,V⟩|⟨e,_⟩;have ai:w4.heap[u]?=some (.cells cs T (0,0)):=(by rw[(ad.trans V).block u (eV J) (fun h=>nomatch h)];exact J);refine qyP (w0:=w) (o:=16) ai (zL f1.size U) hn hc R ht (h.fr.trans V) oJ ra (by rw[hl,mu];decide) fun s5 w5 h5 h6 f5=>?_;rw[hV] at h5;rw[hI] at h6;rw[E] at k';exact k' s5 w5 (.inr ⟨rfl,h5,h6,(h.fr.trans V).j8 f5 fun b h=>.inr (by rw[zE.1 h];exact zL f1.size U)⟩) (((G.q7 V).q8 f5 fun b h=>.inl h).j6 fun _ h=>nomatch h);rw[e] at E;exact absurd (oP E.symm) ae;rcases q with ⟨_,e,_⟩|⟨_,q1,q2,q3⟩
 have:=congrArg List.length e
 rw[zF,Cf,CX] at this;simp at this;exact kk _ s w4 q2 q1 q3
def uJ (k:Kp):Prop:=jV pq k.1/\lq k.2
def sM:HL td->List Int:=fun (h,u,E,G,I,J,R,U,n)=>jf (h,u)++(jf (E,G)++(jf (I,J)++jf (R,U)))
def nc (a:HL td):Int:=a.2.2.2.2.2.2.2.2
def rR (a:HL td):List Int:=sM a++bw 8 (nc a)
def DI(a:HL td):(sM a).length=64:=by obtain⟨h,u,E,G,I,J,R,U,n⟩:=a;simp only[sM,zF,mu]
def qxx(a:HL td):(rR a).length=72:=by rw[rR,zF,DI,lp]
def qvF{a:HL td}(kk:∀s w',Bf w w' s (rR a) 72->K s w'): cW 146 [.agg (HL.mk td a).toArray] di w K:=by
 obtain⟨u,E,G,I,J,R,U,V,n⟩:=a;refine qiI<|oB (oE [] w) fun r1 w1 e1 f1 h=>?_;have h:=h.drew;refine oC h 0 rfl (u,E) rfl (oC h 0 rfl (G,I) rfl (oC h 0 rfl (J,R) rfl (oC h 0 rfl (U,V) rfl (oA h 0 rfl n rfl ?_))));refine oB h fun r8 w2 e2 f2 h=>ig (h.cell 1 rfl rfl)<|EL (ids:=[(u,E),(G,I),(J,R),(U,V)]) (h.at (i:=0) rfl) rfl oM fun s3 w3 q=>ig ((h.q7 q.fr).cell 1 rfl rfl) (q.tJ fun s4 w4 q=>?_);have e:[(u,E),(G,I),(J,R),(U,V)].flatMap jf++bw 8 n=rR (u,E,G,I,J,R,U,V,n):=by simp only[yH,flatMap_nil,rR,nc,sM,zV,xH,xI]
 rw[e] at q;exact kk s4 w4 (q.down h.fr)
def rE:HL mz->Int:=fun (_,_,_,_,_,_,_,_,_,s)=>s
def lw:HL mz->HL td:=fun (h,u,E,G,I,J,R,U,n,_)=>(h,u,E,G,I,J,R,U,n)
def sU (r:HL mz):List Int:=rE r::sM (lw r)
def qyi(r:HL mz):(sU r).length=65:=by rw[sU,yI,DI]
def quc{a0 I:Int}{r:HL mz}{K:Sl×Sl->WP}(kk:∀s t w',kE w w' s (gg (a0,I) (nc (lw r)))->kE w w' t (sU r)->Fr [] w w'->K (s,t) w'): cW 111 [df a0 I,.agg (HL.mk mz r).toArray] dq w K:=by
 refine qlb<|oB (oE [] w) fun r1 w1 e1 f1 h=>oB h fun r3 w2 e2 f2 h=>oC h 0 rfl (lw r) rfl (qvF fun s w3 q=>?_);have h:=(h.q7 q.fr).drew;have hq:=(q.new.q7 (Fr.refl [] w3).drew).rd;have hn:(nc (lw r))=r.2.2.2.2.2.2.2.2.1:=rfl;have hx:(rR (lw r)).take 64=sM (lw r):=(by rw[rR,take_left' (DI _)]);have al:=qxx (lw r);have am:=DI (lw r);simp only[Addr.q9];refine⟨?a,?b⟩;case' a=>refine oC h 1 rfl (a0,I) rfl (oA h 0 rfl (nc (lw r)) rfl (oA h 0 rfl (rE r) rfl (ed.part hq 0 64 rfl rfl oM oJ fun s4 _ J _=>tq fun R w5 U u=>?_)))
 case' b=>refine oC h 1 rfl (a0,I) rfl (oA h 0 rfl (nc (lw r)) rfl (oA h 0 rfl (rE r) rfl (ed.part hq 0 64 rfl rfl oM oJ fun s4 _ J _=>?_)))
 all_goals rw[xF,hx] at J
 case a=>
  have h:=h.q7 u;refine ig (h.cell 0 rfl rfl) (oB h fun r6 w6 e6 E h=>jU (h.cell 1 rfl rfl) (h.cells 2 rfl rfl) ?_);exact CA (w:=w6) (l:=[rE r]) (vX (o:=0) (n:=1) (L:=[rE r]) (h.at (i:=0) rfl) (zM _) (zM _) (fun h=>nomatch h)) ((J.q7 u).q7 E) oJ oO fun V B7 w7 b7 G n7=>kk R V w7 ((U.q7 (E.trans G)).up (f1.trans (f2.trans q.fr)).size) (uz b7 fun b hb=>zL h.fr.size (n7 b hb)) (h.fr.trans G)
 case b=>
  refine oB h fun r6 w6 e6 E h=>jU (h.cell 1 rfl rfl) (h.cells 2 rfl rfl) (tq fun R w5 U u=>?_);have h:=h.q7 u;exact ig (h.cell 1 rfl rfl)<|CA (w:=w5) (l:=[rE r]) (vX (o:=0) (n:=1) (L:=[rE r]) (h.at (i:=0) rfl) (zM _) (zM _) (fun h=>nomatch h)) ((J.q7 E).q7 u) oJ oO fun V B7 w7 b7 G n7=>kk R V w7 ((U.q7 G).up ((f1.trans (f2.trans q.fr)).drew.trans E).size) (uz b7 fun b hb=>zL h.fr.size (n7 b hb)) (h.fr.trans G)
def AH:HL mz:=(0,0,0,0,0,0,0,0,0,0)
section
section
variable {k v c:Nat} {t:Int} {w0 w:World} {s:Sl} {m:Nat} {dbk pb:Nat} {FD F B:List Nat} {D:dI} {M:dZ} {P:List Int} {L:fR}
end
def qyk{t:Int}{k v:Nat}(h:AD t)(E:rG t=((k:Int),(v:Int))):4<=(dW k v).1:=by
 obtain⟨G,I⟩:=h;have:t=0\/t=1\/t=2\/t=3\/t=4\/t=5\/t=6\/t=7:=oJ;rcases this with rfl|rfl|rfl|rfl|rfl|rfl|rfl|rfl<;>
  (obtain⟨e1,u⟩:=vB E;have e1:=Int.ofNat.inj e1;have u:=Int.ofNat.inj u;subst e1 u;decide)
end
end
section
open Go Go.Pt List
open Go.IntKind (wrap)
open Classical
end
section
open Go Go.Pt List
open Go.IntKind (wrap)
open Classical
def um (frm to:Key) (x:Key×Key):Bool:=decide (cmpL x.1 frm>=0)&&decide (cmpL x.1 to<=0)
def kU (frm to:Key) (L:fR):fR:=L.filter (um frm to)
end
section
set_option linter.unusedSectionVars false
open Go Go.Pt List
open Go.IntKind (wrap)
section
variable {α:Type} {kf vf:α->Key} {L:fR} {l:List α} {a:α} {k v:Key}
def iK {κ:Type} [DecidableEq κ] (kf:α->κ) (a:α):List α->List α
 | []=>[a]
 | x::r=>if kf x=kf a then a::r else x::iK kf a r
def qrZ{κ:Type}[DecidableEq κ]{kf:α->κ}:∀ {l:List α} {i:Nat} (h:i<l.length),kf l[i]=kf a->(∀(j:Nat) (E:j<i),kf (l[j]' oJ)≠kf a)->iK kf a l=l.set i a
 | x::r,0,h,e,_=>if_pos e
 | x::r,i+1,h,e,u=>by have G:kf x≠kf a:=u 0 oJ;rw[iK,if_neg G,set_cons_succ,qrZ (i:=i) (oP h) e fun j E=>u (j+1) oJ]
def D3{κ:Type}[DecidableEq κ]{kf:α->κ}:∀ {l:List α},(∀x∈l,kf x≠kf a)->iK kf a l=l++[a]
 | [],_=>rfl
 | x::r,h=>by rw[iK,if_neg (h x oL),D3 fun y u=>h y (zN _ u),xJ]
def qr0{κ:Type}[DecidableEq κ]{kf:α->κ}{x:α}:∀ {l:List α},x∈iK kf a l->x=a\/x∈l
 | [],h=>.inl (zE.1 h)
 | y::r,h=>by unfold iK at h;split at h;exact (zG.1 h).imp id fun h=>zN _ h;rcases zG.1 h with h|h;exact .inr (by rw[h];exact mem_cons_self);exact (qr0 h).imp id fun h=>zN _ h
def uL{κ:Type}[DecidableEq κ]{kf:α->κ}:∀ {l:List α},(iK kf a l).length<=l.length+1
 | []=>zM _
 | y::r=>by unfold iK;split;exact Nat.le_succ _;exact Nat.succ_le_succ uL
def qnV{κ:Type}[DecidableEq κ]{kf:α->κ}{kg:α->Key}:∀ {l:List α},(∀x∈l,kf x=kf a↔kg x=kg a)->iK kf a l=iK kg a l
 | [],_=>rfl
 | y::r,h=>by have u:=h y mem_cons_self;have ih:=qnV (l:=r) fun x E=>h x (zN _ E);unfold iK;by_cases e:kf y=kf a;rw[if_pos e,if_pos (u.1 e)];rw[if_neg e,if_neg fun G=>e (u.2 G),ih]
def qpx:∀ {L:fR},k∉dP L->(fM k v L).Perm ((k,v)::L)
 | [],_=>.refl _
 | x::r,h=>by have h:=not_mem_of_not_mem_cons h |> fun u=>And.intro (fun e:k=x.1=>h (by rw[e];simp)) u;unfold fM;split;exact .refl _;rw[if_neg h.1];exact (List.Perm.cons x (qpx h.2)).trans (List.Perm.swap _ _ _)
structure lf (kf vf:α->Key) (L:fR) (l:List α):Prop where
 sort:fg L
 nodup:(l.map kf).Nodup
 perm:L.Perm (l.map fun a=>(kf a,vf a))
def lf.len(h:lf kf vf L l):L.length=l.length:=by rw[h.perm.length_eq,zK]
def lf.J6(h:lf kf vf L l):k∈dP L↔∃x∈l,kf x=k:=by rw[(h.perm.map (·.1)).mem_iff,map_map];simp
def lf.nil:lf kf vf [] []:=⟨.nil,.nil,.refl _⟩
def lf.put(h:lf kf vf L l)(a:α):lf kf vf (fM (kf a) (vf a) L) (iK kf a l):=by
 by_cases hin:∃x∈l,kf x=kf a;obtain⟨x,E,e⟩:=hin;obtain⟨P,Q,rfl⟩:=append_of_mem E;have u:=h.nodup;have J:(kf a,vf x)∈L:=h.perm.mem_iff.2 (mem_map.2 ⟨x,E,by rw[e]⟩);obtain⟨A,B,rfl⟩:=append_of_mem J;have R:=h.sort;unfold fg fL dP at R;rw[xN,xO,pairwise_append] at R;have hA:∀y∈A,fE y.1 (kf a):=fun y G=>R.2.2 _ (zZ G) _ oL;rw[xN,xO,yM,nodup_cons] at u;have hP:iK kf a (P++x::Q)=P++a::Q:=by
  have I:∀y∈P,kf y≠kf a:=fun y G U=>u.2.2 _ (zZ G) _ oL (U.trans e.symm);clear E J h u R;induction P with
  | nil=>exact if_pos e
  | cons y P ih=>rw[xJ,iK,if_neg (I y oL),ih fun z V=>I z (zN _ V),xJ]
 rw[Ef hA,hP];refine⟨by have:=Dg (k:=kf a) (v:=vf a) h.sort;rw[Ef hA] at this;exact this,?_,?_⟩;rw[xN,xO,yM,nodup_cons,<- e];exact u;have hp:=h.perm;rw[xN,xO] at hp;have h1:=(perm_middle.symm.trans hp).trans perm_middle;rw[e] at h1;have h2:=List.Perm.cons_inv h1;rw[xN,xO];exact (perm_middle.trans ((h2.cons _))).trans perm_middle.symm;have hn:∀x∈l,kf x≠kf a:=fun x E e=>hin ⟨x,E,e⟩;have hk:kf a∉dP L:=fun J=>hin (h.J6.1 J);rw[D3 hn];refine⟨Dg h.sort,?_,?_⟩;rw[xN,yM];exact⟨h.nodup,oL,fun x E y G e=>by obtain⟨z,V,rfl⟩:=mem_map.1 E;rw[map_singleton,zE] at G;exact hn z V (e.trans G)⟩;refine (qpx hk).trans ((h.perm.cons _).trans ?_);rw[xN];exact (perm_append_singleton _ _).symm
def lf.cut(h:lf kf vf L l)(k:Key):lf kf vf (gr k L) (l.filter fun x=>decide (kf x≠k)):=by
 refine⟨qpg h.sort,h.nodup.sublist (filter_sublist.map _),?_⟩
 have:=h.perm.filter fun x=>decide (x.1≠k)
 rw[filter_map] at this;exact this
end
structure pi (α κ:Type) where
 key:α->κ
 g:κ->Key
 val:α->Key
 ok:α->Prop
 BZ:κ->Prop
 okk:∀ a,ok a->BZ (key a)
 inj:∀ k k',BZ k->BZ k'->g k=g k'->k=k'
section
variable {α κ:Type} [DecidableEq κ] {K:pi α κ} {L:fR} {l:List α} {a:α} {k:κ}
def mo (K:pi α κ) (L:fR) (l:List α):Prop:=lf (fun a=>K.g (K.key a)) K.val L l/\∀a∈l,K.ok a
def mo.nil:mo K [] []:=⟨.nil,fun _ h=>nomatch h⟩
def mo.len(h:mo K L l):L.length=l.length:=h.1.len
def mo.iff(h:mo K L l)(u:K.BZ k)(E:a∈l):K.key a=k↔K.g (K.key a)=K.g k:=⟨fun e=>by rw[e],K.inj _ _ (K.okk a (h.2 a E)) u⟩
def mo.put(h:mo K L l)(E:K.ok a):mo K (fM (K.g (K.key a)) (K.val a) L) (iK K.key a l):=
 ⟨by rw[qnV (kg:=fun a=>K.g (K.key a)) fun x u=>h.iff (K.okk a E) u];exact h.1.put a,fun x u=>(qr0 u).elim (fun e=>by rw[e];exact E) (h.2 x)⟩
def mo.cut(h:mo K L l)(E:K.BZ k):mo K (gr (K.g k) L) (l.filter fun x=>decide (K.key x≠k)):=
 ⟨by rw[filter_congr (q:=fun x=>decide (K.g (K.key x)≠K.g k)) fun x u=>by rw[decide_eq_decide,ne_eq,ne_eq,h.iff E u]];exact h.1.cut _,fun x u=>h.2 x (mem_filter.1 u).1⟩
def mo.mem(h:mo K L l)(E:∃x∈l,K.key x=k):K.g k∈dP L:=h.1.J6.2 (E.elim fun x u=>⟨x,u.1,by rw[u.2]⟩)
end
end
section
open Go Go.Pt List
open Go.IntKind (wrap)
open Classical
structure BF (D:dI) (M:dZ) (k v b q:Nat) (t:Int) (L:fR) (P:List Int):Prop where
 J1:Calm D M b q
 J2:fS D M k v t L P
 nodup:P.Nodup
 use:∀ x,dT M x->x∈P
 many:b-2<=M.Q9.length+90+eJ b
section
variable {D D':dI} {M M':dZ} {k v b q:Nat} {t:Int} {L L':fR} {P P':List Int}
end
def qwe{D:dI}{n k v:Nat}{t:Int}(I:0<=t/\t<8)(E:8<=n)(J:n<=4096)(G:(kc n).Wf)(u:Made D n):BF D (kc n) k v n 1 t [] []:=by
 have h:=qp9 (D:=D) (k:=k) (v:=v) I E J G;have e:(kc n).j9.2.getD 0 0=n:=(by show wrap .u32 (n:Int)=_;exact nX _ oJ);refine⟨⟨u.quiet,u.Q7,u.size,e,E,G,h.Q9,h.Q3,h.len,⟨(by decide:(0:Int)<=1),(by decide:(1:Int)<=1)⟩,⟨(by decide:(0:Int)<=1),(by decide:(1:Int)<=1)⟩⟩,h.J2,.nil,h.use,?_⟩
 have:=h.many
 have:=qnA (a:=n-2) (b:=n) oJ
 omega
end
section
open Go Go.Pt List
open Go.IntKind (wrap)
open Classical
variable {D:dI}
structure oz (D:dI) (M:dZ) (c:Nat) (Q:Nat×Nat) (Fo:ka):Prop where
 J0:zg D M Fo
 J1:Calm D M Q.1 Q.2
 many:c<=M.Q9.length
def mD (M:dZ):dZ:={ M with Q1:=[],J7:=[],J8:=[],Q2:=[] }
def jr (F:ka):Nat:=(F 0).1.length+(F 1).1.length+(F 2).1.length+(F 3).1.length+(F 4).1.length+(F 5).1.length+(F 6).1.length+(F 7).1.length
def qAm{t:Nat}(h:t<8):t=0\/t=1\/t=2\/t=3\/t=4\/t=5\/t=6\/t=7:=by omega
def yw{F:ka}{t:Nat}(h:t<8):(F t).1.length<=jr F:=by unfold jr;rcases qAm h with rfl|rfl|rfl|rfl|rfl|rfl|rfl|rfl<;>omega
section
variable {D:dI} {M:dZ} {c t:Nat} {Q:Nat×Nat} {F:ka} {key val:Key}
def oz.y5(h:oz D M c Q F):((List.range 8).flatMap fun u=>(F u).2).length<=jr F:=by
 have E:∀u,u<8->(F u).2.length<=(F u).1.length:=fun u G=>(h.J0.J2 u G).cS (qyk ⟨oJ,oJ⟩ (wQ G).1);have e:(List.range 8)=[0,1,2,3,4,5,6,7]:=oM;rw[e];simp only[yH,flatMap_nil,zF,xK];unfold jr
 have:=E 0 oM;have:=E 1 oM;have:=E 2 oM;have:=E 3 oM;have:=E 4 oM;have:=E 5 oM;have:=E 6 oM;have:=E 7 oM
 omega
def oz.use(h:oz D M c Q F):∀x,dT M x->x∈(List.range 8).flatMap fun u=>(F u).2:=fun x E=>by obtain⟨u,G,E⟩:=h.J0.use x E;exact yK.2 ⟨u,mem_range.2 G,E⟩
def oz.Q1(h:oz D M c Q F):c<=M.Q1.length+jr F:=by have E:=h.J1.Q9.length_eq;rw[zF] at E;have I:=h.many;have J:(M.J8.map (·.1)).length<=((List.range 8).flatMap fun u=>(F u).2).length:=List.Nodup.length_le_of_subset h.J1.wf.y9 fun x G=>h.use x (.inl G);have R:=h.y5;omega
def oz.room(h:oz D M c Q F)(u:t<8)(E:3*jr F+1<=c):2*(dX M t).2.2.toNat+1<=M.Q1.length:=by
 have G:=h.Q1;have I:=(h.J0.J2 t u).low
 have:=yw (F:=F) u
 omega
def oz.next{M':dZ}{L':fR}{P':List Int}(h:oz D M c Q F)(E:t<8)(G:fS D M' (kv t).1 (kv t).2 t L' P')(u:nu D M M' t (F t).2 P'):oz D M' c Q (oT F t (L',P')):=
 ⟨h.J0.next h.J1.Q3 E G u,h.J1.next u,by have:M'.Q9=M.Q9:=u.step.Q9;rw[this];exact h.many⟩
def nu.base{M':dZ}{P P':List Int}{t:Int}(h:nu D M M' t P P')(u:M.Q3=false):mD M'=mD M:=by have E:=h.step.Q3;have G:=h.step.j9;have I:=h.step.Q5;have J:=h.step.Q9;have R:=h.step.x6;cases M;cases M';unfold mD;simp_all
def oz.put(h:oz D M c Q F)(u:t<8)(G:3*jr F+1<=c)(I:c<=100000)(J:key.length=(kv t).1/\eH key)(R:val.length=(kv t).2/\eH val): ∃M' P',jC D (kv t).1 (kv t).2 t key val (dX M t).2.2.toNat M=(0,M')/\oz D M' c Q (oT F t (fM key val (F t).1,P'))/\mD M'=mD M:=by
 have:=yw (F:=F) u
 obtain⟨M',P',e,U,E,_⟩:=qwp (wQ u).2.1 ⟨oJ,oJ⟩ J R (h.J0.J2 t u) h.J1.wf h.J1.Q3 h.J1.len (h.J0.nodup t u) oJ (h.room u G);exact⟨M',P',e,h.next u U E,E.base h.J1.Q3⟩
def oz.cut(h:oz D M c Q F)(u:t<8)(G:3*jr F+1<=c)(I:c<=100000)(J:key∈dP (F t).1): ∃M' P',kQ D (kv t).1 (kv t).2 t key (dX M t).2.2.toNat M=(0,M')/\oz D M' c Q (oT F t (gr key (F t).1,P'))/\mD M'=mD M:=by
 have:=yw (F:=F) u
 obtain⟨M',P',e,R,E,_⟩:=qwV (wQ u).2.1 ⟨oJ,oJ⟩ (h.J0.J2 t u) J h.J1.wf h.J1.Q3 h.J1.len (h.J0.nodup t u) oJ (h.room u G);exact⟨M',P',e,h.next u R E,E.base h.J1.Q3⟩
def oz.nM(h:oz D M c Q F)(G:Q.2<=1000000)(U:c+eJ Q.1+jr F+2<=Q.1)(V:eJ Q.1+jr F<=c):∃D' M',gG D M=((D',M'),0)/\oz D' M' c (Q.1,Q.2+1) F:=by have h1:=h.Q1;obtain⟨D',M',e,I,u,E⟩:=qq6 h.J1 G h.use oJ;refine⟨D',M',e,⟨⟨fun t J=>(h.J0.J2 t J).kept h.J1.Q3 u,h.J0.nodup,h.J0.J3,fun x R=>h.J0.use x ((u.use x).1 R)⟩,I,?_⟩⟩;have h3:=h.y5;rcases E with rfl|E;exact h.many;omega
end
def oz.made{n:Nat}(u:8<=n)(E:n<=4096)(G:(kc n).Wf)(U:Made D n):oz D (kc n) ((n-2)-eJ (n-2)) (n,1) (fun _=>([],[])):=by have I:∀t:Nat,t<8->xn D (kc n) (kv t).1 (kv t).2 ((n-2)-eJ (n-2)) t [] []:=fun t J=>qp9 ⟨oJ,oJ⟩ u E G;have R:=I 0 oM;have V:BF D (kc n) (kv 0).1 (kv 0).2 n 1 0 [] []:=qwe ⟨oM,oM⟩ u E G U;exact⟨⟨fun t J=>(I t J).J2,fun _ _=>.nil,fun _ _ _ _ _ _ h=>(nomatch h),fun x h=>nomatch R.use x h⟩,V.J1,Nat.le_of_eq R.many.symm⟩
def TW.up{dbk pb j u:Nat}{FD Y F:List Nat}{w:World}{M:dZ}(h:TW dbk pb FD D j w Y F M)(E:j<=u):TW dbk pb FD D u w Y F M:=⟨h.cP,h.lim.mono E,h.x8,h.hv,h.wf,h.sep⟩
abbrev Ao:TypeId:=100
abbrev pP (r:Nat):Value:=dF r
structure oh (w:World) (Y:List Nat) (sb dbk pb:Nat) (FD F:List Nat) (D:dI) (M:dZ) (c:Nat) (Q:Nat×Nat) (Fo:ka):Prop where
 tw:TW dbk pb FD D (5000*Q.2) w Y F M
 st:oz D M c Q Fo
 cell:w.heap[sb]?=some (.cells #[pP pb] Ao (0,0))
 out:sb∉F
section
variable {w w':World} {Q:Nat×Nat} {sb dbk pb c t:Nat} {Y FD F F':List Nat} {D:dI} {M M':dZ} {Fo Fo':ka} {key val:Key} {ks vs:Sl}
def oh.q7(h:oh w Y sb dbk pb FD F D M c Q Fo)(f:Fr [] w w'):oh w' Y sb dbk pb FD F D M c Q Fo:=⟨h.tw.q7 f,h.st,by rw[f.block sb (eV h.cell) (fun h=>nomatch h)];exact h.cell,h.out⟩
def oh.rr{K:Option Addr->Prop}(h:oh w Y sb dbk pb FD F D M c Q Fo)(u:K (pW pb)):nn (pW sb) fun a=>ld .ptr a w K:=fG (iI h.cell (pW pb) rfl u)
def oh.x6(h:oh w Y sb dbk pb FD F D M c Q Fo)(u:TW dbk pb FD D (5000*Q.2) w' Y F' M')(E:oz D M' c Q Fo')(f:Fr F w w')(n:∀b∈F',b∈F\/w.heap.size<=b):oh w' Y sb dbk pb FD F' D M' c Q Fo':=
 ⟨u,E,by rw[f.block sb (eV h.cell) h.out];exact h.cell,fun G=>(n sb G).elim h.out fun I=>by have:=eV h.cell;omega⟩
def oh.put{K:Int->WP}(h:oh w Y sb dbk pb FD F D M c Q Fo)(u:t<8)(R:3*jr Fo+1<=c)(E:c<=100000)(G:key.length=(kv t).1/\eH key)(I:val.length=(kv t).2/\eH val)(V:eE (Zo FD Y F) w ks key)(rv:eE (Zo FD Y F) w vs val)(kk:∀F' w' M' P',oh w' Y sb dbk pb FD F' D M' c Q (oT Fo t (fM key val (Fo t).1,P'))->mD M'=mD M->Fr F w w'->(∀b∈F',b∈F\/w.heap.size<=b)->K 0 w'): cW 50 [pP pb,.i t,ks.v,vs.v] dj w K:=by
 obtain⟨M',P',e,hS,hB⟩:=h.st.put (key:=key) (val:=val) u R E G I;have hl:=(h.st.J0.J2 t u).low
 have:=yw (F:=Fo) u
 have J:=wQ u;refine qyM (f:=(dX M t).2.2.toNat) G.2 I.2 J.1 oJ G.1 I.1 h.tw V rv ⟨hl.2,oJ⟩ (h.st.room u R) (qsR e) fun F' w' U f n=>?_;rw[e] at U⊢;exact kk F' w' M' P' (h.x6 U hS f n) hB f n
def oh.cut{K:Int->WP}(h:oh w Y sb dbk pb FD F D M c Q Fo)(E:t<8)(J:3*jr Fo+1<=c)(R:c<=100000)(u:key∈dP (Fo t).1)(V:eE (Zo FD Y F) w ks key)(kk:∀F' w' M' P',oh w' Y sb dbk pb FD F' D M' c Q (oT Fo t (gr key (Fo t).1,P'))->mD M'=mD M->Fr F w w'->(∀b∈F',b∈F\/w.heap.size<=b)->K 0 w'): cW 61 [pP pb,.i t,ks.v] dj w K:=by
 obtain⟨M',P',e,hS,hB⟩:=h.st.cut (key:=key) E J R u;have G:=h.st.J0.J2 t E;have hl:=G.low
 have:=yw (F:=Fo) E
 have I:=wQ E;obtain⟨x,hx,rfl⟩:=mem_map.1 u;obtain⟨q1,q2,q3,q4⟩:=G.sort.2 x hx;obtain⟨y,hy⟩:=qwc u;have U:=G.get (key:=x.1) h.st.J1.wf h.st.J1.Q3;rw[hy] at U;refine qyB (f:=(dX M t).2.2.toNat) (f2:=(dX M t).2.2.toNat) q3 I.2.1 I.1 oJ q1 h.tw V ⟨hl.2,oJ⟩ (h.st.room E J) (by rw[U]) (G.Q6 I.2.1 u h.st.J1.wf h.st.J1.Q3 (h.st.J0.nodup t E) (h.st.room E J)) fun F' w' G f n=>?_;rw[e] at G⊢;exact kk F' w' M' P' (h.x6 G hS f n) hB f n
end
section
def qt4{dbk pb j:Nat}{FD Y F:List Nat}{w:World}{M:dZ}{K:Int->WP}(h:TW dbk pb FD D j w Y F M)(hj:j<=900000)(ht:0<=M.x6/\M.x6<=1000000000)(I:HG∉FD)(kk:∀E F' w',TW dbk pb E (gG D M).1.1 (j+5000) w' Y F' (gG D M).1.2->Fr (FD++F) w w'->(∀b∈E++F',b∈FD++F\/w.heap.size<=b)->K (gG D M).2 w'): cW 72 [dF pb] dj w K:=by
 have J:HG∈FD++HG::Y:=oL;have R:HG∉F:=h.x8.sep HG J;refine qsx h.cP h.lim h.x8 (fun b u=>zH _ u) h.wf oJ ht h.hv I fun E F' w' d' l' p' U=>?_;have hn:∀b∈E++F',b∈FD++F\/w.heap.size<=b:=U.2;refine kk E F' w' ⟨d',l',p'.tB fun b u=>?_,h.hv.q8 U.1 (fun V=>(zD.1 V).elim I R),qvQ h.wf,fun b u=>⟨fun V=>?_,(h.sep b u).2⟩⟩ U.1 hn;rcases zD.1 u with u|u;exact zH _ u;refine zI _ (zI _ u);rcases hn b (zH _ V) with G|G;rcases zD.1 G with G|G;exact (h.sep b u).1 G;exact h.yf b u G
 have:=h.qx b u;omega
structure Duo (w0 w:World) (O:List Nat) (da pa:Nat) (Xa Fa:List Nat) (Da:dI) (ja:Nat) (Ma:dZ) (db pb:Nat) (Xb Fb:List Nat) (Db:dI) (jb:Nat) (Mb:dZ):Prop where
 a:TW da pa Xa Da ja w (Xb++(Fb++O)) Fa Ma
 b:TW db pb Xb Db jb w (Xa++(Fa++O)) Fb Mb
 Hl:∀ x∈Xa++Fa,w0.heap.size<=x
 Hm:∀ x∈Xb++Fb,w0.heap.size<=x
 Hk:∀ x∈O,w0.heap.size<=x
 hg:HG<w0.heap.size
 fr:Fr [] w0 w
section
variable {w0 w w':World} {O O':List Nat} {da pa db pb:Nat} {Xa Fa Xb Fb Xa' Fa':List Nat} {Da Db Da':dI} {ja jb ja':Nat} {Ma Mb Ma':dZ}
end
end
end
section
open Go Go.Pt List
open Go.IntKind (wrap)
abbrev Mv:=jg×Int×jg
abbrev Ln:=jg×HL mz
def ot (m:Mv):jg×Int:=(m.1,m.2.1)
def rj (x:Ln):jg×Int:=(x.1,nc (lw x.2))
def k9 (d:HL jd):Int×Int:=(d.1,d.2.1)
def BO (d:HL jd):jg:=(d.2.2.1,d.2.2.2)
def sZ (k:Kp):jg:=qr k.1
def lq.inj{a b:jg}(u:lq a)(E:lq b)(h:jf a=jf b):a=b:=Gv u.ok E.ok h
abbrev uw (p:jg×Int):Prop:=lq p.1/\IntKind.u64.has p.2
def uw.inj{a b:jg×Int}(u:uw a)(E:uw b)(h:gg a.1 a.2=gg b.1 b.2):a=b:=by obtain⟨G,I⟩:=qwG u.1.ok E.1.ok (qe u.2) (qe E.2) h;exact Prod.ext G I
def T64.inj{a b:Int×Int}(u:lq a)(E:lq b)(h:kM a.1 a.2=kM b.1 b.2):a=b:=Gv u.ok E.ok h
def G3:pi (HL kL) jg:=⟨m7,jf,qB,jV kL,lq,fun a h=>⟨h.1,h.2.1⟩,fun _ _=>lq.inj⟩
def GP:pi Kp jg:=⟨sZ,jf,uK,uJ,lq,fun a h=>⟨h.1.1,h.1.2.1⟩,fun _ _=>lq.inj⟩
def GA:pi (jg×Int) jg:=⟨fun x=>x.1,jf,fun x=>[x.2],fun x=>lq x.1/\IntKind.u8.has x.2,lq,fun a h=>h.1,fun _ _=>lq.inj⟩
def tP:pi (HL jd) (Int×Int):=⟨k9,fun p=>kM p.1 p.2,fun d=>jf (BO d),jV jd,lq,fun a h=>⟨h.1,h.2.1⟩,fun _ _=>T64.inj⟩
def rS:pi Mv (jg×Int):=⟨ot,fun p=>gg p.1 p.2,fun m=>jf m.2.2,fun m=>uw (ot m)/\lq m.2.2,uw,fun a h=>h.1,fun _ _=>uw.inj⟩
def AA:pi Ln (jg×Int):=⟨rj,fun p=>gg p.1 p.2,fun x=>sU x.2,fun x=>lq x.1/\jV mz x.2,uw,fun a h=>⟨h.1,h.2.2.2.2.2.2.2.2.2.1⟩,fun _ _=>uw.inj⟩
abbrev Gh:=Nat×dI×dZ
structure Bk where
 acc:List (HL kL)
 lG:List Kp
 k8:List (jg×Int)
 due:List (HL jd)
 mJ:List Mv
 mO:List Mv
 jT:List Ln
 last:Option Int
 gn:Nat
 /-- The disk's blocks,the commits; what no operation turns but a nM. -/
 cm:Nat×Nat×Gh
def uI (o:Option Int):fR:=o.toList.map fun n=>([1],bw 8 n)
structure Hb (T:Nat->fR) (b:Bk):Prop where
 acc:mo G3 (T 0) b.acc
 lG:mo GP (T 1) b.lG
 k8:mo GA (T 2) b.k8
 due:mo tP (T 3) b.due
 mJ:mo rS (T 4) b.mJ
 mO:mo rS (T 5) b.mO
 jT:mo AA (T 6) b.jT
 qm:T 7=uI b.last
def Bk.size (b:Bk):Nat:=b.acc.length+b.lG.length+b.k8.length+b.due.length+b.mJ.length+b.mO.length+b.jT.length+b.last.toList.length
def Bk.mi (b:Bk) (a:HL kL):Bk:={ b with acc:=iK m7 a b.acc }
def Bk.lu (b:Bk) (k:Kp):Bk:={ b with lG:=iK sZ k b.lG }
def Bk.mZ (b:Bk) (m:Mv):Bk:={ b with mJ:=iK ot m b.mJ }
def Bk.pd (b:Bk) (m:Mv):Bk:={ b with mO:=iK ot m b.mO }
def Bk.lF (b:Bk) (x:jg×Int):Bk:={ b with k8:=iK (fun x=>x.1) x b.k8 }
def Bk.lW (b:Bk) (x:Ln):Bk:={ b with jT:=iK rj x b.jT }
def mA (a b:HL jd):Bool:=decide (a.1<b.1\/a.1=b.1/\a.2.1<b.2.1)
def ln (d:HL jd):List (HL jd)->List (HL jd)
 | []=>[d]
 | x::r=>if mA d x then d::x::r else x::ln d r
def jl (d:HL jd) (l:List (HL jd)):List (HL jd):=l.filter fun x=>decide (k9 x≠k9 d)
def Bk.kD (b:Bk) (d:HL jd):Bk:={ b with due:=jl d b.due }
def Bk.jx (b:Bk) (d:HL jd):Bk:={ b with due:=ln d (jl d b.due) }
def yh (t:HL pq):Mv:=((t.2.2.1,t.2.2.2.1),t.2.2.2.2.2.2.2.2.2.2.2.2.2.2.2,qr t)
def CO (t:HL pq):Mv:=((t.2.2.2.2.1,t.2.2.2.2.2.1),t.2.2.2.2.2.2.2.2.2.2.2.2.2.2.2,qr t)
def Bk.jO (b:Bk) (k:Kp):Bk:=((b.lu k).mZ (yh k.1)).pd (CO k.1)
def Bk.wV (b:Bk):Bk:={ b with cm:=(b.cm.1,b.cm.2.1+1,b.cm.2.2) }
def xc (q:Nat×Nat×Gh):Bk:=⟨[],[],[],[],[],[],[],none,0,q⟩
def Bk.gs (b:Bk) (g:Gh):Bk:={ b with cm:=(b.cm.1,b.cm.2.1,g) }
def Bk.jL (b:Bk) (n:Int):Bk:={ b with last:=some n }
def Cl{d:HL jd}:∀ {l:List (HL jd)},(ln d l).Perm (d::l)
 | []=>.refl _
 | x::r=>by unfold ln;split;exact .refl _;exact (Cl.cons x).trans (.swap _ _ _)
def mo.perm{α κ:Type}{K:pi α κ}{L:fR}{l l':List α}(h:mo K L l)(p:l.Perm l'):mo K L l':=
 ⟨⟨h.1.sort,(p.map _).nodup_iff.1 h.1.nodup,h.1.perm.trans (p.map _)⟩,fun x u=>h.2 x (p.mem_iff.2 u)⟩
def qpX{α κ:Type}[DecidableEq κ]{kf:α->κ}{a:α}:∀ {l:List α},(l.map kf).Nodup->(iK kf a l).Perm (a::l.filter fun x=>decide (kf x≠kf a))
 | [],_=>.refl _
 | x::r,h=>by rw[xO,nodup_cons] at h;unfold iK;by_cases e:kf x=kf a;rw[if_pos e,filter_cons,if_neg (by simp[e]),filter_eq_self.2 fun y u=>by have:kf y≠kf a:=fun E=>h.1 (by rw[e,<- E];exact zZ u);simpa using this];rw[if_neg e,filter_cons,if_pos (oP e)];exact ((qpX h.2).cons x).trans (.swap _ _ _)
def mo.nodup{α κ:Type}{K:pi α κ}{L:fR}{l:List α}(h:mo K L l):(l.map K.key).Nodup:=by
 have:=h.1.nodup
 rw[show (fun a=>K.g (K.key a))=K.g∘K.key from rfl,<- map_map] at this;exact this.of_map _ fun a b h e=>h (by rw[e])
def mF (T:Nat->fR) (t:Nat) (L:fR):Nat->fR:=fun u=>if u=t then L else T u
section
variable {T:Nat->fR} {b:Bk}
def Hb.mi(h:Hb T b){a:HL kL}(u:jV kL a):Hb (mF T 0 (fM (jf (m7 a)) (qB a) (T 0))) (b.mi a):=⟨h.acc.put u,h.lG,h.k8,h.due,h.mJ,h.mO,h.jT,h.qm⟩
def Hb.lu(h:Hb T b){a:Kp}(u:uJ a):Hb (mF T 1 (fM (jf (sZ a)) (uK a) (T 1))) (b.lu a):=⟨h.acc,h.lG.put u,h.k8,h.due,h.mJ,h.mO,h.jT,h.qm⟩
def Hb.lF(h:Hb T b){a:jg×Int}(u:lq a.1/\IntKind.u8.has a.2):Hb (mF T 2 (fM (jf a.1) [a.2] (T 2))) (b.lF a):=⟨h.acc,h.lG,h.k8.put u,h.due,h.mJ,h.mO,h.jT,h.qm⟩
def Hb.mZ(h:Hb T b){a:Mv}(u:uw (ot a)/\lq a.2.2):Hb (mF T 4 (fM (gg a.1 a.2.1) (jf a.2.2) (T 4))) (b.mZ a):=⟨h.acc,h.lG,h.k8,h.due,h.mJ.put u,h.mO,h.jT,h.qm⟩
def Hb.pd(h:Hb T b){a:Mv}(u:uw (ot a)/\lq a.2.2):Hb (mF T 5 (fM (gg a.1 a.2.1) (jf a.2.2) (T 5))) (b.pd a):=⟨h.acc,h.lG,h.k8,h.due,h.mJ,h.mO.put u,h.jT,h.qm⟩
def Hb.lW(h:Hb T b){a:Ln}(u:lq a.1/\jV mz a.2):Hb (mF T 6 (fM (gg a.1 (nc (lw a.2))) (sU a.2) (T 6))) (b.lW a):=⟨h.acc,h.lG,h.k8,h.due,h.mJ,h.mO,mo.put (K:=AA) (a:=a) h.jT u,h.qm⟩
def Hb.kD(h:Hb T b){d:HL jd}(u:jV jd d):Hb (mF T 3 (gr (kM d.1 d.2.1) (T 3))) (b.kD d):=⟨h.acc,h.lG,h.k8,mo.cut (K:=tP) (k:=k9 d) h.due ⟨u.1,u.2.1⟩,h.mJ,h.mO,h.jT,h.qm⟩
def Hb.jx(h:Hb T b){d:HL jd}(u:jV jd d):Hb (mF T 3 (fM (kM d.1 d.2.1) (jf (BO d)) (T 3))) (b.jx d):=⟨h.acc,h.lG,h.k8,(mo.put (K:=tP) (a:=d) h.due u).perm ((qpX h.due.nodup).trans Cl.symm),h.mJ,h.mO,h.jT,h.qm⟩
def Hb.jL(h:Hb T b){n:Int}:Hb (mF T 7 (fM [1] (bw 8 n) (T 7))) (b.jL n):=⟨h.acc,h.lG,h.k8,h.due,h.mJ,h.mO,h.jT,by
 show fM [1] (bw 8 n) (T 7)=uI (some n);rw[h.qm];cases b.last with
 | none=>rfl
 | some x=>simp[uI,fM,cmpL]⟩
def Hb.size(h:Hb T b):(T 0).length+(T 1).length+(T 2).length+(T 3).length+(T 4).length+(T 5).length+(T 6).length+(T 7).length=b.size:=by rw[h.acc.len,h.lG.len,h.k8.len,h.due.len,h.mJ.len,h.mO.len,h.jT.len,h.qm,uI,zK];rfl
def qzQ(q:Nat×Nat×Gh):Hb (fun _=>[]) ⟨[],[],[],[],[],[],[],none,0,q⟩:=⟨.nil,.nil,.nil,.nil,.nil,.nil,.nil,rfl⟩
end
end
section
open Go Go.Pt List
open Go.IntKind (wrap)
open Classical
variable {K:Int->WP} {L:List (Nat×Obj)} {T:List Nat} {wa:World}
structure nV (F:List Nat) (w:World) (F':List Nat) (w':World):Prop where
 fr:Fr F w w'
 new:∀ x∈F',x∈F\/w.heap.size<=x
section
variable {F F' F2:List Nat} {w w' w2:World}
def nV.trans(h:nV F w F' w')(k:nV F' w' F2 w2):nV F w F2 w2:=⟨h.fr.j8 k.fr h.new,fun x u=>(k.new x u).elim (h.new x) fun E=>.inr (zL h.fr.size E)⟩
def nV.pre(f:Fr [] w w')(k:nV F w' F' w2):nV F w F' w2:=⟨(f.mono fun _ h _=>nomatch h).trans k.fr,fun x u=>(k.new x u).imp id fun h=>zL f.size h⟩
def nV.Q3{B:List Nat}(h:nV F w F' w'):nV (B++F) w (B++F') w':=⟨h.fr.mono fun _ h _=>zI _ h,fun x E=>(zD.1 E).elim (fun u=>.inl (zH _ u)) fun u=>(h.new x u).imp (zI _) id⟩
end
def qL (w:World) (Y:List Nat) (sb pb:Nat) (F:List Nat) (c:Nat) (b:Bk):Prop:=∃dbk FD h D M Fo,F=FD++h/\oh w Y sb dbk pb FD h D M c (b.cm.1,b.cm.2.1) Fo/\HG∉FD/\sb∉FD/\Hb (fun t=>(Fo t).1) b/\c<=100000/\b.cm.2.1<=150/\b.cm.2.2=(pb,D,mD M)
def SB (w:World) (Y:List Nat) (sb:Nat) (F:List Nat) (c:Nat) (b:Bk):Prop:=∃pb,qL w Y sb pb F c b
section
variable {w w' w1:World} {Y Y' F F':List Nat} {sb c:Nat} {b b':Bk}
def SB.q7(h:SB w Y sb F c b)(f:Fr [] w w'):SB w' Y sb F c b:=by obtain⟨pb,dbk,FD,G,D,M,Fo,rfl,I,u,E,J,R,U⟩:=h;exact⟨pb,dbk,FD,G,D,M,Fo,rfl,I.q7 f,u,E,J,R,U⟩
def SB.y3(h:SB w Y sb F c b)(I:∀b∈Y',b∈Y):SB w Y' sb F c b:=by obtain⟨pb,dbk,FD,J,D,M,Fo,rfl,u,E,G,R,U,V⟩:=h;exact⟨pb,dbk,FD,J,D,M,Fo,rfl,⟨u.tw.y3 I,u.st,u.cell,u.out⟩,E,G,R,U,V⟩
def SB.yf(h:SB w Y sb F c b):∀b∈Y,b∉F:=by obtain⟨pb,dbk,FD,R,D,M,Fo,rfl,u,G,I,U,V,hj⟩:=h;exact fun b E J=>(zD.1 J).elim (fun h=>(u.tw.sep b E).1 h) (u.tw.yf b E)
def SB.GQ{L':List (Nat×Obj)}(h:SB wa (fh L++Y) sb F c b)(I:sb∉fh L)(o:dQ (fh L) wa w L'):SB w (fh L'++Y) sb F c b:=by obtain⟨pb,dbk,FD,J,D,M,Fo,rfl,u,E,G,R,U,V⟩:=h;exact⟨pb,dbk,FD,J,D,M,Fo,rfl,⟨u.tw.J0 o,u.st,o.nW u.cell I,u.out⟩,E,G,R,U,V⟩
def SB.own(h:SB w (fh L++Y) sb F c b)(o:dQ T wa w L)(s:nV F w F' w'):dQ (fh L) w' w' L:=pG o s.fr fun b u=>h.yf b (zH _ u)
def SB.lt(h:SB w Y sb F c b):sb<w.heap.size:=by obtain⟨pb,dbk,FD,I,D,M,Fo,rfl,u,E,G,J,R,U⟩:=h;exact eV u.cell
def qL.rr{pb:Nat}{K:Addr->Option Addr->Prop}(h:qL w1 Y sb pb F c b)(f:Fr [] w1 w)(u:K (dh sb) (pW pb)):nn (pW sb) fun a=>ld .ptr a w (K a):=by
 obtain⟨dbk,FD,J,D,M,Fo,rfl,E,G,I,R,U,V⟩:=h
 have:=(E.q7 f).cell
 exact fG (iI this (pW pb) rfl u)
def qL.held{pb:Nat}(h:qL w1 Y sb pb F c b)(f:Fr [] w1 w):w.cell? (dh sb)=some (dF pb):=by obtain⟨dbk,FD,I,D,M,Fo,rfl,u,E,G,J,R,U⟩:=h;rw[jq (u.q7 f).cell];rfl
def qL.put{t pb:Nat}{g v:Key}{ks vs:Sl}{K:Int->WP}(h:qL w1 Y sb pb F c b)(f:Fr [] w1 w)(hr:3*b.size+1<=c)(ht:t<8)(hk:g.length=(kv t).1/\eH g)(hv:v.length=(kv t).2/\eH v)(rk:kE w1 w ks g)(rv:kE w1 w vs v)(G:∀T,Hb T b->Hb (mF T t (fM g v (T t))) b')(kk:∀F' w',qL w' Y sb pb F' c b'->nV F w1 F' w'->K 0 w')(E:b'.cm=b.cm:=by rfl):cW 50 [dF pb,.i t,ks.v,vs.v] dj w K:=by
 obtain⟨dbk,FD,Fp,D,M,Fo,rfl,I,J,R,V,hc,hj⟩:=h;have h1:=I.q7 f;refine h1.put ht (by have:=V.size;unfold jr;omega) hc hk hv (rk.to I.tw.ve) (rv.to I.tw.ve) fun F' w' M' P' U hB f2 n=>kk (FD++F') w' ⟨dbk,FD,F',D,M',_,rfl,by rw[E];exact U,J,R,?_,hc,by rw[E,hB];exact hj⟩ (.pre f (nV.Q3 ⟨f2,n⟩));have e:(fun u=>(oT Fo t (fM g v (Fo t).1,P') u).1)=mF (fun u=>(Fo u).1) t (fM g v (Fo t).1):=by funext u;unfold oT mF;split<;>rfl
 rw[e];exact G _ V
def SB.put{t:Nat}{g v:Key}{ks vs:Sl}{K:Int->WP}(h:SB w1 Y sb F c b)(f:Fr [] w1 w)(G:3*b.size+1<=c)(I:t<8)(J:g.length=(kv t).1/\eH g)(R:v.length=(kv t).2/\eH v)(U:kE w1 w ks g)(V:kE w1 w vs v)(u:∀T,Hb T b->Hb (mF T t (fM g v (T t))) b')(kk:∀F' w',SB w' Y sb F' c b'->nV F w1 F' w'->K 0 w')(E:b'.cm=b.cm:=by rfl):nn (pW sb) fun a=>ld .ptr a w fun p=>cW 50 [.pointer p,.i t,ks.v,vs.v] dj w K:=
 h.elim fun pb h=>h.rr f (h.put f G I J R U V u (fun F' w' h=>kk F' w' ⟨pb,h⟩) E)
end
section
def A9:HL kL:=(0,0,0,0,0,0,0,0,0,0,0,0,0,0,0)
def pC{a b:List Int}(h:eH a)(u:eH b):eH (a++b):=fun x E=>(zD.1 E).elim (h x) (u x)
def qxv(a:HL kL):eH (qB a):=pC (pz _) (pC (pz _) (pC (pz _) (pC (pz _) (pC (pH _ _) (pC (pH _ _) (pC (pH _ _) (pC (pH _ _) (pH _ _))))))))
def qyp(a:HL pq):eH (pE a):=pC (pz _) (pC (pz _) (pC (pz _) (pC (pz _) (pC (pH _ _) (pC (pH _ _) (pC (pH _ _) (pC (pH _ _) (pC (pH _ _) (pH _ _)))))))))
def qzc(k:Kp):eH (uK k):=pC (qyp _) (pz _)
def qyh{r:HL mz}(h:jV mz r):eH (sU r):=fun x u=>by rcases zG.1 u with rfl|u;exact qyz h.2.2.2.2.2.2.2.2.2;exact (pC (pz _) (pC (pz _) (pC (pz _) (pz _)))) x u
section
variable {w w' w1:World} {Y F:List Nat} {sb c:Nat} {b b':Bk}
def SB.cut{t:Nat}{g:Key}{ks:Sl}{K:Int->WP}(h:SB w1 Y sb F c b)(f:Fr [] w1 w)(hr:3*b.size+1<=c)(ht:t<8)(rk:kE w1 w ks g)(G:∀T,Hb T b->g∈dP (T t))(I:∀T,Hb T b->Hb (mF T t (gr g (T t))) b')(kk:∀F' w',SB w' Y sb F' c b'->nV F w1 F' w'->K 0 w')(E:b'.cm=b.cm:=by rfl):nn (pW sb) fun a=>ld .ptr a w fun p=>cW 61 [.pointer p,.i t,ks.v] dj w K:=by
 obtain⟨pb,dbk,FD,Fp,D,M,Fo,rfl,hS,J,R,U,hc,hj⟩:=h;have h1:=hS.q7 f;refine h1.rr (h1.cut ht (by have:=U.size;unfold jr;omega) hc (G _ U) (rk.to hS.tw.ve) fun F' w' M' P' V hB f2 n=>kk (FD++F') w' ⟨pb,dbk,FD,F',D,M',_,rfl,by rw[E];exact V,J,R,?_,hc,by rw[E,hB];exact hj⟩ (.pre f (nV.Q3 ⟨f2,n⟩)));have e:(fun u=>(oT Fo t (gr g (Fo t).1,P') u).1)=mF (fun u=>(Fo u).1) t (gr g (Fo t).1):=by funext u;unfold oT mF;split<;>rfl
 rw[e];exact I _ U
end
end
section
section
variable {w w' w1:World} {Y F:List Nat} {sb c:Nat} {b b':Bk}
def qur{a:HL kL}(h:SB w Y sb F c b)(E:3*b.size+1<=c)(G:jV kL a)(I:∀F' w',SB w' Y sb F' c (b.mi a)->nV F w F' w'->K 0 w'): cW 20 [dF sb,.agg (HL.mk kL a).toArray] dj w K:=by refine qfA<|oB (oE [] w) fun V w1 _ u o=>oC o 0 rfl a rfl (qub fun s t w2 J R U=>?_);exact SB.put (t:=0) h (u.trans U) E oM ⟨mu _,pz _⟩ ⟨qqZ _,qxv _⟩ (J.up u.size) (R.up u.size) (fun T q=>q.mi G) I
def quu{i0 u x:Int}(h:SB w Y sb F c b)(hr:3*b.size+1<=c)(hi:lq (i0,u))(G:IntKind.u8.has x)(kk:∀F' w',SB w' Y sb F' c (b.lF ((i0,u),x))->nV F w F' w'->K 0 w'): cW 67 [dF sb,df i0 u,.b x] dj w K:=by
 refine qf2 ?_;obtain⟨pb,h⟩:=h;have hB:eH [x]:=fun z hz=>by rw[zE.1 hz];exact qyz G
 have new:∀ {w2 I:World} {r:Nat},Fr [] w w2->r=w2.heap.size->I.heap[r]?=some (.cells (fT [x]) 5 (0,0))->kE w I ⟨pW r,1,1⟩ [x]:=fun f e hb=>CG (by have:=f.size;omega) hb (zM _) (zM _) rfl;refine oB (oE [] w) fun r1 w1 _ E o=>⟨h.rr E.drew (oC o.drew 0 rfl (i0,u) rfl (ze fun r4 I J R=>ig (h.held (E.drew.trans R)) (oB (o.drew.q7 R) fun r5 w4 U f4 o=>?_))),h.rr E.drew (oC o.drew 0 rfl (i0,u) rfl (oB o.drew fun r5 w4 U f4 o=>?_))⟩;refine jU (o.cells 1 rfl rfl) (h.held o.fr) (h.put (t:=2) o.fr hr oM ⟨mu _,pz _⟩ ⟨rfl,hB⟩ ((J.q7 f4).up E.drew.size) (new (E.drew.trans R) U (o.at (i:=0) rfl)) (fun T q=>q.lF (a:=((i0,u),x)) ⟨hi,G⟩) fun F' w' h=>kk F' w' ⟨pb,h⟩);refine jU (o.cells 1 rfl rfl) (h.held o.fr) (ze fun r6 w5 J V=>ig (h.held (o.fr.trans V)) ?_);exact h.put (t:=2) (o.fr.trans V) hr oM ⟨mu _,pz _⟩ ⟨rfl,hB⟩ (J.up o.fr.size) (new E.drew U ((o.q7 V).at (i:=0) rfl)) (fun T q=>q.lF (a:=((i0,u),x)) ⟨hi,G⟩) fun F' w' h=>kk F' w' ⟨pb,h⟩
def Gn{u E d2 d3:Int}(h:SB w Y sb F c b)(I:3*b.size+1<=c)(J:jV jd (u,E,d2,d3))(R:∀F' w',SB w' Y sb F' c (b.jx (u,E,d2,d3))->nV F w F' w'->K 0 w'): cW 26 [dF sb,.agg #[.int .u64 u,.int .u64 E,.int .u64 d2,.int .u64 d3]] dj w K:=by refine qh2<|oB (oE [] w) fun r1 w1 _ G o=>oC o 0 rfl (u,E,d2,d3) rfl (qmU fun s t w2 U V f2=>?_);exact SB.put (t:=3) h (G.trans f2) I oM ⟨wy _ _,FW _ _⟩ ⟨mu _,pz _⟩ (U.up G.size) (V.up G.size) (fun T q=>q.jx J) R
def qus{a0 u:Int}{r:HL mz}(h:SB w Y sb F c b)(G:3*b.size+1<=c)(I:lq (a0,u))(E:jV mz r)(J:∀F' w',SB w' Y sb F' c (b.lW ((a0,u),r))->nV F w F' w'->K 0 w'): cW 71 [dF sb,df a0 u,.agg (HL.mk mz r).toArray] dj w K:=by refine qh3<|oB (oE [] w) fun r1 w1 _ f1 o=>oB o fun r3 w2 _ f2 o=>oC o 1 rfl (a0,u) rfl (oC o 0 rfl r rfl (quc fun s t w3 R U V=>?_));exact SB.put (t:=6) h (o.fr.trans V) G oM ⟨vQ _ _,wX _ _⟩ ⟨qyi _,qyh E⟩ (R.up o.fr.size) (U.up o.fr.size) (fun T q=>q.lW (a:=((a0,u),r)) ⟨I,E⟩) J
end
end
section
section
variable {w w' w1:World} {Y F F':List Nat} {sb pb c:Nat} {b b':Bk}
def qL.J0(h:qL wa Y sb pb F c b)(o:dQ [] wa w L):qL w (fh L++Y) sb pb F c b:=by obtain⟨dbk,FD,I,D,M,Fo,rfl,u,E,G,J,R,U⟩:=h;exact⟨dbk,FD,I,D,M,Fo,rfl,⟨u.tw.cD o,u.st,o.nW u.cell (fun h=>nomatch h),u.out⟩,E,G,J,R,U⟩
def qL.own(h:qL w (fh L++Y) sb pb F c b)(o:dQ T wa w L)(s:nV F w F' w'):dQ (fh L) w' w' L:=pG o s.fr fun b u=>SB.yf ⟨pb,h⟩ b (zH _ u)
abbrev c8:List Cell:=[.u,.u,.u,.u,.u,.u,.u,.u]
def qut{k:Kp}(h:SB w Y sb F c b)(hr:3*(b.size+3)+1<=c)(E:uJ k)(kk:∀F' w',SB w' Y sb F' c (b.jO k)->nV F w F' w'->K 0 w'): cW 24 [dF sb,.agg (si k).toArray] dj w K:=by refine qfa ?_;obtain⟨pb,h⟩:=h;refine oB (oE [] w) fun r1 w1 _ f1 o=>oC o 0 rfl k.1 rfl (oB o fun r4 w2 _ f2 o=>o.st' 0 rfl _ (lZ rfl) rfl (zM _) fun w3 o f3=>?_);refine qC (o.at (i:=1) rfl) (si k) rfl rfl (qud fun s t w4 hs ht f4=>?_);have R:=o.fr;have h:=h.J0 o;have p1:=uL (kf:=sZ) (a:=k) (l:=b.lG);have p2:=uL (kf:=ot) (a:=yh k.1) (l:=b.mJ);have z1:(b.lu k).size<=b.size+1:=(by unfold Bk.size Bk.lu;dsimp only;omega);have z2:((b.lu k).mZ (yh k.1)).size<=b.size+2:=(by unfold Bk.size Bk.mZ Bk.lu;dsimp only;omega);have hi:lq (qr k.1):=⟨E.1.1,E.1.2.1⟩;have hn:IntKind.u64.has k.1.2.2.2.2.2.2.2.2.2.2.2.2.2.2.2:=E.1.2.2.2.2.2.2.2.2.2.2.2.2.2.2.2;refine h.rr f4 (h.put (t:=1) f4 oJ oM ⟨mu _,pz _⟩ ⟨qtL _,qzc _⟩ hs ht (fun T q=>q.lu E) fun F5 w5 I s5=>cond_false rfl ?_);have o5:=h.own o s5;have o:=o5.drew;have g:=(Fr.refl [] w5).drew;have U:lq (k.1.2.2.1,k.1.2.2.2.1):=⟨E.1.2.2.1,E.1.2.2.2.1⟩;have V:lq (k.1.2.2.2.2.1,k.1.2.2.2.2.2.1):=⟨E.1.2.2.2.2.1,E.1.2.2.2.2.2.1⟩;refine I.rr g (oC o 0 rfl (k.1.2.2.1,k.1.2.2.2.1) rfl (oA o 0 rfl k.1.2.2.2.2.2.2.2.2.2.2.2.2.2.2.2 rfl (oC o 0 rfl (k.1.1,k.1.2.1) rfl (tq fun s6 w6 h6 u=>jU ((o.q7 u).cells 0 rfl rfl) (I.held (g.trans u)) (ze fun r7 w7 h7 G=>ig (I.held ((g.trans u).trans G)) ?_)))));refine I.put (t:=4) ((g.trans u).trans G) oJ oM ⟨vQ _ _,wX _ _⟩ ⟨mu _,pz _⟩ ((h6.q7 G).up (zM _)) (h7.up u.size) (fun T q=>q.mZ (a:=yh k.1) ⟨⟨U,hn⟩,hi⟩) fun F8 w8 J s8=>cond_false rfl ?_;have o:=(I.own o5 s8).drew;have g:=(Fr.refl [] w8).drew;refine J.rr g (oC o 0 rfl (k.1.2.2.2.2.1,k.1.2.2.2.2.2.1) rfl (oA o 0 rfl k.1.2.2.2.2.2.2.2.2.2.2.2.2.2.2.2 rfl (oC o 0 rfl (k.1.1,k.1.2.1) rfl (tq fun s6 w9 h6 u=>jU ((o.q7 u).cells 0 rfl rfl) (J.held (g.trans u)) (ze fun r7 av h7 G=>ig (J.held ((g.trans u).trans G)) ?_)))));exact J.put (t:=5) ((g.trans u).trans G) oJ oM ⟨vQ _ _,wX _ _⟩ ⟨mu _,pz _⟩ ((h6.q7 G).up (zM _)) (h7.up u.size) (fun T q=>q.pd (a:=CO k.1) ⟨⟨V,hn⟩,hi⟩) fun ac ad ae af=>kk ac ad (SB.y3 ⟨pb,ae⟩ fun _ h=>zI _ h) (.pre R ((s5.trans s8).trans af))
end
end
end
section
open Go Go.Pt List
open Go.IntKind (wrap)
open Classical
end
section
open Go Go.Pt List
open Go.IntKind (wrap)
open Classical
end
section
open Go Go.Pt List
open Go.IntKind (wrap)
open Classical
section
variable {w:World} {a b:jg} {K:jg×Bool->WP}
end
end
section
open Go Go.Pt List
open Go.IntKind (wrap)
open Classical
end
section
open Go Go.Pt List
open Go.IntKind (wrap)
open Classical
variable {K:Int->WP}
section
variable {w w' w1:World} {Y F F':List Nat} {sb pb c:Nat} {b b':Bk}
end
section
section
variable {w w' w1:World} {Y F F':List Nat} {sb c:Nat} {b:Bk} {ks vs:Sl}
def qzn:eH [1]:=fun x h=>by rw[zE.1 h];exact⟨oM,oM⟩
end
end
section
section
variable {w w' w1:World} {Y F F':List Nat} {sb c:Nat} {b:Bk}
def qtP{r:Nat}{T:TypeId}(h:w.heap.size<=r)(u:w'.heap[r]?=some (.cells #[.b 1] T (0,0))):kE w w' ⟨pW r,1,1⟩ [1]:=CG (L:=[1]) h u oM oM rfl
def qsA{n:Int}(h:SB w Y sb F c b)(R:3*b.size+1<=c)(U:∀F' w',SB w' Y sb F' c (b.jL n)->nV F w F' w'->K 0 w'): cW 19 [dF sb,.int .u64 n] dj w K:=by
 refine qhh ?_;obtain⟨pb,h⟩:=h;have g:=(Fr.refl [] w).drew;have E:∀ {r:Nat} {s:Sl} {w2:World},Fr [] w w2->kE w w2 ⟨pW r,1,1⟩ [1]->kE w w2 s (bw 8 n)->cW 50 [dF pb,.i 7,.slice (pW r) 1 1,s.v] dj w2 K:=fun {r s w2} f V n2=>
  h.put (t:=7) (ks:=⟨pW r,1,1⟩) f R oM ⟨rfl,qzn⟩ ⟨lp _ _,pH _ _⟩ V n2 (fun T q=>q.jL) fun F' w' h s=>U F' w' ⟨pb,h⟩ s
 refine⟨h.rr g (oB (oE [] w.drew) fun r w1 e1 G o=>ig (h.held (g.trans G)) (AM fun r2 w2 I u=>ig (h.held ((g.trans G).trans u)) (E ((g.trans G).trans u) (qtP (by rw[e1];exact zM _) ((o.q7 u).at (i:=0) rfl)) (I.up G.size)))),?_⟩;exact h.rr g (AM fun r2 w2 I u=>ig (h.held (g.trans u)) (oB (oE [] w2) fun r w3 e3 J o=>ig (h.held ((g.trans u).trans J)) (E ((g.trans u).trans J) (qtP (by rw[e3];exact u.size) (o.at (i:=0) rfl)) (I.q7 J))))
end
end
section
section
variable {w w':World} {Q:Nat×Nat} {sb dbk pb c t:Nat} {Y FD F F':List Nat} {D:dI} {M M':dZ} {Fo Fo':ka} {b:Bk}
def oh.nM{K:Int->WP}(h:oh w Y sb dbk pb FD F D M c Q Fo)(hq:Q.2<=100)(U:c+eJ Q.1+jr Fo+2<=Q.1)(V:eJ Q.1+jr Fo<=c)(I:HG∉FD)(hs:sb∉FD)(kk:∀u F' w' D' M',oh w' Y sb dbk pb u F' D' M' c (Q.1,Q.2+1) Fo->HG∉u->sb∉u->Fr (FD++F) w w'->(∀b∈u++F',b∈FD++F\/w.heap.size<=b)->K 0 w'): cW 72 [pP pb] dj w K:=by obtain⟨D',M',e,hS⟩:=h.st.nM oJ U V;have ht:=h.st.J1.x6;have hl:=eV h.cell;have af:HG<w.heap.size:=h.tw.ve HG (by simp[Zo]);refine qt4 h.tw oJ ⟨ht.1,oJ⟩ I fun u F' w' J f n=>?_;rw[e] at J⊢;have G:sb∉FD++F:=fun E=>(zD.1 E).elim hs h.out;have hF:HG∉FD++F:=fun E=>(zD.1 E).elim I (h.tw.x8.sep HG oL);exact kk u F' w' D' M' ⟨J,hS,by rw[f.block sb hl G];exact h.cell,fun E=>(n sb (zI _ E)).elim G fun R=>oJ⟩ (fun E=>(n HG (zH _ E)).elim hF fun R=>oJ) (fun E=>(n sb (zH _ E)).elim G fun R=>oJ) f n
def SB.nM{K:Int->WP}(h:SB w Y sb F c b)(hp:w.heap[sb]?=some (.cells #[pP pb] Ao (0,0)))(hq:b.cm.2.1<=100)(hc:c+eJ b.cm.1+b.size+2<=b.cm.1)(hr:eJ b.cm.1+b.size<=c)(kk:∀F' w' g,SB w' Y sb F' c (b.wV.gs g)->nV F w F' w'->K 0 w'):cW 72 [pP pb] dj w K:=by
 obtain⟨G,dbk,FD,Fp,D,M,Fo,rfl,hS,I,J,u,R,hj⟩:=h;have e:pb=G:=by
  have:=hS.cell
  rw[hp] at this;cases this;rfl
 subst e;have hs:=u.size;have hk:jr Fo=b.size:=(by unfold jr;exact hs);refine hS.nM (Q:=(b.cm.1,b.cm.2.1)) hq oN oN I J fun E F' w' D' M' U V aa f n=>kk (E++F') w' (pb,D',mD M') ⟨pb,dbk,E,F',D',M',Fo,rfl,U,V,aa,⟨u.acc,u.lG,u.k8,u.due,u.mJ,u.mO,u.jT,u.qm⟩,R,by show b.cm.2.1+1<=150;omega,rfl⟩ ⟨f,n⟩
end
end
section
section
variable {dbk pb j:Nat} {FD Y F:List Nat} {D:dI} {M:dZ} {k v:Nat} {t:Int} {w0:World}
def qxe{ks:Sl}{key:Key}{f2:Nat}(G:eH key)(U:rG t=((k:Int),(v:Int)))(E:k≠0)(I:key.length=k)(hT:TW dbk pb FD D j w0 Y F M)(V:eE (Zo FD Y F) w0 ks key)(u:(lR D k v key M f2 (dX M t).1).2=5)(kk:∀w',Fr [] w0 w'->K 5 w'): cW 61 [dF pb,.i t,ks.v] dj w0 K:=by refine ql2 ?_;have ac:=V.1;have h:=oE [] w0;refine oB h fun r1 w2 _ _ h=>oA h 0 rfl ks rfl<|CP (k:=k) (v:=v) U (fun h=>absurd h E) (fun _ h=>absurd oJ h) fun _ _ w7 f7=>?_;have h:=h.q7 f7;refine oB h fun r8 w9 _ _ h=>oD h 0 rfl (nz (jD k v pb t)) fun ae h _=>cond_false rfl<|oA h 1 rfl ks rfl<|qtb (f:=f2) G U E I (hT.cD h) (uv V h) (by rw[u];decide) fun s J _ R=>?_;rw[u];exact cond_true rfl (kk J (h.fr.trans R))
end
section
variable {w w' w1:World} {Q:Nat×Nat} {sb dbk pb c t:Nat} {Y FD F F':List Nat} {D:dI} {M M':dZ} {Fo Fo':ka} {key val:Key} {ks vs:Sl} {b b':Bk}
def oh.ue(h:oh w Y sb dbk pb FD F D M c Q Fo)(E:t<8)(G:key.length=(kv t).1/\eH key)(J:key∉dP (Fo t).1)(R:eE (Zo FD Y F) w ks key)(U:∀w',Fr [] w w'->K 5 w'):cW 61 [pP pb,.i t,ks.v] dj w K:=by have u:=wQ E;have V:=h.st.J0.J2 t E;have I:=V.get (key:=key) h.st.J1.wf h.st.J1.Q3;have he:k6 key (Fo t).1=none:=Bh fun x hx e=>J (by rw[<- e];exact zZ hx);rw[he] at I;exact qxe (f2:=(dX M t).2.2.toNat) G.2 u.1 oJ G.1 h.tw R (by rw[I]) U
def SB.ue{t:Nat}{g:Key}{ks:Sl}{K:Int->WP}(h:SB w1 Y sb F c b)(f:Fr [] w1 w)(G:t<8)(I:g.length=(kv t).1/\eH g)(J:kE w1 w ks g)(R:∀T,Hb T b->g∉dP (T t))(U:∀w',Fr [] w w'->K 5 w'):nn (pW sb) fun a=>ld .ptr a w fun p=>cW 61 [.pointer p,.i t,ks.v] dj w K:=by obtain⟨pb,dbk,FD,Fp,D,M,Fo,rfl,u,V,aa,hb,hc,hj⟩:=h;have E:=u.q7 f;exact E.rr (E.ue G I (R _ hb) (J.to u.tw.ve) U)
def qsz{u E d2 d3:Int}(h:SB w Y sb F c b)(V:3*b.size+1<=c)(J:jV jd (u,E,d2,d3))  (k0:(∃x∈b.due,k9 x=(u,E))->∀F' w',SB w' Y sb F' c (b.kD (u,E,d2,d3))->nV F w F' w'->K 0 w')(k5:(∀x∈b.due,k9 x≠(u,E))->∀w',Fr [] w w'->K 5 w'): cW 25 [dF sb,.agg #[.int .u64 u,.int .u64 E,.int .u64 d2,.int .u64 d3]] dj w K:=by refine qh1<|oB (oE [] w) fun r1 w1 _ G o=>oC o 0 rfl (u,E,d2,d3) rfl (qmU fun s t w2 U ht R=>?_);by_cases hin:∃x∈b.due,k9 x=(u,E);exact SB.cut (t:=3) h (G.trans R) V oM (U.up G.size) (fun T q=>mo.mem (K:=tP) (k:=(u,E)) q.due hin) (fun T q=>q.kD J) (k0 hin);exact SB.ue (t:=3) h (G.trans R) oM ⟨wy _ _,FW _ _⟩ (U.up G.size) (fun T q hm=>by obtain⟨x,I,e⟩:=q.due.1.J6.1 hm;exact hin ⟨x,I,T64.inj (q.due.2 x I |>.1 |> fun h=>⟨h,(q.due.2 x I).2.1⟩) ⟨J.1,J.2.1⟩ e⟩) fun w' f=>k5 (fun x I e=>hin ⟨x,I,e⟩) w' ((G.trans R).trans f)
def qsH{d:HL jd}(h:∀x∈b.due,k9 x≠k9 d):b.kD d=b:=by unfold Bk.kD jl;rw[filter_eq_self.2 fun x u=>yA (h x u)]
end
end
end
section
open Go Go.Pt List
open Go.IntKind (wrap)
variable {K:Int->WP}
structure px where
 pb:Nat
 k:Nat
 v:Nat
 frm:Sl
 to:Sl
 st:Sl
 f1:Value
 f2:Value
 f3:Value
def px.cells (x:px):Array Value:=#[.pointer (some ⟨x.pb,0,none⟩),.i x.k,.i x.v,x.frm.v,x.to.v,x.st.v,x.f1,x.f2,x.f3]
def mY (w:World) (cb:Nat) (x:px):Prop:=∃T,w.heap[cb]?=some (.cells x.cells T (0,0))
def mY.q8{S:List Nat}{w w':World}{cb:Nat}{x:px}(h:mY w cb x)(f:Fr S w w')(u:cb∉S):mY w' cb x:=by obtain⟨T,h⟩:=h;exact⟨T,by rw[f.block cb (eV h) u];exact h⟩
def mY.q7{w w':World}{cb:Nat}{x:px}(h:mY w cb x)(f:Fr [] w w'):mY w' cb x:=h.q8 f fun h=>nomatch h
def mY.frm{w:World}{cb:Nat}{x:px}{K:Sl->Prop}(h:mY w cb x)(k:K x.frm):ld .slice (dh cb 3) w K:=by obtain⟨T,h⟩:=h;exact pK x.frm (jq h) k
def mY.to{w:World}{cb:Nat}{x:px}{K:Sl->Prop}(h:mY w cb x)(k:K x.to):ld .slice (dh cb 4) w K:=by obtain⟨T,h⟩:=h;exact pK x.to (jq h) k
section
variable {w:World} {cb:Nat} {x:px} {S:List Nat} {y:kj} {n:dL} {frm to:Key}
def qAv{i:Int}(hi:-1000000<=i/\i<=1000000)(h:K (i+1) w):cW 76 [dF cb,.i i] dj w K:=by refine qjj ?_;rw[IntWalk.i64_in _ oJ];exact h
def qyV{i:Int}(hi:-1000000<=i/\i<=1000000)(h:K (i-1) w):cW 79 [dF cb,.i i] dj w K:=by refine qht ?_;rw[IntWalk.i64_in _ oJ];exact h
def qxt{ks:Sl}{key:Key}{K:Bool->WP}(h:mY w cb x)(u:eE S w ks key)(E:eE S w x.to to)(G:eH key)(I:eH to)(J:K (decide (cmpL key to>0)) w):cW 78 [dF cb,ks.v] dk w K:=by refine qg7<|fG (h.to ?_);exact BE u E G I J
def qxA{ks:Sl}{key:Key}{K:Bool->WP}(h:mY w cb x)(u:eE S w ks key)(E:eE S w x.frm frm)(G:eH key)(I:eH frm)(J:K (decide (cmpL key frm<0)) w):cW 81 [dF cb,ks.v] dk w K:=by refine qg8<|fG (h.frm ?_);exact BE u E G I J
def qxD(h:mY w cb x)(G:eB S w y n)(U:eE S w x.frm frm)(V:eH frm)(hr:fL n.J6)(hl:n.J6.length<=1000000)(kk:∀w',Fr [] w w'->K (jN n frm) w'):cW 77 [dF cb,.agg (eK y)] dj w K:=by
 refine qil<|oB (oE [] w) fun r w1 e1 f1 ho=>oA ho 0 rfl y.1 rfl ?_;have hd:=oF ho;have u:=f1.trans (Fr.refl [] w1).drew;have hy:y.1=n.Q4:=G.1;apply dV<;>intro I;have E:n.Q4=false:=(by rw[<- hy];simpa using I);refine oC hd 0 rfl y rfl<|fG ((h.q7 u).frm ?_);refine Bm (G.q7 u) (U.q7 u) V hr hl fun J R=>?_
 have:=kk J (u.trans R)
 rw[jN,if_neg (by rw[E];decide)] at this;exact this;have E:n.Q4=true:=(by rw[<- hy];simpa using I);refine oC hd 0 rfl y rfl<|fG ((h.q7 u).frm ?_);refine Cj (G.q7 u) (U.q7 u) V hr hl fun J R=>?_
 have:=kk J (u.trans R)
 rw[jN,if_pos E] at this;exact this
def qvS(h:mY w cb x)(I:eB S w y n)(V:eE S w x.to to)(hB:eH to)(hr:fL n.J6)(hl:n.J6.length<=1000000)(kk:∀w',Fr [] w w'->K (ir n to) w'):cW 80 [dF cb,.agg (eK y)] dj w K:=by
 refine qhu<|oB (oE [] w) fun r w1 e1 f1 ho=>?_;have J:=oF ho;have u:=f1.trans (Fr.refl [] w1).drew;have R:y.1=n.Q4:=I.1;refine oC J 0 rfl y rfl<|fG ((h.q7 u).to ?_);have ag:=Ak n.J6 to;refine Bm (I.q7 u) (V.q7 u) hB hr hl fun w3 U=>?_;have E:=J.q7 U;refine oA E 0 rfl y.1 rfl ?_
 have:=kk w3 (u.trans U)
 apply dV<;>intro G;rw[ir,if_pos (by rw[<- R];exact G)] at this;rw[IntWalk.i64_in _ oJ];exact this;rw[ir,if_neg (by rw[<- R,G];decide)] at this;exact this
end
end
end Go.Proofs.YtpcmehldpoljfaaGreatDoor
namespace Go.Pt
section
open Go
def Ay{P:Program}{w:World}{v:Value}{f:FuncId}{ra args:List Value}{ts:List gX}{K:i7 ts->WP}(h:v=.func (.func f) ra.toArray #[])(u:iC P f=false)(k:call P f (ra++args) ts w K):dU P v args ts w K:=by subst h;refine .inl ⟨f,ra++args,?_,k⟩;simp[Deferred.ofValue,invoke,yp u]
def Cm{S ι:Type}{B:(S->WP)->S->WP}{s:S}{w:World}(I:ι->S->WP)(m:ι->Nat)(i0:ι)(R:I i0 s w)(step:∀i s w,I i s w->∀X:S->WP,(∀h u w',I h u w'->m h<m i->X u w')->B X s w):loop S B s w:=by
 intro J U;have key:∀k i s w,m i=k->I i s w->J s w:=by
  intro k;induction k using Nat.strongRecOn with
  | _ k ih=>
   intro i s w V hI;exact U s w (step i s w hI J fun h u w' E G=>ih (m h) (V▸G) h u w' rfl E)
 exact key _ i0 s w rfl R
end
end Go.Pt
namespace Go.Proofs.YtpcmehldpoljfaaGreatDoor
open Go Go.Pt
attribute [local irreducible] ld dK iF mK iY fq st new idx i3 ji fy jk iL lN gU nn call dU inv run eX iD join loop held ext jQ eu mr ma mv IntKind.wrap
section
open Go Go.Pt List
open Go.IntKind (wrap)
abbrev qd:=kj×kx
def AV (x:kj) (i:Int):Array Value:=#[.bool x.1,x.2.1.v,x.2.2.1.v,x.2.2.2.v,.i i]
def iZ (z:qd):List Value:=[.bool z.1.1,z.1.2.1.v,z.1.2.2.1.v,z.1.2.2.2.v,.i z.2.2]
def wl:∀z,(iZ z).length=5:=fun _=>rfl
def qv4(z:qd):∀u∈iZ z,u.oneCell'=true:=fun u h=>by unfold iZ at h;simp only[zG,xX,or_false] at h;rcases h with rfl|rfl|rfl|rfl|rfl<;>rfl
section
variable {w w':World} {s:Sl} {zs:List qd} {z:qd} {SB:List Nat}
def C2(h:eP iZ 5 w s (zs++[z]) SB):∃b u T,SB=[b]/\s.a=pW b/\w.heap[b]?=some (.cells u T (0,0))/\s.len=zs.length+1/\s.len<=s.cap/\s.cap*5<=u.size/\u.toList.take (zs.length*5+5)=zs.flatMap iZ++iZ z:=by rcases h with ⟨_,h,_⟩|⟨b,o,u,T,I,rfl,J,R,G,U,V,E⟩;exact absurd h oL;rw[zF,xM] at G E;rw[xF,yQ,yH,flatMap_nil,xH,xU] at E;exact⟨b,u,T,I,J,R,G,U,oJ,E⟩
def qym{b j:Nat}(h:eP iZ 5 w s (zs++[z]) [b])(J:j<5):w.cell? ⟨b,zs.length*5+j,none⟩=(iZ z)[j]?:=by obtain⟨b',R,T,E,U,G,V,h5,h6,I⟩:=C2 h;cases E;rw[jq G,<- xL];have u:=congrArg (·[zs.length*5+j]?) I;rw[xB,iP,yY (by rw[qs wl];omega),qs wl,vD] at u;exact u
def qtY{K:Addr->Prop}(h:eP iZ 5 w s (zs++[z]) SB)(I:zs.length<=1000000)(u:∀b,SB=[b]->K ⟨b,zs.length*5,none⟩):idx s (wrap .i64 ((s.len:Int)-1)) 5 K:=by obtain⟨b,J,T,E,G,R,U,V,h6,h7⟩:=C2 h;have e:wrap .i64 ((s.len:Int)-1)=(zs.length:Int):=(by rw[IntWalk.i64_in _ oJ];omega);rw[e];refine qv G ⟨oJ,oJ⟩ ?_;rw[zJ,xS];exact u b E
def qAf{b:Nat}{j:Int}{K:WP}(h:eP iZ 5 w s (zs++[z]) [b])(kk:∀w',eP iZ 5 w' s (zs++[(z.1,z.2.1,j)]) [b]->Fr [b] w w'->K w'):st ⟨b,zs.length*5+4,none⟩ [.i j] w K:=by
 obtain⟨b',cs,T,hB,h2,h3,h4,h5,h6,h7⟩:=C2 h;cases hB;have hm:(zs.flatMap iZ++iZ z).length=zs.length*5+5:=(by rw[zF,qs wl];rfl);refine rm h3 _ rfl (by rfl) oO fun w' hb f=>kk w' (.inr ⟨b,0,_,T,rfl,rfl,h2,hb,by rw[zF,xM];exact h4,h5,by rw[nf];omega,?_⟩) f
 have:=qp6 (cs:=cs) (M:=zs.flatMap iZ++iZ z) (i:=zs.length*5+4) (v:=.i j) (by rw[hm];omega) (by rw[hm];exact h7)
 rw[hm,set_append_right _ _ (by rw[qs wl];omega),qs wl,vD] at this;rw[xF,zF,xM,xU,yQ,yH,flatMap_nil,xH];exact this
def qzC{K:Sl->Prop}(h:eP iZ 5 w s (zs++[z]) SB)(hl:zs.length<=1000000)(G:∀u,eP iZ 5 w u zs SB->K u):fy s none (some (wrap .i64 ((s.len:Int)-1))) none 5 K:=by obtain⟨b,I,T,J,R,U,h4,h5,h6,V⟩:=C2 h;have e:wrap .i64 ((s.len:Int)-1)=(zs.length:Int):=(by rw[IntWalk.i64_in _ oJ];omega);rw[e];refine vG ⟨oJ,oJ⟩ ?_;rw[zJ];refine G _ (.inr ⟨b,0,I,T,J,rfl,R,U,rfl,by dsimp only;omega,by dsimp only;omega,?_⟩);have E:=congrArg (List.take (zs.length*5)) V;rw[take_take,xR oJ] at E;rw[xF,E,take_append_of_le_length (by rw[qs wl];exact zM _)];exact zS (by rw[qs wl];exact zM _)
end
def mH (cb:Nat) (down:Bool):Value:=.func (.func (if down then 79 else 76)) #[dF cb] #[]
def mX (cb:Nat) (down:Bool):Value:=.func (.func (if down then 80 else 77)) #[dF cb] #[]
def nP (cb:Nat) (down:Bool):Value:=.func (.func (if down then 81 else 78)) #[dF cb] #[]
def jF (down:Bool) (frm to:Key) (n:dL):Int:=if down then ir n to else jN n frm
def jJ (down:Bool) (i:Int):Int:=if down then i-1 else i+1
def nm (down:Bool) (frm to key:Key):Bool:=if down then decide (cmpL key frm<0) else decide (cmpL key to>0)
structure gd (dbk pb:Nat) (FD:List Nat) (D:dI) (F:List Nat) (M:dZ) (k v:Nat) (frm to:Key) (down:Bool) (w0:World) (cb:Nat) (Y:List Nat) (w:World) (st:Sl) (SB:List Nat) (zs:List qd):Prop where
 cell:∃ sf sto,mY w cb ⟨pb,k,v,sf,sto,st,mH cb down,mX cb down,nP cb down⟩/\eE (cb::(SB++Y)) w sf frm/\eE (cb::(SB++Y)) w sto to
 tw:TW dbk pb FD D 900000 w (cb::(SB++Y)) F M
 ug:eP iZ 5 w st zs SB
 nodes:∀ z∈zs,eB (cb::(SB++Y)) w z.1 z.2.1/\fJ z.2.1 k v
 Dw:cb∉SB
 yd:cb∉Y
 vN:∀ b∈SB,b∉Y
 new:∀ b∈cb::SB,w0.heap.size<=b
 wN:eH frm
 G4:eH to
 AB:zs.length<=100000
section
variable {dbk pb:Nat} {FD F:List Nat} {D:dI} {M:dZ} {k v:Nat} {frm to:Key} {down:Bool} {w0 w w':World} {cb:Nat} {Y Y' SB SB':List Nat} {st st':Sl} {zs zs':List qd}
def gd.x6(h:gd dbk pb FD D F M k v frm to down w0 cb Y w st SB zs)(f:Fr (cb::(SB++Y)) w w')(hc:∃sf I T,w.heap[cb]?=some (.cells (px.cells ⟨pb,k,v,sf,I,st,mH cb down,mX cb down,nP cb down⟩) T (0,0))/\w'.heap[cb]?=some (.cells (px.cells ⟨pb,k,v,sf,I,st',mH cb down,mX cb down,nP cb down⟩) T (0,0)))(G:eP iZ 5 w' st' zs' SB')(hn:∀z∈zs',eB (cb::(SB'++Y')) w' z.1 z.2.1/\fJ z.2.1 k v)(hS:∀b∈SB',b∈SB\/w.heap.size<=b)(hY:∀b∈Y',b∈Y\/w.heap.size<=b)(ad:∀b∈Y',b<w'.heap.size)(ae:∀b∈SB',b∉Y')(hl:zs'.length<=100000):gd dbk pb FD D F M k v frm to down w0 cb Y' w' st' SB' zs':=by
 obtain⟨sf,I,⟨T,u⟩,af,ag⟩:=h.cell;obtain⟨V,J,T',e,ab⟩:=hc;rw[e] at u;have e1:V=sf/\J=I:=by
  injection u with u
  injection u with u
  unfold px.cells at u;simp only[Array.mk.injEq,List.cons.injEq,Value.slice.injEq,and_true,true_and] at u;obtain⟨⟨a1,a2,a3⟩,⟨b1,b2,b3⟩⟩:=u;exact⟨by cases sf;cases V;simp_all,by cases I;cases J;simp_all⟩
 obtain⟨rfl,rfl⟩:=e1;have ao:=eV e;have R:∀b∈cb::(SB'++Y'),b∈cb::(SB++Y)\/w.heap.size<=b:=fun b G=>by rcases zG.1 G with rfl|G;exact .inl oL;rcases zD.1 G with G|G;exact (hS b G).imp (fun h=>by simp[h]) id;exact (hY b G).imp (fun h=>by simp[h]) id
 have ah:∀b∈cb::(SB'++Y'),b<w'.heap.size:=fun b E=>by rcases zG.1 E with rfl|E;exact eV ab;rcases zD.1 E with E|E;exact G.lt b E;exact ad b E
 have ai:w0.heap.size<=cb:=h.new cb oL;refine⟨⟨V,J,⟨T',ab⟩,af.q8 f R,ag.q8 f R⟩,h.tw.cO f ah R,G,hn,fun hm=>?_,fun hm=>?_,ae,fun b G=>?_,h.wN,h.G4,hl⟩;rcases hS cb hm with U|U;exact h.Dw U;omega;rcases hY cb hm with U|U;exact h.yd U;omega;rcases zG.1 G with rfl|G;exact ai;rcases hS b G with U|U;exact h.new b (by simp[U]);omega
def gd.at(h:gd dbk pb FD D F M k v frm to down w0 cb Y w st SB zs):∃E u T,w.heap[cb]?=some (.cells (px.cells ⟨pb,k,v,E,u,st,mH cb down,mX cb down,nP cb down⟩) T (0,0)):=by obtain⟨E,u,⟨T,G⟩,_⟩:=h.cell;exact⟨E,u,T,G⟩
def gd.lt(h:gd dbk pb FD D F M k v frm to down w0 cb Y w st SB zs):∀b∈cb::(SB++Y),b<w.heap.size:=h.tw.qx
def gd.q8(h:gd dbk pb FD D F M k v frm to down w0 cb Y w st SB zs)(f:Fr Y w w')(E:∀b∈Y',b∈Y\/w.heap.size<=b)(G:∀b∈Y',b<w'.heap.size):gd dbk pb FD D F M k v frm to down w0 cb Y' w' st SB zs:=by
 obtain⟨sf,I,T,J⟩:=h.at
 have R:=eV J;have U:Fr (cb::(SB++Y)) w w':=f.mono fun b u _=>by simp[u]
 refine h.x6 U ⟨sf,I,T,J,by rw[f.block cb R h.yd];exact J⟩ (h.ug.q8 f h.vN) (fun z V=>⟨(h.nodes z V).1.q8 U fun b u=>?_,(h.nodes z V).2⟩) (fun b u=>.inl u) E G (fun b u hm=>?_) h.AB;rcases zG.1 u with rfl|u;exact .inl oL;rcases zD.1 u with u|u;exact .inl (by simp[u]);exact (E b u).imp (fun h=>by simp[h]) id;rcases E b hm with h1|h1;exact h.vN b u h1
 have:=h.lt b (by simp[u]);omega
def gd.q7(h:gd dbk pb FD D F M k v frm to down w0 cb Y w st SB zs)(f:Fr [] w w'):gd dbk pb FD D F M k v frm to down w0 cb Y w' st SB zs:=
 h.q8 (f.mono fun _ h=>nomatch h) (fun b u=>.inl u) fun b u=>yD (h.lt b (by simp[u])) f.size
def gd.drew(h:gd dbk pb FD D F M k v frm to down w0 cb Y w st SB zs):gd dbk pb FD D F M k v frm to down w0 cb Y w.drew st SB zs:=h.q7 (Fr.refl [] w).drew
def gd.pI{K:Sl->Prop}(h:gd dbk pb FD D F M k v frm to down w0 cb Y w st SB zs)(u:K st):ld .slice (dh cb 5) w K:=by
 obtain⟨I,E,T,G⟩:=h.at
 exact pK st (jq G) u
def gd.tI{K:WP}(h:gd dbk pb FD D F M k v frm to down w0 cb Y w st SB zs)(w1:World)(f:Fr SB w w1)(u:eP iZ 5 w1 st' zs' SB')(hn:∀z∈zs',z∈zs\/eB (cb::(SB'++Y)) w1 z.1 z.2.1/\fJ z.2.1 k v)(U:∀b∈SB',b∈SB\/w.heap.size<=b)(hl:zs'.length<=100000)(kk:∀w',gd dbk pb FD D F M k v frm to down w0 cb Y w' st' SB' zs'->Fr (cb::SB) w w'->K w'):Pt.st (dh cb 5) [st'.v] w1 K:=by
 obtain⟨sf,G,T,hc⟩:=h.at
 have ac:=eV hc;have ad:w1.heap[cb]?=some (.cells (px.cells ⟨pb,k,v,sf,G,st,mH cb down,mX cb down,nP cb down⟩) T (0,0)):=(by rw[f.block cb ac h.Dw];exact hc);have J:cb∉SB':=fun I=>by rcases U cb I with E|E;exact h.Dw E;omega
 refine rm ad (px.cells ⟨pb,k,v,sf,G,st',mH cb down,mX cb down,nP cb down⟩) rfl rfl (zO rfl) fun w2 ae f2=>?_;have V:Fr (cb::SB) w w2:=(f.mono fun b u _=>by simp[u]).j8 f2 fun b u=>.inl (by rw[zE.1 u];simp);refine kk w2 (h.x6 (V.mono fun b u _=>by rcases zG.1 u with rfl|u<;>simp[*]) ⟨sf,G,T,hc,ae⟩ (u.q8 f2 fun b u I=>J (by rw[zE.1 I] at u;exact u)) (fun z hz=>?_) U (fun b u=>.inl u) (fun b u=>yD (h.lt b (by simp[u])) V.size) (fun b u I=>?_) hl) V;have R:∀b∈cb::(SB'++Y),b∈cb::(SB++Y)\/w.heap.size<=b:=fun b u=>by rcases zG.1 u with rfl|u;exact .inl oL;rcases zD.1 u with u|u;exact (U b u).imp (fun h=>by simp[h]) id;exact .inl (by simp[u])
 rcases hn z hz with E|E;exact⟨(h.nodes z E).1.q8 (V.mono fun b u _=>by rcases zG.1 u with rfl|u<;>simp[*]) R,(h.nodes z E).2⟩;exact⟨E.1.q8 (f2.mono fun b u _=>by rw[zE.1 u];simp) fun b u=>.inl u,E.2⟩;rcases U b u with E|E;exact h.vN b E I
 have:=h.lt b (by simp[I]);omega
def gd.vw{z:qd}{b:Nat}{j:Int}{K:WP}(h:gd dbk pb FD D F M k v frm to down w0 cb Y w st [b] (zs++[z]))(V:∀w',gd dbk pb FD D F M k v frm to down w0 cb Y w' st [b] (zs++[(z.1,z.2.1,j)])->Fr [b] w w'->K w'):Pt.st ⟨b,zs.length*5+4,none⟩ [.i j] w K:=by
 refine qAf h.ug fun w' hb f=>V w' ?_ f;obtain⟨sf,I,T,J⟩:=h.at
 have R:cb∉[b]:=h.Dw;have U:Fr (cb::([b]++Y)) w w':=f.mono fun x u _=>by rw[zE.1 u];simp
 have E:∀x∈cb::([b]++Y),x∈cb::([b]++Y)\/w.heap.size<=x:=fun x u=>.inl u;refine h.x6 U ⟨sf,I,T,J,by rw[f.block cb (eV J) R];exact J⟩ hb (fun y G=>?_) (fun x u=>.inl u) (fun x u=>.inl u) (fun x u=>yD (h.lt x (by simp[u])) f.size) h.vN (by have:=h.AB;rw[zF] at this⊢;exact this);rcases zD.1 G with G|G;exact⟨(h.nodes y (zH _ G)).1.q8 U E,(h.nodes y (zH _ G)).2⟩;rw[zE.1 G];exact⟨eB.q8 (h.nodes z oL).1 U E,(h.nodes z oL).2⟩
end
end
end Go.Proofs.YtpcmehldpoljfaaGreatDoor
namespace Go.Pt
section
open Go
def qx1{o:Obj}{w:World}{H:WP}{R:Nat->WP}(h:Pt.new o w R)(u:∀w',Fr [] w w'->H w'):Pt.new o w fun r w1=>held [H] w1 (R r w1):=⟨u _ ((Fr.refl [] w).alloc o),h⟩
end
end Go.Pt
namespace Go.Proofs.YtpcmehldpoljfaaGreatDoor
open Go Go.Pt
attribute [local irreducible] ld dK iF mK iY fq st new idx i3 ji fy jk iL lN gU nn call dU inv run eX iD join loop held ext jQ eu mr ma mv IntKind.wrap
section
open Go Go.Pt List
open Classical
abbrev FT:TypeId:=176
def qzU:∃i,Tryz.prog.info? FT=some i/\i.zero=some (.agg dc)/\i.size=5/\i.bytes=88:=th oK
def qAa{w:World}{s:Sl}{zs:List qd}{SB:List Nat}{x:kj}{n:dL}{i:Int}{H:WP}{K:Sl->WP}(h:eP iZ 5 w s zs SB)(V:zs.length<=1000000)(I:∀w',Fr [] w w'->H w')(J:∀G B' w',eP iZ 5 w' G (zs++[(x,n,i)]) B'->Fr SB w w'->(∀b∈B',b∈SB\/w.heap.size<=b)->K G w'): Pt.new (.cells (AV x i) FT) w fun r w1=>held [H] w1 (Pt.run di ((Builtin.append_ #[162,162] 162 #[s.v,.slice (pW r) 1 1]).run Tryz.prog w1) K):=by obtain⟨j,R,U,u,E⟩:=qzU;exact qx1 (eP.push (e:=FT) (x:=((x,n,i):qd)) h wl (qv4 _) oK R U u rfl rfl (by rw[E];omega) oJ J) I
section
variable {dbk pb:Nat} {FD F:List Nat} {D:dI} {M:dZ} {k v:Nat} {frm to:Key} {down:Bool} {w0 w wA:World} {cb:Nat} {Y SB:List Nat} {st:Sl} {zs:List qd} {x:kj} {n:dL} {i:Int}
def qrk{S:List Nat}{K:Int->WP}(h:gd dbk pb FD D F M k v frm to down w0 cb Y w st SB zs)(u:eB (cb::(SB++Y)) w x n)(E:fL n.J6)(G:n.J6.length<=1000000)(I:∀w',Fr [] w w'->K (jF down frm to n) w'):dU Tryz.prog (mX cb down) [.agg (eK x)] dj w K:=by
 obtain⟨sf,R,J,U,V⟩:=h.cell;cases down with
 | false=>exact Ay (ra:=[dF cb]) rfl oK (qxD J u U h.wN E G I)
 | true=>exact Ay (ra:=[dF cb]) rfl oK (qvS J u V h.G4 E G I)
def qxb{K:Int->WP}(hi:-1000000<=i/\i<=1000000)(h:K (jJ down i) w):dU Tryz.prog (mH cb down) [.i i] dj w K:=by
 cases down with
 | false=>exact Ay (ra:=[dF cb]) rfl oK (qAv hi h)
 | true=>exact Ay (ra:=[dF cb]) rfl oK (qyV hi h)
def qzp{ks:Sl}{key:Key}{K:Bool->WP}(h:gd dbk pb FD D F M k v frm to down w0 cb Y w st SB zs)(u:eE (cb::(SB++Y)) w ks key)(E:eH key)(G:K (nm down frm to key) w):dU Tryz.prog (nP cb down) [ks.v] dk w K:=by
 obtain⟨V,J,I,R,U⟩:=h.cell;cases down with
 | false=>exact Ay (ra:=[dF cb]) rfl oK (qxt I u U E h.G4 G)
 | true=>exact Ay (ra:=[dF cb]) rfl oK (qxA I u R E h.wN G)
def gd.J0{T:List Nat}{L:List (Nat×Obj)}(E:gd dbk pb FD D F M k v frm to down w0 cb Y wA st SB zs)(h:dQ T wA w L)(G:∀b∈T,b∈Y):gd dbk pb FD D F M k v frm to down w0 cb Y w st SB zs:=
 E.q8 (h.fr.mono fun b u _=>G b u) (fun b u=>.inl u) fun b u=>yD (E.lt b (by simp[u])) h.fr.size
def eB.wS{T:List Nat}{L:List (Nat×Obj)}(E:eB (cb::(SB++Y)) wA x n)(h:dQ T wA w L)(G:∀b∈T,b∈Y):eB (cb::(SB++Y)) w x n:=
 E.q8 (h.fr.mono fun b u _=>by simp[G b u]) fun b u=>.inl u
def qpV{T:List Nat}{E G:Nat}{X:Int->WP}{K:Unit->WP}(hA:gd dbk pb FD D F M k v frm to down w0 cb Y wA st SB zs)(hN:eB (cb::(SB++Y)) wA x n)(h:dQ T wA w [(E,.cells (AV fD 0) FT (0,0)),(G,.cells (eK x) ND (0,0))])(hT:∀b∈T,b∈Y)(hl:zs.length+1<=100000)(aj:fJ n k v)(hI:n.Q4=false->∃j:Nat,i=j/\j<n.J9.length)(I:∀w' st' SB',gd dbk pb FD D F M k v frm to down w0 cb Y w' st' SB' (zs++[(x,n,i)])->Fr (cb::(SB++T)) wA w'->(∀b∈SB',b∈SB\/wA.heap.size<=b)->if n.Q4 then K () w' else X (n.J9.getD i.toNat 0) w'): C6 (pW cb) K E x i w G X:=by
 unfold C6;refine oD h 0 rfl (AV x i) fun w1 h f1=>?_;have h:=oF h;have hC:=hA.J0 h hT;refine fG (hC.pI ?_);refine oC h 0 rfl (x.1,x.2.1,x.2.2.1,x.2.2.2,i) rfl<|qAa (x:=x) (n:=n) (i:=i) hC.ug oJ (fun w' f=>?_) fun s' B' w2 ak f2 n2=>?_;obtain⟨sf,aA,T,R⟩:=(hC.q7 f).at
 exact jq R;refine fG ?_;have U:=eV (h.at (i:=1) rfl);have V:=eV (h.at (i:=0) rfl);have am:=h.fr.size;have an:=hN.wS h hT;refine hC.tI w2 f2 ak (fun z hz=>(zD.1 hz).imp id fun hz=>?_) n2 (by rw[zF];exact hl) fun w3 h3 f3=>?_;rw[zE.1 hz];refine⟨an.q8 (f2.mono fun b u _=>by simp[u]) fun b u=>?_,aj⟩;rcases zG.1 u with rfl|u;exact .inl oL;rcases zD.1 u with u|u;exact (n2 b u).imp (fun h=>by simp[h]) id;exact .inl (by simp[u]);have f4:Fr (cb::(SB++T)) wA w3:=(h.fr.mono fun b u _=>by simp[u]).trans (f3.mono fun b u _=>by rcases zG.1 u with rfl|u<;>simp[*]);have ab:∀r,r∈T\/wA.heap.size<=r->r∉cb::SB:=fun r hr hm=>by
  rcases hr with hr|hr;rcases zG.1 hm with rfl|hm;exact hA.yd (hT _ hr);exact hA.vN r hm (hT r hr)
  have:=hA.lt r (by rcases zG.1 hm with rfl|hm<;>simp[*])
  omega
 have ae:w3.heap[G]?=some (.cells (eK x) ND (0,0)):=(by rw[f3.block G U (ab G (h.own (G,.cells (eK x) ND (0,0)) oL))];exact h.at (i:=1) rfl);have aq:w3.heap[E]?=some (.cells (AV x i) FT (0,0)):=(by rw[f3.block E V (ab E (h.own (E,.cells (AV x i) FT (0,0)) oL))];exact h.at (i:=0) rfl);have I:=I w3 s' B' h3 f4 fun b u=>(n2 b u).imp id fun h=>zL am h;have J:x.1=n.Q4:=hN.1;refine iI ae x.1 rfl ?_;apply dV<;>intro R;rw[<- J,R,if_pos rfl] at I;exact I;rw[<- J,R,if_neg oM] at I;refine iI ae x.2.2.2 rfl<|iI aq i rfl ?_;obtain⟨j,rfl,hj⟩:=hI (by rw[<- J,R]);have af:ed iz 1 (cb::(B'++Y)) w3 x.2.2.2 n.J9:=(h3.nodes (x,n,(j:Int)) oL).1.2.2.2.2;refine ed.get af j rfl (zA hj) (y:=n.J9[j]) rfl ?_;rw[zJ,yR,zA hj] at I;exact I
def qwK{T:List Nat}{R:Nat}{X:Int->WP}{K:Unit->WP}(G:gd dbk pb FD D F M k v frm to down w0 cb Y wA st SB zs)(U:eB (cb::(SB++Y)) wA x n)(h:dQ T wA w [(R,.cells (eK fD) ND (0,0))])(E:∀b∈T,b∈Y)(hl:zs.length+1<=100000)(u:fJ n k v)(hI:n.Q4=false->∃j:Nat,jF down frm to n=j/\j<n.J9.length)(kk:∀w' st' SB',gd dbk pb FD D F M k v frm to down w0 cb Y w' st' SB' (zs++[(x,n,jF down frm to n)])->Fr (cb::(SB++T)) wA w'->(∀b∈SB',b∈SB\/wA.heap.size<=b)->if n.Q4 then K () w' else X (n.J9.getD (jF down frm to n).toNat 0) w'): BI (pW cb) K R (x,0) w X:=by
 unfold BI;refine oD h 0 rfl (eK x) fun w1 h f1=>?_;have h:=oF h;refine cond_false rfl<|⟨?_,?_⟩;refine oC h 0 rfl x rfl ?_;obtain⟨V,I,T,J⟩:=(G.J0 h E).at
 refine fG (pK (mX cb down) (jq J) ?_);refine oC h 0 rfl x rfl<|qrk (S:=[]) (G.J0 h E) (U.wS h E) u.2.2.1 (by have:=(uV u).1;omega) fun w2 f2=>?_;have h:=h.q7 f2;refine ig (h.cells 0 rfl rfl)<|oB h fun ab w3 e3 f3 h=>?_;obtain⟨V,I,T,J⟩:=(G.J0 h E).at
 exact l9 (h.cells 1 rfl rfl) (jq J) (h.cells 1 rfl rfl)<|qpV G U h E hl u hI kk;refine oC h 0 rfl x rfl ?_;obtain⟨V,I,T,J⟩:=(G.J0 h E).at
 refine fG (pK (mX cb down) (jq J) ?_);refine oC h 0 rfl x rfl<|oB h fun ab w3 e3 f3 h=>?_;obtain⟨V,I,T,J⟩:=(G.J0 h E).at
 refine l9 (h.cells 1 rfl rfl) (jq J) (h.cells 1 rfl rfl)<|qrk (S:=[]) (G.J0 h E) (U.wS h E) u.2.2.1 (by have:=(uV u).1;omega) fun w2 f2=>?_;have h:=h.q7 f2;exact ig (h.cells 1 rfl rfl)<|qpV G U h E hl u hI kk
def qpd{s:ie}{h:Nat}{K:Unit->WP}(hs:Has D M k v h s)(hu:gI s.x5)(hC:gd dbk pb FD D F M k v frm to down w0 cb Y w st SB zs)(hl:zs.length+h+1<=100000)(kk:∀w' st' SB' zs',gd dbk pb FD D F M k v frm to down w0 cb Y w' st' SB' (zs++zs')->iB D k v M (jF down frm to) (h+1) s.x5=some (zs'.map (·.2))->Fr (cb::SB) w w'->(∀b∈SB',b∈SB\/w.heap.size<=b)->K () w'): cW 82 [dF cb,.u s.x5] [] w K:=by
 refine qhw<|Cm (fun (hh:Nat) p w'=>∃(sg:ie) (G:List qd) (af:Sl) (R:List Nat),p=sg.x5/\gI sg.x5/\Has D M k v hh sg/\gd dbk pb FD D F M k v frm to down w0 cb Y w' af R (zs++G)/\(iB D k v M (jF down frm to) (hh+1) sg.x5).map (G.map (·.2)++·)=iB D k v M (jF down frm to) (h+1) s.x5/\G.length+hh=h/\Fr (cb::SB) w w'/\∀b∈R,b∈SB\/w.heap.size<=b) id h ⟨s,[],st,SB,rfl,hu,hs,by rw[xH];exact hC,oL,oL,.refl _ _,fun b E=>.inl E⟩ ?_;rintro hh p w1 ⟨sg,G,af,R,rfl,aI,av,ab,aw,a1,f1,n1⟩ X hX;have J:∃n,dJ D M k v sg.x5=(n,0)/\(n.Q4=true->hh=0)/\(n.Q4=false->∃h2 V,hh=h2+1/\n=dM V/\∃hj:eh n.J6 (if down then to else frm)<V.length,n.J9.getD (eh n.J6 (if down then to else frm)) 0=V[eh n.J6 (if down then to else frm)].2.x5/\Has D M k v h2 V[eh n.J6 (if down then to else frm)].2):=by
  cases hh with
  | zero=>
   obtain⟨h1,h2,h3,h4⟩:=av;exact⟨_,h3.load h4,fun _=>rfl,(fun e=>nomatch e)⟩
  | succ h2=>
   obtain⟨V,e1,hj,e2,e3⟩:=qxQ (key:=if down then to else frm) av;exact⟨_,e1,(fun e=>nomatch e),fun _=>⟨h2,V,rfl,rfl,hj,e2,e3⟩⟩
 obtain⟨n,J,aK,ax⟩:=J;have ay:=BY J;obtain⟨l1,l2,l3,l4,l5⟩:=uV ay;have am:(dH D M sg.x5).2.2=0/\iA (dH D M sg.x5).1 (dH D M sg.x5).2.1 k v=(n,0):=by unfold dJ at J;split at J;rename_i ag;exact absurd (vB J).2 ag;rename_i he;exact⟨oJ,J⟩
 have az:eH (dH D M sg.x5).2.1:=qhI ab.tw.lim.ok (fun e he=>(ab.tw.wf.body e he).2.2) _;have aL:(zs++G).length+1<=100000:=(by rw[zF];omega);have hI:n.Q4=false->∃j:Nat,jF down frm to n=j/\j<n.J9.length:=fun e=>by
  obtain⟨h2,V,_,rfl,hj,_⟩:=ax e;refine⟨_,?_,by show _<(V.map _).length;rw[zK];exact hj⟩;cases down with
  | false=>
   show jN (dM V) frm=_;exact if_neg (fun g=>nomatch g)
  | true=>
   show ir (dM V) to=_;exact if_neg (fun g=>nomatch g)
 have rest:∀(x:kj) (Y' T:List Nat) (wA wB:World) (r:Nat),gd dbk pb FD D F M k v frm to down w0 cb Y' wA af R (zs++G)->eB (cb::(R++Y')) wA x n->dQ T wA wB [(r,.cells (eK fD) ND (0,0))]->(∀b∈T,b∈Y')->(∀b∈T,w1.heap.size<=b)->(∀b∈Y,b∈Y')->Fr [] w1 wA->BI (pW cb) K r (x,0) wB X:=by
  intro x Y' T wA wB r hA hN hO hT aN hY fA;refine qwK hA hN hO hT aL ay hI fun w2 an ah I f2 n2=>?_;have I:gd dbk pb FD D F M k v frm to down w0 cb Y w2 an ah (zs++(G++[(x,n,jF down frm to n)])):=by rw[<- zV];exact I.q8 (.refl _ _) (fun b E=>.inl (hY b E)) fun b E=>I.lt b (by simp[hY b E])
  have f3:Fr (cb::SB) w w2:=f1.j8 ((fA.mono fun _ h=>nomatch h).trans f2) fun b E=>by rcases zG.1 E with rfl|E;exact .inl oL;rcases zD.1 E with E|E;exact (n1 b E).imp (fun h=>by simp[h]) id;exact .inr (zL f1.size (aN b E))
  have n3:∀b∈ah,b∈SB\/w.heap.size<=b:=fun b E=>by rcases n2 b E with h|h;exact n1 b h;exact .inr (zL f1.size (zL fA.size h))
  by_cases hlf2:n.Q4=true;rw[if_pos hlf2];obtain rfl:=aK hlf2;refine kk w2 an ah (G++[(x,n,jF down frm to n)]) I ?_ f3 n3;rw[<- aw,iB,J,if_neg (fun h=>h rfl),if_pos hlf2];simp
  ·rw[if_neg hlf2];have aA:n.Q4=false:=(oP hlf2);obtain⟨h2,V,rfl,ag,hj,ao,hk⟩:=ax aA;have aB:jF down frm to n=((eh n.J6 (if down then to else frm):Nat):Int):=by
    cases down with
    | false=>
     show jN n frm=_;exact if_neg hlf2
    | true=>
     show ir n to=_;exact if_neg hlf2
   rw[aB,zJ,ao];refine hX h2 _ w2 ⟨_,G++[(x,n,jF down frm to n)],an,ah,rfl,?_,hk,I,?_,by rw[zF,xM];omega,f3,n3⟩ (Nat.lt_succ_self _);rw[<- ao];have aC:eh n.J6 (if down then to else frm)<n.J9.length:=(by rw[ag];show _<(V.map _).length;rw[zK,<- ag];exact hj);rw[yR,zA aC];exact hN.2.1.2.2 _ (zX aC)
   ·rw[<- aw];conv=>rhs;rw[iB,J,if_neg (fun h=>h rfl),if_neg hlf2]
    dsimp only;rw[aB,zJ,ao,Option.map_map];simp[Function.comp_def]
 obtain⟨sf,ap,T,hc⟩:=ab.at
 refine fG (pK (pW pb) (jq hc) ?_);refine TW.read ab.tw aI fun sb w2 aD f2=>?_;have I:=(ab.q7 f2).drew;refine cond_false (by dsimp only;rw[am.1];rfl) ?_;obtain⟨sf,ap,T,hc⟩:=I.at
 have ac:=I.lt;refine⟨?_,?_⟩;refine fG (pK (k:Int) (jq hc) ?_);refine fG (pK (v:Int) (jq hc) ?_);refine EE (k:=k) (v:=v) (aD [] fun _ h=>nomatch h) az fun x B w3 hN f3 aq=>?_;rw[am.2] at hN⊢;have U:=I.q7 f3;refine oB (oE [] w3) fun r w4 e4 f4 h=>?_;obtain⟨sf,ap,T,hc⟩:=(U.q7 f4).at
 refine jU (jq hc) (jq hc)<|rest x Y [] w3 w4 r U (hN.rd (fun b E hm=>?_) fun b E=>.inl ?_) h (fun _ h=>nomatch h) (fun _ h=>nomatch h) (fun b E=>E) (f2.drew.trans f3)
 have:=aq b E;have:=ac b hm;omega
 have:b<w2.heap.size:=ac b E;exact zH _ (mem_range.2 this);refine fG (pK (k:Int) (jq hc) ?_);refine fG (pK (v:Int) (jq hc) ?_);refine oB (oE [] w2.drew) fun r w3 e3 f3 h=>?_;have aQ:=eV (h.at (i:=0) rfl);have U:gd dbk pb FD D F M k v frm to down w0 cb (r::Y) w3 af R (zs++G):=I.q8 (f3.mono fun _ h=>nomatch h) (fun b E=>(zG.1 E).elim (fun e=>.inr (by rw[e,e3];exact zM _)) .inl) fun b E=>by rcases zG.1 E with rfl|E;exact aQ;exact yD (ac b (by simp[E])) f3.size
 obtain⟨sf,ap,T,hc⟩:=U.at
 refine jU (jq hc) (jq hc)<|EE (k:=k) (v:=v) (ed.q7 (w:=w2.drew) (aD [] fun _ h=>nomatch h) f3) az fun x B w4 hN f4 aq=>?_;rw[am.2] at hN⊢;have ak:=U.lt;refine rest x (r::Y) [r] w4 w4 r (U.q7 f4) (hN.rd (fun b E hm=>?_) fun b E=>.inl ?_) (qtT ((h.q7 f4).at (i:=0) rfl)) (fun b E=>by rw[zE.1 E];simp) (fun b E=>?_) (fun b E=>by simp[E]) ((f2.drew.trans f3).trans f4)
 have:=aq b E;have:=ak b hm;omega
 exact zH _ (mem_range.2 (ak b E));rw[zE.1 E,e3];exact f2.size
end
end
section
open Go Go.Pt List
open Go.IntKind (wrap)
open Classical
section
variable {dbk pb:Nat} {FD F:List Nat} {D:dI} {M:dZ} {k v:Nat} {frm to:Key} {down:Bool} {w0 w wA:World} {cb:Nat} {Y SB:List Nat} {st:Sl} {zs:List qd}
def gd.kH{c:Cell}{b j:Nat}{z:qd}{K:c.El->Prop}(h:gd dbk pb FD D F M k v frm to down w0 cb Y w st [b] (zs++[z]))(u:j<5)(x:c.El)(E:(iZ z)[j]?=some (c.mk x))(G:K x):ld c ⟨b,zs.length*5+j,none⟩ w K:=
 pK x ((qym h.ug u).trans E) G
def qvT{h:Nat}{K:Unit->WP}(hp:Path D M k v (jJ down) h (zs.map (·.2)))(hC:gd dbk pb FD D F M k v frm to down w0 cb Y w st SB zs)(kk:∀w' st' SB' zs',gd dbk pb FD D F M k v frm to down w0 cb Y w' st' SB' zs'->zs'.map (·.2)=(iu D k v M (jF down frm to) (jJ down) h (zs.map (·.2))).getD []->Fr (cb::SB) w w'->(∀b∈SB',b∈SB\/w.heap.size<=b)->K () w'): cW 84 [dF cb] [] w K:=by
 refine qhv ?_;have J:=hp.len;have aU:=hC.AB;rw[zK] at J;refine Cm (fun (ab:List kx) (_:PUnit) w'=>∃(u:List qd) (z:qd) (rest:List kx) (h1:Nat) (al:Sl) (ac:List Nat),u.map (·.2)=ab/\gd dbk pb FD D F M k v frm to down w0 cb Y w' al ac (u++[z])/\zs.map (·.2)=ab++rest/\ab.length+h1=h/\iu D k v M (jF down frm to) (jJ down) h1 rest=none/\Fr (cb::SB) w w'/\∀b∈ac,b∈SB\/w.heap.size<=b) List.length (zs.map (·.2)).dropLast ?_ ?_
 ·have I:zs≠[]:=fun e=>by rw[e] at J;simp at J
  have hz:=(vA I).symm;refine⟨zs.dropLast,zs.getLast I,[(zs.getLast I).2],0,st,SB,by rw[map_dropLast],by rw[<- hz];exact hC,?_,by simp;omega,rfl,.refl _ _,fun b G=>.inl G⟩;conv=>lhs;rw[hz]
  simp
 rintro ab _ w1 ⟨u,z,rest,h1,al,ac,rfl,ad,hz,hh,hn,f1,n1⟩ X hX;have av:=ad.AB;rw[zF,xM] at av;have aF:al.len=u.length+1:=(by rw[ad.ug.len,zF];rfl);refine fG (ad.pI (cond_true (by rw[aF];exact yA oJ) ?_));have ae:=ad.drew;refine fG (ae.pI ?_);refine fG (ae.pI ?_);refine qzC ae.ug oJ fun s2 ax=>?_;refine fG ?_;refine ae.tI w1.drew (.refl _ _) ax (fun z hz=>.inl (zH _ hz)) (fun b G=>.inl G) oJ fun w2 am f2=>?_;have ay:Fr (cb::SB) w w2:=f1.j8 ((Fr.refl _ w1).drew.trans f2) fun b G=>by rcases zG.1 G with rfl|G;exact .inl oL;exact (n1 b G).imp (fun h=>by simp[h]) id
 refine fG (am.pI ?_);have az:s2.len=u.length:=ax.len;apply dV<;>intro hc;have hc:(s2.len:Int)=0:=yP.1 hc;have e0:u=[]:=length_eq_zero_iff.1 oJ;subst e0;refine kk w2 s2 ac [] am ?_ ay n1;rw[hz,map_nil,xI];have:h1=h:=(oP hh);rw[<- this,hn];rfl;have hc:¬(s2.len:Int)=0:=zR.1 hc;have I:u≠[]:=fun e=>by rw[e] at az;simp at az;omega
 obtain⟨R,y,rfl⟩:∃R y,u=R++[y]:=⟨u.dropLast,u.getLast I,(vA I).symm⟩;rw[xN,xO,map_nil,zV,singleton_append] at hz;rw[xN,xO,map_nil,zF,xM] at hh;have af:(R.map (·.2)).length+(h1+1)=h:=oJ;have an:Path D M k v (jJ down) (h1+1) (y.2::rest):=by rw[hz,<- af] at hp;exact hp.drop
 obtain⟨E,i,up,ey,a3,a4,aB,_⟩:=an;obtain⟨yx,yf⟩:=y;have aG:yf=(dM E,i):=(vC ey).1;subst aG;have ag:=am.drew;rw[zF,xM] at av;refine fG (ag.pI ?_);refine fG (ag.pI ?_);refine qtY ag.ug oJ fun b hB=>?_;subst hB;have ah:=ag.drew;obtain⟨sf,a7,T,aH⟩:=ah.at
 have ap:=ah.nodes (yx,dM E,i) oL;have ai:(dM E).J9.length=E.length:=(by show (E.map (·.2.x5)).length=_;rw[zK]);have aX:E.length<=498:=(by rw[<- ai];exact (uV ap.2).2.2.1);refine fG (pK (mH cb down) (jq aH) ?_);refine ah.kH (j:=4) oM i rfl ?_;refine qxb oJ ?_;have aY:-1<=jJ down i/\jJ down i<=1000000:=(by unfold jJ;split<;>omega);refine ah.vw fun w3 aI f3=>?_;have U:=aI.drew;have aq:Fr (cb::SB) w w3:=ay.j8 (((Fr.refl _ w2).drew.drew).trans f3) fun b' G=>by rw[zE.1 G];exact (n1 b oL).imp (fun h=>by simp[h]) id
 have aJ:yx.2.2.2.len=E.length:=(by rw[ap.1.2.2.2.2.1,ai]);have V:=qu0 (x:=(dM E,i)) hn;refine hU (fun q w'=>q=decide (0<=jJ down i/\jJ down i<E.length)/\w'=w3.drew) ?_ ?_;refine U.kH (j:=4) oM (jJ down i) rfl ?_;apply dV<;>intro h;have h:=zC h;refine U.kH (j:=4) oM (jJ down i) rfl ?_;refine U.kH (j:=3) oM yx.2.2.2 rfl ?_;exact⟨decide_eq_decide.2 (by rw[aJ];omega),rfl⟩;have h:=zB h;exact⟨(zU fun g=>h g.1).symm,rfl⟩;rintro q w4 ⟨rfl,rfl⟩;have aj:=U.drew;apply dV<;>intro h;obtain⟨h5,h6⟩:=zC h;obtain⟨j,hj⟩:∃j:Nat,jJ down i=j:=⟨(jJ down i).toNat,oJ⟩;have aC:j<E.length:=oJ;refine aj.kH (j:=3) oM yx.2.2.2 rfl ?_;refine aj.kH (j:=4) oM (jJ down i) rfl ?_;have aL:ed iz 1 _ w3.drew.drew yx.2.2.2 (dM E).J9:=(aj.nodes (yx,dM E,jJ down i) oL).1.2.2.2.2;have ar:(dM E).J9[j]?=some E[j].2.x5:=(by show (E.map (·.2.x5))[j]?=_;rw[zQ,zA aC];rfl);refine ed.get aL j hj ar (y:=E[j].2.x5) rfl ?_;refine qpd (aB j hj aC) (ap.1.2.1.2.2 _ (yF ar)) aj (by rw[zF,xM];rw[zK] at af;omega) fun w5 aM aN aO aP aQ f5 n5=>?_;refine kk w5 aM aN _ aP ?_ (aq.j8 ((Fr.refl _ w3).drew.drew.trans f5) fun b' G=>?_) fun b' G=>?_;have e1:iu D k v M (jF down frm to) (jJ down) (h1+1) ((dM E,i)::rest)=some ((dM E,jJ down i)::aO.map (·.2)):=(by rw[V,tK,if_pos ⟨by dsimp only;omega,by dsimp only;rw[ai];exact h6⟩];dsimp only;rw[hj,zJ,yR,ar];simp only[xV];rw[aQ];rfl);rw[hz,<- af,qpJ e1];simp;rcases zG.1 G with rfl|G;exact .inl oL;exact (n1 b' G).imp (fun h=>by simp[h]) id;rcases n5 b' G with h|h;exact n1 b' h;exact .inr (zL aq.size h);have h:=zB h;refine hX (R.map (·.2)) _ _ ⟨R,(yx,dM E,jJ down i),(dM E,i)::rest,h1+1,s2,[b],rfl,U,hz,af,?_,aq.drew,n1⟩ ?_;rw[V,tK,if_neg fun g=>h ⟨g.1,by have:=g.2;dsimp only at this;rw[ai] at this;exact this⟩];simp
end
end
section
open Go Go.Pt List
open Go.IntKind (wrap)
open Classical
section
variable {D:dI} {M:dZ} {k v:Nat} {frm to:Key} {down:Bool}
def lJ (D:dI) (M:dZ) (k v:Nat) (frm to:Key) (down:Bool) (h:Nat) (u:List kx) (T:fR):Prop:=if down then ml D M k v to h u T else mc D M k v frm h u T
def om (down:Bool) (h:Nat) (u:List kx):Prop:=if down then ki h u else kb h u
def lJ.path{h:Nat}{u:List kx}{T:fR}(E:lJ D M k v frm to down h u T):Path D M k v (jJ down) h u:=by
 cases down with
 | false=>exact mc.path (frm:=frm) E
 | true=>exact ml.path (to:=to) E
def lJ.told{h:Nat}{E:List kx}{T:fR}(G:lJ D M k v frm to down h E T):om down h E\/∃(u:fR) (i:Nat) (lo:List kx) (hi:i<u.length) (T':fR),E=lo++[(ef u,(i:Int))]/\T=u[i]::T'/\lJ D M k v frm to down h (lo++[(ef u,jJ down i)]) T':=by
 cases down with
 | false=>exact qtZ (frm:=frm) G
 | true=>exact qqc (to:=to) G
def lJ.next{h:Nat}{G:List kx}{T:fR}(I:lJ D M k v frm to down h G T)(J:om down h G):(iu D k v M (jF down frm to) (jJ down) h G=none/\T=[])\/∃u,iu D k v M (jF down frm to) (jJ down) h G=some u/\lJ D M k v frm to down h u T/\¬om down h u:=by
 cases down with
 | false=>
  rcases qtQ (frm:=frm) I J with E|⟨u,E,R⟩;exact .inl E;exact .inr ⟨u,E,R,qi5 (frm:=frm) I J E⟩
 | true=>
  rcases qpK (to:=to) I J with E|⟨u,E,R⟩;exact .inl E;exact .inr ⟨u,E,R,qgF (to:=to) I J E⟩
def kb.qm:∀ {h:Nat} {E:List kx},kb h E->∃(lo:List kx) (u:fR),E=lo++[(ef u,(u.length:Int))]
 | 0,_,⟨u,e⟩=>⟨[],u,e⟩
 | _+1,[],h=>h.elim
 | h+1,x::I,G=>by obtain⟨lo,u,e⟩:=kb.qm (h:=h) G;exact⟨x::lo,u,by rw[e];rfl⟩
def ki.qm:∀ {h:Nat} {E:List kx},ki h E->∃(lo:List kx) (u:fR),E=lo++[(ef u,-1)]
 | 0,_,⟨u,e⟩=>⟨[],u,e⟩
 | _+1,[],h=>h.elim
 | h+1,x::I,G=>by obtain⟨lo,u,e⟩:=ki.qm (h:=h) G;exact⟨x::lo,u,by rw[e];rfl⟩
def om.qm{h:Nat}{E:List kx}(G:om down h E):∃(lo:List kx) (u:fR) (i:Int),E=lo++[(ef u,i)]/\¬(0<=i/\i<u.length):=by
 cases down with
 | false=>
  obtain⟨lo,u,e⟩:=kb.qm G;exact⟨lo,u,_,e,oJ⟩
 | true=>
  obtain⟨lo,u,e⟩:=ki.qm G;exact⟨lo,u,_,e,oJ⟩
def Left (D:dI) (M:dZ) (k v:Nat) (frm to:Key) (down:Bool) (n:Nat) (u:List kx) (L:fR):Prop:=
 (u=[]/\L=[])\/∃h T,lJ D M k v frm to down h u T/\L=T.takeWhile (fun x=>!nm down frm to x.1)/\(n=0->¬om down h u)
def qu7{h:Nat}{s:ie}(u:Has D M k v h s):∃E,iB D k v M (jF down frm to) (h+1) s.x5=some E/\lJ D M k v frm to down h E (if down then (ul to s.y4).reverse else mS frm s.y4):=by
 cases down with
 | false=>exact Ga u
 | true=>exact Ez u
def Ff{α:Type}{p:α->Bool}:∀ {l:List α},l.Pairwise (fun a b=>p b=true->p a=true)->l.takeWhile p=l.filter p
 | [],_=>rfl
 | a::l,h=>by have E:=yJ.1 h;rw[takeWhile_cons,filter_cons];split;rw[Ff E.2];rename_i G;exact (filter_eq_nil_iff.2 fun b I u=>G (E.1 b I u)).symm
end
end
section
open Go Go.Pt List
open Go.IntKind (wrap)
open Classical
variable {B S:List Nat} {K:Sl->WP} {L:fR} {P:List Int} {l:List (HL jd)} {s:Sl} {w:World}
abbrev Ba:TypeId:=104
def xf (a b:Sl):Array Value:=#[a.v,b.v]
@[reducible] def BW:List Cell:=[.slice,.slice]
section
variable {dbk pb:Nat} {FD F:List Nat} {D:dI} {M:dZ} {k v:Nat} {frm to:Key} {down:Bool} {w0 w wA:World} {cb:Nat} {Y SB:List Nat} {st:Sl} {zs:List qd}
def qyf{n:dL}(h:fJ n k v)(G:n.Q4=true):k<=24/\v<=108:=by obtain⟨_,_,_,E⟩:=h;rw[if_pos G] at E;have u:=E.2.2.1;unfold dW at u;split at u;dsimp only at u;omega;omega
def qo3{K:(Sl×Sl)×Bool->WP}(hC:gd dbk pb FD D F M k v frm to down w0 cb Y w st SB zs)(hL:Left D M k v frm to down 1 (zs.map (·.2)) L)(k0:L=[]->∀w',gd dbk pb FD D F M k v frm to down w0 cb Y w' dG [] []->Fr (cb::SB) w w'->K ((dG,dG),false) w')(k1:∀x L',L=x::L'->∀ks vs B1 B2 w' st' SB' zs',fV w' ks x.1 B1->fV w' vs x.2 B2->gd dbk pb FD D F M k v frm to down w0 cb (B1++(B2++Y)) w' st' SB' zs'->Left D M k v frm to down 1 (zs'.map (·.2)) L'->Fr (cb::SB) w w'->(∀b∈SB',b∈SB\/w.heap.size<=b)->(∀b∈B1,w.heap.size<=b)->(∀b∈B2,w.heap.size<=b)->(∀b∈B1,b∉B2)->K ((ks,vs),true) w'): cW 40 [dF cb] [.agg BW,.one .bool] w K:=by
 refine qhs (c:=pW cb)<|oB (oE [] w) fun r w1 e1 f1 h=>?_;have hrl:=eV (h.at (i:=0) rfl);dsimp only at hrl;have hltw:=hC.lt;have hC1:gd dbk pb FD D F M k v frm to down w0 cb (r::Y) w1 st SB zs:=hC.q8 (f1.mono fun _ h=>nomatch h) (fun b hb=>(zG.1 hb).elim (fun e=>.inr (by rw[e,e1];exact zM _)) .inl) fun b hb=>by rcases zG.1 hb with rfl|hb;exact hrl;exact yD (hltw b (by simp[hb])) f1.size
 have hr1:w1.heap[r]?=some (.cells (xf dG dG) Ba (0,0)):=h.at (i:=0) rfl;have hrS:r∉cb::SB:=fun hm=>by
  have:=hltw r (by rcases zG.1 hm with h|h<;>simp[h])
  omega
 have hfr:∀ {w':World},Fr (cb::SB) w1 w'->w'.heap[r]?=some (.cells (xf dG dG) Ba (0,0)):=fun f=>by rw[f.block r hrl hrS];exact hr1
 clear h;refine hU (fun _ w'=>L=[]/\Fr (cb::SB) w1 w'/\∃st' SB' zs',gd dbk pb FD D F M k v frm to down w0 cb (r::Y) w' st' SB' zs'/\∀b∈SB',b∈SB\/w1.heap.size<=b) ?_ ?_
 ·refine Cm (fun (n:Nat) (_:PUnit) w'=>Fr (cb::SB) w1 w'/\∃st' SB' zs',gd dbk pb FD D F M k v frm to down w0 cb (r::Y) w' st' SB' zs'/\(∀b∈SB',b∈SB\/w1.heap.size<=b)/\Left D M k v frm to down n (zs'.map (·.2)) L) id 1 ⟨.refl _ _,st,SB,zs,hC1,fun b hb=>.inl hb,hL⟩ ?_;rintro n _ w2 ⟨f2,st2,SB2,zs2,hC2,n2,hL2⟩ X hX;refine fG (hC2.pI ?_);have hsl:st2.len=zs2.length:=hC2.ug.len;apply dV<;>intro hc;rotate_left;have hc:=zB hc;have e0:zs2=[]:=length_eq_zero_iff.1 oJ;refine⟨?_,f2,st2,SB2,zs2,hC2,n2⟩;rcases hL2 with h|⟨hh,T,ht,_,_⟩;exact h.2
  have:=ht.path.len
  rw[e0] at this;simp at this;have hc:=zC hc;have hne:zs2≠[]:=fun e=>by rw[e] at hsl;simp at hsl;omega
  rcases hL2 with ⟨h,_⟩|⟨hh,T,ht,hLT,hnd⟩;exact absurd (map_eq_nil_iff.1 h) hne;have htop:∃(lo:List kx) (y4:fR) (i:Int),zs2.map (·.2)=lo++[(ef y4,i)]/\((om down hh (zs2.map (·.2))/\¬(0<=i/\i<y4.length))\/∃j:Nat,i=j/\∃hj:j<y4.length,∃T',T=y4[j]::T'/\lJ D M k v frm to down hh (lo++[(ef y4,jJ down i)]) T'):=by rcases ht.told with hd|⟨y4,j,lo,hj,T',e1,e2,e3⟩;obtain⟨lo,y4,i,e,hi⟩:=hd.qm;exact⟨lo,y4,i,e,.inl ⟨hd,hi⟩⟩;exact⟨lo,y4,j,e1,.inr ⟨j,rfl,hj,T',e2,e3⟩⟩
  obtain⟨lo,y4,i,ez,hcase⟩:=htop;obtain⟨zlo,zr,rfl,rfl,ezr⟩:=map_eq_append_iff.1 ez;obtain⟨⟨zx,zf⟩,rfl,ezf⟩:=map_eq_singleton_iff.1 ezr;have ezf:zf=(ef y4,i):=ezf;subst ezf;have hfew:=hC2.AB;rw[zF,xM] at hfew;have hD2:=hC2.drew;refine fG (hD2.pI ?_);refine fG (hD2.pI ?_);refine qtY hD2.ug oJ fun b hB=>?_;subst hB;have hE2:=hD2.drew;have hny:=hE2.nodes (zx,ef y4,i) oL;have hkl:(ef y4).J6.length=y4.length:=zK ..;have hkl2:y4.length<=498:=(by rw[<- hkl];exact (uV hny.2).1);obtain⟨hzl,hNB,⟨pk,hpk,hpke⟩,⟨pv,hpv,hpve⟩,_⟩:=hny.1;dsimp only at hzl hpk hpke hpv hpve;have hpkl:pk.length=y4.length:=(by rw[<- hkl,<- hpke,zK]);have hpvl:pv.length=y4.length:=by have:(ef y4).Q0.length=y4.length:=zK ..;rw[<- this,<- hpve,zK]
  refine hU (fun q w'=>q=decide (0<=i/\i<y4.length)/\w'=w2.drew.drew) ?_ ?_;refine hE2.kH (c:=.bool) (j:=0) oM zx.1 rfl<|cond_true hzl<|hE2.kH (c:=.i) (j:=4) oM i rfl ?_;apply dV<;>intro h;have h:=zC h;exact hE2.kH (c:=.i) (j:=4) oM i rfl<|hE2.kH (c:=.slice) (j:=1) oM zx.2.1 rfl<|⟨decide_eq_decide.2 (by rw[hpk.len,hpkl];omega),rfl⟩;have h:=zB h;exact⟨(zU fun g=>h g.1).symm,rfl⟩;rintro q w3 ⟨rfl,rfl⟩;have hpth:=ht.path;apply dV<;>intro h;rotate_left;have h:=zB h;have hd:om down hh ((zlo++[(zx,ef y4,i)]).map (·.2)):=by rcases hcase with hd|⟨j,rfl,hj,_⟩;exact hd.1;exact absurd ⟨oJ,oJ⟩ h
  have hn1:n≠0:=fun e=>hnd e hd;refine qvT hpth hE2 fun w4 st4 SB4 zs4 hC4 hz4 f4 n4=>?_;have f14:Fr (cb::SB) w1 w4:=f2.j8 ((Fr.refl _ w2).drew.drew.trans f4) fun b' hb=>by rcases zG.1 hb with rfl|hb;exact .inl oL;exact (n2 b' hb).imp (fun h=>by simp[h]) id
  have n14:∀b'∈SB4,b'∈SB\/w1.heap.size<=b':=fun b' hb=>by rcases n4 b' hb with h|h;exact n2 b' h;exact .inr (zL f2.size h)
  refine hX 0 _ w4 ⟨f14,st4,SB4,zs4,hC4,n14,?_⟩ (by show 0<n;omega);rcases ht.next hd with ⟨e2,rfl⟩|⟨fs',e2,e3,e4⟩
  rw[e2] at hz4;exact .inl ⟨hz4,hLT⟩;rw[e2] at hz4;have hz4:zs4.map (·.2)=fs':=hz4;rw[hz4];exact .inr ⟨hh,T,e3,hLT,fun _=>e4⟩;have h:=zC h;obtain⟨j,rfl,hj,T',hT,ht'⟩:∃j:Nat,i=j/\∃hj:j<y4.length,∃T',T=y4[j]::T'/\lJ D M k v frm to down hh (zlo.map (·.2)++[(ef y4,jJ down i)]) T':=by rcases hcase with hd|hd;exact absurd h hd.2;exact hd
  have hG2:=hE2.drew;refine hG2.kH (c:=.slice) (j:=1) oM zx.2.1 rfl<|hG2.kH (c:=.i) (j:=4) oM (j:Int) rfl ?_;have hjk:j<pk.length:=oJ;have hjv:j<pv.length:=oJ;refine js.get (hpk.q7 (Fr.refl [] _).drew) j rfl hjk<|hG2.kH (c:=.slice) (j:=2) oM zx.2.2.1 rfl<|hG2.kH (c:=.i) (j:=4) oM (j:Int) rfl<|js.get (hpv.q7 (Fr.refl [] _).drew) j rfl hjv ?_;have hH2:=hG2.drew;obtain⟨sf,sto,Tc,hcc⟩:=hH2.at
  refine fG (pK (c:=.any) (mH cb down) (jq hcc) ?_);refine hH2.kH (c:=.i) (j:=4) oM (j:Int) rfl<|qxb oJ<|hH2.vw fun w5 hC5 f5=>?_;have f15:Fr (cb::SB) w1 w5:=f2.j8 ((Fr.refl _ w2).drew.drew.drew.drew.trans f5) fun b' hb=>by rw[zE.1 hb];exact (n2 b oL).imp (fun h=>by simp[h]) id
  obtain⟨sf,sto,Tc,hcc⟩:=hC5.at
  refine fG (pK (c:=.any) (nP cb down) (jq hcc) ?_);have f5':Fr (cb::([b]++(r::Y))) w2.drew.drew w5:=(Fr.refl _ w2.drew.drew).drew.drew.trans (f5.mono fun x hx _=>by rw[zE.1 hx];simp);have hks:eE (cb::([b]++(r::Y))) w5 pk[j].1 pk[j].2:=(hpk.2 _ (zX hjk)).q8 f5' fun x hx=>.inl hx;have hvs:eE (cb::([b]++(r::Y))) w5 pv[j].1 pv[j].2:=(hpv.2 _ (zX hjv)).q8 f5' fun x hx=>.inl hx;have ek:pk[j].2=y4[j].1:=by
   have:=congrArg (·[j]?) hpke
   dsimp only [ef] at this;rw[zQ,zQ,zA hjk,zA hj] at this;exact yO this
  have ev:pv[j].2=y4[j].2:=by
   have:=congrArg (·[j]?) hpve
   dsimp only [ef] at this;rw[zQ,zQ,zA hjv,zA hj] at this;exact yO this
  rw[ek] at hks;rw[ev] at hvs;have hkB:eH y4[j].1:=hNB.1 _ (zZ (zX hj));have hkn:y4[j].1.length=k:=hny.2.1 _ (zZ (zX hj));have hvn:y4[j].2.length=v:=hny.2.2.1 _ (zZ (zX hj));have hkv:=qyf hny.2 rfl;refine qzp hC5 hks hkB ?_;apply dV<;>intro ho;refine⟨?_,f15,st2,[b],_,hC5,n2⟩;rw[hLT,hT,takeWhile_cons,ho];rfl;refine Ad hks oJ fun s1 B1 w6 b6 f6 n6 _ _=>Ad (hvs.q7 f6) oJ fun s2 B2 w7 b7 f7 n7 _ _=>?_;have hr7:=hfr (f15.trans ((f6.trans f7).mono fun _ h=>nomatch h));refine rm hr7 (xf s1 s2) rfl rfl (zO rfl) fun w8 hr8 f8=>CS hr8 (s1,s2) rfl ?_;have hC7:=(hC5.q7 f6).q7 f7;have hn1:∀b'∈B1,w5.heap.size<=b':=n6;have hn2:∀b'∈B2,w5.heap.size<=b':=fun b' hb=>zL f6.size (n7 b' hb);have hz5:=f15.size;have hz1:=f1.size;have h12:∀b'∈B1,b'∉B2:=fun b' hb hm=>by have:=b6.lt b' hb;have:=n7 b' hm;omega
  have hrn:∀b'∈B1++B2,b'≠r:=fun b' hb e=>by
   rcases zD.1 hb with hb|hb
   have:=hn1 b' hb;omega
   have:=hn2 b' hb;omega
  have b8:fV w8 s1 y4[j].1 B1:=(b6.q7 f7).q8 f8 fun b' hb hm=>hrn b' (by simp[hb]) (zE.1 hm);have b9:fV w8 s2 y4[j].2 B2:=b7.q8 f8 fun b' hb hm=>hrn b' (by simp[hb]) (zE.1 hm);have hC8:gd dbk pb FD D F M k v frm to down w0 cb (B1++(B2++Y)) w8 st2 [b] (zlo++[(zx,ef y4,jJ down j)]):=by have hA:gd dbk pb FD D F M k v frm to down w0 cb (B1++(B2++(r::Y))) w7 st2 [b] (zlo++[(zx,ef y4,jJ down j)]):=hC5.q8 ((f6.trans f7).mono fun _ h=>nomatch h) (fun b' hb=>?_) fun b' hb=>?_;exact hA.q8 (f8.mono fun b' hb _=>by rw[zE.1 hb];simp) (fun b' hb=>.inl (by simp only[zD] at hb⊢;rcases hb with h|h|h<;>simp[h])) fun b' hb=>yD (hA.lt b' (by simp only[zD,zG] at hb⊢;rcases hb with h|h|h<;>simp[h])) f8.size;rcases zD.1 hb with h|hb;exact .inr (hn1 b' h);rcases zD.1 hb with h|hb;exact .inr (hn2 b' h);exact .inl hb;rcases zD.1 hb with h|hb;exact (b6.q7 f7).lt b' h;rcases zD.1 hb with h|hb;exact b7.lt b' h;exact hC7.lt b' (by simp only[zG,zD];exact .inr (.inr (zG.1 hb)))
  refine k1 y4[j] (T'.takeWhile fun x=>!nm down frm to x.1) (by rw[hLT,hT,takeWhile_cons,ho];rfl) s1 s2 B1 B2 w8 st2 [b] _ b8 b9 hC8 (.inr ⟨hh,T',by rw[xN];exact ht',rfl,fun e=>absurd e oM⟩) ?_ (fun b' hb=>(n2 b' hb).imp id fun h=>zL hz1 h) (fun b' hb=>zL (zL hz1 hz5) (hn1 b' hb)) (fun b' hb=>zL (zL hz1 hz5) (hn2 b' hb)) h12;refine ((f1.mono fun _ h=>nomatch h).trans (f15.trans ((f6.trans f7).mono fun _ h=>nomatch h))).j8 f8 fun b' hb=>.inr ?_;rw[zE.1 hb,e1];exact zM _
 rintro _ w2 ⟨hL0,f2,st2,SB2,zs2,hC2,n2⟩;refine fG<|hC2.tI (st':=dG) (SB':=[]) (zs':=[]) w2 (.refl _ _) (.nil _ _ _) (fun z hz=>nomatch hz) (fun b hb=>nomatch hb) (yX _) fun w3 hC3 f3=>?_;have f13:Fr (cb::SB) w1 w3:=f2.j8 f3 fun b hb=>by rcases zG.1 hb with rfl|hb;exact .inl oL;exact (n2 b hb).imp (fun h=>by simp[h]) id
 refine rm (hfr f13) (xf dG dG) rfl rfl (zO rfl) fun w4 hr4 f4=>CS hr4 (dG,dG) rfl<|k0 hL0 w4 (hC3.q8 (f4.mono fun b hb _=>by rw[zE.1 hb];simp) (fun b hb=>.inl (by simp[hb])) fun b hb=>yD (hC3.lt b (by simp[hb])) f4.size) (((f1.mono fun _ h=>nomatch h).trans f13).j8 f4 fun b hb=>.inr ?_);rw[zE.1 hb,e1];exact zM _
end
section
def gF (down:Bool) (frm to:Key) (L:fR):fR:=if down then (kU frm to L).reverse else kU frm to L
def qya{frm to:Key}(I:fg L):(mS frm L).takeWhile (fun x=>!nm false frm to x.1)=kU frm to L:=by
 unfold mS;rw[Ff];rw[filter_filter];unfold kU;congr 1;funext x;unfold um nm fE
 have:=F9 x.1 to
 by_cases E:cmpL x.1 frm<0<;>by_cases u:cmpL x.1 to>0<;>simp[E,u]<;>omega;refine ((pairwise_map.1 I).filter _).imp ?_;intro a b G h;unfold nm at h⊢;simp only[Bool.false_eq_true,if_false,zT,decide_eq_false_iff_not] at h⊢;intro J;have E:fE to a.1:=(by unfold fE;rw[tu];omega);have u:=pw E G;unfold fE at u;rw[tu] at u;omega
def qva{frm to:Key}(E:fg L):(ul to L).reverse.takeWhile (fun x=>!nm true frm to x.1)=(kU frm to L).reverse:=by unfold ul;rw[Ff];rw[filter_reverse,filter_filter];unfold kU;congr 2;funext x;have e:fE to x.1↔cmpL x.1 to>0:=(by unfold fE;rw[tu to x.1];omega);have G:decide (cmpL x.1 frm>=0) = !decide (cmpL x.1 frm<0):=(by rw[<- decide_not];exact decide_eq_decide.2 oJ);have I:decide (¬fE to x.1)=decide (cmpL x.1 to<=0):=decide_eq_decide.2 (by rw[e];omega);unfold um nm;simp only[if_true];rw[G,I];rw[pairwise_reverse];refine ((pairwise_map.1 E).filter _).imp ?_;intro a b u h;unfold nm at h⊢;simp only[if_true,zT,decide_eq_false_iff_not] at h⊢;intro J;exact h (pw u J)
section
variable {dbk pb:Nat} {FD F:List Nat} {D:dI} {M:dZ} {k v:Nat} {frm to:Key} {down:Bool} {w0 w wA:World} {cb:Nat} {Y SB:List Nat} {st:Sl} {zs:List qd}
def fV.cV{w:World}{l:List Int}(h:fV w s l B)(u:∀b∈B,b∉S):eE S w s l:=h.jw lr u
def qqY{t:Int}{sf sto:Sl}{K:Option Addr->WP}(hT:TW dbk pb FD D 900000 w Y F M)(hs:rG t=((k:Int),(v:Int)))(hL:(k=0/\L=[])\/(k≠0/\fS D M k v t L P))(hLl:L.length<=90000)(hf:eE S w sf frm)(ht:eE S w sto to)(hfl:frm.length<=1000000)(htl:to.length<=1000000)(hfB:eH frm)(htB:eH to)(kk:∀cb w' st SB zs,gd dbk pb FD D F M k v frm to down w cb Y w' st SB zs->Left D M k v frm to down 1 (zs.map (·.2)) (gF down frm to L)->Fr [] w w'->K (pW cb) w'): cW 37 [dF pb,.i t,sf.v,sto.v,.bool down] dw w K:=by
 refine qm5 (p:=pW pb) (t:=t) (from_:=sf) (to:=sto) (down:=down)<|qqV ?_;rw[hs];refine Ad hf hfl fun s1 B1 w1 b1 f1 n1 _ _=>Ad (ht.q7 f1) htl fun s2 B2 w2 b2 f2 n2 _ _=>oB (oE [] w2) fun cb w3 e3 f3 h=>?_;have hnf:(#[dF pb,.i (k:Int),.i (v:Int),s1.v,s2.v,.slice none 0 0,.nilFunc,.nilFunc,.nilFunc]:Array Value)=(px.cells ⟨pb,k,v,s1,s2,dG,.nilFunc,.nilFunc,.nilFunc⟩):=rfl;refine oD h 0 rfl (px.cells ⟨pb,k,v,s1,s2,dG,mH cb false,.nilFunc,.nilFunc⟩) fun w4 h f4=>oD h 0 rfl (px.cells ⟨pb,k,v,s1,s2,dG,mH cb false,mX cb false,.nilFunc⟩) fun w5 h f5=>oD h 0 rfl (px.cells ⟨pb,k,v,s1,s2,dG,mH cb false,mX cb false,nP cb false⟩) fun w6 h f6=>hU (fun _ w'=>∃T,dQ [] w2 w' [(cb,.cells (px.cells ⟨pb,k,v,s1,s2,dG,mH cb down,mX cb down,nP cb down⟩) T (0,0))]) ?_ ?_;cases down with
 | false=>exact cond_false rfl ⟨_,h⟩
 | true=>
  exact cond_true rfl<|oD h 0 rfl (px.cells ⟨pb,k,v,s1,s2,dG,mH cb true,mX cb false,nP cb false⟩) fun w7 h f7=>oD h 0 rfl (px.cells ⟨pb,k,v,s1,s2,dG,mH cb true,mX cb true,nP cb false⟩) fun w8 h f8=>oD h 0 rfl (px.cells ⟨pb,k,v,s1,s2,dG,mH cb true,mX cb true,nP cb true⟩) fun w9 h f9=>⟨_,h⟩
 rintro _ w7 ⟨T,h⟩;have f07:Fr [] w w7:=(f1.trans f2).trans h.fr;have hcl:=eV (h.at (i:=0) rfl);dsimp only at hcl;have hz1:=f1.size;have hz2:=f2.size;have hT7:=hT.q7 f07;have hylt:=hT.qx;have hcw:w.heap.size<=cb:=oJ;have hC:gd dbk pb FD D F M k v frm to down w cb Y w7 dG [] []:=by
  refine⟨⟨s1,s2,⟨T,h.at (i:=0) rfl⟩,fV.cV ((b1.q7 f2).q7 h.fr) (fun b hb hm=>?_),fV.cV (b2.q7 h.fr) (fun b hb hm=>?_)⟩,?_,.nil _ _ _,(fun z hz=>nomatch hz),(fun h=>nomatch h),(fun hm=>?_),(fun b hb=>nomatch hb),(fun b hb=>?_),hfB,htB,yX _⟩
  have:=b1.lt b hb;have:=n1 b hb
  rcases zG.1 hm with rfl|hm;omega
  have:=hylt b (oP hm);omega
  have:=b2.lt b hb;have:=n2 b hb
  rcases zG.1 hm with rfl|hm;omega
  have:=hylt b (oP hm);omega
  exact hT.Bb (B:=[cb]) (f07.mono fun _ h=>nomatch h) fun b hb=>by rw[zE.1 hb];exact⟨hcw,hcl⟩
  have:=hylt cb hm;omega
  rw[zE.1 hb];exact hcw
 refine hU (fun _ w'=>∃st SB zs,gd dbk pb FD D F M k v frm to down w cb Y w' st SB zs/\Left D M k v frm to down 1 (zs.map (·.2)) (gF down frm to L)/\Fr [] w w') ?_ ?_;refine TW.J5 hT7 fun w8 f8=>?_;have hC8:=hC.q7 f8;refine hU (fun q w'=>q=decide (0<k/\(dX M t).1≠0)/\w'=w8) ?_ ?_;refine dV (fun h=>⟨?_,rfl⟩) (fun h=>⟨?_,rfl⟩);have h:=zC h;rw[Bool.eq_iff_iff,yN,zT,zR];exact⟨fun g=>⟨oJ,g⟩,fun g=>g.2⟩;have h:=zB h;exact (zU fun g=>h oJ).symm;rintro q w9 ⟨rfl,rfl⟩;have h0:L=[]->Left D M k v frm to down 1 ([]:List kx) (gF down frm to L):=fun e=>.inl ⟨rfl,by rw[e];unfold gF kU;simp⟩;apply dV<;>intro hq;obtain⟨hk,hr⟩:=zC hq;obtain⟨_,hTr⟩:k≠0/\fS D M k v t L P:=hL.resolve_left fun h=>by omega
 have hrh:=(qob hTr).1;rcases hTr with ⟨e,_,_⟩|⟨hh,n,p,hp,e,hHas⟩;rw[e] at hr;exact absurd rfl hr;have hrh2:hh+1<=L.length:=by rw[e] at hrh;exact hrh
 have hpu:gI p:=by
  have:=(Dr hT.wf t).1
  rw[e] at this;exact this
 rw[e];refine qpd (s:=⟨p,n,L,P⟩) hHas hpu hC8 (by show 0+hh+1<=100000;omega) fun w10 st10 SB10 zs10 hC10 hp10 f10 n10=>⟨st10,SB10,zs10,hC10,?_,(f07.trans f8).j8 f10 fun b hb=>.inr ?_⟩;obtain⟨fs,e1,e2⟩:=qu7 (frm:=frm) (to:=to) (down:=down) hHas;rw[hp10] at e1;have e1:=yO e1;rw[e1];refine .inr ⟨hh,_,e2,?_,fun e=>absurd e oM⟩;have hso:=hHas.sort;unfold gF;cases down with
 | false=>exact (qya hso).symm
 | true=>exact (qva hso).symm
 rw[zE.1 hb];exact hcw;have hq:=zB hq;have hLn:L=[]:=by rcases hL with h|⟨hk,hTr⟩;exact h.2;rcases hTr with ⟨_,h,_⟩|⟨hh,n,p,hp,e,hHas⟩;exact h;exact absurd ⟨oJ,by rw[e];exact hp⟩ hq
 exact⟨dG,[],[],hC8,h0 hLn,f07.trans f8⟩;rintro _ w8 ⟨st8,SB8,zs8,hC8,hL8,f8⟩;exact kk cb w8 st8 SB8 zs8 hC8 hL8 f8
end
end
section
abbrev SS:=Sl×Sl
def mR (x:SS):List Value:=[x.1.v,x.2.v]
def qpo:∀z,(mR z).length=2:=fun _=>rfl
def qv5(z:SS):∀u∈mR z,u.oneCell'=true:=fun u h=>by unfold mR at h;simp only[zG,xX,or_false] at h;rcases h with rfl|rfl<;>rfl
def qzX:∃i,Tryz.prog.info? Ba=some i/\i.zero=some (.agg dd)/\i.size=2/\i.bytes=48:=th oK
def qAb{zs:List SS}{SB:List Nat}{x:SS}(h:eP mR 2 w s zs SB)(U:zs.length<=1000000)(I:∀G B' w',eP mR 2 w' G (zs++[x]) B'->Fr SB w w'->(∀b∈B',b∈SB\/w.heap.size<=b)->K G w'): Pt.new (.cells (xf x.1 x.2) Ba) w fun r w1=>Pt.run di ((Builtin.append_ #[97,97] 97 #[s.v,.slice (pW r) 1 1]).run Tryz.prog w1) K:=by obtain⟨j,J,R,u,E⟩:=qzX;exact eP.push (e:=Ba) (x:=x) h qpo (qv5 _) oK J R u rfl rfl (by rw[E];omega) oJ I
def pr (w:World) (h:List Nat) (ps:List (SS×(Key×Key))):Prop:=∀p∈ps,∃u E,fV w p.1.1 p.2.1 u/\fV w p.1.2 p.2.2 E/\(∀b∈u,b∈h)/\∀b∈E,b∈h
def pr.q8{w w':World}{S G E:List Nat}{ps:List (SS×(Key×Key))}(h:pr w G ps)(f:Fr S w w')(I:∀b∈G,b∉S)(J:∀b∈G,b∈E):pr w' E ps:=fun p V=>by obtain⟨B1,B2,h1,h2,R,U⟩:=h p V;exact⟨B1,B2,h1.q8 f fun b u=>I b (R b u),h2.q8 f fun b u=>I b (U b u),fun b u=>J b (R b u),fun b u=>J b (U b u)⟩
section
variable {dbk pb:Nat} {FD F:List Nat} {D:dI} {M:dZ} {k v:Nat} {frm to:Key} {down:Bool} {w0 w wA:World} {cb:Nat} {Y SB:List Nat} {st:Sl} {zs:List qd}
def qvv{t most:Int}{sf aj:Sl}(hT:TW dbk pb FD D 900000 w [] F M)(hs:rG t=((k:Int),(v:Int)))(hL:(k=0/\L=[])\/(k≠0/\fS D M k v t L P))(ax:L.length<=90000)(hf:eE S w sf frm)(ht:eE S w aj to)(ay:frm.length<=1000000)(az:to.length<=1000000)(aA:eH frm)(aB:eH to)(kk:∀s w' B E ps,eP mR 2 w' s (ps.map (·.1)) B->pr w' E ps->(∀b∈E,b∉B)->ps.map (·.2)=(gF down frm to L).take most.toNat->Fr [] w w'->(∀b∈B,w.heap.size<=b)->(∀b∈E,w.heap.size<=b)->K s w'): cW 34 [dF pb,.i t,sf.v,aj.v,.bool down,.i most] di w K:=by
 refine qop<|qqY hT hs hL ax hf ht ay az aA aB fun cb w1 st SB zs ak aC f1=>?_;have a7:(gF down frm to L).length<=90000:=by have h1:(kU frm to L).length<=L.length:=length_filter_le _ _;unfold gF;split;rw[length_reverse];omega;omega
 have a8:∀b∈cb::SB,w.heap.size<=b:=ak.new;refine hU (fun s w'=>∃B E ps,eP mR 2 w' s (ps.map (·.1)) B/\pr w' E ps/\(∀b∈E,b∉B)/\ps.map (·.2)=(gF down frm to L).take most.toNat/\Fr [] w w'/\(∀b∈B,w.heap.size<=b)/\(∀b∈E,w.heap.size<=b)) ?_ ?_
 ·refine Cm (fun (i:Nat) s w'=>∃B E ps st SB zs,i<=(gF down frm to L).length/\eP mR 2 w' s (ps.map (·.1)) B/\pr w' E ps/\(∀b∈E,b∉B)/\ps.map (·.2)=(gF down frm to L).take i/\(most.toNat<i->i=0)/\Fr [] w w'/\(∀b∈B,w.heap.size<=b)/\(∀b∈E,w.heap.size<=b)/\gd dbk pb FD D F M k v frm to down w cb (B++E) w' st SB zs/\Left D M k v frm to down 1 (zs.map (·.2)) ((gF down frm to L).drop i)) (fun i=>(gF down frm to L).length+1-i) 0 ⟨[],[],[],st,SB,zs,yX _,.nil _ _ _,(fun p hp=>nomatch hp),(fun b u=>nomatch u),rfl,fun _=>rfl,f1,(fun b u=>nomatch u),(fun b u=>nomatch u),ak,by rw[xF];exact aC⟩ ?_;rintro i s w2 ⟨B,E,ps,a9,ae,a',hi,u,hR,hd,U,aF,f2,n2,n3,I,aH⟩ X hX;have bb:s.len=i:=by
   rw[u.len,zK]
   have:=congrArg List.length U
   rw[zK,yL] at this;omega
  apply dV<;>intro hc;rotate_left;have hc:=zB hc;refine⟨B,E,ps,u,hR,hd,?_,f2,n2,n3⟩;rw[U];by_cases h0:most.toNat<i
  have:=aF h0;omega
  have:most.toNat=i:=oJ;rw[this];have hc:=zC hc;have bc:i<most.toNat:=oJ;have bd:=I.lt;refine qo3 I aH (fun aI w3 af f3=>?_) (fun x L' V ks vs B1 B2 w3 aJ aK aL hk hv af aM f3 n4 n5 n6 aX=>?_);refine oB (oE [] w3) fun r w4 e4 f4 h=>oD h 0 rfl (xf dG dG) fun w5 h f5=>cond_true rfl ?_;have ag:Fr (cb::ae) w2 w5:=f3.trans (h.fr.mono fun _ h=>nomatch h);have G:∀b∈B++E,b∉cb::ae:=fun b u R=>by rcases zG.1 R with rfl|R;exact I.yd u;exact I.vN b R u
  refine⟨B,E,ps,u.q8 ag fun b u=>G b (by simp[u]),hR.q8 ag (fun b u=>G b (by simp[u])) fun b u=>u,hd,?_,f2.j8 ag fun b u=>.inr (I.new b u),n2,n3⟩;rw[U];have J:(gF down frm to L).length<=i:=by
   have:=congrArg List.length aI
   rw[yC,xK] at this;omega
  rw[zS J,zS oJ];have J:i<(gF down frm to L).length:=by
   have:=congrArg List.length V
   rw[yC,yI] at this;omega
  have hx:(gF down frm to L).take (i+1)=(gF down frm to L).take i++[x]:=(by rw[yG J];rw[zY J] at V;rw[(vC V).1]);have ah:(gF down frm to L).drop (i+1)=L':=(by rw[zY J] at V;exact (vC V).2);have G:∀b∈B++E,b∉cb::ae:=fun b u R=>by rcases zG.1 R with rfl|R;exact I.yd u;exact I.vN b R u
  have aO:eP mR 2 w3 s (ps.map (·.1)) B:=u.q8 f3 fun b u=>G b (by simp[u]);have aP:pr w3 (B1++(B2++E)) (ps++[((ks,vs),x)]):=fun p hp=>by rcases zD.1 hp with hp|hp;exact hR.q8 f3 (fun b u=>G b (by simp[u])) (fun b u=>by simp[u]) p hp;rw[zE.1 hp];exact⟨B1,B2,hk,hv,fun b u=>by simp[u],fun b u=>by simp[u]⟩
  have aq:∀b∈B1++(B2++E),b∉B:=fun b aa R=>by
   have:=u.lt b R
   rcases zD.1 aa with h|aa
   have:=n5 b h;omega
   rcases zD.1 aa with h|aa
   have:=n6 b h;omega
   exact hd b aa R
  refine oB (oE [] w3) fun r w4 e4 f4 h=>oD h 0 rfl (xf ks vs) fun w5 h f5=>cond_false rfl<|oC h 0 rfl (ks,vs) rfl ?_;have aQ:=af.q7 h.fr;refine qAb (x:=(ks,vs)) (aO.q7 h.fr) (by rw[zK];have:=congrArg List.length U;rw[zK,yL] at this;omega) fun s6 B6 w6 b6 f6 n7=>?_;have ar:=af.lt;have ac:∀b∈B1++(B2++E),b<w5.heap.size:=fun b u=>yD (ar b (by simp only[zD,zG] at u⊢;rcases u with h|h|h<;>simp[h])) h.fr.size;have aT:Fr [] w w6:=by refine (f2.j8 f3 fun b u=>.inr (I.new b u)).trans (h.fr) |>.j8 f6 fun b u=>.inr (n2 b u)
  have hz:=(f2.j8 f3 fun b u=>.inr (I.new b u)).size;refine hX (i+1) s6 w6 ⟨B6,B1++(B2++E),ps++[((ks,vs),x)],aJ,aK,aL,J,by rw[xN];exact b6,(aP.q8 h.fr (fun _ _ h=>nomatch h) fun b u=>u).q8 f6 aq fun b u=>u,fun b u R=>?_,by rw[xN,U,hx];rfl,fun h=>oJ,aT,fun b u=>?_,fun b u=>?_,aQ.q8 (f6.mono fun b u _=>by simp[u]) (fun b u=>?_) (fun b u=>?_),by rw[ah];exact aM⟩ ?_;rcases n7 b R with h1|h1;exact aq b u h1
  have:=ac b u;omega
  rcases n7 b u with h1|h1;exact n2 b h1
  have:=h.fr.size;omega
  have au:=f2.size;rcases zD.1 u with h|u;exact zL au (n5 b h);rcases zD.1 u with h|u;exact zL au (n6 b h);exact n3 b u;rcases zD.1 u with u|u;exact (n7 b u).imp (fun h=>by simp[h]) id;exact .inl (by simp only[zD] at u⊢;rcases u with h|h|h<;>simp[h]);rcases zD.1 u with u|u;exact b6.lt b u;exact yD (ac b u) f6.size;show _+1-(i+1)<_+1-i;omega
 rintro s w2 ⟨B,E,ps,h1,h2,h3,h4,h5,h6,h7⟩;exact kk s w2 B E ps h1 h2 h3 h4 h5 h6 h7
end
end
section
def qzR{frm to:Key}{x:Key×Key}:um frm to x=true↔¬fE x.1 frm/\¬fE to x.1:=by unfold um;rw[yB,yN,yN];have h:cmpL x.1 frm>=0↔¬fE x.1 frm:=(by unfold fE;omega);have u:cmpL x.1 to<=0↔¬fE to x.1:=(by unfold fE;rw[tu x.1 to];omega);rw[h,u]
def Hc(l:List Int):¬cmpL l l<0:=qW
def CI{x y:List Int}{n m:Int}(u:lg n)(E:lg m)(G:x.length=y.length):fE (x++bw 8 n) (y++bw 8 m)↔fE x y\/x=y/\n<m:=by unfold fE;rw[qtr G];by_cases e:x=y;rw[if_pos e,qvP u E,e];exact⟨fun h=>.inr ⟨rfl,h⟩,fun h=>h.elim (fun h=>absurd h (Hc y)) fun h=>h.2⟩;rw[if_neg e];exact⟨.inl,fun h=>h.elim id fun h=>absurd h.1 e⟩
def qt1{a b c d:Int}(u:lg a)(G:lg b)(E:lg c)(I:lg d):fE (kM a b) (kM c d)↔a<c\/a=c/\b<d:=by unfold kM;rw[CI G I (by rw[lp,lp]),show fE (bw 8 a) (bw 8 c)↔a<c from qvP u E];exact⟨fun h=>h.imp id fun h=>⟨CL (by rw[p8];exact u) (by rw[p8];exact E) h.1,h.2⟩,fun h=>h.imp id fun h=>⟨by rw[h.1],h.2⟩⟩
def uM (l:List (HL jd)):Prop:=l.Pairwise fun a b=>mA a b=true
def vL (d:HL jd):Key×Key:=(kM d.1 d.2.1,jf (BO d))
def qxJ{a b:HL jd}(h:jV jd a)(u:jV jd b):fE (vL a).1 (vL b).1↔mA a b=true:=by unfold mA;rw[yN];exact qt1 (qe h.1) (qe h.2.1) (qe u.1) (qe u.2.1)
def mo.eqs{α κ:Type}{K:pi α κ}{l:List α}{f:α->Key×Key}(h:mo K L l)(u:∀a,f a=(K.g (K.key a),K.val a))(E:l.Pairwise fun a b=>fE (f a).1 (f b).1):L=l.map f:=by
 refine List.Perm.eq_of_pairwise (le:=fun x y=>fE x.1 y.1) (fun a b _ _ G I=>absurd I (sA G)) ?_ ?_ ?_
 have:=h.1.sort
 unfold fg fL dP at this;exact pairwise_map.1 this;exact pairwise_map.2 E;rw[show f=fun a=>(K.g (K.key a),K.val a) from funext u];exact h.1.perm
def oS (l:List (HL jd)) (h most:Int):List (HL jd):=(l.filter fun d=>decide (d.1<=h)).take most.toNat
def qv2{u most:Int}(h:mo tP L l)(J:uM l)(R:lg u):(gF false [] (kM u 18446744073709551615) L).take most.toNat=(oS l u most).map vL:=by
 have e:L=l.map vL:=h.eqs (fun _=>rfl) (List.Pairwise.imp_of_mem (fun {a b} U V E=>(qxJ (h.2 a U) (h.2 b V)).2 E) J);unfold gF kU oS;rw[if_neg oM,e,filter_map,xP];congr 2;refine filter_congr fun d hd=>?_;have I:=h.2 d hd;have E:=qe I.1;have G:=qe I.2.1;rw[Bool.eq_iff_iff,Function.comp,qzR,yN];have h0:¬fE (vL d).1 []:=by
  unfold vL kM fE;have:bw 8 d.1≠[]:=fun e=>by have:=congrArg List.length e;rw[lp] at this;cases this
  cases hx:bw 8 d.1 with
  | nil=>exact absurd hx this
  | cons x r=>exact (by decide:¬(1:Int)<0)
 have h3:fE (kM u 18446744073709551615) (vL d).1↔u<d.1\/u=d.1/\18446744073709551615<d.2.1:=qt1 R ⟨oM,oM⟩ E G;rw[h3];have key:∀a e:Int,lg e->(¬(u<a\/u=a/\18446744073709551615<e)↔a<=u):=fun a e h=>by omega
 exact⟨fun h=>(key _ _ G).1 h.2,fun h=>⟨h0,(key _ _ G).2 h⟩⟩
abbrev DD:TypeId:=41
abbrev ky:HL jd->List Value:=HL.mk jd
def Ck(d:HL jd):(ky d).length=4:=rfl
def qzT:∃i,Tryz.prog.info? DD=some i/\i.zero=some (.agg de)/\i.size=4/\i.bytes=32:=th oK
def qv3(d:HL jd):∀u∈ky d,u.oneCell'=true:=fun u h=>by obtain⟨a,b,c,e⟩:=d;rcases zG.1 h with rfl|h;rfl;rcases zG.1 h with rfl|h;rfl;rcases zG.1 h with rfl|h;rfl;rw[zE.1 h];rfl
def Be{x:HL jd}(h:eP ky 4 w s l B)(U:l.length<=1000000)(I:∀G B' w',eP ky 4 w' G (l++[x]) B'->Fr B w w'->(∀b∈B',b∈B\/w.heap.size<=b)->K G w'): Pt.new (.cells (HL.mk jd x).toArray DD) w fun r w1=>Pt.run di ((Builtin.append_ #[29,29] 29 #[s.v,.slice (pW r) 1 1]).run Tryz.prog w1) K:=by obtain⟨j,J,R,u,E⟩:=qzT;exact eP.push (e:=DD) (x:=x) h Ck (qv3 x) oK J R u rfl rfl (by rw[E];omega) oJ I
section
variable {w w' w1:World} {Y F F':List Nat} {sb pb c:Nat} {b b':Bk}
def qyN{u most:Int}(h:SB w Y sb F c b)(hn:IntKind.u64.has u)(hd:uM b.due)(hl:b.size<=90000)(kk:∀s B w',eP ky 4 w' s (oS b.due u most) B->Fr [] w w'->(∀x∈B,w.heap.size<=x)->(∀d∈b.due,jV jd d)->K s w'): cW 10 [dF sb,.int .u64 u,.i most] di w K:=by
 refine qkr ?_;obtain⟨pb,h⟩:=h;have g:=(Fr.refl [] w).drew;refine h.rr g (qtc fun s1 w1 h1 f1=>ig (h.held (g.trans f1)) ?_);obtain⟨dbk,FD,Fp,D,M,Fo,rfl,hS,aA,aB,hb,hc,hj⟩:=h;have G:=hb.due;have aD:=G.len;have af:=(hS.q7 g).q7 f1;have hz:b.due.length<=b.size:=(by unfold Bk.size;omega);refine qvv (S:=[]) (k:=16) (v:=16) (frm:=[]) (L:=(Fo 3).1) (P:=(Fo 3).2) ((af.tw.y3 (Y':=[]) (fun _ h=>nomatch h)).up (by omega)) rfl (.inr ⟨oM,hS.st.J0.J2 3 oM⟩) oJ (.nil _ _ _ _) h1.rd (yX _) (by rw[wy];decide) (fun _ h=>nomatch h) (FW _ _) fun s2 w2 B KB ps hB hR _ I f2 nB _=>?_;rw[qv2 G hd (qe hn)] at I;have ag:ps.length=(oS b.due u most).length:=(by have:=congrArg List.length I;simpa using this);have aG:(oS b.due u most).length<=b.due.length:=(by unfold oS;rw[yL];exact zL (Nat.min_le_right _ _) (length_filter_le _ _));have aH:s2.len=ps.length:=(by rw[hB.len,zK]);have ah:ed mR 2 [] w2 s2 (ps.map (·.1)):=hB.jw qpo fun _ _ h=>nomatch h;refine je (fun q w'=>∃i:Nat,∃B',q.2=i/\i<=ps.length/\eP ky 4 w' q.1 ((oS b.due u most).take i) B'/\Fr [] w2 w'/\∀x∈B',w2.heap.size<=x) (fun q _=>ps.length-q.2.toNat) ⟨0,[],rfl,yX _,eP.nil _ _ _,.refl _ _,fun _ h=>nomatch h⟩ ?_;rintro⟨s3,q⟩ w3 ⟨i,B3,hq,hi,b3,U,n3⟩ X hX;dsimp only at hq b3⊢;subst hq;apply cD<;>intro J;have E:i<ps.length:=oJ;have R:i<(oS b.due u most).length:=oJ;have V:ps[i].2=vL (oS b.due u most)[i]:=by
  have:=congrArg (·[i]?) I
  simp only[zQ,zA E,zA R,Option.map_some] at this;exact yO this
 generalize aa:(oS b.due u most)[i]=d at V;have hm:d∈b.due:=(by rw[<- aa];exact (mem_filter.1 (yV (zX R))).1);have ok:=G.2 d hm;obtain⟨B1,B2,k1,k2,_,_⟩:=hR ps[i] (zX E);rw[V] at k1 k2;have aj:eE [] w2 ps[i].1.1 (kM d.1 d.2.1):=k1.jw lr fun _ _ h=>nomatch h;have ak:eE [] w2 ps[i].1.2 (jf (BO d)):=k2.jw lr fun _ _ h=>nomatch h;refine hU (fun q w'=>∃B',eP ky 4 w' q ((oS b.due u most).take (i+1)) B'/\Fr [] w2 w'/\∀x∈B',w2.heap.size<=x) ?_ fun s4 w4 ⟨B4,b4,f4,n4⟩=>hX _ _ ⟨i+1,B4,by dsimp only;rw[gq _ oJ];rfl,E,b4,f4,n4⟩ (by dsimp only;rw[gq _ oJ];omega);refine ed.rf (x:=ps[i].1) (y:=ps[i].1) (ah.q7 U) i rfl (by rw[zQ,zA E];rfl) rfl rfl<|oB (oE [] w3) fun r4 w4 _ f4 o=>o.st' 0 rfl _ (lZ rfl) rfl (zM _) fun w5 o _=>oA o 0 rfl ps[i].1.1 rfl (oA o 0 rfl ps[i].1.2 rfl ?_);have f5:=U.trans o.fr;refine que (x:=BO d) (aj.q7 f5) (ak.q7 f5) (qe ok.1) (qe ok.2.1) ⟨qe ok.2.2.1,qe ok.2.2.2⟩ fun w6 f6=>oB (o.q7 f6) fun r7 w7 _ f7 o=>o.st' 0 rfl _ (lZ rfl) rfl (zM _) fun w8 o _=>cond_true rfl (oC o 0 rfl d rfl ?_);refine Be (b3.q7 o.fr) (by rw[yL];omega) fun s9 B9 w9 b9 f9 n9=>⟨B9,?_,(U.trans o.fr).j8 f9 fun x hx=>.inr (n3 x hx),fun x hx=>(n9 x hx).elim (n3 x) fun h=>zL (U.trans o.fr).size h⟩;rw[yG R,aa];exact b9;have E:i=ps.length:=oJ;subst E;rw[ag,xZ] at b3;have f:=(g.trans f1).trans f2;exact kk s3 B3 w3 b3 (f.trans U) (fun x hx=>zL f.size (n3 x hx)) G.2
end
end
section
def CD{x:Int}(h:lg x):IntKind.u64.has x:=show (0:Int)<=x/\x<=18446744073709551615 from⟨h.1,oJ⟩
def qyw:IntKind.u64.has 0:=CD ⟨oM,oM⟩
section
variable {w w' w1:World} {Y F F':List Nat} {sb pb c:Nat} {b b':Bk}
end
end
section
section
variable {w w' w1:World} {Y F F':List Nat} {sb pb c:Nat} {b b':Bk}
def SB.flt(h:SB w Y sb F c b):∀x∈F,x<w.heap.size:=by obtain⟨pb,dbk,FD,J,D,M,Fo,rfl,u,E,G,R,U,V⟩:=h;exact fun x I=>(zD.1 I).elim (fun h=>u.tw.x8.ow x (zH _ h)) fun h=>u.tw.x8.lt x h
end
end
section
def AE{a b:jg}{x y:Operand}{K:Bool->Prop}(k:K (decide (a=b))): eX [gX.one Cell.bool] (fun w'=>(do eqGuard .eql v9 x y (df a.1 a.2) (df b.1 b.2);binOp .eql v9 (df a.1 a.2) (df b.1 b.2):Sem Value).run Tryz.prog w') w K:=by have e:sP Tryz.prog 2 v9 (df a.1 a.2) (df b.1 b.2)=some (bif a.1==b.1 then (bif a.2==b.2 then true else false) else false):=oK;have h:(bif a.1==b.1 then (bif a.2==b.2 then true else false) else false)=decide (a=b):=(by obtain⟨u,E⟩:=a;obtain⟨G,I⟩:=b;dsimp only;by_cases h0:u=G;by_cases h1:E=I;simp[h0,h1];simp[h0,h1];simp[h0]);rw[h] at e;exact E6 2 oM _ e oK k
def ed.k6{α:Type}{enc:α->List Value}{k:Nat}{l:List α}{cl:List Cell}(h:ed enc k S w s l)(n:Nat){i:Int}{x:α}{y:HL cl}{K:HL cl->Prop}(hi:i=n)(u:l[n]?=some x)(E:cl.length<=k)(G:(enc x).take cl.length=HL.mk cl y)(I:K y):idx s i k fun a=>dK cl a w K:=by subst hi;obtain⟨V,b,o,J,_,cs,T,fr,R,U⟩:=h.at n u;refine qv J ⟨oJ,oJ⟩ ?_;rw[zJ];refine CS R y ?_ I;rw[<- G,<- U,take_take,xR E]
def ed.uD{α:Type}{enc:α->List Value}{k:Nat}{l:List α}{c:Cell}(h:ed enc k S w s l)(n j:Nat){i:Int}{x:α}{y:c.El}{K:c.El->Prop}(hi:i=n)(E:l[n]?=some x)(G:j<k)(u:(enc x)[j]?=some (c.mk y))(I:K y):idx s i k fun a=>ld c ⟨a.block,a.off+j,none⟩ w K:=by subst hi;obtain⟨V,b,o,J,_,cs,T,fr,R,U⟩:=h.at n E;refine qv J ⟨oJ,oJ⟩ ?_;rw[zJ];refine iI R y ?_ I;rw[<- U,xB,if_pos G,xA] at u;rw[<- xL];exact u
def pj (x:jg×Int):List Value:=[.int .u64 x.1.1,.int .u64 x.1.2,.b x.2]
def jP (m:Mv):List Value:=[.int .u64 m.1.1,.int .u64 m.1.2,.int .u64 m.2.1,.int .u64 m.2.2.1,.int .u64 m.2.2.2]
def mP (x:Ln):List Value:=[.int .u64 x.1.1,.int .u64 x.1.2]++HL.mk mz x.2
def A8 (x:jg×Int):List Value:=[.int .u64 x.1.1,.int .u64 x.1.2,.int .u64 x.2]
abbrev qK:HL kL->List Value:=HL.mk kL
abbrev oU:=HL gp
structure RB (S:List Nat) (w:World) (r:oU) (b:Bk):Prop where
 acc:ed qK 15 S w r.1 b.acc
 lG:ed si 18 S w r.2.1 b.lG
 k8:ed pj 3 S w r.2.2.1 b.k8
 due:ed ky 4 S w r.2.2.2.1 b.due
 mJ:ed jP 5 S w r.2.2.2.2.1 b.mJ
 mO:ed jP 5 S w r.2.2.2.2.2.1 b.mO
 jT:ed mP 12 S w r.2.2.2.2.2.2.1 b.jT
 told:r.2.2.2.2.2.2.2.2.1=b.last.isSome/\r.2.2.2.2.2.2.2.1=b.last.getD 0
 gone:∃ g:List (jg×Int),g.length<=b.gn/\ed A8 3 S w r.2.2.2.2.2.2.2.2.2 g
section
variable {S S':List Nat} {w w':World} {r:oU} {b:Bk}
def RB.q8(h:RB S w r b)(f:Fr S w w')(u:∀x∈S',x∈S\/w.heap.size<=x):RB S' w' r b:=⟨h.acc.q8 f u,h.lG.q8 f u,h.k8.q8 f u,h.due.q8 f u,h.mJ.q8 f u,h.mO.q8 f u,h.jT.q8 f u,h.told,h.gone.elim fun g q=>⟨g,q.1,q.2.q8 f u⟩⟩
def RB.q7(h:RB S w r b)(f:Fr [] w w'):RB S w' r b:=h.q8 (f.mono fun _ h _=>nomatch h) fun _ h=>.inl h
def Bs{α:Type}{p:α->Bool}{l:List α}{i:Nat}{x:α}(I:l[i]?=some x)(E:(l.take i).find? p=none):(p x=true->l.find? p=some x)/\(p x=false->(l.take (i+1)).find? p=none):=by obtain⟨G,u⟩:=zP.1 I;constructor;intro h;rw[show l.find? p=(l.take i++l.drop i).find? p by rw[xE],List.find?_append,E,zY G,u,List.find?_cons,h];rfl;intro h;rw[yG G,u,List.find?_append,E,List.find?_cons,h];rfl
end
end
end
end Go.Proofs.YtpcmehldpoljfaaGreatDoor
