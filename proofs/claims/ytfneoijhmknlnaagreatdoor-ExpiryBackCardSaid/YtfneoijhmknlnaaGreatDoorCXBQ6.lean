/- Conditions: those that stand in each line. -/
import Derived.Test.YtfneoijhmknlnaaGreatDoorCXBQ5
import Derived.Test.YtfneoijhmknlnaaGreatDoorCXBQ4
import Derived.Test.YtfneoijhmknlnaaGreatDoorCXBQ2
import Derived.Laws.Externs
import Derived.Test.YtfneoijhmknlnaaGreatDoorCXBQ3
set_option linter.unusedVariables false
set_option linter.unusedSimpArgs false
set_option linter.defProp false
namespace Go.Proofs.YtfneoijhmknlnaaGreatDoor
open Go Go.Pt
attribute [local irreducible] ld dK ic nK jx eT st new idx jK jF fV jI jl mp gK nn call dW inv run fl jf join loop held ext kW eU m8 nQ nT IntKind.wrap
section
open Go Go.Pt List
open Go.IntKind (wrap)
open Classical
variable {key:Key}
section
variable {D:dM} {M:eQ} {k v side c:Nat} {n nx ny:dN}
def qyB{e:Int}(h:dL D M k v (n.J6.getD side 0)=(ny,e))(u:e≠0):kx D k v M n side c nx=((iY,e),M):=by unfold kx;rw[h,if_pos u]
def qwN(h:dL D M k v (n.J6.getD side 0)=(ny,0))(u:¬jp ny k v):kx D k v M n side c nx=mh k v M n (if side<c then side else c) (if side<c then ny else nx) (if side<c then nx else ny):=by unfold kx;rw[h,if_neg (fun h=>h rfl)];by_cases hsd:side<c;rw[if_pos hsd,if_pos hsd,if_pos hsd,if_pos hsd,if_pos u];rw[if_neg hsd,if_neg hsd,if_neg hsd,if_neg hsd,if_pos u]
def qwM(h:dL D M k v (n.J6.getD side 0)=(ny,0))(u:jp ny k v):kx D k v M n side c nx=oi k v M n (if side<c then side else c) (if side<c then jr ny nx (n.J3.getD side []) else takeN nx ny (n.J3.getD c [])):=by unfold kx;rw[h,if_neg (fun h=>h rfl)];by_cases hsd:side<c;rw[if_pos hsd,if_pos hsd,if_pos hsd,if_neg (fun h=>h u)];rw[if_neg hsd,if_neg hsd,if_neg hsd,if_neg (fun h=>h u)]
def qmR{n:dN}{k v:Nat}(h:fZ n k v):ia n:=by obtain⟨E,G,I,u,C⟩:=wo h;exact⟨fun h=>(u h).1,fun h=>(C h).1.symm,oJ,oJ,oJ⟩
def qv0(E:iG k v)(u:jp n k v)(sn:ia n):1<=n.J3.length/\(n.Q1=true->2<=n.J3.length):=by
 have G:=E.Q1;have I:=E.inner;unfold jp at u;unfold fe at u;cases C:n.Q1 with
 | true=>rw[C,if_pos rfl] at u;dsimp only at u;exact⟨oJ,fun _=>oJ⟩
 | false=>
  have:=sn.inner C
  rw[C,if_neg oM] at u;dsimp only at u;exact⟨oJ,fun h=>nomatch h⟩
end
section
variable {dbk pb j:Nat} {FD S S0 N0 Y F F' T B Bl Br Bn Bx By:List Nat} {D:dM} {w0 wa w w' w7:World} {M M':eQ} {L:List (Nat×Obj)} {x xx xy:kV} {n nx ny:dN} {k v:Nat} {t:Int}
def Ed.more(e:Ed dbk pb FD D j S0 N0 w0 w (fN L) Y F M x n B)(h:dR T wa w L)(J:TW dbk pb FD D j w7 (By++(fN L++(B++Y))) F M)(O:fI (Zo FD (By++(fN L++(B++Y))) F) w7 xy ny By)(f:Fr [] w w7)(E:∀c∈By,w.heap.size<=c): Ed dbk pb FD D j S0 N0 w0 w7 (fN L) (By++Y) F M x n B/\dR (fN L) w7 w7 L/\ph FD F w7 (fN L) (B++(By++Y)) xy ny By:=by
 have C:∀b∈Zo FD (fN L++(B++(By++Y))) F,b∈Zo FD (By++(fN L++(B++Y))) F:=fun b u=>by simp only[Zo,zD,zG] at u⊢;rcases u with (u|u|u|u|u|u)|u<;>simp[u]
 have G:∀b∈Zo FD (fN L++(B++(By++Y))) F,b∈Zo FD (fN L++(B++Y)) F\/w.heap.size<=b:=fun b u=>by simp only[Zo,zD,zG] at u⊢;rcases u with (u|u|u|u|u|u)|u;simp[u];simp[u];simp[u];simp[u];exact .inr (E b u);simp[u];simp[u]
 refine⟨⟨⟨e.sg.rg.j6 f (fun _ h=>nomatch h),e.sg.new,e.sg.own⟩,J.x8 fun b u=>?_,e.node.q8 f (fun _ _ h=>nomatch h) (fun _ h=>nomatch h) G,e.sep,e.cI,e.cS,fun b u C=>?_⟩,rU h f (fun _ _ h=>nomatch h),O.j4 fun b u=>.inl (C b u),fun b u C=>?_⟩;simp only[zD] at u⊢;rcases u with u|u|u|u<;>simp[u];rcases zD.1 C with I|I
 have:=e.node.lt b u;have:=E b I;omega
 exact e.cL b u I
 have:=zm h b u;have:=E b C;omega
def ph.more(o:ph FD F w (fN L) (B++Y) x n Bx)(f:Fr [] w w7)(C:∀c∈By,w.heap.size<=c):ph FD F w7 (fN L) (B++(By++Y)) x n Bx:=
 ⟨o.node.q8 f (fun _ _ h=>nomatch h) (fun _ h=>nomatch h) fun b u=>by simp only[Zo,zD,zG] at u⊢;rcases u with (u|u|u|u|u|u)|u;simp[u];simp[u];simp[u];simp[u];exact .inr (C b u);simp[u];simp[u],o.sep⟩
def ph.q7{R:List Nat}(o:ph FD F w T R x n B)(f:Fr [] w w'):ph FD F w' T R x n B:=⟨o.node.q7 f,o.sep⟩
def qwQ{nl nr:dN}(h:∀a∈nl.J3,eS a)(sl:ia nl)(u:ia nr):eS (jr nl nr key).2.2/\(jr nl nr key).1.J3.length<=9000/\(jr nl nr key).1.J7.length<=9000/\(jr nl nr key).1.J6.length<=9000/\(jr nl nr key).2.1.J3.length<=9000/\(jr nl nr key).2.1.J7.length<=9000/\(jr nl nr key).2.1.J6.length<=9000:=by obtain⟨_,_,C,E,G⟩:=sl;obtain⟨_,_,I,J,O⟩:=u;unfold jr;split;refine⟨uw h _,?_⟩;simp only[yL,yI];omega;refine⟨uw h _,?_⟩;simp only[yL,yI];omega
def qxT{nl nr:dN}(h:∀a∈nr.J3,eS a)(sl:ia nl)(u:ia nr):eS (takeN nl nr key).2.2/\(takeN nl nr key).1.J3.length<=9000/\(takeN nl nr key).1.J7.length<=9000/\(takeN nl nr key).1.J6.length<=9000/\(takeN nl nr key).2.1.J3.length<=9000/\(takeN nl nr key).2.1.J7.length<=9000/\(takeN nl nr key).2.1.J6.length<=9000:=by obtain⟨_,_,E,G,I⟩:=sl;obtain⟨_,_,J,O,Q⟩:=u;unfold takeN;split;refine⟨uw (fun a C=>h a (yU C)) _,?_⟩;simp only[zF,yC,yI,xK];omega;refine⟨uw h _,?_⟩;simp only[zF,yC,yI,xK];omega
def u9{Y':List Nat}(h:∀b∈Y',b∈Y):∀b∈Zo FD Y' F,b∈Zo FD Y F:=fun b u=>by simp only[Zo,zD,zG] at u⊢;rcases u with (u|u|u)|u;simp[u];simp[u];simp[h b u];simp[u]
def Ed.wW{Y1:List Nat}(e:Ed dbk pb FD D j S0 N0 w0 w (fN L) Y F M x n B)(h:dR T wa w L)(O:TW dbk pb FD D j w' (fN L++(B++Y1)) F M)(f:Fr S w w')(G:∀b∈S,b∈S0\/w0.heap.size<=b)(C:∀b∈S,b∉B/\b∉fN L)(I:∀b∈S,b∈Zo FD (fN L++(B++Y)) F)(J:∀b∈Y1,b∈Y): Ed dbk pb FD D j S0 N0 w0 w' (fN L) Y1 F M x n B/\dR (fN L) w' w' L:=
 ⟨⟨⟨e.sg.rg.j6 f G,e.sg.new,e.sg.own⟩,O,e.node.q8 f (fun b u E=>(C b E).1 u) (fun b u=>.inl (I b u)) fun b u=>.inl (by simp only[Zo,zD,zG] at u⊢;rcases u with (u|u|u|u|u)|u;simp[u];simp[u];simp[u];simp[u];simp[J b u];simp[u]),e.sep,e.cI,e.cS,fun b u E=>e.cL b u (J b E)⟩,rU h f fun b u E=>(C b E).2 u⟩
set_option maxHeartbeats 4000000 in
def qyC{side c:Nat}{K:kV×Int->WP}(hT:TW dbk pb FD D j w0 (Bn++(Bx++Y)) F M)(hn:fI (Zo FD (Bn++(Bx++Y)) F) w0 x n Bn)(hx:fI (Zo FD (Bn++(Bx++Y)) F) w0 xx nx Bx)(d1:∀b∈Bn,b∉Bx)(d2:∀b∈Bn,b∉Y)(d3:∀b∈Bx,b∉Y)(sn:ia n)(sx:ia nx)(a0:n.Q1=false)(cr:side+1=c\/c+1=side)(hs:side<n.J6.length)(cs:c<n.J6.length)(bH:∀ny,dL D M k v (n.J6.getD side 0)=(ny,0)->ny.Q1=nx.Q1)(a3:iG k v)(V:∀yn B' F' w',TW dbk pb FD D j w' (B'++Y) F' (kx D k v M n side c nx).2->fI (Zo FD (B'++Y) F') w' yn (kx D k v M n side c nx).1.1 B'->Fr (Bn++(Bx++F)) w0 w'->(∀b∈B',b∈Bn\/w0.heap.size<=b)->(∀b∈F',b∈Bn++(Bx++F)\/w0.heap.size<=b)->K (yn,(kx D k v M n side c nx).1.2) w'): cW 224 [.agg (oY (kA k v pb t)),.agg (eV x),.i side,.i c,.agg (eV xx)] [.agg ed,.one .i] w0 K:=by
 refine qmf ?_;unfold Hs Fk;have ei:(if (c:Int)<(side:Int) then (c:Int) else (side:Int))=(((if side<c then side else c):Nat):Int):=by by_cases h1:c<side;rw[iP,iN];rw[iN,iP]
 have ak:(if side<c then side else c)+1<n.J6.length:=(by split<;>omega);rw[ei];generalize ay:(if side<c then side else c)=i at ak⊢;have il:=sn.inner a0;have s1:=sn.J3;have s3:=sn.J6;have az:i<n.J3.length:=oJ;have ew:wrap .i64 ((i:Int)+1)=((i+1:Nat):Int):=sS oJ;rw[ew];have e0:Ed dbk pb FD D j (Bn++(Bx++F)) Bn w0 w0 [] (Bx++Y) F M x n Bn:=⟨⟨.refl _ _,fun b u=>.inl (by simp[u]),fun _ h=>nomatch h⟩,hT,hn,fun _ h=>(nomatch h),fun b u=>.inl u,fun b u=>by simp[u],fun b u I=>(zD.1 I).elim (d1 b u) (d2 b u)⟩;have o0:ph FD F w0 [] (Bn++(Bx++Y)) xx nx Bx:=⟨hx,fun _ h=>nomatch h⟩;rcases ah:dL D M k v (n.J6.getD side 0) with ⟨ny,ey⟩;have bJ:n.J6.getD side 0=n.J6[side]:=vh hs;have aH:dL D M k v n.J6[side]=(ny,ey):=(by rw[<- bJ];exact ah);have a4:=hx.lt;have a5:∀b∈Y,b<w0.heap.size:=fun b u=>hT.sG b (by simp[u]);have a6:iy n.J6[side]:=hn.2.1.2.2 _ (zX hs);have h:=oE [] w0;refine oB h fun r1 w2 _ _ h=>oB h fun r3 w4 _ _ h=>oB h fun J w6 _ _ h=>oB h fun O w8 _ _ h=>?_;have h:=oF h;refine⟨?a,?b⟩;case' a=>
  have e:=e0.j8 h;have o:=o0.j8 h;refine oC h 3 rfl (kA k v pb t) rfl<|oA h 2 rfl x.2.2.2 rfl<|dX.cQ e.y7 side rfl hs fun bK hh=>?_;have aM:=e.fr.size;refine Cj (k:=k) (v:=v) e.tw a6 fun xy By bM al R am U=>?_;rw[aH] at R⊢;dsimp only at R;obtain⟨e,h,oy⟩:=e.more h al R am U;have ox:=o.more (By:=By) am U;refine oB h fun C bN _ _ h=>mX (hh _ _ (e.j8 h).y7) (h.cell 3 rfl rfl) (h.cells 4 rfl rfl)<|oD h 0 rfl (eV xy) fun bO h _=>?_;have oy:=oy.j8 h;have ox:=ox.j8 h;have e:=e.j8 h;have h:=mq h (.refl _);have aA:∀b∈By,w0.heap.size<=b:=fun b u=>zL aM (U b u)
 case' b=>
  have e:=e0.j8 h;have o:=o0.j8 h;have h:=mq h (.refl _);refine oC h 3 rfl (kA k v pb t) rfl<|oA h 2 rfl x.2.2.2 rfl<|dX.cQ e.y7 side rfl hs fun bK hh=>oB h fun C bN _ _ h=>?_;have e:=e.j8 h;have o:=o.j8 h;refine mX (hh _ _ e.y7) (h.cell 3 rfl rfl) (h.cells 4 rfl rfl) ?_;have aM:=e.fr.size;refine Cj (k:=k) (v:=v) e.tw a6 fun xy By bM al R am U=>?_;rw[aH] at R⊢;dsimp only at R;obtain⟨e,h,oy⟩:=e.more h al R am U;have ox:=o.more (By:=By) am U;refine oD h 0 rfl (eV xy) fun bO h _=>?_;have oy:=oy.j8 h;have ox:=ox.j8 h;have e:=e.j8 h;have h:=mq h (.refl _);have aA:∀b∈By,w0.heap.size<=b:=fun b u=>zL aM (U b u)
 all_goals
  apply eH<;>intro hc;have an:ey≠0:=by rw[zT] at hc;exact zR.1 hc
  rw[qyB ah an] at V;refine oD h 1 rfl (eV fU) fun bP h _=>oC h 1 rfl fU rfl ?_;have e:=e.j8 h;exact V fU [] F bP (e.rY.x8 fun b u=>by simp at u⊢;simp[u]) (.zero _ _) e.fr (fun _ h=>(nomatch h)) e.sg.new;have bQ:ey=0:=by rw[yE] at hc;exact yP.1 hc
  subst bQ;have bR:=Cp ah;have sy:=qmR bR;have aI:=bH ny ah;have aN:∀b∈By,b∉Bx:=fun b u I=>by have:=aA b u;have:=a4 b I;omega
  have a8:∀b∈By,b∉Y:=fun b u I=>by have:=aA b u;have:=a5 b I;omega
  refine⟨?_,?_⟩;have h:=oF h;refine oC h 2 rfl xx rfl<|oC h 0 rfl xy rfl<|oB h fun E bS _ _ h=>ka (h.cells 1 rfl rfl) (h.cells 3 rfl rfl)<|oB h fun G bT _ _ h=>ka (h.cells 2 rfl rfl) (h.cells 4 rfl rfl)<|oD h 1 rfl (eV xx) fun bU h _=>iM (h.cells 2 rfl rfl)<|oD h 0 rfl (eV xy) fun bV h _=>?_;rotate_left;have h:=oF h;refine oC h 2 rfl xx rfl<|oC h 0 rfl xy rfl<|oB h fun G bS _ _ h=>ka (h.cells 1 rfl rfl) (h.cells 3 rfl rfl)<|oB h fun E bT _ _ h=>ka (h.cells 2 rfl rfl) (h.cells 4 rfl rfl)<|oD h 0 rfl (eV xx) fun bU h _=>iM (h.cells 2 rfl rfl)<|oD h 1 rfl (eV xy) fun bV h _=>?_;have h:=Eo h (List.Perm.swap _ _ _);all_goals
   obtain⟨xl,nl,Bl,xr,nr,Br,hP⟩:∃xl nl Bl xr nr Br,(side<c/\xl=xy/\nl=ny/\Bl=By/\xr=xx/\nr=nx/\Br=Bx)\/(¬side<c/\xl=xx/\nl=nx/\Bl=Bx/\xr=xy/\nr=ny/\Br=By):=by by_cases Q:side<c;exact⟨_,_,_,_,_,_,.inl ⟨Q,rfl,rfl,rfl,rfl,rfl,rfl⟩⟩;exact⟨_,_,_,_,_,_,.inr ⟨Q,rfl,rfl,rfl,rfl,rfl,rfl⟩⟩
   refine iQ (fun _ w'=>dR [G,E,C,O,J,r3,r1] w' w' [(G,.cells (eV xr) ND (0,0)),(E,.cells (eV xl) ND (0,0)),(C,.cells (eV xy) ND (0,0)),(O,.cells (eV fU) ND (0,0)),(J,.cells (eV xx) ND (0,0)),(r3,.cells (eV x) ND (0,0)),(r1,.cells (oY (kA k v pb t)) WK (0,0))]/\
    Ed dbk pb FD D j (Bn++(Bx++F)) Bn w0 w' [G,E,C,O,J,r3,r1] (By++(Bx++Y)) F M x n Bn/\ph FD F w' [G,E,C,O,J,r3,r1] (Bn++(By++(Bx++Y))) xx nx Bx/\ph FD F w' [G,E,C,O,J,r3,r1] (Bn++(By++(Bx++Y))) xy ny By) ?_ ?_
   apply eH<;>intro hc;have Q:side<c:=(by have:=zC hc;omega);rcases hP with ⟨_,rfl,rfl,rfl,rfl,rfl,rfl⟩|⟨hn,_⟩;have h:=oF h;exact oC h 2 rfl xl rfl<|oC h 4 rfl xr rfl<|oD h 1 rfl (eV xl) fun cv h _=>iM (h.cells 4 rfl rfl)<|oD h 0 rfl (eV xr) fun cw h _=>⟨mq h (.refl _),e.j8 h,ox.j8 h,oy.j8 h⟩;exact absurd Q hn;have Q:¬side<c:=(by have:=zB hc;omega);rcases hP with ⟨hn,_⟩|⟨_,rfl,rfl,rfl,rfl,rfl,rfl⟩;exact absurd hn Q;exact⟨mq h (.refl _),e.j8 h,ox.j8 h,oy.j8 h⟩;rintro _ cx ⟨h,e,ox,oy⟩;refine oC h 6 rfl (C5 k v) rfl<|oC h 2 rfl xy rfl ?_;have ly:pE xy ny:=(oy.node.rd (S:=[]) (fun _ _ h=>(nomatch h)) fun _ h=>nomatch h).lens;refine qzf ly fun ai bW=>?_;have h:=h.q7 bW;have e:=e.j8 h;have ox:=ox.j8 h;have oy:=oy.j8 h;have h:=mq h (.refl _);apply eH<;>intro hc;have aC:¬jp ny k v:=by rw[zT] at hc;exact zB hc
   rw[qwN ah aC] at V;have hj:(if side<c then ny else nx)=nl/\(if side<c then nx else ny)=nr:=by rcases hP with ⟨h1,_,h2,_,_,h3,_⟩|⟨h1,_,h2,_,_,h3,_⟩;rw[if_pos h1,if_pos h1,h2,h3];exact⟨rfl,rfl⟩;rw[if_neg h1,if_neg h1,h2,h3];exact⟨rfl,rfl⟩
   rw[ay,hj.1,hj.2] at V;have e:=e.sub (T1:=[G,E,C,O,J,r3,r1]) fun b u=>u;have aO:ph FD F ai [G,E,C,O,J,r3,r1] (Bn++(By++(Bx++Y))) xl nl Bl:=by rcases hP with ⟨_,rfl,rfl,rfl,_⟩|⟨_,rfl,rfl,rfl,_⟩<;>assumption
   have bZ:ph FD F ai [G,E,C,O,J,r3,r1] (Bn++(By++(Bx++Y))) xr nr Br:=by rcases hP with ⟨_,_,_,_,rfl,rfl,rfl⟩|⟨_,_,_,_,rfl,rfl,rfl⟩<;>assumption
   have a9:ia nl/\ia nr:=by rcases hP with ⟨_,_,rfl,_,_,rfl,_⟩|⟨_,_,rfl,_,_,rfl,_⟩<;>exact⟨by assumption,by assumption⟩
   have b0:(∀b∈Bl,b∈By\/b∈Bx)/\(∀b∈Br,b∈By\/b∈Bx)/\∀b∈Bl,b∉Br:=by rcases hP with ⟨_,_,_,rfl,_,_,rfl⟩|⟨_,_,_,rfl,_,_,rfl⟩;exact⟨fun b u=>.inl u,fun b u=>.inr u,aN⟩;exact⟨fun b u=>.inr u,fun b u=>.inl u,fun b u I=>aN b I u⟩
   obtain⟨aD,a',b1⟩:=b0;have aP:∀b,b∈By\/b∈Bx->b∉Bn/\b∉Y:=fun b u=>by rcases u with u|u;exact⟨fun I=>e.cL b I (by simp[u]),a8 b u⟩;exact⟨fun I=>e.cL b I (by simp[u]),d3 b u⟩
   have ao:∀b∈Bl++(Bn++(Br++([G,E,C,O,J,r3,r1]++Y))),b∈[G,E,C,O,J,r3,r1]++(Bn++(By++(Bx++Y))):=fun b u=>by have a1:=aD b;have a2:=a' b;rw[zD,zD,zD,zD] at u⊢;rcases u with u|u|u|u|u;rcases a1 u with h|h<;>simp[h];simp[u];rcases a2 u with h|h<;>simp[h];simp[u];simp[u]
   have hZ:∀b∈Zo FD (Bl++(Bn++(Br++([G,E,C,O,J,r3,r1]++Y)))) F,b∈Zo FD ([G,E,C,O,J,r3,r1]++(Bn++(By++(Bx++Y)))) F:=u9 ao;refine oC h 6 rfl (kA k v pb t) rfl<|oC h 5 rfl x rfl<|oC h 1 rfl xl rfl<|oC h 0 rfl xr rfl<|qyL (Y:=[G,E,C,O,J,r3,r1]++Y) (e.tw.x8 ao) (aO.node.j4 fun b u=>.inl (hZ b u)) (e.node.j4 fun b u=>.inl (hZ b u)) (bZ.node.j4 fun b u=>.inl (hZ b u)) (fun b u=>(aP b (aD b u)).1) b1 (fun b u I=>(zD.1 I).elim (fun I=>aO.sep b I u) (aP b (aD b u)).2) (fun b u I=>(aP b (a' b I)).1 u) (fun b u I=>(zD.1 I).elim (fun I=>e.sep b I u) (d2 b u)) a9.1 a9.2 sn az a0 fun yn B' F' b4 ba bb bc nB nF=>?_;have b5:∀b∈[G,E,C,O,J,r3,r1],b<ai.heap.size:=fun b u=>e.tw.sG b (zH _ u);have hS:∀b∈Bn++(Bl++F),b∈Bn++(Bx++F)\/w0.heap.size<=b:=fun b u=>by rcases zD.1 u with u|u;exact .inl (by simp[u]);rcases zD.1 u with u|u;rcases aD b u with h1|h1;exact .inr (aA b h1);exact .inl (by simp[h1]);exact .inl (by simp[u])
   have h:=rU h bc fun b u I=>by rcases zD.1 I with I|I;exact e.sep b u I;rcases zD.1 I with I|I;exact aO.sep b u I;exact e.tw.yf b (zH _ u) I
   refine oD h 3 rfl (eV yn) fun b6 h _=>oC h 3 rfl yn rfl ?_;have bd:∀b∈[G,E,C,O,J,r3,r1]++(B'++Y),b∈B'++([G,E,C,O,J,r3,r1]++Y):=fun b u=>by rw[zD,zD] at u⊢;rcases u with u|u|u<;>simp[u]
   have o:ph FD F' b4 [G,E,C,O,J,r3,r1] (B'++Y) yn _ B':=⟨bb.j4 fun b u=>.inl (u9 bd b u),fun b u I=>(nB b I).elim (e.sep b u) fun h1=>by have:=b5 b u;omega⟩;have b7:=ba.x8 bd;exact V yn B' F' b6 (TW.j8 (T:=[G,E,C,O,J,r3,r1]) b7 h).j5 ((o.j8 h).node.j4 fun b u=>.inl (AG b u)) ((e.fr.j6 bc hS).j6 h.fr e.sg.own) (fun b u=>(nB b u).imp id fun h1=>zL e.fr.size h1) fun b u=>(nF b u).elim (hS b) fun h1=>.inr (zL e.fr.size h1);have aC:jp ny k v:=(by rw[yE] at hc;exact zC hc);rw[qwM ah aC,ay] at V;obtain⟨y1,y2⟩:=qv0 a3 aC sy;have e:=e.sub (T1:=[G,E,C,O,J,r3,r1]) fun b u=>u;have ox:ph FD F ai [G,E,C,O,J,r3,r1] (Bn++(By++(Bx++Y))) xx nx Bx:=ox;have oy:ph FD F ai [G,E,C,O,J,r3,r1] (Bn++(By++(Bx++Y))) xy ny By:=oy;have bf:∀b∈Bx++(By++([G,E,C,O,J,r3,r1]++(Bn++Y))),b∈[G,E,C,O,J,r3,r1]++(Bn++(By++(Bx++Y))):=fun b u=>by rw[zD,zD,zD,zD] at u⊢;rcases u with u|u|u|u|u<;>simp[u]
   have aQ:∀b∈Zo FD (Bx++(By++([G,E,C,O,J,r3,r1]++(Bn++Y)))) F,b∈Zo FD ([G,E,C,O,J,r3,r1]++(Bn++(By++(Bx++Y)))) F:=u9 bf;have bg:∀b∈Bx,b∉By:=fun b u I=>aN b I u;have aJ:∀b∈Bx,b∉[G,E,C,O,J,r3,r1]++(Bn++Y):=fun b u I=>by rcases zD.1 I with I|I;exact ox.sep b I u;rcases zD.1 I with I|I;exact d1 b I u;exact d3 b u I
   have aK:∀b∈By,b∉[G,E,C,O,J,r3,r1]++(Bn++Y):=fun b u I=>by rcases zD.1 I with I|I;exact oy.sep b I u;rcases zD.1 I with I|I;exact e.cL b I (by simp[u]);exact a8 b u I
   obtain⟨nk,nv,on⟩:=e.node.CF (S0:=[]) fun _ _ h=>nomatch h;have ap:i<nk.length:=(by rw[on.uI];exact az);have bh:eS nk[i].2:=(by rw[<- on.nA ap];exact uw on.nb.1 _);have bi:=(on.ek _ (zX ap)).q8 (.refl _ _) fun b u=>.inl (aQ b u);have bj:n.J3.getD i []=nk[i].2:=on.nA ap;have bk:=e.tw.x8 bf;have bl:=ox.node.j4 fun b u=>.inl (aQ b u);have aF:=oy.node.j4 fun b u=>.inl (aQ b u);refine iQ (fun _ w'=>∃yl yr r B',dR [G,E,C,O,J,r3,r1] w' w' [(G,.cells (eV yr) ND (0,0)),(E,.cells (eV yl) ND (0,0)),(C,.cells (eV xy) ND (0,0)),(O,.cells (eV fU) ND (0,0)),(J,.cells (eV xx) ND (0,0)),(r3,.cells (eV x) ND (0,0)),(r1,.cells (oY (kA k v pb t)) WK (0,0))]/\
    Ed dbk pb FD D j (Bn++(Bx++F)) Bn w0 w' [G,E,C,O,J,r3,r1] Y F M x { n with J3:=n.J3.set i r.2.2 } B'/\eO (Zo FD ([G,E,C,O,J,r3,r1]++(B'++Y)) F) w' yl r.1/\eO (Zo FD ([G,E,C,O,J,r3,r1]++(B'++Y)) F) w' yr r.2.1/\
    (if side<c then jr ny nx (n.J3.getD side []) else takeN nx ny (n.J3.getD c []))=r/\r.1.J3.length<=9000/\r.1.J7.length<=9000/\r.1.J6.length<=9000/\r.2.1.J3.length<=9000/\r.2.1.J7.length<=9000/\r.2.1.J6.length<=9000) ?_ ?_
   have bm:∀b∈Bx++F,b∈Bn++(Bx++F)\/w0.heap.size<=b:=fun b u=>.inl (zI _ u);have bn:∀b∈Bx++F,b∉Bn/\b∉[G,E,C,O,J,r3,r1]:=fun b u=>by rcases zD.1 u with u|u;exact⟨fun I=>d1 b I u,fun I=>ox.sep b I u⟩;exact⟨fun I=>e.tw.yf b (by simp[I]) u,fun I=>e.tw.yf b (zH _ I) u⟩
   have bo:∀b∈Bx++F,b∈Zo FD ([G,E,C,O,J,r3,r1]++(Bn++(By++(Bx++Y)))) F:=fun b u=>by rcases zD.1 u with u|u<;>simp[u]
   have fd:=(Fr.refl [] ai).drew;apply cD<;>intro aT;have Q:side<c:=oJ;have aU:side=i:=(by rw[<- ay,if_pos Q]);rcases hP with ⟨_,rfl,rfl,rfl,rfl,rfl,rfl⟩|⟨hn,_⟩;have h:=oF h;have e:=e.j8 h;have h:=mq h (.refl _);refine oA h 5 rfl x.2.1 rfl<|oC h 1 rfl xl rfl<|oC h 0 rfl xr rfl<|oA h 5 rfl x.2.1 rfl<|dX.get (on.rk.q7 fd) i rfl (x:=nk[i].1) (by rw[zQ,zA ap];rfl) (y:=nk[i].1) rfl ?_;have gm:=qwQ (key:=nk[i].2) aF.2.1.1 sy sx;refine qyG (Y:=[G,E,C,O,J,r3,r1]++(Bn++Y)) (bk.q7 fd) (aF.q7 fd) (bl.q7 fd) bg aJ aK (bi.q7 fd) bh aI y1 sy sx fun yl yr b8 b9 aq hL hR ag aV=>?_;obtain⟨e,h⟩:=e.wW h aq aV bm bn bo fun b u=>by simp[u]
   refine iM (h.cell 5 rfl rfl)<|oD h 1 rfl (eV yl) fun ca h _=>iM (h.cell 5 rfl rfl)<|oD h 0 rfl (eV yr) fun cc h _=>iM (h.cell 5 rfl rfl) ?_;have e:=e.j8 h;have hL:=eO.j8 (T:=[G,E,C,O,J,r3,r1]) hL h;have hR:=eO.j8 (T:=[G,E,C,O,J,r3,r1]) hR h;have ag:=qT (T:=[G,E,C,O,J,r3,r1]) ag h;have h:=mq h (.refl _);exact e.BR h (i:=i) az rfl ag gm.1 fun B1 cd e h kp=>⟨yl,yr,_,B1,h,e,kp.node _ _ hL,kp.node _ _ hR,by rw[if_pos Q,aU,bj],gm.2.1,gm.2.2.1,gm.2.2.2.1,gm.2.2.2.2.1,gm.2.2.2.2.2.1,gm.2.2.2.2.2.2⟩;exact absurd Q hn;have Q:¬side<c:=oJ;have aU:c=i:=(by rw[<- ay,if_neg Q]);rcases hP with ⟨hn,_⟩|⟨_,rfl,rfl,rfl,rfl,rfl,rfl⟩;exact absurd hn Q;have h:=oF h;have e:=e.j8 h;have h:=mq h (.refl _);refine oA h 5 rfl x.2.1 rfl<|oC h 1 rfl xl rfl<|oC h 0 rfl xr rfl<|oA h 5 rfl x.2.1 rfl<|dX.get (on.rk.q7 fd) i rfl (x:=nk[i].1) (by rw[zQ,zA ap];rfl) (y:=nk[i].1) rfl ?_;have gm:=qxT (key:=nk[i].2) aF.2.1.1 sx sy;refine qzh (Y:=[G,E,C,O,J,r3,r1]++(Bn++Y)) (bk.q7 fd) (bl.q7 fd) (aF.q7 fd) bg aJ aK (bi.q7 fd) bh aI.symm y1 y2 sx sy fun yl yr b8 b9 aq hL hR ag aV=>?_;obtain⟨e,h⟩:=e.wW h aq aV bm bn bo fun b u=>by simp[u]
   refine iM (h.cell 5 rfl rfl)<|oD h 1 rfl (eV yl) fun ca h _=>iM (h.cell 5 rfl rfl)<|oD h 0 rfl (eV yr) fun cc h _=>iM (h.cell 5 rfl rfl) ?_;have e:=e.j8 h;have hL:=eO.j8 (T:=[G,E,C,O,J,r3,r1]) hL h;have hR:=eO.j8 (T:=[G,E,C,O,J,r3,r1]) hR h;have ag:=qT (T:=[G,E,C,O,J,r3,r1]) ag h;have h:=mq h (.refl _);exact e.BR h (i:=i) az rfl ag gm.1 fun B1 cd e h kp=>⟨yl,yr,_,B1,h,e,kp.node _ _ hL,kp.node _ _ hR,by rw[if_neg Q,aU,bj],gm.2.1,gm.2.2.1,gm.2.2.2.1,gm.2.2.2.2.1,gm.2.2.2.2.2.1,gm.2.2.2.2.2.2⟩;rintro _ cB ⟨yl,yr,r,B',h,e,hL,hR,hr,q1,q2,q3,q4,q5,q6⟩;have aG:i<n.J6.length:=oJ;rw[hr] at V;unfold oi at V;rw[vh aG,vh ak] at V;have h:=oF h;have e:=e.j8 h;have hL:=eO.j8 (T:=[G,E,C,O,J,r3,r1]) hL h;have hR:=eO.j8 (T:=[G,E,C,O,J,r3,r1]) hR h;have h:=mq h (.refl _);refine oA h 5 rfl x.2.2.2 rfl<|oC h 6 rfl (kA k v pb t) rfl<|oA h 5 rfl x.2.2.2 rfl<|dX.get e.y7 i rfl (x:=n.J6[i]) (zA aG) (y:=n.J6[i]) rfl<|oC h 1 rfl yl rfl<|vN e.tw hL oJ oJ oJ fun F1 cE bp bq bt=>?_;obtain⟨e,h⟩:=e.next h bp bq bt
   have hR:=hR.next bq bt
   have aX:iy (dS k v M n.J6[i] r.1).1.1:=wt hT.wf (hn.2.1.2.2 _ (zX aG));generalize dS k v M n.J6[i] r.1=ce at V e aX⊢;obtain⟨⟨a1,bu⟩,M1⟩:=ce;dsimp only at V e aX⊢;refine iM (h.cell 5 rfl rfl)<|e.oU h (i:=i) aG rfl aX fun B1 cF e h kp=>?_;have hR:=kp.node _ _ hR;apply eH<;>intro au;have an:bu≠0:=(by rw[zT] at au;exact zR.1 au);rw[if_pos an] at V;refine oD h 3 rfl (eV fU) fun bv h _=>oC h 3 rfl fU rfl ?_;have e:=e.j8 h;exact V fU [] F1 bv e.rY.j5 (.zero _ _) e.fr (fun _ h=>(nomatch h)) e.sg.new;have an:¬bu≠0:=(by rw[yE] at au;exact fun h=>h (yP.1 au));rw[if_neg an] at V;have bx:(n.J6.set i a1)[i+1]?=some n.J6[i+1]:=(by rw[List.getElem?_set_ne oJ,zA ak]);have h:=oF h;have e:=e.j8 h;have hR:=eO.j8 hR h;have h:=mq h (.refl _);refine oA h 5 rfl x.2.2.2 rfl<|oC h 6 rfl (kA k v pb t) rfl<|oA h 5 rfl x.2.2.2 rfl<|dX.get e.y7 (i+1) rfl (x:=n.J6[i+1]) bx (y:=n.J6[i+1]) rfl<|oC h 0 rfl yr rfl<|vN e.tw hR oJ oJ oJ fun F2 cp aY bz bA=>?_;have aZ:iy (dS k v M1 n.J6[i+1] r.2.1).1.1:=wt e.tw.wf (hn.2.1.2.2 _ (zX ak));obtain⟨e,h⟩:=e.next h aY bz bA
   generalize dS k v M1 n.J6[i+1] r.2.1=cf at V e aZ⊢;obtain⟨⟨a2,cG⟩,M2⟩:=cf;dsimp only at V e aZ⊢;refine iM (h.cell 5 rfl rfl)<|e.oU h (i:=i+1) (by dsimp only;rw[xG];exact ak) rfl aZ fun B2 cq e h _=>oC h 5 rfl x rfl<|oD h 3 rfl (eV x) fun bB h _=>oC h 3 rfl x rfl ?_;have e:=e.j8 h;exact V x B2 F2 bB e.tw.j5 (e.node.j4 fun b u=>.inl (AG b u)) e.fr e.cI e.sg.new
end
section
section
variable {D:dM} {M M1:eQ} {k v f side c i:Nat} {key:Key} {p e0 e1:Int} {n nx N:dN}
def Ez{α:Type}{l:List α}{i:Nat}(h:i<l.length):(iw l i).length+1=l.length:=by unfold iw;rw[zF,yL,yC];omega
def qmz{l r:dN}(sn:ia n)(u:n.Q1=false)(hi:i<n.J3.length)(h:(mh k v M n i l r).1.2=0):ia (mh k v M n i l r).1.1:=by have J:=sn.inner u;obtain⟨_,_,O,G,Q⟩:=sn;unfold mh at h⊢;split;rename_i C;rw[if_pos C] at h;exact absurd h C;rename_i C;rw[if_neg C] at h;split;rename_i E;rw[if_pos E] at h;exact absurd h E;have I:=Ez (l:=n.J6.set i (dS k v M (n.J6.getD i 0) (lq l r (n.J3.getD i []))).1.1) (i:=i+1) (by rw[xG];omega);have R:=Ez hi;rw[xG] at I;exact⟨(fun h=>by rw[u] at h;cases h),fun _=>by dsimp only;omega,by dsimp only;omega,G,by dsimp only;omega⟩
def qmj{r:dN×dN×Key}(sn:ia n)(u:n.Q1=false)(h:(oi k v M n i r).1.2=0):ia (oi k v M n i r).1.1:=by have E:=sn.inner u;obtain⟨_,_,G,I,J⟩:=sn;unfold oi at h⊢;split;rename_i C;rw[if_pos C] at h;exact absurd h C;exact⟨(fun h=>by rw[u] at h;cases h),fun _=>by dsimp only;rw[xG,xG,xG];exact E,by dsimp only;rw[xG];exact G,I,by dsimp only;rw[xG,xG];exact J⟩
def qtm(sn:ia n)(u:n.Q1=false)(I:side+1=c\/c+1=side)(O:side<n.J6.length)(J:c<n.J6.length)(h:(kx D k v M n side c nx).1.2=0):ia (kx D k v M n side c nx).1.1:=by have Q:=sn.inner u;unfold kx at h⊢;split;rename_i G;rw[if_pos G] at h;exact absurd h G;rename_i G;rw[if_neg G] at h;split;rename_i C;rw[if_pos C] at h;split;rename_i E;rw[if_pos E] at h;exact qmz sn u oJ h;rename_i E;rw[if_neg E] at h;exact qmj sn u h;rename_i C;rw[if_neg C] at h;split;rename_i E;rw[if_pos E] at h;exact qmz sn u oJ h;rename_i E;rw[if_neg E] at h;exact qmj sn u h
def jn (c:Nat):Nat:=if c>0 then c-1 else c+1
def qyt(h:dL D M k v p=(n,e0))(u:e0≠0):iL D k v key (f+1) M p=((iY,e0),M):=by unfold iL;rw[h,if_pos u]
def qyu(h:dL D M k v p=(n,0))(u:n.Q1=true)(C:n.J3[dP n.J3 key]?=some key):iL D k v key (f+1) M p=(({ n with J3:=iw n.J3 (dP n.J3 key),J7:=iw n.J7 (dP n.J3 key) },0),M):=by unfold iL;rw[h,if_neg (fun h=>h rfl),if_pos u,if_pos C]
def qwy(h:dL D M k v p=(n,0))(u:n.Q1=true)(C:¬n.J3[dP n.J3 key]?=some key):iL D k v key (f+1) M p=((iY,5),M):=by unfold iL;rw[h,if_neg (fun h=>h rfl),if_pos u,if_neg C]
def qwx(h:dL D M k v p=(n,0))(u:¬n.Q1=true)(C:iL D k v key f M (n.J6.getD (eA n.J3 key) 0)=((N,e1),M1))(E:e1≠0):iL D k v key (f+1) M p=((iY,e1),M1):=by unfold iL;rw[h,if_neg (fun h=>h rfl),if_neg u];dsimp only;rw[C,if_pos E]
def qww(h:dL D M k v p=(n,0))(u:¬n.Q1=true)(C:iL D k v key f M (n.J6.getD (eA n.J3 key) 0)=((N,0),M1))(E:¬pS N k v):iL D k v key (f+1) M p = (({ n with J6:=n.J6.set (eA n.J3 key) (dS k v M1 (n.J6.getD (eA n.J3 key) 0) N).1.1 },(dS k v M1 (n.J6.getD (eA n.J3 key) 0) N).1.2),(dS k v M1 (n.J6.getD (eA n.J3 key) 0) N).2):=by unfold iL;rw[h,if_neg (fun h=>h rfl),if_neg u];dsimp only;rw[C,if_neg (fun h=>h rfl),if_pos E]
def qwv(h:dL D M k v p=(n,0))(u:¬n.Q1=true)(C:iL D k v key f M (n.J6.getD (eA n.J3 key) 0)=((N,0),M1))(E:pS N k v):iL D k v key (f+1) M p=kx D k v M1 n (jn (eA n.J3 key)) (eA n.J3 key) N:=by unfold iL jn;rw[h,if_neg (fun h=>h rfl),if_neg u];dsimp only;rw[C,if_neg (fun h=>h rfl),if_neg (fun h=>h E)];split<;>rfl
def mZ (D:dM) (k v:Nat) (key:Key):Nat->eQ->Int->Prop
 | 0,_,_=>False
 | f+1,M,p=>∀n,dL D M k v p=(n,0)->n.Q1=false->mZ D k v key f M (n.J6.getD (eA n.J3 key) 0)/\
  ∀N M1,iL D k v key f M (n.J6.getD (eA n.J3 key) 0)=((N,0),M1)->pS N k v->∀ny,dL D M1 k v (n.J6.getD (jn (eA n.J3 key)) 0)=(ny,0)->ny.Q1=N.Q1
end
section
variable {dbk pb j:Nat} {FD S S0 N0 Y Y1 F F' T B By:List Nat} {D:dM} {w0 wa w w' w7:World} {M M':eQ} {L:List (Nat×Obj)} {x xy:kV} {n ny:dN} {k v:Nat} {t:Int}
def Ed.xk(e:Ed dbk pb FD D j S0 N0 w0 w (fN L) Y F M x n B)(h:dR T wa w L)(J:TW dbk pb FD D j w7 (By++(fN L++(B++Y))) F' M')(Q:fI (Zo FD (By++(fN L++(B++Y))) F') w7 xy ny By)(f:Fr F w w7)(O:∀b∈F',b∈F\/w.heap.size<=b)(I:∀c∈By,w.heap.size<=c): Ed dbk pb FD D j S0 N0 w0 w7 (fN L) (By++Y) F' M' x n B/\dR (fN L) w7 w7 L/\ph FD F' w7 (fN L) (B++(By++Y)) xy ny By:=by
 have C:∀b∈fN L++(B++(By++Y)),b∈By++(fN L++(B++Y)):=fun b u=>by simp only[zD] at u⊢;rcases u with u|u|u|u<;>simp[u]
 obtain⟨e1,E⟩:=e.next h (J.x8 fun b u=>zI _ u) f O
 refine⟨⟨e1.sg,J.x8 C,e.node.q8 f (fun b u G=>e.tw.yf b (by simp[u]) G) (fun b u=>.inl (ws u)) fun b u=>?_,e1.sep,e1.cI,e1.cS,fun b u G=>?_⟩,E,Q.j4 fun b u=>.inl (u9 C b u),fun b u G=>?_⟩;simp only[Zo,zD,zG] at u⊢;rcases u with (u|u|u|u|u|u)|u;simp[u];simp[u];simp[u];simp[u];exact .inr (I b u);simp[u];exact (O b u).imp (fun h=>.inr h) id;rcases zD.1 G with E|E
 have:=e.node.lt b u;have:=I b E;omega
 exact e.cL b u E
 have:=zm h b u;have:=I b G;omega
def Ed.less(e:Ed dbk pb FD D j S0 N0 w0 w T Y F M x n B)(C:∀b∈Y1,b∈Y):Ed dbk pb FD D j S0 N0 w0 w T Y1 F M x n B:=by
 have E:∀b∈T++(B++Y1),b∈T++(B++Y):=fun b u=>by simp only[zD] at u⊢;rcases u with u|u|u;simp[u];simp[u];simp[C b u]
 exact⟨e.sg,e.tw.x8 E,e.node.j4 fun b u=>.inl (u9 E b u),e.sep,e.cI,e.cS,fun b u h=>e.cL b u (C b h)⟩
def qzV{L':List (Nat×Obj)}(E:TW dbk pb FD D j w (B++(T++Y)) F M)(G:fI (Zo FD (B++(T++Y)) F) w x n B)(I:∀b∈T,b∉B)(h:dR T w w' L'): TW dbk pb FD D j w' (B++Y) F M/\fI (Zo FD (B++Y) F) w' x n B:=by
 have C:∀b∈T++(B++Y),b∈B++(T++Y):=fun b u=>by rw[zD,zD] at u⊢;rcases u with u|u|u<;>simp[u]
 have o:ph FD F w T (B++Y) x n B:=⟨G.j4 fun b u=>.inl (u9 C b u),I⟩;exact⟨(TW.j8 (E.x8 C) h).j5,(o.j8 h).node.j4 fun b u=>.inl (AG b u)⟩
set_option maxHeartbeats 2000000 in
def Gi{ks:Sl}{key:Key}(ax:eS key)(am:iG k v):∀(f:Nat) {Y F:List Nat} {w0:World} {M:eQ} {p:Int} {K:kV×Int->WP} (hT:TW dbk pb FD D j w0 Y F M) (hp:iy p) (hk:eF (Zo FD Y F) w0 ks key) (O:mZ D k v key f M p) (kk:∀yn B' F' w',((iL D k v key f M p).1.2=0->ia (iL D k v key f M p).1.1)->TW dbk pb FD D j w' (B'++Y) F' (iL D k v key f M p).2->fI (Zo FD (B'++Y) F') w' yn (iL D k v key f M p).1.1 B'->Fr F w0 w'->(∀b∈B',w0.heap.size<=b)->(∀b∈F',b∈F\/w0.heap.size<=b)->K (yn,(iL D k v key f M p).1.2) w'), cW 192 [.agg (oY (kA k v pb t)),.u p,ks.v] [.agg ed,.one .i] w0 K
 | 0,_,_,_,_,_,_,_,_,_,O,_=>O.elim
 | f+1,Y,F,w0,M,p,K,hT,hp,hk,O,kk=>by
  refine qnA ?_;have h:=oE [] w0;have g:=Sg.start F w0;refine oB h fun r1 w2 _ _ h=>oB h fun r3 w4 _ _ h=>oC h 1 rfl (kA k v pb t) rfl ?_;rcases Q:dL D M k v p with ⟨n,e0⟩;refine Cj (k:=k) (v:=v) (hT.cD h) hp fun x B w7 bf aF f7 bg=>?_;rw[Q] at aF⊢;dsimp only at aF;obtain⟨e,h⟩:=Ed.load (N0:=[]) (fun _ h=>nomatch h) g h bf aF f7 bg fun b C=>yD (hT.sG b C) h.fr.size;refine oB h fun r8 w9 _ _ h=>oD h 0 rfl (eV x) fun bR h _=>?_;have ao:∀ {e:Int} {M':eQ} {F':List Nat} {w'},iL D k v key (f+1) M p=((iY,e),M')->e≠0->TW dbk pb FD D j w' Y F' M'->Fr F w0 w'->(∀b∈F',b∈F\/w0.heap.size<=b)->K (fU,e) w':=fun he bh bi fr hF=>by
   have:=kk fU [] _ _ (fun h=>by rw[he] at h;exact absurd h bh) (by rw[he];exact bi) (by rw[he];exact .zero _ _) fr (fun _ h=>nomatch h) hF
   rw[he] at this;exact this
  apply eH<;>intro R;have aA:e0≠0:=by rw[zT] at R;exact zR.1 R
  refine oD h 1 rfl (eV fU) fun bU h _=>oC h 1 rfl fU rfl ?_;have e:=e.j8 h;exact ao (qyt Q aA) aA e.rY.j5 e.fr e.sg.new;have bj:e0=0:=by rw[yE] at R;exact yP.1 R
  subst bj;have hr:=Cp Q;have sn:=qmR hr;obtain⟨l1,l2,l3,l4,l5⟩:=wo hr;have e:=e.j8 h;have h:=mq h (.refl _);have aQ:x.1=n.Q1:=e.node.1;refine oA h 0 rfl x.1 rfl ?_;apply eH<;>intro R;rw[aQ] at R;obtain⟨l6,l7⟩:=l4 R;refine oC h 0 rfl x rfl<|Ej e.cA (e.cU hk) ax hr.2.2.1 oJ fun bZ bk=>?_;obtain⟨e,h⟩:=e.cC h bk;have b0:=H7 n.J3 key;apply eH<;>intro U;rw[zT] at U;have aR:=zB U;refine oD h 1 rfl (eV fU) fun b1 h _=>oC h 1 rfl fU rfl ?_;have e:=e.j8 h;exact ao (qwy Q R aR) oM e.rY.j5 e.fr e.sg.new;rw[yE] at U;have aT:=zC U;have aU:=(zP.1 aT).1;have aa:=qyu (f:=f) Q R aT;have ew:wrap .i64 ((dP n.J3 key:Int)+1)=((dP n.J3 key+1:Nat):Int):=sS oJ;rw[aa] at kk;have h:=oF h;refine oA h 0 rfl x.2.1 rfl<|oA h 0 rfl x.2.2.1 rfl ?_;have e:=e.j8 h;dsimp only;refine e.CD h (i:=dP n.J3 key) aU rfl ew oJ fun ai B1 b2 e h _=>iM (h.cell 0 rfl rfl)<|e.FG h (i:=dP n.J3 key) oN rfl ew oN fun ap B2 b3 e h _=>oD h 0 rfl (eV (x.1,ai,x.2.2.1,x.2.2.2)) fun b4 h _=>oD h 0 rfl (eV (x.1,ai,ap,x.2.2.2)) fun b5 h _=>oC h 0 rfl (x.1,ai,ap,x.2.2.2) rfl<|oD h 1 rfl (eV (x.1,ai,ap,x.2.2.2)) fun bm h _=>oC h 1 rfl (x.1,ai,ap,x.2.2.2) rfl ?_;have e:=e.j8 h;have k1:=Ez aU;have k2:=Ez (l:=n.J7) (i:=dP n.J3 key) oJ;exact kk (x.1,ai,ap,x.2.2.2) B2 F bm (fun _=>⟨fun _=>by dsimp only;omega,(fun h=>by dsimp only at h;rw[R] at h;cases h),by dsimp only;omega,by dsimp only;omega,by dsimp only;omega⟩) e.tw.j5 (e.node.j4 fun b C=>.inl (AG b C)) e.fr (fun b C=>(e.cI b C).elim (fun h=>nomatch h) id) e.sg.new
  ·rw[aQ] at R;have aG:¬n.Q1=true:=(by rw[R];decide);obtain⟨l6,l7,l8⟩:=l5 R;obtain⟨G,V⟩:=O n Q R;refine oC h 0 rfl x rfl<|Cb e.cA (e.cU hk) ax hr.2.2.1 oJ fun b6 bn=>?_;obtain⟨e,h⟩:=e.cC h bn;have bo:=AC n.J3 key;have aq:=fun N e1 M1 he=>qwx (key:=key) (f:=f) (N:=N) (e1:=e1) (M1:=M1) Q aG he;have U:=fun N M1 he=>qww (key:=key) (f:=f) (N:=N) (M1:=M1) Q aG he;have aH:=fun N M1 he=>qwv (key:=key) (f:=f) (N:=N) (M1:=M1) Q aG he;generalize b7:eA n.J3 key=c at bo G V aq U aH⊢;have ab:c<n.J6.length:=oJ;have bp:n.J6.getD c 0=n.J6[c]:=vh ab;rw[bp] at G V aq U aH;have hu:iy n.J6[c]:=e.node.2.1.2.2 _ (zX ab);rcases aj:iL D k v key f M n.J6[c] with ⟨⟨N1,e1⟩,M1⟩;have aq:=aq N1 e1 M1 aj;refine⟨?a,?b⟩;case' a=>
    have h:=oF h;have e:=e.j8 h;refine oC h 2 rfl (kA k v pb t) rfl<|oA h 0 rfl x.2.2.2 rfl<|dX.cQ e.y7 c rfl ab fun bt hh=>?_;have hz:=e.fr.size;refine Gi ax am f e.tw hu (e.cU hk) G fun xx Bx F1 bv al ac I aI ad aJ=>?_;rw[aj] at al ac I⊢;dsimp only at al I⊢;obtain⟨e,h,ox⟩:=e.xk h ac I aI aJ ad;refine oB h fun J bx _ _ h=>mX (hh _ _ (e.j8 h).y7) (h.cell 1 rfl rfl) (h.cells 3 rfl rfl)<|oD h 0 rfl (eV xx) fun bz h _=>?_;have az:∀b∈Bx,w0.heap.size<=b:=fun b C=>zL hz (ad b C);have ox:=ox.j8 h;have e:=e.j8 h;have h:=mq h (.refl _)
   case' b=>
    have h:=oF h;have e:=e.j8 h;have h:=mq h (.refl _);refine oC h 2 rfl (kA k v pb t) rfl<|oA h 0 rfl x.2.2.2 rfl<|dX.cQ e.y7 c rfl ab fun bt hh=>oB h fun J bx _ _ h=>?_;have e:=e.j8 h;refine mX (hh _ _ e.y7) (h.cell 1 rfl rfl) (h.cells 3 rfl rfl) ?_;have hz:=e.fr.size;refine Gi ax am f e.tw hu (e.cU hk) G fun xx Bx F1 bv al ac I aI ad aJ=>?_;rw[aj] at al ac I⊢;dsimp only at al I⊢;obtain⟨e,h,ox⟩:=e.xk h ac I aI aJ ad;refine oD h 0 rfl (eV xx) fun bz h _=>?_;have az:∀b∈Bx,w0.heap.size<=b:=fun b C=>zL hz (ad b C);have ox:=ox.j8 h;have e:=e.j8 h;have h:=mq h (.refl _)
   all_goals
    apply eH<;>intro hq;have aB:e1≠0:=by rw[zT] at hq;exact zR.1 hq
    refine oD h 2 rfl (eV fU) fun b8 h _=>oC h 2 rfl fU rfl ?_;have e:=e.j8 h;exact ao (aq aB) aB (e.rY.x8 fun b C=>by simp[C]) e.fr e.sg.new;have bA:e1=0:=by rw[yE] at hq;exact yP.1 hq
    subst bA;have sx:=al rfl;refine oC h 3 rfl (C5 k v) rfl<|oC h 0 rfl xx rfl ?_;have lx:pE xx N1:=(ox.node.rd (S:=[]) (fun _ _ h=>(nomatch h)) fun _ h=>nomatch h).lens;refine qAY lx fun af aY=>?_;obtain⟨e,h⟩:=e.cC h aY;have ox:=ox.q7 aY;apply eH<;>intro ar;have ah:¬pS N1 k v:=by rw[zT] at ar;exact zB ar
    have aa:=U N1 M1 aj ah;rw[aa] at kk;have h:=oF h;have e:=e.j8 h;have ox:=ox.j8 h;have h:=mq h (.refl _);refine oA h 1 rfl x.2.2.2 rfl<|oC h 3 rfl (kA k v pb t) rfl<|oA h 1 rfl x.2.2.2 rfl<|dX.get e.y7 c rfl (x:=n.J6[c]) (zA ab) (y:=n.J6[c]) rfl<|oC h 0 rfl xx rfl ?_;have z1:=sx.J3;have z2:=sx.J7;have z3:=sx.J6;have bB:eO (Zo FD (fN _++(B++Y)) F1) af.drew xx N1:=ox.node.rd (fun b C E=>by
     have hs:=e.tw.sep b (by simp[C]);rcases zD.1 E with E|E;rcases zD.1 E with E|E;exact hs.1 E;rcases zG.1 E with E|E;exact hs.2 E;rcases zD.1 E with E|E;exact ox.sep b E C;rcases zD.1 E with E|E;exact e.cL b E (by simp[C])
     have:=az b C;have:=hT.sG b E;omega
     exact e.tw.yf b (by simp[C]) E) fun b C=>.inl (u9 (fun b C=>by
     rw[zD,zD] at C⊢;rcases C with C|C|C;exact .inl C;exact .inr (by simp[C]);exact .inr (by simp[C])) b C)
    have e:=e.less (Y1:=Y) fun b C=>zI _ C;refine vN e.tw bB oJ oJ oJ fun F2 ca a0 bC bD=>?_;have aK:iy (dS k v M1 n.J6[c] N1).1.1:=wt e.tw.wf hu;obtain⟨e,h⟩:=e.next h a0 bC bD
    generalize dS k v M1 n.J6[c] N1=st at kk e aK⊢;obtain⟨⟨a1,s1⟩,M2⟩:=st;dsimp only at kk e aK⊢;refine iM (h.cell 1 rfl rfl)<|e.oU h (i:=c) ab rfl aK fun B2 cc e h _=>oC h 1 rfl x rfl<|oD h 2 rfl (eV x) fun bE h _=>oC h 2 rfl x rfl ?_;have e:=e.j8 h;exact kk x B2 F2 bE (fun _=>⟨(fun h=>by dsimp only at h;rw[R] at h;cases h),fun _=>by dsimp only;rw[xG];omega,by dsimp only;omega,by dsimp only;omega,by dsimp only;rw[xG];omega⟩) e.tw.j5 (e.node.j4 fun b C=>.inl (AG b C)) e.fr (fun b C=>(e.cI b C).elim (fun h=>nomatch h) id) e.sg.new;have ah:pS N1 k v:=by rw[yE] at ar;exact zC ar
    have aa:=aH N1 M1 aj ah;have bF:=V N1 M1 aj ah;rw[aa] at kk;have e:=e.sub (T1:=[J,r8,r3,r1]) fun b C=>C;have ox:ph FD F1 af [J,r8,r3,r1] (B++(Bx++Y)) xx N1 Bx:=ox;have ag:∀b∈B++(Bx++([J,r8,r3,r1]++Y)),b∈[J,r8,r3,r1]++(B++(Bx++Y)):=fun b C=>by rw[zD,zD,zD] at C⊢;rcases C with C|C|C|C<;>simp[C]
    have bG:∀b∈Bx,b∉Y:=fun b C E=>by have:=az b C;have:=hT.sG b E;omega
    have a2:jn c+1=c\/c+1=jn c:=(by unfold jn;split<;>omega);have hs:jn c<n.J6.length:=(by unfold jn;split<;>omega);have aC:=fun {K':kV×Int->WP} (bH)=>qyC (t:=t) (pb:=pb) (j:=j) (dbk:=dbk) (Y:=[J,r8,r3,r1]++Y) (K:=K') (e.tw.x8 ag) (e.node.j4 fun b C=>.inl (u9 ag b C)) (ox.node.j4 fun b C=>.inl (u9 ag b C)) (fun b C E=>e.cL b C (zH _ E)) (fun b C E=>(zD.1 E).elim (fun E=>e.sep b E C) fun E=>e.cL b C (zI _ E)) (fun b C E=>(zD.1 E).elim (fun E=>ox.sep b E C) (bG b C)) sn sx R a2 hs ab bF am bH;have a3:=fun h0=>qtm (D:=D) (M:=M1) (k:=k) (v:=v) (nx:=N1) sn R a2 hs ab h0;have hS:∀b∈B++(Bx++F1),b∈F\/w0.heap.size<=b:=fun b C=>by rcases zD.1 C with C|C;exact (e.cI b C).elim (fun h=>nomatch h) .inr;rcases zD.1 C with C|C;exact .inr (az b C);exact e.sg.new b C
    have bI:∀b∈[J,r8,r3,r1],b<af.heap.size:=fun b C=>e.tw.sG b (zH _ C);have a4:∀b∈[J,r8,r3,r1],b∉B++(Bx++F1):=fun b C E=>by rcases zD.1 E with E|E;exact e.sep b C E;rcases zD.1 E with E|E;exact ox.sep b C E;exact e.tw.yf b (zH _ C) E
    generalize kx D k v M1 n (jn c) c N1=ev at kk a3 aC;have au:∀ {z:Int},z=(jn c:Int)->(dK je (dc r1) af fun a5=>dK ed (dc r8) af fun a6=>dK ed (dc J) af fun a7=>
      cW 224 [fg je a5,fg ed a6,Value.int IntKind.i64 z,Value.int IntKind.i64 c,fg ed a7] [iJ.agg ed,iJ.one (Cell.int IntKind.i64)] af fun aD a8=>
      st (dc r3) (HL.mk ed aD.1) a8 fun aE=>dK ed (dc r3) aE fun a9=>K (a9,aD.2) aE):=fun hz=>by
     subst hz;refine oC h 3 rfl (kA k v pb t) rfl<|oC h 1 rfl x rfl<|oC h 0 rfl xx rfl<|aC fun yn B' F' cf a' ba bb nB nF=>?_;have h:=rU h bb a4;refine oD h 2 rfl (eV yn) fun bJ h _=>oC h 2 rfl yn rfl ?_;obtain⟨bK,bL⟩:=qzV (T:=[J,r8,r3,r1]) a' ba (fun b C E=>(nB b E).elim (e.sep b C) fun h1=>by have:=bI b C;omega) h;exact kk yn B' F' bJ a3 bK bL ((e.fr.j6 bb hS).j6 h.fr e.sg.own) (fun b C=>(nB b C).elim (fun h1=>(e.cI b h1).elim (fun h=>nomatch h) id) fun h1=>zL e.fr.size h1) fun b C=>(nF b C).elim (hS b) fun h1=>.inr (zL e.fr.size h1)
    apply cD<;>intro aL;have av:0<c:=oJ;refine au ?_;unfold jn;rw[if_pos av,gd _ oJ];omega;have av:¬0<c:=oJ;refine au ?_;unfold jn;rw[if_neg av,gd _ oJ];omega
end
end
section
abbrev RtC:=Int×Int×Int
def tL (x:RtC):Array Value:=#[.u x.1,.u x.2.1,.u x.2.2]
abbrev RT:TypeId:=171
section
variable {S:List Nat} {w:World}
def G8{vb:Nat}{T':TypeId}{h:Nat×Nat}{ks:Sl}(C:w.heap[vb]?=some (.cells #[gA ks] T' h))(E:vb∉S)(G:eF S w ks key):jO S w ⟨pW vb,1,1⟩ [(ks,key)]:=
 ⟨⟨rfl,zM _,.inr ⟨vb,0,_,T',h,rfl,C,E,fun i x u=>by
  cases i with
  | zero=>cases u;rfl
  | succ i=>simp at u⟩⟩,fun p I=>by rw[zE.1 I];exact G⟩
def qAz{vb:Nat}{T':TypeId}{C:Nat×Nat}{a b:Int}(E:w.heap[vb]?=some (.cells #[.u a,.u b] T' C))(G:vb∉S):dX jc 1 S w ⟨pW vb,2,2⟩ [a,b]:=
 ⟨rfl,zM _,.inr ⟨vb,0,_,T',C,rfl,E,G,fun i x h=>by
  match i,h with
  | 0,h=>cases h;rfl
  | 1,h=>cases h;rfl
  | i+2,h=>simp at h⟩⟩
end
section
variable {dbk pb j:Nat} {FD Y F F' T:List Nat} {D:dM} {w0 w w':World} {M M':eQ} {L L':List (Nat×Obj)} {k v:Nat} {t:Int}
def D6{b:Nat}(h:TW dbk pb FD D j w Y F M)(C:w.heap.size<=b):b∉Zo FD Y F:=fun u=>by have:=h.xo b u;omega
set_option maxHeartbeats 1000000 in
def qvw{f:Nat}{ks vs:Sl}{val:Key}{K:Int->WP}(ar:eS key)(au:eS val)(hT:TW dbk pb FD D j w0 Y F M)(hk:eF (Zo FD Y F) w0 ks key)(hv:eF (Zo FD Y F) w0 vs val)(C:(eE M t).1≠0->(iF D k v key val f M (eE M t).1).1.2≠-1)(u:∀F' w',TW dbk pb FD D j w' Y F' (kc D k v t key val f M).2->Fr F w0 w'->(∀b∈F',b∈F\/w0.heap.size<=b)->K (kc D k v t key val f M).1 w'): cW 103 [.agg (oY (kA k v pb t)),ks.v,vs.v] de w0 K:=by
 refine qj7 ?_;have g:=Sg.start F w0;have h:=oE [] w0;obtain⟨u1,u2,u3⟩:=D3 hT.wf t;refine oB h fun r1 w2 _ _ h=>oA h 0 rfl (pW pb) rfl<|oA h 0 rfl t rfl<|TW.J2 (hT.q7 h.fr) fun w6 f6=>?_;have h:=h.q7 f6;unfold kc at u;generalize eE M t=J at u C u1 u2 u3⊢;refine oB h fun r7 w8 _ _ h=>oD h 0 rfl (tL J) fun w9 h _=>oA h 0 rfl J.1 rfl ?_;apply eH<;>intro hc;have hc:J.1=0:=yP.1 hc;rw[if_pos hc] at u;refine oC h 1 rfl (kA k v pb t) rfl ?_;have ag:=hT.cD h;have aM:=vS hk h;have aN:=vS hv h;have g:=g.cC h (.refl [] _);have h:=mq h (.refl _);refine oB h fun av bj bk aw h=>oB h fun ax aO bl aP h=>?_;have bg:=aw.size;have aa:=aw.trans aP;have ae:=ag.q7 aa;have aQ:=D6 ag (b:=av) oJ;have aR:=D6 ag (b:=ax) oJ;have ah:=G8 (h.at (i:=1) rfl) aQ (aM.q7 aa);have aT:=G8 (h.at (i:=0) rfl) aR (aN.q7 aa);have hx:eO _ aO (true,⟨pW av,1,1⟩,⟨pW ax,1,1⟩,dI) (eh [(key,val)]):=⟨rfl,⟨fun a ha=>by rw[zE.1 ha];exact ar,fun a ha=>by rw[zE.1 ha];exact au,fun _ h=>nomatch h⟩,⟨_,ah,rfl⟩,⟨_,aT,rfl⟩,.nil _ _ _ _⟩;refine vN ae hx (zO rfl) (zO rfl) (zO rfl) fun F1 aV Q ay aW=>?_;have g:=g.next h ay aW
 have h:=rU (h.sub (.cons _ (.cons _ (.refl _)))) ay fun b hb=>ae.yf b (zH _ hb);have hu:iy (dS k v M 0 (eh [(key,val)])).1.1:=wt hT.wf vz;unfold lg at u;generalize dS k v M 0 (eh [(key,val)])=st at u Q hu⊢;obtain⟨⟨q,e⟩,M1⟩:=st;dsimp only at u Q hu⊢;apply eH<;>intro I;have C:e≠0:=by rw[zT] at I;exact zR.1 I
 rw[if_pos C] at u;exact u F1 aV Q.j5 g.rg g.new;have C:¬e≠0:=by rw[yE] at I;exact fun h=>h (yP.1 I)
 rw[if_neg C] at u;exact oA h 1 rfl (pW pb) rfl<|oA h 1 rfl t rfl<|TW.rG Q hu ⟨oM,oM⟩ ⟨oM,oM⟩ fun aX az aY=>u F1 aX az.j5 (g.rg.j6 aY g.new) g.new;have hc:J.1≠0:=zR.1 hc;rw[if_neg hc] at u;refine oC h 1 rfl (kA k v pb t) rfl<|oA h 0 rfl J.1 rfl<|Ic ar au f (hT.cD h) u1 (vS hk h) (vS hv h) (C hc) fun gs F1 aA hG O aj aB aZ=>?_;have g:=g.next h aB aZ
 have h:=(hT.cD h).own h aB;generalize iF D k v key val f M J.1=pn at u hG O aj⊢;obtain⟨⟨G,e1⟩,M1⟩:=pn;dsimp only at hG O aj⊢;unfold tr at u;dsimp only at u;refine oB h fun aC bn _ _ h=>oD h 0 rfl (qK (uy G gs)) fun a0 h _=>?_;apply eH<;>intro I;have C:e1≠0:=by rw[zT] at I;exact zR.1 I
 rw[if_pos C] at u;exact u F1 a0 (O.j8 h).j5 (g.fr h) g.new;have C:¬e1≠0:=by rw[yE] at I;exact fun h=>h (yP.1 I)
 rw[if_neg C] at u;refine oA h 0 rfl G.Q8 rfl<|oD h 1 rfl (tL (G.Q8,J.2.1,J.2.2)) fun bo h _=>?_;have aD:iy (if G.J5 then wrap .u32 (J.2.1+1) else J.2.1):=by split;exact zz _;exact u2
 refine iQ (fun _ w'=>dR [r7,r1] aA w' [(aC,.cells (qK (uy G gs)) GR (0,0)),(r7,.cells (tL (G.Q8,(if G.J5 then wrap .u32 (J.2.1+1) else J.2.1),J.2.2)) RT (0,0)),(r1,.cells (oY (kA k v pb t)) WK (0,0))]) ?_ ?_;refine oA h 0 rfl G.J5 rfl ?_;apply eH<;>intro E;rw[if_pos E];refine oA h 1 rfl J.2.1 rfl<|oD h 1 rfl (tL (G.Q8,wrap .u32 (J.2.1+1),J.2.2)) fun bp h _=>h;rw[if_neg (by rw[E];decide)];exact h;intro _ a1 h;generalize (if G.J5 then wrap .u32 (J.2.1+1) else J.2.1)=V at u aD h;refine iQ (fun _ w'=>∃(a c:Int) (F2 T:List Nat) (M2:eQ) (wa:World),Sg F w0 wa F2 T/\TW dbk pb FD D j wa (T++Y) F2 M2/\dR T wa w' [(aC,.cells (qK (uy G gs)) GR (0,0)),(r7,.cells (tL (a,V,c)) RT (0,0)),(r1,.cells (oY (kA k v pb t)) WK (0,0))]/\iy a/\iy c/\
  ∀F' w',TW dbk pb FD D j w' Y F' (fv M2 t a V c).2->Fr F w0 w'->(∀b∈F',b∈F\/w0.heap.size<=b)->K (fv M2 t a V c).1 w') ?_ ?_
 refine oA h 0 rfl G.Q7 rfl ?_;apply eH<;>intro E;have E:G.Q7≠0:=by rw[zT] at E;exact zR.1 E
 rw[if_pos E] at u;refine oC h 2 rfl (kA k v pb t) rfl<|oA h 0 rfl gs rfl ?_;have R:=TW.j8 (T:=[r7,r1]) O h;have ak:=qT (T:=[r7,r1]) aj h;have g:Sg F w0 a1 F1 (fN _):=g.cC h (.refl [] _);have h:=mq h (.refl _);refine oB h fun aE bq bt aF h=>oA h 1 rfl G.Q8 rfl<|oA h 1 rfl G.Q7 rfl<|oB h fun aG a2 bu a3 h=>?_;have bh:=aF.size;have aH:=aF.trans a3;have af:=R.q7 aH;have a4:=D6 R (b:=aE) oJ;have a5:=D6 R (b:=aG) oJ;have ah:=G8 (h.at (i:=1) rfl) a4 (ak.q7 aH);have a6:=qAz (h.at (i:=0) rfl) a5;have hx:eO _ a2 (false,⟨pW aE,1,1⟩,dI,⟨pW aG,2,2⟩) ⟨false,[G.key],[],[G.Q8,G.Q7]⟩:=⟨rfl,⟨fun a ha=>by rw[zE.1 ha];exact hG.key,fun _ h=>(nomatch h),fun a ha=>by simp only[zG,xX,or_false] at ha;rcases ha with rfl|rfl;exact hG.Q8;exact hG.Q7⟩,⟨_,ah,rfl⟩,⟨_,.nil _ _,rfl⟩,a6⟩;refine vN af hx (zO rfl) (zO rfl) (zO rfl) fun F2 aI U aJ a7=>?_;have g:=g.next h aJ a7
 have h:=rU (h.sub (.cons _ (.cons _ (.refl _)))) aJ fun b hb=>af.yf b (zH _ hb);have hu:iy (dS k v M1 0 ⟨false,[G.key],[],[G.Q8,G.Q7]⟩).1.1:=wt R.wf vz;unfold lg at u;generalize dS k v M1 0 ⟨false,[G.key],[],[G.Q8,G.Q7]⟩=st at u U hu⊢;obtain⟨⟨q,e⟩,M2⟩:=st;dsimp only at u U hu⊢;apply eH<;>intro ab;have C:e≠0:=by rw[zT] at ab;exact zR.1 ab
 rw[if_pos C] at u;exact u F2 aI U.j5 g.rg g.new;have C:¬e≠0:=by rw[yE] at ab;exact fun h=>h (yP.1 ab)
 rw[if_neg C] at u;exact oA h 1 rfl J.2.2 rfl<|oD h 1 rfl (tL (q,V,J.2.2)) fun bv h _=>oD h 1 rfl (tL (q,V,wrap .u32 (J.2.2+1))) fun bx h _=>⟨q,_,F2,_,M2,aI,⟨g.rg,g.new,fun b hb=>g.own b (by simp at hb⊢;rcases hb with h|h|h<;>simp[h])⟩,U,h,hu,zz _,u⟩;have E:¬G.Q7≠0:=by rw[yE] at E;exact fun h=>h (yP.1 E)
 rw[if_neg E] at u;exact⟨G.Q8,J.2.2,F1,[r7,r1],M1,aA,g,O,h,hG.Q8,u3,u⟩;rintro _ bz ⟨a,c,F2,T,M2,wa,g,a8,h,ha,a9,u⟩;exact oA h 2 rfl (pW pb) rfl<|oA h 2 rfl t rfl<|oC h 1 rfl (a,V,c) rfl<|TW.rG (a8.j8 h) ha aD a9 fun a' aK ba=>u F2 a' aK.j5 ((g.fr h).j6 ba g.new) g.new
end
end
section
section
variable {dbk pb j:Nat} {FD Y F F' T:List Nat} {D:dM} {w0 w w':World} {M M':eQ} {L L':List (Nat×Obj)} {k v:Nat} {t:Int}
def ph.rd{x:kV}{n:dN}{B:List Nat}(o:ph FD F w T (B++Y) x n B)(E:TW dbk pb FD D j w (T++(B++Y)) F M)(C:∀b∈B,b∉Y):eO (Zo FD (T++Y) F) w x n:=
 o.node.rd (fun b h u=>by
  have G:=E.sep b (by simp[h]);simp only[Zo,zD,zG] at u;rcases u with (u|u|u|u)|u;exact G.1 u;exact G.2 u;exact o.sep b u h;exact C b h u;exact E.yf b (by simp[h]) u) fun b h=>.inl (u9 (fun b h=>by
  rw[zD] at h;simp only[zD];rcases h with h|h;exact .inl h;exact .inr (.inr h)) b h)
def ph.next{R:List Nat}{x:kV}{n:dN}{B:List Nat}(o:ph FD F w T R x n B)(f:Fr F w w')(h:∀b∈B,b∉F)(u:∀b∈F',b∈F\/w.heap.size<=b):ph FD F' w' T R x n B:=⟨o.node.q8 f h (fun b C=>.inl (ws C)) (TW.vZ u),o.sep⟩
def qxL{r:Int×Int×Int}{N:dN}:mW k v t r ((N,0),M) = if N.Q1=true/\N.J3.length=0 then (if (fL M r.1).1≠0 then ((fL M r.1).1,(fL M r.1).2) else fv (fL M r.1).2 t 0 0 0) else if N.Q1=false/\N.J6.length=1 then (if (fL M r.1).1≠0 then ((fL M r.1).1,(fL M r.1).2) else fv (fL M r.1).2 t (N.J6.getD 0 0) (wrap .u32 (r.2.1-1)) (wrap .u32 (r.2.2-1))) else lg t (dS k v M r.1 N) (wrap .u32 (r.2.1-1)) r.2.2:=by unfold mW;rw[if_neg (fun h=>h rfl)]
set_option maxHeartbeats 1000000 in
def qvV{f:Nat}{ks:Sl}{K:Int->WP}(aD:eS key)(ak:iG k v)(hT:TW dbk pb FD D j w0 Y F M)(hk:eF (Zo FD Y F) w0 ks key)(Q:mZ D k v key f M (eE M t).1)(E:∀F' w',TW dbk pb FD D j w' Y F' (lA D k v t key f M).2->Fr F w0 w'->(∀b∈F',b∈F\/w0.heap.size<=b)->K (lA D k v t key f M).1 w'): cW 164 [.agg (oY (kA k v pb t)),ks.v] de w0 K:=by
 refine qj8 ?_;have g:=Sg.start F w0;have h:=oE [] w0;obtain⟨u1,u2,u3⟩:=D3 hT.wf t;refine oB h fun r1 w2 _ _ h=>oA h 0 rfl (pW pb) rfl<|oA h 0 rfl t rfl<|TW.J2 (hT.q7 h.fr) fun w6 f6=>?_;have h:=h.q7 f6;unfold lA at E;generalize eE M t=G at E Q u1 u2 u3⊢;refine oB h fun r7 w8 _ _ h=>oD h 0 rfl (tL G) fun w9 h _=>oC h 1 rfl (kA k v pb t) rfl<|oA h 0 rfl G.1 rfl<|Gi aD ak f (hT.cD h) u1 (vS hk h) Q fun x B F1 an af R U ao ac aF=>?_;have aG:=zm h;have a1:=h.fr.size;have g:=g.next h ao aF
 have h:=(hT.cD h).own h ao;generalize iL D k v key f M G.1=cn at E af R U⊢;obtain⟨⟨N,e1⟩,M1⟩:=cn;dsimp only at af R U⊢;have ap:TW dbk pb FD D j an ([r7,r1]++(B++Y)) F1 M1:=R.x8 fun b u=>by rw[zD,zD] at u;simp only[zD];rcases u with u|u|u;exact .inr (.inl u);exact .inl u;exact .inr (.inr u)
 have o:ph FD F1 an [r7,r1] (B++Y) x N B:=⟨U.j4 fun b u=>.inl (u9 (fun b u=>by rw[zD,zD] at u;simp only[zD];rcases u with u|u|u;exact .inr (.inl u);exact .inl u;exact .inr (.inr u)) b u),fun b u hm=>by have:=aG b u;have:=ac b hm;omega⟩;have aI:∀b∈B,b∉Y:=fun b u hm=>by have:=hT.sG b hm;have:=ac b u;omega
 have I:∀ {T:List Nat},∀b∈T++Y,b∈T++(B++Y):=fun b u=>by rw[zD] at u;simp only[zD];rcases u with u|u;exact .inl u;exact .inr (.inr u)
 refine oB h fun aJ a3 _ _ h=>oD h 0 rfl (eV x) fun aK h _=>?_;apply eH<;>intro J;have V:e1≠0:=by rw[zT] at J;exact zR.1 J
 have e:mW k v t G ((N,e1),M1)=(e1,M1):=(by unfold mW;rw[if_pos V]);rw[e] at E;exact E F1 aK ((TW.j8 (T:=[r7,r1]) ap h).x8 fun b u=>by simp[u]) (g.fr h) g.new;have aL:e1=0:=(by rw[yE] at J;exact yP.1 J);subst aL;rw[qxL] at E;have aa:x.1=N.Q1:=o.node.1;have aq:pE x N:=(o.node.rd (S:=[]) (fun _ _ h=>(nomatch h)) fun _ h=>nomatch h).lens;have ag:iy (wrap .u32 (G.2.1-1)):=zz _;refine oA h 1 rfl G.2.1 rfl<|oD h 1 rfl (tL (G.1,wrap .u32 (G.2.1-1),G.2.2)) fun ar h _=>?_;generalize wrap .u32 (G.2.1-1)=ab at E ag h;have C:=TW.j8 (T:=[r7,r1]) ap h;have o:=o.j8 h;have g:Sg F w0 ar F1 (fN _):=g.cC h (.refl [] _);have h:=mq h (.refl _);refine iQ (fun e w'=>∃(a b c:Int) (F2 T:List Nat) (M2:eQ) (wa:World),Sg F w0 wa F2 T/\TW dbk pb FD D j wa (T++Y) F2 M2/\dR T wa w' [(aJ,.cells (eV x) ND (0,0)),(r7,.cells (tL (a,b,c)) RT (0,0)),(r1,.cells (oY (kA k v pb t)) WK (0,0))]/\iy a/\iy b/\iy c/\
  ∀F' w',TW dbk pb FD D j w' Y F' (if e≠0 then (e,M2) else fv M2 t a b c).2->Fr F w0 w'->(∀b∈F',b∈F\/w0.heap.size<=b)->K (if e≠0 then (e,M2) else fv M2 t a b c).1 w') ?_ ?_
 refine iQ (fun d w'=>d=decide (N.Q1=true/\N.J3.length=0)/\w'=ar) ?_ ?_;refine oA h 0 rfl x.1 rfl ?_;apply eH<;>intro J;rw[aa] at J;refine oA h 0 rfl x.2.1 rfl ⟨?_,rfl⟩;rw[aq.J3,Bool.eq_iff_iff,yP,yN];exact⟨fun h=>⟨J,oJ⟩,fun h=>by rw[h.2];rfl⟩;rw[aa] at J;exact⟨(zU fun h=>by rw[J] at h;exact absurd h.1 oM).symm,rfl⟩;rintro d aM ⟨rfl,rfl⟩;apply eH<;>intro hd;have hd:=zC hd;rw[if_pos hd] at E;refine oA h 2 rfl (pW pb) rfl<|oA h 1 rfl G.1 rfl<|TW.drop (C.x8 I) fun F2 aN au av aO=>?_;have g:=g.next h av aO
 have h:=TW.own (C.x8 I) h av;exact oD h 1 rfl (tL (0,0,0)) fun a4 h _=>⟨0,0,0,F2,_,_,aN,g,au,h,vz,vz,vz,E⟩;have hd:=zB hd;rw[if_neg hd] at E;refine iQ (fun d w'=>d=decide (N.Q1=false/\N.J6.length=1)/\w'=aM) ?_ ?_;refine oA h 0 rfl x.1 rfl ?_;apply eH<;>intro J;rw[aa,zT] at J;refine oA h 0 rfl x.2.2.2 rfl ⟨?_,rfl⟩;rw[aq.J6,Bool.eq_iff_iff,yP,yN];exact⟨fun h=>⟨J,oJ⟩,fun h=>by rw[h.2];rfl⟩;rw[aa,yE] at J;exact⟨(zU fun h=>by rw[J] at h;exact absurd h.1 oM).symm,rfl⟩;rintro d a5 ⟨rfl,rfl⟩;apply eH<;>intro O;have O:=zC O;rw[if_pos O] at E;have ai:0<N.J6.length:=oJ;rw[vh ai] at E;have aP:iy N.J6[0]:=o.node.2.1.2.2 _ (zX ai);refine oA h 2 rfl (pW pb) rfl<|oA h 1 rfl G.1 rfl<|TW.drop C fun F2 aQ aw aj ax=>?_;have g:=g.next h aj ax
 have o:=o.next aj (fun b u=>C.yf b (by simp[u])) ax
 have h:=TW.own C h aj;have h:=oF h;refine oA h 0 rfl x.2.2.2 rfl ?_;have oR:eO [] _ x N:=(o.j8 h).node.rd (S:=[]) (fun _ _ h=>(nomatch h)) fun _ h=>nomatch h;exact dX.get oR.2.2.2.2 0 rfl (x:=N.J6[0]) (zA ai) (y:=N.J6[0]) rfl<|oA h 1 rfl G.2.2 rfl<|oD h 1 rfl (tL (N.J6[0],ab,G.2.2)) fun a7 h _=>oD h 1 rfl (tL (N.J6[0],ab,wrap .u32 (G.2.2-1))) fun a8 h _=>⟨_,_,_,F2,_,_,aQ,g,aw.x8 I,h,aP,ag,zz _,E⟩;have O:=zB O;rw[if_neg O] at E;have sx:=af rfl;have z1:=sx.J3;have z2:=sx.J7;have z3:=sx.J6;refine oC h 2 rfl (kA k v pb t) rfl<|oA h 1 rfl G.1 rfl<|oC h 0 rfl x rfl<|vN (C.x8 I) (o.rd C aI) oJ oJ oJ fun F2 aT ae ay aU=>?_;have az:iy (dS k v M1 G.1 N).1.1:=wt C.wf u1;have g:=g.next h ay aU
 have h:=TW.own (C.x8 I) h ay;unfold lg at E;generalize dS k v M1 G.1 N=st at E ae az⊢;obtain⟨⟨q,e2⟩,M2⟩:=st;exact oD h 1 rfl (tL (q,ab,G.2.2)) fun a9 h _=>⟨q,ab,G.2.2,F2,_,M2,aT,g,ae,h,az,ag,u3,E⟩;rintro e aV ⟨a,b,c,F2,T,M2,wa,g,aA,h,ua,ub,uc,E⟩;apply eH<;>intro O;have V:e≠0:=by rw[zT] at O;exact zR.1 O
 rw[if_pos V] at E;exact E F2 aV (aA.j8 h).j5 (g.fr h) g.new;have V:¬e≠0:=by rw[yE] at O;exact fun h=>h (yP.1 O)
 rw[if_neg V] at E;exact oA h 2 rfl (pW pb) rfl<|oA h 2 rfl t rfl<|oC h 1 rfl (a,b,c) rfl<|TW.rG (aA.j8 h) ua ub uc fun aW aB aX=>E F2 aW aB.j5 ((g.fr h).j6 aX g.new) g.new
end
end
end
section
open Go Go.Pt List
open Go.IntKind (wrap)
open Classical
variable {key:Key}
def qxa{S:Type}{B:(S->WP)->S->WP}(I:Nat->S->WP)(E:∀f s w (X:S->WP),I f s w->(∀u C w',u<f->I u C w'->X C w')->B X s w):∀(f:Nat) {s:S} {w:World},I f s w->loop S B s w:=fun f=>by
 induction f using Nat.strongRecOn with
 | ind f ih=>exact fun {s w} h=>xp fun X G=>E f s w X h fun u C w' J O=>G _ _ (ih u J O)
noncomputable def oS (D:dM) (k v:Nat) (key:Key) (M:eQ):Nat->Int->Key×Int
 | 0,p=>if p=0 then ([],5) else ([],-1)
 | f+1,p=>if p=0 then ([],5)
  else if (dL D M k v p).2≠0 then ([],(dL D M k v p).2)
  else if (dL D M k v p).1.Q1 then
   if (dL D M k v p).1.J3[dP (dL D M k v p).1.J3 key]?=some key then ((dL D M k v p).1.J7.getD (dP (dL D M k v p).1.J3 key) [],0) else ([],5)
  else oS D k v key M f ((dL D M k v p).1.J6.getD (eA (dL D M k v p).1.J3 key) 0)
section
variable {dbk pb j:Nat} {FD Y F F' T:List Nat} {D:dM} {w0 w w':World} {M M':eQ} {k v:Nat} {t:Int}
def qtS{f:Nat}{ks:Sl}{K:Sl×Int->WP}(ae:eS key)(hs:ue t=((k:Int),(v:Int)))(av:k≠0)(aX:key.length=k)(hT:TW dbk pb FD D j w0 Y F M)(hk:eF (Zo FD Y F) w0 ks key)(Q:(oS D k v key M f (eE M t).1).2≠-1)(kk:∀s w',(∀G:List Nat,(∀b∈G,b<w0.heap.size)->eF G w' s (oS D k v key M f (eE M t).1).1)->Fr [] w0 w'->K (s,(oS D k v key M f (eE M t).1).2) w'): cW 42 [dH pb,.i t,ks.v] dg w0 K:=by
 refine qtP ?_;have aO:=hk.1;refine G4 (k:=k) (v:=v) hs (fun h=>absurd h av) (fun _ h=>absurd oJ h) fun _ _ w2 f2=>?_;have h:=(oE [] w0).q7 f2;refine oB h fun r3 w4 _ _ h=>oD h 0 rfl (oY (kA k v pb t)) fun w5 h _=>cond_false rfl<|TW.J2 (hT.q7 h.fr) fun w7 f7=>?_;have h:=h.q7 f7;have hu:=(D3 hT.wf t).1;generalize eE M t=rt at kk Q hu⊢;generalize ag:oS D k v key M f rt.1=ah at kk Q;refine iQ (fun _ w'=>ah=([],5)/\Fr [] w0 w') ?_ ?_
 ·refine qxa (fun f s w'=>oS D k v key M f s=ah/\iy s/\dR [] w0 w' [(r3,.cells (oY (kA k v pb t)) WK (0,0))]) ?_ f ⟨ag,hu,h⟩;rintro f s a1 X ⟨u,ay,h⟩ hX;apply eH<;>intro V
  ·have R:s≠0:=(by rw[zT] at V;exact zR.1 V);cases f with
   | zero=>
    unfold oS at u;rw[if_neg R] at u;rw[<- u] at Q;exact absurd rfl Q
   | succ f=>
   unfold oS at u;rw[if_neg R] at u;refine oC h 0 rfl (kA k v pb t) rfl ?_;rcases aa:dL D M k v s with ⟨n,e0⟩;rw[aa] at u;dsimp only at u;refine Cj (k:=k) (v:=v) (hT.q7 h.fr) ay fun x B az aQ C aA aR=>?_;rw[aa] at C⊢;dsimp only at C⊢;have O:eO [] az x n:=C.rd (fun _ _ h=>(nomatch h)) fun _ h=>nomatch h;have h:=h.q7 aA;have aT:=h.fr;refine oB h fun ai aB a3 aC h=>?_;have O:eO [ai] aB x n:=(O.j4 (S':=[ai]) fun b hb=>by rw[zE.1 hb];exact .inr oJ).q7 aC;refine oD h 0 rfl (eV x) fun aj h aE=>?_;have O:=O.q8 aE fun b hb=>.inl hb;apply eH<;>intro E;have ak:e0≠0:=by rw[zT] at E;exact zR.1 E
   rw[if_pos ak] at u;subst u;exact kk dI aj (fun _ _=>.nil _ _ _ _) h.fr;have aF:e0=0:=by rw[yE] at E;exact yP.1 E
   subst aF;rw[if_neg (fun h=>h rfl)] at u;have hr:=Cp aa;obtain⟨l1,l2,l3,l4,l5⟩:=wo hr;have al:x.1=n.Q1:=O.1;refine oA h 0 rfl x.1 rfl ?_;apply eH<;>intro I;have J:n.Q1=false:=(by rw[al,zT] at I;exact I);rw[if_neg (by rw[J];decide)] at u;obtain⟨l6,l7,l8⟩:=l5 J;have aU:=AC n.J3 key;have fd:=(Fr.refl [] aj).drew;have h:=oF h;refine oA h 0 rfl x.2.2.2 rfl<|oC h 0 rfl x rfl<|Cb (O.q7 fd) (hk.q7 h.fr) ae hr.2.2.1 oJ fun aG am=>?_;have h:=h.q7 am;refine iM (h.cell 0 rfl rfl) ?_;have ab:eA n.J3 key<n.J6.length:=oJ;refine dX.get ((O.q7 fd).q7 am).2.2.2.2 (eA n.J3 key) rfl (zA ab) (y:=n.J6[eA n.J3 key]) rfl ?_;rw[vh ab] at u;exact hX f _ aG (Nat.lt_succ_self f) ⟨u,O.2.1.2.2 _ (zX ab),h.sub (sublist_cons_self _ _)⟩;have J:n.Q1=true:=(by rw[al,yE] at I;exact I);rw[if_pos J] at u;obtain⟨l6,l7⟩:=l4 J;refine oC h 0 rfl x rfl<|Ej O (hk.q7 h.fr) ae hr.2.2.1 oJ fun a8 an=>?_;have h:=h.q7 an;apply cD<;>intro ac;have ao:=ac;rw[if_pos ao] at u;have a9:=(zP.1 ao).1;obtain⟨pv,ap,ad⟩:=(O.q7 an).2.2.2.1;have U:dP n.J3 key<pv.length:=by
    have:=congrArg List.length ad
    rw[zK] at this;omega
   refine oA h 0 rfl x.2.2.1 rfl<|jO.get ap (dP n.J3 key) rfl U ?_;have aq:n.J7.getD (dP n.J3 key) []=pv[dP n.J3 key].2:=(by rw[<- ad,zp U]);rw[aq] at u;have aH:pv[dP n.J3 key].2.length<=1000000:=by have h1:=hr.2.1 pv[dP n.J3 key].2 (by rw[<- ad];exact zZ (zX U));have h2:=qnS (k:=k) (v:=v) oJ;omega
   refine Ar (ap.2 _ (zX U)) aH fun s' B' aI aJ aK aL _ _=>?_;subst u;have ba:=h.fr.size;exact kk s' aI (fun G hG=>aJ.kF lZ fun c V hm=>by have:=aL c V;have:=hG c hm;omega) (h.fr.trans aK);have ar:=ac;rw[if_neg ar] at u;exact⟨u.symm,h.fr⟩
  have R:s=0:=(by rw[yE] at V;exact yP.1 V);refine⟨?_,h.fr⟩;rw[<- u];cases f<;>(unfold oS;rw[if_pos R])
 rintro _ aM ⟨rfl,aN⟩;exact kk dI aM (fun _ _=>.nil _ _ _ _) aN
def quF{r h:Int}(u:0<=r)(C:0<=h/\h<=1000000)(E:2*h.toNat+1<=r.toNat):decide (r>wrap .i64 (2*wrap .i64 h))=true:=by rw[gd h oJ,gd (2*h) oJ];exact yA oJ
def qzG{ks vs:Sl}{val:Key}{f:Nat}{K:Int->WP}(Q:eS key)(R:eS val)(hs:ue t=((k:Int),(v:Int)))(U:k≠0)(aj:key.length=k)(V:val.length=v)(hT:TW dbk pb FD D j w0 Y F M)(hk:eF (Zo FD Y F) w0 ks key)(hv:eF (Zo FD Y F) w0 vs val)(aa:0<=(eE M t).2.2/\(eE M t).2.2<=1000000)(ab:2*(eE M t).2.2.toNat+1<=M.J8.length)(ac:(eE M t).1≠0->(iF D k v key val f M (eE M t).1).1.2≠-1)(kk:∀F' w',TW dbk pb FD D j w' Y F' (kc D k v t key val f M).2->Fr F w0 w'->(∀b∈F',b∈F\/w0.heap.size<=b)->K (kc D k v t key val f M).1 w'): cW 66 [dH pb,.i t,ks.v,vs.v] de w0 K:=by refine qtQ ?_;have am:=hk.1;have ad:=hv.1;have g:=Sg.start F w0;have h:=oE [] w0;refine oB h fun r1 w2 _ _ h=>oB h fun r3 w4 _ _ h=>oA h 1 rfl ks rfl<|G4 (k:=k) (v:=v) hs (fun h=>absurd h U) (fun _ h=>absurd oJ h) fun _ _ w7 f7=>?_;have h:=h.q7 f7;refine oB h fun r8 w9 _ _ h=>oD h 0 rfl (oY (kA k v pb t)) fun ae h _=>cond_false rfl<|oA h 1 rfl vs rfl<|oA h 0 rfl (v:Int) rfl<|cond_false (by rw[ad,V];simp)<|oC h 0 rfl (kA k v pb t) rfl ?_;have u:=hT.cD h;have E:=vS hk h;have G:=vS hv h;have g:Sg F w0 ae F (fN _):=g.cC h (.refl [] _);have h:=mq h (.refl _);refine qfr<|oB h fun q1 ap _ _ h=>?_;have h:=oF h;refine oA h 0 rfl (pW pb) rfl<|oA h 0 rfl (pW pb) rfl<|oA h 0 rfl t rfl<|TW.room (u.j8 h)<|ka (h.cell 0 rfl rfl) (h.cell 0 rfl rfl)<|TW.J2 (u.j8 h) fun aq C=>?_;have I:=(u.j8 h).q7 C;have J:=(qT E h).q7 C;have O:=(qT G h).q7 C;have g:=g.cC h C;have h:=rU h C fun _ _ h=>nomatch h;exact cond_true (quF oJ aa oJ)<|qz (lb:=[dH r8,dH r1,dH r3]) rfl oK<|qpP<|oC h 1 rfl (kA k v pb t) rfl<|oA h 3 rfl ks rfl<|oA h 2 rfl vs rfl<|qvw Q R I J O ac fun F' w' af f' n'=>kk F' w' af.j5 (g.rg.j6 f' g.new) fun b hb=>(n' b hb).elim (g.new b) fun h1=>.inr (zL g.rg.size h1)
def qzx{ks:Sl}{f f2:Nat}{K:Int->WP}(J:eS key)(O:iG k v)(hs:ue t=((k:Int),(v:Int)))(Q:k≠0)(aa:key.length=k)(hT:TW dbk pb FD D j w0 Y F M)(hk:eF (Zo FD Y F) w0 ks key)(ac:0<=(eE M t).2.2/\(eE M t).2.2<=1000000)(ad:2*(eE M t).2.2.toNat+1<=M.J8.length)(G:(oS D k v key M f2 (eE M t).1).2=0)(I:mZ D k v key f M (eE M t).1)(kk:∀F' w',TW dbk pb FD D j w' Y F' (lA D k v t key f M).2->Fr F w0 w'->(∀b∈F',b∈F\/w0.heap.size<=b)->K (lA D k v t key f M).1 w'): cW 111 [dH pb,.i t,ks.v] de w0 K:=by refine qtO ?_;have ai:=hk.1;have g:=Sg.start F w0;have h:=oE [] w0;refine oB h fun r1 w2 _ _ h=>oA h 0 rfl ks rfl<|G4 (k:=k) (v:=v) hs (fun h=>absurd h Q) (fun _ h=>absurd oJ h) fun _ _ w7 f7=>?_;have h:=h.q7 f7;refine oB h fun r8 w9 _ _ h=>oD h 0 rfl (oY (kA k v pb t)) fun al h _=>cond_false rfl<|oA h 1 rfl ks rfl<|qtS (f:=f2) J hs Q aa (hT.cD h) (vS hk h) (by rw[G];decide) fun s am _ C=>?_;rw[G];have u:=(hT.cD h).q7 C;have R:=(vS hk h).q7 C;have g:=g.cC h C;have h:=rU h C fun _ _ h=>nomatch h;refine cond_false rfl<|oC h 0 rfl (kA k v pb t) rfl<|qfr<|oB h fun q1 an _ _ h=>?_;have h:=oF h;refine oA h 0 rfl (pW pb) rfl<|oA h 0 rfl (pW pb) rfl<|oA h 0 rfl t rfl<|TW.room (u.j8 h)<|ka (h.cell 0 rfl rfl) (h.cell 0 rfl rfl)<|TW.J2 (u.j8 h) fun ao E=>?_;have U:=(u.j8 h).q7 E;have V:=(qT R h).q7 E;have g:=g.cC h E;have h:=rU h E fun _ _ h=>nomatch h;exact cond_true (quF oJ ac oJ)<|qz (lb:=[dH r8,dH r1]) rfl oK<|qpO<|oC h 1 rfl (kA k v pb t) rfl<|oA h 2 rfl ks rfl<|qvV J O U V I fun F' w' ae f' n'=>kk F' w' ae.j5 (g.rg.j6 f' g.new) fun b hb=>(n' b hb).elim (g.new b) fun h1=>.inr (zL g.rg.size h1)
end
end
section
open Go Go.Pt List
open Go.IntKind (wrap)
open Classical
variable {L:gu} {key:Key}
def ki (key:Key) (L:gu):Option Key:=(L.find? fun x=>decide (x.1=key)).map (·.2)
def HP{A B:gu}:ki key (A++B)=match ki key A with|some v=>some v|none=>ki key B:=by unfold ki;rw[List.find?_append];cases A.find? (fun x=>decide (x.1=key))<;>rfl
def Ck(h:∀x∈L,x.1≠key):ki key L=none:=by unfold ki;rw[List.find?_eq_none.2 fun x u=>by simp[h x u]];rfl
def qqd(h:key∈dU L):∃v,ki key L=some v:=by
 unfold ki;obtain⟨x,u,rfl⟩:=mem_map.1 h;cases e:L.find? (fun y=>decide (y.1=x.1)) with
 | none=>exact absurd (List.find?_eq_none.1 e x u) oL
 | some y=>exact⟨y.2,rfl⟩
section
variable {D:dM} {M M':eQ} {k v:Nat} {key:Key}
def Has.get:∀ {h:Nat} {s:iO},Has D M k v h s->s.Q8≠0->M.Wf->M.Q0=false->oS D k v key M (h+1) s.Q8=match ki key s.x9 with|some x=>(x,0)|none=>([],5)
 | 0,s,hs,hp,hW,ho=>by
  obtain⟨h1,h2,V,h4⟩:=hs;have hl:dL D M k v s.Q8=(eh s.x9,0):=V.load h4;have aa:fH s.x9:=V.right.2.2.1;have aj:(eh s.x9).J3=dU s.x9:=rfl;unfold oS;rw[if_neg hp,hl];dsimp only;rw[if_neg (fun h=>h rfl),if_pos (show (eh s.x9).Q1=true from rfl),aj];by_cases hm:(dU s.x9)[dP (dU s.x9) key]?=some key
  ·rw[if_pos hm];have hi:dP (dU s.x9) key<s.x9.length:=by
    have:=(zP.1 hm).1
    simpa using this
   have ak:=Ay (k:=key) aa;have ab:s.x9=s.x9.take (dP (dU s.x9) key)++s.x9[dP (dU s.x9) key]::s.x9.drop (dP (dU s.x9) key+1):=by rw[getElem_cons_drop,xE]
   have I:s.x9[dP (dU s.x9) key].1=key:=(by rw[zQ,zA hi] at hm;simpa using hm);have hg:ki key s.x9=some s.x9[dP (dU s.x9) key].2:=by
    conv=>lhs;rw[ab]
    rw[HP,Ck fun x u=>AK (ak.1 x u)];unfold ki;rw[List.find?_cons_of_pos (by simp[I])];rfl
   rw[hg];show ((List.map (·.2) s.x9).getD _ [],(0:Int))=_;rw[yR,zQ,zA hi];rfl
  rw[if_neg hm];have hn:key∉dU s.x9:=fun h=>hm ((Ag aa).2 h);rw[Ck fun x u e=>hn (by rw[<- e];exact zZ u)]
 | h+1,⟨p,n,L,P⟩,⟨U,h0,h1,h2,V,h4,h5,h6,h7⟩,hp,hW,ho=>by
  dsimp only at h1 h2 V h5 hp;subst h1 h2 V;have hl:dL D M k v p=(dO U,0):=h4.load h5;obtain⟨A,e,B,J,hA,I,al,O⟩:=ww (key:=key) h0 h6;have Q:(dO U).J6.getD (eA (dO U).J3 key) 0=e.2.Q8:=O;have am:e∈U:=(by rw[J];simp);obtain⟨R,_⟩:=h7 e am;have aA:=vg hW (R.J1 ho e.2.Q8 R.mem);unfold oS;rw[if_neg hp,hl];dsimp only;rw[if_neg (fun h=>h rfl),if_neg (show ¬(dO U).Q1=true from fun e=>nomatch e),Q,R.get oJ hW ho];have G:=h6;rw[J] at G;have C:=G.mid;have E:U.flatMap (·.2.x9)=A.flatMap (·.2.x9)++(e.2.x9++B.flatMap (·.2.x9)):=(by rw[J,rT]);have an:∀x∈A.flatMap (·.2.x9),x.1≠key:=fun x u=>by obtain⟨a,ha,u⟩:=yK.1 u;exact AK (sQ (C.1 a ha x u) I)
  have ao:∀x∈B.flatMap (·.2.x9),x.1≠key:=fun x u=>by obtain⟨b,hb,u⟩:=yK.1 u;exact (AK (sQ (al b hb) ((C.2 b hb).2.2 x u))).symm
  rw[E,HP,Ck an,HP,Ck ao];cases ki key e.2.x9<;>rfl
def Has.Q3(hc:iG k v):∀(h:Nat) (M:eQ) (s:iO),Has D M k v h s->M.Wf->M.Q0=false->s.y5.Nodup->key∈dU s.x9->2*h<=M.J8.length->mZ D k v key (h+1) M s.Q8
 | 0,M,s,hs,hW,ho,ac,J,hf=>fun n hn hl=>by have ad:dL D M k v s.Q8=(eh s.x9,0):=hs.2.2.1.load hs.2.2.2;rw[ad] at hn;cases hn;cases hl
 | h+1,M,⟨p,n,L,P⟩,⟨G,h0,h1,h2,h3,h4,h5,h6,h7⟩,hW,ho,ac,J,hf=>fun n' hn hl=>by
  dsimp only at h1 h2 h3 h5 ac J hn;subst h1 h2 h3;have av:dL D M k v p=(dO G,0):=h4.load h5;rw[av] at hn;cases hn;obtain⟨A,e,B,E,hA,aw,ax,ae⟩:=ww (key:=key) h0 h6;have af:(dO G).J6.getD (eA (dO G).J3 key) 0=e.2.Q8:=ae;have ay:eA (dO G).J3 key=A.length:=hA.symm;have az:e∈G:=(by rw[E];simp);obtain⟨al,aA⟩:=h7 e az;have ag:G.flatMap (·.2.y5)=A.flatMap (·.2.y5)++(e.2.y5++B.flatMap (·.2.y5)):=(by rw[E,rT]);have R:G.flatMap (·.2.x9)=A.flatMap (·.2.x9)++(e.2.x9++B.flatMap (·.2.x9)):=(by rw[E,rT]);have U:(A.flatMap (·.2.y5)++(e.2.y5++B.flatMap (·.2.y5))).Nodup:=(by rw[<- ag];exact (nodup_cons.1 ac).2);have V:e.2.y5.Nodup:=(yM.1 (yM.1 U).2.1).1;have aa:=h6;rw[E] at aa;have O:=aa.mid;have Q:key∈dU e.2.x9:=by obtain⟨x,C,rfl⟩:=mem_map.1 J;rw[R] at C;rcases zD.1 C with C|C;obtain⟨a,ha,C⟩:=yK.1 C;exact absurd (sQ (O.1 a ha x C) aw) sq;rcases zD.1 C with C|C;exact zZ C;obtain⟨b,I,C⟩:=yK.1 C;exact absurd (sQ (ax b I) ((O.2 b I).2.2 x C)) sq
  obtain⟨N1,n1,M1,Re,aZ,ec,aB,am,st,a1,a2⟩:=G5 hc h M e.2 al hW ho V Q oJ;rw[af];refine⟨al.Q3 hc h M e.2 hW ho V Q oJ,fun N M2 ab aR ny ah=>?_⟩;rw[ec] at ab;cases ab;have aC:N1.Q1=decide (h=0):=by
   cases h with
   | zero=>rw[am.1];rfl
   | succ h=>obtain⟨a3,_,h',_⟩:=am;rw[h'];rfl
  have u:∀b,(b∈A\/b∈B)->(dO G).J6.getD (jn (eA (dO G).J3 key)) 0=b.2.Q8->ny.Q1=N1.Q1:=fun b I aD=>by
   rw[aD] at ah;have aE:b∈G:=by rw[E];rcases I with I|I<;>simp[I]
   obtain⟨an,_⟩:=h7 b aE;have ao:Has D M1 k v h b.2:=an.q8 fun x C=>(st.rest x (an.J1 ho x C) fun hm=>by have ap:x∈e.2.y5:=(by rw[aB];exact zN _ hm);have hd:=yM.1 U;have aF:=yM.1 hd.2.1;rcases I with I|I;exact hd.2.2 x (yK.2 ⟨b,I,C⟩) x (zH _ ap) rfl;exact aF.2.2 x ap x (yK.2 ⟨b,I,C⟩) rfl).1;obtain⟨N2,R2,ad,_,_,aq,_⟩:=ao.load;rw[ad] at ah;cases ah;rw[aq,aC]
  have h2:=h4.right.x6.1;rw[ay] at u;have aG:(dO G).J6=G.map (·.2.Q8):=rfl;rw[aG] at u;by_cases hA0:A.length>0;have hs:jn A.length=A.length-1:=(by unfold jn;rw[if_pos hA0]);obtain⟨A',b,rfl⟩:∃A' b,A=A'++[b]:=⟨A.dropLast,A.getLast (length_pos_iff.1 hA0),(vA _).symm⟩;refine u b (.inl oL) ?_;rw[hs,E];simp[yR];have hs:jn A.length=A.length+1:=(by unfold jn;rw[if_neg hA0]);have aH:A=[]:=eq_nil_of_length_eq_zero oJ;subst aH;cases B with
  | nil=>rw[E] at h2;simp at h2
  | cons b B=>
   refine u b (.inr oL) ?_;rw[hs,E];rfl
def gQ.get{t:Int}{L:gu}{P:List Int}(C:gQ D M k v t L P)(E:M.Wf)(G:M.Q0=false):oS D k v key M (eE M t).2.2.toNat (eE M t).1=match ki key L with|some x=>(x,0)|none=>([],5):=by rcases C with ⟨e0,rfl,rfl⟩|⟨h,n,p,u,I,J⟩;rw[e0];rfl;rw[I];dsimp only;rw[zJ];exact J.get u E G
def gQ.Q3(E:iG k v){t:Int}{L:gu}{P:List Int}(G:gQ D M k v t L P)(u:key∈dU L)(I:M.Wf)(J:M.Q0=false)(O:P.Nodup)(C:2*(eE M t).2.2.toNat+1<=M.J8.length):mZ D k v key (eE M t).2.2.toNat M (eE M t).1:=by rcases G with ⟨e0,rfl,rfl⟩|⟨h,n,p,Q,R,U⟩;cases u;rw[R] at C⊢;dsimp only at C⊢;rw[zJ] at C⊢;exact U.Q3 E h M _ I J O u oJ
def qtt{t:Int}{f:Nat}{val:Key}{M':eQ}(h:kc D k v t key val f M=(0,M')):(eE M t).1≠0->(iF D k v key val f M (eE M t).1).1.2≠-1:=fun C u=>by unfold kc at h;rw[if_neg C] at h;unfold tr at h;rw[if_pos (by rw[u];decide),u] at h;cases h
end
section
structure Gd (N:eQ) (b:Nat) (M:eQ):Prop where
 Q0:M.Q0=false
 j7:M.j7=N.j7
 Q2:M.Q2=N.Q2
 Q6:M.Q6=N.Q6
 Q9:M.Q9=N.Q9
 i9:N.j7.2.getD 0 0=(b:Int)/\2<=b
 J8:∀ x∈M.J8,x<(b:Int)
 J5:∀ x∈M.J5.map (·.1),x<(b:Int)
section
variable {α β:Type} {N:eQ} {b c:Nat}
end
section
variable {N:eQ} {b c k v:Nat} {D:dM} {M M':eQ}
def gQ.cH{D':dM}{t:Int}{L:gu}{P:List Int}(h:gQ D M k v t L P)(C:∀x∈P,dJ D' M' x=dJ D M x)(e:eE M' t=eE M t):gQ D' M' k v t L P:=by rcases h with ⟨E,G,I⟩|⟨h,n,p,J,u,O⟩;exact .inl ⟨e.trans E,G,I⟩;exact .inr ⟨h,n,p,J,e.trans u,O.cH C⟩
def gQ.low{t:Int}{P:List Int}(h:gQ D M k v t L P):(eE M t).2.2.toNat<=L.length/\0<=(eE M t).2.2:=by
 rcases h with ⟨u,G,I⟩|⟨h,n,p,J,C,E⟩;rw[u];exact⟨yX _,Int.le_refl _⟩
 have:=E.counts.1
 rw[C];exact⟨by dsimp only at this⊢;omega,by dsimp only;omega⟩
end
end
section
def kv (t:Int):Nat×Nat:=((ue t).1.toNat,(ue t).2.toNat)
def Bs{t:Nat}(u:t<8):ue t=(((kv t).1:Int),((kv t).2:Int))/\iG (kv t).1 (kv t).2/\1<=(kv t).1/\(kv t).1<=24/\1<=(kv t).2/\(kv t).2<=108:=by obtain⟨k,v,e,h⟩:=qAv (t:=t) ⟨oJ,oJ⟩;have:kv t=(k,v):=(by unfold kv;rw[e];rfl);rw[this];exact⟨e,h⟩
abbrev lP:=Nat->gu×List Int
def pY (F:lP) (t:Nat) (x:gu×List Int):lP:=fun u=>if u=t then x else F u
def BI(F:lP)(t:Nat)(x:gu×List Int):pY F t x t=x:=if_pos rfl
def AQ{F:lP}{t u:Nat}{x:gu×List Int}(h:u≠t):pY F t x u=F u:=if_neg h
structure AS (D:dM) (M:eQ) (F:lP):Prop where
 j9:∀ t:Nat,t<8->gQ D M (kv t).1 (kv t).2 t (F t).1 (F t).2
 nodup:∀ t:Nat,t<8->(F t).2.Nodup
 J0:∀ t u:Nat,t<8->u<8->t≠u->∀ x∈(F t).2,x∉(F u).2
 use:∀ x,dZ M x->∃ t:Nat,t<8/\x∈(F t).2
section
variable {D D':dM} {M M':eQ} {F W:lP} {b q t:Nat}
def gQ.J1{k v:Nat}{t:Int}{L:gu}{P:List Int}(u:M.Q0=false)(h:gQ D M k v t L P):∀x∈P,dZ M x:=by rcases h with ⟨_,_,rfl⟩|⟨h,n,p,_,_,C⟩;exact fun x E=>nomatch E;exact C.J1 u
def AS.next{L':gu}{P':List Int}(h:AS D M F)(V:M.Q0=false)(Q:t<8)(hT:gQ D M' (kv t).1 (kv t).2 t L' P')(I:qP D M M' t (F t).2 P'):AS D M' (pY F t (L',P')):=by have J:∀u:Nat,u<8->u≠t->∀x∈(F u).2,dZ M x/\x∉(F t).2:=fun u G E x C=>⟨(h.j9 u G).J1 V x C,h.J0 u t G Q E x C⟩;have R:∀u:Nat,u<8->u≠t->∀x∈(F u).2,x∉P':=fun u G E x C=>(I.step.rest x (J u G E x C).1 (J u G E x C).2).2.2;refine⟨fun u G=>?_,fun u G=>?_,fun u z G U E x C=>?_,fun x C=>?_⟩;by_cases e:u=t;subst e;rw[BI];exact hT;rw[AQ e];exact (h.j9 u G).cH (fun x C=>(I.step.rest x (J u G e x C).1 (J u G e x C).2).1) (I.others u oJ);by_cases e:u=t;subst e;rw[BI];exact I.step.nodup;rw[AQ e];exact h.nodup u G;by_cases e:u=t;subst e;rw[BI] at C;rw[AQ E.symm];exact fun hm=>R z U E.symm x hm C;rw[AQ e] at C;by_cases e2:z=t;subst e2;rw[BI];exact R u G e x C;rw[AQ e2];exact h.J0 u z G U E x C;rcases I.step.use x C with O|⟨O,h2⟩;exact⟨t,Q,by rw[BI];exact O⟩;obtain⟨u,G,C⟩:=h.use x O;exact⟨u,G,by rw[AQ fun e=>h2 (by rw[<- e];exact C)];exact C⟩
def Dk (t:Int) (M:eQ):eQ:=kP M.j7 M.Q2 M.Q6 t false M.Q6
structure Wo (D:dM) (M:eQ) (b q:Nat) (F W:lP):Prop where
 calm:Calm D M b q
 j8:AS D M F
 was:AS D (Dk 0 M) W
 opens:qg D M.j7 M.Q2 M.Q6
 Q5:M.j7.2.length=27
 b4:8<=b/\b<=300
end
end
section
section
variable {D:dM} {M:eQ} {k v:Nat} {frm:Key}
abbrev k6:=dN×Int
noncomputable def jb (D:dM) (k v:Nat) (M:eQ) (pick:dN->Int):Nat->Int->Option (List k6)
 | 0,p=>none
 | f+1,p=>if (dL D M k v p).2≠0 then none
  else if (dL D M k v p).1.Q1 then some [((dL D M k v p).1,pick (dL D M k v p).1)]
  else (jb D k v M pick f ((dL D M k v p).1.J6.getD (pick (dL D M k v p).1).toNat 0)).map (((dL D M k v p).1,pick (dL D M k v p).1)::·)
def mK (D:dM) (M:eQ) (k v:Nat) (frm:Key):Nat->List k6->gu->Prop
 | 0,E,T=>∃(u:gu) (i:Nat),E=[(eh u,(i:Int))]/\i<=u.length/\fH u/\T=u.drop i
 | h+1,E,T=>∃(C:List io) (i:Nat) (G:List k6) (T1:gu),E=(dO C,(i:Int))::G/\i<C.length/\(∀e∈C.drop (i+1),Has D M k v h e.2/\∀x∈e.2.x9,¬gf x.1 frm)/\mK D M k v frm h G T1/\T=T1++(C.drop (i+1)).flatMap (·.2.x9)
def kI (n:dN) (frm:Key):Int:=if n.Q1 then dP n.J3 frm else eA n.J3 frm
noncomputable def nt (frm:Key) (L:gu):gu:=L.filter fun x=>decide (¬gf x.1 frm)
def Hf(h:∀x∈L,¬gf x.1 frm):nt frm L=L:=filter_eq_self.2 fun x u=>yA (h x u)
def qoa(h:∀x∈L,gf x.1 frm):nt frm L=[]:=filter_eq_nil_iff.2 fun x u=>by simpa using h x u
def Fp{A B:gu}:nt frm (A++B)=nt frm A++nt frm B:=xC ..
def qpw{a b:Key}(h:mt b a):¬gf a b:=h
def GG:∀ {h:Nat} {s:iO},Has D M k v h s->∃V,jb D k v M (fun n=>kI n frm) (h+1) s.Q8=some V/\mK D M k v frm h V (nt frm s.x9)
 | 0,s,hs=>by
  obtain⟨h1,h2,h3,h4⟩:=hs;have hl:dL D M k v s.Q8=(eh s.x9,0):=h3.load h4;have ab:fH s.x9:=h3.right.2.2.1;have ac:=H7 (dU s.x9) frm;rw[zK] at ac;have ad:=Ay (k:=frm) ab;unfold jb;rw[hl,if_neg (fun h=>h rfl),if_pos (show (eh s.x9).Q1=true from rfl)];refine⟨_,rfl,s.x9,dP (dU s.x9) frm,?_,ac,ab,?_⟩;show [(eh s.x9,kI (eh s.x9) frm)]=_;rw[kI,if_pos (show (eh s.x9).Q1=true from rfl)];rfl
  ·conv=>lhs;rw[<- xE (dP (dU s.x9) frm) s.x9]
   rw[Fp,qoa ad.1,xI,Hf fun x G=>qpw (ad.2 x G)]
 | h+1,⟨p,n,L,P⟩,⟨u,h0,h1,h2,h3,h4,h5,h6,h7⟩=>by
  dsimp only at h1 h2 h3 h5;subst h1 h2 h3;have hl:dL D M k v p=(dO u,0):=h4.load h5;obtain⟨A,e,B,E,hA,ak,ae,O⟩:=ww (key:=frm) h0 h6;have Q:(dO u).J6.getD (eA (dO u).J3 frm) 0=e.2.Q8:=O;have R:eA (dO u).J3 frm=A.length:=hA.symm;have al:e∈u:=(by rw[E];simp);obtain⟨am,_⟩:=h7 e al;have J:=h6;rw[E] at J;have C:=J.mid;obtain⟨V,e1,e2⟩:=GG am;have af:kI (dO u) frm=(A.length:Int):=by rw[kI,if_neg (show ¬(dO u).Q1=true from fun e=>nomatch e),R]
  unfold jb;rw[hl,if_neg (fun h=>h rfl),if_neg (show ¬(dO u).Q1=true from fun e=>nomatch e)];show ∃V,Option.map (((dO u),kI (dO u) frm)::·) (jb D k v M (fun n=>kI n frm) (h+1) ((dO u).J6.getD (kI (dO u) frm).toNat 0))=some V/\_;rw[af,zJ,<- R,Q,e1,R];have I:u.drop (A.length+1)=B:=(by rw[E];simp);refine⟨_,rfl,u,A.length,V,_,rfl,by rw[E];simp,fun b U=>?_,e2,?_⟩;rw[I] at U;exact⟨(h7 b (by rw[E];simp[U])).1,fun x G g=>(C.2 b U).2.2 x G (qu g (ae b U))⟩
  ·rw[I];show nt frm (u.flatMap (·.2.x9))=_;conv=>lhs;rw[E]
   rw[yQ,yH,Fp,Fp,qoa fun x G=>?_,xI,Hf (L:=B.flatMap _) fun x G=>?_];obtain⟨b,U,G⟩:=yK.1 G;exact fun g=>(C.2 b U).2.2 x G (qu g (ae b U));obtain⟨a,ha,G⟩:=yK.1 G;exact sQ (C.1 a ha x G) ak
end
end
section
section
variable {D:dM} {M:eQ} {k v:Nat} {frm:Key}
noncomputable def iX (D:dM) (k v:Nat) (M:eQ) (pick:dN->Int) (step:Int->Int):Nat->List k6->Option (List k6)
 | 0,_=>none
 | _+1,[]=>none
 | h+1,(n,i)::C=>match iX D k v M pick step h C with
  | some u=>some ((n,i)::u)
  | none=>if 0<=step i/\step i<n.J6.length then (jb D k v M pick (h+1) (n.J6.getD (step i).toNat 0)).map ((n,step i)::·) else none
def kT:Nat->List k6->Prop
 | 0,C=>∃u:gu,C=[(eh u,(u.length:Int))]
 | _+1,[]=>False
 | h+1,_::E=>kT h E
def qux:∀ {h:Nat} {G:List k6} {T:gu},mK D M k v frm h G T->kT h G->(iX D k v M (fun n=>kI n frm) (fun i=>i+1) h G=none/\T=[])\/∃I,iX D k v M (fun n=>kI n frm) (fun i=>i+1) h G=some I/\mK D M k v frm h I T
 | 0,G,T,⟨Q,i,e,hi,hs,J⟩,⟨O,e'⟩=>by rw[e] at e';have e1:=(vB (vC e').1);have e2:dU Q=dU O:=congrArg dN.J3 e1.1;have e3:=congrArg List.length e2;rw[zK,zK] at e3;have e4:=Int.ofNat.inj e1.2;exact .inl ⟨rfl,by rw[J];exact vE oJ⟩
 | h+1,G,T,⟨E,i,up,T1,e,hi,R,hu,J⟩,u=>by
  subst e;have u:kT h up:=u;rcases qux hu u with ⟨U,rfl⟩|⟨V,U,h2⟩;have aa:(dO E).J6.length=E.length:=(by show (E.map (·.2.Q8)).length=_;rw[zK]);have ej:((i:Int)+1).toNat=i+1:=oJ;unfold iX;rw[U];dsimp only;rw[aa,ej];by_cases hlt:i+1<E.length;rw[if_pos ⟨oJ,oJ⟩];have ab:(dO E).J6.getD (i+1) 0=E[i+1].2.Q8:=by show (E.map (·.2.Q8)).getD _ 0=_;rw[yR,zQ,zA hlt];rfl
  have C:E.drop (i+1)=E[i+1]::E.drop (i+2):=zY hlt;obtain⟨q1,q2⟩:=R E[i+1] (by rw[C];exact mem_cons_self ..);obtain⟨ac,p1,p2⟩:=GG (frm:=frm) q1;rw[Hf q2] at p2;rw[ab,p1];refine .inr ⟨_,rfl,E,i+1,ac,_,rfl,hlt,fun e he=>R e (by rw[C];exact zN _ he),p2,?_⟩;rw[J,xI,C,yH];rw[iN];exact .inl ⟨rfl,by rw[J,vE oJ];rfl⟩;unfold iX;rw[U];exact .inr ⟨_,rfl,E,i,V,T1,rfl,hi,R,h2,J⟩
end
end
section
section
variable {D:dM} {M:eQ} {k v:Nat} {to:Key}
def iV (n:dN) (to:Key):Int:=if n.Q1 then (eA n.J3 to:Int)-1 else eA n.J3 to
def mS (D:dM) (M:eQ) (k v:Nat) (to:Key):Nat->List k6->gu->Prop
 | 0,E,T=>∃(u:gu) (i:Nat),E=[(eh u,(i:Int)-1)]/\i<=u.length/\fH u/\T=(u.take i).reverse
 | h+1,E,T=>∃(C:List io) (i:Nat) (G:List k6) (T1:gu),E=(dO C,(i:Int))::G/\i<C.length/\(∀e∈C.take i,Has D M k v h e.2/\∀x∈e.2.x9,¬gf to x.1)/\mS D M k v to h G T1/\T=T1++((C.take i).flatMap (·.2.x9)).reverse
noncomputable def vw (to:Key) (L:gu):gu:=L.filter fun x=>decide (¬gf to x.1)
def FR(h:∀x∈L,¬gf to x.1):vw to L=L:=filter_eq_self.2 fun x u=>yA (h x u)
def qs1(h:∀x∈L,gf to x.1):vw to L=[]:=filter_eq_nil_iff.2 fun x u=>by simpa using h x u
def Hw{A B:gu}:vw to (A++B)=vw to A++vw to B:=xC ..
def qqm{l:gu}{k:Key}(u:fH l):(∀x∈l.take (eA (dU l) k),mt x.1 k)/\∀x∈l.drop (eA (dU l) k),gf k x.1:=by refine⟨fun x h=>qoh (l:=dU l) ?_,fun x h=>qmC (l:=dU l) u ?_⟩;rw[<- xP];exact zZ h;rw[<- xQ];exact zZ h
def HH:∀ {h:Nat} {s:iO},Has D M k v h s->∃V,jb D k v M (fun n=>iV n to) (h+1) s.Q8=some V/\mS D M k v to h V (vw to s.x9).reverse
 | 0,s,hs=>by
  obtain⟨h1,h2,h3,h4⟩:=hs;have hl:dL D M k v s.Q8=(eh s.x9,0):=h3.load h4;have ac:fH s.x9:=h3.right.2.2.1;have ad:=AC (dU s.x9) to;rw[zK] at ad;have ae:=qqm (k:=to) ac;unfold jb;rw[hl,if_neg (fun h=>h rfl),if_pos (show (eh s.x9).Q1=true from rfl)];refine⟨_,rfl,s.x9,eA (dU s.x9) to,?_,ad,ac,?_⟩;show [(eh s.x9,iV (eh s.x9) to)]=_;rw[iV,if_pos (show (eh s.x9).Q1=true from rfl)];rfl
  ·congr 1;conv=>lhs;rw[<- xE (eA (dU s.x9) to) s.x9]
   rw[Hw,qs1 ae.2,xH,FR fun x E=>ae.1 x E]
 | h+1,⟨p,n,L,P⟩,⟨u,h0,h1,h2,h3,h4,h5,h6,h7⟩=>by
  dsimp only at h1 h2 h3 h5;subst h1 h2 h3;have hl:dL D M k v p=(dO u,0):=h4.load h5;obtain⟨A,e,B,C,hA,ak,al,Q⟩:=ww (key:=to) h0 h6;have R:(dO u).J6.getD (eA (dO u).J3 to) 0=e.2.Q8:=Q;have U:eA (dO u).J3 to=A.length:=hA.symm;have am:e∈u:=(by rw[C];simp);obtain⟨an,_⟩:=h7 e am;have J:=h6;rw[C] at J;have G:=J.mid;obtain⟨V,e1,e2⟩:=HH an;have af:iV (dO u) to=(A.length:Int):=by rw[iV,if_neg (show ¬(dO u).Q1=true from fun e=>nomatch e),U]
  unfold jb;rw[hl,if_neg (fun h=>h rfl),if_neg (show ¬(dO u).Q1=true from fun e=>nomatch e)];show ∃V,Option.map (((dO u),iV (dO u) to)::·) (jb D k v M (fun n=>iV n to) (h+1) ((dO u).J6.getD (iV (dO u) to).toNat 0))=some V/\_;rw[af,zJ,<- U,R,e1,U];have I:u.take A.length=A:=(by rw[C];simp);have O:∀a∈A,∀x∈a.2.x9,¬gf to x.1:=fun a ha x E g=>ak (qu g (G.1 a ha x E));refine⟨_,rfl,u,A.length,V,_,rfl,by rw[C];simp,fun b hb=>?_,e2,?_⟩;rw[I] at hb;exact⟨(h7 b (by rw[C];simp[hb])).1,O b hb⟩
  ·rw[I];show (vw to (u.flatMap (·.2.x9))).reverse=_;conv=>lhs;rw[C]
   rw[yQ,yH,Hw,Hw,qs1 (L:=B.flatMap _) fun x E=>?_,xH,FR (L:=A.flatMap _) fun x E=>?_,reverse_append];obtain⟨a,ha,E⟩:=yK.1 E;exact O a ha x E;obtain⟨b,hb,E⟩:=yK.1 E;exact sQ (al b hb) ((G.2 b hb).2.2 x E)
end
end
section
section
variable {D:dM} {M:eQ} {k v:Nat} {to:Key}
def kU:Nat->List k6->Prop
 | 0,C=>∃u:gu,C=[(eh u,-1)]
 | _+1,[]=>False
 | h+1,_::E=>kU h E
def qqt:∀ {h:Nat} {I:List k6} {T:gu},mS D M k v to h I T->kU h I->(iX D k v M (fun n=>iV n to) (fun i=>i-1) h I=none/\T=[])\/∃J,iX D k v M (fun n=>iV n to) (fun i=>i-1) h I=some J/\mS D M k v to h J T
 | 0,I,T,⟨ah,i,e,hi,hs,O⟩,⟨ae,e'⟩=>by rw[e] at e';have e1:=(vB (vC e').1);have e4:(i:Int)-1=-1:=e1.2;have e5:i=0:=oJ;subst e5;exact .inl ⟨rfl,by rw[O];rfl⟩
 | h+1,I,T,⟨E,i,up,T1,e,hi,Q,hu,O⟩,u=>by
  subst e;have u:kU h up:=u;rcases qqt hu u with ⟨R,rfl⟩|⟨U,R,h2⟩;have V:(dO E).J6.length=E.length:=(by show (E.map (·.2.Q8)).length=_;rw[zK]);unfold iX;rw[R];dsimp only;rw[V];cases i with
  | zero=>
   rw[iN];exact .inl ⟨rfl,by rw[O];rfl⟩
  | succ i=>
   have ej:(((i+1:Nat):Int)-1).toNat=i:=oJ;have aa:((i+1:Nat):Int)-1=(i:Int):=oJ;have G:i<E.length:=oJ;rw[ej,if_pos ⟨oJ,oJ⟩,aa];have ab:(dO E).J6.getD i 0=E[i].2.Q8:=(by show (E.map (·.2.Q8)).getD _ 0=_;rw[yR,zQ,zA G];rfl);have C:E.take (i+1)=E.take i++[E[i]]:=yG G;obtain⟨q1,q2⟩:=Q E[i] (by rw[C];exact zI _ (mem_cons_self ..));obtain⟨ac,p1,p2⟩:=HH (to:=to) q1;rw[FR q2] at p2;rw[ab,p1];refine .inr ⟨_,rfl,E,i,ac,_,rfl,G,fun e he=>Q e (by rw[C];exact zH _ he),p2,?_⟩;rw[O,xI,C,yQ,reverse_append,yH,flatMap_nil,xH]
  unfold iX;rw[R];exact .inr ⟨_,rfl,E,i,U,T1,rfl,hi,Q,h2,O⟩
end
end
section
section
variable {D:dM} {M:eQ} {k v:Nat} {frm to:Key}
def quJ:∀ {h:Nat} {C:List k6} {T:gu},mK D M k v frm h C T->kT h C\/∃(u:gu) (i:Nat) (lo:List k6) (hi:i<u.length) (T':gu),C=lo++[(eh u,(i:Int))]/\T=u[i]::T'/\mK D M k v frm h (lo++[(eh u,(i:Int)+1)]) T'
 | 0,C,T,⟨u,i,e,hi,I,E⟩=>by by_cases hlt:i<u.length;exact .inr ⟨u,i,[],hlt,u.drop (i+1),e,by rw[E,zY hlt],u,i+1,rfl,hlt,I,rfl⟩;have:i=u.length:=oJ;subst this;exact .inl ⟨u,e⟩
 | h+1,C,T,⟨G,i,up,T1,e,hi,J,O,E⟩=>by subst e;rcases quJ O with Q|⟨u,j,lo,R,T',e1,U,V⟩;exact .inl Q;refine .inr ⟨u,j,(dO G,(i:Int))::lo,R,T'++(G.drop (i+1)).flatMap (·.2.x9),by rw[e1];rfl,by rw[E,U];rfl,G,i,_,T',rfl,hi,J,V,rfl⟩
def qqS:∀ {h:Nat} {C:List k6} {T:gu},mS D M k v to h C T->kU h C\/∃(u:gu) (i:Nat) (lo:List k6) (hi:i<u.length) (T':gu),C=lo++[(eh u,(i:Int))]/\T=u[i]::T'/\mS D M k v to h (lo++[(eh u,(i:Int)-1)]) T'
 | 0,C,T,⟨u,i,e,hi,J,G⟩=>by
  cases i with
  | zero=>exact .inl ⟨u,e⟩
  | succ i=>
   have E:i<u.length:=oJ;have e0:((i+1:Nat):Int)-1=(i:Int):=oJ;rw[e0] at e;exact .inr ⟨u,i,[],E,(u.take i).reverse,e,by rw[G,yG E,reverse_append];rfl,u,i,rfl,oJ,J,rfl⟩
 | h+1,C,T,⟨I,i,up,T1,e,hi,O,Q,G⟩=>by subst e;rcases qqS Q with R|⟨u,j,lo,U,T',e1,V,e3⟩;exact .inl R;refine .inr ⟨u,j,(dO I,(i:Int))::lo,U,T'++((I.take i).flatMap (·.2.x9)).reverse,by rw[e1];rfl,by rw[G,V];rfl,I,i,_,T',rfl,hi,O,e3,rfl⟩
end
end
section
section
variable {D:dM} {M:eQ} {k v:Nat} {frm to:Key}
def qr5:∀ {h:Nat} {s:iO} {O:List k6},Has D M k v h s->(∀x∈s.x9,¬gf x.1 frm)->jb D k v M (fun n=>kI n frm) (h+1) s.Q8=some O->¬kT h O
 | 0,s,O,hs,u,C=>by have ab:=hs.ne;obtain⟨h1,h2,Q,h4⟩:=hs;have hl:dL D M k v s.Q8=(eh s.x9,0):=Q.load h4;have ag:=Ay (k:=frm) Q.right.2.2.1;unfold jb at C;rw[hl,if_neg (fun h=>h rfl),if_pos (show (eh s.x9).Q1=true from rfl)] at C;have C:=yO C;rintro⟨G,e⟩;rw[<- C] at e;have e1:=(vB (vC e).1);have e2:dU s.x9=dU G:=congrArg dN.J3 e1.1;have e3:=congrArg List.length e2;rw[zK,zK] at e3;have e4:kI (eh s.x9) frm=(G.length:Int):=e1.2;rw[kI,if_pos (show (eh s.x9).Q1=true from rfl)] at e4;have e5:dP (dU s.x9) frm=G.length:=Int.ofNat.inj e4;obtain⟨x,r,hx⟩:=exists_cons_of_ne_nil ab;refine u x (by rw[hx];exact mem_cons_self ..) (ag.1 x ?_);rw[e5,zS oJ,hx];exact mem_cons_self ..
 | h+1,⟨p,n,L,P⟩,O,⟨E,h0,h1,h2,Q,h4,h5,h6,h7⟩,u,C=>by
  dsimp only at h1 h2 Q h5 u C;subst h1 h2 Q;have hl:dL D M k v p=(dO E,0):=h4.load h5;obtain⟨A,e,B,ah,hA,aw,ax,I⟩:=ww (key:=frm) h0 h6;have J:(dO E).J6.getD (eA (dO E).J3 frm) 0=e.2.Q8:=I;have R:eA (dO E).J3 frm=A.length:=hA.symm;have U:e∈E:=(by rw[ah];simp);obtain⟨ai,_⟩:=h7 e U;have V:kI (dO E) frm=(A.length:Int):=by rw[kI,if_neg (show ¬(dO E).Q1=true from fun e=>nomatch e),R]
  unfold jb at C;rw[hl,if_neg (fun h=>h rfl),if_neg (show ¬(dO E).Q1=true from fun e=>nomatch e)] at C;have C:Option.map (((dO E),kI (dO E) frm)::·) (jb D k v M (fun n=>kI n frm) (h+1) ((dO E).J6.getD (kI (dO E) frm).toNat 0))=some O:=C;rw[V,zJ,<- R,J] at C;obtain⟨aj,e1,rfl⟩:=yT.1 C;show ¬kT h aj;exact qr5 ai (fun x hx=>u x (yK.2 ⟨e,U,hx⟩)) e1
end
end
section
section
variable {D:dM} {M:eQ} {k v:Nat} {frm to:Key}
def qn9:∀ {h:Nat} {s:iO} {J:List k6},Has D M k v h s->(∀x∈s.x9,¬gf to x.1)->jb D k v M (fun n=>iV n to) (h+1) s.Q8=some J->¬kU h J
 | 0,s,J,hs,u,C=>by
  have aa:=hs.ne;obtain⟨h1,h2,O,h4⟩:=hs;have hl:dL D M k v s.Q8=(eh s.x9,0):=O.load h4;have af:=qqm (k:=to) O.right.2.2.1;unfold jb at C;rw[hl,if_neg (fun h=>h rfl),if_pos (show (eh s.x9).Q1=true from rfl)] at C;have C:=yO C;rintro⟨am,e⟩;rw[<- C] at e;have e1:=(vB (vC e).1);have e4:iV (eh s.x9) to=-1:=e1.2;rw[iV,if_pos (show (eh s.x9).Q1=true from rfl)] at e4;have e5:eA (dU s.x9) to=0:=by have e6:((eA (dU s.x9) to:Nat):Int)-1=-1:=e4;omega
  obtain⟨x,r,V⟩:=exists_cons_of_ne_nil aa;refine u x (by rw[V];exact mem_cons_self ..) (af.2 x ?_);rw[e5,xF,V];exact mem_cons_self ..
 | h+1,⟨p,n,L,P⟩,J,⟨E,h0,h1,h2,O,h4,h5,h6,h7⟩,u,C=>by
  dsimp only at h1 h2 O h5 u C;subst h1 h2 O;have hl:dL D M k v p=(dO E,0):=h4.load h5;obtain⟨A,e,B,ag,hA,au,av,G⟩:=ww (key:=to) h0 h6;have I:(dO E).J6.getD (eA (dO E).J3 to) 0=e.2.Q8:=G;have Q:eA (dO E).J3 to=A.length:=hA.symm;have R:e∈E:=(by rw[ag];simp);obtain⟨ah,_⟩:=h7 e R;have U:iV (dO E) to=(A.length:Int):=by rw[iV,if_neg (show ¬(dO E).Q1=true from fun e=>nomatch e),Q]
  unfold jb at C;rw[hl,if_neg (fun h=>h rfl),if_neg (show ¬(dO E).Q1=true from fun e=>nomatch e)] at C;have C:Option.map (((dO E),iV (dO E) to)::·) (jb D k v M (fun n=>iV n to) (h+1) ((dO E).J6.getD (iV (dO E) to).toNat 0))=some J:=C;rw[U,zJ,<- Q,I] at C;obtain⟨ai,e1,rfl⟩:=yT.1 C;show ¬kU h ai;exact qn9 ah (fun x V=>u x (yK.2 ⟨e,R,V⟩)) e1
end
end
section
section
variable {D:dM} {M:eQ} {k v:Nat} {frm to:Key} {pick:dN->Int} {step:Int->Int}
def qjG:∀ {h:Nat} {O I:List k6} {T:gu},mK D M k v frm h O T->kT h O->iX D k v M (fun n=>kI n frm) (fun i=>i+1) h O=some I->¬kT h I
 | 0,_,_,_,_,_,h=>nomatch h
 | h+1,O,I,T,⟨C,i,up,T1,e,hi,hd,hu,hT⟩,u,E=>by
  subst e;have u:kT h up:=u;unfold iX at E;cases e1:iX D k v M (fun n=>kI n frm) (fun i=>i+1) h up with
  | some Q=>
   rw[e1] at E;cases E;show ¬kT h Q;exact qjG hu u e1
  | none=>
   rw[e1] at E;dsimp only at E;split at E;rename_i G;have R:(dO C).J6.length=C.length:=(by show (C.map (·.2.Q8)).length=_;rw[zK]);have ej:((i:Int)+1).toNat=i+1:=oJ;rw[R] at G;rw[ej] at E;have G:i+1<C.length:=oJ;have U:(dO C).J6.getD (i+1) 0=C[i+1].2.Q8:=by show (C.map (·.2.Q8)).getD _ 0=_;rw[yR,zQ,zA G];rfl
   have J:C.drop (i+1)=C[i+1]::C.drop (i+2):=zY G;obtain⟨q1,q2⟩:=hd C[i+1] (by rw[J];exact mem_cons_self ..);obtain⟨V,e2,rfl⟩:=yT.1 E;show ¬kT h V;exact qr5 q1 q2 (by rw[<- U];exact e2);cases E
def qg9:∀ {h:Nat} {O G:List k6} {T:gu},mS D M k v to h O T->kU h O->iX D k v M (fun n=>iV n to) (fun i=>i-1) h O=some G->¬kU h G
 | 0,_,_,_,_,_,h=>nomatch h
 | h+1,O,G,T,⟨E,i,V,T1,e,hi,hd,hu,hT⟩,u,C=>by
  subst e;have u:kU h V:=u;unfold iX at C;cases e1:iX D k v M (fun n=>iV n to) (fun i=>i-1) h V with
  | some Q=>
   rw[e1] at C;cases C;show ¬kU h Q;exact qg9 hu u e1
  | none=>
   rw[e1] at C;dsimp only at C;split at C;rename_i I;obtain⟨i,rfl⟩:∃j,i=j+1:=⟨i-1,oJ⟩;have ej:(((i+1:Nat):Int)-1).toNat=i:=oJ;rw[ej] at C;have I:i<E.length:=oJ;have R:(dO E).J6.getD i 0=E[i].2.Q8:=by show (E.map (·.2.Q8)).getD _ 0=_;rw[yR,zQ,zA I];rfl
   have J:E.take (i+1)=E.take i++[E[i]]:=yG I;obtain⟨q1,q2⟩:=hd E[i] (by rw[J];exact zI _ (mem_cons_self ..));obtain⟨U,e2,rfl⟩:=yT.1 C;show ¬kU h U;exact qn9 q1 q2 (by rw[<- R];exact e2);cases C
def Path (D:dM) (M:eQ) (k v:Nat) (step:Int->Int):Nat->List k6->Prop
 | 0,E=>∃(u:gu) (i:Int),E=[(eh u,i)]/\-1<=i/\i<=u.length
 | h+1,E=>∃(C:List io) (i:Int) (G:List k6),E=(dO C,i)::G/\0<=i/\i<C.length/\(∀j:Nat,step i=j->∀I:j<C.length,Has D M k v h C[j].2)/\Path D M k v step h G
def mK.path:∀ {h:Nat} {u:List k6} {T:gu},mK D M k v frm h u T->Path D M k v (fun i=>i+1) h u
 | 0,u,T,⟨E,i,e,G,V,I⟩=>⟨E,i,e,oJ,oJ⟩
 | h+1,u,T,⟨J,i,O,T1,e,G,Q,R,I⟩=>⟨J,i,O,e,oJ,oJ,fun j C U=>by have C:(i:Int)+1=j:=C;have C:j=i+1:=oJ;subst C;exact (Q _ (by rw[zY U];exact mem_cons_self ..)).1,R.path⟩
def mS.path:∀ {h:Nat} {u:List k6} {T:gu},mS D M k v to h u T->Path D M k v (fun i=>i-1) h u
 | 0,u,T,⟨E,i,e,G,V,I⟩=>⟨E,_,e,oJ,oJ⟩
 | h+1,u,T,⟨J,i,O,T1,e,G,Q,R,I⟩=>⟨J,i,O,e,oJ,oJ,fun j C U=>by have C:(i:Int)-1=j:=C;have C:i=j+1:=oJ;subst C;exact (Q _ (by rw[yG U];exact zI _ (mem_cons_self ..))).1,R.path⟩
def Path.len:∀ {h:Nat} {u:List k6},Path D M k v step h u->u.length=h+1
 | 0,_,⟨_,_,e,_⟩=>by rw[e];rfl
 | h+1,_,⟨_,_,E,e,_,_,_,C⟩=>by rw[e,yI,C.len]
def Path.drop:∀ {pre u:List k6} {h:Nat},Path D M k v step (pre.length+h) (pre++u)->Path D M k v step h u
 | [],_,_,h=>by rw[xK,xS] at h;exact h
 | x::pre,u,n,h=>by have e:(x::pre).length+n=(pre.length+n)+1:=(by rw[yI];omega);rw[e] at h;obtain⟨E,i,G,e1,_,_,_,C⟩:=h;rw[(vC e1).2.symm] at C;exact C.drop
noncomputable def uQ (D:dM) (k v:Nat) (M:eQ) (pick:dN->Int) (step:Int->Int) (h:Nat) (x:k6):Option (List k6):=
 if 0<=step x.2/\step x.2<x.1.J6.length then (jb D k v M pick (h+1) (x.1.J6.getD (step x.2).toNat 0)).map ((x.1,step x.2)::·) else none
def qvI{h:Nat}{x:k6}{u:List k6}(e:iX D k v M pick step h u=none):iX D k v M pick step (h+1) (x::u)=uQ D k v M pick step h x:=by obtain⟨n,i⟩:=x;unfold iX;rw[e];rfl
def qqs:∀ {pre u r:List k6} {h:Nat},iX D k v M pick step h u=some r->iX D k v M pick step (pre.length+h) (pre++u)=some (pre++r)
 | [],u,r,h,e=>by rw[xK,xS];exact e
 | (n,i)::pre,u,r,h,e=>by have e1:((n,i)::pre).length+h=(pre.length+h)+1:=(by rw[yI];omega);rw[e1,xJ];unfold iX;rw[qqs (pre:=pre) e];rfl
def qyI{h:Nat}{s:iO}(U:Has D M k v (h+1) s):∃u:List io,dL D M k v s.Q8=(dO u,0)/\∃hj:eA (dO u).J3 key<u.length,(dO u).J6.getD (eA (dO u).J3 key) 0=u[eA (dO u).J3 key].2.Q8/\Has D M k v h u[eA (dO u).J3 key].2:=by obtain⟨p,n,L,P⟩:=s;obtain⟨u,V,J,O,Q,h4,R,h6,h7⟩:=U;dsimp only at J O Q R;subst J O Q;refine⟨u,h4.load R,?_⟩;obtain⟨A,e,B,E,hA,ae,af,G⟩:=ww (key:=key) V h6;have I:eA (dO u).J3 key=A.length:=hA.symm;have C:eA (dO u).J3 key<u.length:=(by rw[I,E];simp);refine⟨C,?_,(h7 _ (zX C)).1⟩;show (u.map (·.2.Q8)).getD _ 0=_;rw[yR,zQ,zA C];rfl
end
end
end
section
open Go Go.Pt List
open Go.IntKind (wrap)
open Classical
variable {K:Option Addr×Option Addr->WP}
def qxb{w:World}{n:Nat}(Y:List Nat)(I:∀b∈Y,b<w.heap.size)(hY:HG∉Y)(hv:Hv w)(h8:8<=n)(U:n<=4096)(hk:∀dbk pb FD F D w',TW dbk pb FD D 5000 w' Y F (nf n)->Made D n->Fr [] w w'->(∀b∈FD++F,w.heap.size<=b)->K (pW dbk,pW pb) w'): cW 52 [.i n] dD w K:=by
 refine qhQ<|qzy (fun h=>oJ) fun _ _ dbk FD w1 d1 R V=>?_;rw[zJ] at d1;obtain⟨D',e1,q1,s1,aa,o1,z1⟩:=qr4 (qvH n) (qxh n) h8 U;have J:=hv.q7 R;have hg:HG∉FD:=fun hm=>by have:=V _ hm;have:=hv.lt;omega
 have ao:(nS n).Q3.length=n:=(by simp[nS]);refine iQ (fun b w'=>b=false/\∃F',DS dbk w1 FD w' F' D' (0+5000)) ?_ ?_;refine cond_false rfl (cond_false rfl ?_);refine qu2 d1 (mH.new U) oM oJ J hg fun w' F' d'=>?_;rw[e1] at d'⊢;exact⟨rfl,F',d'⟩;rintro b w2 ⟨rfl,F2,C⟩;refine cond_false rfl ?_;have E:∀b∈F2,w.heap.size<=b:=fun b u=>by rcases C.nw b u with h|h;exact V b h;exact zL R.size h
 have O:=o1.open;have G:=(C.hv J hg).1;have Q:w.heap.size<=w2.heap.size:=zL R.size C.fr.size;refine qwf (F2++HG::Y) (fun b u=>?_) C.at_ C.lim.ok G (fun h=>by rw[O] at h;cases h) fun pb F M w3 hM hp f3 n3=>?_;rcases zD.1 u with u|u;exact C.at_.lt b u;rcases zG.1 u with rfl|u;exact G.lt;exact yD (I b u) Q;rw[O] at hM;cases hM;refine cond_false rfl<|hk dbk pb F2 F D' w3 ⟨C.at_.q7 f3,C.lim,hp,G.q7 f3,qAh h8 U,fun b u=>⟨fun hm=>?_,fun e=>hY (e▸u)⟩⟩ ⟨q1,s1,aa,o1,e1,z1⟩ ((R.j6 C.fr fun b u=>.inr (V b u)).j6 f3 oL) fun b u=>?_
 have:=E b hm
 have:=I b u
 omega;rcases zD.1 u with u|u;exact E b u;exact zL Q (n3 b u)
def Cg (x:Key×Key):List Value:=[.string (Di x.1),.string (Di x.2)]
def eZ.none{α:Type}{enc:α->List Value}{k:Nat}{w:World}{b:Nat}{T:TypeId}(h:w.heap[b]?=some (.cells #[] T (0,0))):eZ enc k w ⟨pW b,0,0⟩ [] [b]:=
 .inr ⟨b,0,#[],T,rfl,rfl,rfl,h,rfl,zM _,oL,oL⟩
end
section
open Go Go.Pt List
open Go.IntKind (wrap)
open Classical
end
section
open Go Go.Pt List
open Go.IntKind (wrap)
open Classical
structure HiI (k v c:Nat) (t:Int) (w0 w:World) (s:Sl) (m:Nat) (dbk pb:Nat) (FD:List Nat) (D:dM) (F:List Nat) (M:eQ) (P:List Int) (L:gu) (B:List Nat):Prop where
 tw:TW dbk pb FD D 5000 w [] F M
 Im:Am D M k v c t L P
 vj:eZ Cg 2 w s L B
 len:L.length<=m
 fr:Fr [] w0 w
 new:∀ b∈FD++F,w0.heap.size<=b
 J0:∀ b∈B,b∉F
section
variable {k v c:Nat} {t:Int} {w0 w:World} {s:Sl} {m:Nat} {dbk pb:Nat} {FD F B:List Nat} {D:dM} {M:eQ} {P:List Int} {L:gu}
end
end
section
open Go Go.Pt List
open Go.IntKind (wrap)
open Classical
end
section
open Go Go.Pt List
open Go.IntKind (wrap)
open Classical
variable {B S:List Nat} {K:Sl->WP} {L:List (Nat×Obj)} {T:TypeId} {a:HL fq} {cs:Array Value} {ids:List gp} {l u:List Int} {m r:Nat} {n:Int} {s t:Sl} {w w0:World} {x:gp}
def AE:∀ {k i:Nat} {n:Int},i<k->(bw k n)[i]?=some (n / 256^(k-1-i)%256)
 | k+1,i,n,h=>by rw[bw];by_cases hi:i<k;rw[yZ (by rw[lF];exact hi),AE hi,Int.ediv_ediv_of_nonneg oM,show k+1-1-i=(k-1-i)+1 by omega,Int.pow_succ,Int.mul_comm];have:i=k:=oJ;subst this;rw[yY (by rw[lF];exact zM _),lF,Nat.sub_self,show i+1-1-i=0 by omega,Int.pow_zero,Int.ediv_one];rfl
def FH{i:Nat}(h:8*i<=m):wrap .u8 (Int.fdiv n (2^min (8*i) m))=n / 256^i%256:=by rw[BD,xR h,Int.fdiv_eq_ediv_of_nonneg _ (Int.le_of_lt (Int.pow_pos oM)),Int.pow_mul];rfl
def qnQ{j:Nat}{x:Int}:dT (gz l) j [.b x]=gz (l.set j x):=by rw[dT,dT];apply Array.ext';rw[Array.toList_setIfInBounds];show (gz _).toList.set _ _=(gz _).toList;unfold gz;simp only[toList_toArray];rw[<- map_set]
def lO (w w':World) (s:Sl) (l:List Int):Prop:=eF (List.range w.heap.size) w' s l
section
variable {w w1 w2 w':World} {s:Sl} {l:List Int} {S:List Nat}
def lO.q7(h:lO w w' s l)(f:Fr [] w' w2):lO w w2 s l:=dX.q7 h f
def lO.to(h:lO w w' s l)(u:∀b∈S,b<w.heap.size):eF S w' s l:=dX.j4 h fun b C=>.inl (mem_range.2 (u b C))
def lO.up(h:lO w1 w' s l)(f:w.heap.size<=w1.heap.size):lO w w' s l:=h.to fun b u=>yD (mem_range.1 u) f
def lO.rd(h:lO w w' s l):eF [] w' s l:=h.to fun _ h=>nomatch h
def FU{b o n cap:Nat}{L:List Int}{u:Nat×Nat}(I:w.heap.size<=b)(C:w'.heap[b]?=some (.cells (gz L) T u))(E:o+n<=L.length)(G:n<=cap)(e:(L.drop o).take n=l):lO w w' ⟨some (dc b o),n,cap⟩ l:=by rw[<- e];exact zo C E G fun h=>by have:=mem_range.1 h;omega
def xz(h:gF w' s l B)(u:∀b∈B,w.heap.size<=b):lO w w' s l:=h.kF lZ fun b C h=>by have:=mem_range.1 h;have:=u b C;omega
def E2{b o n:Nat}{a:Sl}{ys:List Int}(h:eF [] w ⟨some (dc b o),n,n⟩ l)(R:eF [] w a ys)(hy:0<ys.length)(hl:l.length+ys.length<=1000000)(kk:∀U B w',gF w' U (l++ys) B->Fr [] w w'->(∀b∈B,w.heap.size<=b)->K U w'): Pt.run dd ((Builtin.append_ #[96,96] 96 #[.slice (some (dc b o)) n n,a.v]).run Tryz.prog w) K:=by
 obtain⟨i,hi,hz,E,G⟩:=xn;have I:=R.1;have C:n=l.length:=h.1;have hc:=h.cells lZ rfl;refine qt1 (m:=a.len) (e:=5) (olds:=l.map (Value.int .u8)) (news:=ys.map (Value.int .u8)) oK hi hz E rfl (by rw[zK,C]) (fun j u V=>?_) ?_ oJ (by rw[G];omega) oJ fun b' cs c w' eb J f O Q ht=>?_;rw[<- sR] at V;exact hc j u V
 have:=vo (P:=Tryz.prog) (tx:=96) (e':=5) R lZ (fun x u hu=>by rw[zE.1 hu];rfl) oK
 rw[sR] at this;exact this;refine kk _ [b'] w' (eZ.one (e:=Value.int .u8) (fun _=>rfl) J (by rw[zF];omega) O Q ?_) f fun b J=>by rw[zE.1 J,eb];exact zM _
 rw[zF,<- C,<- I,ht,xN]
end
def qAE{K:Int×Int->WP}(u:∀w',Fr [] w w'->K (0,n) w'):cW 124 [.int .u64 n] [.agg da] w K:=by exact qv6<|oB (oE [] w) fun r w1 e1 C h=>h.sz 0 rfl #[.int .u64 0,.int .u64 n] fun w2 h _=>oC h 0 rfl (0,n) rfl<|u w2 h.fr
def FI{a0 a1:Int}(J:∀r w',lO w w' ⟨pW r,16,16⟩ (iA (a0,a1))->Fr [] w w'->w'.heap[r]?=some (.cells (gz (iA (a0,a1))) 5 (0,0))->w.heap.size<=r->K ⟨pW r,16,16⟩ w'): cW 75 [c8 a0 a1] dd w K:=by
 refine qrn<|oB (oE [] w) fun r1 w1 e1 O h=>dR.FP h rfl oM oM oM oM fun r w2 e2 h=>?_;have G:w.heap.size<=r:=(by have:=O.size;omega);refine jT (fun x w'=>∃j:Nat,∃l:List Int,x=j/\j<=8/\l.length=16/\dR [] w w' [(r,.cells (gz l) 5 (0,0)),(r1,.cells #[.int .u64 a0,.int .u64 a1] 43 (0,0))]/\∀i<j,l[i]?=(bw 8 a0)[i]?/\l[8+i]?=(bw 8 a1)[i]?) (fun x _=>8-x.toNat) ⟨0,zs 16,rfl,oM,rfl,h,fun i h=>oJ⟩ ?_;rintro x Q ⟨j,l,rfl,hj,R,h,C⟩ X U;apply cD<;>intro E;have u:j<8:=oJ;have e1:wrap .i64 (56-wrap .i64 (8*(j:Int)))=((8*(7-j):Nat):Int):=by rw[gd (8*(j:Int)) oJ,gd _ oJ];omega
 rw[e1,gd (8+(j:Int)) oJ,gd ((j:Int)+1) oJ,zJ];refine oA h 1 rfl a0 rfl (me oJ (qa oJ oJ ?_));rw[FH (n:=a0) (i:=7-j) (m:=64) oJ];refine h.st' 0 rfl _ qnQ rfl (by rw[Bm];simp;omega) fun w4 h _=>oA h 1 rfl a1 rfl (me oJ (qa oJ oJ ?_));rw[FH (n:=a1) (i:=7-j) (m:=64) oJ];refine h.st' 0 rfl _ qnQ rfl (by rw[Bm];simp;omega) fun w5 h _=>U _ _ ⟨j+1,_,rfl,u,by simpa using R,h,fun i V=>?_⟩ oJ;rw[show (0+(j:Int).toNat*1)=j by omega,show (0+(8+(j:Int)).toNat*1)=8+j by omega];by_cases e:i=j;subst e;rw[AE u,AE u,show 8-1-i=7-i by omega];exact⟨by rw[List.getElem?_set_ne oJ,List.getElem?_set_self oJ],by rw[List.getElem?_set_self (by rw[xG];omega)]⟩
 have:=C i oJ
 exact⟨by rw[List.getElem?_set_ne oJ,List.getElem?_set_ne oJ];exact this.1,by rw[List.getElem?_set_ne oJ,List.getElem?_set_ne oJ];exact this.2⟩;have u:j=8:=oJ;subst u;have e:l=iA (a0,a1):=by
  apply ext_getElem?;intro i;unfold iA;by_cases h8:i<8;rw[yZ (by rw[lF];exact h8)];exact (C i h8).1;rw[yY (by rw[lF];omega),lF];by_cases h16:i<16
  have:=(C (i-8) oJ).2
  rwa[show 8+(i-8)=i by omega] at this;rw[yS oJ,yS (by rw[lF];omega)]
 subst e;have I:=h.at (i:=0) rfl;exact J r Q (FU G I (by rw[lW];decide) oM (by rw[xF];exact zS (by rw[lW];decide))) h.fr I G
def wE{a0 a1:Int}(C:∀r w',lO w w' ⟨pW r,16,16⟩ (iA (a0,a1))->Fr [] w w'->K ⟨pW r,16,16⟩ w'): cW 35 [c8 a0 a1] dd w K:=by exact qw4<|oB (oE [] w) fun r1 w1 e1 u h=>oC h 0 rfl (a0,a1) rfl<|FI fun r w2 E G _ _=>C r w2 (E.up u.size) (u.trans G)
def Gq(u:∀r w',lO w w' ⟨some (dc r 8),8,8⟩ (bw 8 n)->Fr [] w w'->K ⟨some (dc r 8),8,8⟩ w'): cW 81 [.int .u64 n] dd w K:=by refine qsf<|qAE fun w1 h=>FI fun r w2 I C E G=>E8 oM oM oM oM<|u r w2 (FU (zL h.size G) E (by rw[lW];decide) oM ?_) (h.trans C);rw[iA,drop_left' (lF _ _)];exact zS (by rw[lF];decide)
def DU{a0 a1:Int}(C:∀s w',lO w w' s (lG (a0,a1) n)->Fr [] w w'->K s w'): cW 70 [c8 a0 a1,.int .u64 n] dd w K:=by refine qtu<|oB (oE [] w) fun r1 w1 e1 V h=>oC h 0 rfl (a0,a1) rfl<|qpo<|oB h fun r2 w2 e2 f2 h=>oC h 0 rfl (a0,a1) rfl<|qz (lb:=[]) rfl oK (wE fun r3 w3 E G=>?_);refine qz (lb:=[]) rfl oK (Gq fun r4 w4 I u=>?_);refine E2 (E.q7 u).rd I.rd (by rw[lF];decide) (by rw[lF,lW];decide) fun s B J O Q R=>?_;have f:=h.fr.trans (G.trans u);exact C s J (xz O fun b U=>zL f.size (R b U)) (f.trans Q)
def qtT{m:Int}(u:∀s w',lO w w' s (lr n m)->Fr [] w w'->K s w'): cW 38 [.int .u64 n,.int .u64 m] dd w K:=by refine qvz<|qpn<|qz (lb:=[]) rfl oK (Gq fun r3 U C E=>?_);refine qz (lb:=[]) rfl oK (Gq fun V w4 G h=>?_);refine E2 (C.q7 h).rd G.rd (by rw[lF];decide) (by rw[lF,lF];decide) fun s B I J O Q=>?_;have f:=E.trans h;exact u s I (xz J fun b R=>zL f.size (Q b R)) (f.trans O)
def Ee{j:Nat}(h:eS l)(u:j<l.length)(I:j<8):bits .or .u64 (wrap .u64 (kC (l.take j)*2^8)) (wrap .u64 l[j])=kC (l.take (j+1)):=by
 have J:=h l[j] (zX u);have O:=wP (l:=l.take j) fun y C=>h y (yV C);have E:(256:Int)^(l.take j).length<=256^7:=by
  have:((256^(l.take j).length:Nat):Int)<=((256^7:Nat):Int):=by
   have:=Nat.pow_le_pow_right (n:=256) oM (show (l.take j).length<=7 by rw[yL];omega)
   omega
  simpa using this
 have G:(256:Int)^7=72057594037927936:=oM;rw[G] at E;rw[yG u,FM,qv l[j] oJ,qv _ oJ];rw[qqz 8 oJ oJ oJ oJ oJ];omega
def qu1{K:Int->WP}(h:eF S w s l)(J:eS l)(R:l.length<=8)(O:K (kC l) w):cW 125 [s.v] di w K:=by refine qq8 ?_;have G:=h.1;refine jT (fun x w'=>w'=w/\∃i:Nat,x.2=i/\i<=l.length/\x.1=kC (l.take i)) (fun x _=>((l.length:Int)-x.2).toNat) ⟨rfl,0,rfl,oJ,rfl⟩ ?_;rintro⟨r,ii⟩ w' ⟨rfl,i,C,U,I⟩ X Q;simp only at C I;subst C I;apply cD<;>intro E;have u:i<l.length:=oJ;refine eF.at h i rfl (zA u) ?_;rw[gd _ oJ,Ee J u oJ];exact Q _ _ ⟨rfl,i+1,oL,oJ,rfl⟩ oN;have u:i=l.length:=oJ;subst u;rw[xZ];exact O
section
abbrev oe:TypeId:=43
abbrev jN:gp->List Value:=fun x=>[.int .u64 x.1,.int .u64 x.2]
def vM(x:gp):(jN x).length=2:=rfl
def pj{x:Int}(h:IntKind.u64.has x):mu x:=by have u:(0:Int)<=x/\x<=18446744073709551615:=h;exact⟨u.1,oJ⟩
def BB{w':World}{b:Nat}{o o':Obj}(h:dR S w0 w L)(i:Nat)(hi:L[i]?=some (b,o))(f:Fr [b] w w')(u:w'.heap[b]?=some o'):dR S w0 w' (L.set i (b,o')):=
 (h.i8 (o':=o') i hi).q7 ⟨f.os,f.tape,f.output,by rw[vJ];exact f.size,fun j C _=>by
  rw[qw _ _ _ _ (fJ (h.at hi))];split
  ·next e=>rw[e];exact u
  ·next e=>exact f.block j (by rwa[vJ] at C) (oP e)⟩
def GO{b:Sl}{k:Nat}{E:Sl->WP}(h:gF w b l B)(hm:8*k<=m+8)(hl:l.length<=1000)(h8:k<=8)(kk:∀s B' w',gF w' s (l++bw k n) B'->Fr B w w'->(∀b∈B',b∈B\/w.heap.size<=b)->E s w'): loop (Sl×Int) (fun X t V=>cond (decide (t.2>=0)) (gK (0<=wrap .i64 (8*t.2))<|Pt.new (.cells #[.b (wrap .u8 (Int.fdiv n (2^min (Int.toNat (wrap .i64 (8*t.2))) m)))] 5) V fun r w5=>Pt.run dd ((Builtin.append_ #[96,96] 96 #[t.1.v,.slice (pW r) 1 1]).run Tryz.prog w5) fun s w7=>X (s,wrap .i64 (t.2-1)) w7) (E t.1 V)) (b,wrap .i64 (k-1)) w:=by
 refine jT (fun t w'=>∃j:Nat,∃B',t.2=(k:Int)-1-j/\j<=k/\gF w' t.1 (l++(bw k n).take j) B'/\Fr B w w'/\∀b∈B',b∈B\/w.heap.size<=b) (fun t _=>(t.2+1).toNat) ⟨0,B,by dsimp only;rw[gd _ oJ];omega,yX _,by rw[take_zero,xH];exact h,.refl _ _,fun _ h=>.inl h⟩ ?_;rintro⟨s,x⟩ w1 ⟨j,B1,hx,hj,I,J,O⟩ X hX;dsimp only at hx I⊢;subst hx;apply eH<;>intro G;have G:=zC G;have C:j<k:=oJ;have e1:wrap .i64 (8*((k:Int)-1-j))=((8*(k-1-j):Nat):Int):=(by rw[gd _ oJ];omega);rw[e1,zJ,FH oJ,gd _ oJ];obtain⟨i,hi,hz,Q,R⟩:=xn;have ab:(l++(bw k n).take j).length<=1008:=(by rw[zF,yL];omega);refine me oJ (eZ.push (e:=5) (x:=n / 256^(k-1-j)%256) I lZ (fun u hu=>by rw[zE.1 hu];rfl) oK hi hz Q rfl rfl (by rw[R];omega) oJ fun s2 B2 w2 b2 f2 n2=>?_);refine hX _ _ ⟨j+1,B2,by dsimp only;omega,C,?_,J.j6 f2 O,fun b U=>(n2 b U).elim (O b) fun h=>.inr (zL J.size h)⟩ oN
 have:=AE (n:=n) C
 obtain⟨U,e⟩:=zP.1 this;rw[yG U,e,<- zV];exact b2;have G:=zB G;have C:j=k:=oJ;subst C;rw[zS (by rw[lF];exact zM _)] at I;exact kk _ B1 _ I J O
section
variable {w:World} {b s:Sl} {l:List Int} {B:List Nat} {n:Int} {K:Sl->WP}
def qAo(h:gF w b l B)(u:l.length<=1000)(C:∀s B' w',gF w' s (l++bw 2 n) B'->Fr B w w'->(∀b∈B',b∈B\/w.heap.size<=b)->K s w'):cW 150 [b.v,.int .u16 n,.i 2] dd w K:=
 qpC (GO h (k:=2) oM u oM C)
def qAp(h:gF w b l B)(C:l.length<=1000)(E:∀s B' w',gF w' s (l++bw 4 n) B'->Fr B w w'->(∀b∈B',b∈B\/w.heap.size<=b)->K s w'):cW 148 [b.v,.u n,.i 4] dd w K:=
 qpD (GO h (k:=4) oM C oM E)
def qAq(h:gF w b l B)(u:l.length<=1000)(C:∀s B' w',gF w' s (l++bw 8 n) B'->Fr B w w'->(∀b∈B',b∈B\/w.heap.size<=b)->K s w'):cW 149 [b.v,.int .u64 n,.i 8] dd w K:=
 qpE (GO h (k:=8) oM u oM C)
def EN:∀l:List gp,(l.flatMap iA).length=16*l.length
 | []=>rfl
 | x::l=>by rw[yH,zF,lW,EN l,yI];omega
def qq1{I:Sl->List Int->WP}(U:I b l w)(V:∀s l w w',I s l w->Fr [] w w'->I s l w')(C:dX jN 2 [] w t ids)(hl:ids.length<=5)(J:∀(i:Nat) s l' w1 (a:Sl) x (K:Sl->WP),i<ids.length->ids[i]?=some x->l'=l++(ids.take i).flatMap iA->I s l' w1->dX jN 2 [] w1 t ids->eF [] w1 a (iA x)->(∀O w2,I O (l'++iA x) w2->dX jN 2 [] w2 t ids->K O w2)-> Pt.run dd ((Builtin.append_ #[96,96] 96 #[s.v,a.v]).run Tryz.prog w1) K)(kk:∀s w',I s (l++ids.flatMap iA) w'->K s w'):cW 105 [b.v,t.v] dd w K:=by refine qoM ?_;have Q:=C.1;refine jT (fun q w'=>∃i:Nat,q.2=i/\i<=ids.length/\I q.1 (l++(ids.take i).flatMap iA) w'/\dX jN 2 [] w' t ids) (fun q _=>ids.length-q.2.toNat) ⟨0,rfl,yX _,by rw[take_zero,flatMap_nil,xH];exact U,C⟩ ?_;rintro⟨s,x⟩ w1 ⟨i,R,hi,G,r1⟩ X hX;dsimp only at R G⊢;subst R;apply eH<;>intro E;have E:=zC E;have u:i<ids.length:=oJ;refine dX.oT (x:=ids[i]) (y:=ids[i]) r1 i rfl (zA u) rfl rfl<|oB (oE [] w1) fun r w2 e2 f2 h=>h.sz 0 rfl #[.int .u64 ids[i].1,.int .u64 ids[i].2] fun w3 h _=>oC h 0 rfl (ids[i].1,ids[i].2) rfl<|FI fun r4 w4 h4 f4 _ _=>?_;have f:=h.fr.trans f4;refine J i _ _ _ ⟨pW r4,16,16⟩ ids[i] _ u (zA u) rfl (V _ _ _ _ G f) (r1.q7 f) h4.rd fun s5 w5 h5 r5=>?_;rw[gd _ oJ];refine hX _ _ ⟨i+1,rfl,u,?_,r5⟩ oN;rw[yG u,yQ,<- zV,flatMap_singleton];exact h5;have E:=zB E;have u:i=ids.length:=oJ;subst u;rw[xZ] at G;exact kk _ _ G
def qzm(u:dX jN 2 [] w t ids)(R:ids.length<=5)(U:∀s B' w',gF w' s (ids.flatMap iA) B'->Fr [] w w'->(∀b∈B',w.heap.size<=b)->K s w'): cW 105 [.slice none 0 0,t.v] dd w K:=by refine qq1 (b:=dI) (l:=[]) (I:=fun s l w'=>∃B',gF w' s l B'/\Fr [] w w'/\∀b∈B',w.heap.size<=b) ⟨[],eZ.nil _ _ _,.refl _ _,fun _ h=>nomatch h⟩ (fun s l w1 w2 ⟨B',J,E,G⟩ f=>⟨B',J.q7 f,E.trans f,G⟩) u R (fun i s V w1 a x K hi _ O ⟨B1,J,E,G⟩ r1 ha k=>?_) fun s w' ⟨B',b,f,n⟩=>U s B' w' b f n;have:V.length<=80:=(by rw[O,xI,EN,yL];omega);refine A8 J ha (by rw[lW];omega) fun s2 B2 w2 b2 f2 n2=>?_;have C:Fr [] w w2:=E.j6 f2 fun b Q=>.inr (G b Q);exact k s2 w2 ⟨B2,b2,C,fun b Q=>(n2 b Q).elim (G b) (zL E.size)⟩ (u.q7 C)
end
def qBr{u:Nat}{C:List Int}{K:Int->WP}(I:w.heap[r]?=some (.cells #[s.v] T (0,0)))(J:eF S w s (l++C))(hS:r∈S)(hB:eS l)(hl:l.length=u)(h8:u<=8)(kk:∀R w',w'.heap[r]?=some (.cells #[R.v] T (0,0))->eF S w' R C->Fr [r] w w'->K (kC l) w'):cW 113 [dH r,.i u] di w K:=by subst hl;refine qhI<|gI (jM I s rfl ?_);refine dX.part J 0 l.length rfl rfl (yX _) oL fun s1 l1 r1 _=>?_;rw[xF,take_left' rfl] at r1;refine jT (fun x w'=>w'=w/\∃i:Nat,x.2=i/\i<=l.length/\x.1=kC (l.take i)) (fun x _=>((l.length:Int)-x.2).toNat) ⟨rfl,0,rfl,oJ,rfl⟩ ?_;rintro⟨y,ii⟩ w' ⟨rfl,i,G,hi,U⟩ X hX;simp only at G U;subst G U;apply cD<;>intro O;have E:i<l.length:=oJ;refine eF.at r1 i rfl (zA E) ?_;rw[gd _ oJ,Ee hB E oJ];exact hX _ _ ⟨rfl,i+1,oL,oJ,rfl⟩ oN;have E:i=l.length:=oJ;subst E;rw[xZ];refine gI (jM I s rfl ?_);refine dX.part J l.length (l++C).length rfl (by rw[xW,J.1]) oL (zM _) fun V l2 r2 _=>?_;rw[xZ,drop_left' rfl] at r2;refine gI (tk I #[V.v] rfl rfl (zM _) fun w2 Q f2=>?_);exact kk V w2 Q (r2.q8 (f2.mono fun b h _=>by rw[zE.1 h];exact hS) fun b h=>.inl h) f2
def Fw{h:Nat}{K:Int->WP}(G:w.heap[r]?=some (.cells #[s.v] T (0,0)))(I:eF S w s (bw h n++u))(J:r∈S)(E:0<=n/\n<256^h)(O:h<=8)(Q:∀C w',w'.heap[r]?=some (.cells #[C.v] T (0,0))->eF S w' C u->Fr [r] w w'->K n w'):cW 113 [dH r,.i h] di w K:=
 qBr G I J (qE _ _) (lF _ _) O fun C w' R U V=>by rw[uH h E.1 E.2];exact Q C w' R U V
def qBK{K:Int×Int->WP}(C:w.heap[r]?=some (.cells #[s.v] T (0,0)))(O:eF S w s (iA x++u))(G:r∈S)(I:my x)(Q:∀J w',w'.heap[r]?=some (.cells #[J.v] T (0,0))->eF S w' J u->Fr [r] w w'->K x w'):cW 112 [dH r] [.agg da] w K:=by refine qjk<|oB (DX C) fun r1 w1 e1 R h=>?_;have E:eF (r1::S) w1 s (iA x++u):=dX.q8 (O.j4 (S':=r1::S) fun b C=>(zG.1 C).elim (fun e=>.inr oJ) .inl) (Fr.mono R fun b h _=>nomatch h) fun b C=>.inl C;rw[iA,zV] at E;refine Fw (h.at (i:=1) rfl) E (zN _ G) (by rw[p8];exact I.1) oM fun s2 w2 U V f2=>?_;have h:=BB h 1 rfl f2 U;refine Fw (h.at (i:=1) rfl) V (zN _ G) (by rw[p8];exact I.2) oM fun s3 w3 b3 r3 f3=>?_;have h:=BB h 1 rfl f3 b3;exact h.sz 0 rfl #[.int .u64 x.1,.int .u64 x.2] fun w4 h f4=>oC h 0 rfl x rfl<|Q s3 w4 (h.at (i:=1) rfl) (r3.q8 (f4.mono fun b h _=>by rw[zE.1 h];exact mem_cons_self) fun b C=>.inl (zN _ C)) h.fr
def wu (m r:Nat):Array Value:=((List.range m).map fun i=>Value.pointer (some ⟨r,2*i,none⟩)).toArray
def quB{G:List Nat}{r9 I O:Nat}{P9 U V:TypeId}{z:List Value}{E:WP}(hm:ids.length=m)(h5:m<=5)(hz:2*m<=z.length)(h:dR S w0 w ((r9,.cells (wu m I) P9 (0,0))::(I,.cells z.toArray U (0,0))::(O,.cells #[s.v] V (0,0))::L))(J:eF G w s (ids.flatMap iA++u))(aa:O∈G)(ab:I∈G)(hW:∀x∈ids,my x)(kk:∀Q w',dR S w0 w' ((r9,.cells (wu m I) P9 (0,0))::(I,.cells (ids.flatMap jN++z.drop (2*m)).toArray U (0,0))::(O,.cells #[Q.v] V (0,0))::L)->eF G w' Q u->E w'): loop Int (fun X x w=>cond (decide (x<(m:Int))) (idx ⟨pW r9,m,m⟩ x 1 fun a=>ld .ptr a w fun p=>cW 112 [dH O] [.agg da] w fun t w'=>nn p fun a=>st a [.int .u64 t.1,.int .u64 t.2] w' fun w2=>X (wrap .i64 (x+1)) w2) (E w)) 0 w:=by
 refine jT (fun x w'=>∃i:Nat,∃Q,x=i/\i<=m/\dR S w0 w' ((r9,.cells (wu m I) P9 (0,0))::(I,.cells ((ids.take i).flatMap jN++z.drop (2*i)).toArray U (0,0))::(O,.cells #[Q.v] V (0,0))::L)/\eF G w' Q ((ids.drop i).flatMap iA++u)) (fun x _=>m-x.toNat) ⟨0,s,rfl,yX _,h,J⟩ ?_;rintro x w1 ⟨i,s1,rfl,hi,h,J⟩ X hX;apply eH<;>intro R;have R:=zC R;have C:i<m:=oJ;refine qa oJ oJ ?_;rw[zJ,xT,xS];refine oA h 0 rfl (some ⟨I,2*i,none⟩) (by simp[wu,C];rfl) ?_;rw[zY (by omega:i<ids.length),yH,zV] at J;refine qBK (h.at (i:=2) rfl) J aa (hW _ (zX _)) fun s2 w2 b2 r2 f2=>?_;have h:=BB h 2 rfl f2 b2;have hA:((ids.take i).flatMap jN).length=2*i:=(by rw[qZ vM,yL];omega);have hZ:z.drop (2*i)=(z.drop (2*i)).take 2++z.drop (2*(i+1)):=(by rw[show 2*(i+1)=2*i+2 by omega,<- xD,xE]);have ac:dT ((ids.take i).flatMap jN++z.drop (2*i)).toArray (2*i) (jN ids[i])=((ids.take i).flatMap jN++jN ids[i]++z.drop (2*(i+1))).toArray:=by rw[hZ,<- zV,<- hA];exact uu (by rw[yL,yC,vM];omega)
 refine gI (h.st' 1 rfl _ ac rfl (by simp[hA];omega) fun w3 h f3=>?_);rw[gd _ oJ];refine hX _ _ ⟨i+1,s2,rfl,C,?_,r2.q8 (f3.mono fun b h _=>by rw[zE.1 h];exact ab) fun b hb=>.inl hb⟩ oJ;rw[yG (by omega:i<ids.length),yQ,flatMap_singleton];exact h;have R:=zB R;have C:i=m:=oJ;subst C;rw[zS oJ] at h;rw[drop_of_length_le oJ] at J;exact kk s1 w1 h J
def u6{G:List Nat}{I J u off:Nat}{O:Nat×Obj}{Q R:TypeId}{v:Value}{V:Int->Value}{C:List Int}{K:WP}(h:dR S w0 w (O::(I,.cells cs Q (0,0))::(J,.cells #[s.v] R (0,0))::L))(hr:eF G w s (bw u n++C))(U:J∈G/\I∈G)(hn:0<=n/\n<256^u)(hv:V n=v)(E:Array Value)(kk:∀s' w',dR S w0 w' (O::(I,.cells E Q (0,0))::(J,.cells #[s'.v] R (0,0))::L)->eF G w' s' C->K w')(hs:dT cs off [v]=E:=by rfl)(h1:v.oneCell'=true:=by rfl)(hl:off+1<=cs.size:=by exact zO rfl)(h8:u<=8:=by decide): cW 113 [dH J,.i u] di w fun x w'=>Pt.st (dc I off) [V x] w' K:=by refine Fw (h.at (i:=2) rfl) hr U.1 hn h8 fun s2 w2 b2 r2 f2=>?_;have h:=BB h 2 rfl f2 b2;rw[hv];exact h.st' 1 rfl E hs (by simp[h1]) hl fun w3 h f3=>kk s2 w3 h (r2.q8 (f3.mono fun b h _=>by rw[zE.1 h];exact U.2) fun b hb=>.inl hb)
end
section
abbrev u2:List Cell:=da
def Bf (w0 w:World) (s:Sl) (l:List Int) (n:Nat):Prop:=l.length=n/\∃B,gF w s l B/\Fr [] w0 w/\∀b∈B,w0.heap.size<=b
section
variable {w0 w w':World} {s b:Sl} {l:List Int} {k:Nat} {n:Int} {K:Sl->WP}
def Bf.fr(h:Bf w0 w s l k):Fr [] w0 w:=h.2.elim fun _ h=>h.2.1
def Bf.len(h:Bf w0 w s l k):s.len=k:=h.1▸h.2.elim fun _ h=>h.1.len
def Bf.down(h:Bf w w' s l k)(f:Fr [] w0 w):Bf w0 w' s l k:=⟨h.1,h.2.elim fun B q=>⟨B,q.1,f.trans q.2.1,fun b u=>zL f.size (q.2.2 b u)⟩⟩
def Bf.new(h:Bf w0 w s l k):lO w0 w s l:=h.2.elim fun _ h=>xz h.1 h.2.2
def Bf.q7(h:Bf w0 w s l k)(f:Fr [] w w'):Bf w0 w' s l k:=h.2.elim fun B q=>⟨h.1,B,q.1.q7 f,q.2.1.trans f,q.2.2⟩
def Bf.of{B':List Nat}{l':List Int}(h:Bf w0 w b l k)(G:gF w b l B)(C:∀x∈B,w0.heap.size<=x)(E:l'.length=m)(b':gF w' s (l++l') B')(f:Fr B w w')(n':∀x∈B',x∈B\/w.heap.size<=x):Bf w0 w' s (l++l') (k+m):=
 ⟨by rw[zF,h.1,E],B',b',h.fr.j6 f fun x u=>.inr (C x u),fun x u=>(n' x u).elim (C x) (zL h.fr.size)⟩
def Bf.vQ(h:Bf w0 w b l k)(u:∀s w',Bf w0 w' s (l++bw 2 n) (k+2)->K s w')(C:k<=1000:=by decide):cW 150 [b.v,.int .u16 n,.i 2] dd w K:=by obtain⟨B,q,f,E⟩:=h.2;exact qAo q (by rw[h.1];exact C) fun s B' w' b' G n'=>u s w' (h.of q E (lF _ _) b' G n')
def Bf.Aj(h:Bf w0 w b l k)(C:∀s w',Bf w0 w' s (l++bw 4 n) (k+4)->K s w')(E:k<=1000:=by decide):cW 148 [b.v,.u n,.i 4] dd w K:=by obtain⟨B,q,f,G⟩:=h.2;exact qAp q (by rw[h.1];exact E) fun s B' w' b' I n'=>C s w' (h.of q G (lF _ _) b' I n')
def Bf.uP(h:Bf w0 w b l k)(u:∀s w',Bf w0 w' s (l++bw 8 n) (k+8)->K s w')(C:k<=1000:=by decide):cW 149 [b.v,.int .u64 n,.i 8] dd w K:=by obtain⟨B,q,f,E⟩:=h.2;exact qAq q (by rw[h.1];exact C) fun s B' w' b' G n'=>u s w' (h.of q E (lF _ _) b' G n')
def Ft(u:w.heap[r]?=some (.cells (ids.flatMap jN).toArray T (0,0)))(C:ids.length=m)(E:m<=5)(G:∀s w',Bf w w' s (ids.flatMap iA) (16*m)->K s w'): cW 105 [.slice none 0 0,.slice (pW r) m m] dd w K:=by subst C;have I:dX jN 2 [] w ⟨pW r,ids.length,ids.length⟩ ids:=eZ.kF vM (eZ.fresh vM u rfl (zM _) (by rw[size_toArray,qZ vM];exact zM _) (zS (by rw[qZ vM];exact zM _))) fun _ _ h=>nomatch h;exact qzm I E fun s B w' b f n=>G s w' ⟨EN _,B,b,f,n⟩
def dX.max{α:Type}{enc:α->List Value}{k n:Nat}{w:World}{s:Sl}{l:List α}{hi:Int}{K:Sl->Prop}(h:dX enc k S w s l)(O:hi=n)(J:n<=l.length)(h0:0<n)(Q:∀C,C.len=n->dX enc k S w C (l.take n)->K C):fV s none (some hi) (some hi) k K:=by obtain⟨h1,h2,E⟩:=h;subst O;unfold fV;refine⟨by simp;omega,Q _ oL ⟨by simp;omega,oL,.inr ?_⟩⟩;rcases E with E|⟨R,o,U,T,V,ha,G,I,hc⟩;rw[E] at J;simp at J;omega;refine⟨R,o,U,T,V,?_,G,I,fun i x u=>?_⟩;simp only[xW,xV,zJ];rw[if_neg oO,ha];simp[Addr.q9];rw[xB] at u;split at u;exact hc i x u;cases u
end
def EI{x:Int}(h:IntKind.u64.has x):0<=x/\x<256^8:=by rw[p8];exact pj h
abbrev ls (x:gp):Prop:=IntKind.u64.has x.1/\IntKind.u64.has x.2
def ls.ok(h:ls x):my x:=⟨pj h.1,pj h.2⟩
def qBC{a b c d:gp}(u:ls a)(C:ls b)(E:ls c)(G:ls d):∀x∈[a,b,c,d],my x:=fun x h=>by simp at h;rcases h with rfl|rfl|rfl|rfl;exact u.ok;exact C.ok;exact E.ok;exact G.ok
def qAM{a b c d e:gp}(u:ls a)(C:ls b)(E:ls c)(G:ls d)(I:ls e):∀x∈[a,b,c,d,e],my x:=fun x J=>(zG.1 J).elim (fun h=>by rw[h];exact u.ok) (qBC C E G I x)
def gE (a:HL fq):gp:=(a.1,a.2.1)
def qA:HL fq->List Int:=fun (_,_,h,u,C,E,G,I,J,O,t,l,k,f,n)=>iA (h,u)++(iA (C,E)++(iA (G,I)++(iA (J,O)++(bw 8 t++(bw 4 l++(bw 2 k++(bw 2 f++bw 8 n)))))))
def pR (a:HL fq):List Int:=iA (gE a)++qA a
def Hp(a:HL fq):(qA a).length=88:=by obtain⟨h,u,C,E,G,I,J,O,Q,R,t,l,k,f,n⟩:=a;simp only[qA,zF,lW,lF]
def qrG(a:HL fq):(pR a).length=104:=by rw[pR,zF,lW,Hp]
def qwh(kk:∀s w',Bf w w' s (pR a) 104->K s w'): cW 100 [.agg (HL.mk fq a).toArray] dd w K:=by
 obtain⟨u,C,E,G,I,J,O,Q,R,U,t,l,k,f,n⟩:=a;refine qji<|oB (oE [] w) fun r1 w1 e1 f1 h=>oC h 0 rfl (u,C) rfl (oC h 0 rfl (E,G) rfl (oC h 0 rfl (I,J) rfl (oC h 0 rfl (O,Q) rfl (oC h 0 rfl (R,U) rfl ?_))));refine oB h fun r8 w2 e2 f2 h=>Ft (ids:=[(u,C),(E,G),(I,J),(O,Q),(R,U)]) (h.at (i:=0) rfl) rfl oM fun s3 w3 q=>?_;have h3:=(h.q7 q.fr).drew;refine oA h3 1 rfl t rfl (oA h3 1 rfl l rfl ?_);refine (q.q7 (Fr.refl [] w3).drew).uP fun s4 w4 q=>iM ((h.q7 q.fr).cell 1 rfl rfl) (q.Aj fun s5 w5 q=>?_);have V:=(h.q7 q.fr).drew;refine oA V 1 rfl k rfl (oA V 1 rfl f rfl (oA V 1 rfl n rfl ?_));refine (q.q7 (Fr.refl [] w5).drew).vQ fun s6 w6 q=>ka ((h.q7 q.fr).cell 1 rfl rfl) ((h.q7 q.fr).cell 1 rfl rfl) (q.vQ fun s7 w7 q=>?_);refine iM ((h.q7 q.fr).cell 1 rfl rfl) (q.uP fun s8 w8 q=>?_);have e:[(u,C),(E,G),(I,J),(O,Q),(R,U)].flatMap iA++bw 8 t++bw 4 l++bw 2 k++bw 2 f++bw 8 n=pR (u,C,E,G,I,J,O,Q,R,U,t,l,k,f,n):=by simp only[yH,flatMap_nil,pR,gE,qA,zV,xH,xI]
 rw[e] at q;exact kk s8 w8 (q.down (f1.trans f2))
def quV{K:Sl×Sl->WP}(G:∀s t w',lO w w' s (iA (gE a))->lO w w' t (qA a)->Fr [] w w'->K (s,t) w'): cW 65 [.agg (HL.mk fq a).toArray] dk w K:=by refine qio<|oB (oE [] w) fun r1 w1 e1 u h=>oC h 0 rfl a rfl<|qwh fun s w2 q=>?_;have Q:=qrG a;have I:=q.len;refine dX.max (n:=16) q.new rfl oJ oM fun J _ C=>dX.part q.new 16 104 rfl (by rw[xW,I]) oM oJ fun O _ E _=>?_;rw[pR,take_left' (lW _)] at C;rw[zS oJ,pR,drop_left' (lW _)] at E;exact G J O _ (lO.up C u.size) (lO.up E u.size) ((u.trans q.fr).drew)
def qwc{K:HL fq×Bool->WP}(hr:eF [] w s (pR a))(ha:ee fq a)(kk:∀w',Fr [] w w'->K (a,true) w'): cW 76 [s.v] [.agg fq,.one .bool] w K:=by
 refine qjh ?_;have hl:=hr.1;rw[qrG] at hl;obtain⟨C,E,G,I,J,O,Q,R,U,V,t,l,k,f,n⟩:=a;obtain⟨ab,ac,ad,ae,af,ag,ah,ai,aj,ak,ht,u,hk,hf,hn⟩:=ha;refine oB (oE [] w) fun r1 w1 e1 f1 h=>cond_false (by rw[hl];rfl)<|oB h fun r5 w2 e2 f2 h=>oB h fun r7 w3 e3 f3 h=>oB h fun r9 w4 e4 f4 h=>?_;have hG:eF [r5,r7,r1] w4 s ([(C,E),(G,I),(J,O),(Q,R),(U,V)].flatMap iA++(bw 8 t++(bw 4 l++(bw 2 k++(bw 2 f++(bw 8 n++[])))))):=by
  have:=dX.q7 (hr.j4 (S':=[r5,r7,r1]) fun b hb=>.inr (by have:=f1.size;have:=f2.size;simp at hb;omega)) h.fr
  simpa only[yH,flatMap_nil,pR,gE,qA,zV,xH,xI] using this
 refine quB (m:=5) (P9:=_) rfl oM oM h hG oL oL (qAM ⟨ab,ac⟩ ⟨ad,ae⟩ ⟨af,ag⟩ ⟨ah,ai⟩ ⟨aj,ak⟩) fun s5 w5 h al=>?_;let A:Int->Int->Int->Int->Int->Array Value:=fun t l k f n=>(HL.mk fq (C,E,G,I,J,O,Q,R,U,V,t,l,k,f,n)).toArray;exact u6 h al oL (EI ht) rfl (A t 0 0 0 0) fun s6 w6 h r6=>u6 h r6 oL (yp u) (congrArg _ (pa l (yp u))) (A t l 0 0 0) fun s7 w7 h r7=>u6 h r7 oL (vi hk) (congrArg _ (uA k (vi hk))) (A t l k 0 0) fun s8 w8 h r8=>u6 h r8 oL (vi hf) (congrArg _ (uA f (vi hf))) (A t l k f 0) fun s9 w9 h r9=>u6 h r9 oL (EI hn) rfl (A t l k f n) fun aF aG h aH=>oC h 1 rfl (C,E,G,I,J,O,Q,R,U,V,t,l,k,f,n) rfl<|h.st' 3 rfl _ (iI rfl) rfl (zM _) fun am h aI=>oC h 3 rfl (C,E,G,I,J,O,Q,R,U,V,t,l,k,f,n) rfl<|kk am h.fr
end
def qAI{m:List Int}(E:w.heap[r]?=some (.cells #[s.v,t.v] T (0,0)))(G:eF [] w s l)(I:eF [] w t m)(Q:l.length+m.length<=1000)(J:∀u w',eF [] w' u (l++m)->Fr [] w w'->K u w'):cW 77 [.slice (pW r) 2 2] dd w K:=by have O:jO [] w ⟨pW r,2,2⟩ [(s,l),(t,m)]:=⟨eZ.kF xa (eZ.fresh xa E rfl (zM _) (zM _) rfl) (fun _ _ h=>nomatch h),fun p C=>by rcases zG.1 C with rfl|C;exact G;rw[zE.1 C];exact I⟩;have e:(gM [(s,l),(t,m)]).flatten=l++m:=(by simp[gM]);refine qpS (s:=⟨pW r,2,2⟩) O (zO rfl) (by rw[e,zF];omega) fun u B w' b f n=>J u w' ?_ f;rw[e] at b;exact b.kF lZ fun _ _ h=>nomatch h
def quY{K:HL fq×Bool->WP}(C:eF [] w s (iA (gE a)))(G:eF [] w t (qA a))(I:ee fq a)(J:∀w',Fr [] w w'->K (a,true) w'): cW 36 [s.v,t.v] [.agg fq,.one .bool] w K:=by refine qip ?_;have E:=C.1;rw[lW] at E;refine oB (oE [] w) fun r1 w1 e1 V h=>cond_false (by rw[E];rfl) (oB h fun r5 w2 e2 f2 h=>?_);refine qAI (h.at (i:=0) rfl) (C.q7 h.fr) (G.q7 h.fr) (by rw[lW,Hp];decide) fun u w3 O Q=>qwc O I fun w4 R=>?_;have h:=h.q7 (Q.trans R);exact h.st' 1 rfl _ (iI rfl) rfl (zM _) fun U h _=>oC h 1 rfl a rfl (J U h.fr)
def gq (t:HL ig):gp:=(t.1,t.2.1)
def qm:HL ig->List Int:=fun (_,_,h,u,C,E,G,I,J,O,t,o,l,k,f,n)=>iA (h,u)++(iA (C,E)++(iA (G,I)++(iA (J,O)++(bw 8 t++(bw 4 o++(bw 4 l++(bw 2 k++(bw 2 f++bw 8 n))))))))
def qr (a:HL ig):List Int:=iA (gq a)++qm a
def An(a:HL ig):(qm a).length=92:=by obtain⟨h,u,C,E,G,I,J,O,Q,R,t,o,l,k,f,n⟩:=a;simp only[qm,zF,lW,lF]
def qs4(a:HL ig):(qr a).length=108:=by rw[qr,zF,lW,An]
def qwj{a:HL ig}(kk:∀s w',Bf w w' s (qr a) 108->K s w'): cW 104 [.agg (HL.mk ig a).toArray] dd w K:=by
 obtain⟨u,C,E,G,I,J,O,Q,R,U,t,o,l,k,f,n⟩:=a;refine qiq<|oB (oE [] w) fun r1 w1 e1 f1 h=>oC h 0 rfl (u,C) rfl (oC h 0 rfl (E,G) rfl (oC h 0 rfl (I,J) rfl (oC h 0 rfl (O,Q) rfl (oC h 0 rfl (R,U) rfl ?_))));refine oB h fun r8 w2 e2 f2 h=>Ft (ids:=[(u,C),(E,G),(I,J),(O,Q),(R,U)]) (h.at (i:=0) rfl) rfl oM fun s3 w3 q=>?_;have V:=(h.q7 q.fr).drew;refine oA V 1 rfl t rfl (oA V 1 rfl o rfl (oA V 1 rfl l rfl ?_));refine (q.q7 (Fr.refl [] w3).drew).uP fun s4 w4 q=>ka ((h.q7 q.fr).cell 1 rfl rfl) ((h.q7 q.fr).cell 1 rfl rfl) (q.Aj fun s5 w5 q=>?_);refine iM ((h.q7 q.fr).cell 1 rfl rfl) (q.Aj fun s5 w5 q=>?_);have h5:=(h.q7 q.fr).drew;refine oA h5 1 rfl k rfl (oA h5 1 rfl f rfl (oA h5 1 rfl n rfl ?_));refine (q.q7 (Fr.refl [] w5).drew).vQ fun s6 w6 q=>ka ((h.q7 q.fr).cell 1 rfl rfl) ((h.q7 q.fr).cell 1 rfl rfl) (q.vQ fun s7 w7 q=>?_);refine iM ((h.q7 q.fr).cell 1 rfl rfl) (q.uP fun s8 w8 q=>?_);have e:[(u,C),(E,G),(I,J),(O,Q),(R,U)].flatMap iA++bw 8 t++bw 4 o++bw 4 l++bw 2 k++bw 2 f++bw 8 n=qr (u,C,E,G,I,J,O,Q,R,U,t,o,l,k,f,n):=by simp only[yH,flatMap_nil,qr,gq,qm,zV,xH,xI]
 rw[e] at q;exact kk s8 w8 (q.down (f1.trans f2))
def qwd{a:HL ig}{K:HL ig×Bool->WP}(hr:eF [] w s (qr a))(ha:ee ig a)(kk:∀w',Fr [] w w'->K (a,true) w'): cW 137 [s.v] [.agg ig,.one .bool] w K:=by
 refine qin ?_;have hl:=hr.1;rw[qs4] at hl;obtain⟨E,G,I,J,O,Q,R,U,V,d1,t,o,l,k,f,n⟩:=a;obtain⟨ab,ac,ad,ae,af,ag,ah,ai,aj,ak,ht,ho,C,hk,hf,hn⟩:=ha;refine oB (oE [] w) fun r1 w1 e1 f1 h=>cond_false (by rw[hl];rfl)<|oB h fun r5 w2 e2 f2 h=>oB h fun u w3 e3 f3 h=>oB h fun r9 w4 e4 f4 h=>?_;have hG:eF [r5,u,r1] w4 s ([(E,G),(I,J),(O,Q),(R,U),(V,d1)].flatMap iA++(bw 8 t++(bw 4 o++(bw 4 l++(bw 2 k++(bw 2 f++(bw 8 n++[]))))))):=by
  have:=dX.q7 (hr.j4 (S':=[r5,u,r1]) fun b hb=>.inr (by have:=f1.size;have:=f2.size;simp at hb;omega)) h.fr
  simpa only[yH,flatMap_nil,qr,gq,qm,zV,xH,xI] using this
 refine quB (m:=5) (P9:=_) rfl oM oM h hG oL oL (qAM ⟨ab,ac⟩ ⟨ad,ae⟩ ⟨af,ag⟩ ⟨ah,ai⟩ ⟨aj,ak⟩) fun s5 w5 h al=>?_;let A:Int->Int->Int->Int->Int->Int->Array Value:=fun t o l k f n=>(HL.mk ig (E,G,I,J,O,Q,R,U,V,d1,t,o,l,k,f,n)).toArray;exact u6 h al oL (EI ht) rfl (A t 0 0 0 0 0) fun s6 w6 h r6=>u6 h r6 oL (yp ho) (congrArg _ (pa o (yp ho))) (A t o 0 0 0 0) fun s7 w7 h u=>u6 h u oL (yp C) (congrArg _ (pa l (yp C))) (A t o l 0 0 0) fun s7 w7 h u=>u6 h u oL (vi hk) (congrArg _ (uA k (vi hk))) (A t o l k 0 0) fun s8 w8 h r8=>u6 h r8 oL (vi hf) (congrArg _ (uA f (vi hf))) (A t o l k f 0) fun s9 w9 h r9=>u6 h r9 oL (EI hn) rfl (A t o l k f n) fun aH aI h aJ=>oC h 1 rfl (E,G,I,J,O,Q,R,U,V,d1,t,o,l,k,f,n) rfl<|h.st' 3 rfl _ (iI rfl) rfl (zM _) fun am h aK=>oC h 3 rfl (E,G,I,J,O,Q,R,U,V,d1,t,o,l,k,f,n) rfl (kk am h.fr)
def dX.wp{b n c o cap:Nat}{L:List Int}(h:eF S w ⟨pW b,n,c⟩ L)(E:o+m<=L.length)(G:m<=cap)(V:0<m):eF S w ⟨some (dc b o),m,cap⟩ ((L.drop o).take m):=by
 obtain⟨h1,h2,C⟩:=h;refine⟨by simp;omega,G,.inr ?_⟩;rcases C with C|⟨bl,o',I,T,J,O,Q,R,U⟩;subst C;simp at E;omega;cases O;refine⟨b,o,I,T,J,rfl,Q,R,fun i x u=>?_⟩;rw[xB] at u;split at u;rw[xA] at u
 have:=U (o+i) x u
 rw[<- this];congr 2;omega;cases u
def qzM{C n c o:Nat}{ys:List Int}{a:Sl}(O:w.heap[C]?=some (.cells cs T (0,0)))(h0:w0.heap.size<=C)(hn:n=l.length)(hc:n<=c)(Q:c<=cs.size)(hl:cs.toList.take l.length=l.map (Value.int .u8))(f0:Fr [] w0 w)(ho:0<o/\o<n)(hr:eF [] w a ys)(hy:l.length+ys.length<=1000)(kk:∀s' w',lO w0 w' s' (l.drop o++ys)->lO w0 w' ⟨pW C,o,o⟩ (l.take o)->Fr [C] w w'->K s' w'): Pt.run dd ((Builtin.append_ #[96,96] 96 #[.slice (some (dc C o)) (n-o) (c-o),a.v]).run Tryz.prog w) K:=by
 obtain⟨i,hi,hz,G,ac⟩:=xn;subst hn;have ad:=hr.1;have R:gF w ⟨pW C,l.length,c⟩ l [C]:=eZ.one (e:=Value.int .u8) (fun _=>rfl) O rfl hc Q hl;have hR:lO w0 w ⟨pW C,l.length,c⟩ l:=xz R fun b h=>by rw[zE.1 h];exact h0
 have E:=vo (P:=Tryz.prog) (tx:=96) (e':=5) hr lZ (fun x u hu=>by rw[zE.1 hu];rfl) oK;rw[sR] at E;have U:eF [] w ⟨some (dc C o),l.length-o,c-o⟩ (l.drop o):=by
  have:=dX.wp (o:=o) (m:=l.length-o) (cap:=c-o) hR.rd oJ oJ oJ
  rwa[zS oL] at this
 by_cases hroom:l.length+ys.length<=c;have ax:=E.newsLen;have hk:(l.length-o)+a.len<=c-o:=oJ;have e0:o+(l.length-o)*1=l.length:=oJ;refine vu ⟨_,_,_⟩ _ (run_append_room_src w 96 96 96 5 i oK hi C o (l.length-o) (c-o) _ a.len _ (by rw[G];exact E) hk (fun j V=>?_) (fun j V=>?_)) ?_;rw[G,e0,kj O];rw[zK] at V;have:l.length+j<cs.size:=oJ;simp[this];simp[World.frozen?,O];rw[Ae O,G,e0];have I:(i8 w C (.cells (dT cs l.length (ys.map (Value.int .u8))) T (0,0))).heap[C]?=some (.cells (dT cs l.length (ys.map (Value.int .u8))) T (0,0)):=(by rw[qw _ _ _ _ (fJ O),if_pos rfl]);have J:gF _ ⟨pW C,(l++ys).length,c⟩ (l++ys) [C]:=eZ.one (e:=Value.int .u8) (fun _=>rfl) I rfl (by rw[zF];exact hroom) (by rw[nY];exact Q) (by rw[qY _ _ _ oO,hl,xN,zF,take_append_of_le_length oL];exact zS oL);have aa:lO w0 _ ⟨pW C,(l++ys).length,c⟩ (l++ys):=xz J fun b h=>by rw[zE.1 h];exact h0
 refine kk _ _ ?_ ?_ (vL (fJ O) _)
 have:=dX.wp (o:=o) (m:=l.length-o+a.len) (cap:=c-o) aa (by rw[zF];omega) hk oJ
 rwa[drop_append_of_le_length oJ,zS oO] at this
 have:=dX.wp (o:=0) (m:=o) (cap:=o) aa (by rw[zF];omega) (zM _) ho.1
 rwa[xF,take_append_of_le_length oJ] at this;have ae:=U.cells lZ rfl;refine qt1 (m:=a.len) (e:=5) (olds:=(l.drop o).map (Value.int .u8)) (news:=ys.map (Value.int .u8)) oK hi hz G rfl oL (fun j u V=>?_) E oJ (by rw[ac];omega) oJ fun b' cs c' w' eb I f af ab ht=>?_;rw[<- sR] at V;exact ae j u V;have ag:gF w' ⟨pW b',l.length-o+a.len,c'⟩ (l.drop o++ys) [b']:=eZ.one (e:=Value.int .u8) (fun _=>rfl) I oO af ab (by rw[zF,yC,<- ad,ht,xN]);refine kk _ w' (xz ag fun b h=>by rw[zE.1 h,eb];exact f0.size) ?_ (f.mono fun _ h _=>nomatch h)
 have:=dX.wp (o:=0) (m:=o) (cap:=o) (hR.q7 f) oJ (zM _) ho.1
 rwa[xF] at this
def qrF{K:gp×Bool->WP}(E:eF [] w s (iA x))(C:my x)(R:∀w',Fr [] w w'->K (x,true) w'): cW 83 [s.v] [.agg da,.one .bool] w K:=by refine qs9 ?_;have O:=E.1;rw[lW] at O;refine oB (oE [] w) fun r1 w1 e1 f1 h=>cond_false (by rw[O];rfl) (oB h fun U w2 e2 f2 h=>?_);have V:=lF 8 x.1;have l1:=lF 8 x.2;refine jT (fun q w'=>∃i:Nat,q=i/\i<=8/\dR [] w w' [(U,.cells #[.int .u64 (kC ((bw 8 x.1).take i)),.int .u64 (kC ((bw 8 x.2).take i))] oe (0,0)),(r1,.cells cz oe (0,0))]) (fun q _=>8-q.toNat) ⟨0,rfl,oM,h⟩ ?_;rintro q w3 ⟨i,rfl,hi,h⟩ X hX;apply cD<;>intro G;have u:i<8:=oJ;have I:(iA x)[i]?=some ((bw 8 x.1)[i]' oJ):=(by rw[iA,yZ oJ,zA oJ]);have J:(iA x)[8+i]?=some ((bw 8 x.2)[i]' oJ):=(by rw[iA,yY oJ,V,vD,zA oJ]);rw[gd (8+(i:Int)) oJ,gd ((i:Int)+1) oJ];refine oA h.drew 0 rfl _ rfl (eF.at (E.q7 h.drew.fr) i rfl I ?_);rw[Ee (qE _ _) oJ u];refine h.drew.sz 0 rfl #[.int .u64 (kC ((bw 8 x.1).take (i+1))),.int .u64 (kC ((bw 8 x.2).take i))] fun Q h _=>oA h.drew 0 rfl _ rfl (eF.at (E.q7 h.drew.fr) (8+i) oJ J ?_);rw[Ee (qE _ _) oJ u];exact h.drew.sz 0 rfl #[.int .u64 (kC ((bw 8 x.1).take (i+1))),.int .u64 (kC ((bw 8 x.2).take (i+1)))] fun w5 h _=>hX _ _ ⟨i+1,rfl,u,h⟩ oJ;have u:i=8:=oJ;subst u;rw[zS oJ,zS oJ,uH 8 C.1.1 (by rw[p8];exact C.1.2),uH 8 C.2.1 (by rw[p8];exact C.2.2)] at h;refine oC h 0 rfl x rfl (h.st' 1 rfl _ (iI rfl) rfl (zM _) fun Q h _=>?_);exact oC h 1 rfl x rfl (R Q h.fr)
def qAD{K:Int->WP}(h:eF S w s (bw 8 n))(u:mu n)(C:K n w):cW 125 [s.v] di w K:=
 qu1 h (qE _ _) (by rw[lF];decide) (by rw[uH 8 u.1 (by rw[p8];exact u.2)];exact C)
def quU{m:Int}{K:Int×Int×Bool->WP}(h:eF [] w s (lr n m))(G:mu n)(I:mu m)(J:K (n,m,true) w.drew): cW 82 [s.v] dC w K:=by refine qq7 ?_;have u:=h.1;rw[Az] at u;refine cond_false (by rw[u];rfl) (dX.part h 0 8 rfl rfl oM (by rw[Az];decide) fun O _ C _=>dX.part h 8 16 rfl (by rw[xW,u]) oM (by rw[Az];decide) fun Q _ E _=>?_);rw[lr,xF,take_left' (lF _ _)] at C;rw[zS (by rw[Az];decide),lr,drop_left' (lF _ _)] at E;exact qAD C.drew G (qAD E.drew I J)
def qnF{e i0 i1:Int}{K:Sl×Sl->WP}(G:∀s t w',lO w w' s (lr e n)->lO w w' t (iA (i0,i1))->Fr [] w w'->K (s,t) w'): cW 72 [.agg #[.int .u64 e,.int .u64 n,.int .u64 i0,.int .u64 i1]] dk w K:=by refine ql6<|oB (oE [] w) fun r1 w1 e1 u h=>oA h.drew 0 rfl e rfl (oA h.drew 0 rfl n rfl (oC h.drew 0 rfl (i0,i1) rfl ?_));refine qtT fun s w2 I C=>iM ((h.drew.q7 C).cells 0 rfl rfl) (wE fun r3 J O E=>?_);have f:=u.drew.trans C;exact G s _ J ((I.up u.size).q7 E) (O.up f.size) (f.trans E)
def quZ{e:Int}{K:(Int×Int×Int×Int)×Bool->WP}(C:eF [] w s (lr e n))(E:eF [] w t (iA x))(G:mu e)(I:mu n)(J:my x)(O:∀w',Fr [] w w'->K ((e,n,x.1,x.2),true) w'): cW 39 [s.v,t.v] [.agg [.int .u64,.int .u64,.int .u64,.int .u64],.one .bool] w K:=by refine ql8<|oB (oE [] w) fun r1 w1 e1 u h=>quU (C.q7 u) G I<|qrF (E.q7 u.drew) J fun w2 Q=>oB (h.drew.q7 Q) fun r7 w3 e3 f3 h=>h.sz 0 rfl #[.int .u64 x.1,.int .u64 x.2] fun R h _=>tN false R (fun M U=>cond_false rfl U) (cond_false rfl ?_);refine oC h 0 rfl x rfl (h.sz 1 rfl #[.int .u64 e,.int .u64 n,.int .u64 x.1,.int .u64 x.2] fun V h _=>?_);exact oC h 1 rfl (e,n,x.1,x.2) rfl (O V h.fr)
abbrev xd:TypeId:=57
abbrev Kp:=HL ig×gp
def pf (k:Kp):List Value:=HL.mk ig k.1++jN k.2
def uv (k:Kp):List Int:=qm k.1++iA k.2
def pr(k:Kp):(pf k).length=18:=rfl
def AW(k:Kp):(uv k).length=108:=by rw[uv,zF,An,lW]
def uE:Kp:=((0,0,0,0,0,0,0,0,0,0,0,0,0,0,0,0),(0,0))
def v8:((Tryz.prog.info? xd).bind (·.zero)).map (fun z=>z.cells.toList)=some (pf uE):=by kernel_rfl
def qrK{k:Kp}(w:World):(Instr.build xd #[(0,.agg (HL.mk ig k.1).toArray),(1,.agg #[.int .u64 k.2.1,.int .u64 k.2.2])]).run Tryz.prog w=.ok (.agg (pf k).toArray) w:=by obtain⟨z,u,h⟩:=yT.1 v8;exact qoQ (P:=Tryz.prog) (a:=.agg (HL.mk ig k.1).toArray) (b:=.agg #[.int .u64 k.2.1,.int .u64 k.2.2]) (o1:=16) (s0:=16) (s1:=2) u oK (fun w=>oK) rfl rfl rfl (by rw[<- Array.length_toList,h];rfl) w
def quX{k:Kp}{K:Sl×Sl->WP}(kk:∀s t w',lO w w' s (iA (gq k.1))->lO w w' t (uv k)->Fr [] w w'->K (s,t) w'): cW 69 [.agg (pf k).toArray] dk w K:=by
 refine qhG<|oB (oE [] w) fun r1 w1 e1 f1 h=>oC h 0 rfl k.1 rfl (qwj fun s w2 q=>?_);have R:=qs4 k.1;obtain⟨B,U,f2,hB⟩:=q.2;obtain⟨u,cs,T,rfl,ha,G,hn,hc,J,ht⟩:=U.ptr (by intro h;rw[h] at R;simp at R);obtain⟨sa,sn,sc⟩:=s;dsimp only at ha hn hc J;subst ha;have O:w1.heap.size<=u:=hB u (zE.2 rfl);rw[sR] at ht;unfold fV;refine⟨by simp;omega,by simp;omega,?_⟩;simp only[xW,xV];rw[if_neg oO,if_neg oL];simp only[Option.map_some,Addr.q9];have h:=(h.q7 f2).drew;refine oC h 0 rfl k.2 rfl (oB h fun r9 V e3 f3 h=>?_);have E:dX jN 2 [u] V ⟨pW r9,1,1⟩ [k.2]:=eZ.kF vM (eZ.fresh vM (h.at (i:=0) rfl) rfl (zM _) (zM _) rfl) fun b U h=>by have:=zE.1 U;have:=zE.1 h;have:u<w2.drew.heap.size:=fJ G;omega
 have aa:Fr [] w2 V:=(Fr.refl [] w2).drew.trans f3;have hV:(qr k.1).drop 16=qm k.1:=(by rw[qr,drop_left' (lW _)]);have hI:(qr k.1).take 16=iA (gq k.1):=(by rw[qr,take_left' (lW _)]);have ab:qm k.1≠uv k:=fun e=>by have:=congrArg List.length e;rw[An,AW] at this;omega
 refine qq1 (b:=⟨some (dc u 16),sn-16,sc-16⟩) (l:=qm k.1) (I:=fun s l' w'=>(s=⟨some (dc u 16),sn-16,sc-16⟩/\l'=qm k.1/\Fr [] V w')\/(l'=uv k/\lO w w' s (uv k)/\lO w w' ⟨pW u,16,16⟩ (iA (gq k.1))/\Fr [] w w')) (.inl ⟨rfl,rfl,.refl _ _⟩) (fun s l w' aA q f=>q.elim (fun q=>.inl ⟨q.1,q.2.1,q.2.2.trans f⟩) fun q=>.inr ⟨q.1,q.2.1.q7 f,q.2.2.1.q7 f,q.2.2.2.trans f⟩) (E.j4 fun _ h=>nomatch h) (zO rfl) (fun i s l' w4 a x K' hi hx C q r4 ra k'=>?_) fun s w4 q=>?_;have ae:i=0:=(by simp at hi;exact hi);subst ae;cases hx;rcases q with ⟨rfl,C,Q⟩|⟨e,_⟩;have af:w4.heap[u]?=some (.cells cs T (0,0)):=(by rw[(aa.trans Q).block u (fJ G) (fun h=>nomatch h)];exact G);refine qzM (w0:=w) (o:=16) af (zL f1.size O) hn hc J ht (h.fr.trans Q) oJ ra (by rw[R,lW];decide) fun s5 w5 h5 h6 f5=>?_;rw[hV] at h5;rw[hI] at h6;rw[C] at k';exact k' s5 w5 (.inr ⟨rfl,h5,h6,(h.fr.trans Q).j6 f5 fun b h=>.inr (by rw[zE.1 h];exact zL f1.size O)⟩) (((E.q7 Q).q8 f5 fun b h=>.inl h).j4 fun _ h=>nomatch h);rw[e] at C;exact absurd (oP C.symm) ab;rcases q with ⟨_,e,_⟩|⟨_,q1,q2,q3⟩
 have:=congrArg List.length e
 rw[zF,EN,An] at this;simp at this;exact kk _ s w4 q2 q1 q3
def rq (k:Kp):Prop:=ee ig k.1/\ls k.2
def qu0{k:Kp}{K:List Value×Bool->WP}(J:eF [] w s (iA (gq k.1)))(E:eF [] w t (uv k))(O:rq k)(V:∀w',Fr [] w w'->K (pf k,true) w'): cW 95 [s.v,t.v] dh w K:=by refine qhH ?_;have Q:=J.1;rw[lW] at Q;have C:=E.1;rw[AW] at C;have hz:=v8;refine oI (oE [] w) hz fun r1 w1 e1 h=>tN false w1 (fun M hM=>cond_false (by rw[Q];rfl) (by rw[C];exact hM)) (cond_false rfl ?_);refine dX.part (E.q7 h.fr) 0 92 rfl rfl oM (by rw[AW];decide) fun s2 _ R _=>?_;rw[xF,uv,take_left' (An _)] at R;refine oB h fun r3 w3 e3 f3 h=>qAI (h.at (i:=0) rfl) (J.q7 h.fr) (R.q7 f3) (by rw[lW,An];decide) fun u w4 hu f4=>qwd hu O.1 fun w5 f5=>oB (h.q7 (f4.trans f5)) fun r6 w6 e6 f6 h=>h.st' 0 rfl _ (iI rfl) rfl (zM _) fun w7 h _=>dX.part (E.q7 h.fr) 92 108 rfl (by rw[xW,C]) oM (by rw[AW];decide) fun s8 _ U _=>?_;rw[zS (by rw[AW];decide),uv,drop_left' (An _)] at U;refine qrF U O.2.ok fun w9 f9=>oB (h.q7 f9) fun r9 ah ai aj h=>h.st' 0 rfl _ (iI rfl) rfl (zM _) fun G h _=>oC h 1 rfl k.1 rfl (oC h 0 rfl k.2 rfl (sI (ts:=[iJ.oc]) (pf k) (qrK G) (me (pr k) ?_)));exact h.st' 3 rfl _ (iI rfl) rfl (zM _) fun I h _=>nH (h.at (i:=3) rfl) (pf k) (pr k) rfl (V I h.fr)
def tZ:HL t6->List Int:=fun (h,u,C,E,G,I,J,O,n)=>iA (h,u)++(iA (C,E)++(iA (G,I)++iA (J,O)))
def nX (a:HL t6):Int:=a.2.2.2.2.2.2.2.2
def tj (a:HL t6):List Int:=tZ a++bw 8 (nX a)
def DD(a:HL t6):(tZ a).length=64:=by obtain⟨h,u,C,E,G,I,J,O,n⟩:=a;simp only[tZ,zF,lW]
def qyj(a:HL t6):(tj a).length=72:=by rw[tj,zF,DD,lF]
def qwi{a:HL t6}(R:∀s w',Bf w w' s (tj a) 72->K s w'): cW 147 [.agg (HL.mk t6 a).toArray] dd w K:=by
 obtain⟨u,C,E,G,I,J,O,Q,n⟩:=a;refine qjj<|oB (oE [] w) fun r1 w1 e1 f1 h=>?_;have h:=h.drew;refine oC h 0 rfl (u,C) rfl (oC h 0 rfl (E,G) rfl (oC h 0 rfl (I,J) rfl (oC h 0 rfl (O,Q) rfl (oA h 0 rfl n rfl ?_))));refine oB h fun r8 w2 e2 f2 h=>iM (h.cell 1 rfl rfl)<|Ft (ids:=[(u,C),(E,G),(I,J),(O,Q)]) (h.at (i:=0) rfl) rfl oM fun s3 w3 q=>iM ((h.q7 q.fr).cell 1 rfl rfl) (q.uP fun U V q=>?_);have e:[(u,C),(E,G),(I,J),(O,Q)].flatMap iA++bw 8 n=tj (u,C,E,G,I,J,O,Q,n):=by simp only[yH,flatMap_nil,tj,nX,tZ,zV,xH,xI]
 rw[e] at q;exact R U V (q.down h.fr)
def sY:HL nd->Int:=fun (_,_,_,_,_,_,_,_,_,s)=>s
def ma:HL nd->HL t6:=fun (h,u,C,E,G,I,J,O,n,_)=>(h,u,C,E,G,I,J,O,n)
def uf (r:HL nd):List Int:=sY r::tZ (ma r)
def qzb(r:HL nd):(uf r).length=65:=by rw[uf,yI,DD]
def quW{a0 a1:Int}{r:HL nd}{K:Sl×Sl->WP}(V:∀s t w',lO w w' s (lG (a0,a1) (nX (ma r)))->lO w w' t (uf r)->Fr [] w w'->K (s,t) w'): cW 99 [c8 a0 a1,.agg (HL.mk nd r).toArray] dk w K:=by
 refine ql7<|oB (oE [] w) fun r1 w1 e1 f1 h=>oB h fun r3 w2 e2 f2 h=>oC h 0 rfl (ma r) rfl (qwi fun s w3 q=>?_);have h:=(h.q7 q.fr).drew;have hq:=(q.new.q7 (Fr.refl [] w3).drew).rd;have hn:(nX (ma r))=r.2.2.2.2.2.2.2.2.1:=rfl;have hx:(tj (ma r)).take 64=tZ (ma r):=(by rw[tj,take_left' (DD _)]);have ah:=qyj (ma r);have ai:=DD (ma r);simp only[Addr.q9];refine⟨?a,?b⟩;case' a=>refine oC h 1 rfl (a0,a1) rfl (oA h 0 rfl (nX (ma r)) rfl (oA h 0 rfl (sY r) rfl (dX.part hq 0 64 rfl rfl oM oJ fun s4 _ G _=>DU fun I w5 J u=>?_)))
 case' b=>refine oC h 1 rfl (a0,a1) rfl (oA h 0 rfl (nX (ma r)) rfl (oA h 0 rfl (sY r) rfl (dX.part hq 0 64 rfl rfl oM oJ fun s4 _ G _=>?_)))
 all_goals rw[xF,hx] at G
 case a=>
  have h:=h.q7 u;refine iM (h.cell 0 rfl rfl) (oB h fun r6 w6 e6 C h=>ka (h.cell 1 rfl rfl) (h.cells 2 rfl rfl) ?_);exact E2 (w:=w6) (l:=[sY r]) (zo (o:=0) (n:=1) (L:=[sY r]) (h.at (i:=0) rfl) (zM _) (zM _) (fun h=>nomatch h)) ((G.q7 u).q7 C) oJ oO fun O B7 w7 Q E R=>V I O w7 ((J.q7 (C.trans E)).up (f1.trans (f2.trans q.fr)).size) (xz Q fun b U=>zL h.fr.size (R b U)) (h.fr.trans E)
 case b=>
  refine oB h fun r6 w6 e6 C h=>ka (h.cell 1 rfl rfl) (h.cells 2 rfl rfl) (DU fun I w5 J u=>?_);have h:=h.q7 u;exact iM (h.cell 1 rfl rfl)<|E2 (w:=w5) (l:=[sY r]) (zo (o:=0) (n:=1) (L:=[sY r]) (h.at (i:=0) rfl) (zM _) (zM _) (fun h=>nomatch h)) ((G.q7 C).q7 u) oJ oO fun O B7 w7 Q E R=>V I O w7 ((J.q7 E).up ((f1.trans (f2.trans q.fr)).drew.trans C).size) (xz Q fun b U=>zL h.fr.size (R b U)) (h.fr.trans E)
def Fy:HL nd:=(0,0,0,0,0,0,0,0,0,0)
def qAm{p q:Nat×Obj}(h:dR S w0 w (p::q::L)):dR S w0 w (p::L):=h.sub (.cons_cons _ (sublist_cons_self _ _))
def qA5{p:Nat×Obj}(h:dR S w0 w (p::L)):dR S w0 w L:=h.sub (sublist_cons_self _ _)
section
section
variable {k v c:Nat} {t:Int} {w0 w:World} {s:Sl} {m:Nat} {dbk pb:Nat} {FD F B:List Nat} {D:dM} {M:eQ} {P:List Int} {L:gu}
end
def qze{t:Int}{k v:Nat}(h:BP t)(C:ue t=((k:Int),(v:Int))):4<=(dY k v).1:=by
 obtain⟨E,G⟩:=h;have:t=0\/t=1\/t=2\/t=3\/t=4\/t=5\/t=6\/t=7:=oJ;rcases this with rfl|rfl|rfl|rfl|rfl|rfl|rfl|rfl<;>
  (obtain⟨e1,u⟩:=vB C;have e1:=Int.ofNat.inj e1;have u:=Int.ofNat.inj u;subst e1 u;decide)
end
section
structure sL (D:dM) (M:eQ) (c:Nat) (Fo:lP):Prop where
 j8:AS D M Fo
 wf:M.Wf
 Q0:M.Q0=false
 len:M.J9.length=24
 Q6:M.x7
 many:M.Q6.length=c
def mM (F:lP):Nat:=(F 0).1.length+(F 1).1.length+(F 2).1.length+(F 3).1.length+(F 4).1.length+(F 5).1.length+(F 6).1.length+(F 7).1.length
def qBm{t:Nat}(h:t<8):t=0\/t=1\/t=2\/t=3\/t=4\/t=5\/t=6\/t=7:=by omega
def Cc{F:lP}{t:Nat}(h:t<8):(F t).1.length<=mM F:=by unfold mM;rcases qBm h with rfl|rfl|rfl|rfl|rfl|rfl|rfl|rfl<;>omega
section
variable {D:dM} {M:eQ} {c t:Nat} {F:lP} {key val:Key}
def sL.room(h:sL D M c F)(I:t<8)(O:3*mM F+1<=c):2*(eE M t).2.2.toNat+1<=M.J8.length:=by
 have J:=h.Q6.length_eq;rw[zF,h.many] at J;have Q:(M.J5.map (·.1)).length<=((List.range 8).flatMap fun u=>(F u).2).length:=List.Nodup.length_le_of_subset h.wf.y9 fun x G=>by obtain⟨u,E,G⟩:=h.j8.use x (.inl G);exact yK.2 ⟨u,mem_range.2 E,G⟩
 have R:((List.range 8).flatMap fun u=>(F u).2).length<=mM F:=by
  have C:∀u,u<8->(F u).2.length<=(F u).1.length:=fun u E=>(h.j8.j9 u E).cR (qze ⟨oJ,oJ⟩ (Bs E).1);have e:(List.range 8)=[0,1,2,3,4,5,6,7]:=oM;rw[e];simp only[yH,flatMap_nil,zF,xK];unfold mM
  have:=C 0 oM;have:=C 1 oM;have:=C 2 oM;have:=C 3 oM;have:=C 4 oM;have:=C 5 oM;have:=C 6 oM;have:=C 7 oM
  omega
 have U:=(h.j8.j9 t I).low
 have:=Cc (F:=F) I
 omega
def sL.next{M':eQ}{L':gu}{P':List Int}(h:sL D M c F)(C:t<8)(E:gQ D M' (kv t).1 (kv t).2 t L' P')(u:qP D M M' t (F t).2 P'):sL D M' c (pY F t (L',P')):=
 ⟨h.j8.next h.Q0 C E u,u.wf,u.step.Q0,u.len,u.step.x7 h.Q6,by have:M'.Q6=M.Q6:=u.step.Q6;rw[this];exact h.many⟩
def sL.put(h:sL D M c F)(u:t<8)(C:3*mM F+1<=c)(E:c<=100000)(G:key.length=(kv t).1/\eS key)(I:val.length=(kv t).2/\eS val): ∃M' P',kc D (kv t).1 (kv t).2 t key val (eE M t).2.2.toNat M=(0,M')/\sL D M' c (pY F t (gj key val (F t).1,P')):=by
 have:=Cc (F:=F) u
 obtain⟨M',P',e,J,O,_⟩:=qw2 (Bs u).2.1 ⟨oJ,oJ⟩ G I (h.j8.j9 t u) h.wf h.Q0 h.len (h.j8.nodup t u) oJ (h.room u C);exact⟨M',P',e,h.next u J O⟩
def sL.cut(h:sL D M c F)(u:t<8)(C:3*mM F+1<=c)(E:c<=100000)(G:key∈dU (F t).1): ∃M' P',lA D (kv t).1 (kv t).2 t key (eE M t).2.2.toNat M=(0,M')/\sL D M' c (pY F t (gR key (F t).1,P')):=by
 have:=Cc (F:=F) u
 obtain⟨M',P',e,I,J,_⟩:=qxD (Bs u).2.1 ⟨oJ,oJ⟩ (h.j8.j9 t u) G h.wf h.Q0 h.len (h.j8.nodup t u) oJ (h.room u C);exact⟨M',P',e,h.next u I J⟩
end
def sL.made{D:dM}{n:Nat}(I:8<=n)(J:n<=4096)(C:(nf n).Wf):sL D (nf n) ((n-2)-gG (n-2)) (fun _=>([],[])):=by have E:∀t:Nat,t<8->Am D (nf n) (kv t).1 (kv t).2 ((n-2)-gG (n-2)) t [] []:=fun t G=>qxN ⟨oJ,oJ⟩ I J C;have h:=E 0 oM;exact⟨⟨fun t G=>(E t G).j9,fun _ _=>.nil,fun _ _ _ _ _ _ u=>(nomatch u),fun x u=>nomatch h.use x u⟩,C,h.Q0,h.len,h.Q6,h.many⟩
abbrev STT:TypeId:=102
abbrev pP (r:Nat):Value:=dH r
structure rI (w:World) (Y:List Nat) (sb dbk pb:Nat) (FD F:List Nat) (D:dM) (M:eQ) (c:Nat) (Fo:lP):Prop where
 tw:TW dbk pb FD D 5000 w Y F M
 st:sL D M c Fo
 cell:w.heap[sb]?=some (.cells #[pP pb] STT (0,0))
 out:sb∉F
section
variable {w w':World} {sb dbk pb c t:Nat} {Y FD F F':List Nat} {D:dM} {M M':eQ} {Fo Fo':lP} {key val:Key} {ks vs:Sl}
def rI.q7(h:rI w Y sb dbk pb FD F D M c Fo)(f:Fr [] w w'):rI w' Y sb dbk pb FD F D M c Fo:=⟨h.tw.q7 f,h.st,by rw[f.block sb (fJ h.cell) (fun h=>nomatch h)];exact h.cell,h.out⟩
def rI.uN{K:Option Addr->Prop}(h:rI w Y sb dbk pb FD F D M c Fo)(u:K (pW pb)):nn (pW sb) fun a=>ld .ptr a w K:=gI (jM h.cell (pW pb) rfl u)
def rI.Q9(h:rI w Y sb dbk pb FD F D M c Fo)(u:TW dbk pb FD D 5000 w' Y F' M')(C:sL D M' c Fo')(f:Fr F w w')(n:∀b∈F',b∈F\/w.heap.size<=b):rI w' Y sb dbk pb FD F' D M' c Fo':=
 ⟨u,C,by rw[f.block sb (fJ h.cell) h.out];exact h.cell,fun E=>(n sb E).elim h.out fun G=>by have:=fJ h.cell;omega⟩
def rI.put{K:Int->WP}(h:rI w Y sb dbk pb FD F D M c Fo)(u:t<8)(J:3*mM Fo+1<=c)(C:c<=100000)(E:key.length=(kv t).1/\eS key)(G:val.length=(kv t).2/\eS val)(Q:eF (Zo FD Y F) w ks key)(R:eF (Zo FD Y F) w vs val)(U:∀F' w' M' P',rI w' Y sb dbk pb FD F' D M' c (pY Fo t (gj key val (Fo t).1,P'))->Fr F w w'->(∀b∈F',b∈F\/w.heap.size<=b)->K 0 w'): cW 66 [pP pb,.i t,ks.v,vs.v] de w K:=by
 obtain⟨M',P',e,V⟩:=h.st.put (key:=key) (val:=val) u J C E G;have hl:=(h.st.j8.j9 t u).low
 have:=Cc (F:=Fo) u
 have I:=Bs u;refine qzG (f:=(eE M t).2.2.toNat) E.2 G.2 I.1 oJ E.1 G.1 h.tw Q R ⟨hl.2,oJ⟩ (h.st.room u J) (qtt e) fun F' w' O f n=>?_;rw[e] at O⊢;exact U F' w' M' P' (h.Q9 O V f n) f n
def rI.cut{K:Int->WP}(h:rI w Y sb dbk pb FD F D M c Fo)(C:t<8)(I:3*mM Fo+1<=c)(J:c<=100000)(u:key∈dU (Fo t).1)(Q:eF (Zo FD Y F) w ks key)(R:∀F' w' M' P',rI w' Y sb dbk pb FD F' D M' c (pY Fo t (gR key (Fo t).1,P'))->Fr F w w'->(∀b∈F',b∈F\/w.heap.size<=b)->K 0 w'): cW 111 [pP pb,.i t,ks.v] de w K:=by
 obtain⟨M',P',e,U⟩:=h.st.cut (key:=key) C I J u;have E:=h.st.j8.j9 t C;have V:=E.low
 have:=Cc (F:=Fo) C
 have G:=Bs C;obtain⟨x,hx,rfl⟩:=mem_map.1 u;obtain⟨q1,q2,q3,q4⟩:=E.sort.2 x hx;obtain⟨y,hy⟩:=qqd u;have O:=E.get (key:=x.1) h.st.wf h.st.Q0;rw[hy] at O;refine qzx (f:=(eE M t).2.2.toNat) (f2:=(eE M t).2.2.toNat) q3 G.2.1 G.1 oJ q1 h.tw Q ⟨V.2,oJ⟩ (h.st.room C I) (by rw[O]) (E.Q3 G.2.1 u h.st.wf h.st.Q0 (h.st.j8.nodup t C) (h.st.room C I)) fun F' w' E f n=>?_;rw[e] at E⊢;exact R F' w' M' P' (h.Q9 E U f n) f n
def rI.get{K:Sl×Int->WP}(h:rI w Y sb dbk pb FD F D M c Fo)(G:t<8)(I:key.length=(kv t).1/\eS key)(V:eF (Zo FD Y F) w ks key)(J:∀s w' z e,(ki key (Fo t).1=some z/\e=0)\/(ki key (Fo t).1=none/\z=[]/\e=5)->eF (Zo FD Y F) w' s z->(e=0->z.length=(kv t).2)->eS z->Fr [] w w'->K (s,e) w'): cW 42 [pP pb,.i t,ks.v] dg w K:=by
 have E:=Bs G;have O:=h.st.j8.j9 t G;have Q:=O.get (key:=key) h.st.wf h.st.Q0;refine qtS (f:=(eE M t).2.2.toNat) I.2 E.1 oJ I.1 h.tw V ?_ fun s w' u f=>?_;rw[Q];cases ki key (Fo t).1 with
 | none=>exact (by decide:(5:Int)≠-1)
 | some y=>exact (by decide:(0:Int)≠-1)
 have u:=u _ h.tw.xo;rw[Q] at u⊢;cases C:ki key (Fo t).1 with
 | none=>
  rw[C] at u;exact J s w' [] 5 (.inr ⟨C,rfl,rfl⟩) u (fun h=>nomatch h) (fun _ h=>nomatch h) f
 | some y=>
  rw[C] at u;unfold ki at C;obtain⟨z,R,rfl⟩:=yT.1 C;have U:=O.sort.2 z (mem_of_find?_eq_some R);exact J s w' _ 0 (.inl ⟨by unfold ki;rw[R];rfl,rfl⟩) u (fun _=>U.2.1) U.2.2.2 f
end
end
end
section
open Go Go.Pt List
open Go.IntKind (wrap)
open Classical
end
section
open Go Go.Pt List
open Go.IntKind (wrap)
open Classical
def CU (frm to:Key) (x:Key×Key):Bool:=decide (cmpL x.1 frm>=0)&&decide (cmpL x.1 to<=0)
def lY (frm to:Key) (L:gu):gu:=L.filter (CU frm to)
end
section
set_option linter.unusedSectionVars false
open Go Go.Pt List
open Go.IntKind (wrap)
section
variable {α:Type} {kf vf:α->Key} {L:gu} {l:List α} {a:α} {k v:Key}
def iu {κ:Type} [DecidableEq κ] (kf:α->κ) (a:α):List α->List α
 | []=>[a]
 | x::r=>if kf x=kf a then a::r else x::iu kf a r
def qsC{κ:Type}[DecidableEq κ]{kf:α->κ}:∀ {l:List α} {i:Nat} (h:i<l.length),kf l[i]=kf a->(∀(j:Nat) (C:j<i),kf (l[j]' oJ)≠kf a)->iu kf a l=l.set i a
 | x::r,0,h,e,_=>if_pos e
 | x::r,i+1,h,e,u=>by have E:kf x≠kf a:=u 0 oJ;rw[iu,if_neg E,set_cons_succ,qsC (i:=i) (oP h) e fun j C=>u (j+1) oJ]
def EV{κ:Type}[DecidableEq κ]{kf:α->κ}:∀ {l:List α},(∀x∈l,kf x≠kf a)->iu kf a l=l++[a]
 | [],_=>rfl
 | x::r,h=>by rw[iu,if_neg (h x oL),EV fun y u=>h y (zN _ u),xJ]
def A1{κ:Type}[DecidableEq κ]{kf:α->κ}{x:α}:∀ {l:List α},x∈iu kf a l->x=a\/x∈l
 | [],h=>.inl (zE.1 h)
 | y::r,h=>by unfold iu at h;split at h;exact (zG.1 h).imp id fun h=>zN _ h;rcases zG.1 h with h|h;exact .inr (by rw[h];exact mem_cons_self);exact (A1 h).imp id fun h=>zN _ h
def sM{κ:Type}[DecidableEq κ]{kf:α->κ}:∀ {l:List α},(iu kf a l).length<=l.length+1
 | []=>zM _
 | y::r=>by unfold iu;split;exact Nat.le_succ _;exact Nat.succ_le_succ sM
def qoJ{κ:Type}[DecidableEq κ]{kf:α->κ}{kg:α->Key}:∀ {l:List α},(∀x∈l,kf x=kf a↔kg x=kg a)->iu kf a l=iu kg a l
 | [],_=>rfl
 | y::r,h=>by have u:=h y mem_cons_self;have ih:=qoJ (l:=r) fun x C=>h x (zN _ C);unfold iu;by_cases e:kf y=kf a;rw[if_pos e,if_pos (u.1 e)];rw[if_neg e,if_neg fun E=>e (u.2 E),ih]
def qqh:∀ {L:gu},k∉dU L->(gj k v L).Perm ((k,v)::L)
 | [],_=>.refl _
 | x::r,h=>by have h:=not_mem_of_not_mem_cons h |> fun u=>And.intro (fun e:k=x.1=>h (by rw[e];simp)) u;unfold gj;split;exact .refl _;rw[if_neg h.1];exact (List.Perm.cons x (qqh h.2)).trans (List.Perm.swap _ _ _)
def qxg:∀ {l:List α} {a b:α},(l.map kf).Nodup->a∈l->b∈l->kf b=kf a->b=a
 | x::l,a,b,h,G,E,e=>by rw[xO,nodup_cons] at h;rcases zG.1 G with rfl|C;rcases zG.1 E with rfl|u;rfl;exact absurd (by rw[<- e];exact zZ u) h.1;rcases zG.1 E with rfl|u;exact absurd (by rw[e];exact zZ C) h.1;exact qxg h.2 C u e
structure k7 (kf vf:α->Key) (L:gu) (l:List α):Prop where
 sort:fH L
 nodup:(l.map kf).Nodup
 perm:L.Perm (l.map fun a=>(kf a,vf a))
def k7.len(h:k7 kf vf L l):L.length=l.length:=by rw[h.perm.length_eq,zK]
def k7.J3(h:k7 kf vf L l):k∈dU L↔∃x∈l,kf x=k:=by rw[(h.perm.map (·.1)).mem_iff,map_map];simp
def k7.nil:k7 kf vf [] []:=⟨.nil,.nil,.refl _⟩
def k7.put(h:k7 kf vf L l)(a:α):k7 kf vf (gj (kf a) (vf a) L) (iu kf a l):=by
 by_cases hin:∃x∈l,kf x=kf a;obtain⟨x,C,e⟩:=hin;obtain⟨P,Q,rfl⟩:=append_of_mem C;have u:=h.nodup;have I:(kf a,vf x)∈L:=h.perm.mem_iff.2 (mem_map.2 ⟨x,C,by rw[e]⟩);obtain⟨A,B,rfl⟩:=append_of_mem I;have J:=h.sort;unfold fH gg dU at J;rw[xN,xO,pairwise_append] at J;have U:∀y∈A,gf y.1 (kf a):=fun y E=>J.2.2 _ (zZ E) _ oL;rw[xN,xO,yM,nodup_cons] at u;have hP:iu kf a (P++x::Q)=P++a::Q:=by
  have G:∀y∈P,kf y≠kf a:=fun y E O=>u.2.2 _ (zZ E) _ oL (O.trans e.symm);clear C I h u J;induction P with
  | nil=>exact if_pos e
  | cons y P ih=>rw[xJ,iu,if_neg (G y oL),ih fun z R=>G z (zN _ R),xJ]
 rw[Hl U,hP];refine⟨by have:=Es (k:=kf a) (v:=vf a) h.sort;rw[Hl U] at this;exact this,?_,?_⟩;rw[xN,xO,yM,nodup_cons,<- e];exact u;have V:=h.perm;rw[xN,xO] at V;have h1:=(perm_middle.symm.trans V).trans perm_middle;rw[e] at h1;have h2:=List.Perm.cons_inv h1;rw[xN,xO];exact (perm_middle.trans ((h2.cons _))).trans perm_middle.symm;have hn:∀x∈l,kf x≠kf a:=fun x C e=>hin ⟨x,C,e⟩;have hk:kf a∉dU L:=fun I=>hin (h.J3.1 I);rw[EV hn];refine⟨Es h.sort,?_,?_⟩;rw[xN,yM];exact⟨h.nodup,oL,fun x C y E e=>by obtain⟨z,R,rfl⟩:=mem_map.1 C;rw[map_singleton,zE] at E;exact hn z R (e.trans E)⟩;refine (qqh hk).trans ((h.perm.cons _).trans ?_);rw[xN];exact (perm_append_singleton _ _).symm
def k7.cut(h:k7 kf vf L l)(k:Key):k7 kf vf (gR k L) (l.filter fun x=>decide (kf x≠k)):=by
 refine⟨qp1 h.sort,h.nodup.sublist (filter_sublist.map _),?_⟩
 have:=h.perm.filter fun x=>decide (x.1≠k)
 rw[filter_map] at this;exact this
def k7.get(h:k7 kf vf L l)(k:Key):ki k L=(l.find? fun x=>decide (kf x=k)).map vf:=by
 cases C:l.find? fun x=>decide (kf x=k) with
 | none=>
  rw[List.find?_eq_none] at C;exact Ck fun x R e=>by obtain⟨a,E,rfl⟩:=mem_map.1 (h.perm.mem_iff.1 R);exact C a E (oP e)
 | some a=>
  have E:=mem_of_find?_eq_some C;have O:kf a=k:=(by simpa using List.find?_some C);have U:(k,vf a)∈L:=h.perm.mem_iff.2 (mem_map.2 ⟨a,E,by rw[O]⟩);obtain⟨v,G⟩:=qqd (mem_map_of_mem U:k∈dU L);rw[G];unfold ki at G;obtain⟨z,Q,rfl⟩:=yT.1 G;have I:z.1=k:=(by simpa using List.find?_some Q);obtain⟨b,V,e⟩:=mem_map.1 (h.perm.mem_iff.1 (mem_of_find?_eq_some Q));have J:b=a:=
   qxg h.nodup E V (by rw[O,<- I,<- e])
  rw[<- e,J];rfl
end
structure pg (α κ:Type) where
 key:α->κ
 g:κ->Key
 val:α->Key
 ok:α->Prop
 ye:κ->Prop
 okk:∀ a,ok a->ye (key a)
 inj:∀ k k',ye k->ye k'->g k=g k'->k=k'
section
variable {α κ:Type} [DecidableEq κ] {K:pg α κ} {L:gu} {l:List α} {a:α} {k:κ}
def mf (K:pg α κ) (L:gu) (l:List α):Prop:=k7 (fun a=>K.g (K.key a)) K.val L l/\∀a∈l,K.ok a
def mf.nil:mf K [] []:=⟨.nil,fun _ h=>nomatch h⟩
def mf.len(h:mf K L l):L.length=l.length:=h.1.len
def mf.iff(h:mf K L l)(u:K.ye k)(C:a∈l):K.key a=k↔K.g (K.key a)=K.g k:=⟨fun e=>by rw[e],K.inj _ _ (K.okk a (h.2 a C)) u⟩
def mf.put(h:mf K L l)(C:K.ok a):mf K (gj (K.g (K.key a)) (K.val a) L) (iu K.key a l):=
 ⟨by rw[qoJ (kg:=fun a=>K.g (K.key a)) fun x u=>h.iff (K.okk a C) u];exact h.1.put a,fun x u=>(A1 u).elim (fun e=>by rw[e];exact C) (h.2 x)⟩
def mf.cut(h:mf K L l)(C:K.ye k):mf K (gR (K.g k) L) (l.filter fun x=>decide (K.key x≠k)):=
 ⟨by rw[filter_congr (q:=fun x=>decide (K.g (K.key x)≠K.g k)) fun x u=>by rw[decide_eq_decide,ne_eq,ne_eq,h.iff C u]];exact h.1.cut _,fun x u=>h.2 x (mem_filter.1 u).1⟩
def mf.find(h:mf K L l)(E:K.ye k):ki (K.g k) L=(l.find? fun x=>decide (K.key x=k)).map K.val:=by
 rw[h.1.get];congr 1;have:∀u:List α,(∀x∈u,x∈l)->(u.find? fun x=>decide (K.g (K.key x)=K.g k))=u.find? fun x=>decide (K.key x=k):=by
  intro u;induction u with
  | nil=>intro _;rfl
  | cons x r ih=>
   intro C;rw[List.find?_cons,List.find?_cons,ih fun y G=>C y (zN _ G),show decide (K.g (K.key x)=K.g k)=decide (K.key x=k) from decide_eq_decide.2 (h.iff E (C x mem_cons_self)).symm]
 exact this l fun _ h=>h
def mf.mem(h:mf K L l)(C:∃x∈l,K.key x=k):K.g k∈dU L:=h.1.J3.2 (C.elim fun x u=>⟨x,u.1,by rw[u.2]⟩)
def mf.ok(h:mf K L l){x:α}(u:(l.find? fun x=>decide (K.key x=k))=some x):K.ok x/\K.key x=k:=⟨h.2 x (mem_of_find?_eq_some u),by simpa using List.find?_some u⟩
end
end
section
open Go Go.Pt List
open Go.IntKind (wrap)
abbrev Mv:=gp×Int×gp
abbrev Ln:=gp×HL nd
def py (m:Mv):gp×Int:=(m.1,m.2.1)
def sK (x:Ln):gp×Int:=(x.1,nX (ma x.2))
def lV (d:HL ib):Int×Int:=(d.1,d.2.1)
def mP (d:HL ib):gp:=(d.2.2.1,d.2.2.2)
def qJ (k:Kp):gp:=gq k.1
def ls.inj{a b:gp}(u:ls a)(C:ls b)(h:iA a=iA b):a=b:=FL u.ok C.ok h
abbrev vF (p:gp×Int):Prop:=ls p.1/\IntKind.u64.has p.2
def vF.inj{a b:gp×Int}(u:vF a)(C:vF b)(h:lG a.1 a.2=lG b.1 b.2):a=b:=by obtain⟨E,G⟩:=qxk u.1.ok C.1.ok (pj u.2) (pj C.2) h;exact Prod.ext E G
def T64.inj{a b:Int×Int}(u:ls a)(C:ls b)(h:lr a.1 a.2=lr b.1 b.2):a=b:=FL u.ok C.ok h
def Db:pg (HL fq) gp:=⟨gE,iA,qA,ee fq,ls,fun a h=>⟨h.1,h.2.1⟩,fun _ _=>ls.inj⟩
def C3:pg Kp gp:=⟨qJ,iA,uv,rq,ls,fun a h=>⟨h.1.1,h.1.2.1⟩,fun _ _=>ls.inj⟩
def CZ:pg (gp×Int) gp:=⟨fun x=>x.1,iA,fun x=>[x.2],fun x=>ls x.1/\IntKind.u8.has x.2,ls,fun a h=>h.1,fun _ _=>ls.inj⟩
def uW:pg (HL ib) (Int×Int):=⟨lV,fun p=>lr p.1 p.2,fun d=>iA (mP d),ee ib,ls,fun a h=>⟨h.1,h.2.1⟩,fun _ _=>T64.inj⟩
def C7:pg Mv (gp×Int):=⟨py,fun p=>lG p.1 p.2,fun m=>iA m.2.2,fun m=>vF (py m)/\ls m.2.2,vF,fun a h=>h.1,fun _ _=>vF.inj⟩
def BK:pg Ln (gp×Int):=⟨sK,fun p=>lG p.1 p.2,fun x=>uf x.2,fun x=>ls x.1/\ee nd x.2,vF,fun a h=>⟨h.1,h.2.2.2.2.2.2.2.2.2.1⟩,fun _ _=>vF.inj⟩
structure Bk where
 acc:List (HL fq)
 jR:List Kp
 jU:List (gp×Int)
 due:List (HL ib)
 mA:List Mv
 mI:List Mv
 kM:List Ln
 last:Option Int
 gn:Nat
def Ca (o:Option Int):gu:=o.toList.map fun n=>([1],bw 8 n)
structure Hb (T:Nat->gu) (b:Bk):Prop where
 acc:mf Db (T 0) b.acc
 jR:mf C3 (T 1) b.jR
 jU:mf CZ (T 2) b.jU
 due:mf uW (T 3) b.due
 mA:mf C7 (T 4) b.mA
 mI:mf C7 (T 5) b.mI
 kM:mf BK (T 6) b.kM
 sH:T 7=Ca b.last
def Bk.size (b:Bk):Nat:=b.acc.length+b.jR.length+b.jU.length+b.due.length+b.mA.length+b.mI.length+b.kM.length+b.last.toList.length
def Bk.dQ (b:Bk) (a:HL fq):Bk:={ b with acc:=iu gE a b.acc }
def Bk.l9 (b:Bk) (k:Kp):Bk:={ b with jR:=iu qJ k b.jR }
def Bk.nO (b:Bk) (m:Mv):Bk:={ b with mA:=iu py m b.mA }
def Bk.qe (b:Bk) (m:Mv):Bk:={ b with mI:=iu py m b.mI }
def Bk.fK (b:Bk) (x:gp×Int):Bk:={ b with jU:=iu (fun x=>x.1) x b.jU }
def Bk.nI (b:Bk) (x:Ln):Bk:={ b with kM:=iu sK x b.kM }
def mG (a b:HL ib):Bool:=decide (a.1<b.1\/a.1=b.1/\a.2.1<b.2.1)
def ke (d:HL ib):List (HL ib)->List (HL ib)
 | []=>[d]
 | x::r=>if mG d x then d::x::r else x::ke d r
def ik (d:HL ib) (l:List (HL ib)):List (HL ib):=l.filter fun x=>decide (lV x≠lV d)
def Bk.jB (b:Bk) (d:HL ib):Bk:={ b with due:=ik d b.due }
def Bk.jA (b:Bk) (d:HL ib):Bk:={ b with due:=ke d (ik d b.due) }
def eG (b:Bk) (i:gp):Option (HL fq):=b.acc.find? fun x=>decide (gE x=i)
def hU (b:Bk) (i:gp):Option Kp:=b.jR.find? fun x=>decide (qJ x=i)
def ln (b:Bk) (i:gp):Int:=((b.jU.find? fun x=>decide (x.1=i)).map (·.2)).getD 0
def wT (t:HL ig):Mv:=((t.2.2.1,t.2.2.2.1),t.2.2.2.2.2.2.2.2.2.2.2.2.2.2.2,gq t)
def AO (t:HL ig):Mv:=((t.2.2.2.2.1,t.2.2.2.2.2.1),t.2.2.2.2.2.2.2.2.2.2.2.2.2.2.2,gq t)
def Bk.gi (b:Bk) (k:Kp):Bk:=((b.l9 k).nO (wT k.1)).qe (AO k.1)
def C1{d:HL ib}:∀ {l:List (HL ib)},(ke d l).Perm (d::l)
 | []=>.refl _
 | x::r=>by unfold ke;split;exact .refl _;exact (C1.cons x).trans (.swap _ _ _)
def mf.perm{α κ:Type}{K:pg α κ}{L:gu}{l l':List α}(h:mf K L l)(p:l.Perm l'):mf K L l':=
 ⟨⟨h.1.sort,(p.map _).nodup_iff.1 h.1.nodup,h.1.perm.trans (p.map _)⟩,fun x u=>h.2 x (p.mem_iff.2 u)⟩
def qqG{α κ:Type}[DecidableEq κ]{kf:α->κ}{a:α}:∀ {l:List α},(l.map kf).Nodup->(iu kf a l).Perm (a::l.filter fun x=>decide (kf x≠kf a))
 | [],_=>.refl _
 | x::r,h=>by rw[xO,nodup_cons] at h;unfold iu;by_cases e:kf x=kf a;rw[if_pos e,filter_cons,if_neg (by simp[e]),filter_eq_self.2 fun y u=>by have:kf y≠kf a:=fun C=>h.1 (by rw[e,<- C];exact zZ u);simpa using this];rw[if_neg e,filter_cons,if_pos (oP e)];exact ((qqG h.2).cons x).trans (.swap _ _ _)
def mf.nodup{α κ:Type}{K:pg α κ}{L:gu}{l:List α}(h:mf K L l):(l.map K.key).Nodup:=by
 have:=h.1.nodup
 rw[show (fun a=>K.g (K.key a))=K.g∘K.key from rfl,<- map_map] at this;exact this.of_map _ fun a b h e=>h (by rw[e])
def nR (T:Nat->gu) (t:Nat) (L:gu):Nat->gu:=fun u=>if u=t then L else T u
section
variable {T:Nat->gu} {b:Bk}
def Hb.dQ(h:Hb T b){a:HL fq}(u:ee fq a):Hb (nR T 0 (gj (iA (gE a)) (qA a) (T 0))) (b.dQ a):=⟨h.acc.put u,h.jR,h.jU,h.due,h.mA,h.mI,h.kM,h.sH⟩
def Hb.l9(h:Hb T b){a:Kp}(u:rq a):Hb (nR T 1 (gj (iA (qJ a)) (uv a) (T 1))) (b.l9 a):=⟨h.acc,h.jR.put u,h.jU,h.due,h.mA,h.mI,h.kM,h.sH⟩
def Hb.fK(h:Hb T b){a:gp×Int}(u:ls a.1/\IntKind.u8.has a.2):Hb (nR T 2 (gj (iA a.1) [a.2] (T 2))) (b.fK a):=⟨h.acc,h.jR,h.jU.put u,h.due,h.mA,h.mI,h.kM,h.sH⟩
def Hb.nO(h:Hb T b){a:Mv}(u:vF (py a)/\ls a.2.2):Hb (nR T 4 (gj (lG a.1 a.2.1) (iA a.2.2) (T 4))) (b.nO a):=⟨h.acc,h.jR,h.jU,h.due,h.mA.put u,h.mI,h.kM,h.sH⟩
def Hb.qe(h:Hb T b){a:Mv}(u:vF (py a)/\ls a.2.2):Hb (nR T 5 (gj (lG a.1 a.2.1) (iA a.2.2) (T 5))) (b.qe a):=⟨h.acc,h.jR,h.jU,h.due,h.mA,h.mI.put u,h.kM,h.sH⟩
def Hb.nI(h:Hb T b){a:Ln}(u:ls a.1/\ee nd a.2):Hb (nR T 6 (gj (lG a.1 (nX (ma a.2))) (uf a.2) (T 6))) (b.nI a):=⟨h.acc,h.jR,h.jU,h.due,h.mA,h.mI,mf.put (K:=BK) (a:=a) h.kM u,h.sH⟩
def Hb.jB(h:Hb T b){d:HL ib}(u:ee ib d):Hb (nR T 3 (gR (lr d.1 d.2.1) (T 3))) (b.jB d):=⟨h.acc,h.jR,h.jU,mf.cut (K:=uW) (k:=lV d) h.due ⟨u.1,u.2.1⟩,h.mA,h.mI,h.kM,h.sH⟩
def Hb.jA(h:Hb T b){d:HL ib}(u:ee ib d):Hb (nR T 3 (gj (lr d.1 d.2.1) (iA (mP d)) (T 3))) (b.jA d):=⟨h.acc,h.jR,h.jU,(mf.put (K:=uW) (a:=d) h.due u).perm ((qqG h.due.nodup).trans C1.symm),h.mA,h.mI,h.kM,h.sH⟩
def Hb.size(h:Hb T b):(T 0).length+(T 1).length+(T 2).length+(T 3).length+(T 4).length+(T 5).length+(T 6).length+(T 7).length=b.size:=by rw[h.acc.len,h.jR.len,h.jU.len,h.due.len,h.mA.len,h.mI.len,h.kM.len,h.sH,Ca,zK];rfl
def qAK:Hb (fun _=>[]) ⟨[],[],[],[],[],[],[],none,0⟩:=⟨.nil,.nil,.nil,.nil,.nil,.nil,.nil,rfl⟩
end
end
section
open Go Go.Pt List
open Go.IntKind (wrap)
open Classical
variable {K:Int->WP} {L:List (Nat×Obj)} {T:List Nat} {a:HL fq} {j:Nat} {l x z:List Int} {n:Int} {t:HL ig} {w wa:World}
structure pc (F:List Nat) (w:World) (F':List Nat) (w':World):Prop where
 fr:Fr F w w'
 new:∀ x∈F',x∈F\/w.heap.size<=x
section
variable {F F' F2:List Nat} {w w' w2:World}
def pc.refl(F:List Nat)(w:World):pc F w F w:=⟨.refl _ _,fun _ h=>.inl h⟩
def pc.trans(h:pc F w F' w')(k:pc F' w' F2 w2):pc F w F2 w2:=⟨h.fr.j6 k.fr h.new,fun x u=>(k.new x u).elim (h.new x) fun C=>.inr (zL h.fr.size C)⟩
def pc.pre(f:Fr [] w w')(k:pc F w' F' w2):pc F w F' w2:=⟨(f.mono fun _ h _=>nomatch h).trans k.fr,fun x u=>(k.new x u).imp id fun h=>zL f.size h⟩
end
def sX (w:World) (Y:List Nat) (sb pb:Nat) (F:List Nat) (c:Nat) (b:Bk):Prop:=∃dbk FD D M Fo,rI w Y sb dbk pb FD F D M c Fo/\Hb (fun t=>(Fo t).1) b/\c<=100000
def SB (w:World) (Y:List Nat) (sb:Nat) (F:List Nat) (c:Nat) (b:Bk):Prop:=∃pb,sX w Y sb pb F c b
section
variable {w w' w1:World} {Y Y' F F':List Nat} {sb c:Nat} {b b':Bk}
def SB.q7(h:SB w Y sb F c b)(f:Fr [] w w'):SB w' Y sb F c b:=by obtain⟨pb,dbk,FD,D,M,Fo,u,C,E⟩:=h;exact⟨pb,dbk,FD,D,M,Fo,u.q7 f,C,E⟩
def SB.x8(h:SB w Y sb F c b)(C:∀b∈Y',b∈Y):SB w Y' sb F c b:=by obtain⟨pb,dbk,FD,D,M,Fo,u,E,G⟩:=h;exact⟨pb,dbk,FD,D,M,Fo,⟨u.tw.x8 C,u.st,u.cell,u.out⟩,E,G⟩
def SB.yf(h:SB w Y sb F c b):∀b∈Y,b∉F:=by obtain⟨pb,dbk,FD,D,M,Fo,u,C,E⟩:=h;exact u.tw.yf
def SB.j8(h:SB wa Y sb F c b)(o:dR [] wa w L):SB w (fN L++Y) sb F c b:=by obtain⟨pb,dbk,FD,D,M,Fo,u,C,E⟩:=h;exact⟨pb,dbk,FD,D,M,Fo,⟨u.tw.cD o,u.st,o.pU u.cell (fun h=>nomatch h),u.out⟩,C,E⟩
def SB.HN{L':List (Nat×Obj)}(h:SB wa (fN L++Y) sb F c b)(C:sb∉fN L)(o:dR (fN L) wa w L'):SB w (fN L'++Y) sb F c b:=by obtain⟨pb,dbk,FD,D,M,Fo,u,E,G⟩:=h;exact⟨pb,dbk,FD,D,M,Fo,⟨u.tw.j8 o,u.st,o.pU u.cell C,u.out⟩,E,G⟩
def SB.own(h:SB w (fN L++Y) sb F c b)(o:dR T wa w L)(s:pc F w F' w'):dR (fN L) w' w' L:=rU o s.fr fun b u=>h.yf b (zH _ u)
def SB.lt(h:SB w Y sb F c b):sb<w.heap.size:=by obtain⟨pb,dbk,FD,D,M,Fo,u,C,E⟩:=h;exact fJ u.cell
def sX.uN{pb:Nat}{K:Addr->Option Addr->Prop}(h:sX w1 Y sb pb F c b)(f:Fr [] w1 w)(u:K (dc sb) (pW pb)):nn (pW sb) fun a=>ld .ptr a w (K a):=by
 obtain⟨dbk,FD,D,M,Fo,C,E,G⟩:=h
 have:=(C.q7 f).cell
 exact gI (jM this (pW pb) rfl u)
def sX.held{pb:Nat}(h:sX w1 Y sb pb F c b)(f:Fr [] w1 w):w.cell? (dc sb)=some (dH pb):=by obtain⟨dbk,FD,D,M,Fo,u,C,E⟩:=h;rw[kj (u.q7 f).cell];rfl
def sX.put{t pb:Nat}{g v:Key}{ks vs:Sl}{K:Int->WP}(h:sX w1 Y sb pb F c b)(f:Fr [] w1 w)(hr:3*b.size+1<=c)(O:t<8)(Q:g.length=(kv t).1/\eS g)(R:v.length=(kv t).2/\eS v)(U:lO w1 w ks g)(V:lO w1 w vs v)(C:∀T,Hb T b->Hb (nR T t (gj g v (T t))) b')(kk:∀F' w',sX w' Y sb pb F' c b'->pc F w1 F' w'->K 0 w'):cW 66 [dH pb,.i t,ks.v,vs.v] de w K:=by
 obtain⟨dbk,FD,D,M,Fo,E,I,J⟩:=h;have h1:=E.q7 f;refine h1.put O (by have:=I.size;unfold mM;omega) J Q R (U.to E.tw.xo) (V.to E.tw.xo) fun F' w' M' P' G f2 n=>kk F' w' ⟨dbk,FD,D,M',_,G,?_,J⟩ (.pre f ⟨f2,n⟩);have e:(fun u=>(pY Fo t (gj g v (Fo t).1,P') u).1)=nR (fun u=>(Fo u).1) t (gj g v (Fo t).1):=by funext u;unfold pY nR;split<;>rfl
 rw[e];exact C _ I
def sX.get{t pb:Nat}{g:Key}{ks:Sl}{α κ:Type}[DecidableEq κ]{T:pg α κ}{l:List α}{k:κ}{K:Sl×Int->WP}(h:sX w1 Y sb pb F c b)(J:Fr [] w1 w)(O:t<8)(Q:g.length=(kv t).1/\eS g)(R:lO w1 w ks g)(U:∀P,Hb P b->mf T (P t) l)(V:g=T.g k)(G:T.ye k)(k0:∀s w',(l.find? fun x=>decide (T.key x=k))=none->Fr [] w w'->K (s,5) w')(k1:∀s w' x,(l.find? fun x=>decide (T.key x=k))=some x->T.ok x->T.key x=k->eF [] w' s (T.val x)->Fr [] w w'->K (s,0) w'): cW 42 [dH pb,.i t,ks.v] dg w K:=by
 obtain⟨dbk,FD,D,M,Fo,I,hb,hc⟩:=h;subst V;have h1:=I.q7 J;refine h1.get O Q (R.to I.tw.xo) fun s w' z e E hz _ _ f=>?_;have q:=U _ hb;have u:=q.find G;rcases E with ⟨E,rfl⟩|⟨E,rfl,rfl⟩;rw[E] at u;cases C:l.find? fun x=>decide (T.key x=k) with
 | none=>rw[C] at u;cases u
 | some x=>
  rw[C] at u;cases u
  have:=q.ok C
  exact k1 s w' x C this.1 this.2 (hz.j4 fun _ h=>nomatch h) f
 rw[E] at u;cases C:l.find? fun x=>decide (T.key x=k) with
 | none=>exact k0 s w' C f
 | some x=>rw[C] at u;cases u
def SB.put{t:Nat}{g v:Key}{ks vs:Sl}{K:Int->WP}(h:SB w1 Y sb F c b)(f:Fr [] w1 w)(C:3*b.size+1<=c)(E:t<8)(G:g.length=(kv t).1/\eS g)(I:v.length=(kv t).2/\eS v)(J:lO w1 w ks g)(O:lO w1 w vs v)(u:∀T,Hb T b->Hb (nR T t (gj g v (T t))) b')(Q:∀F' w',SB w' Y sb F' c b'->pc F w1 F' w'->K 0 w'):nn (pW sb) fun a=>ld .ptr a w fun p=>cW 66 [.pointer p,.i t,ks.v,vs.v] de w K:=
 h.elim fun pb h=>h.uN f (h.put f C E G I J O u fun F' w' h=>Q F' w' ⟨pb,h⟩)
def SB.get{t:Nat}{g:Key}{ks:Sl}{α κ:Type}[DecidableEq κ]{T:pg α κ}{l:List α}{k:κ}{K:Sl×Int->WP}(h:SB w1 Y sb F c b)(C:Fr [] w1 w)(E:t<8)(G:g.length=(kv t).1/\eS g)(I:lO w1 w ks g)(J:∀P,Hb P b->mf T (P t) l)(O:g=T.g k)(u:T.ye k)(Q:∀s w',(l.find? fun x=>decide (T.key x=k))=none->Fr [] w w'->K (s,5) w')(R:∀s w' x,(l.find? fun x=>decide (T.key x=k))=some x->T.ok x->T.key x=k->eF [] w' s (T.val x)->Fr [] w w'->K (s,0) w'): nn (pW sb) fun a=>ld .ptr a w fun p=>cW 42 [.pointer p,.i t,ks.v] dg w K:=
 h.elim fun pb h=>h.uN C (h.get C E G I J O u Q R)
end
section
def kN:HL fq:=(0,0,0,0,0,0,0,0,0,0,0,0,0,0,0)
def qG{a b:List Int}(h:eS a)(u:eS b):eS (a++b):=fun x C=>(zD.1 C).elim (h x) (u x)
def qyg(a:HL fq):eS (qA a):=qG (oQ _) (qG (oQ _) (qG (oQ _) (qG (oQ _) (qG (qE _ _) (qG (qE _ _) (qG (qE _ _) (qG (qE _ _) (qE _ _))))))))
def qzi(a:HL ig):eS (qm a):=qG (oQ _) (qG (oQ _) (qG (oQ _) (qG (oQ _) (qG (qE _ _) (qG (qE _ _) (qG (qE _ _) (qG (qE _ _) (qG (qE _ _) (qE _ _)))))))))
def qAa(k:Kp):eS (uv k):=qG (qzi _) (oQ _)
def qza{r:HL nd}(h:ee nd r):eS (uf r):=fun x u=>by rcases zG.1 u with rfl|u;exact qzv h.2.2.2.2.2.2.2.2.2;exact (qG (oQ _) (qG (oQ _) (qG (oQ _) (oQ _)))) x u
section
variable {w w' w1:World} {Y F:List Nat} {sb c:Nat} {b b':Bk}
def SB.cut{t:Nat}{g:Key}{ks:Sl}{K:Int->WP}(h:SB w1 Y sb F c b)(f:Fr [] w1 w)(hr:3*b.size+1<=c)(R:t<8)(U:lO w1 w ks g)(C:∀T,Hb T b->g∈dU (T t))(E:∀T,Hb T b->Hb (nR T t (gR g (T t))) b')(V:∀F' w',SB w' Y sb F' c b'->pc F w1 F' w'->K 0 w'):nn (pW sb) fun a=>ld .ptr a w fun p=>cW 111 [.pointer p,.i t,ks.v] de w K:=by
 obtain⟨pb,dbk,FD,D,M,Fo,J,G,O⟩:=h;have Q:=J.q7 f;refine Q.uN (Q.cut R (by have:=G.size;unfold mM;omega) O (C _ G) (U.to J.tw.xo) fun F' w' M' P' I f2 n=>V F' w' ⟨pb,dbk,FD,D,M',_,I,?_,O⟩ (.pre f ⟨f2,n⟩));have e:(fun u=>(pY Fo t (gR g (Fo t).1,P') u).1)=nR (fun u=>(Fo u).1) t (gR g (Fo t).1):=by funext u;unfold pY nR;split<;>rfl
 rw[e];exact E _ G
def D0{i0 i1:Int}{K:HL fq×Bool->WP}(h:SB w Y sb F c b)(hi:ls (i0,i1))(kk:∀w',Fr [] w w'->K ((eG b (i0,i1)).getD kN,(eG b (i0,i1)).isSome) w'): cW 11 [dH sb,c8 i0 i1] [.agg fq,.one .bool] w K:=by
 refine qhJ<|oB (oE [] w) fun r1 w1 _ f1 o=>oB o fun r3 w2 _ f2 o=>oC o 1 rfl (i0,i1) rfl (wE fun r4 R U V=>?_);have C:∀(x:HL fq) (O:Bool) (I:World),Fr [] R I->(x=(eG b (i0,i1)).getD kN/\O=(eG b (i0,i1)).isSome)->Pt.st (dc r3) (HL.mk mn x) I fun u=>dK mn (dc r3) u fun t=>K (t,O) u:=fun x O I E e=>by rw[e.1,e.2];exact oG (o.q7 (V.trans E)) 0 rfl _ (iI rfl) rfl (zM _) fun u o _=>oC o 0 rfl _ rfl (kk u o.fr)
 refine qoV<|oB (oE [] R) fun r5 I _ E o2=>SB.get (T:=Db) (k:=(i0,i1)) (l:=b.acc) (t:=0) h (o.fr.trans (V.trans E)) oM ⟨lW _,oQ _⟩ ((U.q7 E).up o.fr.size) (fun P q=>q.acc) rfl hi (fun s u hn J=>?_) fun s u x hx Q he hv J=>?_;refine cond_true rfl (oB (o2.q7 J) fun r6 w6 _ f6 o3=>oC o3 0 rfl kN rfl (o3.st' 1 rfl _ (iI rfl) rfl (zM _) fun w7 G f7=>oC G 1 rfl kN rfl ?_));exact C _ _ w7 G.fr ⟨by rw[show eG b (i0,i1)=none from hn];rfl,by rw[show eG b (i0,i1)=none from hn];rfl⟩;refine cond_false rfl (qz (lb:=[]) rfl oK (quY ((U.rd.q7 E).q7 J |> fun q=>by rw[<- he] at q;exact q) hv Q fun w6 f6=>?_));exact oG ((o2.q7 J).q7 f6) 0 rfl _ (iI rfl) rfl (zM _) fun w7 G f7=>oC G 0 rfl x rfl<|C _ _ w7 G.fr ⟨by rw[show eG b (i0,i1)=some x from hx];rfl,by rw[show eG b (i0,i1)=some x from hx];rfl⟩
end
end
def qBf{x y b:Nat}{K:Int×Int->WP}(C:b<=1)(u:K ((((x+18446744073709551616-y-b)%18446744073709551616:Nat):Int),((if x<y+b then 1 else 0:Nat):Int)) w): ext Tryz.prog 190 [.int .u64 x,.int .u64 y,.int .u64 b] dB w K:=by
 refine CM (e:=fun h=>do
  let (x,y,b) <- Extern.MathBitsCarry.three "Sub64" h;pure (Extern.MathBitsCarry.pair ((x+Extern.MathBitsCarry.m64-y-b)%Extern.MathBitsCarry.m64) (if x<y+b then 1 else 0))) Tryz.func190 (by kernel_rfl) (by kernel_rfl) (by kernel_rfl) (by kernel_rfl) _ w ?_ u
 have:b=0\/b=1:=(by omega);rcases this with rfl|rfl<;>rfl
def qxP{x y b:Int}{K:Int×Int->WP}(u:mu x)(C:mu y)(G:b=0\/b=1)(E:K ((x-y-b)%18446744073709551616,if x<y+b then 1 else 0) w): ext Tryz.prog 190 [.int .u64 x,.int .u64 y,.int .u64 b] dB w K:=by obtain⟨x,rfl⟩:=Int.eq_ofNat_of_zero_le u.1;obtain⟨y,rfl⟩:=Int.eq_ofNat_of_zero_le C.1;obtain⟨b,rfl⟩:=Int.eq_ofNat_of_zero_le (show 0<=b by omega);refine qBf oJ ?_;rw[show (((x+18446744073709551616-y-b)%18446744073709551616:Nat):Int)=((x:Int)-y-b)%18446744073709551616 by omega,show ((if x<y+b then 1 else 0:Nat):Int)=if (x:Int)<y+b then 1 else 0 by by_cases h:x<y+b;rw[if_pos h,iP];rfl;rw[if_neg h,iN];rfl];exact E
def qtX{a0 a1 u h:Int}{y:gp}{K:gp×Bool->WP}(Q:my (a0,a1))(R:my (u,h))(C:pO (a0,a1) (u,h)=some y)(U:∀w',Fr [] w w'->K (y,true) w'): cW 157 [c8 a0 a1,c8 u h] [.agg da,.one .bool] w K:=by
 refine qtR ?_;obtain⟨E,G⟩:=Q;obtain⟨I,J⟩:=R;dsimp only at E G I J;unfold pO wv rV at C;dsimp only at C;split at C
 ·next hle=>
  cases C;refine oB (oE [] w) fun r1 w1 _ f1 o=>oB o fun r3 w2 _ f2 o=>oB o fun r5 w3 _ f3 o=>oA o 2 rfl a1 rfl (oA o 1 rfl h rfl (qxP G J (.inl rfl) ?_));refine oA o 2 rfl a0 rfl (oA o 1 rfl u rfl (qxP E I (by dsimp only;split<;>simp) ?_));dsimp only;have V:(if a1<h+0 then (1:Int) else 0)=if a1<h then 1 else 0:=by rw[Int.add_zero]
  rw[V];have O:¬a0<u+(if a1<h then (1:Int) else 0):=(by split<;>omega);rw[if_neg O];refine cond_false rfl (o.st' 0 rfl _ (iI rfl) rfl (zM _) fun w4 o _=>oC o 0 rfl (_,_) rfl ?_);have e:((a0-u-if a1<h then (1:Int) else 0)%18446744073709551616,(a1-h-0)%18446744073709551616)=((a0*18446744073709551616+a1-(u*18446744073709551616+h)) / 18446744073709551616,(a0*18446744073709551616+a1-(u*18446744073709551616+h))%18446744073709551616):=by refine Prod.ext ?_ ?_;dsimp only;split<;>omega;dsimp only;omega
  have:=U w4 o.fr
  rwa[<- e] at this
 cases C
abbrev Pa:=HL fq×HL fq×Bool×Bool
variable {p:Pa}
def kz (p:Pa):List Value:=HL.mk fq p.1++HL.mk fq p.2.1++[.bool p.2.2.1,.bool p.2.2.2]
def qX(p:Pa):(kz p).length=32:=rfl
def pX:Pa:=(kN,kN,false,false)
abbrev qh:TypeId:=74
def xe:((Tryz.prog.info? qh).bind (·.zero)).map (fun z=>z.cells.toList)=some (kz pX):=by kernel_rfl
def fG (a:HL fq):gp:=(a.2.2.1,a.2.2.2.1)
def fM (a:HL fq):gp:=(a.2.2.2.2.2.2.1,a.2.2.2.2.2.2.2.1)
def i6 (a:HL fq):Int:=a.2.2.2.2.2.2.2.2.2.2.2.2.2.1
def kJ (x:gp):HL fq->HL fq:=fun (h,u,C,E,r)=>(h,u,x.1,x.2,r)
def kR (x:gp):HL fq->HL fq:=fun (h,u,C,E,G,I,J,O,r)=>(h,u,C,E,G,I,x.1,x.2,r)
def jZ (x:Int):HL fq->HL fq:=fun (h,u,C,E,G,I,J,O,Q,R,t,l,k,f,n)=>(h,u,C,E,G,I,J,O,Q,R,t,l,k,x,n)
def fB (t:HL ig):gp:=(t.2.2.2.2.2.2.1,t.2.2.2.2.2.2.2.1)
def jG (t:HL ig):Int:=t.2.2.2.2.2.2.2.2.2.2.2.2.2.2.1
def gy (t:HL ig) (p:Pa):Option Pa:=
 (pO (fG p.1) (fB t)).bind fun x=>(pO (fM p.2.1) (fB t)).map fun y=>
  (let d:=kJ x p.1;if hasB (jG t) 64 then jZ (mJ (i6 d) 16) d else d,let c:=kR y p.2.1;if hasB (jG t) 128 then jZ (mJ (i6 c) 16) c else c,p.2.2)
def quv{b o k:Nat}{cs:Array Value}{T:TypeId}{C:Value}{x y a:gp}{K:Bool->WP}(U:w.heap[b]?=some (.cells cs T (0,0)))(E:∀(w1:World) (K:Option Addr->WP),(∀w2,Fr [] w1 w2->K (some ⟨b,o+k,none⟩) w2)->dW Tryz.prog C [.agg #[.pointer (some (dc b o))]] dr w1 K)(G:(cs.toList.drop (o+k)).take 2=jN x)(I:my x)(Q:my a)(R:pO x a=some y)(V:∀w',w'.heap[b]?=some (.cells (dT cs (o+k) (jN y)) T (0,0))->Fr [b] w w'->K true w'): cW 107 [C,.pointer (some (dc b o)),c8 a.1 a.2] df w K:=by
 refine qnL ?_;have J:o+k+2<=cs.size:=by
  have:=congrArg List.length G
  rw[yL,yC,vM,Array.length_toList] at this;omega
 have O:∀ {w1 w2:World} {r:Nat} {t:gp},dR [b] w w2 [(r,.cells #[.int .u64 t.1,.int .u64 t.2] oe (0,0)),(b,.cells cs T (0,0))]->D9 K r (y,true) w2 (some ⟨b,o+k,none⟩):=fun {w1 w2 r t} h=>by unfold D9;refine h.st' 0 rfl _ (iI rfl) rfl (zM _) fun w3 h _=>iQ (fun _ w'=>w'.heap[b]?=some (.cells (dT cs (o+k) (jN y)) T (0,0))/\Fr [b] w w') ?_ fun _ u h=>V u h.1 h.2;refine cond_true rfl (oC h 0 rfl y rfl (gI (h.st' 1 rfl _ rfl rfl J fun u h _=>⟨h.at (i:=1) rfl,h.fr⟩)))
 refine oB (DX U) fun r1 w1 _ f1 h=>E w1 _ fun w2 f2=>?_;have h:=(h.q7 f2).drew;refine⟨gI (oC h 1 rfl x G (oC h 0 rfl a rfl (qtX I Q R fun w3 f3=>?_))),gI (oC h 1 rfl x G (oC h 0 rfl a rfl ?_))⟩;refine oB (h.q7 f3) fun r4 u _ f4 h=>ka (h.cells 1 rfl rfl) (h.cells 2 rfl G) (O (w1:=u) (t:=(0,0)) ?_);exact h.sub (.cons_cons _ (.cons _ (.refl _)));refine oB h fun r4 u _ f4 h=>ka (h.cells 1 rfl rfl) (h.cells 2 rfl G) (qtX I Q R fun w5 f5=>O (w1:=u) (t:=(0,0)) ?_);exact (h.q7 f5).sub (.cons_cons _ (.cons _ (.refl _)))
def qBA{b:Nat}(w1:World)(K:Option Addr->WP)(h:∀w2,Fr [] w1 w2->K (some (dc b 2)) w2):dW Tryz.prog (.func (.func 158) #[] #[]) [.agg #[dH b]] dr w1 K:=by refine qz (lb:=[]) rfl oK (qeg ?_);exact oB (oE [] w1) fun r w2 _ u o=>oA o 0 rfl (pW b) rfl (gI (h w2 u))
def qBz{b:Nat}(w1:World)(K:Option Addr->WP)(h:∀w2,Fr [] w1 w2->K (some (dc b 21)) w2):dW Tryz.prog (.func (.func 161) #[] #[]) [.agg #[.pointer (some (dc b 15))]] dr w1 K:=by refine qz (lb:=[]) rfl oK (qdK ?_);exact oB (oE [] w1) fun r w2 _ u o=>oA o 0 rfl (some (dc b 15)) rfl (gI (h w2 u))
def qwA{K:Value×Value×Value->WP}(h:∀x y w',Fr [] w w'->K (.func (.func 158) #[] #[],x,y) w'):cW 108 [] [.agg [.any,.any,.any]] w K:=by refine qlT ?_;unfold qgE;exact oB (oE [] w) fun r w1 _ u o=>o.st' 0 rfl _ (iI rfl) rfl (zM _) fun w2 o _=>oC o 0 rfl (_,_,_) rfl (h _ _ w2 o.fr)
def qvl{K:Value×Value×Value->WP}(h:∀x y w',Fr [] w w'->K (.func (.func 161) #[] #[],x,y) w'):cW 109 [] [.agg [.any,.any,.any]] w K:=by refine qki ?_;unfold qf1;exact oB (oE [] w) fun r w1 _ u o=>o.st' 0 rfl _ (iI rfl) rfl (zM _) fun w2 o _=>oC o 0 rfl (_,_,_) rfl (h _ _ w2 o.fr)
def ut(h:ee fq a):my (fG a):=⟨pj h.2.2.1,pj h.2.2.2.1⟩
def uD(h:ee fq a):my (fM a):=⟨pj h.2.2.2.2.2.2.1,pj h.2.2.2.2.2.2.2.1⟩
def ui(h:ee fq a):0<=i6 a/\i6 a<65536:=vi h.2.2.2.2.2.2.2.2.2.2.2.2.2.1
def rh(h:ee ig t):my (fB t):=⟨pj h.2.2.2.2.2.2.1,pj h.2.2.2.2.2.2.2.1⟩
def Ey(h:ee ig t):0<=jG t/\jG t<65536:=vi h.2.2.2.2.2.2.2.2.2.2.2.2.2.2.1
def Gz{q:Pa}{am:gp}{K:List Value×Bool->WP}(G:ee ig t)(U:ee fq p.1)(C:ee fq p.2.1)(E:gy t p=some q)(u:∀w',Fr [] w w'->K (kz q,true) w'): cW 73 [.agg (HL.mk ig t).toArray,c8 am.1 am.2,.bool false,.agg (kz p).toArray] dh w K:=by
 refine qlS ?_;unfold gy at E;obtain⟨x,hx,E⟩:=Option.bind_eq_some_iff.1 E;obtain⟨y,hy,rfl⟩:=yT.1 E;have hz:=xe;refine oB (oE [] w) fun r1 w1 _ f1 o=>oB o fun r3 w2 _ f2 o=>oB o fun I w3 _ f3 o=>oI o hz fun J w4 _ o=>iQ (fun V w'=>V=false/\dR [] w w' [(J,.cells (kz pX).toArray qh (0,0)),(I,.cells (kz (kJ x p.1,kR y p.2.1,p.2.2)).toArray qh (0,0)),(r3,.cells #[.int .u64 am.1,.int .u64 am.2] oe (0,0)),(r1,.cells (HL.mk ig t).toArray 55 (0,0))]) ?_ ?_;have o:=o.drew;refine oC o 3 rfl (fB t) rfl (qwA fun _ _ w5 f5=>?_);have o:=o.q7 f5;refine iM (o.cells 3 rfl rfl) (quv (o:=0) (k:=2) (x:=fG p.1) (a:=fB t) (y:=x) (o.at (i:=1) rfl) (fun w1 K u=>qBA w1 K u) rfl (ut U) (rh G) hx fun O Q f6=>?_);have o:=BB o 1 rfl f6 Q;refine cond_false rfl (oC o 3 rfl (fB t) rfl (qvl fun _ _ w7 f7=>?_));have o:=o.q7 f7;refine iM (o.cells 3 rfl rfl) (quv (o:=15) (k:=6) (x:=fM p.2.1) (a:=fB t) (y:=y) (o.at (i:=1) rfl) (fun w1 K u=>qBz w1 K u) rfl (uD C) (rh G) hy fun w8 R f8=>?_);exact⟨rfl,BB o 1 rfl f8 R⟩;rintro V w5 ⟨rfl,o⟩;refine cond_false rfl (cond_false rfl ?_);simp only[Addr.q9];have hF:=Ey G;have e1:bits .and .u16 (jG t) 64=if hasB (jG t) 64 then 64 else 0:=Dx 6 hF oM
 have e2:bits .and .u16 (jG t) 128=if hasB (jG t) 128 then 128 else 0:=Dx 7 hF oM
 refine iQ (fun _ w'=>dR [] w w' [(J,.cells (kz pX).toArray qh (0,0)),(I,.cells (kz ((let d:=kJ x p.1;if hasB (jG t) 64 then jZ (mJ (i6 d) 16) d else d),kR y p.2.1,p.2.2)).toArray qh (0,0)),(r3,.cells #[.int .u64 am.1,.int .u64 am.2] oe (0,0)),(r1,.cells (HL.mk ig t).toArray 55 (0,0))]) ?_ fun _ O o=>?_;refine oA o 3 rfl (jG t) rfl ?_;rw[e1];by_cases h:hasB (jG t) 64;rw[if_pos h];refine cond_true rfl (oA o 1 rfl (i6 p.1) rfl ?_);rw[show bits .andNot .u16 (i6 p.1) 16=mJ (i6 p.1) 16 from qt0 4 (ui U) oM];refine o.st' 1 rfl (kz (jZ (mJ (i6 p.1) 16) (kJ x p.1),kR y p.2.1,p.2.2)).toArray rfl rfl (zO rfl) fun O o _=>?_;dsimp only;rw[if_pos h];exact o;rw[if_neg h];refine cond_false rfl ?_;dsimp only;rw[if_neg h];exact o;generalize hd:(let d:=kJ x p.1;if hasB (jG t) 64 then jZ (mJ (i6 d) 16) d else d)=d at o u;refine iQ (fun _ w'=>dR [] w w' [(J,.cells (kz pX).toArray qh (0,0)),(I,.cells (kz (d,(let c:=kR y p.2.1;if hasB (jG t) 128 then jZ (mJ (i6 c) 16) c else c),p.2.2)).toArray qh (0,0)),(r3,.cells #[.int .u64 am.1,.int .u64 am.2] oe (0,0)),(r1,.cells (HL.mk ig t).toArray 55 (0,0))]) ?_ fun _ w7 o=>?_;refine oA o 3 rfl (jG t) rfl ?_;rw[e2];by_cases h:hasB (jG t) 128;rw[if_pos h];refine cond_true rfl (oA o 1 rfl (i6 p.2.1) rfl ?_);rw[show bits .andNot .u16 (i6 p.2.1) 16=mJ (i6 p.2.1) 16 from qt0 4 (ui C) oM];refine o.st' 1 rfl (kz (d,jZ (mJ (i6 p.2.1) 16) (kR y p.2.1),p.2.2)).toArray rfl rfl (zO rfl) fun O o _=>?_;dsimp only;rw[if_pos h];exact o;rw[if_neg h];refine cond_false rfl ?_;dsimp only;rw[if_neg h];exact o;refine nH (o.at (i:=1) rfl) _ (qX _) rfl (me (qX _) (o.st' 0 rfl _ (iI rfl) rfl (zM _) fun w8 o _=>nH (o.at (i:=0) rfl) _ (qX _) rfl ?_));exact u w8 o.fr
section
section
variable {w w' w1:World} {Y F:List Nat} {sb c:Nat} {b b':Bk}
def CK(h:SB w Y sb F c b)(C:3*b.size+1<=c)(E:ee fq a)(G:∀F' w',SB w' Y sb F' c (b.dQ a)->pc F w F' w'->K 0 w'): cW 24 [dH sb,.agg (HL.mk fq a).toArray] de w K:=by refine qfR<|oB (oE [] w) fun r1 w1 _ u o=>oC o 0 rfl a rfl (quV fun s t w2 I J O=>?_);exact SB.put (t:=0) h (u.trans O) C oM ⟨lW _,oQ _⟩ ⟨Hp _,qyg _⟩ (I.up u.size) (J.up u.size) (fun T q=>q.dQ E) G
def qzJ{i0 i1:Int}{K:List Value×Bool->WP}(h:SB w Y sb F c b)(hi:ls (i0,i1))(kk:∀w',Fr [] w w'->K (pf ((hU b (i0,i1)).getD uE),(hU b (i0,i1)).isSome) w'): cW 50 [dH sb,c8 i0 i1] dh w K:=by
 refine qgB<|oB (oE [] w) fun r1 w1 _ f1 o=>oI o v8 fun r3 w2 _ o=>oC o 1 rfl (i0,i1) rfl (wE fun r4 R U V=>?_);have hz:=v8;have C:∀(x:Kp) (O:Bool) (I:World),Fr [] R I->(x=(hU b (i0,i1)).getD uE/\O=(hU b (i0,i1)).isSome)->gK ((pf x).length=18) (Pt.st (dc r3) (pf x) I fun u=>ic 18 (dc r3) u fun t=>K (t,O) u):=fun x O I f4 e=>by rw[e.1,e.2];refine me (pr _) (oG (o.q7 (V.trans f4)) 0 rfl _ (iI rfl) rfl (zM _) fun u o _=>?_);exact nH (o.at (i:=0) rfl) _ (pr _) rfl (kk u o.fr)
 refine qoW<|oI (oE [] R) hz fun r5 I _ E=>SB.get (T:=C3) (k:=(i0,i1)) (l:=b.jR) (t:=1) h (o.fr.trans (V.trans E.fr)) oM ⟨lW _,oQ _⟩ ((U.q7 E.fr).up o.fr.size) (fun P q=>q.jR) rfl hi (fun s u hn J=>?_) fun s u x hx Q he hv J=>?_;refine cond_true rfl (oI (E.q7 J) hz fun r6 w6 _ o3=>nH (o3.at (i:=0) rfl) _ (pr uE) rfl (me rfl (o3.st' 1 rfl _ (iI rfl) rfl (zM _) fun w7 G f7=>nH (G.at (i:=1) rfl) _ (pr uE) rfl ?_)));exact C _ _ w7 G.fr ⟨by rw[show hU b (i0,i1)=none from hn];rfl,by rw[show hU b (i0,i1)=none from hn];rfl⟩;refine cond_false rfl (qz (lb:=[]) rfl oK (qu0 (by have q:=(U.rd.q7 E.fr).q7 J;rw[<- he] at q;exact q) hv Q fun w6 f6=>?_));refine me (pr x) (oG ((E.q7 J).q7 f6) 0 rfl _ (iI rfl) rfl (zM _) fun w7 G f7=>nH (G.at (i:=0) rfl) _ (pr x) rfl ?_);exact C _ _ w7 G.fr ⟨by rw[show hU b (i0,i1)=some x from hx];rfl,by rw[show hU b (i0,i1)=some x from hx];rfl⟩
def qzI{i0 i1:Int}(h:SB w Y sb F c b)(hi:ls (i0,i1))(G:∀w',Fr [] w w'->K (ln b (i0,i1)) w'): cW 15 [dH sb,c8 i0 i1] [.one .b] w K:=by
 refine qiA ?_;obtain⟨pb,h⟩:=h;refine oB (oE [] w) fun r1 w1 _ u o=>h.uN u.drew (oC o.drew 0 rfl (i0,i1) rfl (wE fun V w3 I J=>?_));have f:=u.drew.trans J;refine iM (h.held f) (h.get (T:=CZ) (k:=(i0,i1)) (l:=b.jU) (t:=2) f oM ⟨lW _,oQ _⟩ (I.up u.drew.size) (fun P q=>q.jU) rfl hi (fun s C O E=>cond_true rfl ?_) fun s C x Q R he U E=>cond_false rfl (eF.at U 0 rfl (x:=x.2) rfl ?_))
 have:=G C (f.trans E)
 unfold ln at this;rwa[show (b.jU.find? fun x=>decide (x.1=(i0,i1)))=none from O] at this
 have:=G C (f.trans E)
 unfold ln at this;rwa[show (b.jU.find? fun x=>decide (x.1=(i0,i1)))=some x from Q] at this
def qnK{i0 i1 x:Int}(h:SB w Y sb F c b)(Q:3*b.size+1<=c)(hi:ls (i0,i1))(C:IntKind.u8.has x)(R:∀F' w',SB w' Y sb F' c (b.fK ((i0,i1),x))->pc F w F' w'->K 0 w'): cW 29 [dH sb,c8 i0 i1,.b x] de w K:=by
 refine qgl ?_;obtain⟨pb,h⟩:=h;have U:eS [x]:=fun z hz=>by rw[zE.1 hz];exact qzv C
 have new:∀ {w2 E:World} {r:Nat},Fr [] w w2->r=w2.heap.size->E.heap[r]?=some (.cells (gz [x]) 5 (0,0))->lO w E ⟨pW r,1,1⟩ [x]:=fun f e hb=>FU (by have:=f.size;omega) hb (zM _) (zM _) rfl;refine oB (oE [] w) fun r1 w1 _ u o=>⟨h.uN u.drew (oC o.drew 0 rfl (i0,i1) rfl (wE fun r4 E G I=>iM (h.held (u.drew.trans I)) (oB (o.drew.q7 I) fun r5 w4 J V o=>?_))),h.uN u.drew (oC o.drew 0 rfl (i0,i1) rfl (oB o.drew fun r5 w4 J V o=>?_))⟩;refine ka (o.cells 1 rfl rfl) (h.held o.fr) (h.put (t:=2) o.fr Q oM ⟨lW _,oQ _⟩ ⟨rfl,U⟩ ((G.q7 V).up u.drew.size) (new (u.drew.trans I) J (o.at (i:=0) rfl)) (fun T q=>q.fK (a:=((i0,i1),x)) ⟨hi,C⟩) fun F' w' h=>R F' w' ⟨pb,h⟩);refine ka (o.cells 1 rfl rfl) (h.held o.fr) (wE fun r6 w5 G O=>iM (h.held (o.fr.trans O)) ?_);exact h.put (t:=2) (o.fr.trans O) Q oM ⟨lW _,oQ _⟩ ⟨rfl,U⟩ (G.up o.fr.size) (new u.drew J ((o.q7 O).at (i:=0) rfl)) (fun T q=>q.fK (a:=((i0,i1),x)) ⟨hi,C⟩) fun F' w' h=>R F' w' ⟨pb,h⟩
def qva{u C E G:Int}(h:SB w Y sb F c b)(J:3*b.size+1<=c)(O:ee ib (u,C,E,G))(Q:∀F' w',SB w' Y sb F' c (b.jA (u,C,E,G))->pc F w F' w'->K 0 w'): cW 32 [dH sb,.agg #[.int .u64 u,.int .u64 C,.int .u64 E,.int .u64 G]] de w K:=by refine qiy<|oB (oE [] w) fun r1 w1 _ I o=>oC o 0 rfl (u,C,E,G) rfl (qnF fun s t w2 R U V=>?_);exact SB.put (t:=3) h (I.trans V) J oM ⟨Az _ _,qs5 _ _⟩ ⟨lW _,oQ _⟩ (R.up I.size) (U.up I.size) (fun T q=>q.jA O) Q
def qu8{u C E G:Int}(h:SB w Y sb F c b)(O:3*b.size+1<=c)(Q:ee ib (u,C,E,G))(I:(u,C,E,G)∈b.due)(R:∀F' w',SB w' Y sb F' c (b.jB (u,C,E,G))->pc F w F' w'->K 0 w'): cW 74 [dH sb,.agg #[.int .u64 u,.int .u64 C,.int .u64 E,.int .u64 G]] de w K:=by refine qix<|oB (oE [] w) fun r1 w1 _ J o=>oC o 0 rfl (u,C,E,G) rfl (qnF fun s t w2 U ht V=>?_);exact SB.cut (t:=3) h (J.trans V) O oM (U.up J.size) (fun T q=>mf.mem (K:=uW) (k:=(u,C)) q.due ⟨_,I,rfl⟩) (fun T q=>q.jB Q) R
def qvb{a0 a1:Int}{r:HL nd}(h:SB w Y sb F c b)(C:3*b.size+1<=c)(E:ls (a0,a1))(u:ee nd r)(G:∀F' w',SB w' Y sb F' c (b.nI ((a0,a1),r))->pc F w F' w'->K 0 w'): cW 58 [dH sb,c8 a0 a1,.agg (HL.mk nd r).toArray] de w K:=by refine qiz<|oB (oE [] w) fun r1 w1 _ Q o=>oB o fun r3 w2 _ R o=>oC o 1 rfl (a0,a1) rfl (oC o 0 rfl r rfl (quW fun s t U I J O=>?_));exact SB.put (t:=6) h (o.fr.trans O) C oM ⟨HB _ _,GI _ _⟩ ⟨qzb _,qza u⟩ (I.up o.fr.size) (J.up o.fr.size) (fun T q=>q.nI (a:=((a0,a1),r)) ⟨E,u⟩) G
end
end
section
section
variable {w w' w1:World} {Y F F':List Nat} {sb pb c:Nat} {b b':Bk}
def sX.j8(h:sX wa Y sb pb F c b)(o:dR [] wa w L):sX w (fN L++Y) sb pb F c b:=by obtain⟨dbk,FD,D,M,Fo,u,C,E⟩:=h;exact⟨dbk,FD,D,M,Fo,⟨u.tw.cD o,u.st,o.pU u.cell (fun h=>nomatch h),u.out⟩,C,E⟩
def sX.own(h:sX w (fN L++Y) sb pb F c b)(o:dR T wa w L)(s:pc F w F' w'):dR (fN L) w' w' L:=rU o s.fr fun b u=>SB.yf ⟨pb,h⟩ b (zH _ u)
def qvc{k:Kp}(h:SB w Y sb F c b)(hr:3*(b.size+3)+1<=c)(C:rq k)(kk:∀F' w',SB w' Y sb F' c (b.gi k)->pc F w F' w'->K 0 w'): cW 28 [dH sb,.agg (pf k).toArray] de w K:=by refine qfv ?_;obtain⟨pb,h⟩:=h;refine oB (oE [] w) fun r1 w1 _ f1 o=>oC o 0 rfl k.1 rfl (oB o fun r4 w2 _ f2 o=>o.st' 0 rfl _ (iI rfl) rfl (zM _) fun w3 o f3=>?_);refine nH (o.at (i:=1) rfl) (pf k) rfl rfl (quX fun s t w4 hs ht f4=>?_);have J:=o.fr;have h:=h.j8 o;have p1:=sM (kf:=qJ) (a:=k) (l:=b.jR);have p2:=sM (kf:=py) (a:=wT k.1) (l:=b.mA);have z1:(b.l9 k).size<=b.size+1:=(by unfold Bk.size Bk.l9;dsimp only;omega);have z2:((b.l9 k).nO (wT k.1)).size<=b.size+2:=(by unfold Bk.size Bk.nO Bk.l9;dsimp only;omega);have hi:ls (gq k.1):=⟨C.1.1,C.1.2.1⟩;have hn:IntKind.u64.has k.1.2.2.2.2.2.2.2.2.2.2.2.2.2.2.2:=C.1.2.2.2.2.2.2.2.2.2.2.2.2.2.2.2;refine h.uN f4 (h.put (t:=1) f4 oJ oM ⟨lW _,oQ _⟩ ⟨AW _,qAa _⟩ hs ht (fun T q=>q.l9 C) fun F5 w5 G s5=>cond_false rfl ?_);have o5:=h.own o s5;have o:=o5.drew;have g:=(Fr.refl [] w5).drew;have O:ls (k.1.2.2.1,k.1.2.2.2.1):=⟨C.1.2.2.1,C.1.2.2.2.1⟩;have Q:ls (k.1.2.2.2.2.1,k.1.2.2.2.2.2.1):=⟨C.1.2.2.2.2.1,C.1.2.2.2.2.2.1⟩;refine G.uN g (oC o 0 rfl (k.1.2.2.1,k.1.2.2.2.1) rfl (oA o 0 rfl k.1.2.2.2.2.2.2.2.2.2.2.2.2.2.2.2 rfl (oC o 0 rfl (k.1.1,k.1.2.1) rfl (DU fun s6 w6 R u=>ka ((o.q7 u).cells 0 rfl rfl) (G.held (g.trans u)) (wE fun r7 w7 U E=>iM (G.held ((g.trans u).trans E)) ?_)))));refine G.put (t:=4) ((g.trans u).trans E) oJ oM ⟨HB _ _,GI _ _⟩ ⟨lW _,oQ _⟩ ((R.q7 E).up (zM _)) (U.up u.size) (fun T q=>q.nO (a:=wT k.1) ⟨⟨O,hn⟩,hi⟩) fun F8 w8 I s8=>cond_false rfl ?_;have o:=(G.own o5 s8).drew;have g:=(Fr.refl [] w8).drew;refine I.uN g (oC o 0 rfl (k.1.2.2.2.2.1,k.1.2.2.2.2.2.1) rfl (oA o 0 rfl k.1.2.2.2.2.2.2.2.2.2.2.2.2.2.2.2 rfl (oC o 0 rfl (k.1.1,k.1.2.1) rfl (DU fun s6 w9 R u=>ka ((o.q7 u).cells 0 rfl rfl) (I.held (g.trans u)) (wE fun r7 aq U E=>iM (I.held ((g.trans u).trans E)) ?_)))));exact I.put (t:=5) ((g.trans u).trans E) oJ oM ⟨HB _ _,GI _ _⟩ ⟨lW _,oQ _⟩ ((R.q7 E).up (zM _)) (U.up u.size) (fun T q=>q.qe (a:=AO k.1) ⟨⟨Q,hn⟩,hi⟩) fun V aa ab ac=>kk V aa (SB.x8 ⟨pb,ab⟩ fun _ h=>zI _ h) (.pre J ((s5.trans s8).trans ac))
end
end
section
def rowOf (a:HL fq) (s n:Int):HL nd:=(a.2.2.1,a.2.2.2.1,a.2.2.2.2.1,a.2.2.2.2.2.1,a.2.2.2.2.2.2.1,a.2.2.2.2.2.2.2.1,a.2.2.2.2.2.2.2.2.1,a.2.2.2.2.2.2.2.2.2.1,n,s)
def qxH{s:Int}(h:ee fq a)(u:IntKind.u8.has s)(C:IntKind.u64.has n):ee nd (rowOf a s n):=⟨h.2.2.1,h.2.2.2.1,h.2.2.2.2.1,h.2.2.2.2.2.1,h.2.2.2.2.2.2.1,h.2.2.2.2.2.2.2.1,h.2.2.2.2.2.2.2.2.1,h.2.2.2.2.2.2.2.2.2.1,C,u⟩
def ja (b:Bk) (a:HL fq) (s n:Int):Bk:=if hasB (i6 a) 8 then b.nI (gE a,rowOf a s n) else b
def fi (b:Bk) (p:Pa) (n:Int):Bk:=ja (ja ((b.dQ p.1).dQ p.2.1) p.1 1 n) p.2.1 2 n
def kB (b:Bk) (i j:gp):Pa:=((eG b i).getD kN,(eG b j).getD kN,(eG b i).isSome,(eG b j).isSome)
def wS{b:Bk}:(b.dQ a).size<=b.size+1:=by
 have:=sM (kf:=gE) (a:=a) (l:=b.acc)
 unfold Bk.size Bk.dQ;dsimp only;omega
def Ef{b:Bk}{s:Int}:(ja b a s n).size<=b.size+1:=by
 unfold ja;split
 have:=sM (kf:=sK) (a:=(gE a,rowOf a s n)) (l:=b.kM)
 unfold Bk.size Bk.nI;dsimp only;omega;omega
section
variable {w w' w1:World} {Y F F':List Nat} {sb pb c:Nat} {b b':Bk}
def qBa{s:Int}{K:HL nd->WP}(h:∀w',Fr [] w w'->K (rowOf a s n) w'):cW 59 [.agg (HL.mk fq a).toArray,.b s,.int .u64 n] [.agg nd] w K:=by refine qq5<|oB (oE [] w) fun r1 w1 _ C o=>oB o fun r3 w2 _ E o=>oC o 1 rfl (_,_) rfl (oC o 1 rfl (_,_) rfl (oC o 1 rfl (_,_) rfl (oC o 1 rfl (_,_) rfl ?_)));exact o.st' 0 rfl _ (iI rfl) rfl (zM _) fun u o _=>oC o 0 rfl (rowOf a s n) rfl (h u o.fr)
def qrx{r1 O:Nat}{T1 U:TypeId}{s:Int}(h:SB w Y sb F c b)(Q:w.heap[r1]?=some (.cells #[dH sb] T1 (0,0)))(V:w.heap[O]?=some (.cells #[.int .u64 n] U (0,0)))(E:ee fq a)(hs:IntKind.u8.has s)(hn:IntKind.u64.has n)(hr:3*b.size+1<=c)(C:∀F' w',SB w' Y sb F' c (ja b a s n)->pc F w F' w'->K 0 w'):cW 57 [.agg (HL.mk fq a).toArray,.b s,dH r1,dH O] de w K:=by
 refine qlW ?_;have e1:bits .and .u16 (i6 a) 8=if hasB (i6 a) 8 then 8 else 0:=Dx 3 (ui E) oM
 refine oB (oE [] w) fun r2 w2 _ J o=>oA o 0 rfl (i6 a) rfl ?_;rw[e1];unfold ja at C;by_cases hb:hasB (i6 a) 8;rw[if_pos hb] at C⊢;have f:=J.drew;have u:∀ {r:Nat} {R:Obj},w.heap[r]?=some R->∀ {G:World},Fr [] w G->G.heap[r]?=some R:=fun h G f=>by rw[f.block _ (fJ h) fun h=>nomatch h];exact h
 refine cond_false rfl (jM (u Q f) (pW sb) rfl (oC o.drew 0 rfl (a.1,a.2.1) rfl (oC o.drew 0 rfl a rfl (jM (u V f) n rfl (qBa fun G I=>ka ((o.drew.q7 I).cells 0 rfl rfl) ((kj (u Q (f.trans I))).trans rfl) ?_)))));exact qvb (h.q7 (f.trans I)) hr ⟨E.1,E.2.1⟩ (qxH E hs hn) fun F' w' h s=>C F' w' h (.pre (f.trans I) s);rw[if_neg hb] at C⊢;exact cond_true rfl (C F w2 (h.q7 J) (.pre J (.refl _ _)))
def qzD(h:SB w Y sb F c b)(Q:ee fq p.1)(C:ee fq p.2.1)(R:IntKind.u64.has n)(hr:3*(b.size+4)+1<=c)(kk:∀F' w',SB w' Y sb F' c (fi b p n)->pc F w F' w'->K 0 w'):cW 20 [dH sb,.agg (kz p).toArray,.int .u64 n] de w K:=by refine qpg<|oB (oE [] w) fun r1 w1 _ f1 o=>oB o fun r3 w2 _ f2 o=>oB o fun U w3 _ f3 o=>oB o fun E w4 _ f4 o=>o.st' 0 rfl _ (iI rfl) rfl (zM _) fun w5 o _=>oB o fun af w6 _ f6 o=>?_;have f:=o.fr;have h:=h.j8 o;have z1:=wS (b:=b) (a:=p.1);have z2:=wS (b:=b.dQ p.1) (a:=p.2.1);have z3:=Ef (b:=(b.dQ p.1).dQ p.2.1) (a:=p.1) (s:=1) (n:=n);refine xp fun X u=>cond_true rfl (qa oM oM (oA o 0 rfl _ rfl (qz (lb:=[dH r1,dH r3]) rfl oK (qlX (cap0:=(dc r1)) (cap1:=(dc r3)) ?_))));refine oA o 4 rfl (pW sb) rfl (oC o 3 rfl p.1 rfl (CK h oJ Q fun F7 w7 V s7=>cond_false rfl (u _ _ ?_)));have o:=h.own o s7;refine xp fun X u=>cond_true (by rw[gd _ oM];rfl) ?_;rw[gd _ oM];refine qa oM oM (oA o 0 rfl _ rfl (qz (lb:=[dH r1,dH r3]) rfl oK (qlY (cap0:=(dc r1)) (cap1:=(dc r3)) ?_)));refine oA o 4 rfl (pW sb) rfl (oC o 3 rfl p.2.1 rfl (CK V oJ C fun F8 w8 h8 s8=>cond_false rfl (u _ _ ?_)));have o:=V.own o s8;refine xp fun X u=>cond_true (by rw[gd _ oM];rfl) ?_;rw[gd _ oM];refine qa oM oM (oA o 0 rfl _ rfl (qz (lb:=[dH E,dH r3]) rfl oK (qlZ (cap0:=(dc E)) (cap1:=(dc r3)) ?_)));refine oA o 1 rfl _ rfl (oC o 3 rfl p.1 rfl (qz (lb:=[dH r1,dH U]) rfl oK (qrx h8 (o.at (i:=4) rfl) (o.at (i:=2) rfl) Q (show (0:Int)<=1/\(1:Int)<=255 from⟨oM,oM⟩) R oJ fun F9 w9 h9 s9=>cond_false rfl (u _ _ ?_))));have o:=h8.own o s9;refine xp fun X u=>cond_true (by rw[gd _ oM];rfl) ?_;rw[gd _ oM];refine qa oM oM (oA o 0 rfl _ rfl (qz (lb:=[dH E,dH r3]) rfl oK (ql0 (cap0:=(dc E)) (cap1:=(dc r3)) ?_)));refine oA o 1 rfl _ rfl (oC o 3 rfl p.2.1 rfl (qz (lb:=[dH r1,dH U]) rfl oK (qrx h9 (o.at (i:=4) rfl) (o.at (i:=2) rfl) C (show (0:Int)<=2/\(2:Int)<=255 from⟨oM,oM⟩) R oJ fun G I J O=>cond_false rfl (u _ _ ?_))));exact xp fun X u=>cond_false (by rw[gd _ oM];rfl)<|kk G I (J.x8 fun _ h=>zI _ h) (.pre f (((s7.trans s8).trans s9).trans O))
def qzr:dT (kz p).toArray 0 (HL.mk fq a)=(kz (a,p.2)).toArray:=by unfold kz;rw[zV,zV];exact uu (A:=[]) (X:=HL.mk fq p.1) rfl
def qzs:dT (kz p).toArray 15 (HL.mk fq a)=(kz (p.1,a,p.2.2)).toArray:=uu (A:=HL.mk fq p.1) (X:=HL.mk fq p.2.1) (Y:=HL.mk fq a) (Z:=[.bool p.2.2.1,.bool p.2.2.2]) rfl
def Gg{i j:gp}{K:List Value->WP}(h:SB w Y sb F c b)(hi:ls i)(E:ls j)(G:∀w',Fr [] w w'->K (kz (kB b i j)) w'): cW 21 [dH sb,c8 i.1 i.2,c8 j.1 j.2] dt w K:=by refine ql1 ?_;have C:=xe;refine oB (oE [] w) fun r1 w1 _ Q o=>oB o fun r3 w2 _ R o=>oI o C fun U V _ o=>oI o C fun r7 w4 _ o=>oC o 3 rfl i rfl (D0 (h.q7 o.fr) hi fun w5 I=>?_);have o:=o.q7 I;refine o.st' 0 rfl _ qzr rfl (zO rfl) fun w6 o _=>o.st' 0 rfl (kz ((eG b i).getD kN,kN,(eG b i).isSome,false)).toArray rfl rfl (zO rfl) fun w7 o _=>oC o 2 rfl j rfl (D0 (h.q7 o.fr) E fun w8 J=>?_);have o:=o.q7 J;refine o.st' 0 rfl _ qzs rfl (zO rfl) fun w9 o _=>o.st' 0 rfl (kz (kB b i j)).toArray rfl rfl (zO rfl) fun O o _=>nH (o.at (i:=0) rfl) _ (qX _) rfl (me (qX _) (o.st' 1 rfl _ (iI rfl) rfl (zM _) fun u o _=>nH (o.at (i:=1) rfl) _ (qX _) rfl (G u o.fr)))
end
end
def qt4(a b:List Int):kC (a++b)=kC a*256^b.length+kC b:=by unfold kC;rw[foldl_append,qn6];rfl
def Er{x:gp}(h:my x):kC (iA x)=wv x:=by unfold iA wv;rw[qt4,lF,uH 8 h.1.1 (by rw[p8];exact h.1.2),uH 8 h.2.1 (by rw[p8];exact h.2.2),p8]
def lK (l:List Int):Array Value:=(l.map (Value.int .i64)).toArray
def ET(l:List Int):(lK l).size=l.length:=by simp[lK]
def DJ{x:Int}:dT (lK l) j [.i x]=lK (l.set j x):=by rw[dT,dT];apply Array.ext';rw[Array.toList_setIfInBounds];show (lK _).toList.set _ _=(lK _).toList;unfold lK;simp only[toList_toArray];rw[<- map_set]
def Aq{x:Int}(h:l[j]?=some x):(lK l)[j]?=some (.i x):=by simp[lK,h]
abbrev vH:TypeId:=3
def qAL{a0 a1:Int}{i:Nat}(hi:i<8):(iA (a0,a1))[i]?=some (a0 / 256^(7-i)%256)/\(iA (a0,a1))[8+i]?=some (a1 / 256^(7-i)%256):=by constructor;rw[iA,yZ (by rw[lF];omega),AE hi,show 8-1-i=7-i by omega];rw[iA,yY (by rw[lF];omega),lF,vD,AE hi,show 8-1-i=7-i by omega]
def Do{a0 a1:Int}{K:Sl->WP}(Q:mu a0)(J:mu a1)(V:∀r w',w'.heap[r]?=some (.cells (lK (iA (a0,a1))) vH (0,0))->Fr [] w w'->w.heap.size<=r->K ⟨pW r,16,16⟩ w'): cW 40 [c8 a0 a1] dd w K:=by
 refine qgv<|oB (oE [] w) fun r1 w1 e1 f1 h=>dR.FP h rfl oM oM oM oM fun r w2 e2 h=>?_;have hr:w.heap.size<=r:=(by have:=f1.size;omega);refine oA h.drew 1 rfl a0 rfl (oA h.drew 1 rfl a1 rfl ?_);refine jT (fun t w'=>∃j:Nat,∃l:List Int,t=(a0 / 256^j,a1 / 256^j,(7:Int)-j)/\j<=8/\l.length=16/\dR [] w w' [(r,.cells (lK l) vH (0,0)),(r1,.cells #[.int .u64 a0,.int .u64 a1] oe (0,0))]/\∀m,m<8->8-j<=m->l[m]?=(iA (a0,a1))[m]?/\l[8+m]?=(iA (a0,a1))[8+m]?) (fun t _=>(t.2.2+1).toNat) ⟨0,zs 16,oL,oM,rfl,h.drew,fun m J h2=>oJ⟩ ?_;rintro t w3 ⟨j,l,rfl,hj,hl,h,O⟩ X hX;dsimp only;apply eH<;>intro E;have E:=zC E;have u:j<8:=oJ;have p:∀ {a:Int},mu a->0<=a / 256^j/\a / 256^j<18446744073709551616:=fun {a} I=>⟨Int.ediv_nonneg I.1 (Int.le_of_lt (Int.pow_pos oM)),Int.lt_of_le_of_lt (Int.ediv_le_self _ I.1) I.2⟩;have q:∀ {a:Int},mu a->a / 256^j / 256=a / 256^(j+1):=fun {a} I=>by rw[Int.ediv_ediv_of_nonneg (Int.le_of_lt (Int.pow_pos oM)),Int.pow_succ]
 have R:=p Q;have U:=p J;have ei:(7:Int)-j=((7-j:Nat):Int):=oJ;rw[Int.tmod_eq_emod_of_nonneg R.1,Int.tmod_eq_emod_of_nonneg U.1,Int.tdiv_eq_ediv_of_nonneg R.1,Int.tdiv_eq_ediv_of_nonneg U.1,gd (8+_) oJ,gd (a0 / 256^j%256) oJ,gd (a1 / 256^j%256) oJ,gd ((7:Int)-j-1) oJ,qv (a0 / 256^j / 256) oJ,qv (a1 / 256^j / 256) oJ,q Q,q J];refine qa oJ oJ<|h.st' 0 rfl _ DJ rfl (by rw[ET];simp;omega) fun w4 h _=>qa oJ oJ<|h.st' 0 rfl _ DJ rfl (by rw[ET];simp;omega) fun w5 h _=>hX _ _ ⟨j+1,_,by rw[show (7:Int)-((j+1:Nat):Int)=7-j-1 by omega],u,by simpa using hl,h,fun m G af=>?_⟩ oN;rw[show 0+((7:Int)-j).toNat*1=7-j by omega,show 0+(8+((7:Int)-j)).toNat*1=8+(7-j) by omega];have C:=qAL (a0:=a0) (a1:=a1) G;by_cases e:m=7-j;subst e;rw[show 7-(7-j)=j by omega] at C;rw[C.1,C.2];exact⟨by rw[List.getElem?_set_ne oJ,List.getElem?_set_self oJ],by rw[List.getElem?_set_self (by rw[xG];omega)]⟩
 have:=O m G oJ
 exact⟨by rw[List.getElem?_set_ne oJ,List.getElem?_set_ne oJ];exact this.1,by rw[List.getElem?_set_ne oJ,List.getElem?_set_ne oJ];exact this.2⟩;have E:=zB E;have u:j=8:=oJ;subst u;have e:l=iA (a0,a1):=by
  apply ext_getElem?;intro i;by_cases h8:i<8;exact (O i h8 oJ).1;by_cases h16:i<16
  have:=(O (i-8) oJ oJ).2
  rwa[show 8+(i-8)=i by omega] at this;rw[yS oJ,yS (by rw[lW];omega)]
 subst e;exact V r w3 (h.at (i:=0) rfl) h.fr hr
def qpU{r:Nat}{T:TypeId}{K:gp->WP}(Q:w.heap[r]?=some (.cells (lK l) T (0,0)))(hl:l.length=16)(R:eS l)(V:∀w',Fr [] w w'->K (kC (l.take 8),kC (l.drop 8)) w'): cW 41 [.slice (pW r) 16 16] [.agg da] w K:=by
 refine qgw (d:=⟨pW r,16,16⟩)<|oB (oE [] w) fun r1 w1 _ f1 h=>oB h fun r3 w2 _ f2 h=>h.sz 0 rfl cz fun w3 h _=>jT (fun q w'=>∃i:Nat,q=i/\i<=8/\dR [] w w' [(r3,.cells #[.int .u64 (kC (l.take i)),.int .u64 (kC ((l.drop 8).take i))] oe (0,0)),(r1,.cells cz oe (0,0))]) (fun q _=>8-q.toNat) ⟨0,rfl,oM,h⟩ ?_;rintro q w4 ⟨i,rfl,hi,h⟩ X hX;apply cD<;>intro J;have C:i<8:=oJ;have G:∀ {w':World},Fr [] w w'->w'.heap[r]?=some (.cells (lK l) T (0,0)):=fun f=>by rw[f.block r (fJ Q) fun h=>nomatch h];exact Q
 have step:∀ {u:List Int} (E:i<u.length),eS u->wrap .u64 (wrap .u64 (kC (u.take i)*256)+wrap .u64 u[i])=kC (u.take (i+1)):=fun {u} E I=>by
  have hx:=I u[i] (zX E);have hv:=wP (l:=u.take i) fun y O=>I y (yV O);have hp:(256:Int)^(u.take i).length<=256^7:=by
   have:((256^(u.take i).length:Nat):Int)<=((256^7:Nat):Int):=by
    have:=Nat.pow_le_pow_right (n:=256) oM (show (u.take i).length<=7 by rw[yL];omega)
    omega
   simpa using this
  rw[show (256:Int)^7=72057594037927936 by decide] at hp;rw[yG E,FM,qv u[i] oJ,qv (kC (u.take i)*256) oJ,qv _ oJ]
 have hd:(l.drop 8)[i]'(by rw[yC];omega)=l[8+i]' oJ:=getElem_drop;refine oA h.drew 0 rfl _ rfl (qa oJ oJ (jM (G h.drew.fr) (l[i]' oJ) (Aq (by rw[show 0+(i:Int).toNat*1=i by omega,zA])) ?_));rw[step oJ R];refine h.drew.sz 0 rfl #[.int .u64 (kC (l.take (i+1))),.int .u64 (kC ((l.drop 8).take i))] fun U h _=>?_;rw[gd (8+(i:Int)) oJ,gd ((i:Int)+1) oJ];refine oA h.drew 0 rfl _ rfl (qa oJ oJ (jM (G h.drew.fr) ((l.drop 8)[i]'(by rw[yC];omega)) (Aq (by rw[show 0+(8+(i:Int)).toNat*1=8+i by omega,hd,zA])) ?_));rw[step (by rw[yC];omega) fun y O=>R y (yU O)];exact h.drew.sz 0 rfl #[.int .u64 (kC (l.take (i+1))),.int .u64 (kC ((l.drop 8).take (i+1)))] fun w6 h _=>hX _ _ ⟨i+1,rfl,C,h⟩ oJ;have C:i=8:=oJ;subst C;rw[zS (l:=l.drop 8) (by rw[yC];omega)] at h;refine oC h 0 rfl (_,_) rfl (h.st' 1 rfl _ (iI rfl) rfl (zM _) fun U h _=>?_);exact oC h 1 rfl (_,_) rfl (V U h.fr)
section
def DO{S:List Nat}{w0 w':World}{r:Nat}{o:Obj}(h:dR S w0 w L)(f:Fr [] w w')(E:w'.heap[r]?=some o)(G:w.heap.size<=r):dR S w0 w' ((r,o)::L):=by
 have C:=h.q7 f;refine⟨fun p u=>?_,?_,C.fr,fun p u=>?_⟩;rcases zG.1 u with rfl|u;exact E;exact C.i9 p u;rw[xO,nodup_cons];refine⟨fun I=>?_,C.nodup⟩;obtain⟨p,u,e⟩:=mem_map.1 I
 have:=fJ (h.i9 p u)
 dsimp only at e;omega;rcases zG.1 u with rfl|u;exact .inr (zL h.fr.size G);exact C.own p u
def quz(h:z.length=16)(u:eS z):(kC (z.take 8),kC (z.drop 8))=rV (kC z):=by have C:=qt4 (z.take 8) (z.drop 8);rw[xE,yC,h,show (256:Int)^(16-8)=18446744073709551616 by decide] at C;have E:=wP (l:=z.drop 8) fun y G=>u y (yU G);rw[yC,h,show (256:Int)^(16-8)=18446744073709551616 by decide] at E;unfold rV;exact Prod.ext oN oN
def Em:(256:Int)^16=18446744073709551616*18446744073709551616:=by decide
def Ei(h:x.length=16)(u:j<16):kC (x.drop (15-j))=x[15-j]' oJ*256^j+kC (x.drop (16-j)):=by rw[zY oJ,AL,yC,show 16-j=15-j+1 by omega,show x.length-(15-j+1)=j by omega]
def qsZ(h:x.length=16)(u:j<16)(v:Int):(x.take (16-j)++z).set (15-j) v=x.take (15-j)++v::z:=by rw[show 16-j=15-j+1 by omega,yG oJ,zV,set_append_right _ _ (by rw[yL];omega),yL,show 15-j-min (15-j) x.length=0 by omega];rfl
def qsY(h:x.length=16)(u:j<16):(x.take (16-j)++z)[15-j]?=some (x[15-j]' oJ):=by rw[yZ (by rw[yL];omega),xB,iP,zA]
def qA1{v c p P:Int}{k:Nat}(u:P=256^k)(h:v+256*c=p):v*P+c*256^(k+1)=p*P:=by rw[<- h,Int.add_mul,Int.pow_succ,<- u,Int.mul_comm 256 c,Int.mul_assoc c 256 P,Int.mul_comm 256 P]
section
variable {w:World} {a b:gp} {K:gp×Bool->WP}
def BZ(ha:my a)(hb:my b)(J:∀w',Fr [] w w'->K ((lN a b).getD (0,0),(lN a b).isSome) w'): cW 14 [c8 a.1 a.2,c8 b.1 b.2] [.agg da,.one .bool] w K:=by refine qiS<|oB (oE [] w) fun r1 w1 _ f1 o=>oB o fun r3 w2 _ f2 o=>oB o fun r5 w3 _ f3 o=>?_;have o:=o.drew;refine oC o 2 rfl a rfl (oC o 1 rfl b rfl (Do ha.1 ha.2 fun rx w4 hx f4 nx=>?_));have o:=DO o f4 hx nx;refine iM (o.cells 2 rfl rfl) (Do hb.1 hb.2 fun ry w5 hy f5 ny=>?_);have o:=DO o f5 hy ny;have C:=lW a;have O:=lW b;have Q:=oQ a;have R:=oQ b;have vx:=Er ha;have vy:=Er hb;generalize ac:iA (a.1,a.2)=x at o;generalize ad:iA (b.1,b.2)=y at o;rw[show iA a=x from ac] at C Q vx;rw[show iA b=y from ad] at O R vy;refine jT (fun t w'=>∃j:Nat,∃z:List Int,∃c:Int,t=(c,(15:Int)-j)/\j<=16/\z.length=j/\eS z/\(c=0\/c=1)/\kC z+c*256^j=kC (x.drop (16-j))+kC (y.drop (16-j))/\dR [] w w' [(ry,.cells (lK y) vH (0,0)),(rx,.cells (lK (x.take (16-j)++z)) vH (0,0)),(r5,.cells cz oe (0,0)),(r3,.cells #[.int .u64 b.1,.int .u64 b.2] oe (0,0)),(r1,.cells #[.int .u64 a.1,.int .u64 a.2] oe (0,0))]) (fun t _=>(t.2+1).toNat) ⟨0,[],0,rfl,oM,rfl,(fun _ h=>nomatch h),.inl rfl,by rw[drop_of_length_le oJ,drop_of_length_le oJ];decide,by rw[xH,zS oJ];exact o⟩ ?_;rintro t w6 ⟨j,z,c,rfl,hj,U,E,hc,he,o⟩ X hX;dsimp only;apply cD<;>intro h;have u:j<16:=oJ;have o:=o.drew;have ei:0+((15:Int)-j).toNat*1=15-j:=oJ;have af:=Q _ (zX (l:=x) (n:=15-j) oJ);have ag:=R _ (zX (l:=y) (n:=15-j) oJ);have dx:=Ei C u;have dy:=Ei O u;refine qa oJ oJ (oA o 1 rfl (x[15-j]' oJ) (Aq (by rw[ei];exact qsY C u)) (qa oJ oJ (oA o 0 rfl (y[15-j]' oJ) (Aq (by rw[ei];exact zA _)) (qa oJ oJ ?_))));generalize x[15-j]' oJ=G at af dx;generalize y[15-j]' oJ=I at ag dy;rw[ei,gd (G+I) oJ,gd (G+I+c) oJ,Int.tmod_eq_emod_of_nonneg oJ,Int.tdiv_eq_ediv_of_nonneg oJ,gd ((G+I+c) / 256) oJ,gd ((15:Int)-j-1) oJ];refine o.st' 1 rfl _ DJ rfl (by rw[ET,zF,yL];show 15-j+1<=_;omega) fun w7 o _=>hX _ _ ⟨j+1,(G+I+c)%256::z,(G+I+c) / 256,by rw[show (15:Int)-((j+1:Nat):Int)=15-j-1 by omega],u,by rw[yI,U],fun v V=>?_,oJ,?_,?_⟩ oN;rcases zG.1 V with rfl|V;exact⟨oJ,oJ⟩;exact E v V;rw[show 16-(j+1)=15-j by omega,dx,dy,AL,U];have m:=qA1 (P:=256^j) rfl (show (G+I+c)%256+256*((G+I+c) / 256)=G+I+c by omega);rw[Int.add_mul,Int.add_mul] at m;omega;rw[qsZ C u] at o;rw[show 16-(j+1)=15-j by omega];exact o;have u:j=16:=oJ;subst u;rw[Nat.sub_self,take_zero,xI] at o;rw[Nat.sub_self,xF,xF,vx,vy,Em] at he;have V:=wP E;rw[U,Em] at V;unfold lN at J;rcases hc with rfl|rfl;rw[iP,show wv a+wv b=kC z by omega,<- quz U E] at J;refine cond_false rfl (qpU (o.at (i:=1) rfl) U E fun w7 f7=>?_);refine (o.q7 f7).st' 2 rfl _ (iI rfl) rfl (zM _) fun w8 o _=>oC o 2 rfl (_,_) rfl (J w8 o.fr);rw[iN] at J;exact cond_true rfl (o.st' 2 rfl _ (iI rfl) rfl (zM _) fun w8 o _=>oC o 2 rfl (0,0) rfl (J w8 o.fr))
def qtW(ha:my a)(hb:my b)(J:∀w',Fr [] w w'->K ((pO a b).getD (0,0),(pO a b).isSome) w'): cW 90 [c8 a.1 a.2,c8 b.1 b.2] [.agg da,.one .bool] w K:=by
 refine qiT<|oB (oE [] w) fun r1 w1 _ f1 o=>oB o fun r3 w2 _ f2 o=>oB o fun r5 w3 _ f3 o=>?_;have o:=o.drew;refine oC o 2 rfl a rfl (oC o 1 rfl b rfl (Do ha.1 ha.2 fun rx w4 hx f4 nx=>?_));have o:=DO o f4 hx nx;refine iM (o.cells 2 rfl rfl) (Do hb.1 hb.2 fun ry w5 hy f5 ny=>?_);have o:=DO o f5 hy ny;have G:=lW a;have O:=lW b;have Q:=oQ a;have R:=oQ b;have vx:=Er ha;have vy:=Er hb;generalize ag:iA (a.1,a.2)=x at o;generalize ah:iA (b.1,b.2)=y at o;rw[show iA a=x from ag] at G Q vx;rw[show iA b=y from ah] at O R vy;refine jT (fun t w'=>∃j:Nat,∃z:List Int,∃c:Int,t=(c,(15:Int)-j)/\j<=16/\z.length=j/\eS z/\(c=0\/c=1)/\kC z-c*256^j=kC (x.drop (16-j))-kC (y.drop (16-j))/\dR [] w w' [(ry,.cells (lK y) vH (0,0)),(rx,.cells (lK (x.take (16-j)++z)) vH (0,0)),(r5,.cells cz oe (0,0)),(r3,.cells #[.int .u64 b.1,.int .u64 b.2] oe (0,0)),(r1,.cells #[.int .u64 a.1,.int .u64 a.2] oe (0,0))]) (fun t _=>(t.2+1).toNat) ⟨0,[],0,rfl,oM,rfl,(fun _ h=>nomatch h),.inl rfl,by rw[drop_of_length_le oJ,drop_of_length_le oJ];decide,by rw[xH,zS oJ];exact o⟩ ?_;rintro t w6 ⟨j,z,c,rfl,hj,U,I,hc,he,o⟩ X hX;dsimp only;apply eH<;>intro h;have C:j<16:=(by have:=zC h;omega);have o:=o.drew;have ei:0+((15:Int)-j).toNat*1=15-j:=oJ;have aj:=Q _ (zX (l:=x) (n:=15-j) oJ);have ak:=R _ (zX (l:=y) (n:=15-j) oJ);have dx:=Ei G C;have dy:=Ei O C;refine qa oJ oJ (oA o 1 rfl (x[15-j]' oJ) (Aq (by rw[ei];exact qsY G C)) (qa oJ oJ (oA o 0 rfl (y[15-j]' oJ) (Aq (by rw[ei];exact zA _)) ?_)));generalize x[15-j]' oJ=V at aj dx;generalize y[15-j]' oJ=yk at ak dy;rw[gd (V-yk) oJ,gd (V-yk-c) oJ,gd ((15:Int)-j-1) oJ];have key:∀(E v:Int) w',dR [] w w' [(ry,.cells (lK y) vH (0,0)),(rx,.cells (lK (x.take (16-j)++z)) vH (0,0)),(r5,.cells cz oe (0,0)),(r3,.cells #[.int .u64 b.1,.int .u64 b.2] oe (0,0)),(r1,.cells #[.int .u64 a.1,.int .u64 a.2] oe (0,0))]->(E=0\/E=1)->0<=v/\v<256->v+256 * -E=V-yk-c->idx ⟨pW rx,16,16⟩ ((15:Int)-j) 1 fun a=>Pt.st a [.i v] w' fun w2=>X (E,(15:Int)-j-1) w2:=fun E v w' o al hv hs=>by refine qa oJ oJ ?_;rw[ei];refine o.st' 1 rfl _ DJ rfl (by rw[ET,zF,yL];show 15-j+1<=_;omega) fun w7 o _=>hX _ _ ⟨j+1,v::z,E,by rw[show (15:Int)-((j+1:Nat):Int)=15-j-1 by omega],C,by rw[yI,U],fun u hu=>?_,al,?_,?_⟩ oN;rcases zG.1 hu with rfl|hu;exact hv;exact I u hu;rw[show 16-(j+1)=15-j by omega,dx,dy,AL,U];have m:=qA1 (P:=256^j) rfl hs;rw[Int.sub_mul,Int.sub_mul,Int.neg_mul] at m;omega;rw[qsZ G C] at o;rw[show 16-(j+1)=15-j by omega];exact o
 refine iQ (fun q w'=>∃E v,q=(E,v)/\dR [] w w' [(ry,.cells (lK y) vH (0,0)),(rx,.cells (lK (x.take (16-j)++z)) vH (0,0)),(r5,.cells cz oe (0,0)),(r3,.cells #[.int .u64 b.1,.int .u64 b.2] oe (0,0)),(r1,.cells #[.int .u64 a.1,.int .u64 a.2] oe (0,0))]/\(E=0\/E=1)/\(0<=v/\v<256)/\v+256 * -E=V-yk-c) ?_ ?_;apply eH<;>intro h;have h:=zC h;rw[gd (V-yk-c+256) oJ];exact⟨1,_,rfl,o,.inr rfl,oJ,oJ⟩;have h:=zB h;exact⟨0,_,rfl,o,.inl rfl,oJ,oJ⟩;rintro q w7 ⟨E,v,rfl,o,h1,h2,h3⟩;exact key E v w7 o h1 h2 h3;have C:j=16:=(by have:=zB h;omega);subst C;rw[Nat.sub_self,take_zero,xI] at o;rw[Nat.sub_self,xF,xF,vx,vy,Em] at he;have hv:=wP I;rw[U,Em] at hv;unfold pO at J;rcases hc with rfl|rfl;rw[iP,show wv a-wv b=kC z by omega,<- quz U I] at J;refine cond_false rfl (qpU (o.at (i:=1) rfl) U I fun w7 f7=>?_);refine (o.q7 f7).st' 2 rfl _ (iI rfl) rfl (zM _) fun w8 o _=>oC o 2 rfl (_,_) rfl (J w8 o.fr);rw[iN] at J;exact cond_true rfl (o.st' 2 rfl _ (iI rfl) rfl (zM _) fun w8 o _=>oC o 2 rfl (0,0) rfl (J w8 o.fr))
end
end
end
section
open Go Go.Pt List
open Go.IntKind (wrap)
variable {K:Int->WP}
structure qx where
 pb:Nat
 k:Nat
 v:Nat
 frm:Sl
 to:Sl
 st:Sl
 f1:Value
 f2:Value
 f3:Value
def qx.cells (x:qx):Array Value:=#[.pointer (some ⟨x.pb,0,none⟩),.i x.k,.i x.v,x.frm.v,x.to.v,x.st.v,x.f1,x.f2,x.f3]
def nJ (w:World) (cb:Nat) (x:qx):Prop:=∃T,w.heap[cb]?=some (.cells x.cells T (0,0))
def nJ.q8{S:List Nat}{w w':World}{cb:Nat}{x:qx}(h:nJ w cb x)(f:Fr S w w')(u:cb∉S):nJ w' cb x:=by obtain⟨T,h⟩:=h;exact⟨T,by rw[f.block cb (fJ h) u];exact h⟩
def nJ.q7{w w':World}{cb:Nat}{x:qx}(h:nJ w cb x)(f:Fr [] w w'):nJ w' cb x:=h.q8 f fun h=>nomatch h
def nJ.frm{w:World}{cb:Nat}{x:qx}{K:Sl->Prop}(h:nJ w cb x)(k:K x.frm):ld .slice (dc cb 3) w K:=by obtain⟨T,h⟩:=h;exact qI x.frm (kj h) k
def nJ.to{w:World}{cb:Nat}{x:qx}{K:Sl->Prop}(h:nJ w cb x)(k:K x.to):ld .slice (dc cb 4) w K:=by obtain⟨T,h⟩:=h;exact qI x.to (kj h) k
section
variable {w:World} {cb:Nat} {x:qx} {S:List Nat} {y:kV} {n:dN} {frm to:Key}
def qBv{i:Int}(hi:-1000000<=i/\i<=1000000)(h:K (i+1) w):cW 116 [dH cb,.i i] de w K:=by refine qjW ?_;rw[IntWalk.i64_in _ oJ];exact h
def qzU{i:Int}(hi:-1000000<=i/\i<=1000000)(h:K (i-1) w):cW 119 [dH cb,.i i] de w K:=by refine qhW ?_;rw[IntWalk.i64_in _ oJ];exact h
def qyf{ks:Sl}{key:Key}{K:Bool->WP}(h:nJ w cb x)(u:eF S w ks key)(C:eF S w x.to to)(E:eS key)(G:eS to)(I:K (decide (cmpL key to>0)) w):cW 118 [dH cb,ks.v] df w K:=by refine qhA<|gI (h.to ?_);exact CP u C E G I
def qyn{ks:Sl}{key:Key}{K:Bool->WP}(h:nJ w cb x)(u:eF S w ks key)(C:eF S w x.frm frm)(E:eS key)(G:eS frm)(I:K (decide (cmpL key frm<0)) w):cW 121 [dH cb,ks.v] df w K:=by refine qhB<|gI (h.frm ?_);exact CP u C E G I
def qys(h:nJ w cb x)(E:eO S w y n)(O:eF S w x.frm frm)(Q:eS frm)(R:gg n.J3)(U:n.J3.length<=1000000)(V:∀w',Fr [] w w'->K (kI n frm) w'):cW 117 [dH cb,.agg (eV y)] de w K:=by
 refine qiX<|oB (oE [] w) fun r w1 e1 f1 ho=>oA ho 0 rfl y.1 rfl ?_;have hd:=oF ho;have u:=f1.trans (Fr.refl [] w1).drew;have hy:y.1=n.Q1:=E.1;apply eH<;>intro G;have C:n.Q1=false:=(by rw[<- hy];simpa using G);refine oC hd 0 rfl y rfl<|gI ((h.q7 u).frm ?_);refine Cb (E.q7 u) (O.q7 u) Q R U fun I J=>?_
 have:=V I (u.trans J)
 rw[kI,if_neg (by rw[C];decide)] at this;exact this;have C:n.Q1=true:=(by rw[<- hy];simpa using G);refine oC hd 0 rfl y rfl<|gI ((h.q7 u).frm ?_);refine Ej (E.q7 u) (O.q7 u) Q R U fun I J=>?_
 have:=V I (u.trans J)
 rw[kI,if_pos C] at this;exact this
def qwt(h:nJ w cb x)(G:eO S w y n)(Q:eF S w x.to to)(R:eS to)(U:gg n.J3)(V:n.J3.length<=1000000)(kk:∀w',Fr [] w w'->K (iV n to) w'):cW 120 [dH cb,.agg (eV y)] de w K:=by
 refine qhX<|oB (oE [] w) fun r w1 e1 f1 ho=>?_;have I:=oF ho;have u:=f1.trans (Fr.refl [] w1).drew;have J:y.1=n.Q1:=G.1;refine oC I 0 rfl y rfl<|gI ((h.q7 u).to ?_);have ad:=AC n.J3 to;refine Cb (G.q7 u) (Q.q7 u) R U V fun w3 O=>?_;have C:=I.q7 O;refine oA C 0 rfl y.1 rfl ?_
 have:=kk w3 (u.trans O)
 apply eH<;>intro E;rw[iV,if_pos (by rw[<- J];exact E)] at this;rw[IntWalk.i64_in _ oJ];exact this;rw[iV,if_neg (by rw[<- J,E];decide)] at this;exact this
end
end
end Go.Proofs.YtfneoijhmknlnaaGreatDoor
namespace Go.Pt
section
open Go
def A5{P:Program}{w:World}{v:Value}{f:FuncId}{ra args:List Value}{ts:List iJ}{K:jy ts->WP}(h:v=.func (.func f) ra.toArray #[])(u:jd P f=false)(k:call P f (ra++args) ts w K):dW P v args ts w K:=by subst h;refine .inl ⟨f,ra++args,?_,k⟩;simp[Deferred.ofValue,invoke,AI u]
def Dn{S ι:Type}{B:(S->WP)->S->WP}{s:S}{w:World}(I:ι->S->WP)(m:ι->Nat)(i0:ι)(G:I i0 s w)(step:∀i s w,I i s w->∀X:S->WP,(∀h u w',I h u w'->m h<m i->X u w')->B X s w):loop S B s w:=by
 intro J O;have key:∀k i s w,m i=k->I i s w->J s w:=by
  intro k;induction k using Nat.strongRecOn with
  | _ k ih=>
   intro i s w Q R;exact O s w (step i s w R J fun h u w' C E=>ih (m h) (Q▸E) h u w' rfl C)
 exact key _ i0 s w rfl G
end
end Go.Pt
namespace Go.Proofs.YtfneoijhmknlnaaGreatDoor
section
open Go Go.Pt List
open Go.IntKind (wrap)
abbrev rS:=kV×k6
def Cq (x:kV) (i:Int):Array Value:=#[.bool x.1,x.2.1.v,x.2.2.1.v,x.2.2.2.v,.i i]
def jt (z:rS):List Value:=[.bool z.1.1,z.1.2.1.v,z.1.2.2.1.v,z.1.2.2.2.v,.i z.2.2]
def wK:∀z,(jt z).length=5:=fun _=>rfl
def qwH(z:rS):∀u∈jt z,u.oneCell'=true:=fun u h=>by unfold jt at h;simp only[zG,xX,or_false] at h;rcases h with rfl|rfl|rfl|rfl|rfl<;>rfl
section
variable {w w':World} {s:Sl} {zs:List rS} {z:rS} {SB:List Nat}
def Dp(h:eZ jt 5 w s (zs++[z]) SB):∃b u T,SB=[b]/\s.a=pW b/\w.heap[b]?=some (.cells u T (0,0))/\s.len=zs.length+1/\s.len<=s.cap/\s.cap*5<=u.size/\u.toList.take (zs.length*5+5)=zs.flatMap jt++jt z:=by rcases h with ⟨_,h,_⟩|⟨b,o,u,T,G,rfl,I,J,E,O,Q,C⟩;exact absurd h oL;rw[zF,xM] at E C;rw[xF,yQ,yH,flatMap_nil,xH,xU] at C;exact⟨b,u,T,G,I,J,E,O,oJ,C⟩
def qzg{b j:Nat}(h:eZ jt 5 w s (zs++[z]) [b])(I:j<5):w.cell? ⟨b,zs.length*5+j,none⟩=(jt z)[j]?:=by obtain⟨b',J,T,C,O,E,Q,R,U,G⟩:=Dp h;cases C;rw[kj E,<- xL];have u:=congrArg (·[zs.length*5+j]?) G;rw[xB,iP,yY (by rw[qZ wK];omega),qZ wK,vD] at u;exact u
def quI{K:Addr->Prop}(h:eZ jt 5 w s (zs++[z]) SB)(G:zs.length<=1000000)(u:∀b,SB=[b]->K ⟨b,zs.length*5,none⟩):idx s (wrap .i64 ((s.len:Int)-1)) 5 K:=by obtain⟨b,I,T,C,E,J,O,Q,R,U⟩:=Dp h;have e:wrap .i64 ((s.len:Int)-1)=(zs.length:Int):=(by rw[IntWalk.i64_in _ oJ];omega);rw[e];refine rM E ⟨oJ,oJ⟩ ?_;rw[zJ,xS];exact u b C
def qBe{b:Nat}{j:Int}{K:WP}(h:eZ jt 5 w s (zs++[z]) [b])(kk:∀w',eZ jt 5 w' s (zs++[(z.1,z.2.1,j)]) [b]->Fr [b] w w'->K w'):st ⟨b,zs.length*5+4,none⟩ [.i j] w K:=by
 obtain⟨b',cs,T,hB,h2,h3,h4,h5,h6,h7⟩:=Dp h;cases hB;have hm:(zs.flatMap jt++jt z).length=zs.length*5+5:=(by rw[zF,qZ wK];rfl);refine tk h3 _ rfl (by rfl) oO fun w' hb f=>kk w' (.inr ⟨b,0,_,T,rfl,rfl,h2,hb,by rw[zF,xM];exact h4,h5,by rw[nY];omega,?_⟩) f
 have:=qqM (cs:=cs) (M:=zs.flatMap jt++jt z) (i:=zs.length*5+4) (v:=.i j) (by rw[hm];omega) (by rw[hm];exact h7)
 rw[hm,set_append_right _ _ (by rw[qZ wK];omega),qZ wK,vD] at this;rw[xF,zF,xM,xU,yQ,yH,flatMap_nil,xH];exact this
def qAw{K:Sl->Prop}(h:eZ jt 5 w s (zs++[z]) SB)(R:zs.length<=1000000)(E:∀u,eZ jt 5 w u zs SB->K u):fV s none (some (wrap .i64 ((s.len:Int)-1))) none 5 K:=by obtain⟨b,G,T,I,J,O,U,V,h6,Q⟩:=Dp h;have e:wrap .i64 ((s.len:Int)-1)=(zs.length:Int):=(by rw[IntWalk.i64_in _ oJ];omega);rw[e];refine A0 ⟨oJ,oJ⟩ ?_;rw[zJ];refine E _ (.inr ⟨b,0,G,T,I,rfl,J,O,rfl,by dsimp only;omega,by dsimp only;omega,?_⟩);have C:=congrArg (List.take (zs.length*5)) Q;rw[take_take,xR oJ] at C;rw[xF,C,take_append_of_le_length (by rw[qZ wK];exact zM _)];exact zS (by rw[qZ wK];exact zM _)
end
def nc (cb:Nat) (down:Bool):Value:=.func (.func (if down then 119 else 116)) #[dH cb] #[]
def nG (cb:Nat) (down:Bool):Value:=.func (.func (if down then 120 else 117)) #[dH cb] #[]
def pi (cb:Nat) (down:Bool):Value:=.func (.func (if down then 121 else 118)) #[dH cb] #[]
def ku (down:Bool) (frm to:Key) (n:dN):Int:=if down then iV n to else kI n frm
def kE (down:Bool) (i:Int):Int:=if down then i-1 else i+1
def oh (down:Bool) (frm to key:Key):Bool:=if down then decide (cmpL key frm<0) else decide (cmpL key to>0)
structure gN (dbk pb:Nat) (FD:List Nat) (D:dM) (F:List Nat) (M:eQ) (k v:Nat) (frm to:Key) (down:Bool) (w0:World) (cb:Nat) (Y:List Nat) (w:World) (st:Sl) (SB:List Nat) (zs:List rS):Prop where
 cell:∃ sf sto,nJ w cb ⟨pb,k,v,sf,sto,st,nc cb down,nG cb down,pi cb down⟩/\eF (cb::(SB++Y)) w sf frm/\eF (cb::(SB++Y)) w sto to
 tw:TW dbk pb FD D 5000 w (cb::(SB++Y)) F M
 vj:eZ jt 5 w st zs SB
 nodes:∀ z∈zs,eO (cb::(SB++Y)) w z.1 z.2.1/\fZ z.2.1 k v
 EW:cb∉SB
 BT:cb∉Y
 zu:∀ b∈SB,b∉Y
 new:∀ b∈cb::SB,w0.heap.size<=b
 zh:eS frm
 H5:eS to
 BL:zs.length<=100000
section
variable {dbk pb:Nat} {FD F:List Nat} {D:dM} {M:eQ} {k v:Nat} {frm to:Key} {down:Bool} {w0 w w':World} {cb:Nat} {Y Y' SB SB':List Nat} {st st':Sl} {zs zs':List rS}
def gN.Q9(h:gN dbk pb FD D F M k v frm to down w0 cb Y w st SB zs)(f:Fr (cb::(SB++Y)) w w')(hc:∃R G T,w.heap[cb]?=some (.cells (qx.cells ⟨pb,k,v,R,G,st,nc cb down,nG cb down,pi cb down⟩) T (0,0))/\w'.heap[cb]?=some (.cells (qx.cells ⟨pb,k,v,R,G,st',nc cb down,nG cb down,pi cb down⟩) T (0,0)))(E:eZ jt 5 w' st' zs' SB')(hn:∀z∈zs',eO (cb::(SB'++Y')) w' z.1 z.2.1/\fZ z.2.1 k v)(V:∀b∈SB',b∈SB\/w.heap.size<=b)(hY:∀b∈Y',b∈Y\/w.heap.size<=b)(aa:∀b∈Y',b<w'.heap.size)(ab:∀b∈SB',b∉Y')(hl:zs'.length<=100000):gN dbk pb FD D F M k v frm to down w0 cb Y' w' st' SB' zs':=by
 obtain⟨R,G,⟨T,u⟩,ac,ad⟩:=h.cell;obtain⟨Q,I,T',e,U⟩:=hc;rw[e] at u;have e1:Q=R/\I=G:=by
  injection u with u
  injection u with u
  unfold qx.cells at u;simp only[Array.mk.injEq,List.cons.injEq,Value.slice.injEq,and_true,true_and] at u;obtain⟨⟨a1,a2,a3⟩,⟨b1,b2,b3⟩⟩:=u;exact⟨by cases R;cases Q;simp_all,by cases G;cases I;simp_all⟩
 obtain⟨rfl,rfl⟩:=e1;have al:=fJ e;have J:∀b∈cb::(SB'++Y'),b∈cb::(SB++Y)\/w.heap.size<=b:=fun b E=>by rcases zG.1 E with rfl|E;exact .inl oL;rcases zD.1 E with E|E;exact (V b E).imp (fun h=>by simp[h]) id;exact (hY b E).imp (fun h=>by simp[h]) id
 have ae:∀b∈cb::(SB'++Y'),b<w'.heap.size:=fun b C=>by rcases zG.1 C with rfl|C;exact fJ U;rcases zD.1 C with C|C;exact E.lt b C;exact aa b C
 have af:w0.heap.size<=cb:=h.new cb oL;refine⟨⟨Q,I,⟨T',U⟩,ac.q8 f J,ad.q8 f J⟩,h.tw.cN f ae J,E,hn,fun hm=>?_,fun hm=>?_,ab,fun b E=>?_,h.zh,h.H5,hl⟩;rcases V cb hm with O|O;exact h.EW O;omega;rcases hY cb hm with O|O;exact h.BT O;omega;rcases zG.1 E with rfl|E;exact af;rcases V b E with O|O;exact h.new b (by simp[O]);omega
def gN.at(h:gN dbk pb FD D F M k v frm to down w0 cb Y w st SB zs):∃C u T,w.heap[cb]?=some (.cells (qx.cells ⟨pb,k,v,C,u,st,nc cb down,nG cb down,pi cb down⟩) T (0,0)):=by obtain⟨C,u,⟨T,E⟩,_⟩:=h.cell;exact⟨C,u,T,E⟩
def gN.lt(h:gN dbk pb FD D F M k v frm to down w0 cb Y w st SB zs):∀b∈cb::(SB++Y),b<w.heap.size:=h.tw.sG
def gN.q8(h:gN dbk pb FD D F M k v frm to down w0 cb Y w st SB zs)(f:Fr Y w w')(C:∀b∈Y',b∈Y\/w.heap.size<=b)(E:∀b∈Y',b<w'.heap.size):gN dbk pb FD D F M k v frm to down w0 cb Y' w' st SB zs:=by
 obtain⟨U,G,T,I⟩:=h.at
 have J:=fJ I;have O:Fr (cb::(SB++Y)) w w':=f.mono fun b u _=>by simp[u]
 refine h.Q9 O ⟨U,G,T,I,by rw[f.block cb J h.BT];exact I⟩ (h.vj.q8 f h.zu) (fun z Q=>⟨(h.nodes z Q).1.q8 O fun b u=>?_,(h.nodes z Q).2⟩) (fun b u=>.inl u) C E (fun b u V=>?_) h.BL;rcases zG.1 u with rfl|u;exact .inl oL;rcases zD.1 u with u|u;exact .inl (by simp[u]);exact (C b u).imp (fun h=>by simp[h]) id;rcases C b V with R|R;exact h.zu b u R
 have:=h.lt b (by simp[u]);omega
def gN.q7(h:gN dbk pb FD D F M k v frm to down w0 cb Y w st SB zs)(f:Fr [] w w'):gN dbk pb FD D F M k v frm to down w0 cb Y w' st SB zs:=
 h.q8 (f.mono fun _ h=>nomatch h) (fun b u=>.inl u) fun b u=>yD (h.lt b (by simp[u])) f.size
def gN.drew(h:gN dbk pb FD D F M k v frm to down w0 cb Y w st SB zs):gN dbk pb FD D F M k v frm to down w0 cb Y w.drew st SB zs:=h.q7 (Fr.refl [] w).drew
def gN.qH{K:Sl->Prop}(h:gN dbk pb FD D F M k v frm to down w0 cb Y w st SB zs)(u:K st):ld .slice (dc cb 5) w K:=by
 obtain⟨G,C,T,E⟩:=h.at
 exact qI st (kj E) u
def gN.uO{K:WP}(h:gN dbk pb FD D F M k v frm to down w0 cb Y w st SB zs)(w1:World)(f:Fr SB w w1)(u:eZ jt 5 w1 st' zs' SB')(hn:∀z∈zs',z∈zs\/eO (cb::(SB'++Y)) w1 z.1 z.2.1/\fZ z.2.1 k v)(O:∀b∈SB',b∈SB\/w.heap.size<=b)(hl:zs'.length<=100000)(kk:∀w',gN dbk pb FD D F M k v frm to down w0 cb Y w' st' SB' zs'->Fr (cb::SB) w w'->K w'):Pt.st (dc cb 5) [st'.v] w1 K:=by
 obtain⟨R,E,T,U⟩:=h.at
 have V:=fJ U;have aa:w1.heap[cb]?=some (.cells (qx.cells ⟨pb,k,v,R,E,st,nc cb down,nG cb down,pi cb down⟩) T (0,0)):=(by rw[f.block cb V h.EW];exact U);have I:cb∉SB':=fun G=>by rcases O cb G with C|C;exact h.EW C;omega
 refine tk aa (qx.cells ⟨pb,k,v,R,E,st',nc cb down,nG cb down,pi cb down⟩) rfl rfl (zO rfl) fun w2 ab f2=>?_;have Q:Fr (cb::SB) w w2:=(f.mono fun b u _=>by simp[u]).j6 f2 fun b u=>.inl (by rw[zE.1 u];simp);refine kk w2 (h.Q9 (Q.mono fun b u _=>by rcases zG.1 u with rfl|u<;>simp[*]) ⟨R,E,T,U,ab⟩ (u.q8 f2 fun b u G=>I (by rw[zE.1 G] at u;exact u)) (fun z hz=>?_) O (fun b u=>.inl u) (fun b u=>yD (h.lt b (by simp[u])) Q.size) (fun b u G=>?_) hl) Q;have J:∀b∈cb::(SB'++Y),b∈cb::(SB++Y)\/w.heap.size<=b:=fun b u=>by rcases zG.1 u with rfl|u;exact .inl oL;rcases zD.1 u with u|u;exact (O b u).imp (fun h=>by simp[h]) id;exact .inl (by simp[u])
 rcases hn z hz with C|C;exact⟨(h.nodes z C).1.q8 (Q.mono fun b u _=>by rcases zG.1 u with rfl|u<;>simp[*]) J,(h.nodes z C).2⟩;exact⟨C.1.q8 (f2.mono fun b u _=>by rw[zE.1 u];simp) fun b u=>.inl u,C.2⟩;rcases O b u with C|C;exact h.zu b C G
 have:=h.lt b (by simp[G]);omega
def gN.wR{z:rS}{b:Nat}{j:Int}{K:WP}(h:gN dbk pb FD D F M k v frm to down w0 cb Y w st [b] (zs++[z]))(Q:∀w',gN dbk pb FD D F M k v frm to down w0 cb Y w' st [b] (zs++[(z.1,z.2.1,j)])->Fr [b] w w'->K w'):Pt.st ⟨b,zs.length*5+4,none⟩ [.i j] w K:=by
 refine qBe h.vj fun w' R f=>Q w' ?_ f;obtain⟨U,G,T,I⟩:=h.at
 have J:cb∉[b]:=h.EW;have O:Fr (cb::([b]++Y)) w w':=f.mono fun x u _=>by rw[zE.1 u];simp
 have C:∀x∈cb::([b]++Y),x∈cb::([b]++Y)\/w.heap.size<=x:=fun x u=>.inl u;refine h.Q9 O ⟨U,G,T,I,by rw[f.block cb (fJ I) J];exact I⟩ R (fun y E=>?_) (fun x u=>.inl u) (fun x u=>.inl u) (fun x u=>yD (h.lt x (by simp[u])) f.size) h.zu (by have:=h.BL;rw[zF] at this⊢;exact this);rcases zD.1 E with E|E;exact⟨(h.nodes y (zH _ E)).1.q8 O C,(h.nodes y (zH _ E)).2⟩;rw[zE.1 E];exact⟨eO.q8 (h.nodes z oL).1 O C,(h.nodes z oL).2⟩
end
end
end Go.Proofs.YtfneoijhmknlnaaGreatDoor
namespace Go.Pt
section
open Go
def qyQ{o:Obj}{w:World}{H:WP}{R:Nat->WP}(h:Pt.new o w R)(u:∀w',Fr [] w w'->H w'):Pt.new o w fun r w1=>held [H] w1 (R r w1):=⟨u _ ((Fr.refl [] w).alloc o),h⟩
end
end Go.Pt
namespace Go.Proofs.YtfneoijhmknlnaaGreatDoor
section
open Go Go.Pt List
open Classical
abbrev FT:TypeId:=231
def qAP:∃i,Tryz.prog.info? FT=some i/\i.zero=some (.agg c6)/\i.size=5/\i.bytes=88:=uj oK
def qA7{w:World}{s:Sl}{zs:List rS}{SB:List Nat}{x:kV}{n:dN}{i:Int}{H:WP}{K:Sl->WP}(h:eZ jt 5 w s zs SB)(Q:zs.length<=1000000)(G:∀w',Fr [] w w'->H w')(I:∀E B' w',eZ jt 5 w' E (zs++[(x,n,i)]) B'->Fr SB w w'->(∀b∈B',b∈SB\/w.heap.size<=b)->K E w'): Pt.new (.cells (Cq x i) FT) w fun r w1=>held [H] w1 (Pt.run dd ((Builtin.append_ #[222,222] 222 #[s.v,.slice (pW r) 1 1]).run Tryz.prog w1) K):=by obtain⟨j,J,O,u,C⟩:=qAP;exact qyQ (eZ.push (e:=FT) (x:=((x,n,i):rS)) h wK (qwH _) oK J O u rfl rfl (by rw[C];omega) oJ I) G
section
variable {dbk pb:Nat} {FD F:List Nat} {D:dM} {M:eQ} {k v:Nat} {frm to:Key} {down:Bool} {w0 w wA:World} {cb:Nat} {Y SB:List Nat} {st:Sl} {zs:List rS} {x:kV} {n:dN} {i:Int}
def qrY{S:List Nat}{K:Int->WP}(h:gN dbk pb FD D F M k v frm to down w0 cb Y w st SB zs)(u:eO (cb::(SB++Y)) w x n)(C:gg n.J3)(E:n.J3.length<=1000000)(G:∀w',Fr [] w w'->K (ku down frm to n) w'):dW Tryz.prog (nG cb down) [.agg (eV x)] de w K:=by
 obtain⟨R,J,I,O,Q⟩:=h.cell;cases down with
 | false=>exact A5 (ra:=[dH cb]) rfl oK (qys I u O h.zh C E G)
 | true=>exact A5 (ra:=[dH cb]) rfl oK (qwt I u Q h.H5 C E G)
def qxW{K:Int->WP}(hi:-1000000<=i/\i<=1000000)(h:K (kE down i) w):dW Tryz.prog (nc cb down) [.i i] de w K:=by
 cases down with
 | false=>exact A5 (ra:=[dH cb]) rfl oK (qBv hi h)
 | true=>exact A5 (ra:=[dH cb]) rfl oK (qzU hi h)
def qAl{ks:Sl}{key:Key}{K:Bool->WP}(h:gN dbk pb FD D F M k v frm to down w0 cb Y w st SB zs)(u:eF (cb::(SB++Y)) w ks key)(C:eS key)(E:K (oh down frm to key) w):dW Tryz.prog (pi cb down) [ks.v] df w K:=by
 obtain⟨Q,I,G,J,O⟩:=h.cell;cases down with
 | false=>exact A5 (ra:=[dH cb]) rfl oK (qyf G u O C h.H5 E)
 | true=>exact A5 (ra:=[dH cb]) rfl oK (qyn G u J C h.zh E)
def gN.j8{T:List Nat}{L:List (Nat×Obj)}(C:gN dbk pb FD D F M k v frm to down w0 cb Y wA st SB zs)(h:dR T wA w L)(E:∀b∈T,b∈Y):gN dbk pb FD D F M k v frm to down w0 cb Y w st SB zs:=
 C.q8 (h.fr.mono fun b u _=>E b u) (fun b u=>.inl u) fun b u=>yD (C.lt b (by simp[u])) h.fr.size
def eO.zj{T:List Nat}{L:List (Nat×Obj)}(C:eO (cb::(SB++Y)) wA x n)(h:dR T wA w L)(E:∀b∈T,b∈Y):eO (cb::(SB++Y)) w x n:=
 C.q8 (h.fr.mono fun b u _=>by simp[E b u]) fun b u=>.inl u
def qqE{T:List Nat}{C E:Nat}{X:Int->WP}{K:Unit->WP}(hA:gN dbk pb FD D F M k v frm to down w0 cb Y wA st SB zs)(hN:eO (cb::(SB++Y)) wA x n)(h:dR T wA w [(C,.cells (Cq fU 0) FT (0,0)),(E,.cells (eV x) ND (0,0))])(hT:∀b∈T,b∈Y)(hl:zs.length+1<=100000)(ag:fZ n k v)(hI:n.Q1=false->∃j:Nat,i=j/\j<n.J6.length)(G:∀w' st' SB',gN dbk pb FD D F M k v frm to down w0 cb Y w' st' SB' (zs++[(x,n,i)])->Fr (cb::(SB++T)) wA w'->(∀b∈SB',b∈SB\/wA.heap.size<=b)->if n.Q1 then K () w' else X (n.J6.getD i.toNat 0) w'): DY (pW cb) K C x i w E X:=by
 unfold DY;refine oD h 0 rfl (Cq x i) fun w1 h f1=>?_;have h:=oF h;have hC:=hA.j8 h hT;refine gI (hC.qH ?_);refine oC h 0 rfl (x.1,x.2.1,x.2.2.1,x.2.2.2,i) rfl<|qA7 (x:=x) (n:=n) (i:=i) hC.vj oJ (fun w' f=>?_) fun s' B' w2 ah f2 n2=>?_;obtain⟨sf,ax,T,J⟩:=(hC.q7 f).at
 exact kj J;refine gI ?_;have O:=fJ (h.at (i:=1) rfl);have Q:=fJ (h.at (i:=0) rfl);have aj:=h.fr.size;have ak:=hN.zj h hT;refine hC.uO w2 f2 ah (fun z hz=>(zD.1 hz).imp id fun hz=>?_) n2 (by rw[zF];exact hl) fun R h3 f3=>?_;rw[zE.1 hz];refine⟨ak.q8 (f2.mono fun b u _=>by simp[u]) fun b u=>?_,ag⟩;rcases zG.1 u with rfl|u;exact .inl oL;rcases zD.1 u with u|u;exact (n2 b u).imp (fun h=>by simp[h]) id;exact .inl (by simp[u]);have f4:Fr (cb::(SB++T)) wA R:=(h.fr.mono fun b u _=>by simp[u]).trans (f3.mono fun b u _=>by rcases zG.1 u with rfl|u<;>simp[*]);have U:∀r,r∈T\/wA.heap.size<=r->r∉cb::SB:=fun r V hm=>by
  rcases V with V|V;rcases zG.1 hm with rfl|hm;exact hA.BT (hT _ V);exact hA.zu r hm (hT r V)
  have:=hA.lt r (by rcases zG.1 hm with rfl|hm<;>simp[*])
  omega
 have ab:R.heap[E]?=some (.cells (eV x) ND (0,0)):=(by rw[f3.block E O (U E (h.own (E,.cells (eV x) ND (0,0)) oL))];exact h.at (i:=1) rfl);have an:R.heap[C]?=some (.cells (Cq x i) FT (0,0)):=(by rw[f3.block C Q (U C (h.own (C,.cells (Cq x i) FT (0,0)) oL))];exact h.at (i:=0) rfl);have G:=G R s' B' h3 f4 fun b u=>(n2 b u).imp id fun h=>zL aj h;have I:x.1=n.Q1:=hN.1;refine jM ab x.1 rfl ?_;apply eH<;>intro J;rw[<- I,J,if_pos rfl] at G;exact G;rw[<- I,J,if_neg oM] at G;refine jM ab x.2.2.2 rfl<|jM an i rfl ?_;obtain⟨j,rfl,hj⟩:=hI (by rw[<- I,J]);have ac:dX jc 1 (cb::(B'++Y)) R x.2.2.2 n.J6:=(h3.nodes (x,n,(j:Int)) oL).1.2.2.2.2;refine dX.get ac j rfl (zA hj) (y:=n.J6[j]) rfl ?_;rw[zJ,yR,zA hj] at G;exact G
def qxo{T:List Nat}{J:Nat}{X:Int->WP}{K:Unit->WP}(E:gN dbk pb FD D F M k v frm to down w0 cb Y wA st SB zs)(O:eO (cb::(SB++Y)) wA x n)(h:dR T wA w [(J,.cells (eV fU) ND (0,0))])(C:∀b∈T,b∈Y)(V:zs.length+1<=100000)(u:fZ n k v)(hI:n.Q1=false->∃j:Nat,ku down frm to n=j/\j<n.J6.length)(kk:∀w' st' SB',gN dbk pb FD D F M k v frm to down w0 cb Y w' st' SB' (zs++[(x,n,ku down frm to n)])->Fr (cb::(SB++T)) wA w'->(∀b∈SB',b∈SB\/wA.heap.size<=b)->if n.Q1 then K () w' else X (n.J6.getD (ku down frm to n).toNat 0) w'): BG (pW cb) K J (x,0) w X:=by
 unfold BG;refine oD h 0 rfl (eV x) fun w1 h f1=>?_;have h:=oF h;refine cond_false rfl<|⟨?_,?_⟩;refine oC h 0 rfl x rfl ?_;obtain⟨Q,G,T,I⟩:=(E.j8 h C).at
 refine gI (qI (nG cb down) (kj I) ?_);refine oC h 0 rfl x rfl<|qrY (S:=[]) (E.j8 h C) (O.zj h C) u.2.2.1 (by have:=(wo u).1;omega) fun w2 R=>?_;have h:=h.q7 R;refine iM (h.cells 0 rfl rfl)<|oB h fun U w3 e3 f3 h=>?_;obtain⟨Q,G,T,I⟩:=(E.j8 h C).at
 exact mX (h.cells 1 rfl rfl) (kj I) (h.cells 1 rfl rfl)<|qqE E O h C V u hI kk;refine oC h 0 rfl x rfl ?_;obtain⟨Q,G,T,I⟩:=(E.j8 h C).at
 refine gI (qI (nG cb down) (kj I) ?_);refine oC h 0 rfl x rfl<|oB h fun U w3 e3 f3 h=>?_;obtain⟨Q,G,T,I⟩:=(E.j8 h C).at
 refine mX (h.cells 1 rfl rfl) (kj I) (h.cells 1 rfl rfl)<|qrY (S:=[]) (E.j8 h C) (O.zj h C) u.2.2.1 (by have:=(wo u).1;omega) fun w2 R=>?_;have h:=h.q7 R;exact iM (h.cells 1 rfl rfl)<|qqE E O h C V u hI kk
def qp0{s:iO}{h:Nat}{K:Unit->WP}(hs:Has D M k v h s)(hu:iy s.Q8)(hC:gN dbk pb FD D F M k v frm to down w0 cb Y w st SB zs)(hl:zs.length+h+1<=100000)(kk:∀w' st' SB' zs',gN dbk pb FD D F M k v frm to down w0 cb Y w' st' SB' (zs++zs')->jb D k v M (ku down frm to) (h+1) s.Q8=some (zs'.map (·.2))->Fr (cb::SB) w w'->(∀b∈SB',b∈SB\/w.heap.size<=b)->K () w'): cW 122 [dH cb,.u s.Q8] [] w K:=by
 refine qhZ<|Dn (fun (hh:Nat) p w'=>∃(sg:iO) (E:List rS) (ac:Sl) (J:List Nat),p=sg.Q8/\iy sg.Q8/\Has D M k v hh sg/\gN dbk pb FD D F M k v frm to down w0 cb Y w' ac J (zs++E)/\(jb D k v M (ku down frm to) (hh+1) sg.Q8).map (E.map (·.2)++·)=jb D k v M (ku down frm to) (h+1) s.Q8/\E.length+hh=h/\Fr (cb::SB) w w'/\∀b∈J,b∈SB\/w.heap.size<=b) id h ⟨s,[],st,SB,rfl,hu,hs,by rw[xH];exact hC,oL,oL,.refl _ _,fun b C=>.inl C⟩ ?_;rintro hh p w1 ⟨sg,E,ac,J,rfl,aG,ar,U,au,aZ,f1,n1⟩ X hX;have I:∃n,dL D M k v sg.Q8=(n,0)/\(n.Q1=true->hh=0)/\(n.Q1=false->∃h2 Q,hh=h2+1/\n=dO Q/\∃hj:eA n.J3 (if down then to else frm)<Q.length,n.J6.getD (eA n.J3 (if down then to else frm)) 0=Q[eA n.J3 (if down then to else frm)].2.Q8/\Has D M k v h2 Q[eA n.J3 (if down then to else frm)].2):=by
  cases hh with
  | zero=>
   obtain⟨h1,h2,h3,h4⟩:=ar;exact⟨_,h3.load h4,fun _=>rfl,(fun e=>nomatch e)⟩
  | succ h2=>
   obtain⟨Q,e1,hj,e2,e3⟩:=qyI (key:=if down then to else frm) ar;exact⟨_,e1,(fun e=>nomatch e),fun _=>⟨h2,Q,rfl,rfl,hj,e2,e3⟩⟩
 obtain⟨n,I,aI,av⟩:=I;have aw:=Cp I;obtain⟨l1,l2,l3,l4,l5⟩:=wo aw;have ak:(dJ D M sg.Q8).2.2=0/\i7 (dJ D M sg.Q8).1 (dJ D M sg.Q8).2.1 k v=(n,0):=by unfold dL at I;split at I;rename_i ad;exact absurd (vB I).2 ad;rename_i he;exact⟨oJ,I⟩
 have ax:eS (dJ D M sg.Q8).2.1:=qic U.tw.lim.ok (fun e he=>(U.tw.wf.body e he).2.2) _;have aJ:(zs++E).length+1<=100000:=(by rw[zF];omega);have hI:n.Q1=false->∃j:Nat,ku down frm to n=j/\j<n.J6.length:=fun e=>by
  obtain⟨h2,Q,_,rfl,hj,_⟩:=av e;refine⟨_,?_,by show _<(Q.map _).length;rw[zK];exact hj⟩;cases down with
  | false=>
   show kI (dO Q) frm=_;exact if_neg (fun g=>nomatch g)
  | true=>
   show iV (dO Q) to=_;exact if_neg (fun g=>nomatch g)
 have ag:∀(x:kV) (Y' T:List Nat) (wA wB:World) (r:Nat),gN dbk pb FD D F M k v frm to down w0 cb Y' wA ac J (zs++E)->eO (cb::(J++Y')) wA x n->dR T wA wB [(r,.cells (eV fU) ND (0,0))]->(∀b∈T,b∈Y')->(∀b∈T,w1.heap.size<=b)->(∀b∈Y,b∈Y')->Fr [] w1 wA->BG (pW cb) K r (x,0) wB X:=by
  intro x Y' T wA wB r hA hN hO hT aL hY fA;refine qxo hA hN hO hT aJ aw hI fun w2 al ae G f2 n2=>?_;have G:gN dbk pb FD D F M k v frm to down w0 cb Y w2 al ae (zs++(E++[(x,n,ku down frm to n)])):=by rw[<- zV];exact G.q8 (.refl _ _) (fun b C=>.inl (hY b C)) fun b C=>G.lt b (by simp[hY b C])
  have f3:Fr (cb::SB) w w2:=f1.j6 ((fA.mono fun _ h=>nomatch h).trans f2) fun b C=>by rcases zG.1 C with rfl|C;exact .inl oL;rcases zD.1 C with C|C;exact (n1 b C).imp (fun h=>by simp[h]) id;exact .inr (zL f1.size (aL b C))
  have n3:∀b∈ae,b∈SB\/w.heap.size<=b:=fun b C=>by rcases n2 b C with h|h;exact n1 b h;exact .inr (zL f1.size (zL fA.size h))
  by_cases hlf2:n.Q1=true;rw[if_pos hlf2];obtain rfl:=aI hlf2;refine kk w2 al ae (E++[(x,n,ku down frm to n)]) G ?_ f3 n3;rw[<- au,jb,I,if_neg (fun h=>h rfl),if_pos hlf2];simp
  ·rw[if_neg hlf2];have ay:n.Q1=false:=(oP hlf2);obtain⟨h2,Q,rfl,ad,hj,am,hk⟩:=av ay;have az:ku down frm to n=((eA n.J3 (if down then to else frm):Nat):Int):=by
    cases down with
    | false=>
     show kI n frm=_;exact if_neg hlf2
    | true=>
     show iV n to=_;exact if_neg hlf2
   rw[az,zJ,am];refine hX h2 _ w2 ⟨_,E++[(x,n,ku down frm to n)],al,ae,rfl,?_,hk,G,?_,by rw[zF,xM];omega,f3,n3⟩ (Nat.lt_succ_self _);rw[<- am];have aA:eA n.J3 (if down then to else frm)<n.J6.length:=(by rw[ad];show _<(Q.map _).length;rw[zK,<- ad];exact hj);rw[yR,zA aA];exact hN.2.1.2.2 _ (zX aA)
   ·rw[<- au];conv=>rhs;rw[jb,I,if_neg (fun h=>h rfl),if_neg hlf2]
    dsimp only;rw[az,zJ,am,Option.map_map];simp[Function.comp_def]
 obtain⟨sf,an,T,R⟩:=U.at
 refine gI (qI (pW pb) (kj R) ?_);refine TW.read U.tw aG fun sb w2 aB f2=>?_;have G:=(U.q7 f2).drew;refine cond_false (by dsimp only;rw[ak.1];rfl) ?_;obtain⟨sf,an,T,R⟩:=G.at
 have V:=G.lt;refine⟨?_,?_⟩;refine gI (qI (k:Int) (kj R) ?_);refine gI (qI (v:Int) (kj R) ?_);refine HO (k:=k) (v:=v) (aB [] fun _ h=>nomatch h) ax fun x B w3 hN f3 ao=>?_;rw[ak.2] at hN⊢;have O:=G.q7 f3;refine oB (oE [] w3) fun r w4 e4 f4 h=>?_;obtain⟨sf,an,T,R⟩:=(O.q7 f4).at
 refine ka (kj R) (kj R)<|ag x Y [] w3 w4 r O (hN.rd (fun b C hm=>?_) fun b C=>.inl ?_) h (fun _ h=>nomatch h) (fun _ h=>nomatch h) (fun b C=>C) (f2.drew.trans f3)
 have:=ao b C;have:=V b hm;omega
 have:b<w2.heap.size:=V b C;exact zH _ (mem_range.2 this);refine gI (qI (k:Int) (kj R) ?_);refine gI (qI (v:Int) (kj R) ?_);refine oB (oE [] w2.drew) fun r w3 e3 f3 h=>?_;have aO:=fJ (h.at (i:=0) rfl);have O:gN dbk pb FD D F M k v frm to down w0 cb (r::Y) w3 ac J (zs++E):=G.q8 (f3.mono fun _ h=>nomatch h) (fun b C=>(zG.1 C).elim (fun e=>.inr (by rw[e,e3];exact zM _)) .inl) fun b C=>by rcases zG.1 C with rfl|C;exact aO;exact yD (V b (by simp[C])) f3.size
 obtain⟨sf,an,T,R⟩:=O.at
 refine ka (kj R) (kj R)<|HO (k:=k) (v:=v) (dX.q7 (w:=w2.drew) (aB [] fun _ h=>nomatch h) f3) ax fun x B w4 hN f4 ao=>?_;rw[ak.2] at hN⊢;have ai:=O.lt;refine ag x (r::Y) [r] w4 w4 r (O.q7 f4) (hN.rd (fun b C hm=>?_) fun b C=>.inl ?_) (DX ((h.q7 f4).at (i:=0) rfl)) (fun b C=>by rw[zE.1 C];simp) (fun b C=>?_) (fun b C=>by simp[C]) ((f2.drew.trans f3).trans f4)
 have:=ao b C;have:=ai b hm;omega
 exact zH _ (mem_range.2 (ai b C));rw[zE.1 C,e3];exact f2.size
end
end
section
open Go Go.Pt List
open Go.IntKind (wrap)
open Classical
section
variable {dbk pb:Nat} {FD F:List Nat} {D:dM} {M:eQ} {k v:Nat} {frm to:Key} {down:Bool} {w0 w wA:World} {cb:Nat} {Y SB:List Nat} {st:Sl} {zs:List rS}
def gN.li{c:Cell}{b j:Nat}{z:rS}{K:c.El->Prop}(h:gN dbk pb FD D F M k v frm to down w0 cb Y w st [b] (zs++[z]))(u:j<5)(x:c.El)(C:(jt z)[j]?=some (c.mk x))(E:K x):ld c ⟨b,zs.length*5+j,none⟩ w K:=
 qI x ((qzg h.vj u).trans C) E
def qwu{h:Nat}{K:Unit->WP}(hp:Path D M k v (kE down) h (zs.map (·.2)))(hC:gN dbk pb FD D F M k v frm to down w0 cb Y w st SB zs)(kk:∀w' st' SB' zs',gN dbk pb FD D F M k v frm to down w0 cb Y w' st' SB' zs'->zs'.map (·.2)=(iX D k v M (ku down frm to) (kE down) h (zs.map (·.2))).getD []->Fr (cb::SB) w w'->(∀b∈SB',b∈SB\/w.heap.size<=b)->K () w'): cW 123 [dH cb] [] w K:=by
 refine qhY ?_;have J:=hp.len;have aR:=hC.BL;rw[zK] at J;refine Dn (fun (V:List k6) (_:PUnit) w'=>∃(u:List rS) (z:rS) (C:List k6) (h1:Nat) (aj:Sl) (aa:List Nat),u.map (·.2)=V/\gN dbk pb FD D F M k v frm to down w0 cb Y w' aj aa (u++[z])/\zs.map (·.2)=V++C/\V.length+h1=h/\iX D k v M (ku down frm to) (kE down) h1 C=none/\Fr (cb::SB) w w'/\∀b∈aa,b∈SB\/w.heap.size<=b) List.length (zs.map (·.2)).dropLast ?_ ?_
 ·have I:zs≠[]:=fun e=>by rw[e] at J;simp at J
  have U:=(vA I).symm;refine⟨zs.dropLast,zs.getLast I,[(zs.getLast I).2],0,st,SB,by rw[map_dropLast],by rw[<- U];exact hC,?_,by simp;omega,rfl,.refl _ _,fun b G=>.inl G⟩;conv=>lhs;rw[U]
  simp
 rintro V _ w1 ⟨u,z,C,h1,aj,aa,rfl,ab,U,hh,hn,f1,n1⟩ X hX;have ar:=ab.BL;rw[zF,xM] at ar;have aD:aj.len=u.length+1:=(by rw[ab.vj.len,zF];rfl);refine gI (ab.qH (cond_true (by rw[aD];exact yA oJ) ?_));have ac:=ab.drew;refine gI (ac.qH ?_);refine gI (ac.qH ?_);refine qAw ac.vj oJ fun s2 av=>gI<|ac.uO w1.drew (.refl _ _) av (fun z U=>.inl (zH _ U)) (fun b G=>.inl G) oJ fun w2 ak f2=>?_;have aw:Fr (cb::SB) w w2:=f1.j6 ((Fr.refl _ w1).drew.trans f2) fun b G=>by rcases zG.1 G with rfl|G;exact .inl oL;exact (n1 b G).imp (fun h=>by simp[h]) id
 refine gI (ak.qH ?_);have ax:s2.len=u.length:=av.len;apply eH<;>intro hc;have hc:(s2.len:Int)=0:=yP.1 hc;have e0:u=[]:=length_eq_zero_iff.1 oJ;subst e0;refine kk w2 s2 aa [] ak ?_ aw n1;rw[U,map_nil,xI];have:h1=h:=(oP hh);rw[<- this,hn];rfl;have hc:¬(s2.len:Int)=0:=zR.1 hc;have I:u≠[]:=fun e=>by rw[e] at ax;simp at ax;omega
 obtain⟨O,y,rfl⟩:∃O y,u=O++[y]:=⟨u.dropLast,u.getLast I,(vA I).symm⟩;rw[xN,xO,map_nil,zV,singleton_append] at U;rw[xN,xO,map_nil,zF,xM] at hh;have ad:(O.map (·.2)).length+(h1+1)=h:=oJ;have al:Path D M k v (kE down) (h1+1) (y.2::C):=by rw[U,<- ad] at hp;exact hp.drop
 obtain⟨E,i,up,ey,a1,a2,az,_⟩:=al;obtain⟨yx,yf⟩:=y;have aE:yf=(dO E,i):=(vC ey).1;subst aE;have ae:=ak.drew;rw[zF,xM] at ar;refine gI (ae.qH ?_);refine gI (ae.qH ?_);refine quI ae.vj oJ fun b hB=>?_;subst hB;have af:=ae.drew;obtain⟨sf,a5,T,aF⟩:=af.at
 have an:=af.nodes (yx,dO E,i) oL;have ag:(dO E).J6.length=E.length:=(by show (E.map (·.2.Q8)).length=_;rw[zK]);have aV:E.length<=498:=(by rw[<- ag];exact (wo an.2).2.2.1);refine gI (qI (nc cb down) (kj aF) ?_);refine af.li (j:=4) oM i rfl<|qxW oJ ?_;have aW:-1<=kE down i/\kE down i<=1000000:=(by unfold kE;split<;>omega);refine af.wR fun w3 aG f3=>?_;have Q:=aG.drew;have ao:Fr (cb::SB) w w3:=aw.j6 (((Fr.refl _ w2).drew.drew).trans f3) fun b' G=>by rw[zE.1 G];exact (n1 b oL).imp (fun h=>by simp[h]) id
 have aH:yx.2.2.2.len=E.length:=(by rw[an.1.2.2.2.2.1,ag]);have R:=qvI (x:=(dO E,i)) hn;refine iQ (fun q w'=>q=decide (0<=kE down i/\kE down i<E.length)/\w'=w3.drew) ?_ ?_;refine Q.li (j:=4) oM (kE down i) rfl ?_;apply eH<;>intro h;have h:=zC h;exact Q.li (j:=4) oM (kE down i) rfl<|Q.li (j:=3) oM yx.2.2.2 rfl<|⟨decide_eq_decide.2 (by rw[aH];omega),rfl⟩;have h:=zB h;exact⟨(zU fun g=>h g.1).symm,rfl⟩;rintro q w4 ⟨rfl,rfl⟩;have ah:=Q.drew;apply eH<;>intro h;obtain⟨h5,h6⟩:=zC h;obtain⟨j,hj⟩:∃j:Nat,kE down i=j:=⟨(kE down i).toNat,oJ⟩;have aA:j<E.length:=oJ;refine ah.li (j:=3) oM yx.2.2.2 rfl<|ah.li (j:=4) oM (kE down i) rfl ?_;have aJ:dX jc 1 _ w3.drew.drew yx.2.2.2 (dO E).J6:=(ah.nodes (yx,dO E,kE down i) oL).1.2.2.2.2;have ap:(dO E).J6[j]?=some E[j].2.Q8:=(by show (E.map (·.2.Q8))[j]?=_;rw[zQ,zA aA];rfl);refine dX.get aJ j hj ap (y:=E[j].2.Q8) rfl ?_;refine qp0 (az j hj aA) (an.1.2.1.2.2 _ (yF ap)) ah (by rw[zF,xM];rw[zK] at ad;omega) fun w5 aK aL aM aN aO f5 n5=>kk w5 aK aL _ aN ?_ (ao.j6 ((Fr.refl _ w3).drew.drew.trans f5) fun b' G=>?_) fun b' G=>?_;have e1:iX D k v M (ku down frm to) (kE down) (h1+1) ((dO E,i)::C)=some ((dO E,kE down i)::aM.map (·.2)):=(by rw[R,uQ,if_pos ⟨by dsimp only;omega,by dsimp only;rw[ag];exact h6⟩];dsimp only;rw[hj,zJ,yR,ap];simp only[xV];rw[aO];rfl);rw[U,<- ad,qqs e1];simp;rcases zG.1 G with rfl|G;exact .inl oL;exact (n1 b' G).imp (fun h=>by simp[h]) id;rcases n5 b' G with h|h;exact n1 b' h;exact .inr (zL ao.size h);have h:=zB h;refine hX (O.map (·.2)) _ _ ⟨O,(yx,dO E,kE down i),(dO E,i)::C,h1+1,s2,[b],rfl,Q,U,ad,?_,ao.drew,n1⟩ ?_;rw[R,uQ,if_neg fun g=>h ⟨g.1,by have:=g.2;dsimp only at this;rw[ag] at this;exact this⟩];simp
end
end
section
open Go Go.Pt List
open Go.IntKind (wrap)
open Classical
section
variable {D:dM} {M:eQ} {k v:Nat} {frm to:Key} {down:Bool}
def mj (D:dM) (M:eQ) (k v:Nat) (frm to:Key) (down:Bool) (h:Nat) (u:List k6) (T:gu):Prop:=if down then mS D M k v to h u T else mK D M k v frm h u T
def pK (down:Bool) (h:Nat) (u:List k6):Prop:=if down then kU h u else kT h u
def mj.path{h:Nat}{u:List k6}{T:gu}(C:mj D M k v frm to down h u T):Path D M k v (kE down) h u:=by
 cases down with
 | false=>exact mK.path (frm:=frm) C
 | true=>exact mS.path (to:=to) C
def mj.told{h:Nat}{C:List k6}{T:gu}(E:mj D M k v frm to down h C T):pK down h C\/∃(u:gu) (i:Nat) (lo:List k6) (hi:i<u.length) (T':gu),C=lo++[(eh u,(i:Int))]/\T=u[i]::T'/\mj D M k v frm to down h (lo++[(eh u,kE down i)]) T':=by
 cases down with
 | false=>exact quJ (frm:=frm) E
 | true=>exact qqS (to:=to) E
def mj.next{h:Nat}{E:List k6}{T:gu}(G:mj D M k v frm to down h E T)(I:pK down h E):(iX D k v M (ku down frm to) (kE down) h E=none/\T=[])\/∃u,iX D k v M (ku down frm to) (kE down) h E=some u/\mj D M k v frm to down h u T/\¬pK down h u:=by
 cases down with
 | false=>
  rcases qux (frm:=frm) G I with C|⟨u,C,J⟩;exact .inl C;exact .inr ⟨u,C,J,qjG (frm:=frm) G I C⟩
 | true=>
  rcases qqt (to:=to) G I with C|⟨u,C,J⟩;exact .inl C;exact .inr ⟨u,C,J,qg9 (to:=to) G I C⟩
def kT.sH:∀ {h:Nat} {C:List k6},kT h C->∃(lo:List k6) (u:gu),C=lo++[(eh u,(u.length:Int))]
 | 0,_,⟨u,e⟩=>⟨[],u,e⟩
 | _+1,[],h=>h.elim
 | h+1,x::G,E=>by obtain⟨lo,u,e⟩:=kT.sH (h:=h) E;exact⟨x::lo,u,by rw[e];rfl⟩
def kU.sH:∀ {h:Nat} {C:List k6},kU h C->∃(lo:List k6) (u:gu),C=lo++[(eh u,-1)]
 | 0,_,⟨u,e⟩=>⟨[],u,e⟩
 | _+1,[],h=>h.elim
 | h+1,x::G,E=>by obtain⟨lo,u,e⟩:=kU.sH (h:=h) E;exact⟨x::lo,u,by rw[e];rfl⟩
def pK.sH{h:Nat}{C:List k6}(E:pK down h C):∃(lo:List k6) (u:gu) (i:Int),C=lo++[(eh u,i)]/\¬(0<=i/\i<u.length):=by
 cases down with
 | false=>
  obtain⟨lo,u,e⟩:=kT.sH E;exact⟨lo,u,_,e,oJ⟩
 | true=>
  obtain⟨lo,u,e⟩:=kU.sH E;exact⟨lo,u,_,e,oJ⟩
def Left (D:dM) (M:eQ) (k v:Nat) (frm to:Key) (down:Bool) (n:Nat) (u:List k6) (L:gu):Prop:=
 (u=[]/\L=[])\/∃h T,mj D M k v frm to down h u T/\L=T.takeWhile (fun x=>!oh down frm to x.1)/\(n=0->¬pK down h u)
def qvN{h:Nat}{s:iO}(u:Has D M k v h s):∃C,jb D k v M (ku down frm to) (h+1) s.Q8=some C/\mj D M k v frm to down h C (if down then (vw to s.x9).reverse else nt frm s.x9):=by
 cases down with
 | false=>exact GG u
 | true=>exact HH u
def G0{α:Type}{p:α->Bool}:∀ {l:List α},l.Pairwise (fun a b=>p b=true->p a=true)->l.takeWhile p=l.filter p
 | [],_=>rfl
 | a::l,h=>by have C:=yJ.1 h;rw[takeWhile_cons,filter_cons];split;rw[G0 C.2];rename_i E;exact (filter_eq_nil_iff.2 fun b G u=>E (C.1 b G u)).symm
end
end
end Go.Proofs.YtfneoijhmknlnaaGreatDoor
