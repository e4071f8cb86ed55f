/- Conditions: those that stand in each line. -/
import Derived.Test.YtcnddmfogfebiaaGreatDoorCLBT4
import Derived.Test.YtcnddmfogfebiaaGreatDoorCLBT3
import Derived.Test.YtcnddmfogfebiaaGreatDoorCLBT2
import Derived.Laws.Externs
import Derived.Test.YtcnddmfogfebiaaGreatDoorCLBT1
set_option linter.unusedVariables false
set_option linter.unusedSimpArgs false
set_option linter.defProp false
namespace Go.Proofs.YtcnddmfogfebiaaGreatDoor
open Go.Proofs.Tryz (prog)
open Go Go.Pt List
open Go.IntKind (wrap)
open Classical
attribute [local irreducible] ld dP iA qg kO eX st new idx kz gi jH nD gV nn call dU inv run eO jt join loop held ext mn fc pZ qG qz IntKind.wrap
variable {S0 F T FD R B N0 Y Bn Y1 Br F' By S:Mk} {w0 wa w w' w7:Md} {x:mp} {n nl nr ny nx N:dX} {L L':Mq} {dbk pb j k v i side c f b:Nat} {D:dQ} {M M1 M':eU} {K:mp×Int->WP} {t e p:Int} {key:Key} {ks:Sl}
def qEm{S1:Mk}(g:Sg S0 w0 wa F T)(E:∀b∈S0,b∈S1):Sg S1 w0 wa F T:=⟨g.tJ.mono λb h _=>E b h,λb h=>(g.new b h).imp (E b) id,λb h=>(g.own b h).imp (E b) id⟩
structure rc (FD F:Mk) (w:Md) (T R:Mk) (x:mp) (n:dX) (B:Mk):Prop where
 node:gc (Zo FD (T++R) F) w x n B
 sep:∀ b∈T,b∉B
def rc.J0(o:rc FD F wa T R x n B)(h:dY T wa w L):rc FD F w (fU L) R x n B:=
 ⟨o.node.j0 h.fr (λb E G=>o.sep b G E) (λb E=>.inl (by simp[E])) (HF h),λb E G=>by
  obtain⟨q,J,rfl⟩:=mem_map.1 E;rcases h.own q J with I|I;exact o.sep _ I G;have:=o.node.lt _ G;omega⟩
def Ed.base{Z:Mk}(e:Ed dbk pb FD D j S0 N0 w0 w T Y F M x n B)(G:∀b∈S0,b∈Z)(I:∀b∈FD,b∈Z)(J:HG∈Z)(O:∀b∈Y,b∈Z):pE Z w0 (Zo FD (T++(B++Y)) F):=λb E=>by simp only[Zo,zD,zG] at E;rcases E with (E|E|E|E|E)|E;exact .inl (I b E);rw[E];exact .inl J;exact (e.sg.own b E).imp (G b) id;exact (e.cL b E).imp (λh=>G b (e.cV b h)) id;exact .inl (O b E);exact (e.sg.new b E).imp (G b) id
def Ed.x4{Z:Mk}{xl:mp}(e:Ed dbk pb FD D j S0 N0 w0 w T Y F M x n B)(hn:gc Z w0 xl nl Bn)(hd:∀b∈Bn,b∉S0)(hS:∀b∈S0,b∈Z)(J:∀b∈FD,b∈Z)(O:HG∈Z)(hY:∀b∈Y,b∈Z)(G:∀b∈Bn++Y1,b∈Y)(U:∀b∈Bn,b∉Y1)(V:∀b∈Bn,b<w0.z): Ed dbk pb FD D j (Bn++S0) Bn w0 w T Y1 F M xl nl Bn:=by
 have hz:=e.base hS J O hY;have I:∀b∈Zo FD (T++(Bn++Y1)) F,b∈Zo FD (T++(B++Y)) F:=λb E=>by simp only[Zo,zD,zG] at E⊢;have h2:=λh=>G b h;simp only[zD] at h2;rcases E with (E|E|E|E|E)|E;simp[E];simp[E];simp[E];simp[h2 (.inl E)];simp[h2 (.inr E)];simp[E]
 refine⟨qEm e.sg λb E=>zI _ E,e.tw.y4 λb E=>?_,hn.j0 e.fr hd (λb E=>.inl (hS b E)) λb E=>hz b (I b E),λb E hm=>?_,λb E=>.inl E,λb E=>zH _ E,U⟩;rcases zD.1 E with E|E;simp[E];exact zI _ (zI _ (G b E));rcases e.sg.own b E with h1|h1;exact hd b hm h1;have:=V b hm;omega
def qFx{Bl:Mk}:∀b∈Bn++(Br++Y),b∈Zo FD (Bl++(Bn++(Br++Y))) F:=λb E=>by simp only[Zo,zD,zG] at E⊢;rcases E with h|h|h<;>simp[h]
def qET:∀b∈Bn++Y,b∈Bn++(Br++Y):=λb E=>by simp only[zD] at E⊢;rcases E with h|h<;>simp[h]
def qEU:∀b∈Zo FD (T++(Bn++Y)) F,b∈Zo FD (T++(Bn++(Br++Y))) F:=λb E=>by simp only[Zo,zD,zG] at E⊢;rcases E with (h|h|h|h|h)|h<;>simp[h]
def qCj{xl xr:mp}{Bl:Mk}(hT:TW dbk pb FD D j w0 (Bl++(Bn++(Br++Y))) F M)(hl:gc (Zo FD (Bl++(Bn++(Br++Y))) F) w0 xl nl Bl)(hn:gc (Zo FD (Bl++(Bn++(Br++Y))) F) w0 x n Bn)(hr:gc (Zo FD (Bl++(Bn++(Br++Y))) F) w0 xr nr Br)(d1:∀b∈Bl,b∉Bn)(d2:∀b∈Bl,b∉Br)(d3:∀b∈Bl,b∉Y)(d4:∀b∈Bn,b∉Br)(d5:∀b∈Bn,b∉Y)(sl:iL nl)(sr:iL nr)(sn:iL n)(hi:i<n.J6.length)(aA:n.Q4=false)(V:∀yn B' F' w',TW dbk pb FD D j w' (B'++Y) F' (nT k v M n i nl nr).2->gc (Zo FD (B'++Y) F') w' yn (nT k v M n i nl nr).1.1 B'->Fr (Bn++(Bl++F)) w0 w'->(∀b∈B',b∈Bn\/w0.z<=b)->(∀b∈F',b∈Bn++(Bl++F)\/w0.z<=b)->K (yn,(nT k v M n i nl nr).1.2) w'): cW 303 [.agg (qH (lM k v pb t)),.agg (fB x),.i i,.agg (fB xl),.agg (fB xr)] [.agg eI,.one .i] w0 K:=by
 refine qng ?_;have e0:Ed dbk pb FD D j (Bl++F) Bl w0 w0 [] (Bn++(Br++Y)) F M xl nl Bl:=⟨⟨.refl _ _,λb E=>.inl (by simp[E]),λ_ h=>nomatch h⟩,hT,hl,λ_ h=>(nomatch h),λb E=>.inl E,λb E=>by simp[E],λb E J=>by simp only[zD] at J;rcases J with J|J|J;exact d1 b E J;exact d2 b E J;exact d3 b E J⟩;have hF:∀ {Bx:Mk},(∀b∈Bx,b∈Bn\/b∈Br)->(∀b∈Bx,b∉Bl)->∀b∈Bx,b∉Bl++F:=λh1 h2 b E J=>(zD.1 J).elim (h2 b E) λJ=>hT.yf b (by rcases h1 b E with h|h<;>simp[h]) J;have dn:=hF (λb E=>.inl E) λb E J=>d1 b J E;obtain⟨nk,nv,on⟩:=hn.EG dn;obtain⟨rk,rv,I⟩:=hr.EG (hF (λb E=>.inr E) λb E J=>d2 b J E);have ae:∀b∈Bl++F,b∈Zo FD (Bl++(Bn++(Br++Y))) F:=λb E=>by rcases zD.1 E with E|E<;>simp[E]
 have nZ:∀ {w' T x' n' B'},Ed dbk pb FD D j (Bl++F) Bl w0 w' T (Bn++(Br++Y)) F M x' n' B'->pE (Zo FD (Bl++(Bn++(Br++Y))) F) w0 (Zo FD (T++(B'++(Bn++(Br++Y)))) F):=λe=>e.base ae (λb E=>by simp[E]) oN λb E=>by simp only[Zo,zD,zG] at E⊢;rcases E with h|h|h<;>simp[h]
 have nw:∀ {w' T x' n' B'},Ed dbk pb FD D j (Bl++F) Bl w0 w' T (Bn++(Br++Y)) F M x' n' B'->tz (Bl++F) (Zo FD (T++(B'++(Bn++(Br++Y)))) F) w' x n nk nv:=λe=>on.j0 e.fr (λb E=>E) ae (λb E=>.inl E) (nZ e);have ab:∀ {w' T x' n' B'},Ed dbk pb FD D j (Bl++F) Bl w0 w' T (Bn++(Br++Y)) F M x' n' B'->tz (Bl++F) (Zo FD (T++(B'++(Bn++(Br++Y)))) F) w' xr nr rk rv:=λe=>I.j0 e.fr (λb E=>E) ae (λb E=>.inl E) (nZ e);have af:i<nk.length:=(by rw[on.yc];exact hi);have a7:=sn.inner aA;have ag:i<n.J9.length:=oL;have ai:i+1<n.J9.length:=oL;have z1:=sl.J6;have z2:=sl.Q0;have z3:=sl.J9;have z4:=sr.J6;have z5:=sr.Q0;have z6:=sr.J9;have z8:=sn.J9;have a8:=I.yc;have a9:=I.Co;have h:=oG [] w0;refine oD h λr1 w2 _ _ h=>oD h λr3 w4 _ _ h=>oD h λr5 w6 _ _ h=>oD h λr7 w8 _ _ h=>oD h λr9 a' _ _ h=>jd (λ_ w'=>∃O B',dY [r9,r7,r5,r3,r1] w' w' [(r9,.c (fB gG) ND),(r7,.c (fB xr) ND),(r5,.c (fB (xl.1,O,xl.2.2)) ND),(r3,.c (fB x) ND),(r1,.c (qH (lM k v pb t)) WK)]/\
  Ed dbk pb FD D j (Bl++F) Bl w0 w' [r9,r7,r5,r3,r1] (Bn++(Br++Y)) F M (xl.1,O,xl.2.2) { nl with J6:=if nl.Q4 then nl.J6 else nl.J6++[n.J6.getD i []] } B') ?_ ?_
 refine Mi h 2 xl.1 ?_;apply eF<;>intro G;have G:nl.Q4=false:=(by rw[hl.1,zT] at G;exact G);rw[iN (show ¬nl.Q4=true by rw[G];decide),on.pO af];have h:=oH h;refine Mi h 2 xl.2.1<|Mi h 3 x.2.1<|eT.get (on.rk.q9 h.fr) i rfl (by rw[zQ,zA af];rfl) rfl<|oD h λba bc _ _ h=>gY (h.cell 3) ?_;have e:=e0.J0 h;exact e.te h oL 0 rfl ((nw e).ek _ (zW af)) (by rw[<- on.pO af];exact xm on.nb.1 _) λO B1 bd e h _=>oF h 3 rfl (fB (xl.1,O,xl.2.2)) λbf h _=>⟨O,B1,po h (.cons _ (.refl _)),(e.J0 h).sub oN⟩;have G:nl.Q4=true:=(by rw[hl.1,yE] at G;exact G);rw[iP G];exact⟨xl.2.1,Bl,po h (.refl _),e0.J0 h⟩;rintro _ bg ⟨O,B1,h,e⟩;have e:=e.J0 h;have h:=po h (.refl _);refine Mi h 2 O<|Mi h 1 xr.2.1 ?_;have aV:(if nl.Q4 then nl.J6 else nl.J6++[n.J6.getD i []]).length<=2001:=by split;omega;rw[zF,xK];omega
 refine e.AX h oP (ab e).rk (ab e).ek (by rw[I.J6];exact I.nb.1) λac B2 bi e h _=>?_;rw[I.J6] at e;refine oF h 2 rfl (fB (xl.1,ac,xl.2.2.1,xl.2.2.2)) λbj h _=>Mi h 2 xl.2.2.1<|Mi h 1 xr.2.2.1 ?_;have e:=e.J0 h;refine e.AC h oP (ab e).rv (ab e).ev (by rw[I.Q0];exact I.nb.2.1) λah B3 bk e h _=>?_;rw[I.Q0] at e;refine oF h 2 rfl (fB (xl.1,ac,ah,xl.2.2.2)) λbl h _=>Mi h 2 xl.2.2.2<|Mi h 1 xr.2.2.2 ?_;have e:=e.J0 h;refine e.AJ h oP (ab e).ri I.nb.2.2 λaj B4 bm e h _=>oF h 2 rfl (fB (xl.1,ac,ah,aj)) λbn h _=>?_;have h:=oH h;have e:=e.J0 h;have h:=po h (.refl _);refine Mj h 4 (lM k v pb t)<|Mi h 3 x.2.2.2<|eT.get (nw e).ri i rfl (zA ag) rfl<|Mj h 2 (xl.1,ac,ah,aj) ?_;have hJ:({ Q4:=nl.Q4,J6:=(if nl.Q4 then nl.J6 else nl.J6++[n.J6.getD i []])++nr.J6,Q0:=nl.Q0++nr.Q0,J9:=nl.J9++nr.J9 }:dX)=mJ nl nr (n.J6.getD i []):=rfl;have aC:n.J9.getD i 0=n.J9[i]:=Ae ag;have ap:n.J9.getD (i+1) 0=n.J9[i+1]:=Ae ai;unfold nT at V;rw[aC,ap,<- hJ] at V;have aD:=e.cD.j6 λb E=>.inl (qEU b E);have e:=e.x4 hn dn ae (λb E=>by simp[E]) oN qFx qET d5 hn.lt;refine An e.tw aD (by dsimp only;rw[zF];omega) (by dsimp only;rw[zF];omega) (by dsimp only;rw[zF];omega) λF1 bq aq aE aF=>?_;obtain⟨e,h⟩:=e.next h aq aE aF;generalize aG:ee k v M n.J9[i] { Q4:=nl.Q4,J6:=(if nl.Q4 then nl.J6 else nl.J6++[n.J6.getD i []])++nr.J6,Q0:=nl.Q0++nr.Q0,J9:=nl.J9++nr.J9 }=st at V e⊢;have hu:jf st.1.1:=(by rw[<- aG];exact Aq hT.wf (hn.2.1.2.2 _ (zW ag)));obtain⟨⟨br,U⟩,M1⟩:=st;dsimp only at V e hu⊢;refine jd (λer w'=>∃F2,er=(if U=0 then (gf M1 n.J9[i+1]).1 else U)/\dY [r9,r7,r5,r3,r1] w' w' [(r9,.c (fB gG) ND),(r7,.c (fB xr) ND),(r5,.c (fB (xl.1,ac,ah,aj)) ND),(r3,.c (fB x) ND),(r1,.c (qH (lM k v pb t)) WK)]/\
  Ed dbk pb FD D j (Bn++(Bl++F)) Bn w0 w' [r9,r7,r5,r3,r1] Y F2 (if U=0 then (gf M1 n.J9[i+1]).2 else M1) x n Bn) ?_ ?_
 apply eF<;>intro G;have G:U=0:=yP.1 G;rw[iP G,iP G];have h:=oH h;refine Mi h 4 (pW pb)<|Mi h 3 x.2.2.2 ?_;have e:=e.J0 h;have ew:wrap .i64 ((i:Int)+1)=((i+1:Nat):Int):=uZ oL;refine eT.get e.y8 (i+1) ew (zA ai) rfl<|TW.drop e.tw λF2 bs ar aH aI=>?_;obtain⟨e,h⟩:=e.next h ar aH aI
 exact⟨F2,rfl,h,e⟩;have G:¬U=0:=zR.1 G;rw[iN G,iN G];exact⟨F1,rfl,h,e⟩;rintro er bt ⟨F2,rfl,h,e⟩;have e:=e.J0 h;have h:=po h (.refl _);have aJ:∀ {A B:(dX×Int)×eU},(if U≠0 then A else B)=if U=0 then B else A:=by intro A B;by_cases h:U=0;rw[iN λh'=>h' h,iP h];rw[iP h,iN h]
 rw[aJ] at V;apply eF<;>intro G;have G:(if U=0 then (gf M1 n.J9[i+1]).1 else U)≠0:=by rw[zT] at G;exact zR.1 G
 refine oF h 0 rfl (fB gG) λau h _=>Mj h 0 gG ?_;have e:=e.J0 h;by_cases h0:U=0;rw[iP h0] at V G e⊢;rw[iP G] at V;exact V gG [] F2 au e.uz.j7 (.zero _ _) e.fr (λ_ h=>(nomatch h)) e.sg.new;rw[iN h0] at V G e⊢;exact V gG [] F2 au e.uz.j7 (.zero _ _) e.fr (λ_ h=>(nomatch h)) e.sg.new;have G:(if U=0 then (gf M1 n.J9[i+1]).1 else U)=0:=by rw[yE] at G;exact yP.1 G
 by_cases h0:U=0;rw[iP h0] at V G e;rw[iN λh=>h G] at V;refine Mi h 3 x.2.2.2<|e.zp h ag rfl hu λB1 bv e h _=>?_;have h:=oH h;refine Mi h 3 x.2.2.2<|Mi h 3 x.2.1 ?_;have e:=e.J0 h;have ew:wrap .i64 ((i:Int)+1)=((i+1:Nat):Int):=uZ oL;have aK:wrap .i64 ((i:Int)+2)=((i+1+1:Nat):Int):=(by rw[gJ _ oL];omega);refine e.KS h (by dsimp only;rw[xF];omega) ew aK (by dsimp only;rw[xF];omega) λaa B2 bx e h _=>gY (h.cell 3)<|e.EE h hi rfl ew oP λad B3 bz e h _=>oF h 3 rfl (fB (x.1,x.2.1,x.2.2.1,aa)) λbA h _=>oF h 3 rfl (fB (x.1,ad,x.2.2.1,aa)) λbB h _=>Mj h 3 (x.1,ad,x.2.2.1,aa)<|oF h 0 rfl (fB (x.1,ad,x.2.2.1,aa)) λaL h _=>Mj h 0 (x.1,ad,x.2.2.1,aa) ?_;have e:=e.J0 h;refine V (x.1,ad,x.2.2.1,aa) B3 F2 aL e.tw.j7 (e.node.j6 λb E=>.inl (by simp only[Zo,zD,zG] at E⊢;rcases E with (E|E|E|E)|E<;>simp[E])) e.fr e.cL e.sg.new;rw[iN h0] at G;exact absurd G h0
def qB9(h:dR D M k v (n.J9.getD side 0)=(ny,e))(E:e≠0):lJ D k v M n side c nx=((jx,e),M):=by unfold lJ;rw[h,iP E]
def qzL(h:dR D M k v (n.J9.getD side 0)=(ny,0))(E:¬kj ny k v):lJ D k v M n side c nx=nT k v M n (if side<c then side else c) (if side<c then ny else nx) (if side<c then nx else ny):=by unfold lJ;rw[h,iN λh=>h rfl];by_cases hsd:side<c;rw[iP hsd,iP hsd,iP hsd,iP hsd,iP E];rw[iN hsd,iN hsd,iN hsd,iN hsd,iP E]
def qzK(h:dR D M k v (n.J9.getD side 0)=(ny,0))(E:kj ny k v):lJ D k v M n side c nx=qr k v M n (if side<c then side else c) (if side<c then kr ny nx (n.J6.getD side []) else takeN nx ny (n.J6.getD c [])):=by unfold lJ;rw[h,iN λh=>h rfl];by_cases hsd:side<c;rw[iP hsd,iP hsd,iP hsd,iN λh=>h E];rw[iN hsd,iN hsd,iN hsd,iN λh=>h E]
def qnS(h:gp n k v):iL n:=by obtain⟨I,J,O,E,G⟩:=AL h;exact⟨λh=>(E h).1,λh=>(G h).1.symm,oL,oL,oL⟩
def qyG(I:jh k v)(E:kj n k v)(sn:iL n):1<=n.J6.length/\(n.Q4=true->2<=n.J6.length):=by
 have c1:=I.Q4;have c2:=I.inner;unfold kj at E;unfold fC at E;cases G:n.Q4 with
 | true=>rw[G,iP rfl] at E;dsimp only at E;exact⟨oL,λ_=>oL⟩
 | false=>
  have:=sn.inner G;rw[G,iN oO] at E;exact⟨oL,λh=>nomatch h⟩
def Ed.more{xy:mp}(e:Ed dbk pb FD D j S0 N0 w0 w (fU L) Y F M x n B)(h:dY T wa w L)(U:TW dbk pb FD D j w7 (By++(fU L++(B++Y))) F M)(V:gc (Zo FD (By++(fU L++(B++Y))) F) w7 xy ny By)(f:Fr [] w w7)(I:∀c∈By,w.z<=c): Ed dbk pb FD D j S0 N0 w0 w7 (fU L) (By++Y) F M x n B/\dY (fU L) w7 w7 L/\rc FD F w7 (fU L) (B++(By++Y)) xy ny By:=by
 have G:∀b∈Zo FD (fU L++(B++(By++Y))) F,b∈Zo FD (By++(fU L++(B++Y))) F:=λb E=>by simp only[Zo,zD,zG] at E⊢;rcases E with (E|E|E|E|E|E)|E<;>simp[E]
 have J:∀b∈Zo FD (fU L++(B++(By++Y))) F,b∈Zo FD (fU L++(B++Y)) F\/w.z<=b:=λb E=>by simp only[Zo,zD,zG] at E⊢;rcases E with (E|E|E|E|E|E)|E;simp[E];simp[E];simp[E];simp[E];exact .inr (I b E);simp[E];simp[E]
 refine⟨⟨⟨e.sg.tJ.j8 f (λ_ h=>nomatch h),e.sg.new,e.sg.own⟩,U.y4 λb E=>?_,e.node.j0 f (λ_ _ h=>nomatch h) (λ_ h=>nomatch h) J,e.sep,e.cL,e.cV,λb E G=>?_⟩,uy h f (λ_ _ h=>nomatch h),V.j6 λb E=>.inl (G b E),λb E G=>?_⟩;simp only[zD] at E⊢;rcases E with E|E|E|E<;>simp[E];rcases zD.1 G with O|O;have:=e.node.lt b E;have:=I b O;omega;exact e.cO b E O;have:=Dn h b E;have:=I b G;omega
def rc.more{Bx:Mk}(o:rc FD F w (fU L) (B++Y) x n Bx)(f:Fr [] w w7)(G:∀c∈By,w.z<=c):rc FD F w7 (fU L) (B++(By++Y)) x n Bx:=
 ⟨o.node.j0 f (λ_ _ h=>nomatch h) (λ_ h=>nomatch h) λb E=>by simp only[Zo,zD,zG] at E⊢;rcases E with (E|E|E|E|E|E)|E;simp[E];simp[E];simp[E];simp[E];exact .inr (G b E);simp[E];simp[E],o.sep⟩
def rc.q9(o:rc FD F w T R x n B)(f:Fr [] w w'):rc FD F w' T R x n B:=⟨o.node.q9 f,o.sep⟩
def qzR(h:∀a∈nl.J6,fj a)(sl:iL nl)(E:iL nr):fj (kr nl nr key).2.2/\(kr nl nr key).1.J6.length<=9000/\(kr nl nr key).1.Q0.length<=9000/\(kr nl nr key).1.J9.length<=9000/\(kr nl nr key).2.1.J6.length<=9000/\(kr nl nr key).2.1.Q0.length<=9000/\(kr nl nr key).2.1.J9.length<=9000:=by obtain⟨_,_,G,I,J⟩:=sl;obtain⟨_,_,O,U,V⟩:=E;unfold kr;split;refine⟨xm h _,?_⟩;simp only[yL,yI];omega;refine⟨xm h _,?_⟩;simp only[yL,yI];omega
def qA2(h:∀a∈nr.J6,fj a)(sl:iL nl)(E:iL nr):fj (takeN nl nr key).2.2/\(takeN nl nr key).1.J6.length<=9000/\(takeN nl nr key).1.Q0.length<=9000/\(takeN nl nr key).1.J9.length<=9000/\(takeN nl nr key).2.1.J6.length<=9000/\(takeN nl nr key).2.1.Q0.length<=9000/\(takeN nl nr key).2.1.J9.length<=9000:=by obtain⟨_,_,I,J,O⟩:=sl;obtain⟨_,_,U,V,b3⟩:=E;unfold takeN;split;refine⟨xm (λa G=>h a (yU G)) _,?_⟩;simp only[zF,yC,yI,xJ];omega;refine⟨xm h _,?_⟩;simp only[zF,yC,yI,xJ];omega
def zh{Y':Mk}(h:∀b∈Y',b∈Y):∀b∈Zo FD Y' F,b∈Zo FD Y F:=λb E=>by simp only[Zo,zD,zG] at E⊢;rcases E with (E|E|E)|E;simp[E];simp[E];simp[h b E];simp[E]
def Ed.Bb(e:Ed dbk pb FD D j S0 N0 w0 w (fU L) Y F M x n B)(h:dY T wa w L)(V:TW dbk pb FD D j w' (fU L++(B++Y1)) F M)(f:Fr S w w')(J:∀b∈S,b∈S0\/w0.z<=b)(G:∀b∈S,b∉B/\b∉fU L)(O:∀b∈S,b∈Zo FD (fU L++(B++Y)) F)(U:∀b∈Y1,b∈Y): Ed dbk pb FD D j S0 N0 w0 w' (fU L) Y1 F M x n B/\dY (fU L) w' w' L:=
 ⟨⟨⟨e.sg.tJ.j8 f J,e.sg.new,e.sg.own⟩,V,e.node.j0 f (λb E I=>(G b I).1 E) (λb E=>.inl (O b E)) λb E=>.inl (by simp only[Zo,zD,zG] at E⊢;rcases E with (E|E|E|E|E)|E;simp[E];simp[E];simp[E];simp[E];simp[U b E];simp[E]),e.sep,e.cL,e.cV,λb E I=>e.cO b E (U b I)⟩,uy h f λb E I=>(G b I).2 E⟩
set_option maxHeartbeats 4000000 in
def qCa{Bx:Mk}{xx:mp}(hT:TW dbk pb FD D j w0 (Bn++(Bx++Y)) F M)(hn:gc (Zo FD (Bn++(Bx++Y)) F) w0 x n Bn)(hx:gc (Zo FD (Bn++(Bx++Y)) F) w0 xx nx Bx)(d1:∀b∈Bn,b∉Bx)(d2:∀b∈Bn,b∉Y)(d3:∀b∈Bx,b∉Y)(sn:iL n)(sx:iL nx)(a6:n.Q4=false)(cv:side+1=c\/c+1=side)(hs:side<n.J9.length)(cw:c<n.J9.length)(bL:∀ny,dR D M k v (n.J9.getD side 0)=(ny,0)->ny.Q4=nx.Q4)(a7:jh k v)(kk:∀yn B' F' w',TW dbk pb FD D j w' (B'++Y) F' (lJ D k v M n side c nx).2->gc (Zo FD (B'++Y) F') w' yn (lJ D k v M n side c nx).1.1 B'->Fr (Bn++(Bx++F)) w0 w'->(∀b∈B',b∈Bn\/w0.z<=b)->(∀b∈F',b∈Bn++(Bx++F)\/w0.z<=b)->K (yn,(lJ D k v M n side c nx).1.2) w'): cW 298 [.agg (qH (lM k v pb t)),.agg (fB x),.i side,.i c,.agg (fB xx)] [.agg eI,.one .i] w0 K:=by
 refine qnf ?_;unfold K4 Ik;have ei:(if (c:Int)<(side:Int) then (c:Int) else (side:Int))=(((if side<c then side else c):Nat):Int):=by by_cases h1:c<side;rw[iP,iN];rw[iN,iP]
 have ap:(if side<c then side else c)+1<n.J9.length:=(by split<;>omega);rw[ei];generalize aD:(if side<c then side else c)=i at ap⊢;have il:=sn.inner a6;have s3:=sn.J9;have aE:i<n.J6.length:=oL;have ew:wrap .i64 ((i:Int)+1)=((i+1:Nat):Int):=uZ oL;rw[ew];have e0:Ed dbk pb FD D j (Bn++(Bx++F)) Bn w0 w0 [] (Bx++Y) F M x n Bn:=⟨⟨.refl _ _,λb E=>.inl (by simp[E]),λ_ h=>nomatch h⟩,hT,hn,λ_ h=>(nomatch h),λb E=>.inl E,λb E=>by simp[E],λb E O=>(zD.1 O).elim (d1 b E) (d2 b E)⟩;have o0:rc FD F w0 [] (Bn++(Bx++Y)) xx nx Bx:=⟨hx,λ_ h=>nomatch h⟩;rcases al:dR D M k v (n.J9.getD side 0) with ⟨ny,ey⟩;have bN:n.J9.getD side 0=n.J9[side]:=Ae hs;have aL:dR D M k v n.J9[side]=(ny,ey):=(by rw[<- bN];exact al);have a8:=hx.lt;have a9:∀b∈Y,b<w0.z:=λb E=>hT.uU b (by simp[E]);have a':jf n.J9[side]:=hn.2.1.2.2 _ (zW hs);have h:=oG [] w0;refine oD h λr1 w2 _ _ h=>oD h λr3 w4 _ _ h=>oD h λU w6 _ _ h=>oD h λV w8 _ _ h=>?_;have h:=oH h;refine⟨?a,?b⟩;case' a=>
  have e:=e0.J0 h;have o:=o0.J0 h;refine Mj h 3 (lM k v pb t)<|Mi h 2 x.2.2.2<|eT.cT e.y8 side rfl hs λbO hh=>?_;have aQ:=e.fr.size;refine Er e.tw a' λxy By bQ aq ab ar ac=>?_;rw[aL] at ab⊢;dsimp only at ab;obtain⟨e,h,oy⟩:=e.more h aq ab ar ac;have ox:=o.more ar ac;refine oD h λG bR _ _ h=>nh (hh _ _ (e.J0 h).y8) (h.cell 3) (h.cells 4)<|oF h 0 rfl (fB xy) λbS h _=>?_;have oy:=oy.J0 h;have ox:=ox.J0 h;have e:=e.J0 h;have h:=po h (.refl _);have aF:∀b∈By,w0.z<=b:=λb E=>zL aQ (ac b E)
 case' b=>
  have e:=e0.J0 h;have o:=o0.J0 h;have h:=po h (.refl _);refine Mj h 3 (lM k v pb t)<|Mi h 2 x.2.2.2<|eT.cT e.y8 side rfl hs λbO hh=>oD h λG bR _ _ h=>?_;have e:=e.J0 h;have o:=o.J0 h;refine nh (hh _ _ e.y8) (h.cell 3) (h.cells 4) ?_;have aQ:=e.fr.size;refine Er e.tw a' λxy By bQ aq ab ar ac=>?_;rw[aL] at ab⊢;dsimp only at ab;obtain⟨e,h,oy⟩:=e.more h aq ab ar ac;have ox:=o.more ar ac;refine oF h 0 rfl (fB xy) λbS h _=>?_;have oy:=oy.J0 h;have ox:=ox.J0 h;have e:=e.J0 h;have h:=po h (.refl _);have aF:∀b∈By,w0.z<=b:=λb E=>zL aQ (ac b E)
 all_goals
  apply eF<;>intro hc;have au:ey≠0:=by rw[zT] at hc;exact zR.1 hc
  rw[qB9 al au] at kk;refine oF h 1 rfl (fB gG) λbT h _=>Mj h 1 gG ?_;have e:=e.J0 h;exact kk gG [] F bT (e.uz.y4 λb E=>by simp at E⊢;simp[E]) (.zero _ _) e.fr (λ_ h=>(nomatch h)) e.sg.new;have bU:ey=0:=by rw[yE] at hc;exact yP.1 hc
  subst bU;have bV:=Fm al;have sy:=qnS bV;have aM:=bL ny al;have aR:∀b∈By,b∉Bx:=λb E O=>by have:=aF b E;have:=a8 b O;omega
  have bc:∀b∈By,b∉Y:=λb E O=>by have:=aF b E;have:=a9 b O;omega
  refine⟨?_,?_⟩;have h:=oH h;refine Mj h 2 xx<|Mj h 0 xy<|oD h λI bW _ _ h=>jU (h.cells 1) (h.cells 3)<|oD h λJ bX _ _ h=>jU (h.cells 2) (h.cells 4)<|oF h 1 rfl (fB xx) λbY h _=>gY (h.cells 2)<|oF h 0 rfl (fB xy) λbZ h _=>?_;rotate_left;have h:=oH h;refine Mj h 2 xx<|Mj h 0 xy<|oD h λJ bW _ _ h=>jU (h.cells 1) (h.cells 3)<|oD h λI bX _ _ h=>jU (h.cells 2) (h.cells 4)<|oF h 0 rfl (fB xx) λbY h _=>gY (h.cells 2)<|oF h 1 rfl (fB xy) λbZ h _=>?_;have h:=Hi h (List.Perm.swap _ _ _);all_goals
   obtain⟨xl,nl,Bl,xr,nr,Br,hP⟩:∃xl nl Bl xr nr Br,(side<c/\xl=xy/\nl=ny/\Bl=By/\xr=xx/\nr=nx/\Br=Bx)\/(¬side<c/\xl=xx/\nl=nx/\Bl=Bx/\xr=xy/\nr=ny/\Br=By):=by by_cases aa:side<c;exact⟨_,_,_,_,_,_,.inl ⟨aa,rfl,rfl,rfl,rfl,rfl,rfl⟩⟩;exact⟨_,_,_,_,_,_,.inr ⟨aa,rfl,rfl,rfl,rfl,rfl,rfl⟩⟩
   refine jd (λ_ w'=>dY [J,I,G,V,U,r3,r1] w' w' [(J,.c (fB xr) ND),(I,.c (fB xl) ND),(G,.c (fB xy) ND),(V,.c (fB gG) ND),(U,.c (fB xx) ND),(r3,.c (fB x) ND),(r1,.c (qH (lM k v pb t)) WK)]/\
    Ed dbk pb FD D j (Bn++(Bx++F)) Bn w0 w' [J,I,G,V,U,r3,r1] (By++(Bx++Y)) F M x n Bn/\rc FD F w' [J,I,G,V,U,r3,r1] (Bn++(By++(Bx++Y))) xx nx Bx/\rc FD F w' [J,I,G,V,U,r3,r1] (Bn++(By++(Bx++Y))) xy ny By) ?_ ?_
   apply eF<;>intro hc;have aa:side<c:=(by have:=zC hc;omega);rcases hP with ⟨_,rfl,rfl,rfl,rfl,rfl,rfl⟩|⟨hn,_⟩;have h:=oH h;exact Mj h 2 xl<|Mj h 4 xr<|oF h 1 rfl (fB xl) λcz h _=>gY (h.cells 4)<|oF h 0 rfl (fB xr) λcA h _=>⟨po h (.refl _),e.J0 h,ox.J0 h,oy.J0 h⟩;exact absurd aa hn;have aa:¬side<c:=(by have:=zB hc;omega);rcases hP with ⟨hn,_⟩|⟨_,rfl,rfl,rfl,rfl,rfl,rfl⟩;exact absurd hn aa;exact⟨po h (.refl _),e.J0 h,ox.J0 h,oy.J0 h⟩;rintro _ cB ⟨h,e,ox,oy⟩;refine Mj h 6 (Fh k v)<|Mj h 2 xy ?_;have ly:tF xy ny:=(oy.node.rd (S:=[]) (λ_ _ h=>(nomatch h)) λ_ h=>nomatch h).lens;refine qCT ly λan b0=>?_;have h:=h.q9 b0;have e:=e.J0 h;have ox:=ox.J0 h;have oy:=oy.J0 h;have h:=po h (.refl _);apply eF<;>intro hc;have aH:¬kj ny k v:=by rw[zT] at hc;exact zB hc
   rw[qzL al aH] at kk;have hj:(if side<c then ny else nx)=nl/\(if side<c then nx else ny)=nr:=by rcases hP with ⟨h1,_,h2,_,_,h3,_⟩|⟨h1,_,h2,_,_,h3,_⟩;rw[iP h1,iP h1,h2,h3];exact⟨rfl,rfl⟩;rw[iN h1,iN h1,h2,h3];exact⟨rfl,rfl⟩
   rw[aD,hj.1,hj.2] at kk;have e:=e.sub (T1:=[J,I,G,V,U,r3,r1]) λb E=>E;have aT:rc FD F an [J,I,G,V,U,r3,r1] (Bn++(By++(Bx++Y))) xl nl Bl:=by rcases hP with ⟨_,rfl,rfl,rfl,_⟩|⟨_,rfl,rfl,rfl,_⟩<;>assumption
   have b3:rc FD F an [J,I,G,V,U,r3,r1] (Bn++(By++(Bx++Y))) xr nr Br:=by rcases hP with ⟨_,_,_,_,rfl,rfl,rfl⟩|⟨_,_,_,_,rfl,rfl,rfl⟩<;>assumption
   have bd:iL nl/\iL nr:=by rcases hP with ⟨_,_,rfl,_,_,rfl,_⟩|⟨_,_,rfl,_,_,rfl,_⟩<;>exact⟨by assumption,by assumption⟩
   have b4:(∀b∈Bl,b∈By\/b∈Bx)/\(∀b∈Br,b∈By\/b∈Bx)/\∀b∈Bl,b∉Br:=by rcases hP with ⟨_,_,_,rfl,_,_,rfl⟩|⟨_,_,_,rfl,_,_,rfl⟩;exact⟨λb E=>.inl E,λb E=>.inr E,aR⟩;exact⟨λb E=>.inr E,λb E=>.inl E,λb E O=>aR b O E⟩
   obtain⟨aI,bf,b5⟩:=b4;have aU:∀b,b∈By\/b∈Bx->b∉Bn/\b∉Y:=λb E=>by rcases E with E|E;exact⟨λO=>e.cO b O (by simp[E]),bc b E⟩;exact⟨λO=>e.cO b O (by simp[E]),d3 b E⟩
   have av:∀b∈Bl++(Bn++(Br++([J,I,G,V,U,r3,r1]++Y))),b∈[J,I,G,V,U,r3,r1]++(Bn++(By++(Bx++Y))):=λb E=>by have a1:=aI b;have a2:=bf b;rw[zD,zD,zD,zD] at E⊢;rcases E with E|E|E|E|E;rcases a1 E with h|h<;>simp[h];simp[E];rcases a2 E with h|h<;>simp[h];simp[E];simp[E]
   have hZ:∀b∈Zo FD (Bl++(Bn++(Br++([J,I,G,V,U,r3,r1]++Y)))) F,b∈Zo FD ([J,I,G,V,U,r3,r1]++(Bn++(By++(Bx++Y)))) F:=zh av;refine Mj h 6 (lM k v pb t)<|Mj h 5 x<|Mj h 1 xl<|Mj h 0 xr<|qCj (e.tw.y4 av) (aT.node.j6 λb E=>.inl (hZ b E)) (e.node.j6 λb E=>.inl (hZ b E)) (b3.node.j6 λb E=>.inl (hZ b E)) (λb E=>(aU b (aI b E)).1) b5 (λb E O=>(zD.1 O).elim (λO=>aT.sep b O E) (aU b (aI b E)).2) (λb E O=>(aU b (bf b O)).1 E) (λb E O=>(zD.1 O).elim (λO=>e.sep b O E) (d2 b E)) bd.1 bd.2 sn aE a6 λyn B' F' b8 bg bh bi nB nF=>?_;have b9:∀b∈[J,I,G,V,U,r3,r1],b<an.z:=λb E=>e.tw.uU b (zH _ E);have hS:∀b∈Bn++(Bl++F),b∈Bn++(Bx++F)\/w0.z<=b:=λb E=>by rcases zD.1 E with E|E;exact .inl (by simp[E]);rcases zD.1 E with E|E;rcases aI b E with h1|h1;exact .inr (aF b h1);exact .inl (by simp[h1]);exact .inl (by simp[E])
   have h:=uy h bi λb E O=>by rcases zD.1 O with O|O;exact e.sep b E O;rcases zD.1 O with O|O;exact aT.sep b E O;exact e.tw.yf b (zH _ E) O
   refine oF h 3 rfl (fB yn) λca h _=>Mj h 3 yn ?_;have bj:∀b∈[J,I,G,V,U,r3,r1]++(B'++Y),b∈B'++([J,I,G,V,U,r3,r1]++Y):=λb E=>by rw[zD,zD] at E⊢;rcases E with E|E|E<;>simp[E]
   have o:rc FD F' b8 [J,I,G,V,U,r3,r1] (B'++Y) yn _ B':=⟨bh.j6 λb E=>.inl (zh bj b E),λb E O=>(nB b O).elim (e.sep b E) λh1=>by have:=b9 b E;omega⟩;have cc:=bg.y4 bj;exact kk yn B' F' ca (TW.J0 cc h).j7 ((o.J0 h).node.j6 λb E=>.inl (De b E)) ((e.fr.j8 bi hS).j8 h.fr e.sg.own) (λb E=>(nB b E).imp id λh1=>zL e.fr.size h1) λb E=>(nF b E).elim (hS b) λh1=>.inr (zL e.fr.size h1);have aH:kj ny k v:=(by rw[yE] at hc;exact zC hc);rw[qzK al aH,aD] at kk;obtain⟨y1,y2⟩:=qyG a7 aH sy;have e:=e.sub (T1:=[J,I,G,V,U,r3,r1]) λb E=>E;have ox:rc FD F an [J,I,G,V,U,r3,r1] (Bn++(By++(Bx++Y))) xx nx Bx:=ox;have oy:rc FD F an [J,I,G,V,U,r3,r1] (Bn++(By++(Bx++Y))) xy ny By:=oy;have bk:∀b∈Bx++(By++([J,I,G,V,U,r3,r1]++(Bn++Y))),b∈[J,I,G,V,U,r3,r1]++(Bn++(By++(Bx++Y))):=λb E=>by rw[zD,zD,zD,zD] at E⊢;rcases E with E|E|E|E|E<;>simp[E]
   have aV:∀b∈Zo FD (Bx++(By++([J,I,G,V,U,r3,r1]++(Bn++Y)))) F,b∈Zo FD ([J,I,G,V,U,r3,r1]++(Bn++(By++(Bx++Y)))) F:=zh bk;have bl:∀b∈Bx,b∉By:=λb E O=>aR b O E;have aN:∀b∈Bx,b∉[J,I,G,V,U,r3,r1]++(Bn++Y):=λb E O=>by rcases zD.1 O with O|O;exact ox.sep b O E;rcases zD.1 O with O|O;exact d1 b O E;exact d3 b E O
   have aO:∀b∈By,b∉[J,I,G,V,U,r3,r1]++(Bn++Y):=λb E O=>by rcases zD.1 O with O|O;exact oy.sep b O E;rcases zD.1 O with O|O;exact e.cO b O (by simp[E]);exact bc b E O
   obtain⟨nk,nv,on⟩:=e.node.EG (S0:=[]) λ_ _ h=>nomatch h;have aw:i<nk.length:=(by rw[on.yc];exact aE);have bn:fj nk[i].2:=(by rw[<- on.pO aw];exact xm on.nb.1 _);have bo:=(on.ek _ (zW aw)).j0 (.refl _ _) λb E=>.inl (aV b E);have bp:n.J6.getD i []=nk[i].2:=on.pO aw;have bq:=e.tw.y4 bk;have br:=ox.node.j6 λb E=>.inl (aV b E);have aJ:=oy.node.j6 λb E=>.inl (aV b E);refine jd (λ_ w'=>∃yl yr r B',dY [J,I,G,V,U,r3,r1] w' w' [(J,.c (fB yr) ND),(I,.c (fB yl) ND),(G,.c (fB xy) ND),(V,.c (fB gG) ND),(U,.c (fB xx) ND),(r3,.c (fB x) ND),(r1,.c (qH (lM k v pb t)) WK)]/\
    Ed dbk pb FD D j (Bn++(Bx++F)) Bn w0 w' [J,I,G,V,U,r3,r1] Y F M x { n with J6:=n.J6.set i r.2.2 } B'/\fe (Zo FD ([J,I,G,V,U,r3,r1]++(B'++Y)) F) w' yl r.1/\fe (Zo FD ([J,I,G,V,U,r3,r1]++(B'++Y)) F) w' yr r.2.1/\
    (if side<c then kr ny nx (n.J6.getD side []) else takeN nx ny (n.J6.getD c []))=r/\r.1.J6.length<=9000/\r.1.Q0.length<=9000/\r.1.J9.length<=9000/\r.2.1.J6.length<=9000/\r.2.1.Q0.length<=9000/\r.2.1.J9.length<=9000) ?_ ?_
   have bs:∀b∈Bx++F,b∈Bn++(Bx++F)\/w0.z<=b:=λb E=>.inl (zI _ E);have bt:∀b∈Bx++F,b∉Bn/\b∉[J,I,G,V,U,r3,r1]:=λb E=>by rcases zD.1 E with E|E;exact⟨λO=>d1 b O E,λO=>ox.sep b O E⟩;exact⟨λO=>e.tw.yf b (by simp[O]) E,λO=>e.tw.yf b (zH _ O) E⟩
   have bu:∀b∈Bx++F,b∈Zo FD ([J,I,G,V,U,r3,r1]++(Bn++(By++(Bx++Y)))) F:=λb E=>by rcases zD.1 E with E|E<;>simp[E]
   have fd:=(Fr.refl [] an).drew;apply cD<;>intro aX;have aa:side<c:=oL;have aY:side=i:=(by rw[<- aD,iP aa]);rcases hP with ⟨_,rfl,rfl,rfl,rfl,rfl,rfl⟩|⟨hn,_⟩;have h:=oH h;have e:=e.J0 h;have h:=po h (.refl _);refine Mi h 5 x.2.1<|Mj h 1 xl<|Mj h 0 xr<|Mi h 5 x.2.1<|eT.get (on.rk.q9 fd) i rfl (by rw[zQ,zA aw];rfl) rfl ?_;have gm:=qzR (key:=nk[i].2) aJ.2.1.1 sy sx;refine qCe (bq.q9 fd) (aJ.q9 fd) (br.q9 fd) bl aN aO (bo.q9 fd) bn aM y1 sy sx λyl yr cd ce ax hL hR ak aZ=>?_;obtain⟨e,h⟩:=e.Bb h ax aZ bs bt bu λb E=>by simp[E]
   refine gY (h.cell 5)<|oF h 1 rfl (fB yl) λcf h _=>gY (h.cell 5)<|oF h 0 rfl (fB yr) λcg h _=>gY (h.cell 5) ?_;have e:=e.J0 h;have hL:=fe.J0 hL h;have hR:=fe.J0 hR h;have ak:=ue ak h;have h:=po h (.refl _);exact e.Eg h aE rfl ak gm.1 λB1 ch e h kp=>⟨yl,yr,_,B1,h,e,kp.node _ _ hL,kp.node _ _ hR,by rw[iP aa,aY,bp],gm.2.1,gm.2.2.1,gm.2.2.2.1,gm.2.2.2.2.1,gm.2.2.2.2.2.1,gm.2.2.2.2.2.2⟩;exact absurd aa hn;have aa:¬side<c:=oL;have aY:c=i:=(by rw[<- aD,iN aa]);rcases hP with ⟨hn,_⟩|⟨_,rfl,rfl,rfl,rfl,rfl,rfl⟩;exact absurd hn aa;have h:=oH h;have e:=e.J0 h;have h:=po h (.refl _);refine Mi h 5 x.2.1<|Mj h 1 xl<|Mj h 0 xr<|Mi h 5 x.2.1<|eT.get (on.rk.q9 fd) i rfl (by rw[zQ,zA aw];rfl) rfl ?_;have gm:=qA2 (key:=nk[i].2) aJ.2.1.1 sx sy;refine qCW (bq.q9 fd) (br.q9 fd) (aJ.q9 fd) bl aN aO (bo.q9 fd) bn aM.symm y1 y2 sx sy λyl yr cd ce ax hL hR ak aZ=>?_;obtain⟨e,h⟩:=e.Bb h ax aZ bs bt bu λb E=>by simp[E]
   refine gY (h.cell 5)<|oF h 1 rfl (fB yl) λcf h _=>gY (h.cell 5)<|oF h 0 rfl (fB yr) λcg h _=>gY (h.cell 5) ?_;have e:=e.J0 h;have hL:=fe.J0 hL h;have hR:=fe.J0 hR h;have ak:=ue ak h;have h:=po h (.refl _);exact e.Eg h aE rfl ak gm.1 λB1 ch e h kp=>⟨yl,yr,_,B1,h,e,kp.node _ _ hL,kp.node _ _ hR,by rw[iN aa,aY,bp],gm.2.1,gm.2.2.1,gm.2.2.2.1,gm.2.2.2.2.1,gm.2.2.2.2.2.1,gm.2.2.2.2.2.2⟩;rintro _ cF ⟨yl,yr,r,B',h,e,hL,hR,hr,q1,q2,q3,q4,q5,q6⟩;have aK:i<n.J9.length:=oL;rw[hr] at kk;unfold qr at kk;rw[Ae aK,Ae ap] at kk;have h:=oH h;have e:=e.J0 h;have hL:=fe.J0 (T:=[J,I,G,V,U,r3,r1]) hL h;have hR:=fe.J0 hR h;have h:=po h (.refl _);refine Mi h 5 x.2.2.2<|Mj h 6 (lM k v pb t)<|Mi h 5 x.2.2.2<|eT.get e.y8 i rfl (zA aK) rfl<|Mj h 1 yl<|An e.tw hL oL oL oL λF1 cI bv bx bz=>?_;obtain⟨e,h⟩:=e.next h bv bx bz
   have hR:=hR.next bx bz;have a3:jf (ee k v M n.J9[i] r.1).1.1:=Aq hT.wf (hn.2.1.2.2 _ (zW aK));generalize ee k v M n.J9[i] r.1=ci at kk e a3⊢;obtain⟨⟨a1,bA⟩,M1⟩:=ci;dsimp only at kk e a3⊢;refine gY (h.cell 5)<|e.zp h aK rfl a3 λB1 cJ e h kp=>?_;have hR:=kp.node _ _ hR;apply eF<;>intro az;have au:bA≠0:=(by rw[zT] at az;exact zR.1 az);rw[iP au] at kk;refine oF h 3 rfl (fB gG) λbB h _=>Mj h 3 gG ?_;have e:=e.J0 h;exact kk gG [] F1 bB e.uz.j7 (.zero _ _) e.fr (λ_ h=>(nomatch h)) e.sg.new;have au:¬bA≠0:=(by rw[yE] at az;exact λh=>h (yP.1 az));rw[iN au] at kk;have bC:(n.J9.set i a1)[i+1]?=some n.J9[i+1]:=(by rw[List.getElem?_set_ne oL,zA ap]);have h:=oH h;have e:=e.J0 h;have hR:=fe.J0 hR h;have h:=po h (.refl _);refine Mi h 5 x.2.2.2<|Mj h 6 (lM k v pb t)<|Mi h 5 x.2.2.2<|eT.get e.y8 (i+1) rfl bC rfl<|Mj h 0 yr<|An e.tw hR oL oL oL λF2 ct a4 bD bE=>?_;have a5:jf (ee k v M1 n.J9[i+1] r.2.1).1.1:=Aq e.tw.wf (hn.2.1.2.2 _ (zW ap));obtain⟨e,h⟩:=e.next h a4 bD bE
   generalize ee k v M1 n.J9[i+1] r.2.1=cj at kk e a5⊢;obtain⟨⟨a2,cK⟩,M2⟩:=cj;dsimp only at kk e a5⊢;refine gY (h.cell 5)<|e.zp h (by dsimp only;rw[xF];exact ap) rfl a5 λB2 cu e h _=>Mj h 5 x<|oF h 3 rfl (fB x) λbF h _=>Mj h 3 x ?_;have e:=e.J0 h;exact kk x B2 F2 bF e.tw.j7 (e.node.j6 λb E=>.inl (De b E)) e.fr e.cL e.sg.new
def Hd{α:Type}{l:List α}(h:i<l.length):(iY l i).length+1=l.length:=by unfold iY;rw[zF,yL,yC];omega
def qnB{l r:dX}(sn:iL n)(E:n.Q4=false)(hi:i<n.J6.length)(h:(nT k v M n i l r).1.2=0):iL (nT k v M n i l r).1.1:=by have U:=sn.inner E;obtain⟨_,_,V,J,a3⟩:=sn;unfold nT at h⊢;split;rename_i G;rw[iP G] at h;exact absurd h G;rename_i G;rw[iN G] at h;split;rename_i I;rw[iP I] at h;exact absurd h I;have O:=Hd (l:=n.J9.set i (ee k v M (n.J9.getD i 0) (mJ l r (n.J6.getD i []))).1.1) (i:=i+1) (by rw[xF];omega);have h2:=Hd hi;rw[xF] at O;exact⟨(λh=>by rw[E] at h;cases h),λ_=>by dsimp only;omega,by dsimp only;omega,J,by dsimp only;omega⟩
def qnl{r:dX×dX×Key}(sn:iL n)(E:n.Q4=false)(h:(qr k v M n i r).1.2=0):iL (qr k v M n i r).1.1:=by have I:=sn.inner E;obtain⟨_,_,J,O,U⟩:=sn;unfold qr at h⊢;split;rename_i G;rw[iP G] at h;exact absurd h G;exact⟨(λh=>by rw[E] at h;cases h),λ_=>by dsimp only;rw[xF,xF,xF];exact I,by dsimp only;rw[xF];exact J,O,by dsimp only;rw[xF,xF];exact U⟩
def qvP(sn:iL n)(E:n.Q4=false)(O:side+1=c\/c+1=side)(V:side<n.J9.length)(U:c<n.J9.length)(h:(lJ D k v M n side c nx).1.2=0):iL (lJ D k v M n side c nx).1.1:=by have il:=sn.inner E;unfold lJ at h⊢;split;rename_i J;rw[iP J] at h;exact absurd h J;rename_i J;rw[iN J] at h;split;rename_i G;rw[iP G] at h;split;rename_i I;rw[iP I] at h;exact qnB sn E oL h;rename_i I;rw[iN I] at h;exact qnl sn E h;rename_i G;rw[iN G] at h;split;rename_i I;rw[iP I] at h;exact qnB sn E oL h;rename_i I;rw[iN I] at h;exact qnl sn E h
def ka (c:Nat):Nat:=if c>0 then c-1 else c+1
def qB1{e0:Int}(h:dR D M k v p=(n,e0))(E:e0≠0):jk D k v key (f+1) M p=((jx,e0),M):=by unfold jk;rw[h,iP E]
def qB2(h:dR D M k v p=(n,0))(E:n.Q4=true)(G:n.J6[eh n.J6 key]?=some key):jk D k v key (f+1) M p=(({ n with J6:=iY n.J6 (eh n.J6 key),Q0:=iY n.Q0 (eh n.J6 key) },0),M):=by unfold jk;rw[h,iN λh=>h rfl,iP E,iP G]
def qzv(h:dR D M k v p=(n,0))(E:n.Q4=true)(G:¬n.J6[eh n.J6 key]?=some key):jk D k v key (f+1) M p=((jx,5),M):=by unfold jk;rw[h,iN λh=>h rfl,iP E,iN G]
def qzu{e1:Int}(h:dR D M k v p=(n,0))(E:¬n.Q4=true)(G:jk D k v key f M (n.J9.getD (ga n.J6 key) 0)=((N,e1),M1))(I:e1≠0):jk D k v key (f+1) M p=((jx,e1),M1):=by unfold jk;rw[h,iN λh=>h rfl,iN E];dsimp only;rw[G,iP I]
def qzt(h:dR D M k v p=(n,0))(E:¬n.Q4=true)(G:jk D k v key f M (n.J9.getD (ga n.J6 key) 0)=((N,0),M1))(I:¬rG N k v):jk D k v key (f+1) M p = (({ n with J9:=n.J9.set (ga n.J6 key) (ee k v M1 (n.J9.getD (ga n.J6 key) 0) N).1.1 },(ee k v M1 (n.J9.getD (ga n.J6 key) 0) N).1.2),(ee k v M1 (n.J9.getD (ga n.J6 key) 0) N).2):=by unfold jk;rw[h,iN λh=>h rfl,iN E];dsimp only;rw[G,iN λh=>h rfl,iP I]
def qzs(h:dR D M k v p=(n,0))(E:¬n.Q4=true)(G:jk D k v key f M (n.J9.getD (ga n.J6 key) 0)=((N,0),M1))(I:rG N k v):jk D k v key (f+1) M p=lJ D k v M1 n (ka (ga n.J6 key)) (ga n.J6 key) N:=by unfold jk ka;rw[h,iN λh=>h rfl,iN E];dsimp only;rw[G,iN λh=>h rfl,iN λh=>h I];split<;>rfl
def pB (D:dQ) (k v:Nat) (key:Key):Nat->eU->Int->Prop
 | 0,_,_=>False
 | f+1,M,p=>∀n,dR D M k v p=(n,0)->n.Q4=false->pB D k v key f M (n.J9.getD (ga n.J6 key) 0)/\
  ∀N M1,jk D k v key f M (n.J9.getD (ga n.J6 key) 0)=((N,0),M1)->rG N k v->∀ny,dR D M1 k v (n.J9.getD (ka (ga n.J6 key)) 0)=(ny,0)->ny.Q4=N.Q4
def Ed.Bw{xy:mp}(e:Ed dbk pb FD D j S0 N0 w0 w (fU L) Y F M x n B)(h:dY T wa w L)(U:TW dbk pb FD D j w7 (By++(fU L++(B++Y))) F' M')(hy:gc (Zo FD (By++(fU L++(B++Y))) F') w7 xy ny By)(f:Fr F w w7)(V:∀b∈F',b∈F\/w.z<=b)(O:∀c∈By,w.z<=c): Ed dbk pb FD D j S0 N0 w0 w7 (fU L) (By++Y) F' M' x n B/\dY (fU L) w7 w7 L/\rc FD F' w7 (fU L) (B++(By++Y)) xy ny By:=by
 have G:∀b∈fU L++(B++(By++Y)),b∈By++(fU L++(B++Y)):=λb E=>by simp only[zD] at E⊢;rcases E with E|E|E|E<;>simp[E]
 obtain⟨e1,I⟩:=e.next h (U.y4 λb E=>zI _ E) f V;refine⟨⟨e1.sg,U.y4 G,e.node.j0 f (λb E J=>e.tw.yf b (by simp[E]) J) (λb E=>.inl (AN E)) λb E=>?_,e1.sep,e1.cL,e1.cV,λb E J=>?_⟩,I,hy.j6 λb E=>.inl (zh G b E),λb E J=>?_⟩;simp only[Zo,zD,zG] at E⊢;rcases E with (E|E|E|E|E|E)|E;simp[E];simp[E];simp[E];simp[E];exact .inr (O b E);simp[E];exact (V b E).imp (λh=>.inr h) id;rcases zD.1 J with I|I;have:=e.node.lt b E;have:=O b I;omega;exact e.cO b E I;have:=Dn h b E;have:=O b J;omega
def Ed.less(e:Ed dbk pb FD D j S0 N0 w0 w T Y F M x n B)(G:∀b∈Y1,b∈Y):Ed dbk pb FD D j S0 N0 w0 w T Y1 F M x n B:=by
 have I:∀b∈T++(B++Y1),b∈T++(B++Y):=λb E=>by simp only[zD] at E⊢;rcases E with E|E|E;simp[E];simp[E];simp[G b E]
 exact⟨e.sg,e.tw.y4 I,e.node.j6 λb E=>.inl (zh I b E),e.sep,e.cL,e.cV,λb E h=>e.cO b E (G b h)⟩
def qDH(I:TW dbk pb FD D j w (B++(T++Y)) F M)(J:gc (Zo FD (B++(T++Y)) F) w x n B)(O:∀b∈T,b∉B)(h:dY T w w' L'): TW dbk pb FD D j w' (B++Y) F M/\gc (Zo FD (B++Y) F) w' x n B:=by
 have G:∀b∈T++(B++Y),b∈B++(T++Y):=λb E=>by rw[zD,zD] at E⊢;rcases E with E|E|E<;>simp[E]
 have o:rc FD F w T (B++Y) x n B:=⟨J.j6 λb E=>.inl (zh G b E),O⟩;exact⟨(TW.J0 (I.y4 G) h).j7,(o.J0 h).node.j6 λb E=>.inl (De b E)⟩
set_option maxHeartbeats 2000000 in
def Lq{ks:Sl}{key:Key}(aB:fj key)(ao:jh k v):∀(f:Nat) {Y F:Mk} {w0:Md} {M:eU} {p:Int} {K:mp×Int->WP} (hT:TW dbk pb FD D j w0 Y F M) (hp:jf p) (hk:eY (Zo FD Y F) w0 ks key) (O:pB D k v key f M p) (kk:∀yn B' F' w',((jk D k v key f M p).1.2=0->iL (jk D k v key f M p).1.1)->TW dbk pb FD D j w' (B'++Y) F' (jk D k v key f M p).2->gc (Zo FD (B'++Y) F') w' yn (jk D k v key f M p).1.1 B'->Fr F w0 w'->(∀b∈B',w0.z<=b)->(∀b∈F',b∈F\/w0.z<=b)->K (yn,(jk D k v key f M p).1.2) w'), cW 283 [.agg (qH (lM k v pb t)),.u p,ks.v] [.agg eI,.one .i] w0 K
 | 0,_,_,_,_,_,_,_,_,_,O,_=>O.elim
 | f+1,Y,F,w0,M,p,K,hT,hp,hk,O,kk=>by
  refine qoY ?_;have h:=oG [] w0;have g:=Sg.start F w0;refine oD h λr1 w2 _ _ h=>oD h λr3 w4 _ _ h=>Mj h 1 (lM k v pb t) ?_;rcases U:dR D M k v p with ⟨n,e0⟩;refine Er (hT.cG h) hp λx B w7 bj aI f7 bk=>?_;rw[U] at aI⊢;dsimp only at aI;obtain⟨e,h⟩:=Ed.load (N0:=[]) (λ_ h=>nomatch h) g h bj aI f7 bk λb E=>yD (hT.uU b E) h.fr.size;refine oD h λr8 w9 _ _ h=>oF h 0 rfl (fB x) λbU h _=>?_;have ap:∀ {e:Int} {M':eU} {F':Mk} {w'},jk D k v key (f+1) M p=((jx,e),M')->e≠0->TW dbk pb FD D j w' Y F' M'->Fr F w0 w'->(∀b∈F',b∈F\/w0.z<=b)->K (gG,e) w':=λhe bl bm fr hF=>by
   have:=kk gG [] _ _ (λh=>by rw[he] at h;exact absurd h bl) (by rw[he];exact bm) (by rw[he];exact .zero _ _) fr (λ_ h=>nomatch h) hF;rw[he] at this;exact this
  apply eF<;>intro V;have aD:e0≠0:=by rw[zT] at V;exact zR.1 V
  refine oF h 1 rfl (fB gG) λbX h _=>Mj h 1 gG ?_;have e:=e.J0 h;exact ap (qB1 U aD) aD e.uz.j7 e.fr e.sg.new;have bn:e0=0:=by rw[yE] at V;exact yP.1 V
  subst bn;have hr:=Fm U;have sn:=qnS hr;obtain⟨l1,l2,l3,l4,l5⟩:=AL hr;have e:=e.J0 h;have aU:=e.node.1;refine Mi h 0 x.1 ?_;apply eF<;>intro V;rw[aU] at V;obtain⟨l6,l7⟩:=l4 V;refine Mj h 0 x<|GP e.cD (e.cY hk) aB hr.2.2.1 oL λb2 bo=>?_;obtain⟨e,h⟩:=e.cE h bo;apply eF<;>intro aa;rw[zT] at aa;have aV:=zB aa;refine oF h 1 rfl (fB gG) λb3 h _=>Mj h 1 gG ?_;have e:=e.J0 h;exact ap (qzv U V aV) oO e.uz.j7 e.fr e.sg.new;rw[yE] at aa;have aW:=zC aa;have aX:=(zP.1 aW).1;have ac:=qB2 (f:=f) U V aW;have ew:wrap .i64 ((eh n.J6 key:Int)+1)=((eh n.J6 key+1:Nat):Int):=uZ oL;rw[ac] at kk;have h:=oH h;refine Mi h 0 x.2.1<|Mi h 0 x.2.2.1 ?_;have e:=e.J0 h;refine e.EE h aX rfl ew oL λai B1 b4 e h _=>gY (h.cell 0)<|e.Iv h oP rfl ew oP λaq B2 b5 e h _=>oF h 0 rfl (fB (x.1,ai,x.2.2.1,x.2.2.2)) λb6 h _=>oF h 0 rfl (fB (x.1,ai,aq,x.2.2.2)) λb7 h _=>Mj h 0 (x.1,ai,aq,x.2.2.2)<|oF h 1 rfl (fB (x.1,ai,aq,x.2.2.2)) λbq h _=>Mj h 1 (x.1,ai,aq,x.2.2.2) ?_;have e:=e.J0 h;have k1:=Hd aX;have k2:=Hd (l:=n.Q0) (i:=eh n.J6 key) oL;exact kk (x.1,ai,aq,x.2.2.2) B2 F bq (λ_=>⟨λ_=>by dsimp only;omega,(λh=>by dsimp only at h;rw[V] at h;cases h),by dsimp only;omega,by dsimp only;omega,by dsimp only;omega⟩) e.tw.j7 (e.node.j6 λb E=>.inl (De b E)) e.fr (λb E=>(e.cL b E).elim (λh=>nomatch h) id) e.sg.new
  ·rw[aU] at V;have aJ:¬n.Q4=true:=(by rw[V];decide);obtain⟨l6,l7,l8⟩:=l5 V;obtain⟨I,ab⟩:=O n U V;refine Mj h 0 x<|HY e.cD (e.cY hk) aB hr.2.2.1 oL λb8 br=>?_;obtain⟨e,h⟩:=e.cE h br;have bs:=FN n.J6 key;have ar:=λN e1 M1 he=>qzu (key:=key) (f:=f) (N:=N) (e1:=e1) (M1:=M1) U aJ he;have aa:=λN M1 he=>qzt (key:=key) (f:=f) (N:=N) (M1:=M1) U aJ he;have aK:=λN M1 he=>qzs (key:=key) (f:=f) (N:=N) (M1:=M1) U aJ he;generalize b9:ga n.J6 key=c at bs I ab ar aa aK⊢;have ad:c<n.J9.length:=oL;have bt:=Ae ad;rw[bt] at I ab ar aa aK;have hu:=e.node.2.1.2.2 _ (zW ad);rcases aj:jk D k v key f M n.J9[c] with ⟨⟨N1,e1⟩,M1⟩;have ar:=ar N1 e1 M1 aj;refine⟨?a,?b⟩;case' a=>
    have h:=oH h;have e:=e.J0 h;refine Mj h 2 (lM k v pb t)<|Mi h 0 x.2.2.2<|eT.cT e.y8 c rfl ad λbv hh=>?_;have hz:=e.fr.size;refine Lq aB ao f e.tw hu (e.cY hk) I λxx Bx F1 bA ak ae J aL af aM=>?_;rw[aj] at ak ae J⊢;dsimp only at ak J⊢;obtain⟨e,h,ox⟩:=e.Bw h ae J aL aM af;refine oD h λan bB _ _ h=>nh (hh _ _ (e.J0 h).y8) (h.cell 1) (h.cells 3)<|oF h 0 rfl (fB xx) λbC h _=>?_;have aC:∀b∈Bx,w0.z<=b:=λb E=>zL hz (af b E);have ox:=ox.J0 h;have e:=e.J0 h;have h:=po h (.refl _)
   case' b=>
    have h:=oH h;have e:=e.J0 h;have h:=po h (.refl _);refine Mj h 2 (lM k v pb t)<|Mi h 0 x.2.2.2<|eT.cT e.y8 c rfl ad λbv hh=>oD h λan bB _ _ h=>?_;have e:=e.J0 h;refine nh (hh _ _ e.y8) (h.cell 1) (h.cells 3) ?_;have hz:=e.fr.size;refine Lq aB ao f e.tw hu (e.cY hk) I λxx Bx F1 bA ak ae J aL af aM=>?_;rw[aj] at ak ae J⊢;dsimp only at ak J⊢;obtain⟨e,h,ox⟩:=e.Bw h ae J aL aM af;refine oF h 0 rfl (fB xx) λbC h _=>?_;have aC:∀b∈Bx,w0.z<=b:=λb E=>zL hz (af b E);have ox:=ox.J0 h;have e:=e.J0 h;have h:=po h (.refl _)
   all_goals
    apply eF<;>intro hq;have aE:e1≠0:=by rw[zT] at hq;exact zR.1 hq
    refine oF h 2 rfl (fB gG) λca h _=>Mj h 2 gG ?_;have e:=e.J0 h;exact ap (ar aE) aE (e.uz.y4 λb E=>by simp[E]) e.fr e.sg.new;have bD:e1=0:=by rw[yE] at hq;exact yP.1 hq
    subst bD;have sx:=ak rfl;refine Mj h 3 (Fh k v)<|Mj h 0 xx ?_;have lx:=(ox.node.rd (S:=[]) (λ_ _ h=>(nomatch h)) λ_ h=>nomatch h).lens;refine qEW lx λau a0=>?_;obtain⟨e,h⟩:=e.cE h a0;have ox:=ox.q9 a0;apply eF<;>intro av;have ah:¬rG N1 k v:=by rw[zT] at av;exact zB av
    have ac:=aa N1 M1 aj ah;rw[ac] at kk;have h:=oH h;have e:=e.J0 h;refine Mi h 1 x.2.2.2<|Mj h 3 (lM k v pb t)<|Mi h 1 x.2.2.2<|eT.get e.y8 c rfl (zA ad) rfl<|Mj h 0 xx ?_;have z1:=sx.J6;have z2:=sx.Q0;have z3:=sx.J9;have bE:=ox.node.rd (λb E G=>by
     have hs:=e.tw.sep b (by simp[E]);rcases zD.1 G with G|G;rcases zD.1 G with G|G;exact hs.1 G;rcases zG.1 G with G|G;exact hs.2 G;rcases zD.1 G with G|G;exact ox.sep b G E;rcases zD.1 G with G|G;exact e.cO b G (by simp[E]);have:=aC b E;have:=hT.uU b G;omega;exact e.tw.yf b (by simp[E]) G) λb E=>.inl (zh (λb E=>by
     rw[zD,zD] at E⊢;rcases E with E|E|E;exact .inl E;exact .inr (by simp[E]);exact .inr (by simp[E])) b E)
    have e:=e.less λb E=>zI _ E;refine An e.tw bE oL oL oL λF2 cd a3 bF bG=>?_;have a4:jf (ee k v M1 n.J9[c] N1).1.1:=Aq e.tw.wf hu;obtain⟨e,h⟩:=e.next h a3 bF bG;generalize ee k v M1 n.J9[c] N1=st at kk e a4⊢;obtain⟨⟨a1,s1⟩,M2⟩:=st;refine gY (h.cell 1)<|e.zp h ad rfl a4 λB2 ce e h _=>Mj h 1 x<|oF h 2 rfl (fB x) λbH h _=>Mj h 2 x ?_;have e:=e.J0 h;exact kk x B2 F2 bH (λ_=>⟨(λh=>by dsimp only at h;rw[V] at h;cases h),λ_=>by dsimp only;rw[xF];omega,by dsimp only;omega,by dsimp only;omega,by dsimp only;rw[xF];omega⟩) e.tw.j7 (e.node.j6 λb E=>.inl (De b E)) e.fr (λb E=>(e.cL b E).elim (λh=>nomatch h) id) e.sg.new;have ah:rG N1 k v:=by rw[yE] at av;exact zC av
    have ac:=aK N1 M1 aj ah;have bI:=ab N1 M1 aj ah;rw[ac] at kk;have ag:∀b∈B++(Bx++([an,r8,r3,r1]++Y)),b∈[an,r8,r3,r1]++(B++(Bx++Y)):=λb E=>by rw[zD,zD,zD] at E⊢;rcases E with E|E|E|E<;>simp[E]
    have bJ:∀b∈Bx,b∉Y:=λb E G=>by have:=aC b E;have:=hT.uU b G;omega
    have a5:ka c+1=c\/c+1=ka c:=(by unfold ka;split<;>omega);have hs:ka c<n.J9.length:=(by unfold ka;split<;>omega);have aF:=λ{K':mp×Int->WP} (bK)=>qCa (t:=t) (K:=K') (e.tw.y4 ag) (e.node.j6 λb E=>.inl (zh ag b E)) (ox.node.j6 λb E=>.inl (zh ag b E)) (λb E G=>e.cO b E (zH _ G)) (λb E G=>(zD.1 G).elim (λG=>e.sep b G E) λG=>e.cO b E (zI _ G)) (λb E G=>(zD.1 G).elim (λG=>ox.sep b G E) (bJ b E)) sn sx V a5 hs ad bI ao bK;have a6:=λh0=>qvP (D:=D) (M:=M1) (k:=k) (v:=v) (nx:=N1) sn V a5 hs ad h0;have hS:∀b∈B++(Bx++F1),b∈F\/w0.z<=b:=λb E=>by rcases zD.1 E with E|E;exact (e.cL b E).elim (λh=>nomatch h) .inr;rcases zD.1 E with E|E;exact .inr (aC b E);exact e.sg.new b E
    have bL:∀b∈[an,r8,r3,r1],b<au.z:=λb E=>e.tw.uU b (zH _ E);have a7:∀b∈[an,r8,r3,r1],b∉B++(Bx++F1):=λb E G=>by rcases zD.1 G with G|G;exact e.sep b E G;rcases zD.1 G with G|G;exact ox.sep b E G;exact e.tw.yf b (zH _ E) G
    generalize lJ D k v M1 n (ka c) c N1=ev at kk a6 aF;have aw:∀ {z:Int},z=(ka c:Int)->(dP jL (dh r1) au λa8=>dP eI (dh r8) au λa9=>dP eI (dh an) au λa'=>
      cW 298 [eV jL a8,eV eI a9,Value.int IntKind.i64 z,Value.int IntKind.i64 c,eV eI a'] [jV.agg eI,jV.one (Cell.int IntKind.i64)] au λaG ba=>
      st (dh r3) (HL.mk eI aG.1) ba λaH=>dP eI (dh r3) aH λbc=>K (bc,aG.2) aH):=λhz=>by
     subst hz;refine Mj h 3 (lM k v pb t)<|Mj h 1 x<|Mj h 0 xx<|aF λyn B' F' ch bd bf bg nB nF=>?_;have h:=uy h bg a7;refine oF h 2 rfl (fB yn) λbM h _=>Mj h 2 yn ?_;obtain⟨bN,bO⟩:=qDH bd bf (λb E G=>(nB b G).elim (e.sep b E) λh1=>by have:=bL b E;omega) h;exact kk yn B' F' bM a6 bN bO ((e.fr.j8 bg hS).j8 h.fr e.sg.own) (λb E=>(nB b E).elim (λh1=>(e.cL b h1).elim (λh=>nomatch h) id) λh1=>zL e.fr.size h1) λb E=>(nF b E).elim (hS b) λh1=>.inr (zL e.fr.size h1)
    apply cD<;>intro aN;have ax:0<c:=oL;refine aw ?_;unfold ka;rw[iP ax,gJ _ oL];omega;have ax:¬0<c:=oL;refine aw ?_;unfold ka;rw[iN ax,gJ _ oL];omega
abbrev RtC:=Mw
def v7 (x:RtC):Array Me:=#[.u x.1,.u x.2.1,.u x.2.2]
abbrev RT:Mf:=91
def IN{vb:Nat}{T':Mf}{h:Mu}(G:w.heap[vb]?=some (.cells #[je ks] T' h))(I:vb∉S)(J:eY S w ks key):lf S w ⟨pW vb,1,1⟩ [(ks,key)]:=
 ⟨⟨rfl,zM _,.inr ⟨vb,0,_,T',h,rfl,G,I,λi x E=>by
  cases i with
  | zero=>cases E;rfl
  | succ i=>simp at E⟩⟩,λp O=>by rw[zE.1 O];exact J⟩
def qEu{vb:Nat}{T':Mf}{E:Mu}{a b:Int}(G:w.heap[vb]?=some (.cells #[.u a,.u b] T' E))(I:vb∉S):eT jS 1 S w ⟨pW vb,2,2⟩ [a,b]:=
 ⟨rfl,zM _,.inr ⟨vb,0,_,T',E,rfl,G,I,λi x h=>by
  match i,h with
  | 0,h=>cases h;rfl
  | 1,h=>cases h;rfl
  | i+2,h=>simp at h⟩⟩
def Fx(h:TW dbk pb FD D j w Y F M)(G:w.z<=b):b∉Zo FD Y F:=λE=>by have:=h.xu b E;omega
variable {K:Int->WP} {vs:Sl} {val:Key} {L:iF} {P:Ml}
set_option maxHeartbeats 1000000 in
def qx7(ar:fj key)(au:fj val)(hT:TW dbk pb FD D j w0 Y F M)(hk:eY (Zo FD Y F) w0 ks key)(hv:eY (Zo FD Y F) w0 vs val)(E:(eS M t).1≠0->(jg D k v key val f M (eS M t).1).1.2≠-1)(G:∀F' w',TW dbk pb FD D j w' Y F' (lF D k v t key val f M).2->Fr F w0 w'->(∀b∈F',b∈F\/w0.z<=b)->K (lF D k v t key val f M).1 w'): cW 147 [.agg (qH (lM k v pb t)),ks.v,vs.v] dj w0 K:=by
 refine qkI ?_;have g:=Sg.start F w0;have h:=oG [] w0;obtain⟨u1,u2,u3⟩:=GN hT.wf t;refine oD h λr1 w2 _ _ h=>Mi h 0 (pW pb)<|Mi h 0 t<|TW.J5 (hT.q9 h.fr) λw6 f6=>?_;have h:=h.q9 f6;unfold lF at G;generalize eS M t=U at G E u1 u2 u3⊢;refine oD h λr7 w8 _ _ h=>oF h 0 rfl (v7 U) λw9 h _=>Mi h 0 U.1 ?_;apply eF<;>intro hc;have hc:=yP.1 hc;rw[iP hc] at G;refine Mj h 1 (lM k v pb t) ?_;have ak:=hT.cG h;have aR:=zy hk h;have aT:=zy hv h;have g:=g.cE h (.refl [] _);have h:=po h (.refl _);refine oD h λav bo bp aw h=>oD h λax aU bq aV h=>?_;have bl:=aw.size;have ac:=aw.trans aV;have ai:=ak.q9 ac;have aW:=Fx ak (b:=av) oL;have aX:=Fx ak (b:=ax) oL;have al:=IN (h.at (i:=1) rfl) aW (aR.q9 ac);have aY:=IN (h.at (i:=0) rfl) aX (aT.q9 ac);have hx:fe _ aU (true,⟨pW av,1,1⟩,⟨pW ax,1,1⟩,dN) (fL [(key,val)]):=⟨rfl,⟨λa ha=>by rw[zE.1 ha];exact ar,λa ha=>by rw[zE.1 ha];exact au,λ_ h=>nomatch h⟩,⟨_,al,rfl⟩,⟨_,aY,rfl⟩,.nil _ _ _ _⟩;refine An ai hx (zO rfl) (zO rfl) (zO rfl) λF1 a0 ad az a1=>?_;have g:=g.next h az a1
 have h:=uy (h.sub (.cons _ (.cons _ (.refl _)))) az λb hb=>ai.yf b (zH _ hb);have hu:jf (ee k v M 0 (fL [(key,val)])).1.1:=Aq hT.wf Ab;unfold mF at G;generalize ee k v M 0 (fL [(key,val)])=st at G ad hu⊢;obtain⟨⟨q,e⟩,M1⟩:=st;apply eF<;>intro O;have E:e≠0:=by rw[zT] at O;exact zR.1 O
 rw[iP E] at G;exact G F1 a0 ad.j7 g.tJ g.new;have E:¬e≠0:=by rw[yE] at O;exact λh=>h (yP.1 O)
 rw[iN E] at G;exact Mi h 1 (pW pb)<|Mi h 1 t<|TW.t9 ad hu ⟨oO,oO⟩ ⟨oO,oO⟩ λa2 aB a3=>G F1 a2 aB.j7 (g.tJ.j8 a3 g.new) g.new;have hc:=zR.1 hc;rw[iN hc] at G;refine Mj h 1 (lM k v pb t)<|Mi h 0 U.1<|I5 ar au f (hT.cG h) u1 (zy hk h) (zy hv h) (E hc) λgs F1 aC hG V aE aF a4=>?_;have g:=g.next h aF a4
 have h:=(hT.cG h).own h aF;generalize jg D k v key val f M U.1=pn at G hG V aE⊢;obtain⟨⟨J,e1⟩,M1⟩:=pn;unfold vK at G;refine oD h λaG bs _ _ h=>oF h 0 rfl (tl (xn J gs)) λa5 h _=>?_;apply eF<;>intro O;have E:e1≠0:=by rw[zT] at O;exact zR.1 O
 rw[iP E] at G;exact G F1 a5 (V.J0 h).j7 (g.fr h) g.new;have E:¬e1≠0:=by rw[yE] at O;exact λh=>h (yP.1 O)
 rw[iN E] at G;refine Mi h 0 J.x5<|oF h 1 rfl (v7 (J.x5,U.2.1,U.2.2)) λbt h _=>?_;have aH:jf (if J.J8 then wrap .u32 (U.2.1+1) else U.2.1):=by split;exact CH _;exact u2
 refine jd (λ_ w'=>dY [r7,r1] aC w' [(aG,.c (tl (xn J gs)) GR),(r7,.c (v7 (J.x5,(if J.J8 then wrap .u32 (U.2.1+1) else U.2.1),U.2.2)) RT),(r1,.c (qH (lM k v pb t)) WK)]) ?_ ?_;refine Mi h 0 J.J8 ?_;apply eF<;>intro I;rw[iP I];refine Mi h 1 U.2.1<|oF h 1 rfl (v7 (J.x5,wrap .u32 (U.2.1+1),U.2.2)) λbu h _=>h;rw[iN (by rw[I];decide)];exact h;intro _ bv h;generalize (if J.J8 then wrap .u32 (U.2.1+1) else U.2.1)=ab at G aH h;refine jd (λ_ w'=>∃(a c:Int) (F2 T:Mk) (M2:eU) (wa:Md),Sg F w0 wa F2 T/\TW dbk pb FD D j wa (T++Y) F2 M2/\dY T wa w' [(aG,.c (tl (xn J gs)) GR),(r7,.c (v7 (a,ab,c)) RT),(r1,.c (qH (lM k v pb t)) WK)]/\jf a/\jf c/\
  ∀F' w',TW dbk pb FD D j w' Y F' (fQ M2 t a ab c).2->Fr F w0 w'->(∀b∈F',b∈F\/w0.z<=b)->K (fQ M2 t a ab c).1 w') ?_ ?_
 refine Mi h 0 J.x4 ?_;apply eF<;>intro I;have I:J.x4≠0:=by rw[zT] at I;exact zR.1 I
 rw[iP I] at G;refine Mj h 2 (lM k v pb t)<|Mi h 0 gs ?_;have aa:=TW.J0 V h;have an:=ue aE h;have g:=g.cE h (.refl [] _);have h:=po h (.refl _);refine oD h λaI bx bz aJ h=>Mi h 1 J.x5<|Mi h 1 J.x4<|oD h λaK a6 bA a7 h=>?_;have bm:=aJ.size;have aL:=aJ.trans a7;have aj:=aa.q9 aL;have a8:=Fx aa (b:=aI) oL;have a9:=Fx aa (b:=aK) oL;have al:=IN (h.at (i:=1) rfl) a8 (an.q9 aL);have a':=qEu (h.at (i:=0) rfl) a9;have hx:fe _ a6 (false,⟨pW aI,1,1⟩,dN,⟨pW aK,2,2⟩) ⟨false,[J.key],[],[J.x5,J.x4]⟩:=⟨rfl,⟨λa ha=>by rw[zE.1 ha];exact hG.key,λ_ h=>(nomatch h),λa ha=>by simp only[zG,xW,or_false] at ha;rcases ha with rfl|rfl;exact hG.x5;exact hG.x4⟩,⟨_,al,rfl⟩,⟨_,.nil _ _,rfl⟩,a'⟩;refine An aj hx (zO rfl) (zO rfl) (zO rfl) λF2 aM ae aN ba=>?_;have g:=g.next h aN ba
 have h:=uy (h.sub (.cons _ (.cons _ (.refl _)))) aN λb hb=>aj.yf b (zH _ hb);have hu:jf (ee k v M1 0 ⟨false,[J.key],[],[J.x5,J.x4]⟩).1.1:=Aq aa.wf Ab;unfold mF at G;generalize ee k v M1 0 ⟨false,[J.key],[],[J.x5,J.x4]⟩=st at G ae hu⊢;obtain⟨⟨q,e⟩,M2⟩:=st;apply eF<;>intro af;have E:e≠0:=by rw[zT] at af;exact zR.1 af
 rw[iP E] at G;exact G F2 aM ae.j7 g.tJ g.new;have E:¬e≠0:=by rw[yE] at af;exact λh=>h (yP.1 af)
 rw[iN E] at G;exact Mi h 1 U.2.2<|oF h 1 rfl (v7 (q,ab,U.2.2)) λbB h _=>oF h 1 rfl (v7 (q,ab,wrap .u32 (U.2.2+1))) λbC h _=>⟨q,_,F2,_,M2,aM,⟨g.tJ,g.new,λb hb=>g.own b (by simp at hb⊢;rcases hb with h|h|h<;>simp[h])⟩,ae,h,hu,CH _,G⟩;have I:¬J.x4≠0:=by rw[yE] at I;exact λh=>h (yP.1 I)
 rw[iN I] at G;exact⟨J.x5,U.2.2,F1,[r7,r1],M1,aC,g,V,h,hG.x5,u3,G⟩;rintro _ bD ⟨a,c,F2,T,M2,wa,g,bc,h,ha,bd,G⟩;exact Mi h 2 (pW pb)<|Mi h 2 t<|Mj h 1 (a,ab,c)<|TW.t9 (bc.J0 h) ha aH bd λbf aO bg=>G F2 bf aO.j7 ((g.fr h).j8 bg g.new) g.new
def rc.rd(o:rc FD F w T (B++Y) x n B)(I:TW dbk pb FD D j w (T++(B++Y)) F M)(G:∀b∈B,b∉Y):fe (Zo FD (T++Y) F) w x n:=
 o.node.rd (λb h E=>by
  have J:=I.sep b (by simp[h]);simp only[Zo,zD,zG] at E;rcases E with (E|E|E|E)|E;exact J.1 E;exact J.2 E;exact o.sep b E h;exact G b h E;exact I.yf b (by simp[h]) E) λb h=>.inl (zh (λb h=>by
  rw[zD] at h;simp only[zD];rcases h with h|h;exact .inl h;exact .inr (.inr h)) b h)
def rc.next(o:rc FD F w T R x n B)(f:Fr F w w')(h:∀b∈B,b∉F)(E:∀b∈F',b∈F\/w.z<=b):rc FD F' w' T R x n B:=⟨o.node.j0 f h (λb G=>.inl (AN G)) (TW.AI E),o.sep⟩
def qAV{r:Mw}:pw k v t r ((N,0),M) = if N.Q4=true/\N.J6.length=0 then (if (gf M r.1).1≠0 then ((gf M r.1).1,(gf M r.1).2) else fQ (gf M r.1).2 t 0 0 0) else if N.Q4=false/\N.J9.length=1 then (if (gf M r.1).1≠0 then ((gf M r.1).1,(gf M r.1).2) else fQ (gf M r.1).2 t (N.J9.getD 0 0) (wrap .u32 (r.2.1-1)) (wrap .u32 (r.2.2-1))) else mF t (ee k v M r.1 N) (wrap .u32 (r.2.1-1)) r.2.2:=by unfold pw;rw[iN λh=>h rfl]
set_option maxHeartbeats 1000000 in
def qyx(aH:fj key)(ap:jh k v)(hT:TW dbk pb FD D j w0 Y F M)(hk:eY (Zo FD Y F) w0 ks key)(aa:pB D k v key f M (eS M t).1)(I:∀F' w',TW dbk pb FD D j w' Y F' (mO D k v t key f M).2->Fr F w0 w'->(∀b∈F',b∈F\/w0.z<=b)->K (mO D k v t key f M).1 w'): cW 256 [.agg (qH (lM k v pb t)),ks.v] dj w0 K:=by
 refine qkJ ?_;have g:=Sg.start F w0;have h:=oG [] w0;obtain⟨u1,u2,u3⟩:=GN hT.wf t;refine oD h λr1 w2 _ _ h=>Mi h 0 (pW pb)<|Mi h 0 t<|TW.J5 (hT.q9 h.fr) λw6 f6=>?_;have h:=h.q9 f6;unfold mO at I;generalize eS M t=J at I aa u1 u2 u3⊢;refine oD h λr7 w8 _ _ h=>oF h 0 rfl (v7 J) λw9 h _=>Mj h 1 (lM k v pb t)<|Mi h 0 J.1<|Lq aH ap f (hT.cG h) u1 (zy hk h) aa λx B F1 ar aj ab ac au ag aK=>?_;have aL:=Dn h;have a6:=h.fr.size;have g:=g.next h au aK
 have h:=(hT.cG h).own h au;generalize jk D k v key f M J.1=cn at I aj ab ac⊢;obtain⟨⟨N,e1⟩,M1⟩:=cn;dsimp only at aj ab ac⊢;have av:TW dbk pb FD D j ar ([r7,r1]++(B++Y)) F1 M1:=ab.y4 λb E=>by rw[zD,zD] at E;simp only[zD];rcases E with E|E|E;exact .inr (.inl E);exact .inl E;exact .inr (.inr E)
 have o:rc FD F1 ar [r7,r1] (B++Y) x N B:=⟨ac.j6 λb E=>.inl (zh (λb E=>by rw[zD,zD] at E;simp only[zD];rcases E with E|E|E;exact .inr (.inl E);exact .inl E;exact .inr (.inr E)) b E),λb E hm=>by have:=aL b E;have:=ag b hm;omega⟩;have aN:∀b∈B,b∉Y:=λb E hm=>by have:=hT.uU b hm;have:=ag b E;omega
 have O:∀ {T:Mk},∀b∈T++Y,b∈T++(B++Y):=λb E=>by rw[zD] at E;simp only[zD];rcases E with E|E;exact .inl E;exact .inr (.inr E)
 refine oD h λaO a8 _ _ h=>oF h 0 rfl (fB x) λaP h _=>?_;apply eF<;>intro U;have ad:e1≠0:=by rw[zT] at U;exact zR.1 U
 have e:pw k v t J ((N,e1),M1)=(e1,M1):=(by unfold pw;rw[iP ad]);rw[e] at I;exact I F1 aP ((TW.J0 av h).y4 λb E=>by simp[E]) (g.fr h) g.new;have aQ:e1=0:=(by rw[yE] at U;exact yP.1 U);subst aQ;rw[qAV] at I;have ae:=o.node.1;have aw:=(o.node.rd (S:=[]) (λ_ _ h=>(nomatch h)) λ_ h=>nomatch h).lens;have ak:jf (wrap .u32 (J.2.1-1)):=CH _;refine Mi h 1 J.2.1<|oF h 1 rfl (v7 (J.1,wrap .u32 (J.2.1-1),J.2.2)) λax h _=>?_;generalize wrap .u32 (J.2.1-1)=af at I ak h;have G:=TW.J0 av h;have o:=o.J0 h;have g:Sg F w0 ax F1 (fU _):=g.cE h (.refl [] _);have h:=po h (.refl _);refine jd (λe w'=>∃(a b c:Int) (F2 T:Mk) (M2:eU) (wa:Md),Sg F w0 wa F2 T/\TW dbk pb FD D j wa (T++Y) F2 M2/\dY T wa w' [(aO,.c (fB x) ND),(r7,.c (v7 (a,b,c)) RT),(r1,.c (qH (lM k v pb t)) WK)]/\jf a/\jf b/\jf c/\
  ∀F' w',TW dbk pb FD D j w' Y F' (if e≠0 then (e,M2) else fQ M2 t a b c).2->Fr F w0 w'->(∀b∈F',b∈F\/w0.z<=b)->K (if e≠0 then (e,M2) else fQ M2 t a b c).1 w') ?_ ?_
 refine jd (λd w'=>d=decide (N.Q4=true/\N.J6.length=0)/\w'=ax) ?_ ?_;refine Mi h 0 x.1 ?_;apply eF<;>intro U;rw[ae] at U;refine Mi h 0 x.2.1 ⟨?_,rfl⟩;rw[aw.J6,LR,yP,yN];exact⟨λh=>⟨U,oL⟩,λh=>by rw[h.2];rfl⟩;rw[ae] at U;exact⟨(zU λh=>by rw[U] at h;exact absurd h.1 oO).symm,rfl⟩;rintro d aR ⟨rfl,rfl⟩;apply eF<;>intro hd;have hd:=zC hd;rw[iP hd] at I;refine Mi h 2 (pW pb)<|Mi h 1 J.1<|TW.drop (G.y4 O) λF2 aT ay az aU=>?_;have g:=g.next h az aU
 have h:=TW.own (G.y4 O) h az;exact oF h 1 rfl (v7 (0,0,0)) λa9 h _=>⟨0,0,0,F2,_,_,aT,g,ay,h,Ab,Ab,Ab,I⟩;have hd:=zB hd;rw[iN hd] at I;refine jd (λd w'=>d=decide (N.Q4=false/\N.J9.length=1)/\w'=aR) ?_ ?_;refine Mi h 0 x.1 ?_;apply eF<;>intro U;rw[ae,zT] at U;refine Mi h 0 x.2.2.2 ⟨?_,rfl⟩;rw[aw.J9,LR,yP,yN];exact⟨λh=>⟨U,oL⟩,λh=>by rw[h.2];rfl⟩;rw[ae,yE] at U;exact⟨(zU λh=>by rw[U] at h;exact absurd h.1 oO).symm,rfl⟩;rintro d a' ⟨rfl,rfl⟩;apply eF<;>intro V;have V:=zC V;rw[iP V] at I;have an:0<N.J9.length:=oL;rw[Ae an] at I;have aV:jf N.J9[0]:=o.node.2.1.2.2 _ (zW an);refine Mi h 2 (pW pb)<|Mi h 1 J.1<|TW.drop G λF2 aW aA ao aB=>?_;have g:=g.next h ao aB
 have o:=o.next ao (λb E=>G.yf b (by simp[E])) aB;have h:=TW.own G h ao;have h:=oH h;refine Mi h 0 x.2.2.2 ?_;have oR:fe [] _ x N:=(o.J0 h).node.rd (λ_ _ h=>(nomatch h)) λ_ h=>nomatch h;exact eT.get oR.2.2.2.2 0 rfl (zA an) rfl<|Mi h 1 J.2.2<|oF h 1 rfl (v7 (N.J9[0],af,J.2.2)) λbc h _=>oF h 1 rfl (v7 (N.J9[0],af,wrap .u32 (J.2.2-1))) λbd h _=>⟨_,_,_,F2,_,_,aW,g,aA.y4 O,h,aV,ak,CH _,I⟩;have V:=zB V;rw[iN V] at I;have sx:=aj rfl;have z1:=sx.J6;have z2:=sx.Q0;have z3:=sx.J9;refine Mj h 2 (lM k v pb t)<|Mi h 1 J.1<|Mj h 0 x<|An (G.y4 O) (o.rd G aN) oL oL oL λF2 aY ai aC aZ=>?_;have aD:jf (ee k v M1 J.1 N).1.1:=Aq G.wf u1;have g:=g.next h aC aZ
 have h:=TW.own (G.y4 O) h aC;unfold mF at I;generalize ee k v M1 J.1 N=st at I ai aD⊢;obtain⟨⟨q,e2⟩,M2⟩:=st;exact oF h 1 rfl (v7 (q,af,J.2.2)) λbf h _=>⟨q,af,J.2.2,F2,_,M2,aY,g,ai,h,aD,ak,u3,I⟩;rintro e a0 ⟨a,b,c,F2,T,M2,wa,g,aE,h,ua,ub,uc,I⟩;apply eF<;>intro V;have ad:e≠0:=by rw[zT] at V;exact zR.1 V
 rw[iP ad] at I;exact I F2 a0 (aE.J0 h).j7 (g.fr h) g.new;have ad:¬e≠0:=by rw[yE] at V;exact λh=>h (yP.1 V)
 rw[iN ad] at I;exact Mi h 2 (pW pb)<|Mi h 2 t<|Mj h 1 (a,b,c)<|TW.t9 (aE.J0 h) ua ub uc λa1 aF a2=>I F2 a1 aF.j7 ((g.fr h).j8 a2 g.new) g.new
def qAg{S:Type}{B:(S->WP)->S->WP}(I:Nat->S->WP)(J:∀f s w (X:S->WP),I f s w->(∀E G w',E<f->I E G w'->X G w')->B X s w):∀(f:Nat) {s:S} {w:Md},I f s w->loop S B s w:=λf=>by
 induction f using Nat.strongRecOn with|ind f ih=>exact λ{s w} h=>vV λX O=>J f s w X h λE G w' U V=>O _ _ (ih E U V)
noncomputable def oh (D:dQ) (k v:Nat) (key:Key) (M:eU):Nat->Int->Key×Int
 | 0,p=>if p=0 then ([],5) else ([],-1)
 | f+1,p=>if p=0 then ([],5)
  else if (dR D M k v p).2≠0 then ([],(dR D M k v p).2)
  else if (dR D M k v p).1.Q4 then
   if (dR D M k v p).1.J6[eh (dR D M k v p).1.J6 key]?=some key then ((dR D M k v p).1.Q0.getD (eh (dR D M k v p).1.J6 key) [],0) else ([],5)
  else oh D k v key M f ((dR D M k v p).1.J9.getD (ga (dR D M k v p).1.J6 key) 0)
def IC{K:Mr->WP}(ah:fj key)(hs:vj t=((k:Int),(v:Int)))(ay:k≠0)(a0:key.length=k)(hT:TW dbk pb FD D j w0 Y F M)(hk:eY (Zo FD Y F) w0 ks key)(U:(oh D k v key M f (eS M t).1).2≠-1)(kk:∀s B w',ip w' s (oh D k v key M f (eS M t).1).1 B->(∀b∈B,w0.z<=b)->Fr [] w0 w'->K (s,(oh D k v key M f (eS M t).1).2) w'): cW 29 [dM pb,.i t,ks.v] dl w0 K:=by
 refine qwl ?_;have aT:=hk.1;refine GG hs (λh=>absurd h ay) (λ_ h=>absurd oL h) λ_ _ w2 f2=>?_;have h:=(oG [] w0).q9 f2;refine oD h λr3 w4 _ _ h=>oF h 0 rfl (qH (lM k v pb t)) λw5 h _=>x_<|TW.J5 (hT.q9 h.fr) λw7 f7=>?_;have h:=h.q9 f7;have hu:=(GN hT.wf t).1;generalize eS M t=rt at kk U hu⊢;generalize aj:oh D k v key M f rt.1=ak at kk U;refine jd (λ_ w'=>ak=([],5)/\Fr [] w0 w') ?_ ?_
 ·refine qAg (λf s w'=>oh D k v key M f s=ak/\jf s/\dY [] w0 w' [(r3,.c (qH (lM k v pb t)) WK)]) ?_ f ⟨aj,hu,h⟩;rintro f s a4 X ⟨E,aB,h⟩ hX;apply eF<;>intro hc
  ·have V:s≠0:=(by rw[zT] at hc;exact zR.1 hc);cases f with
   | zero=>
    unfold oh at E;rw[iN V] at E;rw[<- E] at U;exact absurd rfl U
   | succ f=>
   unfold oh at E;rw[iN V] at E;refine Mj h 0 (lM k v pb t) ?_;rcases ad:dR D M k v s with ⟨n,e0⟩;rw[ad] at E;refine Er (hT.q9 h.fr) aB λx B aC aV ab aD aW=>?_;rw[ad] at ab⊢;have O:fe [] aC x n:=ab.rd (λ_ _ h=>(nomatch h)) λ_ h=>nomatch h;have h:=h.q9 aD;refine oD h λaE a6 a7 aF h=>?_;have O:=(O.j6 (S':=[aE]) λb hb=>by rw[zE.1 hb];exact .inr oL).q9 aF;refine oF h 0 rfl (fB x) λal h aH=>?_;have O:=O.j0 aH λb hb=>.inl hb;apply eF<;>intro G;have an:e0≠0:=by rw[zT] at G;exact zR.1 G
   rw[iP an] at E;subst E;exact kk dN [] al (.nil _ _ _) (λ_ h=>nomatch h) h.fr;have aI:e0=0:=by rw[yE] at G;exact yP.1 G
   subst aI;rw[iN λh=>h rfl] at E;have hr:=Fm ad;obtain⟨l1,l2,l3,l4,l5⟩:=AL hr;have ao:=O.1;refine Mi h 0 x.1 ?_;apply eF<;>intro I;have J:n.Q4=false:=(by rw[ao,zT] at I;exact I);rw[iN (by rw[J];decide)] at E;obtain⟨l6,l7,l8⟩:=l5 J;have aX:=FN n.J6 key;have fd:=(Fr.refl [] al).drew;have h:=oH h;refine Mi h 0 x.2.2.2<|Mj h 0 x<|HY (O.q9 fd) (hk.q9 h.fr) ah hr.2.2.1 oL λaJ ap=>?_;have h:=h.q9 ap;refine gY (h.cell 0) ?_;have ae:ga n.J6 key<n.J9.length:=oL;refine eT.get ((O.q9 fd).q9 ap).2.2.2.2 (ga n.J6 key) rfl (zA ae) rfl ?_;rw[Ae ae] at E;exact hX f _ aJ (Nat.lt_succ_self f) ⟨E,O.2.1.2.2 _ (zW ae),h.sub (L5 _ _)⟩;have J:n.Q4=true:=(by rw[ao,yE] at I;exact I);rw[iP J] at E;obtain⟨l6,l7⟩:=l4 J;refine Mj h 0 x<|GP O (hk.q9 h.fr) ah hr.2.2.1 oL λbc aq=>?_;have h:=h.q9 aq;apply cD<;>intro af;have ar:=af;rw[iP ar] at E;have bd:=(zP.1 ar).1;obtain⟨pv,au,ag⟩:=(O.q9 aq).2.2.2.1;have aa:eh n.J6 key<pv.length:=by
    have:=Ma List.length ag;rw[zK] at this;omega
   refine Mi h 0 x.2.2.1<|lf.get au (eh n.J6 key) rfl aa ?_;have av:n.Q0.getD (eh n.J6 key) []=pv[eh n.J6 key].2:=(by rw[<- ag,Cy aa]);rw[av] at E;have aK:pv[eh n.J6 key].2.length<=1000000:=by have h1:=hr.2.1 pv[eh n.J6 key].2 (by rw[<- ag];exact zY (zW aa));have h2:=qpl (k:=k) (v:=v) oL;omega
   refine DB (au.2 _ (zW aa)) aK λs' B' aL aM aN aO _ _=>?_;subst E;have aP:=h.fr.size;exact kk s' B' aL aM (λc hc=>zL aP (aO c hc)) (h.fr.trans aN);have aw:=af;rw[iN aw] at E;exact⟨E.symm,h.fr⟩
  have V:s=0:=(by rw[yE] at hc;exact yP.1 hc);refine⟨?_,h.fr⟩;rw[<- E];cases f<;>(unfold oh;rw[iP V])
 rintro _ aQ ⟨rfl,aR⟩;exact kk dN [] aQ (.nil _ _ _) (λ_ h=>nomatch h) aR
def Li{K:Mr->WP}(h:fj key)(O:vj t=((k:Int),(v:Int)))(E:k≠0)(I:key.length=k)(U:TW dbk pb FD D j w0 Y F M)(V:eY (Zo FD Y F) w0 ks key)(J:(oh D k v key M f (eS M t).1).2≠-1)(kk:∀s w',(∀G:Mk,(∀b∈G,b<w0.z)->eY G w' s (oh D k v key M f (eS M t).1).1)->Fr [] w0 w'->K (s,(oh D k v key M f (eS M t).1).2) w'): cW 29 [dM pb,.i t,ks.v] dl w0 K:=
 IC h O E I U V J λs B w' b n f=>kk s w' (λG hG=>b.ju mW λc hc hm=>by have:=n c hc;have:=hG c hm;omega) f
def qxa{r h:Int}(E:0<=r)(G:0<=h/\h<=1000000)(I:2*h.toNat+1<=r.toNat):decide (r>wrap .i64 (2*wrap .i64 h))=true:=by rw[gJ h oL,gJ (2*h) oL];exact yA oL
def qDo(aa:fj key)(ab:fj val)(hs:vj t=((k:Int),(v:Int)))(ac:k≠0)(an:key.length=k)(ad:val.length=v)(hT:TW dbk pb FD D j w0 Y F M)(hk:eY (Zo FD Y F) w0 ks key)(hv:eY (Zo FD Y F) w0 vs val)(ae:0<=(eS M t).2.2/\(eS M t).2.2<=1000000)(af:2*(eS M t).2.2.toNat+1<=M.Q1.length)(ag:(eS M t).1≠0->(jg D k v key val f M (eS M t).1).1.2≠-1)(kk:∀F' w',TW dbk pb FD D j w' Y F' (lF D k v t key val f M).2->Fr F w0 w'->(∀b∈F',b∈F\/w0.z<=b)->K (lF D k v t key val f M).1 w'): cW 86 [dM pb,.i t,ks.v,vs.v] dj w0 K:=by refine qwm ?_;have aq:=hk.1;have ah:=hv.1;have g:=Sg.start F w0;have h:=oG [] w0;refine oD h λr1 w2 _ _ h=>oD h λr3 w4 _ _ h=>Mi h 1 ks<|GG hs (λh=>absurd h ac) (λ_ h=>absurd oL h) λ_ _ w7 f7=>?_;have h:=h.q9 f7;refine oD h λr8 w9 _ _ h=>oF h 0 rfl (qH (lM k v pb t)) λau h _=>x_<|Mi h 1 vs<|Mi h 0 (v:Int)<|LK (by rw[ah,ad];simp)<|Mj h 0 (lM k v pb t) ?_;have E:=hT.cG h;have I:=zy hk h;have J:=zy hv h;have g:=g.cE h (.refl [] _);have h:=po h (.refl _);refine qe1<|oD h λq1 av _ _ h=>?_;have h:=oH h;refine Mi h 0 (pW pb)<|Mi h 0 (pW pb)<|Mi h 0 t<|TW.room (E.J0 h)<|jU (h.cell 0) (h.cell 0)<|TW.J5 (E.J0 h) λaw G=>?_;have O:=(E.J0 h).q9 G;have U:=(ue I h).q9 G;have V:=(ue J h).q9 G;have g:=g.cE h G;have h:=uy h G λ_ _ h=>nomatch h;exact LJ (qxa oL ae oL)<|nM rfl oM<|qrB<|Mj h 1 (lM k v pb t)<|Mi h 3 ks<|Mi h 2 vs<|qx7 aa ab O U V ag λF' w' ai f' n'=>kk F' w' ai.j7 (g.tJ.j8 f' g.new) λb hb=>(n' b hb).elim (g.new b) λh1=>.inr (zL g.tJ.size h1)
def qDf{f2:Nat}(U:fj key)(V:jh k v)(hs:vj t=((k:Int),(v:Int)))(aa:k≠0)(ae:key.length=k)(hT:TW dbk pb FD D j w0 Y F M)(hk:eY (Zo FD Y F) w0 ks key)(ag:0<=(eS M t).2.2/\(eS M t).2.2<=1000000)(ah:2*(eS M t).2.2.toNat+1<=M.Q1.length)(J:(oh D k v key M f2 (eS M t).1).2=0)(O:pB D k v key f M (eS M t).1)(kk:∀F' w',TW dbk pb FD D j w' Y F' (mO D k v t key f M).2->Fr F w0 w'->(∀b∈F',b∈F\/w0.z<=b)->K (mO D k v t key f M).1 w'): cW 203 [dM pb,.i t,ks.v] dj w0 K:=by refine qnZ ?_;have ao:=hk.1;have g:=Sg.start F w0;have h:=oG [] w0;refine oD h λr1 w2 _ _ h=>Mi h 0 ks<|GG hs (λh=>absurd h aa) (λ_ h=>absurd oL h) λ_ _ w7 f7=>?_;have h:=h.q9 f7;refine oD h λr8 w9 _ _ h=>oF h 0 rfl (qH (lM k v pb t)) λaq h _=>x_<|Mi h 1 ks<|Li U hs aa ae (hT.cG h) (zy hk h) (by rw[J];decide) λs ar _ G=>?_;rw[J];have E:=(hT.cG h).q9 G;have ab:=(zy hk h).q9 G;have g:=g.cE h G;have h:=uy h G λ_ _ h=>nomatch h;refine x_<|Mj h 0 (lM k v pb t)<|qe1<|oD h λq1 au _ _ h=>?_;have h:=oH h;refine Mi h 0 (pW pb)<|Mi h 0 (pW pb)<|Mi h 0 t<|TW.room (E.J0 h)<|jU (h.cell 0) (h.cell 0)<|TW.J5 (E.J0 h) λav I=>?_;have ac:=(E.J0 h).q9 I;have ad:=(ue ab h).q9 I;have g:=g.cE h I;have h:=uy h I λ_ _ h=>nomatch h;exact LJ (qxa oL ag oL)<|nM rfl oM<|qrA<|Mj h 1 (lM k v pb t)<|Mi h 2 ks<|qyx U V ac ad O λF' w' ai f' n'=>kk F' w' ai.j7 (g.tJ.j8 f' g.new) λb hb=>(n' b hb).elim (g.new b) λh1=>.inr (zL g.tJ.size h1)
def mi (key:Key) (L:iF):Option Key:=(L.find? λx=>decide (x.1=key)).map (·.2)
def JK{A B:iF}:mi key (A++B)=match mi key A with|some v=>some v|none=>mi key B:=by unfold mi;rw[List.find?_append];cases A.find? (λx=>decide (x.1=key))<;>rfl
def Dc(h:∀x∈L,x.1≠key):mi key L=none:=by unfold mi;rw[List.find?_eq_none.2 λx E=>by simp[h x E]];rfl
def qr8(h:key∈eE L):∃v,mi key L=some v:=by
 unfold mi;obtain⟨x,E,rfl⟩:=mem_map.1 h;cases e:L.find? (λy=>decide (y.1=x.1)) with|none=>exact absurd (List.find?_eq_none.1 e x E) oN|some y=>exact⟨y.2,rfl⟩
def Has.get:∀ {h:Nat} {s:jF},Has D M k v h s->s.x5≠0->M.Wf->M.Q3=false->oh D k v key M (h+1) s.x5=match mi key s.y5 with|some x=>(x,0)|none=>([],5)
 | 0,s,hs,hp,hW,ho=>by
  obtain⟨h1,h2,h3,h4⟩:=hs;have hl:dR D M k v s.x5=(fL s.y5,0):=h3.load h4;have ad:gq s.y5:=h3.right.2.2.1;have ao:(fL s.y5).J6=eE s.y5:=rfl;unfold oh;rw[iN hp,hl];dsimp only;rw[iN λh=>h rfl,iP (show (fL s.y5).Q4=true from rfl),ao];by_cases hm:(eE s.y5)[eh (eE s.y5) key]?=some key
  ·rw[iP hm];have hi:eh (eE s.y5) key<s.y5.length:=by
    have:=(zP.1 hm).1;simpa using this
   have ap:=Hp (k:=key) ad;have ae:s.y5=s.y5.take (eh (eE s.y5) key)++s.y5[eh (eE s.y5) key]::s.y5.drop (eh (eE s.y5) key+1):=by rw[getElem_cons_drop,xD]
   have O:s.y5[eh (eE s.y5) key].1=key:=(by rw[zQ,zA hi] at hm;simpa using hm);have hg:mi key s.y5=some s.y5[eh (eE s.y5) key].2:=by
    conv=>lhs;rw[ae]
    rw[JK,Dc λx E=>C5 (ap.1 x E)];unfold mi;rw[List.find?_cons_of_pos (by simp[O])];rfl
   rw[hg];show ((List.map (·.2) s.y5).getD _ [],(0:Int))=_;rw[yR,zQ,zA hi];rfl
  rw[iN hm];have hn:key∉eE s.y5:=λh=>hm ((CO ad).2 h);rw[Dc λx E e=>hn (by rw[<- e];exact zY E)]
 | h+1,⟨p,n,L,P⟩,⟨es,h0,h1,h2,h3,h4,h5,h6,h7⟩,hp,hW,ho=>by
  dsimp only at h1 h2 h3 h5 hp;subst h1 h2 h3;have hl:=h4.load h5;obtain⟨A,e,B,U,hA,O,aq,V⟩:=G0 h0 h6;have aa:(eK es).J9.getD (ga (eK es).J6 key) 0=e.2.x5:=V;have ar:e∈es:=(by rw[U];simp);obtain⟨ab,_⟩:=h7 e ar;have aF:=Be hW (ab.J4 ho e.2.x5 ab.mem);unfold oh;rw[iN hp,hl];rw[iN λh=>h rfl,iN (show ¬(eK es).Q4=true from λe=>nomatch e),aa,ab.get oL hW ho];have J:=h6;rw[U] at J;have G:=J.mid;have I:es.flatMap (·.2.y5)=A.flatMap (·.2.y5)++(e.2.y5++B.flatMap (·.2.y5)):=(by rw[U,uq]);have au:∀x∈A.flatMap (·.2.y5),x.1≠key:=λx E=>by obtain⟨a,ha,E⟩:=yK.1 E;exact C5 (vY (G.1 a ha x E) O)
  have av:∀x∈B.flatMap (·.2.y5),x.1≠key:=λx E=>by obtain⟨b,hb,E⟩:=yK.1 E;exact (C5 (vY (aq b hb) ((G.2 b hb).2.2 x E))).symm
  rw[I,JK,Dc au,JK,Dc av];cases mi key e.2.y5<;>rfl
def Has.Q6(hc:jh k v):∀(h:Nat) (M:eU) (s:jF),Has D M k v h s->M.Wf->M.Q3=false->s.y6.Nodup->key∈eE s.y5->2*h<=M.Q1.length->pB D k v key (h+1) M s.x5
 | 0,M,s,hs,hW,ho,ag,U,hf=>λn hn hl=>by have ah:dR D M k v s.x5=(fL s.y5,0):=hs.2.2.1.load hs.2.2.2;rw[ah] at hn;cases hn;cases hl
 | h+1,M,⟨p,n,L,P⟩,⟨J,h0,h1,h2,h3,h4,h5,h6,h7⟩,hW,ho,ag,U,hf=>λn' hn hl=>by
  dsimp only at h1 h2 h3 h5 ag U hn;subst h1 h2 h3;have aA:dR D M k v p=(eK J,0):=h4.load h5;rw[aA] at hn;cases hn;obtain⟨A,e,B,I,hA,aB,aC,ai⟩:=G0 h0 h6;have aj:(eK J).J9.getD (ga (eK J).J6 key) 0=e.2.x5:=ai;have aD:ga (eK J).J6 key=A.length:=hA.symm;have aE:e∈J:=(by rw[I];simp);obtain⟨aq,aF⟩:=h7 e aE;have ak:J.flatMap (·.2.y6)=A.flatMap (·.2.y6)++(e.2.y6++B.flatMap (·.2.y6)):=(by rw[I,uq]);have ab:J.flatMap (·.2.y5)=A.flatMap (·.2.y5)++(e.2.y5++B.flatMap (·.2.y5)):=(by rw[I,uq]);have ac:(A.flatMap (·.2.y6)++(e.2.y6++B.flatMap (·.2.y6))).Nodup:=(by rw[<- ak];exact (nodup_cons.1 ag).2);have ad:e.2.y6.Nodup:=(yM.1 (yM.1 ac).2.1).1;have ae:=h6;rw[I] at ae;have V:=ae.mid;have aa:key∈eE e.2.y5:=by obtain⟨x,G,rfl⟩:=mem_map.1 U;rw[ab] at G;rcases zD.1 G with G|G;obtain⟨a,ha,G⟩:=yK.1 G;exact absurd (vY (V.1 a ha x G) aB) uL;rcases zD.1 G with G|G;exact zY G;obtain⟨b,O,G⟩:=yK.1 G;exact absurd (vY (aC b O) ((V.2 b O).2.2 x G)) uL
  obtain⟨N1,n1,M1,Re,a4,ec,aG,ar,st,a6,a7⟩:=IE hc h M e.2 aq hW ho ad aa oL;rw[aj];refine⟨aq.Q6 hc h M e.2 hW ho ad aa oL,λN M2 af aX ny al=>?_⟩;rw[ec] at af;cases af;have aH:N1.Q4=decide (h=0):=by
   cases h with|zero=>rw[ar.1];rfl|succ h=>obtain⟨a8,_,h',_⟩:=ar;rw[h'];rfl
  have E:∀b,(b∈A\/b∈B)->(eK J).J9.getD (ka (ga (eK J).J6 key)) 0=b.2.x5->ny.Q4=N1.Q4:=λb O aI=>by
   rw[aI] at al;have aJ:b∈J:=by rw[I];rcases O with O|O<;>simp[O]
   obtain⟨au,_⟩:=h7 b aJ;have av:=au.j0 λx G=>(st.rest x (au.J4 ho x G) λhm=>by have aw:x∈e.2.y6:=(by rw[aG];exact zN _ hm);have hd:=yM.1 ac;have aK:=yM.1 hd.2.1;rcases O with O|O;exact hd.2.2 x (yK.2 ⟨b,O,G⟩) x (zH _ aw) rfl;exact aK.2.2 x aw x (yK.2 ⟨b,O,G⟩) rfl).1;obtain⟨N2,R2,ah,_,_,ax,_⟩:=av.load;rw[ah] at al;cases al;rw[ax,aH]
  have h2:=h4.right.x9.1;rw[aD] at E;have aL:(eK J).J9=J.map (·.2.x5):=rfl;rw[aL] at E;by_cases hA0:A.length>0;have hs:ka A.length=A.length-1:=(by unfold ka;rw[iP hA0]);obtain⟨A',b,rfl⟩:∃A' b,A=A'++[b]:=⟨A.dropLast,A.getLast (length_pos_iff.1 hA0),(xZ _).symm⟩;refine E b (.inl oN) ?_;rw[hs,I];simp[yR];have hs:ka A.length=A.length+1:=(by unfold ka;rw[iN hA0]);have aM:A=[]:=LX oL;subst aM;cases B with
  | nil=>rw[I] at h2;simp at h2
  | cons b B=>
   refine E b (.inr oN) ?_;rw[hs,I];rfl
def gK.get(G:gK D M k v t L P)(I:M.Wf)(J:M.Q3=false):oh D k v key M (eS M t).2.2.toNat (eS M t).1=match mi key L with|some x=>(x,0)|none=>([],5):=by rcases G with ⟨e0,rfl,rfl⟩|⟨h,n,p,E,O,U⟩;rw[e0];rfl;rw[O];rw[zJ];exact U.get E I J
def gK.Q6(I:jh k v)(J:gK D M k v t L P)(E:key∈eE L)(O:M.Wf)(U:M.Q3=false)(V:P.Nodup)(G:2*(eS M t).2.2.toNat+1<=M.Q1.length):pB D k v key (eS M t).2.2.toNat M (eS M t).1:=by rcases J with ⟨e0,rfl,rfl⟩|⟨h,n,p,aa,er,hs⟩;cases E;rw[er] at G⊢;rw[zJ] at G⊢;exact hs.Q6 I h M _ O U V E oL
def qvY(h:lF D k v t key val f M=(0,M')):(eS M t).1≠0->(jg D k v key val f M (eS M t).1).1.2≠-1:=λG E=>by unfold lF at h;rw[iN G] at h;unfold vK at h;rw[iP (by rw[E];decide),E] at h;cases h
structure Gd (N:eU) (b:Nat) (M:eU):Prop where
 Q3:M.Q3=false
 j9:M.j9=N.j9
 Q5:M.Q5=N.Q5
 Q9:M.Q9=N.Q9
 x6:M.x6=N.x6
 iX:N.j9.2.getD 0 0=(b:Int)/\2<=b
 Q1:∀ x∈M.Q1,x<(b:Int)
 J8:∀ x∈M.J8.map (·.1),x<(b:Int)
section
variable {α β:Type} {N:eU} {b c:Nat}
end
def gK.cH{D':dQ}(h:gK D M k v t L P)(G:∀x∈P,dO D' M' x=dO D M x)(e:eS M' t=eS M t):gK D' M' k v t L P:=by rcases h with ⟨I,J,O⟩|⟨h,n,p,U,E,V⟩;exact .inl ⟨e.trans I,J,O⟩;exact .inr ⟨h,n,p,U,e.trans E,V.cH G⟩
def gK.low(h:gK D M k v t L P):(eS M t).2.2.toNat<=L.length/\0<=(eS M t).2.2:=by
 rcases h with ⟨E,J,O⟩|⟨h,n,p,U,G,I⟩;rw[E];exact⟨yX _,Int.le_refl _⟩;have:=I.counts.1;rw[G];exact⟨by dsimp only at this⊢;omega,by dsimp only;omega⟩
def kv (t:Int):Mu:=((vj t).1.toNat,(vj t).2.toNat)
def BC{t:Nat}(E:t<8):vj t=(((kv t).1:Int),((kv t).2:Int))/\jh (kv t).1 (kv t).2/\1<=(kv t).1/\(kv t).1<=24/\1<=(kv t).2/\(kv t).2<=108:=by obtain⟨k,v,e,h⟩:=qEn (t:=t) ⟨oL,oL⟩;have:kv t=(k,v):=(by unfold kv;rw[e];rfl);rw[this];exact⟨e,h⟩
abbrev ml:=Nat->iF×Ml
def rL (F:ml) (t:Nat) (x:iF×Ml):ml:=λu=>if u=t then x else F u
def Ee(F:ml)(t:Nat)(x:iF×Ml):rL F t x t=x:=iP rfl
variable {F:ml} {P' l:Ml} {y h m o r:Nat} {n G I E:Int} {s:Sl} {w2 w1:Md} {T:Mf} {K:Sl->WP}
def DU{t u:Nat}{x:iF×Ml}(h:u≠t):rL F t x u=F u:=iN h
structure Dq (D:dQ) (M:eU) (F:ml):Prop where
 J2:∀ t:Nat,t<8->gK D M (kv t).1 (kv t).2 t (F t).1 (F t).2
 nodup:∀ t:Nat,t<8->(F t).2.Nodup
 J3:∀ t u:Nat,t<8->u<8->t≠u->∀ x∈(F t).2,x∉(F u).2
 use:∀ x,eN M x->∃ t:Nat,t<8/\x∈(F t).2
def gK.J4(E:M.Q3=false)(h:gK D M k v t L P):∀x∈P,eN M x:=by rcases h with ⟨_,_,rfl⟩|⟨h,n,p,_,_,G⟩;exact λx I=>nomatch I;exact G.J4 E
def Dq.next{t:Nat}{L':iF}(h:Dq D M F)(ho:M.Q3=false)(V:t<8)(hT:gK D M' (kv t).1 (kv t).2 t L' P')(J:qu D M M' t (F t).2 P'):Dq D M' (rL F t (L',P')):=by have O:∀u:Nat,u<8->u≠t->∀x∈(F u).2,eN M x/\x∉(F t).2:=λu I G x E=>⟨(h.J2 u I).J4 ho x E,h.J3 u t I V G x E⟩;have hp:∀u:Nat,u<8->u≠t->∀x∈(F u).2,x∉P':=λu I G x E=>(J.step.rest x (O u I G x E).1 (O u I G x E).2).2.2;refine⟨λu I=>?_,λu I=>?_,λu z I hz G x E=>?_,λx E=>?_⟩;by_cases e:u=t;subst e;rw[Ee];exact hT;rw[DU e];exact (h.J2 u I).cH (λx E=>(J.step.rest x (O u I e x E).1 (O u I e x E).2).1) (J.others u oL);by_cases e:u=t;subst e;rw[Ee];exact J.step.nodup;rw[DU e];exact h.nodup u I;by_cases e:u=t;subst e;rw[Ee] at E;rw[DU G.symm];exact λhm=>hp z hz G.symm x hm E;rw[DU e] at E;by_cases e2:z=t;subst e2;rw[Ee];exact hp u I e x E;rw[DU e2];exact h.J3 u z I hz G x E;rcases J.step.use x E with U|⟨U,h2⟩;exact⟨t,V,by rw[Ee];exact U⟩;obtain⟨u,I,E⟩:=h.use x U;exact⟨u,I,by rw[DU λe=>h2 (by rw[<- e];exact E)];exact E⟩
def Calm.next{q:Nat}(h:Calm D M b q)(E:qu D M M' t P P'):Calm D M' b q:=
 ⟨h.quiet,h.Q7,h.size,by have:=E.step.j9;rw[<- h.blocks,<- this],h.b8,E.wf,E.step.z9 h.Q9,E.step.Q3,E.len,by rw[show M'.j9=M.j9 from E.step.j9];exact h.seq,by rw[show M'.x6=M.x6 from E.step.x6];exact h.x6⟩
def Ft (t:Int) (M:eU):eU:=mg M.j9 M.Q5 M.Q9 t false M.Q9
structure Wo (D:dQ) (M:eU) (b q:Nat) (F W:ml):Prop where
 J1:Calm D M b q
 J0:Dq D M F
 was:Dq D (Ft 0 M) W
 opens:rY D M.j9 M.Q5 M.Q9
 Q8:M.j9.2.length=27
 b4:8<=b/\b<=300
def Has.zg{x z:Nat}{l:List lI}(h:∀e∈l,y*e.2.y6.length+z<=x*e.2.y5.length):y*(l.flatMap (·.2.y6)).length+z*l.length<=x*(l.flatMap (·.2.y5)).length:=by
 induction l with
 | nil=>simp
 | cons a l ih=>
  have i:=ih λe E=>h e (zN _ E);have j:=h a oN;simp only[yH,zF,yI,Nat.mul_add];omega
def Has.zk{x y z:Nat}(I:y+z<=x*((eG k v).1 / 2))(hi:y+z<=z*((eG k v).2 / 2)):∀ {h:Nat} {s:jF},Has D M k v h s->minOf k v h<=s.size->y*s.y6.length+z<=x*s.y5.length
 | 0,s,J,G=>by have E:=G;rw[J.2.1] at E;rw[J.1,xK,xR];exact zL I (Nat.mul_le_mul_left x E)
 | h+1,s,⟨es,h0,E,h2,h3,ad,h5,h6,O⟩,G=>by
  have U:=G;rw[E] at U;rw[h2,h3];have:=Has.zg (z:=z) λe V=>Has.zk I hi (O e V).1 (O e V).2;have h9:z*((eG k v).2 / 2)<=z*es.length:=Nat.mul_le_mul_left z U;rw[yI,Nat.mul_succ];omega
def Has.t5{x z:Nat}(J:y+z<=x*((eG k v).1 / 2))(hi:y+z<=z*((eG k v).2 / 2)){s:jF}(E:Has D M k v h s):y*s.y6.length<=x*s.y5.length+y:=by
 cases h with
 | zero=>rw[E.1,xK];omega
 | succ h=>
  obtain⟨es,h0,h1,O,U,V,h5,h6,G⟩:=E;rw[O,U];have:=Has.zg λe I=>Has.zk J hi (G e I).1 (G e I).2;rw[yI,Nat.mul_succ];omega
def gK.t5{x z:Nat}(E:y+z<=x*((eG k v).1 / 2))(hi:y+z<=z*((eG k v).2 / 2))(G:gK D M k v t L P):y*P.length<=x*L.length+y:=by rcases G with ⟨I,rfl,rfl⟩|⟨h,n,p,O,I,J⟩;simp;exact J.t5 E hi
def Has.pow:∀ {h:Nat} {s:jF},Has D M k v h s->2^(h+1)<=s.y6.length+1
 | 0,s,J=>by rw[J.1];simp
 | h+1,s,⟨O,V,J,h2,G,U,h5,h6,E⟩=>by
  have I:=gp.x9 U.right;match O,I,G,E with
  | a::b::r,_,G,E=>
   have ha:=Has.pow (E a oN).1;have hb:=Has.pow (E b oN).1;rw[G];simp only[yH,yI,zF];omega
def gK.high(G:gK D M k v t L P)(I:P.length+1<2^19):(eS M t).2.2.toNat<=18:=by
 rcases G with ⟨E,rfl,rfl⟩|⟨h,n,p,V,E,J⟩;rw[E];decide;rw[E];have O:=J.pow;have U:=Nat.lt_of_le_of_lt O I;have:=(Nat.pow_lt_pow_iff_right (by decide:1<2)).1 U
 show ((h+1:Nat):Int).toNat<=18;omega
abbrev qR:=dX×Int
noncomputable def nU (D:dQ) (k v:Nat) (M:eU):Nat->Int->Option (List qR)
 | 0,p=>none
 | f+1,p=>if (dR D M k v p).2≠0 then none
  else if (dR D M k v p).1.Q4 then some [((dR D M k v p).1,0)]
  else (nU D k v M f ((dR D M k v p).1.J9.getD 0 0)).map (((dR D M k v p).1,0)::·)
def pK (D:dQ) (M:eU) (k v:Nat):Nat->List qR->iF->Prop
 | 0,I,T=>∃(E:iF) (i:Nat),I=[(fL E,(i:Int))]/\i<=E.length/\T=E.drop i
 | h+1,I,T=>∃(G:List lI) (i:Nat) (J:List qR) (T1:iF),I=(eK G,(i:Int))::J/\i<G.length/\(∀e∈G.drop (i+1),Has D M k v h e.2)/\pK D M k v h J T1/\T=T1++(G.drop (i+1)).flatMap (·.2.y5)
def ow:Nat->List qR->Prop
 | 0,G=>∃E:iF,G=[(fL E,(E.length:Int))]
 | _+1,[]=>False
 | h+1,_::I=>ow h I
def sX (n:dX) (iZ:Key):Int:=if n.Q4 then eh n.J6 iZ else ga n.J6 iZ
def GM{es:List lI}(h:i<es.length):(eK es).J9.getD i 0=es[i].2.x5:=by show (es.map (·.2.x5)).getD _ 0=_;rw[yR,zQ,zA h];rfl
def IP:∀ {h:Nat} {s:jF},Has D M k v h s->∃E,nU D k v M (h+1) s.x5=some E/\pK D M k v h E s.y5/\¬ow h E
 | 0,s,hs=>by have J:=hs.ne;obtain⟨O,U,I,V⟩:=hs;have hl:dR D M k v s.x5=(fL s.y5,0):=I.load V;unfold nU;rw[hl,iN λh=>h rfl,iP (show (fL s.y5).Q4=true from rfl)];refine⟨_,rfl,⟨s.y5,0,rfl,yX _,rfl⟩,λ⟨G,e⟩=>J ?_⟩;have e1:=Prod.mk.inj (List.cons.inj e).1;have e2:eE s.y5=eE G:=Ma dX.J6 e1.1;have e3:=Ma List.length e2;rw[zK,zK] at e3;have e4:(0:Int)=G.length:=e1.2;exact length_eq_zero_iff.1 oL
 | h+1,⟨p,n,L,P⟩,⟨es,h0,O,U,I,V,h5,h6,h7⟩=>by
  dsimp only at O U I h5;subst O U I;have hl:dR D M k v p=(eK es,0):=V.load h5;cases es with
  | nil=>cases h0
  | cons e r=>
   obtain⟨E,e1,e2,e3⟩:=IP (h7 e (LQ ..)).1;unfold nU;rw[hl,iN λh=>h rfl,iN (show ¬(eK (e::r)).Q4=true from λe=>nomatch e)];show ∃E,Option.map _ (nU D k v M (h+1) e.2.x5)=some E/\_;rw[e1];exact⟨_,rfl,⟨e::r,0,E,_,rfl,Nat.succ_pos _,λb hb=>(h7 b (zN _ hb)).1,e2,by dsimp only;rw[yH];rfl⟩,e3⟩
noncomputable def nz (D:dQ) (k v:Nat) (M:eU):Nat->List qR->Option (List qR)
 | 0,_=>none
 | _+1,[]=>none
 | h+1,(n,i)::G=>match nz D k v M h G with|some E=>some ((n,i)::E)|none=>if 0<=i+1/\i+1<n.J9.length then (nU D k v M (h+1) (n.J9.getD (i+1).toNat 0)).map ((n,i+1)::·) else none
def qw5:∀ {h:Nat} {J:List qR} {T:iF},pK D M k v h J T->ow h J->(nz D k v M h J=none/\T=[])\/∃I,nz D k v M h J=some I/\pK D M k v h I T/\¬ow h I
 | 0,J,T,⟨aa,i,e,hi,U⟩,⟨V,e'⟩=>by rw[e] at e';have e1:=(Prod.mk.inj (List.cons.inj e').1);have e2:eE aa=eE V:=Ma dX.J6 e1.1;have e3:=Ma List.length e2;rw[zK,zK] at e3;have e4:=Int.ofNat.inj e1.2;exact .inl ⟨rfl,by rw[U];exact vB oL⟩
 | h+1,J,T,⟨O,i,up,T1,e,hi,hd,hu,U⟩,E=>by subst e;have E:ow h up:=E;unfold nz;rcases qw5 hu E with ⟨h1,rfl⟩|⟨ad,h1,h2,h3⟩;have ae:(eK O).J9.length=O.length:=zK ..;rw[h1];dsimp only;rw[ae,show ((i:Int)+1).toNat=i+1 by omega];by_cases hlt:i+1<O.length;rw[iP ⟨oL,oL⟩];have G:=zX hlt;obtain⟨af,p1,p2,p3⟩:=IP (hd O[i+1] (by rw[G];exact LQ ..));rw[GM hlt,p1];refine .inr ⟨_,rfl,⟨O,i+1,af,_,rfl,hlt,λe he=>hd e (by rw[G];exact zN _ he),p2,?_⟩,p3⟩;rw[U,xH,G,yH];rw[iN];exact .inl ⟨rfl,by rw[U,vB oL];rfl⟩;rw[h1];exact .inr ⟨_,rfl,⟨O,i,ad,T1,rfl,hi,hd,h2,U⟩,h3⟩
def qxe:∀ {h:Nat} {G:List qR} {T:iF},pK D M k v h G T->ow h G\/∃(E:iF) (i:Nat) (lo:List qR) (hi:i<E.length) (T':iF),G=lo++[(fL E,(i:Int))]/\T=E[i]::T'/\pK D M k v h (lo++[(fL E,(i:Int)+1)]) T'
 | 0,G,T,⟨E,i,e,hi,I⟩=>by by_cases hlt:i<E.length;exact .inr ⟨E,i,[],hlt,E.drop (i+1),e,by rw[I,zX hlt],E,i+1,rfl,hlt,rfl⟩;have:i=E.length:=oL;subst this;exact .inl ⟨E,e⟩
 | h+1,G,T,⟨J,i,up,T1,e,hi,O,U,I⟩=>by subst e;rcases qxe U with V|⟨E,j,lo,hj,T',e1,e2,e3⟩;exact .inl V;exact .inr ⟨E,j,(eK J,(i:Int))::lo,hj,T'++(J.drop (i+1)).flatMap (·.2.y5),by rw[e1];rfl,by rw[I,e2];rfl,J,i,_,T',rfl,hi,O,e3,rfl⟩
def Path (D:dQ) (M:eU) (k v:Nat):Nat->List qR->Prop
 | 0,G=>∃(I:iF) (i:Int),G=[(fL I,i)]
 | h+1,G=>∃(E:List lI) (i:Nat) (J:List qR),G=(eK E,(i:Int))::J/\i<E.length/\(∀O:i+1<E.length,Has D M k v h E[i+1].2)/\Path D M k v h J
def pK.path:∀ {h:Nat} {E:List qR} {T:iF},pK D M k v h E T->Path D M k v h E
 | 0,E,T,⟨G,i,e,_⟩=>⟨G,i,e⟩
 | h+1,E,T,⟨I,i,J,T1,e,O,U,V,hT⟩=>⟨I,i,J,e,O,λhj=>U _ (by rw[zX hj];exact LQ ..),V.path⟩
def Path.len:∀ {h:Nat} {E:List qR},Path D M k v h E->E.length=h+1
 | 0,_,⟨_,_,e⟩=>by rw[e];rfl
 | h+1,_,⟨_,_,I,e,_,_,G⟩=>by rw[e,yI,G.len]
def Path.drop:∀ {E G:List qR} {h:Nat},Path D M k v (E.length+h) (E++G)->Path D M k v h G
 | [],_,_,h=>by rw[xJ,xQ] at h;exact h
 | x::E,G,n,h=>by have e:(x::E).length+n=(E.length+n)+1:=(by rw[yI];omega);rw[e] at h;obtain⟨J,i,O,e1,_,_,I⟩:=h;rw[(List.cons.inj e1).2.symm] at I;exact I.drop
noncomputable def yu (D:dQ) (k v:Nat) (M:eU) (h:Nat) (x:qR):Option (List qR):=
 if 0<=x.2+1/\x.2+1<x.1.J9.length then (nU D k v M (h+1) (x.1.J9.getD (x.2+1).toNat 0)).map ((x.1,x.2+1)::·) else none
def qyl{x:qR}{E:List qR}(e:nz D k v M h E=none):nz D k v M (h+1) (x::E)=yu D k v M h x:=by obtain⟨n,i⟩:=x;unfold nz;rw[e];rfl
def qso:∀ {G E r:List qR} {h:Nat},nz D k v M h E=some r->nz D k v M (G.length+h) (G++E)=some (G++r)
 | [],E,r,h,e=>by rw[xJ,xQ];exact e
 | (n,i)::G,E,r,h,e=>by have e1:((n,i)::G).length+h=(G.length+h)+1:=(by rw[yI];omega);rw[e1,xI];unfold nz;rw[qso e];rfl
def qCg{s:jF}(J:Has D M k v (h+1) s):∃E:List lI,dR D M k v s.x5=(eK E,0)/\sX (eK E) []=0/\∃hj:0<E.length,Has D M k v h E[0].2:=by
 obtain⟨p,n,L,P⟩:=s;obtain⟨E,G,h1,h2,h3,O,U,V,h7⟩:=J;refine⟨E,O.load U,?_⟩;cases E with
 | nil=>cases G
 | cons e r=>
  refine⟨?_,Nat.succ_pos _,(h7 e (LQ ..)).1⟩;rw[sX,iN (show ¬(eK (e::r)).Q4=true from λe=>nomatch e)];show ((ga (r.map (·.1)) []:Nat):Int)=0;have e0:e.1=[]:=yO G;cases r with
  | nil=>rfl
  | cons b r=>
   have I:=(yJ.1 V.pair).1 b (LQ ..);rw[e0] at I;rw[xM,ga,takeWhile_cons,iN λh=>absurd I.1 (zC h)];rfl
def qCm{h:iF}:sX (fL h) []=0:=by
 rw[sX,iP (show (fL h).Q4=true from rfl)];show ((eh (eE h) []:Nat):Int)=0;rw[eh,show ((eE h).takeWhile λa=>decide (gX a []))=[] from ?_];rfl;cases eE h with
 | nil=>rfl
 | cons a r=>exact takeWhile_cons_of_neg (by cases a<;>simp[gX,cmpL])
def ow.vF:∀ {h:Nat} {G:List qR},ow h G->∃(lo:List qR) (E:iF),G=lo++[(fL E,(E.length:Int))]
 | 0,_,⟨E,e⟩=>⟨[],E,e⟩
 | _+1,[],h=>h.elim
 | h+1,x::J,I=>by obtain⟨lo,E,e⟩:=ow.vF (h:=h) I;exact⟨x::lo,E,by rw[e];rfl⟩
def tu (to key:Key):Bool:=decide (cmpL key to>0)
def Left (D:dQ) (M:eU) (k v:Nat) (to:Key) (n:Nat) (E:List qR) (L:iF):Prop:=
 (E=[]/\L=[])\/∃h T,pK D M k v h E T/\L=T.takeWhile (λx=>!tu to x.1)/\(n=0->¬ow h E)
def ql2{α:Type}{p:α->Bool}:∀ {l:List α},l.Pairwise (λa b=>p b=true->p a=true)->l.takeWhile p=l.filter p
 | [],_=>rfl
 | a::l,h=>by have G:=yJ.1 h;rw[takeWhile_cons,filter_cons];split;rw[ql2 G.2];rename_i I;exact (filter_eq_nil_iff.2 λb J E=>I (G.1 b J E)).symm
def qAh{K:MC->WP}{n:Nat}(Y:Mk)(O:∀b∈Y,b<w.z)(hY:HG∉Y)(hv:Hv w)(h8:8<=n)(h4:n<=4096)(hk:∀dbk pb FD F D w',TW dbk pb FD D 5000 w' Y F (ng n)->Made D n->Fr [] w w'->(∀b∈FD++F,w.z<=b)->K (pW dbk,pW pb) w'): cW 43 [.i n] dE w K:=by
 refine qhP<|qDg (λh=>oL) λ_ _ dbk FD w1 d1 f1 n1=>?_;rw[zJ] at d1;obtain⟨D',e1,q1,s1,ae,o1,z1⟩:=qut (qyk n) (qAn n) h8 h4;have U:=hv.q9 f1;have hg:HG∉FD:=λhm=>by have:=n1 _ hm;have:=hv.lt;omega
 have av:(qb n).Q6.length=n:=(by simp[qb]);refine jd (λb w'=>b=false/\∃F',DS dbk w1 FD w' F' D' (0+5000)) ?_ ?_;refine x_ (x_ ?_);refine qxz d1 (oV.new h4) oO oL U hg λw' F' d'=>?_;rw[e1] at d'⊢;exact⟨rfl,F',d'⟩;rintro b w2 ⟨rfl,F2,G⟩;refine x_ ?_;have I:∀b∈F2,w.z<=b:=λb E=>by rcases G.nw b E with h|h;exact n1 b h;exact zL f1.size h
 have V:=o1.open;have J:=(G.hv U hg).1;have aa:=zL f1.size G.fr.size;refine qy9 (F2++HG::Y) (λb E=>?_) G.at_ G.lim.ok J (λh=>by rw[V] at h;cases h) λpb F M w3 hM hp f3 n3=>?_;rcases zD.1 E with E|E;exact G.at_.lt b E;rcases zG.1 E with rfl|E;exact J.lt;exact yD (O b E) aa;rw[V] at hM;cases hM;refine x_<|hk dbk pb F2 F D' w3 ⟨G.at_.q9 f3,G.lim,hp,J.q9 f3,qD5 h8 h4,λb E=>⟨λhm=>?_,λe=>hY (e▸E)⟩⟩ ⟨q1,s1,ae,o1,e1,z1⟩ ((f1.j8 G.fr λb E=>.inr (n1 b E)).j8 f3 oN) λb E=>?_
 have:=I b hm;have:=O b E;omega;rcases zD.1 E with E|E;exact I b E;exact zL aa (n3 b E)
def En (x:Key×Key):List Me:=[.string (Fs x.1),.string (Fs x.2)]
structure HiI (k v c:Nat) (t:Int) (w0 w:Md) (s:Sl) (m:Nat) (dbk pb:Nat) (FD:Mk) (D:dQ) (F:Mk) (M:eU) (P:Ml) (L:iF) (B:Mk):Prop where
 tw:TW dbk pb FD D 5000 w [] F M
 Ly:CV D M k v c t L P
 ve:eZ En 2 w s L B
 len:L.length<=m
 fr:Fr [] w0 w
 new:∀ b∈FD++F,w0.z<=b
 J3:∀ b∈B,b∉F
def Ga:∀ {k i:Nat} {n:Int},i<k->(bw k n)[i]?=some (n / 256^(k-1-i)%256)
 | k+1,i,n,h=>by rw[bw];by_cases hi:i<k;rw[yZ (by rw[na];exact hi),Ga hi,Int.ediv_ediv_of_nonneg oO,show k+1-1-i=(k-1-i)+1 by omega,Int.pow_succ,Int.mul_comm];have:i=k:=oL;subst this;rw[yY (by rw[na];exact zM _),na,Nat.sub_self,show i+1-1-i=0 by omega,Int.pow_zero,Int.ediv_one];rfl
def I2(h:8*i<=m):wrap .u8 (Int.fdiv n (2^min (8*i) m))=n / 256^i%256:=by rw[D6,xP h,Int.fdiv_eq_ediv_of_nonneg _ (Int.le_of_lt (Int.pow_pos oO)),Int.pow_mul];rfl
def qpk{x:Int}:d7 (gP l) j [.b x]=gP (l.set j x):=by rw[Pt.d7,Pt.d7];apply Array.ext';rw[Array.toList_setIfInBounds];show (gP _).toList.set _ _=(gP _).toList;unfold gP;rw[<- map_set]
def mK (w w':Md) (s:Sl) (l:Ml):Prop:=eY (List.range w.z) w' s l
def mK.q9(h:mK w w' s l)(f:Fr [] w' w2):mK w w2 s l:=eT.q9 h f
def mK.to(h:mK w w' s l)(E:∀b∈S,b<w.z):eY S w' s l:=eT.j6 h λb G=>.inl (mem_range.2 (E b G))
def mK.up(h:mK w1 w' s l)(f:w.z<=w1.z):mK w w' s l:=h.to λb E=>yD (mem_range.1 E) f
def mK.rd(h:mK w w' s l):eY [] w' s l:=h.to λ_ h=>nomatch h
def FX{n cap:Nat}{L:Ml}{E:Mu}(O:w.z<=b)(G:w'.heap[b]?=some (.cells (gP L) T E))(I:o+n<=L.length)(J:n<=cap)(e:(L.drop o).take n=l):mK w w' ⟨some (dh b o),n,cap⟩ l:=by rw[<- e];exact Cl G I J λh=>by have:=mem_range.1 h;omega
def BH(h:ip w' s l B)(E:∀b∈B,w.z<=b):mK w w' s l:=h.ju mW λb G h=>by have:=mem_range.1 h;have:=E b G;omega
def HS{n:Nat}{a:Sl}{ys:Ml}(h:eY [] w ⟨some (dh b o),n,n⟩ l)(hr:eY [] w a ys)(hy:0<ys.length)(hl:l.length+ys.length<=1000000)(kk:∀s' B w',ip w' s' (l++ys) B->Fr [] w w'->(∀b∈B,w.z<=b)->K s' w'): Pt.run di ((Builtin.append_ #[79,79] 79 #[.slice (some (dh b o)) n n,a.v]).run prog w) K:=by
 obtain⟨i,hi,hz,G,I⟩:=AF;have J:=hr.1;have E:n=l.length:=h.1;have hc:=h.cells mW rfl;refine qwz (m:=a.len) (olds:=l.map (Value.int .u8)) (news:=ys.map (Value.int .u8)) oM hi hz G rfl (by rw[zK,E]) (λj u hj=>?_) ?_ oL (by rw[I];omega) oL λb' cs c w' eb O f U V ht=>?_;rw[<- u4] at hj;exact hc j u hj;have:=yd (P:=prog) (tx:=79) (e':=5) hr mW (λx u hu=>by rw[zE.1 hu];rfl) oM;rw[u4] at this;exact this;refine kk _ [b'] w' (eZ.one (λ_=>rfl) O (by rw[zF];omega) U V ?_) f λb O=>by rw[zE.1 O,eb];exact zM _
 rw[zF,<- E,<- J,ht,xL]
def qEB{K:Mo->WP}(E:∀w',Fr [] w w'->K (0,n) w'):cW 148 [.w n] [.agg dg] w K:=by exact qyQ<|oD (oG [] w) λr w1 e1 G h=>h.sz 0 rfl #[.w 0,.w n] λw2 h _=>Mj h 0 (0,n)<|E w2 h.fr
def IT(kk:∀r w',mK w w' ⟨pW r,16,16⟩ (jW (G,I))->Fr [] w w'->w'.heap[r]?=some (.c (gP (jW (G,I))) 5)->w.z<=r->K ⟨pW r,16,16⟩ w'): cW 50 [df G I] di w K:=by
 refine qtB<|oD (oG [] w) λr1 w1 e1 f1 h=>dY.mkN h rfl oO oO oO oO λr w2 e2 h=>?_;have U:w.z<=r:=(by have:=f1.size;omega);refine lD (λx w'=>∃j:Nat,∃l:Ml,x=j/\j<=8/\l.length=16/\dY [] w w' [(r,.c (gP l) 5),(r1,.c #[.w G,.w I] 34)]/\∀i<j,l[i]?=(bw 8 G)[i]?/\l[8+i]?=(bw 8 I)[i]?) (λx _=>8-x.toNat) ⟨0,zs 16,rfl,oO,rfl,h,λi h=>oL⟩ ?_;rintro x w3 ⟨j,l,rfl,hj,hl,h,J⟩ X hX;apply cD<;>intro O;have E:j<8:=oL;have e1:wrap .i64 (56-wrap .i64 (8*(j:Int)))=((8*(7-j):Nat):Int):=by rw[gJ (8*(j:Int)) oL,gJ _ oL];omega
 rw[e1,gJ (8+(j:Int)) oL,gJ ((j:Int)+1) oL,zJ];refine Mi h 1 G (nc oL (ur oL oL ?_));rw[I2 oL];refine h.st' 0 rfl _ qpk rfl (by rw[DW];simp;omega) λw4 h _=>Mi h 1 I (nc oL (ur oL oL ?_));rw[I2 oL];refine h.st' 0 rfl _ qpk rfl (by rw[DW];simp;omega) λw5 h _=>hX _ _ ⟨j+1,_,rfl,E,by simpa using hl,h,λi af=>?_⟩ oL;rw[show (0+(j:Int).toNat*1)=j by omega,show (0+(8+(j:Int)).toNat*1)=8+j by omega];by_cases e:i=j;subst e;rw[Ga E,Ga E,show 8-1-i=7-i by omega];exact⟨by rw[List.getElem?_set_ne oL,List.getElem?_set_self oL],by rw[List.getElem?_set_self (by rw[xF];omega)]⟩;have:=J i oL;exact⟨by rw[List.getElem?_set_ne oL,List.getElem?_set_ne oL];exact this.1,by rw[List.getElem?_set_ne oL,List.getElem?_set_ne oL];exact this.2⟩;have E:j=8:=oL;subst E;have e:l=jW (G,I):=by
  apply ext_getElem?;intro i;unfold jW;by_cases h8:i<8;rw[yZ (by rw[na];exact h8)];exact (J i h8).1;rw[yY (by rw[na];omega),na];by_cases h16:i<16;have:=(J (i-8) oL).2;rwa[show 8+(i-8)=i by omega] at this;rw[yS oL,yS (by rw[na];omega)]
 subst e;have V:=h.at (i:=0) rfl;exact kk r w3 (FX U V (by rw[pj];decide) oO (by rw[xE];exact zS (by rw[pj];decide))) h.fr V U
def AO(J:∀r w',mK w w' ⟨pW r,16,16⟩ (jW (E,G))->Fr [] w w'->K ⟨pW r,16,16⟩ w'): cW 30 [df E G] di w K:=by exact qAa<|oD (oG [] w) λr1 w1 e1 I h=>Mj h 0 (E,G)<|IT λr w2 O U _ _=>J r w2 (O.up I.size) (I.trans U)
def EV(E:∀r w',mK w w' ⟨some (dh r 8),8,8⟩ (bw 8 n)->Fr [] w w'->K ⟨some (dh r 8),8,8⟩ w'): cW 87 [.w n] di w K:=by refine quF<|qEB λw1 h=>IT λr w2 O G I J=>FJ oO oO oO oO<|E r w2 (FX (zL h.size J) I (by rw[pj];decide) oO ?_) (h.trans G);rw[jW,drop_left' (na _ _)];exact zS (by rw[na];decide)
def Hy(J:∀s w',mK w w' s (mR (E,G) n)->Fr [] w w'->K s w'): cW 162 [df E G,.w n] di w K:=by refine qvZ<|oD (oG [] w) λr1 w1 e1 f1 h=>Mj h 0 (E,G)<|qq5<|oD h λr2 w2 e2 f2 h=>Mj h 0 (E,G)<|nM rfl oM (AO λr3 w3 O U=>?_);refine nM rfl oM (EV λr4 w4 V I=>?_);refine HS (O.q9 I).rd V.rd (by rw[na];decide) (by rw[na,pj];decide) λs B w5 b5 f5 n5=>?_;have f:=h.fr.trans (U.trans I);exact J s w5 (BH b5 λb hb=>zL f.size (n5 b hb)) (f.trans f5)
def qwu{m:Int}(E:∀s w',mK w w' s (mL n m)->Fr [] w w'->K s w'): cW 142 [.w n,.w m] di w K:=by refine qya<|qq4<|nM rfl oM (EV λr3 w3 G I=>?_);refine nM rfl oM (EV λr4 w4 J h=>?_);refine HS (G.q9 h).rd J.rd (by rw[na];decide) (by rw[na,na];decide) λs B O U V n5=>?_;have f:=I.trans h;exact E s O (BH U λb hb=>zL f.size (n5 b hb)) (f.trans V)
def He(h:fj l)(E:j<l.length)(O:j<8):bits .or .u64 (wrap .u64 (re (l.take j)*2^8)) (wrap .u64 l[j])=re (l.take (j+1)):=by
 have U:=h l[j] (zW E);have V:=Gi (l:=l.take j) λy G=>h y (yV G);have I:(256:Int)^(l.take j).length<=256^7:=by
  have:((256^(l.take j).length:Nat):Int)<=((256^7:Nat):Int):=by
   have:=Nat.pow_le_pow_right (n:=256) oO (show (l.take j).length<=7 by rw[yL];omega);omega
  simpa using this
 have J:(256:Int)^7=72057594037927936:=oO;rw[J] at I;rw[yG E,qt2,qV l[j] oL,qV _ oL];rw[qsu 8 oL oL oL oL oL];omega
def qxy{K:Int->WP}(h:eY S w s l)(O:fj l)(hl:l.length<=8)(U:K (re l) w):cW 57 [s.v] dr w K:=by refine qtg ?_;have J:=h.1;refine lD (λx w'=>w'=w/\∃i:Nat,x.2=i/\i<=l.length/\x.1=re (l.take i)) (λx _=>((l.length:Int)-x.2).toNat) ⟨rfl,0,rfl,oL,rfl⟩ ?_;rintro⟨r,ii⟩ w' ⟨rfl,i,G,hi,V⟩ X hX;subst G V;apply cD<;>intro I;have E:i<l.length:=oL;refine eY.at h i rfl (zA E) ?_;rw[gJ _ oL,He O E oL];exact hX _ _ ⟨rfl,i+1,oN,oL,rfl⟩ oP;have E:i=l.length:=oL;subst E;rw[xY];exact U
abbrev nf:Mf:=34
abbrev gx:e9->List Me:=λx=>[.w x.1,.w x.2]
def uV(x:e9):(gx x).length=2:=rfl
def py{x:Int}(h:IntKind.u64.has x):lH x:=by have E:(0:Int)<=x/\x<=18446744073709551615:=h;exact⟨E.1,oL⟩
variable {L:Mq} {t:Sl}
def xi{o o':Obj}(h:dY S w0 w L)(i:Nat)(hi:L[i]?=some (b,o))(f:Fr [b] w w')(E:w'.heap[b]?=some o'):dY S w0 w' (L.set i (b,o')):=
 (h.jA (o':=o') i hi).q9 ⟨f.os,f.tape,f.output,by rw[Af];exact f.size,λj G _=>by
  rw[sO _ _ _ _ (gg (h.at hi))];split
  ·next e=>rw[e];exact E
  ·next e=>exact f.block j (by rwa[Af] at G) (oS e)⟩
variable {b:Sl} {x:e9} {a:HL eH} {ids:List e9} {cs:Array Me}
def KR{E:Sl->WP}(h:ip w b l B)(hm:8*k<=m+8)(hl:l.length<=1000)(h8:k<=8)(kk:∀s B' w',ip w' s (l++bw k n) B'->Fr B w w'->(∀b∈B',b∈B\/w.z<=b)->E s w'): loop (Mr) (λX t w3=>cond (decide (t.2>=0)) (gV (0<=wrap .i64 (8*t.2))<|Pt.new (.cells #[.b (wrap .u8 (Int.fdiv n (2^min (Int.toNat (wrap .i64 (8*t.2))) m)))] 5) w3 λr w5=>Pt.run di ((Builtin.append_ #[79,79] 79 #[t.1.v,.slice (pW r) 1 1]).run prog w5) λs w7=>X (s,wrap .i64 (t.2-1)) w7) (E t.1 w3)) (b,wrap .i64 (k-1)) w:=by
 refine lD (λt w'=>∃j:Nat,∃B',t.2=(k:Int)-1-j/\j<=k/\ip w' t.1 (l++(bw k n).take j) B'/\Fr B w w'/\∀b∈B',b∈B\/w.z<=b) (λt _=>(t.2+1).toNat) ⟨0,B,by dsimp only;rw[gJ _ oL];omega,yX _,by rw[take_zero,xG];exact h,.refl _ _,λ_ h=>.inl h⟩ ?_;rintro⟨s,x⟩ w1 ⟨j,B1,hx,hj,J,O,U⟩ X hX;subst hx;apply eF<;>intro I;have I:=zC I;have G:j<k:=oL;have e1:wrap .i64 (8*((k:Int)-1-j))=((8*(k-1-j):Nat):Int):=(by rw[gJ _ oL];omega);rw[e1,zJ,I2 oL,gJ _ oL];obtain⟨i,hi,hz,V,aa⟩:=AF;have ad:(l++(bw k n).take j).length<=1008:=(by rw[zF,yL];omega);refine nc oL (eZ.push J mW (λu hu=>by rw[zE.1 hu];rfl) oM hi hz V rfl rfl (by rw[aa];omega) oL λs2 B2 w2 b2 f2 n2=>?_);refine hX _ _ ⟨j+1,B2,by dsimp only;omega,G,?_,O.j8 f2 U,λb hb=>(n2 b hb).elim (U b) λh=>.inr (zL O.size h)⟩ oP;have:=Ga (n:=n) G;obtain⟨hb,e⟩:=zP.1 this;rw[yG hb,e,<- zV];exact b2;have I:=zB I;have G:j=k:=oL;subst G;rw[zS (by rw[na];exact zM _)] at J;exact kk _ B1 _ J O U
def qEg(h:ip w b l B)(E:l.length<=1000)(G:∀s B' w',ip w' s (l++bw 2 n) B'->Fr B w w'->(∀b∈B',b∈B\/w.z<=b)->K s w'):cW 212 [b.v,.int .u16 n,.i 2] di w K:=
 qrq (KR h (k:=2) oO E oO G)
def qEh(h:ip w b l B)(E:l.length<=1000)(G:∀s B' w',ip w' s (l++bw 4 n) B'->Fr B w w'->(∀b∈B',b∈B\/w.z<=b)->K s w'):cW 210 [b.v,.u n,.i 4] di w K:=
 qrr (KR h (k:=4) oO E oO G)
def qEi(h:ip w b l B)(E:l.length<=1000)(G:∀s B' w',ip w' s (l++bw 8 n) B'->Fr B w w'->(∀b∈B',b∈B\/w.z<=b)->K s w'):cW 211 [b.v,.w n,.i 8] di w K:=
 qrs (KR h (k:=8) oO E oO G)
def GE:∀l:List e9,(l.flatMap jW).length=16*l.length
 | []=>rfl
 | x::l=>by rw[yH,zF,pj,GE l,yI];omega
def qs1{I:Sl->Ml->WP}(hI:I b l w)(hf:∀s l w w',I s l w->Fr [] w w'->I s l w')(G:eT gx 2 [] w t ids)(hl:ids.length<=5)(O:∀(i:Nat) s l' w1 (a:Sl) x (K:Sl->WP),i<ids.length->ids[i]?=some x->l'=l++(ids.take i).flatMap jW->I s l' w1->eT gx 2 [] w1 t ids->eY [] w1 a (jW x)->(∀V w2,I V (l'++jW x) w2->eT gx 2 [] w2 t ids->K V w2)-> Pt.run di ((Builtin.append_ #[79,79] 79 #[s.v,a.v]).run prog w1) K)(kk:∀s w',I s (l++ids.flatMap jW) w'->K s w'):cW 209 [b.v,t.v] di w K:=by refine qqi ?_;have aa:=G.1;refine lD (λq w'=>∃i:Nat,q.2=i/\i<=ids.length/\I q.1 (l++(ids.take i).flatMap jW) w'/\eT gx 2 [] w' t ids) (λq _=>ids.length-q.2.toNat) ⟨0,rfl,yX _,by rw[take_zero,flatMap_nil,xG];exact hI,G⟩ ?_;rintro⟨s,x⟩ w1 ⟨i,hx,hi,U,r1⟩ X hX;subst hx;apply eF<;>intro J;have J:=zC J;have E:i<ids.length:=oL;refine eT.qC r1 i rfl (zA E) rfl rfl<|oD (oG [] w1) λr w2 e2 f2 h=>h.sz 0 rfl #[.w ids[i].1,.w ids[i].2] λw3 h _=>Mj h 0 (ids[i].1,ids[i].2)<|IT λr4 w4 h4 f4 _ _=>?_;have f:=h.fr.trans f4;refine O i _ _ _ ⟨pW r4,16,16⟩ ids[i] _ E (zA E) rfl (hf _ _ _ _ U f) (r1.q9 f) h4.rd λs5 w5 h5 r5=>?_;rw[gJ _ oL];refine hX _ _ ⟨i+1,rfl,E,?_,r5⟩ oP;rw[yG E,yQ,<- zV,flatMap_singleton];exact h5;have J:=zB J;have E:i=ids.length:=oL;subst E;rw[xY] at U;exact kk _ _ U
def qC4(E:eT gx 2 [] w t ids)(hl:ids.length<=5)(kk:∀s B' w',ip w' s (ids.flatMap jW) B'->Fr [] w w'->(∀b∈B',w.z<=b)->K s w'): cW 209 [.slice none 0 0,t.v] di w K:=by refine qs1 (I:=λs l w'=>∃B',ip w' s l B'/\Fr [] w w'/\∀b∈B',w.z<=b) ⟨[],eZ.nil _ _ _,.refl _ _,λ_ h=>nomatch h⟩ (λs l w1 w2 ⟨B',U,J,O⟩ f=>⟨B',U.q9 f,J.trans f,O⟩) E hl (λi s l' w1 a x K hi _ V ⟨B1,U,J,O⟩ r1 ha k=>?_) λs w' ⟨B',b,f,n⟩=>kk s B' w' b f n;have:l'.length<=80:=(by rw[V,xH,GE,yL];omega);refine DK U ha (by rw[pj];omega) λs2 B2 w2 b2 f2 n2=>?_;have G:=J.j8 f2 λb hb=>.inr (O b hb);exact k s2 w2 ⟨B2,b2,G,λb hb=>(n2 b hb).elim (O b) (zL J.size)⟩ (E.q9 G)
def qFA{E:Nat}{G:Ml}{K:Int->WP}(J:w.heap[r]?=some (.c #[s.v] T))(O:eY S w s (l++G))(hS:r∈S)(hB:fj l)(hl:l.length=E)(h8:E<=8)(kk:∀s' w',w'.heap[r]?=some (.c #[s'.v] T)->eY S w' s' G->Fr [r] w w'->K (re l) w'):cW 89 [dM r,.i E] dr w K:=by subst hl;refine qhF<|fH (iH J s rfl ?_);refine eT.part O 0 l.length rfl rfl (yX _) oN λs1 l1 r1 _=>?_;rw[xE,take_left' rfl] at r1;refine lD (λx w'=>w'=w/\∃i:Nat,x.2=i/\i<=l.length/\x.1=re (l.take i)) (λx _=>((l.length:Int)-x.2).toNat) ⟨rfl,0,rfl,oL,rfl⟩ ?_;rintro⟨y,ii⟩ w' ⟨rfl,i,U,hi,hy⟩ X hX;subst U hy;apply cD<;>intro V;have I:i<l.length:=oL;refine eY.at r1 i rfl (zA I) ?_;rw[gJ _ oL,He hB I oL];exact hX _ _ ⟨rfl,i+1,oN,oL,rfl⟩ oP;have I:i=l.length:=oL;subst I;rw[xY];refine fH (iH J s rfl ?_);refine eT.part O l.length (l++G).length rfl (by rw[xU,O.1]) oN (zM _) λs2 l2 r2 _=>?_;rw[xY,drop_left' rfl] at r2;refine fH (wU J #[s2.v] rfl rfl (zM _) λw2 aa f2=>?_);exact kk s2 w2 aa (r2.j0 (f2.mono λb h _=>by rw[zE.1 h];exact hS) λb h=>.inl h) f2
def Ii{E:Ml}{K:Int->WP}(J:w.heap[r]?=some (.c #[s.v] T))(O:eY S w s (bw h n++E))(U:r∈S)(I:0<=n/\n<256^h)(V:h<=8)(kk:∀G w',w'.heap[r]?=some (.c #[G.v] T)->eY S w' G E->Fr [r] w w'->K n w'):cW 89 [dM r,.i h] dr w K:=
 qFA J O U (sQ _ _) (na _ _) V λG w' h1 h2 h3=>by rw[Am h I.1 I.2];exact kk G w' h1 h2 h3
def qFW{E:Ml}{K:Mo->WP}(G:w.heap[r]?=some (.c #[s.v] T))(V:eY S w s (jW x++E))(J:r∈S)(O:ji x)(kk:∀U w',w'.heap[r]?=some (.c #[U.v] T)->eY S w' U E->Fr [r] w w'->K x w'):cW 88 [dM r] [.agg dg] w K:=by refine qjD<|oD (CY G) λr1 w1 e1 f1 h=>?_;have I:=eT.j0 (V.j6 (S':=r1::S) λb G=>(zG.1 G).elim (λe=>.inr oL) .inl) (Fr.mono f1 λb h _=>nomatch h) λb G=>.inl G;rw[jW,zV] at I;refine Ii (h.at (i:=1) rfl) I (zN _ J) (by rw[p8];exact O.1) oO λs2 w2 b2 r2 f2=>?_;have h:=xi h 1 rfl f2 b2;refine Ii (h.at (i:=1) rfl) r2 (zN _ J) (by rw[p8];exact O.2) oO λs3 w3 b3 r3 f3=>?_;have h:=xi h 1 rfl f3 b3;exact h.sz 0 rfl #[.w x.1,.w x.2] λw4 h f4=>Mj h 0 x<|kk s3 w4 (h.at (i:=1) rfl) (r3.j0 (f4.mono λb h _=>by rw[zE.1 h];exact LQ) λb G=>.inl (zN _ G)) h.fr
def AP (m r:Nat):Array Me:=((List.range m).map λi=>Value.pointer (some ⟨r,2*i,none⟩)).toArray
def qw7{I:Ml}{G:Mk}{r9 O V:Nat}{P9 T7 T5:Mf}{z:List Me}{E:WP}(hm:ids.length=m)(h5:m<=5)(hz:2*m<=z.length)(h:dY S w0 w ((r9,.c (AP m O) P9)::(O,.c z.toArray T7)::(V,.c #[s.v] T5)::L))(U:eY G w s (ids.flatMap jW++I))(ag:V∈G)(ah:O∈G)(hW:∀x∈ids,ji x)(kk:∀s' w',dY S w0 w' ((r9,.c (AP m O) P9)::(O,.c (ids.flatMap gx++z.drop (2*m)).toArray T7)::(V,.c #[s'.v] T5)::L)->eY G w' s' I->E w'): loop Int (λX x w=>cond (decide (x<(m:Int))) (idx ⟨pW r9,m,m⟩ x 1 λa=>ld .ptr a w λp=>cW 88 [dM V] [.agg dg] w λt w'=>nn p λa=>st a [.w t.1,.w t.2] w' λw2=>X (wrap .i64 (x+1)) w2) (E w)) 0 w:=by
 refine lD (λx w'=>∃i:Nat,∃s',x=i/\i<=m/\dY S w0 w' ((r9,.c (AP m O) P9)::(O,.c ((ids.take i).flatMap gx++z.drop (2*i)).toArray T7)::(V,.c #[s'.v] T5)::L)/\eY G w' s' ((ids.drop i).flatMap jW++I)) (λx _=>m-x.toNat) ⟨0,s,rfl,yX _,h,U⟩ ?_;rintro x w1 ⟨i,s1,rfl,hi,h,U⟩ X hX;apply eF<;>intro hc;have hc:=zC hc;have J:i<m:=oL;refine ur oL oL ?_;rw[zJ,xR,xQ];refine oB h 0 rfl (some ⟨O,2*i,none⟩) (by simp[AP,J];rfl) ?_;rw[zX (by omega:i<ids.length),yH,zV] at U;refine qFW (h.at (i:=2) rfl) U ag (hW _ (zW _)) λs2 w2 b2 r2 f2=>?_;have h:=xi h 2 rfl f2 b2;have hA:((ids.take i).flatMap gx).length=2*i:=(by rw[uX uV,yL];omega);have hZ:z.drop (2*i)=(z.drop (2*i)).take 2++z.drop (2*(i+1)):=(by rw[show 2*(i+1)=2*i+2 by omega,<- xC,xD]);have ai:d7 ((ids.take i).flatMap gx++z.drop (2*i)).toArray (2*i) (gx ids[i])=((ids.take i).flatMap gx++gx ids[i]++z.drop (2*(i+1))).toArray:=by rw[hZ,<- zV,<- hA];exact wM (by rw[yL,yC,uV];omega)
 refine fH (h.st' 1 rfl _ ai rfl (by simp[hA];omega) λw3 h f3=>?_);rw[gJ _ oL];refine hX _ _ ⟨i+1,s2,rfl,J,?_,r2.j0 (f3.mono λb h _=>by rw[zE.1 h];exact ah) λb hb=>.inl hb⟩ oL;rw[yG (by omega:i<ids.length),yQ,flatMap_singleton];exact h;have hc:=zB hc;have J:i=m:=oL;subst J;rw[zS oL] at h;rw[LV oL] at U;exact kk s1 w1 h U
def zi{I:Ml}{G:Mk}{O U E off:Nat}{p9:Nat×Obj}{T7 T5:Mf}{v:Me}{V:Int->Me}{K:WP}(h:dY S w0 w (p9::(O,.c cs T7)::(U,.c #[s.v] T5)::L))(hr:eY G w s (bw E n++I))(hG:U∈G/\O∈G)(hn:0<=n/\n<256^E)(hv:V n=v)(J:Array Me)(kk:∀s' w',dY S w0 w' (p9::(O,.c J T7)::(U,.c #[s'.v] T5)::L)->eY G w' s' I->K w')(hs:d7 cs off [v]=J:=by rfl)(h1:v.oneCell'=true:=by rfl)(hl:off+1<=cs.size:=by exact zO rfl)(h8:E<=8:=by decide): cW 89 [dM U,.i E] dr w λx w'=>Pt.st (dh O off) [V x] w' K:=by refine Ii (h.at (i:=2) rfl) hr hG.1 hn h8 λs2 w2 b2 r2 f2=>?_;have h:=xi h 2 rfl f2 b2;rw[hv];exact h.st' 1 rfl J hs (by simp[h1]) hl λw3 h f3=>kk s2 w3 h (r2.j0 (f3.mono λb h _=>by rw[zE.1 h];exact hG.2) λb hb=>.inl hb)
abbrev u2:List Cell:=dg
def Bf (w0 w:Md) (s:Sl) (l:Ml) (n:Nat):Prop:=l.length=n/\∃B,ip w s l B/\Fr [] w0 w/\∀b∈B,w0.z<=b
def Bf.fr(h:Bf w0 w s l k):Fr [] w0 w:=h.2.elim λ_ h=>h.2.1
def Bf.len(h:Bf w0 w s l k):s.len=k:=h.1▸h.2.elim λ_ h=>h.1.len
def Bf.down(h:Bf w w' s l k)(f:Fr [] w0 w):Bf w0 w' s l k:=⟨h.1,h.2.elim λB q=>⟨B,q.1,f.trans q.2.1,λb E=>zL f.size (q.2.2 b E)⟩⟩
def Bf.new(h:Bf w0 w s l k):mK w0 w s l:=h.2.elim λ_ h=>BH h.1 h.2.2
def Bf.q9(h:Bf w0 w s l k)(f:Fr [] w w'):Bf w0 w' s l k:=h.2.elim λB q=>⟨h.1,B,q.1.q9 f,q.2.1.trans f,q.2.2⟩
def Bf.of{B':Mk}{l':Ml}(h:Bf w0 w b l k)(J:ip w b l B)(G:∀x∈B,w0.z<=x)(I:l'.length=m)(b':ip w' s (l++l') B')(f:Fr B w w')(n':∀x∈B',x∈B\/w.z<=x):Bf w0 w' s (l++l') (k+m):=
 ⟨by rw[zF,h.1,I],B',b',h.fr.j8 f λx E=>.inr (G x E),λx E=>(n' x E).elim (G x) (zL h.fr.size)⟩
def Bf.Av(h:Bf w0 w b l k)(E:∀s w',Bf w0 w' s (l++bw 2 n) (k+2)->K s w')(G:k<=1000:=by decide):cW 212 [b.v,.int .u16 n,.i 2] di w K:=by obtain⟨B,q,f,I⟩:=h.2;exact qEg q (by rw[h.1];exact G) λs B' w' b' J n'=>E s w' (h.of q I (na _ _) b' J n')
def Bf.CP(h:Bf w0 w b l k)(E:∀s w',Bf w0 w' s (l++bw 4 n) (k+4)->K s w')(G:k<=1000:=by decide):cW 210 [b.v,.u n,.i 4] di w K:=by obtain⟨B,q,f,I⟩:=h.2;exact qEh q (by rw[h.1];exact G) λs B' w' b' J n'=>E s w' (h.of q I (na _ _) b' J n')
def Bf.yq(h:Bf w0 w b l k)(E:∀s w',Bf w0 w' s (l++bw 8 n) (k+8)->K s w')(G:k<=1000:=by decide):cW 211 [b.v,.w n,.i 8] di w K:=by obtain⟨B,q,f,I⟩:=h.2;exact qEi q (by rw[h.1];exact G) λs B' w' b' J n'=>E s w' (h.of q I (na _ _) b' J n')
def Kx(E:w.heap[r]?=some (.c (ids.flatMap gx).toArray T))(G:ids.length=m)(I:m<=5)(J:∀s w',Bf w w' s (ids.flatMap jW) (16*m)->K s w'): cW 209 [.slice none 0 0,.slice (pW r) m m] di w K:=by subst G;have O:eT gx 2 [] w ⟨pW r,ids.length,ids.length⟩ ids:=eZ.ju uV (eZ.fresh uV E rfl (zM _) (by rw[size_toArray,uX uV];exact zM _) (zS (by rw[uX uV];exact zM _))) λ_ _ h=>nomatch h;exact qC4 O I λs B w' b f n=>J s w' ⟨GE _,B,b,f,n⟩
def eT.max{α:Type}{enc:α->List Me}{n:Nat}{l:List α}{hi:Int}{K:Sl->Prop}(h:eT enc k S w s l)(V:hi=n)(U:n<=l.length)(h0:0<n)(kk:∀G,G.len=n->eT enc k S w G (l.take n)->K G):gi s none (some hi) (some hi) k K:=by obtain⟨h1,h2,I⟩:=h;subst V;unfold gi;refine⟨by simp;omega,kk _ oN ⟨by simp;omega,oN,.inr ?_⟩⟩;rcases I with I|⟨bl,o,cs,T,fr,ha,J,O,hc⟩;rw[I] at U;simp at U;omega;refine⟨bl,o,cs,T,fr,?_,J,O,λi x E=>?_⟩;rw[iN oQ,ha];simp[Addr.j1];rw[xB] at E;split at E;exact hc i x E;cases E
def G7{x:Int}(h:IntKind.u64.has x):0<=x/\x<256^8:=by rw[p8];exact py h
abbrev lU (x:e9):Prop:=IntKind.u64.has x.1/\IntKind.u64.has x.2
def lU.ok(h:lU x):ji x:=⟨py h.1,py h.2⟩
def qFR{a b c d:e9}(E:lU a)(G:lU b)(I:lU c)(J:lU d):∀x∈[a,b,c,d],ji x:=λx h=>by simp at h;rcases h with rfl|rfl|rfl|rfl;exact E.ok;exact G.ok;exact I.ok;exact J.ok
def qEN{a b c d e:e9}(E:lU a)(G:lU b)(I:lU c)(J:lU d)(O:lU e):∀x∈[a,b,c,d,e],ji x:=λx U=>(zG.1 U).elim (λh=>by rw[h];exact E.ok) (qFR G I J O x)
def fP (a:HL eH):e9:=(a.1,a.2.1)
def sS:HL eH->Ml:=λ(_,_,h,E,G,I,c0,c1,J,O,t,l,k,f,n)=>jW (h,E)++(jW (G,I)++(jW (c0,c1)++(jW (J,O)++(bw 8 t++(bw 4 l++(bw 2 k++(bw 2 f++bw 8 n)))))))
def tX (a:HL eH):Ml:=jW (fP a)++sS a
def KI(a:HL eH):(sS a).length=88:=by obtain⟨h,E,G,I,J,O,c0,c1,U,V,t,l,k,f,n⟩:=a;simp only[sS,zF,pj,na]
def qt0(a:HL eH):(tX a).length=104:=by rw[tX,zF,pj,KI]
def qzc(kk:∀s w',Bf w w' s (tX a) 104->K s w'): cW 152 [LI eH a] di w K:=by
 obtain⟨E,G,I,J,O,U,c0,c1,V,d1,t,l,k,f,n⟩:=a;refine qjB<|oD (oG [] w) λr1 w1 e1 f1 h=>Mj h 0 (E,G) (Mj h 0 (I,J) (Mj h 0 (O,U) (Mj h 0 (c0,c1) (Mj h 0 (V,d1) ?_))));refine oD h λr8 w2 e2 f2 h=>Kx (ids:=[(E,G),(I,J),(O,U),(c0,c1),(V,d1)]) (h.at (i:=0) rfl) rfl oO λs3 w3 q=>?_;have h3:=(h.q9 q.fr).drew;refine Mi h3 1 t (Mi h3 1 l ?_);refine (q.q9 (Fr.refl [] w3).drew).yq λs4 w4 q=>gY ((h.q9 q.fr).cell 1) (q.CP λs5 w5 q=>?_);have h5:=(h.q9 q.fr).drew;refine Mi h5 1 k (Mi h5 1 f (Mi h5 1 n ?_));refine (q.q9 (Fr.refl [] w5).drew).Av λs6 w6 q=>jU ((h.q9 q.fr).cell 1) ((h.q9 q.fr).cell 1) (q.Av λs7 w7 q=>?_);refine gY ((h.q9 q.fr).cell 1) (q.yq λs8 w8 q=>?_);have e:[(E,G),(I,J),(O,U),(c0,c1),(V,d1)].flatMap jW++bw 8 t++bw 4 l++bw 2 k++bw 2 f++bw 8 n=tX (E,G,I,J,O,U,c0,c1,V,d1,t,l,k,f,n):=by simp only[yH,flatMap_nil,tX,fP,sS,zV,xG,xH]
 rw[e] at q;exact kk s8 w8 (q.down (f1.trans f2))
def qxs{K:Sl×Sl->WP}(J:∀s t w',mK w w' s (jW (fP a))->mK w w' t (sS a)->Fr [] w w'->K (s,t) w'): cW 101 [LI eH a] dw w K:=by refine qir<|oD (oG [] w) λr1 w1 e1 E h=>Mj h 0 a<|qzc λs w2 q=>?_;have hl:=qt0 a;have O:=q.len;refine eT.max (n:=16) q.new rfl oL oO λU _ G=>eT.part q.new 16 104 rfl (by rw[xU,O]) oO oL λV _ I _=>?_;rw[tX,take_left' (pj _)] at G;rw[zS oL,tX,drop_left' (pj _)] at I;exact J U V _ (mK.up G E.size) (mK.up I E.size) ((E.trans q.fr).drew)
def qy1{K:HL eH×Bool->WP}(hr:eY [] w s (tX a))(ha:dV eH a)(kk:∀w',Fr [] w w'->K (a,true) w'): cW 56 [s.v] [.agg eH,.one .bool] w K:=by
 refine qjA ?_;have hl:=hr.1;rw[qt0] at hl;obtain⟨G,I,J,O,U,V,c0,c1,d0,d1,t,l,k,f,n⟩:=a;obtain⟨ad,ae,af,ag,ah,ai,aj,ak,al,an,ht,E,hk,hf,hn⟩:=ha;refine oD (oG [] w) λr1 w1 e1 f1 h=>LK (by rw[hl];rfl)<|oD h λr5 w2 e2 f2 h=>oD h λr7 w3 e3 f3 h=>oD h λr9 w4 e4 f4 h=>?_;have hG:eY [r5,r7,r1] w4 s ([(G,I),(J,O),(U,V),(c0,c1),(d0,d1)].flatMap jW++(bw 8 t++(bw 4 l++(bw 2 k++(bw 2 f++(bw 8 n++[])))))):=by
  have:=eT.q9 (hr.j6 (S':=[r5,r7,r1]) λb hb=>.inr (by have:=f1.size;have:=f2.size;simp at hb;omega)) h.fr;simpa only[yH,flatMap_nil,tX,fP,sS,zV,xG,xH] using this
 refine qw7 rfl oO oO h hG oN oN (qEN ⟨ad,ae⟩ ⟨af,ag⟩ ⟨ah,ai⟩ ⟨aj,ak⟩ ⟨al,an⟩) λs5 w5 h ao=>?_;let A:Int->Int->Int->Int->Int->Array Me:=λt l k f n=>(HL.mk eH (G,I,J,O,U,V,c0,c1,d0,d1,t,l,k,f,n)).toArray;exact zi h ao oN (G7 ht) rfl (A t 0 0 0 0) λs6 w6 h r6=>zi h r6 oN (Di E) (Ma _ (qj l (Di E))) (A t l 0 0 0) λs7 w7 h r7=>zi h r7 oN (yb hk) (Ma _ (xo k (yb hk))) (A t l k 0 0) λs8 w8 h r8=>zi h r8 oN (yb hf) (Ma _ (xo f (yb hf))) (A t l k f 0) λs9 w9 h r9=>zi h r9 oN (G7 hn) rfl (A t l k f n) λaJ aK h aL=>Mj h 1 (G,I,J,O,U,V,c0,c1,d0,d1,t,l,k,f,n)<|h.z' 3 rfl λap h aM=>Mj h 3 (G,I,J,O,U,V,c0,c1,d0,d1,t,l,k,f,n)<|kk ap h.fr
def qEL{m:Ml}(G:w.heap[r]?=some (.c #[s.v,t.v] T))(I:eY [] w s l)(J:eY [] w t m)(V:l.length+m.length<=1000)(O:∀u w',eY [] w' u (l++m)->Fr [] w w'->K u w'):cW 54 [.slice (pW r) 2 2] di w K:=by have U:lf [] w ⟨pW r,2,2⟩ [(s,l),(t,m)]:=⟨eZ.ju AZ (eZ.fresh AZ G rfl (zM _) (zM _) rfl) (λ_ _ h=>nomatch h),λp E=>by rcases zG.1 E with rfl|E;exact I;rw[zE.1 E];exact J⟩;have e:(io [(s,l),(t,m)]).flatten=l++m:=(by simp[io]);refine qrE U (zO rfl) (by rw[e,zF];omega) λu B w' b f n=>O u w' ?_ f;rw[e] at b;exact b.ju mW λ_ _ h=>nomatch h
def qxv{K:HL eH×Bool->WP}(E:eY [] w s (jW (fP a)))(I:eY [] w t (sS a))(J:dV eH a)(O:∀w',Fr [] w w'->K (a,true) w'): cW 38 [s.v,t.v] [.agg eH,.one .bool] w K:=by refine qis ?_;have G:=E.1;rw[pj] at G;refine oD (oG [] w) λr1 w1 e1 f1 h=>LK (by rw[G];rfl) (oD h λr5 w2 e2 f2 h=>?_);refine qEL (h.at (i:=0) rfl) (E.q9 h.fr) (I.q9 h.fr) (by rw[pj,KI];decide) λu w3 U V=>qy1 U J λw4 f4=>?_;have h:=h.q9 (V.trans f4);exact h.z' 1 rfl λw5 h _=>Mj h 1 a (O w5 h.fr)
def gb (t:HL eu):e9:=(t.1,t.2.1)
def sZ:HL eu->Ml:=λ(_,_,h,E,G,I,c0,c1,J,O,t,o,l,k,f,n)=>jW (h,E)++(jW (G,I)++(jW (c0,c1)++(jW (J,O)++(bw 8 t++(bw 4 o++(bw 4 l++(bw 2 k++(bw 2 f++bw 8 n))))))))
def sJ (a:HL eu):Ml:=jW (gb a)++sZ a
def Cz(a:HL eu):(sZ a).length=92:=by obtain⟨h,E,G,I,J,O,c0,c1,U,V,t,o,l,k,f,n⟩:=a;simp only[sZ,zF,pj,na]
def qvv(a:HL eu):(sJ a).length=108:=by rw[sJ,zF,pj,Cz]
def qze{a:HL eu}(kk:∀s w',Bf w w' s (sJ a) 108->K s w'): cW 221 [LI eu a] di w K:=by
 obtain⟨E,G,I,J,O,U,c0,c1,V,d1,t,o,l,k,f,n⟩:=a;refine qit<|oD (oG [] w) λr1 w1 e1 f1 h=>Mj h 0 (E,G) (Mj h 0 (I,J) (Mj h 0 (O,U) (Mj h 0 (c0,c1) (Mj h 0 (V,d1) ?_))));refine oD h λr8 w2 e2 f2 h=>Kx (ids:=[(E,G),(I,J),(O,U),(c0,c1),(V,d1)]) (h.at (i:=0) rfl) rfl oO λs3 w3 q=>?_;have h3:=(h.q9 q.fr).drew;refine Mi h3 1 t (Mi h3 1 o (Mi h3 1 l ?_));refine (q.q9 (Fr.refl [] w3).drew).yq λs4 w4 q=>jU ((h.q9 q.fr).cell 1) ((h.q9 q.fr).cell 1) (q.CP λs5 w5 q=>?_);refine gY ((h.q9 q.fr).cell 1) (q.CP λs5 w5 q=>?_);have h5:=(h.q9 q.fr).drew;refine Mi h5 1 k (Mi h5 1 f (Mi h5 1 n ?_));refine (q.q9 (Fr.refl [] w5).drew).Av λs6 w6 q=>jU ((h.q9 q.fr).cell 1) ((h.q9 q.fr).cell 1) (q.Av λs7 w7 q=>?_);refine gY ((h.q9 q.fr).cell 1) (q.yq λs8 w8 q=>?_);have e:[(E,G),(I,J),(O,U),(c0,c1),(V,d1)].flatMap jW++bw 8 t++bw 4 o++bw 4 l++bw 2 k++bw 2 f++bw 8 n=sJ (E,G,I,J,O,U,c0,c1,V,d1,t,o,l,k,f,n):=by simp only[yH,flatMap_nil,sJ,gb,sZ,zV,xG,xH]
 rw[e] at q;exact kk s8 w8 (q.down (f1.trans f2))
def qy2{a:HL eu}{K:HL eu×Bool->WP}(hr:eY [] w s (sJ a))(ha:dV eu a)(kk:∀w',Fr [] w w'->K (a,true) w'): cW 53 [s.v] [.agg eu,.one .bool] w K:=by
 refine qiq ?_;have hl:=hr.1;rw[qvv] at hl;obtain⟨I,J,O,U,V,b1,c0,c1,d0,d1,t,o,l,k,f,n⟩:=a;obtain⟨ad,ae,af,ag,ah,ai,aj,ak,al,an,ht,ho,G,hk,hf,hn⟩:=ha;refine oD (oG [] w) λr1 w1 e1 f1 h=>LK (by rw[hl];rfl)<|oD h λr5 w2 e2 f2 h=>oD h λE w3 e3 f3 h=>oD h λr9 w4 e4 f4 h=>?_;have hG:eY [r5,E,r1] w4 s ([(I,J),(O,U),(V,b1),(c0,c1),(d0,d1)].flatMap jW++(bw 8 t++(bw 4 o++(bw 4 l++(bw 2 k++(bw 2 f++(bw 8 n++[]))))))):=by
  have:=eT.q9 (hr.j6 (S':=[r5,E,r1]) λb hb=>.inr (by have:=f1.size;have:=f2.size;simp at hb;omega)) h.fr;simpa only[yH,flatMap_nil,sJ,gb,sZ,zV,xG,xH] using this
 refine qw7 rfl oO oO h hG oN oN (qEN ⟨ad,ae⟩ ⟨af,ag⟩ ⟨ah,ai⟩ ⟨aj,ak⟩ ⟨al,an⟩) λs5 w5 h ao=>?_;let A:Int->Int->Int->Int->Int->Int->Array Me:=λt o l k f n=>(HL.mk eu (I,J,O,U,V,b1,c0,c1,d0,d1,t,o,l,k,f,n)).toArray;exact zi h ao oN (G7 ht) rfl (A t 0 0 0 0 0) λs6 w6 h r6=>zi h r6 oN (Di ho) (Ma _ (qj o (Di ho))) (A t o 0 0 0 0) λs7 w7 h E=>zi h E oN (Di G) (Ma _ (qj l (Di G))) (A t o l 0 0 0) λs7 w7 h E=>zi h E oN (yb hk) (Ma _ (xo k (yb hk))) (A t o l k 0 0) λs8 w8 h r8=>zi h r8 oN (yb hf) (Ma _ (xo f (yb hf))) (A t o l k f 0) λs9 w9 h r9=>zi h r9 oN (G7 hn) rfl (A t o l k f n) λaL aM h aN=>Mj h 1 (I,J,O,U,V,b1,c0,c1,d0,d1,t,o,l,k,f,n)<|h.z' 3 rfl λap h aO=>Mj h 3 (I,J,O,U,V,b1,c0,c1,d0,d1,t,o,l,k,f,n) (kk ap h.fr)
def eT.AM{b n cap:Nat}{L:Ml}(h:eY S w ⟨pW b,n,c⟩ L)(I:o+m<=L.length)(J:m<=cap)(h0:0<m):eY S w ⟨some (dh b o),m,cap⟩ ((L.drop o).take m):=by
 obtain⟨h1,h2,G⟩:=h;refine⟨by simp;omega,J,.inr ?_⟩;rcases G with G|⟨bl,o',O,T,U,V,hb,hS,hx⟩;subst G;simp at I;omega;cases V;refine⟨b,o,O,T,U,rfl,hb,hS,λi x E=>?_⟩;rw[xB] at E;split at E;rw[xA] at E
 have:=hx (o+i) x E;rw[<- this];congr 2;omega;cases E
def qDv{bb n:Nat}{ys:Ml}{a:Sl}(O:w.heap[bb]?=some (.c cs T))(h0:w0.z<=bb)(hn:n=l.length)(hc:n<=c)(U:c<=cs.size)(hl:cs.toList.take l.length=l.map (Value.int .u8))(f0:Fr [] w0 w)(ho:0<o/\o<n)(hr:eY [] w a ys)(hy:l.length+ys.length<=1000)(kk:∀s' w',mK w0 w' s' (l.drop o++ys)->mK w0 w' ⟨pW bb,o,o⟩ (l.take o)->Fr [bb] w w'->K s' w'): Pt.run di ((Builtin.append_ #[79,79] 79 #[.slice (some (dh bb o)) (n-o) (c-o),a.v]).run prog w) K:=by
 obtain⟨i,hi,hz,G,ae⟩:=AF;subst hn;have af:=hr.1;have V:=eZ.one (λ_=>rfl) O rfl hc U hl;have hR:=BH V λb h=>by rw[zE.1 h];exact h0
 have E:=yd (P:=prog) (tx:=79) (e':=5) hr mW (λx u hu=>by rw[zE.1 hu];rfl) oM;rw[u4] at E;have aa:eY [] w ⟨some (dh bb o),l.length-o,c-o⟩ (l.drop o):=by
  have:=eT.AM (o:=o) (m:=l.length-o) (cap:=c-o) hR.rd oL oL oL;rwa[zS oN] at this
 by_cases hroom:l.length+ys.length<=c;have hk:(l.length-o)+a.len<=c-o:=oL;have e0:o+(l.length-o)*1=l.length:=oL;refine zz ⟨_,_,_⟩ _ (run_append_room_src w 79 79 79 5 i oM hi bb o (l.length-o) (c-o) _ a.len _ (by rw[G];exact E) hk (λj hj=>?_) λj hj=>?_) ?_;rw[G,e0,jI O];rw[zK] at hj;have:l.length+j<cs.size:=oL;simp[this];simp[World.frozen?,O];rw[CL O,G,e0];have I:(jA w bb (.c (d7 cs l.length (ys.map (Value.int .u8))) T)).heap[bb]?=some (.c (d7 cs l.length (ys.map (Value.int .u8))) T):=(by rw[sO _ _ _ _ (gg O),iP rfl]);have J:=eZ.one (λ_=>rfl) I rfl (by rw[zF];exact hroom) (by rw[qI];exact U) (by rw[tM _ _ _ oQ,hl,xL,zF,LO oN];exact zS oN);have ac:=BH J λb h=>by rw[zE.1 h];exact h0
 refine kk _ _ ?_ ?_ (AU (gg O) _);have:=eT.AM (o:=o) ac (by rw[zF];omega) hk oL;rwa[LW oL,zS oQ] at this;have:=eT.AM (o:=0) ac (by rw[zF];omega) (zM _) ho.1;rwa[xE,LO oL] at this;have ag:=aa.cells mW rfl;refine qwz (olds:=(l.drop o).map (Value.int .u8)) oM hi hz G rfl oN (λj u hj=>?_) E oL (by rw[ae];omega) oL λb' cs c' w' eb I f ah ad ht=>?_;rw[<- u4] at hj;exact ag j u hj;have ai:ip w' ⟨pW b',l.length-o+a.len,c'⟩ (l.drop o++ys) [b']:=eZ.one (λ_=>rfl) I oQ ah ad (by rw[zF,yC,<- af,ht,xL]);refine kk _ w' (BH ai λb h=>by rw[zE.1 h,eb];exact f0.size) ?_ (f.mono λ_ h _=>nomatch h);have:=eT.AM (o:=0) (hR.q9 f) oL (zM _) ho.1;rwa[xE] at this
def qtZ{K:e9×Bool->WP}(I:eY [] w s (jW x))(G:ji x)(kk:∀w',Fr [] w w'->K (x,true) w'): cW 55 [s.v] [.agg dg,.one .bool] w K:=by refine qvz ?_;have V:=I.1;rw[pj] at V;refine oD (oG [] w) λr1 w1 e1 f1 h=>LK (by rw[V];rfl) (oD h λr5 w2 e2 f2 h=>?_);have l0:=na 8 x.1;have l1:=na 8 x.2;refine lD (λq w'=>∃i:Nat,q=i/\i<=8/\dY [] w w' [(r5,.c #[.w (re ((bw 8 x.1).take i)),.w (re ((bw 8 x.2).take i))] nf),(r1,.c cq nf)]) (λq _=>8-q.toNat) ⟨0,rfl,oO,h⟩ ?_;rintro q w3 ⟨i,rfl,hi,h⟩ X hX;apply cD<;>intro J;have E:i<8:=oL;have O:(jW x)[i]?=some ((bw 8 x.1)[i]' oL):=(by rw[jW,yZ oL,zA oL]);have U:(jW x)[8+i]?=some ((bw 8 x.2)[i]' oL):=(by rw[jW,yY oL,l0,vA,zA oL]);rw[gJ (8+(i:Int)) oL,gJ ((i:Int)+1) oL];refine oB h.drew 0 rfl _ rfl (eY.at (I.q9 h.drew.fr) i rfl O ?_);rw[He (sQ _ _) oL E];refine h.drew.sz 0 rfl #[.w (re ((bw 8 x.1).take (i+1))),.w (re ((bw 8 x.2).take i))] λw4 h _=>oB h.drew 0 rfl _ rfl (eY.at (I.q9 h.drew.fr) (8+i) oL U ?_);rw[He (sQ _ _) oL E];exact h.drew.sz 0 rfl #[.w (re ((bw 8 x.1).take (i+1))),.w (re ((bw 8 x.2).take (i+1)))] λw5 h _=>hX _ _ ⟨i+1,rfl,E,h⟩ oL;have E:i=8:=oL;subst E;rw[zS oL,zS oL,Am 8 G.1.1 (by rw[p8];exact G.1.2),Am 8 G.2.1 (by rw[p8];exact G.2.2)] at h;refine Mj h 0 x (h.z' 1 rfl λw4 h _=>?_);exact Mj h 1 x (kk w4 h.fr)
def qEy{K:Int->WP}(h:eY S w s (bw 8 n))(E:lH n)(G:K n w):cW 57 [s.v] dr w K:=
 qxy h (sQ _ _) (by rw[na];decide) (by rw[Am 8 E.1 (by rw[p8];exact E.2)];exact G)
def qo5{m:Int}{K:Int×Int×Bool->WP}(h:eY [] w s (mL n m))(J:lH n)(O:lH m)(U:K (n,m,true) w.drew): cW 39 [s.v] dC w K:=by refine qtf ?_;have E:=h.1;rw[CM] at E;refine LK (by rw[E];rfl) (eT.part h 0 8 rfl rfl oO (by rw[CM];decide) λs1 _ G _=>eT.part h 8 16 rfl (by rw[xU,E]) oO (by rw[CM];decide) λs2 _ I _=>?_);rw[mL,xE,take_left' (na _ _)] at G;rw[zS (by rw[CM];decide),mL,drop_left' (na _ _)] at I;exact qEy G.drew J (qEy I.drew O U)
variable {K:Sl×Sl->WP} {r:HL sR}
def Kj(U:∀s t w',mK w w' s (mL e n)->mK w w' t (jW (E,G))->Fr [] w w'->K (s,t) w'): cW 202 [.agg #[.w e,.w n,.w E,.w G]] dw w K:=by refine qm3<|oD (oG [] w) λr1 w1 e1 I h=>Mi h.drew 0 e (Mi h.drew 0 n (Mj h.drew 0 (E,G) ?_));refine qwu λs w2 V J=>gY ((h.drew.q9 J).cells 0) (AO λr3 w3 h3 O=>?_);have f:=I.drew.trans J;exact U s _ w3 ((V.up I.size).q9 O) (h3.up f.size) (f.trans O)
def qxw{K:MB×Bool->WP}(G:eY [] w s (mL e n))(I:eY [] w t (jW x))(J:lH e)(O:lH n)(U:ji x)(V:∀w',Fr [] w w'->K ((e,n,x.1,x.2),true) w'): cW 143 [s.v,t.v] [.agg [.w,.w,.w,.w],.one .bool] w K:=by refine qm5<|oD (oG [] w) λr1 w1 e1 E h=>qo5 (G.q9 E) J O<|qtZ (I.q9 E.drew) U λw2 f2=>oD (h.drew.q9 f2) λr7 w3 e3 f3 h=>h.sz 0 rfl #[.w x.1,.w x.2] λw4 h _=>qW false w4 (λM hM=>x_ hM) (x_ ?_);refine Mj h 0 x (h.sz 1 rfl #[.w e,.w n,.w x.1,.w x.2] λw5 h _=>?_);exact Mj h 1 (e,n,x.1,x.2) (V w5 h.fr)
abbrev AB:Mf:=45
abbrev Kp:=HL eu×e9
def mV (k:Kp):List Me:=HL.mk eu k.1++gx k.2
def xg (k:Kp):Ml:=sZ k.1++jW k.2
def sE(k:Kp):(mV k).length=18:=rfl
def DO(k:Kp):(xg k).length=108:=by rw[xg,zF,Cz,pj]
def nE:Kp:=((0,0,0,0,0,0,0,0,0,0,0,0,0,0,0,0),(0,0))
def yk:((prog.info? AB).bind (·.zero)).map (λz=>z.cells.toList)=some (mV nE):=by kernel_rfl
def II{k:Kp}(w:Md):(Instr.build AB #[(0,LI eu k.1),(1,.agg #[.w k.2.1,.w k.2.2])]).run prog w=.ok (.agg (mV k).toArray) w:=by obtain⟨z,E,h⟩:=yT.1 yk;exact qqn E oM (λw=>oM) rfl rfl rfl (by rw[<- Mc,h];rfl) w
def qxu{k:Kp}(kk:∀s t w',mK w w' s (jW (gb k.1))->mK w w' t (xg k)->Fr [] w w'->K (s,t) w'): cW 161 [.agg (mV k).toArray] dw w K:=by
 refine qhD<|oD (oG [] w) λr1 w1 e1 f1 h=>Mj h 0 k.1 (qze λs w2 q=>?_);have hl:=qvv k.1;obtain⟨B,hb,f2,hB⟩:=q.2;obtain⟨bb,cs,T,rfl,ha,J,hn,hc,O,ht⟩:=hb.ptr (by intro h;rw[h] at hl;simp at hl);obtain⟨sa,sn,sc⟩:=s;dsimp only at ha hn hc O;subst ha;have U:=hB bb (zE.2 rfl);rw[u4] at ht;unfold gi;refine⟨by simp;omega,by simp;omega,?_⟩;simp only[xU,xT];rw[iN oQ,iN oN];have h:=(h.q9 f2).drew;refine Mj h 0 k.2 (oD h λr9 w3 e3 f3 h=>?_);have G:eT gx 2 [bb] w3 ⟨pW r9,1,1⟩ [k.2]:=eZ.ju uV (eZ.fresh uV (h.at (i:=0) rfl) rfl (zM _) (zM _) rfl) λb hb h=>by have:=zE.1 hb;have:=zE.1 h;have:bb<w2.drew.z:=gg J;omega
 have ac:=(Fr.refl [] w2).drew.trans f3;have hV:(sJ k.1).drop 16=sZ k.1:=(by rw[sJ,drop_left' (pj _)]);have hI:(sJ k.1).take 16=jW (gb k.1):=(by rw[sJ,take_left' (pj _)]);have ad:sZ k.1≠xg k:=λe=>by have:=Ma List.length e;rw[Cz,DO] at this;omega
 refine qs1 (I:=λs l' w'=>(s=⟨some (dh bb 16),sn-16,sc-16⟩/\l'=sZ k.1/\Fr [] w3 w')\/(l'=xg k/\mK w w' s (xg k)/\mK w w' ⟨pW bb,16,16⟩ (jW (gb k.1))/\Fr [] w w')) (.inl ⟨rfl,rfl,.refl _ _⟩) (λs l w' aF q f=>q.elim (λq=>.inl ⟨q.1,q.2.1,q.2.2.trans f⟩) λq=>.inr ⟨q.1,q.2.1.q9 f,q.2.2.1.q9 f,q.2.2.2.trans f⟩) (G.j6 λ_ h=>nomatch h) (zO rfl) (λi s l' w4 a x K' hi hx E q r4 ra k'=>?_) λs w4 q=>?_;have ag:i=0:=(by simp at hi;exact hi);subst ag;cases hx;rcases q with ⟨rfl,E,V⟩|⟨e,_⟩;have ah:w4.heap[bb]?=some (.c cs T):=(by rw[(ac.trans V).block bb (gg J) λh=>nomatch h];exact J);refine qDv ah (zL f1.size U) hn hc O ht (h.fr.trans V) oL ra (by rw[hl,pj];decide) λs5 w5 h5 h6 f5=>?_;rw[hV] at h5;rw[hI] at h6;rw[E] at k';exact k' s5 w5 (.inr ⟨rfl,h5,h6,(h.fr.trans V).j8 f5 λb h=>.inr (by rw[zE.1 h];exact zL f1.size U)⟩) (((G.q9 V).j0 f5 λb h=>.inl h).j6 λ_ h=>nomatch h);rw[e] at E;exact absurd (oS E.symm) ad;rcases q with ⟨_,e,_⟩|⟨_,q1,q2,q3⟩
 have:=Ma List.length e;rw[zF,GE,Cz] at this;simp at this;exact kk _ s w4 q2 q1 q3
def sV (k:Kp):Prop:=dV eu k.1/\lU k.2
def qxx{k:Kp}{K:List Me×Bool->WP}(O:eY [] w s (jW (gb k.1)))(G:eY [] w t (xg k))(U:sV k)(kk:∀w',Fr [] w w'->K (mV k,true) w'): cW 36 [s.v,t.v] dt w K:=by refine qhE ?_;have V:=O.1;rw[pj] at V;have E:=G.1;rw[DO] at E;have hz:=yk;refine oK (oG [] w) hz λr1 w1 e1 h=>qW false w1 (λM hM=>LK (by rw[V];rfl) (by rw[E];exact hM)) (x_ ?_);refine eT.part (G.q9 h.fr) 0 92 rfl rfl oO (by rw[DO];decide) λs2 _ h2 _=>?_;rw[xE,xg,take_left' (Cz _)] at h2;refine oD h λr3 w3 e3 f3 h=>qEL (h.at (i:=0) rfl) (O.q9 h.fr) (h2.q9 f3) (by rw[pj,Cz];decide) λu w4 hu f4=>qy2 hu U.1 λw5 f5=>oD (h.q9 (f4.trans f5)) λr6 w6 e6 f6 h=>h.z' 0 rfl λw7 h _=>eT.part (G.q9 h.fr) 92 108 rfl (by rw[xU,E]) oO (by rw[DO];decide) λs8 _ h8 _=>?_;rw[zS (by rw[DO];decide),xg,drop_left' (Cz _)] at h8;refine qtZ h8 U.2.ok λw9 f9=>oD (h.q9 f9) λr9 ak al an h=>h.z' 0 rfl λI h _=>Mj h 1 k.1 (Mj h 0 k.2 (tf (mV k) (II I) (nc (sE k) ?_)));exact h.z' 3 rfl λJ h _=>lW (h.at (i:=3) rfl) (mV k) (sE k) rfl (kk J h.fr)
def wH:HL xc->Ml:=λ(h,E,G,I,c0,c1,J,O,n)=>jW (h,E)++(jW (G,I)++(jW (c0,c1)++jW (J,O)))
def vH (a:HL xc):Int:=a.2.2.2.2.2.2.2.2
def vG (a:HL xc):Ml:=wH a++bw 8 (vH a)
def FE(a:HL xc):(wH a).length=64:=by obtain⟨h,E,G,I,c0,c1,J,O,n⟩:=a;simp only[wH,zF,pj]
def qBR(a:HL xc):(vG a).length=72:=by rw[vG,zF,FE,na]
def qzd{K:Sl->WP}{a:HL xc}(V:∀s w',Bf w w' s (vG a) 72->K s w'): cW 270 [LI xc a] di w K:=by
 obtain⟨E,G,I,J,c0,c1,O,U,n⟩:=a;refine qjC<|oD (oG [] w) λr1 w1 e1 f1 h=>?_;have h:=h.drew;refine Mj h 0 (E,G) (Mj h 0 (I,J) (Mj h 0 (c0,c1) (Mj h 0 (O,U) (Mi h 0 n ?_))));refine oD h λr8 w2 e2 f2 h=>gY (h.cell 1)<|Kx (ids:=[(E,G),(I,J),(c0,c1),(O,U)]) (h.at (i:=0) rfl) rfl oO λs3 w3 q=>gY ((h.q9 q.fr).cell 1) (q.yq λs4 w4 q=>?_);have e:[(E,G),(I,J),(c0,c1),(O,U)].flatMap jW++bw 8 n=vG (E,G,I,J,c0,c1,O,U,n):=by simp only[yH,flatMap_nil,vG,vH,wH,zV,xG,xH]
 rw[e] at q;exact V s4 w4 (q.down h.fr)
def yi:HL sR->Int:=λ(_,_,_,_,_,_,_,_,_,s)=>s
def rZ:HL sR->HL xc:=λ(h,E,G,I,c0,c1,J,O,n,_)=>(h,E,G,I,c0,c1,J,O,n)
def wO (r:HL sR):Ml:=yi r::wH (rZ r)
def qCQ(r:HL sR):(wO r).length=65:=by rw[wO,yI,FE]
def qxt{J O:Int}(kk:∀s t w',mK w w' s (mR (J,O) (vH (rZ r)))->mK w w' t (wO r)->Fr [] w w'->K (s,t) w'): cW 223 [df J O,LI sR r] dw w K:=by
 refine qm4<|oD (oG [] w) λr1 w1 e1 f1 h=>oD h λr3 w2 e2 f2 h=>Mj h 0 (rZ r) (qzd λs w3 q=>?_);have h:=(h.q9 q.fr).drew;have hq:=(q.new.q9 (Fr.refl [] w3).drew).rd;have hx:(vG (rZ r)).take 64=wH (rZ r):=(by rw[vG,take_left' (FE _)]);have al:=qBR (rZ r);have an:=FE (rZ r);refine⟨?a,?b⟩;case' a=>refine Mj h 1 (J,O) (Mi h 0 (vH (rZ r)) (Mi h 0 (yi r) (eT.part hq 0 64 rfl rfl oO oL λs4 _ U _=>Hy λV w5 h5 E=>?_)))
 case' b=>refine Mj h 1 (J,O) (Mi h 0 (vH (rZ r)) (Mi h 0 (yi r) (eT.part hq 0 64 rfl rfl oO oL λs4 _ U _=>?_)))
 all_goals rw[xE,hx] at U
 case a=>
  have h:=h.q9 E;refine gY (h.cell 0) (oD h λr6 w6 e6 G h=>jU (h.cell 1) (h.cells 2) ?_);exact HS (Cl (L:=[yi r]) (h.at (i:=0) rfl) (zM _) (zM _) λh=>nomatch h) ((U.q9 E).q9 G) oL oQ λs7 B7 w7 b7 I n7=>kk V s7 w7 ((h5.q9 (G.trans I)).up (f1.trans (f2.trans q.fr)).size) (BH b7 λb hb=>zL h.fr.size (n7 b hb)) (h.fr.trans I)
 case b=>
  refine oD h λr6 w6 e6 G h=>jU (h.cell 1) (h.cells 2) (Hy λV w5 h5 E=>?_);have h:=h.q9 E;exact gY (h.cell 1)<|HS (Cl (L:=[yi r]) (h.at (i:=0) rfl) (zM _) (zM _) λh=>nomatch h) ((U.q9 G).q9 E) oL oQ λs7 B7 w7 b7 I n7=>kk V s7 w7 ((h5.q9 I).up ((f1.trans (f2.trans q.fr)).drew.trans G).size) (BH b7 λb hb=>zL h.fr.size (n7 b hb)) (h.fr.trans I)
def qCS{t:Int}(h:wy t)(G:vj t=((k:Int),(v:Int))):4<=(eG k v).1:=by
 obtain⟨I,J⟩:=h;have:t=0\/t=1\/t=2\/t=3\/t=4\/t=5\/t=6\/t=7:=oL;rcases this with rfl|rfl|rfl|rfl|rfl|rfl|rfl|rfl<;>
  (obtain⟨e1,E⟩:=Prod.mk.inj G;have e1:=Int.ofNat.inj e1;have E:=Int.ofNat.inj E;subst e1 E;decide)
def G9 (iZ to:Key) (x:Key×Key):Bool:=decide (cmpL x.1 iZ>=0)&&decide (cmpL x.1 to<=0)
def jm (iZ to:Key) (L:iF):iF:=L.filter (G9 iZ to)
section
set_option linter.unusedSectionVars false
section
variable {α:Type} {kf vf:α->Key} {L:iF} {l:List α} {a:α} {k v:Key}
def iT {κ:Type} [DecidableEq κ] (kf:α->κ) (a:α):List α->List α
 | []=>[a]
 | x::r=>if kf x=kf a then a::r else x::iT kf a r
def qsB{κ:Type}[DecidableEq κ]{kf:α->κ}:∀ {l:List α},(∀x∈l,kf x≠kf a)->iT kf a l=l++[a]
 | [],_=>rfl
 | x::r,h=>by rw[iT,iN (h x oN),qsB λy E=>h y (zN _ E),xI]
def qu3{κ:Type}[DecidableEq κ]{kf:α->κ}{x:α}:∀ {l:List α},x∈iT kf a l->x=a\/x∈l
 | [],h=>.inl (zE.1 h)
 | y::r,h=>by unfold iT at h;split at h;exact (zG.1 h).imp id λh=>zN _ h;rcases zG.1 h with h|h;exact .inr (by rw[h];exact LQ);exact (qu3 h).imp id λh=>zN _ h
def vI{κ:Type}[DecidableEq κ]{kf:α->κ}:∀ {l:List α},(iT kf a l).length<=l.length+1
 | []=>zM _
 | y::r=>by unfold iT;split;exact Nat.le_succ _;exact Nat.succ_le_succ vI
def qqf{κ:Type}[DecidableEq κ]{kf:α->κ}{kg:α->Key}:∀ {l:List α},(∀x∈l,kf x=kf a↔kg x=kg a)->iT kf a l=iT kg a l
 | [],_=>rfl
 | y::r,h=>by have E:=h y LQ;have ih:=qqf λx G=>h x (zN _ G);unfold iT;by_cases e:kf y=kf a;rw[iP e,iP (E.1 e)];rw[iN e,iN λI=>e (E.2 I),ih]
def qsd:∀ {L:iF},k∉eE L->(gF k v L).Perm ((k,v)::L)
 | [],_=>.refl _
 | x::r,h=>by have h:=not_mem_of_not_mem_cons h |>λE=>And.intro (λe:k=x.1=>h (by rw[e];simp)) E;unfold gF;split;exact .refl _;rw[iN h.1];exact (List.Perm.cons x (qsd h.2)).trans (List.Perm.swap _ _ _)
def qAm:∀ {l:List α} {a b:α},(l.map kf).Nodup->a∈l->b∈l->kf b=kf a->b=a
 | x::l,a,b,h,J,I,e=>by rw[xM,LP] at h;rcases zG.1 J with rfl|G;rcases zG.1 I with rfl|E;rfl;exact absurd (by rw[<- e];exact zY E) h.1;rcases zG.1 I with rfl|E;exact absurd (by rw[e];exact zY G) h.1;exact qAm h.2 G E e
structure mB (kf vf:α->Key) (L:iF) (l:List α):Prop where
 sort:gq L
 nodup:(l.map kf).Nodup
 perm:L.Perm (l.map λa=>(kf a,vf a))
def mB.len(h:mB kf vf L l):L.length=l.length:=by rw[h.perm.length_eq,zK]
def mB.J6(h:mB kf vf L l):k∈eE L↔∃x∈l,kf x=k:=by rw[(h.perm.map (·.1)).mem_iff,map_map];simp
def mB.nil:mB kf vf [] []:=⟨.nil,.nil,.refl _⟩
def mB.put(h:mB kf vf L l)(a:α):mB kf vf (gF (kf a) (vf a) L) (iT kf a l):=by
 by_cases hin:∃x∈l,kf x=kf a;obtain⟨x,G,e⟩:=hin;obtain⟨P,Q,rfl⟩:=append_of_mem G;have E:=h.nodup;have O:=h.perm.mem_iff.2 (mem_map.2 ⟨x,G,by rw[e]⟩);obtain⟨A,B,rfl⟩:=append_of_mem O;have U:=h.sort;unfold gq gQ eE at U;rw[xL,xM,pairwise_append] at U;have hA:∀y∈A,gX y.1 (kf a):=λy I=>U.2.2 _ (zY I) _ oN;rw[xL,xM,yM,LP] at E;have hP:iT kf a (P++x::Q)=P++a::Q:=by
  have J:∀y∈P,kf y≠kf a:=λy I V=>E.2.2 _ (zY I) _ oN (V.trans e.symm);clear G O h E U;induction P with|nil=>exact iP e|cons y P ih=>rw[xI,iT,iN (J y oN),ih λz hz=>J z (zN _ hz),xI]
 rw[Kv hA,hP];refine⟨by have:=HC (k:=kf a) (v:=vf a) h.sort;rw[Kv hA] at this;exact this,?_,?_⟩;rw[xL,xM,yM,LP,<- e];exact E;have hp:=h.perm;rw[xL,xM] at hp;have h1:=(perm_middle.symm.trans hp).trans perm_middle;rw[e] at h1;have h2:=List.Perm.cons_inv h1;rw[xL,xM];exact (perm_middle.trans ((h2.cons _))).trans perm_middle.symm;have hn:∀x∈l,kf x≠kf a:=λx G e=>hin ⟨x,G,e⟩;have hk:kf a∉eE L:=λO=>hin (h.J6.1 O);rw[qsB hn];refine⟨HC h.sort,?_,?_⟩;rw[xL,yM];exact⟨h.nodup,oN,λx G y I e=>by obtain⟨z,hz,rfl⟩:=mem_map.1 G;rw[map_singleton,zE] at I;exact hn z hz (e.trans I)⟩;refine (qsd hk).trans ((h.perm.cons _).trans ?_);rw[xL];exact (LN _ _).symm
def mB.cut(h:mB kf vf L l)(k:Key):mB kf vf (iG k L) (l.filter λx=>decide (kf x≠k)):=by
 refine⟨qrR h.sort,h.nodup.sublist (filter_sublist.map _),?_⟩;have:=h.perm.filter λx=>decide (x.1≠k);rw[filter_map] at this;exact this
def mB.get(h:mB kf vf L l)(k:Key):mi k L=(l.find? λx=>decide (kf x=k)).map vf:=by
 cases E:l.find? λx=>decide (kf x=k) with
 | none=>
  rw[List.find?_eq_none] at E;exact Dc λx hx e=>by obtain⟨a,G,rfl⟩:=mem_map.1 (h.perm.mem_iff.1 hx);exact E a G (oS e)
 | some a=>
  have G:=mem_of_find?_eq_some E;have U:kf a=k:=(by simpa using List.find?_some E);have hm:=h.perm.mem_iff.2 (mem_map.2 ⟨a,G,by rw[U]⟩);obtain⟨v,I⟩:=qr8 (zY hm:k∈eE L);rw[I];unfold mi at I;obtain⟨z,V,rfl⟩:=yT.1 I;have J:z.1=k:=(by simpa using List.find?_some V);obtain⟨b,hb,e⟩:=mem_map.1 (h.perm.mem_iff.1 (mem_of_find?_eq_some V));have O:b=a:=
   qAm h.nodup G hb (by rw[U,<- J,<- e])
  rw[<- e,O];rfl
end
structure qM (α κ:Type) where
 key:α->κ
 g:κ->Key
 val:α->Key
 ok:α->Prop
 BM:κ->Prop
 okk:∀ a,ok a->BM (key a)
 inj:∀ k k',BM k->BM k'->g k=g k'->k=k'
section
variable {α κ:Type} [DecidableEq κ] {K:qM α κ} {L:iF} {l:List α} {a:α} {k:κ}
def nH (K:qM α κ) (L:iF) (l:List α):Prop:=mB (λa=>K.g (K.key a)) K.val L l/\∀a∈l,K.ok a
def nH.nil:nH K [] []:=⟨.nil,λ_ h=>nomatch h⟩
def nH.len(h:nH K L l):L.length=l.length:=h.1.len
def nH.iff(h:nH K L l)(E:K.BM k)(G:a∈l):K.key a=k↔K.g (K.key a)=K.g k:=⟨λe=>by rw[e],K.inj _ _ (K.okk a (h.2 a G)) E⟩
def nH.put(h:nH K L l)(G:K.ok a):nH K (gF (K.g (K.key a)) (K.val a) L) (iT K.key a l):=
 ⟨by rw[qqf (kg:=λa=>K.g (K.key a)) λx E=>h.iff (K.okk a G) E];exact h.1.put a,λx E=>(qu3 E).elim (λe=>by rw[e];exact G) (h.2 x)⟩
def nH.cut(h:nH K L l)(G:K.BM k):nH K (iG (K.g k) L) (l.filter λx=>decide (K.key x≠k)):=
 ⟨by rw[filter_congr (q:=λx=>decide (K.g (K.key x)≠K.g k)) λx E=>by rw[LM,ne_eq,ne_eq,h.iff G E]];exact h.1.cut _,λx E=>h.2 x (mem_filter.1 E).1⟩
def nH.find(h:nH K L l)(I:K.BM k):mi (K.g k) L=(l.find? λx=>decide (K.key x=k)).map K.val:=by
 rw[h.1.get];congr 1;have:∀E:List α,(∀x∈E,x∈l)->(E.find? λx=>decide (K.g (K.key x)=K.g k))=E.find? λx=>decide (K.key x=k):=by
  intro E;induction E with
  | nil=>intro _;rfl
  | cons x r ih=>
   intro G;rw[List.find?_cons,List.find?_cons,ih λy J=>G y (zN _ J),show decide (K.g (K.key x)=K.g k)=decide (K.key x=k) from decide_eq_decide.2 (h.iff I (G x LQ)).symm]
 exact this l λ_ h=>h
def nH.mem(h:nH K L l)(G:∃x∈l,K.key x=k):K.g k∈eE L:=h.1.J6.2 (G.elim λx E=>⟨x,E.1,by rw[E.2]⟩)
def nH.ok(h:nH K L l){x:α}(E:(l.find? λx=>decide (K.key x=k))=some x):K.ok x/\K.key x=k:=⟨h.2 x (mem_of_find?_eq_some E),by simpa using List.find?_some E⟩
end
end
structure EZ (D:dQ) (M:eU) (k v b q:Nat) (t:Int) (L:iF) (P:Ml):Prop where
 J1:Calm D M b q
 J2:gK D M k v t L P
 nodup:P.Nodup
 use:∀ x,eN M x->x∈P
 many:b-2<=M.Q9.length+90+gM b
def qzS{n:Nat}{t:Int}(J:0<=t/\t<8)(G:8<=n)(O:n<=4096)(I:(ng n).Wf)(E:Made D n):EZ D (ng n) k v n 1 t [] []:=by
 have h:=qsP (D:=D) (k:=k) (v:=v) J G O I;have e:(ng n).j9.2.getD 0 0=n:=(by show wrap .u32 (n:Int)=_;exact qj _ oL);refine⟨⟨E.quiet,E.Q7,E.size,e,G,I,h.Q9,h.Q3,h.len,⟨(by decide:(0:Int)<=1),(by decide:(1:Int)<=1)⟩,⟨(by decide:(0:Int)<=1),(by decide:(1:Int)<=1)⟩⟩,h.J2,.nil,h.use,?_⟩;have:=h.many;have:=qyi (a:=n-2) (b:=n) oL;omega
structure sW (D:dQ) (M:eU) (c:Nat) (Q:Mu) (Fo:ml):Prop where
 J0:Dq D M Fo
 J1:Calm D M Q.1 Q.2
 many:c<=M.Q9.length
def oe (M:eU):eU:={ M with Q1:=[],J7:=[],J8:=[],Q2:=[] }
def qzl(h:oe M'=oe M):({ M' with Q1:=M.Q1,J7:=M.J7,J8:=M.J8,Q2:=M.Q2 }:eU)=M:=by cases M;cases M';cases h;rfl
def vZ (F:ml):Nat:=(F 0).1.length+(F 1).1.length+(F 2).1.length+(F 3).1.length+(F 4).1.length+(F 5).1.length+(F 6).1.length+(F 7).1.length
def pd (F:ml):Nat:=2*((F 0).1.length+(F 1).1.length+(F 6).1.length+(F 7).1.length)+(F 2).1.length+(F 3).1.length+(F 4).1.length+(F 5).1.length
variable {t:Nat} {Q:Mu}
def qC6(h:t<8):t=0\/t=1\/t=2\/t=3\/t=4\/t=5\/t=6\/t=7:=by omega
def EP(h:t<8):(F t).1.length<=vZ F:=by unfold vZ;rcases qC6 h with rfl|rfl|rfl|rfl|rfl|rfl|rfl|rfl<;>omega
def Ei:vZ F<=pd F:=by unfold vZ pd;omega
def sW.use(h:sW D M c Q F):∀x,eN M x->x∈(List.range 8).flatMap λu=>(F u).2:=λx E=>by obtain⟨u,G,E⟩:=h.J0.use x E;exact yK.2 ⟨u,mem_range.2 G,E⟩
def sW.Ct(h:sW D M c Q F):3*((List.range 8).flatMap λu=>(F u).2).length<=pd F+24:=by
 have G:∀u:Nat,u<8->3+1<=2*((eG (kv u).1 (kv u).2).1 / 2)/\3+1<=1*((eG (kv u).1 (kv u).2).2 / 2)->3*(F u).2.length<=2*(F u).1.length+3:=λu J E=>(h.J0.J2 u J).t5 E.1 E.2;have I:∀u:Nat,u<8->3+3<=1*((eG (kv u).1 (kv u).2).1 / 2)/\3+3<=3*((eG (kv u).1 (kv u).2).2 / 2)->3*(F u).2.length<=1*(F u).1.length+3:=λu J E=>(h.J0.J2 u J).t5 E.1 E.2;have e:(List.range 8)=[0,1,2,3,4,5,6,7]:=oO;rw[e];simp only[yH,flatMap_nil,zF,xJ];unfold pd;have:=G 0 oO oO;have:=G 1 oO oO;have:=I 2 oO oO;have:=I 3 oO oO;have:=I 4 oO oO;have:=I 5 oO oO;have:=G 6 oO oO;have:=G 7 oO oO;omega
def sW.room(h:sW D M c Q F)(E:t<8)(O:pd F+135<=3*c)(G:c<=100000):2*(eS M t).2.2.toNat+1<=M.Q1.length:=by have I:=h.J1.Q9.length_eq;rw[zF] at I;have U:=h.many;have V:=List.Nodup.length_le_of_subset h.J1.wf.cC λx J=>h.use x (.inl J);have h3:=h.Ct;have h4:=(h.J0.J2 t E).cU (qCS ⟨oL,oL⟩ (BC E).1);have h5:=EP (F:=F) E;have h6:=Ei (F:=F);have h7:=(h.J0.J2 t E).high oL;omega
def sW.next{L':iF}(h:sW D M c Q F)(G:t<8)(I:gK D M' (kv t).1 (kv t).2 t L' P')(E:qu D M M' t (F t).2 P'):sW D M' c Q (rL F t (L',P')):=
 ⟨h.J0.next h.J1.Q3 G I E,h.J1.next E,by have:M'.Q9=M.Q9:=E.step.Q9;rw[this];exact h.many⟩
def qu.base{t:Int}(h:qu D M M' t P P')(E:M.Q3=false):oe M'=oe M:=by have G:=h.step.Q3;have I:=h.step.j9;have J:=h.step.Q5;have O:=h.step.Q9;have U:=h.step.x6;cases M;cases M';unfold oe;simp_all
def sW.put(h:sW D M c Q F)(E:t<8)(J:pd F+135<=3*c)(G:c<=100000)(O:key.length=(kv t).1/\fj key)(U:val.length=(kv t).2/\fj val): ∃M' P',lF D (kv t).1 (kv t).2 t key val (eS M t).2.2.toNat M=(0,M')/\sW D M' c Q (rL F t (gF key val (F t).1,P'))/\oe M'=oe M:=by
 have:=EP (F:=F) E;have:=Ei (F:=F);obtain⟨M',P',e,V,I,_⟩:=qz8 (BC E).2.1 ⟨oL,oL⟩ O U (h.J0.J2 t E) h.J1.wf h.J1.Q3 h.J1.len (h.J0.nodup t E) oL (h.room E J G);exact⟨M',P',e,h.next E V I,I.base h.J1.Q3⟩
def sW.cut(h:sW D M c Q F)(E:t<8)(J:pd F+135<=3*c)(G:c<=100000)(O:key∈eE (F t).1): ∃M' P',mO D (kv t).1 (kv t).2 t key (eS M t).2.2.toNat M=(0,M')/\sW D M' c Q (rL F t (iG key (F t).1,P'))/\oe M'=oe M:=by
 have:=EP (F:=F) E;have:=Ei (F:=F);obtain⟨M',P',e,U,I,_⟩:=qAK (BC E).2.1 ⟨oL,oL⟩ (h.J0.J2 t E) O h.J1.wf h.J1.Q3 h.J1.len (h.J0.nodup t E) oL (h.room E J G);exact⟨M',P',e,h.next E U I,I.base h.J1.Q3⟩
def sW.made{n:Nat}(E:8<=n)(G:n<=4096)(I:(ng n).Wf)(V:Made D n):sW D (ng n) ((n-2)-gM (n-2)) (n,1) (λ_=>([],[])):=by have J:∀t:Nat,t<8->CV D _ (kv t).1 (kv t).2 _ t [] []:=λt O=>qsP ⟨oL,oL⟩ E G I;have U:=J 0 oO;have hG:EZ D _ (kv 0).1 (kv 0).2 n 1 0 [] []:=qzS ⟨oO,oO⟩ E G I V;exact⟨⟨λt O=>(J t O).J2,λ_ _=>.nil,λ_ _ _ _ _ _ h=>(nomatch h),λx h=>nomatch U.use x h⟩,hG.J1,Nat.le_of_eq U.many.symm⟩
variable {F:Mk} {sb:Nat} {Fo:ml} {K:Int->WP}
def TW.up{E:Nat}(h:TW dbk pb FD D j w Y F M)(G:j<=E):TW dbk pb FD D E w Y F M:=⟨h.cR,h.lim.mono G,h.x8,h.hv,h.wf,h.sep⟩
abbrev STT:Mf:=83
abbrev pP (r:Nat):Me:=dM r
structure ti (w:Md) (Y:Mk) (sb dbk pb:Nat) (FD F:Mk) (D:dQ) (M:eU) (c:Nat) (Q:Mu) (Fo:ml):Prop where
 tw:TW dbk pb FD D (5000*Q.2) w Y F M
 st:sW D M c Q Fo
 cell:w.heap[sb]?=some (.c #[pP pb] STT)
 out:sb∉F
def ti.q9(h:ti w Y sb dbk pb FD F D M c Q Fo)(f:Fr [] w w'):ti w' Y sb dbk pb FD F D M c Q Fo:=⟨h.tw.q9 f,h.st,by rw[f.block sb (gg h.cell) λh=>nomatch h];exact h.cell,h.out⟩
def ti.ut{K:Option Addr->Prop}(h:ti w Y sb dbk pb FD F D M c Q Fo)(E:K (pW pb)):nn (pW sb) λa=>ld .ptr a w K:=fH (iH h.cell _ rfl E)
def ti.x6{Fo':ml}(h:ti w Y sb dbk pb FD F D M c Q Fo)(E:TW dbk pb FD D (5000*Q.2) w' Y F' M')(G:sW D M' c Q Fo')(f:Fr F w w')(n:∀b∈F',b∈F\/w.z<=b):ti w' Y sb dbk pb FD F' D M' c Q Fo':=
 ⟨E,G,by rw[f.block sb (gg h.cell) h.out];exact h.cell,λI=>(n sb I).elim h.out λJ=>by have:=gg h.cell;omega⟩
def ti.put(h:ti w Y sb dbk pb FD F D M c Q Fo)(E:t<8)(U:pd Fo+135<=3*c)(G:c<=100000)(I:key.length=(kv t).1/\fj key)(J:val.length=(kv t).2/\fj val)(rk:eY (Zo FD Y F) w ks key)(rv:eY (Zo FD Y F) w vs val)(kk:∀F' w' M' P',ti w' Y sb dbk pb FD F' D M' c Q (rL Fo t (gF key val (Fo t).1,P'))->oe M'=oe M->Fr F w w'->(∀b∈F',b∈F\/w.z<=b)->K 0 w'): cW 86 [pP pb,.i t,ks.v,vs.v] dj w K:=by
 obtain⟨M',P',e,hS,hB⟩:=h.st.put E U G I J;have hl:=(h.st.J0.J2 t E).low;have:=EP (F:=Fo) E;have:=Ei (F:=Fo);have O:=BC E;refine qDo I.2 J.2 O.1 oL I.1 J.1 h.tw rk rv ⟨hl.2,oL⟩ (h.st.room E U G) (qvY e) λF' w' V f n=>?_;rw[e] at V⊢;exact kk F' w' M' P' (h.x6 V hS f n) hB f n
def ti.cut(h:ti w Y sb dbk pb FD F D M c Q Fo)(G:t<8)(U:pd Fo+135<=3*c)(I:c<=100000)(E:key∈eE (Fo t).1)(rk:eY (Zo FD Y F) w ks key)(kk:∀F' w' M' P',ti w' Y sb dbk pb FD F' D M' c Q (rL Fo t (iG key (Fo t).1,P'))->oe M'=oe M->Fr F w w'->(∀b∈F',b∈F\/w.z<=b)->K 0 w'): cW 203 [pP pb,.i t,ks.v] dj w K:=by
 obtain⟨M',P',e,hS,hB⟩:=h.st.cut G U I E;have J:=h.st.J0.J2 t G;have hl:=J.low;have:=EP (F:=Fo) G;have:=Ei (F:=Fo);have O:=BC G;obtain⟨x,hx,rfl⟩:=mem_map.1 E;obtain⟨q1,q2,q3,q4⟩:=J.sort.2 x hx;obtain⟨y,hy⟩:=qr8 E;have V:=J.get (key:=x.1) h.st.J1.wf h.st.J1.Q3;rw[hy] at V;refine qDf q3 O.2.1 O.1 oL q1 h.tw rk ⟨hl.2,oL⟩ (h.st.room G U I) (by rw[V]) (J.Q6 O.2.1 E h.st.J1.wf h.st.J1.Q3 (h.st.J0.nodup t G) (h.st.room G U I)) λF' w' J f n=>?_;rw[e] at J⊢;exact kk F' w' M' P' (h.x6 J hS f n) hB f n
def ti.get{K:Mr->WP}(h:ti w Y sb dbk pb FD F D M c Q Fo)(J:t<8)(O:key.length=(kv t).1/\fj key)(rk:eY (Zo FD Y F) w ks key)(U:∀s w' z e,(mi key (Fo t).1=some z/\e=0)\/(mi key (Fo t).1=none/\z=[]/\e=5)->eY (Zo FD Y F) w' s z->(e=0->z.length=(kv t).2)->fj z->Fr [] w w'->K (s,e) w'): cW 29 [pP pb,.i t,ks.v] dl w K:=by
 have I:=BC J;have V:=h.st.J0.J2 t J;have hg:=V.get (key:=key) h.st.J1.wf h.st.J1.Q3;refine Li (f:=(eS M t).2.2.toNat) O.2 I.1 oL O.1 h.tw rk ?_ λs w' E f=>?_;rw[hg];cases mi key (Fo t).1 with|none=>exact (by decide:(5:Int)≠-1)|some y=>exact (by decide:(0:Int)≠-1)
 have E:=E _ h.tw.xu;rw[hg] at E⊢;cases G:mi key (Fo t).1 with
 | none=>
  rw[G] at E;exact U s w' [] 5 (.inr ⟨G,rfl,rfl⟩) E (λh=>nomatch h) (λ_ h=>nomatch h) f
 | some y=>
  rw[G] at E;unfold mi at G;obtain⟨z,hz,rfl⟩:=yT.1 G;have hm:=V.sort.2 z (mem_of_find?_eq_some hz);exact U s w' _ 0 (.inl ⟨by unfold mi;rw[hz];rfl,rfl⟩) E (λ_=>hm.2.1) hm.2.2.2 f
abbrev Mv:=e9×Int×e9
abbrev Ln:=e9×HL sR
def A0 (m:Mv):e9×Int:=(m.1,m.2.1)
def It (x:Ln):e9×Int:=(x.1,vH (rZ x.2))
def pR (d:HL kK):Mo:=(d.1,d.2.1)
def xv (d:HL kK):e9:=(d.2.2.1,d.2.2.2)
def kV (k:Kp):e9:=gb k.1
def lU.inj{a b:e9}(E:lU a)(G:lU b)(h:jW a=jW b):a=b:=KQ E.ok G.ok h
abbrev Ag (p:e9×Int):Prop:=lU p.1/\IntKind.u64.has p.2
def Ag.inj{a b:e9×Int}(E:Ag a)(G:Ag b)(h:mR a.1 a.2=mR b.1 b.2):a=b:=by obtain⟨I,J⟩:=qAr E.1.ok G.1.ok (py E.2) (py G.2) h;exact Prod.ext I J
def T64.inj{a b:Mo}(E:lU a)(G:lU b)(h:mL a.1 a.2=mL b.1 b.2):a=b:=KQ E.ok G.ok h
def Lc:qM (HL eH) e9:=⟨fP,jW,sS,dV eH,lU,λa h=>⟨h.1,h.2.1⟩,λ_ _=>lU.inj⟩
def KT:qM Kp e9:=⟨kV,jW,xg,sV,lU,λa h=>⟨h.1.1,h.1.2.1⟩,λ_ _=>lU.inj⟩
def KC:qM (e9×Int) e9:=⟨λx=>x.1,jW,λx=>[x.2],λx=>lU x.1/\IntKind.u8.has x.2,lU,λa h=>h.1,λ_ _=>lU.inj⟩
def E2:qM (HL kK) (Mo):=⟨pR,λp=>mL p.1 p.2,λd=>jW (xv d),dV kK,lU,λa h=>⟨h.1,h.2.1⟩,λ_ _=>T64.inj⟩
def Fi:qM Mv (e9×Int):=⟨A0,λp=>mR p.1 p.2,λm=>jW m.2.2,λm=>Ag (A0 m)/\lU m.2.2,Ag,λa h=>h.1,λ_ _=>Ag.inj⟩
def Ih:qM Ln (e9×Int):=⟨It,λp=>mR p.1 p.2,λx=>wO x.2,λx=>lU x.1/\dV sR x.2,Ag,λa h=>⟨h.1,h.2.2.2.2.2.2.2.2.2.1⟩,λ_ _=>Ag.inj⟩
abbrev Gh:=Nat×dQ×eU
structure Bk where
 acc:List (HL eH)
 gL:List Kp
 lP:List (e9×Int)
 due:List (HL kK)
 oc:List Mv
 nV:List Mv
 oU:List Ln
 last:Option Int
 gn:Nat
 /-- The disk's blocks,the commits; what no operation turns but a commit. -/
 cm:Nat×Nat×Gh
def vh (o:Option Int):iF:=o.toList.map λn=>([1],bw 8 n)
structure Hb (T:Nat->iF) (b:Bk):Prop where
 acc:nH Lc (T 0) b.acc
 gL:nH KT (T 1) b.gL
 lP:nH KC (T 2) b.lP
 due:nH E2 (T 3) b.due
 oc:nH Fi (T 4) b.oc
 nV:nH Fi (T 5) b.nV
 oU:nH Ih (T 6) b.oU
 vF:T 7=vh b.last
def Bk.size (b:Bk):Nat:=b.acc.length+b.gL.length+b.lP.length+b.due.length+b.oc.length+b.nV.length+b.oU.length+b.last.toList.length
def Bk.rm (b:Bk):Nat:=2*(b.acc.length+b.gL.length+b.oU.length+b.last.toList.length)+b.lP.length+b.due.length+b.oc.length+b.nV.length+135
variable {b:Bk} {T:Nat->iF} {d:HL kK}
def Bk.AH:b.size<=b.rm:=by unfold Bk.size Bk.rm;omega
def Bk.fp (b:Bk) (a:HL eH):Bk:={ b with acc:=iT fP a b.acc }
def Bk.mY (b:Bk) (k:Kp):Bk:={ b with gL:=iT kV k b.gL }
def Bk.oZ (b:Bk) (m:Mv):Bk:={ b with oc:=iT A0 m b.oc }
def Bk.pT (b:Bk) (m:Mv):Bk:={ b with nV:=iT A0 m b.nV }
def Bk.fG (b:Bk) (x:e9×Int):Bk:={ b with lP:=iT (λx=>x.1) x b.lP }
def Bk.oz (b:Bk) (x:Ln):Bk:={ b with oU:=iT It x b.oU }
def wJ (a b:HL kK):Bool:=decide (a.1<b.1\/a.1=b.1/\a.2.1<b.2.1)
def pM (d:HL kK):List (HL kK)->List (HL kK)
 | []=>[d]
 | x::r=>if wJ d x then d::x::r else x::pM d r
def lX (d:HL kK) (l:List (HL kK)):List (HL kK):=l.filter λx=>decide (pR x≠pR d)
def Bk.iI (b:Bk) (d:HL kK):Bk:={ b with due:=lX d b.due }
def Bk.ou (b:Bk) (d:HL kK):Bk:={ b with due:=pM d (lX d b.due) }
def dZ (b:Bk) (i:e9):Option (HL eH):=b.acc.find? λx=>decide (fP x=i)
def eM (b:Bk) (i:e9):Option Kp:=b.gL.find? λx=>decide (kV x=i)
def iM (b:Bk) (i:e9):Int:=((b.lP.find? λx=>decide (x.1=i)).map (·.2)).getD 0
def Db (t:HL eu):Mv:=((t.2.2.1,t.2.2.2.1),t.2.2.2.2.2.2.2.2.2.2.2.2.2.2.2,gb t)
def Jg (t:HL eu):Mv:=((t.2.2.2.2.1,t.2.2.2.2.2.1),t.2.2.2.2.2.2.2.2.2.2.2.2.2.2.2,gb t)
def Bk.dS (b:Bk) (k:Kp):Bk:=((b.mY k).oZ (Db k.1)).pT (Jg k.1)
def BA (q:Nat×Nat×Gh):Bk:=⟨[],[],[],[],[],[],[],none,0,q⟩
def Bk.iK (b:Bk) (n:Int):Bk:={ b with last:=some n }
def Et{d:HL kK}:∀ {l:List (HL kK)},(pM d l).Perm (d::l)
 | []=>.refl _
 | x::r=>by unfold pM;split;exact .refl _;exact (Et.cons x).trans (.swap _ _ _)
def nH.perm{α κ:Type}{K:qM α κ}{L:iF}{l l':List α}(h:nH K L l)(p:l.Perm l'):nH K L l':=
 ⟨⟨h.1.sort,(p.map _).nodup_iff.1 h.1.nodup,h.1.perm.trans (p.map _)⟩,λx E=>h.2 x (p.mem_iff.2 E)⟩
def qsC{α κ:Type}[DecidableEq κ]{kf:α->κ}{a:α}:∀ {l:List α},(l.map kf).Nodup->(iT kf a l).Perm (a::l.filter λx=>decide (kf x≠kf a))
 | [],_=>.refl _
 | x::r,h=>by rw[xM,LP] at h;unfold iT;by_cases e:kf x=kf a;rw[iP e,filter_cons,iN (by simp[e]),filter_eq_self.2 λy E=>by have:kf y≠kf a:=λG=>h.1 (by rw[e,<- G];exact zY E);simpa using this];rw[iN e,filter_cons,iP (oS e)];exact ((qsC h.2).cons x).trans (.swap _ _ _)
def nH.nodup{α κ:Type}{K:qM α κ}{L:iF}{l:List α}(h:nH K L l):(l.map K.key).Nodup:=by
 have:=h.1.nodup;rw[show (λa=>K.g _)=K.g∘K.key from rfl,<- map_map] at this;exact this.of_map _ λa b h e=>h (by rw[e])
def pF (T:Nat->iF) (t:Nat) (L:iF):Nat->iF:=λu=>if u=t then L else T u
def Hb.fp(h:Hb T b)(E:dV eH a):Hb (pF T 0 (gF (jW (fP a)) (sS a) (T 0))) (b.fp a):=⟨h.acc.put E,h.gL,h.lP,h.due,h.oc,h.nV,h.oU,h.vF⟩
def Hb.mY(h:Hb T b){a:Kp}(E:sV a):Hb (pF T 1 (gF (jW (kV a)) (xg a) (T 1))) (b.mY a):=⟨h.acc,h.gL.put E,h.lP,h.due,h.oc,h.nV,h.oU,h.vF⟩
def Hb.fG(h:Hb T b){a:e9×Int}(E:lU a.1/\IntKind.u8.has a.2):Hb (pF T 2 (gF (jW a.1) [a.2] (T 2))) (b.fG a):=⟨h.acc,h.gL,h.lP.put E,h.due,h.oc,h.nV,h.oU,h.vF⟩
def Hb.oZ(h:Hb T b){a:Mv}(E:Ag (A0 a)/\lU a.2.2):Hb (pF T 4 (gF (mR a.1 a.2.1) (jW a.2.2) (T 4))) (b.oZ a):=⟨h.acc,h.gL,h.lP,h.due,h.oc.put E,h.nV,h.oU,h.vF⟩
def Hb.pT(h:Hb T b){a:Mv}(E:Ag (A0 a)/\lU a.2.2):Hb (pF T 5 (gF (mR a.1 a.2.1) (jW a.2.2) (T 5))) (b.pT a):=⟨h.acc,h.gL,h.lP,h.due,h.oc,h.nV.put E,h.oU,h.vF⟩
def Hb.oz(h:Hb T b){a:Ln}(E:lU a.1/\dV sR a.2):Hb (pF T 6 (gF (mR a.1 (vH (rZ a.2))) (wO a.2) (T 6))) (b.oz a):=⟨h.acc,h.gL,h.lP,h.due,h.oc,h.nV,nH.put h.oU E,h.vF⟩
def Hb.iI(h:Hb T b)(E:dV kK d):Hb (pF T 3 (iG (mL d.1 d.2.1) (T 3))) (b.iI d):=⟨h.acc,h.gL,h.lP,nH.cut (k:=pR d) h.due ⟨E.1,E.2.1⟩,h.oc,h.nV,h.oU,h.vF⟩
def Hb.ou(h:Hb T b)(E:dV kK d):Hb (pF T 3 (gF (mL d.1 d.2.1) (jW (xv d)) (T 3))) (b.ou d):=⟨h.acc,h.gL,h.lP,(nH.put h.due E).perm ((qsC h.due.nodup).trans Et.symm),h.oc,h.nV,h.oU,h.vF⟩
def Hb.iK(h:Hb T b):Hb (pF T 7 (gF [1] (bw 8 n) (T 7))) (b.iK n):=⟨h.acc,h.gL,h.lP,h.due,h.oc,h.nV,h.oU,by
 show gF [1] _ _=vh (some n);rw[h.vF];cases b.last with|none=>rfl|some x=>simp[vh,gF,cmpL]⟩
def Hb.ED(h:Hb T b):2*((T 0).length+(T 1).length+(T 6).length+(T 7).length)+(T 2).length+(T 3).length+(T 4).length+(T 5).length+135=b.rm:=by rw[h.acc.len,h.gL.len,h.lP.len,h.due.len,h.oc.len,h.nV.len,h.oU.len,h.vF,vh,zK];rfl
def qzV(q:Nat×Nat×Gh):Hb (λ_=>[]) ⟨[],[],[],[],[],[],[],none,0,q⟩:=⟨.nil,.nil,.nil,.nil,.nil,.nil,.nil,rfl⟩
def Bk.pA:(b.fp a).rm<=b.rm+2:=by
 have:=vI (kf:=fP) (a:=a) (l:=b.acc);unfold Bk.fp Bk.rm;dsimp only;omega
def Bk.tq{a:Kp}:(b.mY a).rm<=b.rm+2:=by
 have:=vI (kf:=kV) (a:=a) (l:=b.gL);unfold Bk.mY Bk.rm;dsimp only;omega
def Bk.tt{a:Mv}:(b.oZ a).rm<=b.rm+1:=by
 have:=vI (kf:=A0) (a:=a) (l:=b.oc);unfold Bk.oZ Bk.rm;dsimp only;omega
def Bk.wQ{a:Mv}:(b.pT a).rm<=b.rm+1:=by
 have:=vI (kf:=A0) (a:=a) (l:=b.nV);unfold Bk.pT Bk.rm;dsimp only;omega
def Bk.nt{x:e9×Int}:(b.fG x).rm<=b.rm+1:=by
 have:=vI (kf:=λx:e9×Int=>x.1) (a:=x) (l:=b.lP);unfold Bk.fG Bk.rm;dsimp only;omega
def Bk.wS{x:Ln}:(b.oz x).rm<=b.rm+2:=by
 have:=vI (kf:=It) (a:=x) (l:=b.oU);unfold Bk.oz Bk.rm;dsimp only;omega
def Bk.wY:(b.iI d).rm<=b.rm:=by have:(lX d b.due).length<=b.due.length:=length_filter_le _ _;unfold Bk.iI Bk.rm;dsimp only;omega
def Bk.wP:(b.ou d).rm<=b.rm+1:=by have h:(lX d b.due).length<=b.due.length:=length_filter_le _ _;have E:(pM d (lX d b.due)).length=(lX d b.due).length+1:=(by rw[Et.length_eq,yI]);unfold Bk.ou Bk.rm;dsimp only;omega
def Bk.o7{k:Kp}:(b.dS k).rm<=b.rm+4:=by have h:=Bk.tq (b:=b) (a:=k);have E:=Bk.tt (b:=b.mY k) (a:=Db k.1);have G:=Bk.wQ (b:=(b.mY k).oZ (Db k.1)) (a:=Jg k.1);unfold Bk.dS;omega
structure lL (F:Mk) (w:Md) (F':Mk) (w':Md):Prop where
 fr:Fr F w w'
 new:∀ x∈F',x∈F\/w.z<=x
def lL.refl(F:Mk)(w:Md):lL F w F w:=⟨.refl _ _,λ_ h=>.inl h⟩
def lL.trans{F2:Mk}(h:lL F w F' w')(k:lL F' w' F2 w2):lL F w F2 w2:=⟨h.fr.j8 k.fr h.new,λx E=>(k.new x E).elim (h.new x) λG=>.inr (zL h.fr.size G)⟩
def lL.pre(f:Fr [] w w')(k:lL F w' F' w2):lL F w F' w2:=⟨(f.mono λ_ h _=>nomatch h).trans k.fr,λx E=>(k.new x E).imp id λh=>zL f.size h⟩
def lL.post(h:lL F w F' w')(f:Fr [] w' w2):lL F w F' w2:=⟨h.fr.trans (f.mono λ_ h _=>nomatch h),h.new⟩
def lL.Q3(h:lL F w F' w'):lL (B++F) w (B++F') w':=⟨h.fr.mono λ_ h _=>zI _ h,λx G=>(zD.1 G).elim (λE=>.inl (zH _ E)) λE=>(h.new x E).imp (zI _) id⟩
def uJ (w:Md) (Y:Mk) (sb pb:Nat) (F:Mk) (c:Nat) (b:Bk):Prop:=∃dbk FD h D M Fo,F=FD++h/\ti w Y sb dbk pb FD h D M c (b.cm.1,b.cm.2.1) Fo/\HG∉FD/\sb∉FD/\Hb (λt=>(Fo t).1) b/\c<=100000/\b.cm.2.1<=150/\b.cm.2.2=(pb,D,oe M)
def SB (w:Md) (Y:Mk) (sb:Nat) (F:Mk) (c:Nat) (b:Bk):Prop:=∃pb,uJ w Y sb pb F c b
def SB.q9(h:SB w Y sb F c b)(f:Fr [] w w'):SB w' Y sb F c b:=by obtain⟨pb,dbk,FD,I,D,M,Fo,rfl,J,E,G,O,U,V⟩:=h;exact⟨pb,dbk,FD,I,D,M,Fo,rfl,J.q9 f,E,G,O,U,V⟩
def SB.y4{Y':Mk}(h:SB w Y sb F c b)(J:∀b∈Y',b∈Y):SB w Y' sb F c b:=by obtain⟨pb,dbk,FD,O,D,M,Fo,rfl,E,G,I,U,V,hj⟩:=h;exact⟨pb,dbk,FD,O,D,M,Fo,rfl,⟨E.tw.y4 J,E.st,E.cell,E.out⟩,G,I,U,V,hj⟩
def SB.yf(h:SB w Y sb F c b):∀b∈Y,b∉F:=by obtain⟨pb,dbk,FD,U,D,M,Fo,rfl,E,I,J,V,hc,hj⟩:=h;exact λb G O=>(zD.1 O).elim (λh=>(E.tw.sep b G).1 h) (E.tw.yf b G)
def SB.J0(h:SB wa Y sb F c b)(o:dY [] wa w L):SB w (fU L++Y) sb F c b:=by obtain⟨pb,dbk,FD,J,D,M,Fo,rfl,E,G,I,O,U,V⟩:=h;exact⟨pb,dbk,FD,J,D,M,Fo,rfl,⟨E.tw.cG o,E.st,o.jT E.cell (λh=>nomatch h),E.out⟩,G,I,O,U,V⟩
def SB.KU(h:SB wa (fU L++Y) sb F c b)(J:sb∉fU L)(o:dY (fU L) wa w L'):SB w (fU L'++Y) sb F c b:=by obtain⟨pb,dbk,FD,O,D,M,Fo,rfl,E,G,I,U,V,hj⟩:=h;exact⟨pb,dbk,FD,O,D,M,Fo,rfl,⟨E.tw.J0 o,E.st,o.jT E.cell J,E.out⟩,G,I,U,V,hj⟩
variable {T:Mk} {b':Bk} {g:Key}
def SB.own(h:SB w (fU L++Y) sb F c b)(o:dY T wa w L)(s:lL F w F' w'):dY (fU L) w' w' L:=uy o s.fr λb E=>h.yf b (zH _ E)
def SB.lt(h:SB w Y sb F c b):sb<w.z:=by obtain⟨pb,dbk,FD,J,D,M,Fo,rfl,E,G,I,O,U,V⟩:=h;exact gg E.cell
def uJ.ut{K:Addr->Option Addr->Prop}(h:uJ w1 Y sb pb F c b)(f:Fr [] w1 w)(E:K (dh sb) (pW pb)):nn (pW sb) λa=>ld .ptr a w (K a):=by
 obtain⟨dbk,FD,O,D,M,Fo,rfl,G,I,J,U,V,hj⟩:=h;have:=(G.q9 f).cell;exact fH (iH this _ rfl E)
def uJ.held(h:uJ w1 Y sb pb F c b)(f:Fr [] w1 w):w.cell? (dh sb)=some (dM pb):=by obtain⟨dbk,FD,J,D,M,Fo,rfl,E,G,I,O,U,V⟩:=h;rw[jI (E.q9 f).cell];rfl
def uJ.put{v:Key}(h:uJ w1 Y sb pb F c b)(f:Fr [] w1 w)(hr:b.rm<=3*c)(ht:t<8)(hk:g.length=(kv t).1/\fj g)(hv:v.length=(kv t).2/\fj v)(rk:mK w1 w ks g)(rv:mK w1 w vs v)(G:∀T,Hb T b->Hb (pF T t (gF g v (T t))) b')(kk:∀F' w',uJ w' Y sb pb F' c b'->lL F w1 F' w'->K 0 w')(E:b'.cm=b.cm:=by rfl):cW 86 [dM pb,.i t,ks.v,vs.v] dj w K:=by
 obtain⟨dbk,FD,Fp,D,M,Fo,rfl,I,J,O,V,hc,hj⟩:=h;have h1:=I.q9 f;refine h1.put ht (by have:=V.ED;unfold pd;omega) hc hk hv (rk.to I.tw.xu) (rv.to I.tw.xu) λF' w' M' P' U hB f2 n=>kk _ w' ⟨dbk,FD,F',D,M',_,rfl,by rw[E];exact U,J,O,?_,hc,by rw[E,hB];exact hj⟩ (.pre f (lL.Q3 ⟨f2,n⟩));have e:(λu=>(rL Fo t (gF g v (Fo t).1,P') u).1)=pF (λu=>(Fo u).1) t (gF g v (Fo t).1):=by funext u;unfold rL pF;split<;>rfl
 rw[e];exact G _ V
def uJ.get{α κ:Type}[DecidableEq κ]{T:qM α κ}{l:List α}{k:κ}{K:Mr->WP}(h:uJ w1 Y sb pb F c b)(U:Fr [] w1 w)(V:t<8)(hk:g.length=(kv t).1/\fj g)(rk:mK w1 w ks g)(hT:∀P,Hb P b->nH T (P t) l)(hg:g=T.g k)(J:T.BM k)(k0:∀s w',(l.find? λx=>decide (T.key x=k))=none->Fr [] w w'->K (s,5) w')(k1:∀s w' x,(l.find? λx=>decide (T.key x=k))=some x->T.ok x->T.key x=k->eY [] w' s (T.val x)->Fr [] w w'->K (s,0) w'): cW 29 [dM pb,.i t,ks.v] dl w K:=by
 obtain⟨dbk,FD,Fp,D,M,Fo,rfl,O,ae,af,hb,hc,hj⟩:=h;subst hg;have h1:=O.q9 U;refine h1.get V hk (rk.to O.tw.xu) λs w' z e I hz _ _ f=>?_;have q:=hT _ hb;have E:=q.find J;rcases I with ⟨I,rfl⟩|⟨I,rfl,rfl⟩;rw[I] at E;cases G:l.find? λx=>decide (T.key x=k) with
 | none=>rw[G] at E;cases E
 | some x=>
  rw[G] at E;cases E
  have:=q.ok G;exact k1 s w' x G this.1 this.2 (hz.j6 λ_ h=>nomatch h) f
 rw[I] at E;cases G:l.find? λx=>decide (T.key x=k) with
 | none=>exact k0 s w' G f
 | some x=>rw[G] at E;cases E
def SB.put{v:Key}(h:SB w1 Y sb F c b)(f:Fr [] w1 w)(I:b.rm<=3*c)(J:t<8)(O:g.length=(kv t).1/\fj g)(U:v.length=(kv t).2/\fj v)(V:mK w1 w ks g)(rv:mK w1 w vs v)(E:∀T,Hb T b->Hb (pF T t (gF g v (T t))) b')(kk:∀F' w',SB w' Y sb F' c b'->lL F w1 F' w'->K 0 w')(G:b'.cm=b.cm:=by rfl):nn (pW sb) λa=>ld .ptr a w λp=>cW 86 [.p p,.i t,ks.v,vs.v] dj w K:=
 h.elim λpb h=>h.ut f (h.put f I J O U V rv E (λF' w' h=>kk F' w' ⟨pb,h⟩) G)
def SB.get{α κ:Type}[DecidableEq κ]{T:qM α κ}{l:List α}{k:κ}{K:Mr->WP}(h:SB w1 Y sb F c b)(G:Fr [] w1 w)(I:t<8)(J:g.length=(kv t).1/\fj g)(O:mK w1 w ks g)(U:∀P,Hb P b->nH T (P t) l)(V:g=T.g k)(E:T.BM k)(k0:∀s w',(l.find? λx=>decide (T.key x=k))=none->Fr [] w w'->K (s,5) w')(k1:∀s w' x,(l.find? λx=>decide (T.key x=k))=some x->T.ok x->T.key x=k->eY [] w' s (T.val x)->Fr [] w w'->K (s,0) w'): nn (pW sb) λa=>ld .ptr a w λp=>cW 29 [.p p,.i t,ks.v] dl w K:=
 h.elim λpb h=>h.ut G (h.get G I J O U V E k0 k1)
def iV:HL eH:=(0,0,0,0,0,0,0,0,0,0,0,0,0,0,0)
def tj{a b:Ml}(h:fj a)(E:fj b):fj (a++b):=λx G=>(zD.1 G).elim (h x) (E x)
def qBM(a:HL eH):fj (sS a):=tj (rI _) (tj (rI _) (tj (rI _) (tj (rI _) (tj (sQ _ _) (tj (sQ _ _) (tj (sQ _ _) (tj (sQ _ _) (sQ _ _))))))))
def qCX(a:HL eu):fj (sZ a):=tj (rI _) (tj (rI _) (tj (rI _) (tj (rI _) (tj (sQ _ _) (tj (sQ _ _) (tj (sQ _ _) (tj (sQ _ _) (tj (sQ _ _) (sQ _ _)))))))))
def qDX(k:Kp):fj (xg k):=tj (qCX _) (rI _)
def qCP(h:dV sR r):fj (wO r):=λx E=>by rcases zG.1 E with rfl|E;exact qDb h.2.2.2.2.2.2.2.2.2;exact (tj (rI _) (tj (rI _) (tj (rI _) (rI _)))) x E
def SB.cut(h:SB w1 Y sb F c b)(f:Fr [] w1 w)(hr:b.rm<=3*c)(ht:t<8)(rk:mK w1 w ks g)(G:∀T,Hb T b->g∈eE (T t))(I:∀T,Hb T b->Hb (pF T t (iG g (T t))) b')(kk:∀F' w',SB w' Y sb F' c b'->lL F w1 F' w'->K 0 w')(E:b'.cm=b.cm:=by rfl):nn (pW sb) λa=>ld .ptr a w λp=>cW 203 [.p p,.i t,ks.v] dj w K:=by
 obtain⟨pb,dbk,FD,Fp,D,M,Fo,rfl,hS,J,O,U,hc,hj⟩:=h;have h1:=hS.q9 f;refine h1.ut (h1.cut ht (by have:=U.ED;unfold pd;omega) hc (G _ U) (rk.to hS.tw.xu) λF' w' M' P' V hB f2 n=>kk _ w' ⟨pb,dbk,FD,F',D,M',_,rfl,by rw[E];exact V,J,O,?_,hc,by rw[E,hB];exact hj⟩ (.pre f (lL.Q3 ⟨f2,n⟩)));have e:(λu=>(rL Fo t (iG g (Fo t).1,P') u).1)=pF (λu=>(Fo u).1) t (iG g (Fo t).1):=by funext u;unfold rL pF;split<;>rfl
 rw[e];exact I _ U
def Cu{K:HL eH×Bool->WP}(h:SB w Y sb F c b)(hi:lU (E,G))(kk:∀w',Fr [] w w'->K ((dZ b (E,G)).getD iV,(dZ b (E,G)).isSome) w'): cW 20 [dM sb,df E G] [.agg eH,.one .bool] w K:=by
 refine qhG<|oD (oG [] w) λr1 w1 _ f1 o=>oD o λr3 w2 _ f2 o=>Mj o 1 (E,G) (AO λr4 w3 hk f3=>?_);have J:∀(x:HL eH) (ok:Bool) (V:Md),Fr [] w3 V->(x=(dZ b (E,G)).getD iV/\ok=(dZ b (E,G)).isSome)->Pt.st (dh r3) (HL.mk nA x) V λI=>dP nA (dh r3) I λt=>K (t,ok) I:=λx ok V O e=>by rw[e.1,e.2];exact oI (o.q9 (f3.trans O)) 0 rfl _ (gS rfl) rfl (zM _) λI o _=>oE o 0 rfl _ rfl (kk I o.fr)
 refine qqr<|oD (oG [] w3) λr5 V _ O o2=>SB.get h (o.fr.trans (f3.trans O)) oO ⟨pj _,rI _⟩ ((hk.q9 O).up o.fr.size) (λP q=>q.acc) rfl hi (λs I hn f5=>?_) λs I x hx ac he hv f5=>?_;refine y_ (oD (o2.q9 f5) λr6 w6 _ f6 o3=>Mj o3 0 iV (o3.z' 1 rfl λw7 U f7=>Mj U 1 iV ?_));exact J _ _ w7 U.fr ⟨by rw[show dZ b (E,G)=none from hn];rfl,by rw[show dZ b (E,G)=none from hn];rfl⟩;refine x_ (nM rfl oM (qxv ((hk.rd.q9 O).q9 f5 |>λq=>by rw[<- he] at q;exact q) hv ac λw6 f6=>?_));exact oI ((o2.q9 f5).q9 f6) 0 rfl _ (gS rfl) rfl (zM _) λw7 U f7=>Mj U 0 x<|J _ _ w7 U.fr ⟨by rw[show dZ b (E,G)=some x from hx];rfl,by rw[show dZ b (E,G)=some x from hx];rfl⟩
variable {b:Nat} {t:HL eu}
def qFf{x:Nat}{K:Mo->WP}(G:b<=1)(E:K ((((x+18446744073709551616-y-b)%18446744073709551616:Nat):Int),((if x<y+b then 1 else 0:Nat):Int)) w): ext prog 268 [.w x,.w y,.w b] dy w K:=by
 refine CE (e:=λh=>do
  let (x,y,b) <- Extern.MathBitsCarry.three "Sub64" h;pure (Extern.MathBitsCarry.pair ((x+Extern.MathBitsCarry.m64-y-b)%Extern.MathBitsCarry.m64) (if x<y+b then 1 else 0))) Tryz.func268 (by kernel_rfl) (by kernel_rfl) (by kernel_rfl) (by kernel_rfl) _ w ?_ E
 have:b=0\/b=1:=(by omega);rcases this with rfl|rfl<;>rfl
def Gz{x y b:Int}{K:Mo->WP}(E:lH x)(G:lH y)(J:b=0\/b=1)(I:K ((x-y-b)%18446744073709551616,if x<y+b then 1 else 0) w): ext prog 268 [.w x,.w y,.w b] dy w K:=by obtain⟨x,rfl⟩:=Int.eq_ofNat_of_zero_le E.1;obtain⟨y,rfl⟩:=Int.eq_ofNat_of_zero_le G.1;obtain⟨b,rfl⟩:=Int.eq_ofNat_of_zero_le (show 0<=b by omega);refine qFf oL ?_;rw[show (((x+18446744073709551616-y-b)%18446744073709551616:Nat):Int)=((x:Int)-y-b)%18446744073709551616 by omega,show ((if x<y+b then 1 else 0:Nat):Int)=if (x:Int)<y+b then 1 else 0 by by_cases h:x<y+b;rw[iP h,iP];rfl;rw[iN h,iN];rfl];exact I
def In{h:Int}{y:e9}{K:e9×Bool->WP}(ha:ji (G,h))(hb:ji (I,E))(J:oo (G,h) (I,E)=some y)(kk:∀w',Fr [] w w'->K (y,true) w'): cW 215 [df G h,df I E] [.agg dg,.one .bool] w K:=by
 refine qn6 ?_;obtain⟨O,U⟩:=ha;obtain⟨V,aa⟩:=hb;unfold oo wv za at J;split at J
 ·next hle=>
  cases J;refine oD (oG [] w) λr1 w1 _ f1 o=>oD o λr3 w2 _ f2 o=>oD o λr5 w3 _ f3 o=>Mi o 2 h (Mi o 1 E (Gz U aa (.inl rfl) ?_));refine Mi o 2 G (Mi o 1 I (Gz O V (by dsimp only;split<;>simp) ?_));dsimp only;have hB:(if h<E+0 then (1:Int) else 0)=if h<E then 1 else 0:=by rw[Int.add_zero]
  rw[hB];have ab:¬G<I+(if h<E then (1:Int) else 0):=(by split<;>omega);rw[iN ab];refine x_ (o.z' 0 rfl λw4 o _=>oE o 0 rfl (_,_) rfl ?_);have e:((G-I-if h<E then (1:Int) else 0)%18446744073709551616,(h-E-0)%18446744073709551616)=((G*18446744073709551616+h-(I*18446744073709551616+E)) / 18446744073709551616,(G*18446744073709551616+h-(I*18446744073709551616+E))%18446744073709551616):=by refine Prod.ext ?_ ?_;dsimp only;split<;>omega;dsimp only;omega
  have:=kk w4 o.fr;rwa[<- e] at this
 cases J
abbrev Pa:=HL eH×HL eH×Bool×Bool
def kJ (p:Pa):List Me:=HL.mk eH p.1++HL.mk eH p.2.1++[.bool p.2.2.1,.bool p.2.2.2]
def qn(p:Pa):(kJ p).length=32:=rfl
def ux:Pa:=(iV,iV,false,false)
abbrev qP:Mf:=209
def CW:((prog.info? qP).bind (·.zero)).map (λz=>z.cells.toList)=some (kJ ux):=by kernel_rfl
def i6 (a:HL eH):e9:=(a.2.2.1,a.2.2.2.1)
def ja (a:HL eH):e9:=(a.2.2.2.2.2.2.1,a.2.2.2.2.2.2.2.1)
def eJ (a:HL eH):Int:=a.2.2.2.2.2.2.2.2.2.2.2.2.2.1
def pQ (x:e9):HL eH->HL eH:=λ(h,E,G,I,r)=>(h,E,x.1,x.2,r)
def ol (x:e9):HL eH->HL eH:=λ(h,E,G,I,J,O,c0,c1,r)=>(h,E,G,I,J,O,x.1,x.2,r)
def lc (x:Int):HL eH->HL eH:=λ(h,E,G,I,J,O,c0,c1,U,V,t,l,k,f,n)=>(h,E,G,I,J,O,c0,c1,U,V,t,l,k,x,n)
def fM (t:HL eu):e9:=(t.2.2.2.2.2.2.1,t.2.2.2.2.2.2.2.1)
def dT (t:HL eu):Int:=t.2.2.2.2.2.2.2.2.2.2.2.2.2.2.1
def lR (t:HL eu) (p:Pa):Option Pa:=
 (oo (i6 p.1) (fM t)).bind λx=>(oo (ja p.2.1) (fM t)).map λy=>
  (let d:=pQ x p.1;if hasB (dT t) 64 then lc (me (eJ d) 16) d else d,let c:=ol y p.2.1;if hasB (dT t) 128 then lc (me (eJ c) 16) c else c,p.2.2)
def G8{T:Mf}{G:Me}{y a:e9}{K:Bool->WP}(hb:w.heap[b]?=some (.c cs T))(I:∀(w1:Md) (K:Option Addr->WP),(∀w2,Fr [] w1 w2->K (some ⟨b,o+k,none⟩) w2)->dU prog G [.agg #[.pointer (some (dh b o))]] dp w1 K)(J:(cs.toList.drop (o+k)).take 2=gx x)(O:ji x)(ha:ji a)(hs:oo x a=some y)(kk:∀w',w'.heap[b]?=some (.c (d7 cs (o+k) (gx y)) T)->Fr [b] w w'->K true w'): cW 157 [G,.p (some (dh b o)),df a.1 a.2] dk w K:=by
 refine qpf ?_;have U:o+k+2<=cs.size:=by
  have:=Ma List.length J;rw[yL,yC,uV,Mc] at this;omega
 have V:∀ {w1 w2:Md} {r:Nat} {t:e9},dY [b] w w2 [(r,.cells #[.w t.1,.w t.2] nf _),(b,.cells cs T _)]->If K r (y,true) w2 _:=λ{w1 w2 r t} h=>by refine h.z' 0 rfl λw3 h _=>jd (λ_ w'=>w'.heap[b]?=some _/\Fr [b] w w') ?_ λ_ E h=>kk E h.1 h.2;refine y_ (Mj h 0 y (fH (h.st' 1 rfl _ rfl rfl U λE h _=>⟨h.at (i:=1) rfl,h.fr⟩)))
 refine oD (CY hb) λr1 w1 _ f1 h=>I w1 _ λw2 f2=>?_;have h:=(h.q9 f2).drew;refine⟨fH (oE h 1 rfl x J (Mj h 0 a (In O ha hs λw3 f3=>?_))),fH (oE h 1 rfl x J (Mj h 0 a ?_))⟩;refine oD (h.q9 f3) λr4 E _ f4 h=>jU (h.cells 1) (h.cells 2 rfl J) (V (w1:=E) (t:=(0,0)) ?_);exact h.sub (.cons_cons _ (.cons _ (.refl _)));refine oD h λr4 E _ f4 h=>jU (h.cells 1) (h.cells 2 rfl J) (In O ha hs λw5 f5=>V (w1:=E) (t:=(0,0)) ?_);exact (h.q9 f5).sub (.cons_cons _ (.cons _ (.refl _)))
def JI(w1:Md)(K:Option Addr->WP)(h:∀w2,Fr [] w1 w2->K (some (dh b 2)) w2):dU prog (.func (.func 216) #[] #[]) [.agg #[dM b]] dp w1 K:=by refine nM rfl oM (qbZ ?_);exact oD (oG [] w1) λr w2 _ E o=>oB o 0 rfl _ rfl (fH (h w2 E))
def IK(w1:Md)(K:Option Addr->WP)(h:∀w2,Fr [] w1 w2->K (some (dh b 21)) w2):dU prog (.func (.func 219) #[] #[]) [.agg #[.pointer (some (dh b 15))]] dp w1 K:=by refine nM rfl oM (qbP ?_);exact oD (oG [] w1) λr w2 _ E o=>oB o 0 rfl _ rfl (fH (h w2 E))
def qzx{K:Me×Me×Me->WP}(h:∀x y w',Fr [] w w'->K (.func (.func 216) #[] #[],x,y) w'):cW 158 [] [.agg [.any,.any,.any]] w K:=by exact qfa<|oD (oG [] w) λr w1 _ E o=>o.z' 0 rfl λw2 o _=>oE o 0 rfl (_,_,_) rfl (h _ _ w2 o.fr)
def qxU{K:Me×Me×Me->WP}(h:∀x y w',Fr [] w w'->K (.func (.func 219) #[] #[],x,y) w'):cW 159 [] [.agg [.any,.any,.any]] w K:=by exact qeI<|oD (oG [] w) λr w1 _ E o=>o.z' 0 rfl λw2 o _=>oE o 0 rfl (_,_,_) rfl (h _ _ w2 o.fr)
def Au(h:dV eH a):ji (i6 a):=⟨py h.2.2.1,py h.2.2.2.1⟩
def AS(h:dV eH a):ji (ja a):=⟨py h.2.2.2.2.2.2.1,py h.2.2.2.2.2.2.2.1⟩
def sC(h:dV eH a):0<=eJ a/\eJ a<65536:=yb h.2.2.2.2.2.2.2.2.2.2.2.2.2.1
def u5(h:dV eu t):ji (fM t):=⟨py h.2.2.2.2.2.2.1,py h.2.2.2.2.2.2.2.1⟩
def vS(h:dV eu t):0<=dT t/\dT t<65536:=yb h.2.2.2.2.2.2.2.2.2.2.2.2.2.2.1
variable {p:Pa} {b:Bk} {s:Int}
def G4{q:Pa}{am:e9}{K:List Me×Bool->WP}(J:dV eu t)(hp:dV eH p.1)(G:dV eH p.2.1)(I:lR t p=some q)(E:∀w',Fr [] w w'->K (kJ q,true) w'): cW 107 [LI eu t,df am.1 am.2,.bool false,.agg (kJ p).toArray] dt w K:=by
 refine qe9 ?_;unfold lR at I;obtain⟨x,hx,I⟩:=Option.bind_eq_some_iff.1 I;obtain⟨y,hy,rfl⟩:=yT.1 I;have hz:=CW;refine oD (oG [] w) λr1 w1 _ f1 o=>oD o λr3 w2 _ f2 o=>oD o λO w3 _ f3 o=>oK o hz λU w4 _ o=>jd (λbo w'=>bo=false/\dY [] w w' [(U,.c (kJ ux).toArray qP),(O,.c (kJ (pQ x p.1,ol y p.2.1,p.2.2)).toArray qP),(r3,.c #[.w am.1,.w am.2] nf),(r1,LH eu t 43)]) ?_ ?_;have o:=o.drew;refine Mj o 3 (fM t) (qzx λ_ _ w5 f5=>?_);have o:=o.q9 f5;refine gY (o.cells 3) (G8 (k:=2) (o.at (i:=1) rfl) (λw1 K E=>JI w1 K E) rfl (Au hp) (u5 J) hx λV aa f6=>?_);have o:=xi o 1 rfl f6 aa;refine x_ (Mj o 3 (fM t) (qxU λ_ _ w7 f7=>?_));have o:=o.q9 f7;refine gY (o.cells 3) (G8 (k:=6) (o.at (i:=1) rfl) (λw1 K E=>IK w1 K E) rfl (AS G) (u5 J) hy λw8 ab f8=>?_);exact⟨rfl,xi o 1 rfl f8 ab⟩;rintro bo w5 ⟨rfl,o⟩;refine x_ (x_ ?_);have hF:=vS J;have e1:bits .and .u16 (dT t) 64=if hasB (dT t) 64 then 64 else 0:=qL 6 hF oO
 have e2:bits .and .u16 (dT t) 128=if hasB (dT t) 128 then 128 else 0:=qL 7 hF oO
 refine jd (λ_ w'=>dY [] w w' [(U,.c (kJ ux).toArray qP),(O,.c (kJ ((let d:=pQ x p.1;if hasB (dT t) 64 then lc (me (eJ d) 16) d else d),ol y p.2.1,p.2.2)).toArray qP),(r3,.c #[.w am.1,.w am.2] nf),(r1,LH eu t 43)]) ?_ λ_ V o=>?_;refine Mi o 3 (dT t) ?_;rw[e1];by_cases h:hasB (dT t) 64;rw[iP h];refine y_ (Mi o 1 (eJ p.1) ?_);rw[show bits .andNot .u16 (eJ p.1) 16=me (eJ p.1) 16 from HW 4 (sC hp) oO];refine o.st' 1 rfl (kJ (lc (me (eJ p.1) 16) (pQ x p.1),ol y p.2.1,p.2.2)).toArray rfl rfl (zO rfl) λV o _=>?_;rw[iP h];exact o;rw[iN h];refine x_ ?_;rw[iN h];exact o;generalize hd:(let d:=pQ x p.1;if hasB (dT t) 64 then lc (me (eJ d) 16) d else d)=d at o E;refine jd (λ_ w'=>dY [] w w' [(U,.c (kJ ux).toArray qP),(O,.c (kJ (d,(let c:=ol y p.2.1;if hasB (dT t) 128 then lc (me (eJ c) 16) c else c),p.2.2)).toArray qP),(r3,.c #[.w am.1,.w am.2] nf),(r1,LH eu t 43)]) ?_ λ_ w7 o=>?_;refine Mi o 3 (dT t) ?_;rw[e2];by_cases h:hasB (dT t) 128;rw[iP h];refine y_ (Mi o 1 (eJ p.2.1) ?_);rw[show bits .andNot .u16 (eJ p.2.1) 16=me (eJ p.2.1) 16 from HW 4 (sC G) oO];refine o.st' 1 rfl (kJ (d,lc (me (eJ p.2.1) 16) (ol y p.2.1),p.2.2)).toArray rfl rfl (zO rfl) λV o _=>?_;rw[iP h];exact o;rw[iN h];refine x_ ?_;rw[iN h];exact o;refine lW (o.at (i:=1) rfl) _ (qn _) rfl (nc (qn _) (o.z' 0 rfl λw8 o _=>lW (o.at (i:=0) rfl) _ (qn _) rfl ?_));exact E w8 o.fr
def JD(h:SB w Y sb F c b)(G:b.rm<=3*c)(I:dV eH a)(J:∀F' w',SB w' Y sb F' c (b.fp a)->lL F w F' w'->K 0 w'): cW 65 [dM sb,LI eH a] dj w K:=by refine qfB<|oD (oG [] w) λr1 w1 _ E o=>Mj o 0 a (qxs λs t w2 O U V=>?_);exact SB.put h (E.trans V) G oO ⟨pj _,rI _⟩ ⟨KI _,qBM _⟩ (O.up E.size) (U.up E.size) (λT q=>q.fp I) J
def Dj{K:List Me×Bool->WP}(h:SB w Y sb F c b)(hi:lU (E,G))(kk:∀w',Fr [] w w'->K (mV ((eM b (E,G)).getD nE),(eM b (E,G)).isSome) w'): cW 19 [dM sb,df E G] dt w K:=by
 refine qgv<|oD (oG [] w) λr1 w1 _ f1 o=>oK o yk λr3 w2 _ o=>Mj o 1 (E,G) (AO λr4 w3 hk f3=>?_);have hz:=yk;have J:∀(x:Kp) (ok:Bool) (V:Md),Fr [] w3 V->(x=(eM b (E,G)).getD nE/\ok=(eM b (E,G)).isSome)->gV ((mV x).length=18) (Pt.st (dh r3) (mV x) V λI=>iA 18 (dh r3) I λt=>K (t,ok) I):=λx ok V f4 e=>by rw[e.1,e.2];refine nc (sE _) (oI (o.q9 (f3.trans f4)) 0 rfl _ (gS rfl) rfl (zM _) λI o _=>?_);exact lW (o.at (i:=0) rfl) _ (sE _) rfl (kk I o.fr)
 refine qqs<|oK (oG [] w3) hz λr5 V _ O=>SB.get h (o.fr.trans (f3.trans O.fr)) oO ⟨pj _,rI _⟩ ((hk.q9 O.fr).up o.fr.size) (λP q=>q.gL) rfl hi (λs I hn f5=>?_) λs I x hx ac he hv f5=>?_;refine y_ (oK (O.q9 f5) hz λr6 w6 _ o3=>lW (o3.at (i:=0) rfl) _ (sE nE) rfl (nc rfl (o3.z' 1 rfl λw7 U f7=>lW (U.at (i:=1) rfl) _ (sE nE) rfl ?_)));exact J _ _ w7 U.fr ⟨by rw[show eM b (E,G)=none from hn];rfl,by rw[show eM b (E,G)=none from hn];rfl⟩;refine x_ (nM rfl oM (qxx (by have q:=(hk.rd.q9 O.fr).q9 f5;rw[<- he] at q;exact q) hv ac λw6 f6=>?_));refine nc (sE x) (oI ((O.q9 f5).q9 f6) 0 rfl _ (gS rfl) rfl (zM _) λw7 U f7=>lW (U.at (i:=0) rfl) _ (sE x) rfl ?_);exact J _ _ w7 U.fr ⟨by rw[show eM b (E,G)=some x from hx];rfl,by rw[show eM b (E,G)=some x from hx];rfl⟩
def qww(h:SB w Y sb F c b)(hi:lU (E,G))(U:∀w',Fr [] w w'->K (iM b (E,G)) w'): cW 14 [dM sb,df E G] [.one .b] w K:=by
 refine qiD ?_;obtain⟨pb,h⟩:=h;refine oD (oG [] w) λr1 w1 _ I o=>h.ut I.drew (Mj o.drew 0 (E,G) (AO λr4 w3 V f3=>?_));have f:=I.drew.trans f3;refine gY (h.held f) (h.get f oO ⟨pj _,rI _⟩ (V.up I.drew.size) (λP q=>q.lP) rfl hi (λs J hn O=>y_ ?_) λs J x hx ad he hv O=>x_ (eY.at hv 0 rfl rfl ?_));have:=U J (f.trans O);unfold iM at this;rwa[show (b.lP.find? λx=>decide (x.1=(E,G)))=none from hn] at this;have:=U J (f.trans O);unfold iM at this;rwa[show (b.lP.find? λx=>decide (x.1=(E,G)))=some x from hx] at this
def KD{x:Int}(h:SB w Y sb F c b)(hr:b.rm<=3*c)(hi:lU (E,G))(J:IntKind.u8.has x)(kk:∀F' w',SB w' Y sb F' c (b.fG ((E,G),x))->lL F w F' w'->K 0 w'): cW 112 [dM sb,df E G,.b x] dj w K:=by
 refine qga ?_;obtain⟨pb,h⟩:=h;have hB:fj [x]:=λz hz=>by rw[zE.1 hz];exact qDb J
 have new:∀ {w2 O:Md} {r:Nat},Fr [] w w2->r=w2.z->O.heap[r]?=some (.c (gP [x]) 5)->mK w O ⟨pW r,1,1⟩ [x]:=λf e hb=>FX (by have:=f.size;omega) hb (zM _) (zM _) rfl;refine oD (oG [] w) λr1 w1 _ I o=>⟨h.ut I.drew (Mj o.drew 0 (E,G) (AO λr4 O U V=>gY (h.held (I.drew.trans V)) (oD (o.drew.q9 V) λr5 w4 e5 f4 o=>?_))),h.ut I.drew (Mj o.drew 0 (E,G) (oD o.drew λr5 w4 e5 f4 o=>?_))⟩;refine jU (o.cells 1) (h.held o.fr) (h.put o.fr hr oO ⟨pj _,rI _⟩ ⟨rfl,hB⟩ ((U.q9 f4).up I.drew.size) (new (I.drew.trans V) e5 (o.at (i:=0) rfl)) (λT q=>q.fG (a:=((E,G),x)) ⟨hi,J⟩) λF' w' h=>kk F' w' ⟨pb,h⟩);refine jU (o.cells 1) (h.held o.fr) (AO λr6 w5 U f5=>gY (h.held (o.fr.trans f5)) ?_);exact h.put (o.fr.trans f5) hr oO ⟨pj _,rI _⟩ ⟨rfl,hB⟩ (U.up o.fr.size) (new I.drew e5 ((o.q9 f5).at (i:=0) rfl)) (λT q=>q.fG (a:=((E,G),x)) ⟨hi,J⟩) λF' w' h=>kk F' w' ⟨pb,h⟩
def qxG{J:Int}(h:SB w Y sb F c b)(U:b.rm<=3*c)(V:dV kK (E,G,I,J))(kk:∀F' w',SB w' Y sb F' c (b.ou (E,G,I,J))->lL F w F' w'->K 0 w'): cW 178 [dM sb,.agg #[.w E,.w G,.w I,.w J]] dj w K:=by refine qiB<|oD (oG [] w) λr1 w1 _ O o=>Mj o 0 (E,G,I,J) (Kj λs t w2 hs ht f2=>?_);exact SB.put h (O.trans f2) U oO ⟨CM _ _,Kl _ _⟩ ⟨pj _,rI _⟩ (hs.up O.size) (ht.up O.size) (λT q=>q.ou V) kk
def qxE{J:Int}(h:SB w Y sb F c b)(V:b.rm<=3*c)(hd:dV kK (E,G,I,J))(O:(E,G,I,J)∈b.due)(kk:∀F' w',SB w' Y sb F' c (b.iI (E,G,I,J))->lL F w F' w'->K 0 w'): cW 144 [dM sb,.agg #[.w E,.w G,.w I,.w J]] dj w K:=by refine qds<|oD (oG [] w) λr1 w1 _ U o=>Mj o 0 (E,G,I,J) (Kj λs t w2 hs ht f2=>?_);exact SB.cut h (U.trans f2) V oO (hs.up U.size) (λT q=>nH.mem (k:=(E,G)) q.due ⟨_,O,rfl⟩) (λT q=>q.iI hd) kk
def qxH(h:SB w Y sb F c b)(J:b.rm<=3*c)(O:lU (E,G))(I:dV sR r)(U:∀F' w',SB w' Y sb F' c (b.oz ((E,G),r))->lL F w F' w'->K 0 w'): cW 165 [dM sb,df E G,LI sR r] dj w K:=by refine qiC<|oD (oG [] w) λr1 w1 _ f1 o=>oD o λr3 w2 _ f2 o=>Mj o 1 (E,G) (Mj o 0 r (qxt λs t w3 V ht f3=>?_));exact SB.put h (o.fr.trans f3) J oO ⟨KW _ _,JJ _ _⟩ ⟨qCQ _,qCP I⟩ (V.up o.fr.size) (ht.up o.fr.size) (λT q=>q.oz (a:=((E,G),r)) ⟨O,I⟩) U
def uJ.J0(h:uJ wa Y sb pb F c b)(o:dY [] wa w L):uJ w (fU L++Y) sb pb F c b:=by obtain⟨dbk,FD,J,D,M,Fo,rfl,E,G,I,O,U,V⟩:=h;exact⟨dbk,FD,J,D,M,Fo,rfl,⟨E.tw.cG o,E.st,o.jT E.cell (λh=>nomatch h),E.out⟩,G,I,O,U,V⟩
def uJ.own(h:uJ w (fU L++Y) sb pb F c b)(o:dY T wa w L)(s:lL F w F' w'):dY (fU L) w' w' L:=uy o s.fr λb E=>SB.yf ⟨pb,h⟩ b (zH _ E)
def SB.count{t:Nat}(h:SB w1 Y sb F c b)(f:Fr [] w1 w)(G:t<8)(I:∀(T:Nat->iF) (x y:Int) w',Hb T b->Fr [] w w'->K (T t).length w'): nn (pW sb) λa=>ld .ptr a w λp=>cW 34 [.p p,.i t] [.agg [.u,.u,.u]] w λq w'=>K q.2.1 w':=by obtain⟨pb,h⟩:=h;refine h.ut f ?_;obtain⟨dbk,FD,Fp,D,M,Fo,rfl,E,J,O,U,hc,hj⟩:=h;refine TW.J5 (E.q9 f).tw λw' V=>?_;have hr:=(qhf (E.st.J0.J2 t G)).2.2.1;rw[hr];exact I _ 0 0 w' U V
def xd (b:Bk):Ml:=[b.acc.length,b.gL.length,b.lP.length,b.due.length,b.oc.length,b.nV.length,b.oU.length,b.last.toList.length]
abbrev c8:List Cell:=[.u,.u,.u,.u,.u,.u,.u,.u]
def rF (b:Bk):HL c8:=(b.acc.length,b.gL.length,b.lP.length,b.due.length,b.oc.length,b.nV.length,b.oU.length,b.last.toList.length)
def Hb.cnt{T:Nat->iF}(h:Hb T b){t:Nat}(E:t<8):(xd b)[t]?=some ((T t).length:Int):=by rcases qC6 E with rfl|rfl|rfl|rfl|rfl|rfl|rfl|rfl;rw[h.acc.len];rfl;rw[h.gL.len];rfl;rw[h.lP.len];rfl;rw[h.due.len];rfl;rw[h.oc.len];rfl;rw[h.nV.len];rfl;rw[h.oU.len];rfl;rw[h.vF,vh,zK];rfl
def qo8{K:HL c8->WP}(h:SB w Y sb F c b)(kk:∀w',Fr [] w w'->K (rF b) w'): cW 18 [dM sb] [.agg c8] w K:=by
 refine qiA<|oD (oG [] w) λr1 w1 _ f1 o=>oD o λr3 w2 _ f2 o=>lD (λq w'=>∃i:Nat,q=i/\i<=8/\dY [] w w' [(r3,.c (((xd b).take i).map (Value.int .u32)++(zs (8-i)).map (Value.int .u32)).toArray 57),(r1,.c ((zs 8).map (Value.int .u32)).toArray 57)]) (λq _=>8-q.toNat) ⟨0,rfl,oO,o⟩ ?_;rintro q w3 ⟨i,rfl,hi,o⟩ X hX;apply cD<;>intro G;have E:i<8:=oL;refine SB.count (K:=λx w'=>gV (0<=(i:Int)/\(i:Int)<((8:Nat):Int)) (Pt.st (Addr.add (dh r3) (Int.toNat i*1)) [.u x] w' λw2=>X (wrap .i64 (i+1)) w2)) h o.fr E λT _ _ U hb f4=>nc ⟨oL,oL⟩ ?_;simp only[Addr.j1];have V:((xd b).take i).length=i:=(by rw[yL];exact xP hi);have hx:=hb.cnt E;obtain⟨I,J⟩:=zP.1 hx;have O:d7 (((xd b).take i).map (Value.int .u32)++(zs (8-i)).map (Value.int .u32)).toArray i [.u ((T i).length:Int)]=(((xd b).take (i+1)).map (Value.int .u32)++(zs (8-(i+1))).map (Value.int .u32)).toArray:=by
  have hz:(zs (8-i)).map (Value.int .u32)=[.u 0]++(zs (8-(i+1))).map (Value.int .u32):=(by rw[show 8-i=(8-(i+1))+1 by omega];rfl);rw[hz,<- zV,yG I,J,xL];have:=wM (A:=((xd b).take i).map (Value.int .u32)) (X:=[.u 0]) (Y:=[.u ((T i).length:Int)]) (Z:=(zs (8-(i+1))).map (Value.int .u32)) rfl;rw[zK,V] at this;exact this
 rw[show 0+Int.toNat (i:Int)*1=i by omega,gJ _ oL];exact oI (o.q9 f4) 0 rfl _ O rfl (by rw[size_toArray,zF,zK,zK,V,rM];show i+1<=_;omega) λw5 o _=>hX _ _ ⟨i+1,rfl,E,o⟩ oL;have E:i=8:=oL;subst E;refine Mj o 0 (rF b) (o.z' 1 rfl λU o _=>?_);exact Mj o 1 (rF b) (kk U o.fr)
def qo9{k:Kp}(h:SB w Y sb F c b)(hr:b.rm+4<=3*c)(G:sV k)(kk:∀F' w',SB w' Y sb F' c (b.dS k)->lL F w F' w'->K 0 w'): cW 109 [dM sb,.agg (mV k).toArray] dj w K:=by refine qe6 ?_;obtain⟨pb,h⟩:=h;refine oD (oG [] w) λr1 w1 _ f1 o=>Mj o 0 k.1 (oD o λr4 w2 _ f2 o=>o.z' 0 rfl λw3 o f3=>?_);refine lW (o.at (i:=1) rfl) (mV k) rfl rfl (qxu λs t w4 hs ht f4=>?_);have U:=o.fr;have h:=h.J0 o;have z1:=Bk.tq (b:=b) (a:=k);have z2:=Bk.tt (b:=b.mY k) (a:=Db k.1);have hi:lU (gb k.1):=⟨G.1.1,G.1.2.1⟩;have hn:=G.1.2.2.2.2.2.2.2.2.2.2.2.2.2.2.2;refine h.ut f4 (h.put f4 oL oO ⟨pj _,rI _⟩ ⟨DO _,qDX _⟩ hs ht (λT q=>q.mY G) λF5 w5 J s5=>x_ ?_);have o5:=h.own o s5;have o:=o5.drew;have g:=(Fr.refl [] w5).drew;have V:lU (k.1.2.2.1,k.1.2.2.2.1):=⟨G.1.2.2.1,G.1.2.2.2.1⟩;have aa:lU (k.1.2.2.2.2.1,k.1.2.2.2.2.2.1):=⟨G.1.2.2.2.2.1,G.1.2.2.2.2.2.1⟩;refine J.ut g (Mj o 0 (k.1.2.2.1,k.1.2.2.2.1) (Mi o 0 k.1.2.2.2.2.2.2.2.2.2.2.2.2.2.2.2 (Mj o 0 (k.1.1,k.1.2.1) (Hy λs6 w6 h6 E=>jU ((o.q9 E).cells 0) (J.held (g.trans E)) (AO λr7 w7 h7 I=>gY (J.held ((g.trans E).trans I)) ?_)))));refine J.put ((g.trans E).trans I) oL oO ⟨KW _ _,JJ _ _⟩ ⟨pj _,rI _⟩ ((h6.q9 I).up (zM _)) (h7.up E.size) (λT q=>q.oZ (a:=Db k.1) ⟨⟨V,hn⟩,hi⟩) λF8 w8 O s8=>x_ ?_;have o:=(J.own o5 s8).drew;have g:=(Fr.refl [] w8).drew;refine O.ut g (Mj o 0 (k.1.2.2.2.2.1,k.1.2.2.2.2.2.1) (Mi o 0 k.1.2.2.2.2.2.2.2.2.2.2.2.2.2.2.2 (Mj o 0 (k.1.1,k.1.2.1) (Hy λs6 w9 h6 E=>jU ((o.q9 E).cells 0) (O.held (g.trans E)) (AO λr7 ax h7 I=>gY (O.held ((g.trans E).trans I)) ?_)))));exact O.put ((g.trans E).trans I) oL oO ⟨KW _ _,JJ _ _⟩ ⟨pj _,rI _⟩ ((h6.q9 I).up (zM _)) (h7.up E.size) (λT q=>q.pT (a:=Jg k.1) ⟨⟨aa,hn⟩,hi⟩) λad ae af ag=>kk ad ae (SB.y4 ⟨pb,af⟩ λ_ h=>zI _ h) (.pre U ((s5.trans s8).trans ag))
def rowOf (a:HL eH) (s n:Int):HL sR:=(a.2.2.1,a.2.2.2.1,a.2.2.2.2.1,a.2.2.2.2.2.1,a.2.2.2.2.2.2.1,a.2.2.2.2.2.2.2.1,a.2.2.2.2.2.2.2.2.1,a.2.2.2.2.2.2.2.2.2.1,n,s)
def qsH(h:dV eH a)(E:IntKind.u8.has s)(G:IntKind.u64.has n):dV sR (rowOf a s n):=⟨h.2.2.1,h.2.2.2.1,h.2.2.2.2.1,h.2.2.2.2.2.1,h.2.2.2.2.2.2.1,h.2.2.2.2.2.2.2.1,h.2.2.2.2.2.2.2.2.1,h.2.2.2.2.2.2.2.2.2.1,G,E⟩
def k7 (b:Bk) (a:HL eH) (s n:Int):Bk:=if hasB (eJ a) 8 then b.oz (fP a,rowOf a s n) else b
def fE (b:Bk) (p:Pa) (n:Int):Bk:=k7 (k7 ((b.fp p.1).fp p.2.1) p.1 1 n) p.2.1 2 n
def mo (b:Bk) (i j:e9):Pa:=((dZ b i).getD iV,(dZ b j).getD iV,(dZ b i).isSome,(dZ b j).isSome)
def KH:(k7 b a s n).rm<=b.rm+2:=by unfold k7;split;exact Bk.wS;omega
def qFb{K:HL sR->WP}(h:∀w',Fr [] w w'->K (rowOf a s n) w'):cW 166 [LI eH a,.b s,.w n] [.agg sR] w K:=by refine qtd<|oD (oG [] w) λr1 w1 _ G o=>oD o λr3 w2 _ I o=>oE o 1 rfl (_,_) rfl (oE o 1 rfl (_,_) rfl (oE o 1 rfl (_,_) rfl (oE o 1 rfl (_,_) rfl ?_)));exact o.z' 0 rfl λE o _=>oE o 0 rfl _ rfl (h E o.fr)
def qtS{r1 V:Nat}{T1 T5:Mf}(h:SB w Y sb F c b)(h1:w.heap[r1]?=some (.c #[dM sb] T1))(h5:w.heap[V]?=some (.c #[.w n] T5))(I:dV eH a)(hs:IntKind.u8.has s)(hn:IntKind.u64.has n)(hr:b.rm<=3*c)(G:∀F' w',SB w' Y sb F' c (k7 b a s n)->lL F w F' w'->K 0 w'):cW 164 [LI eH a,.b s,dM r1,dM V] dj w K:=by
 refine qmL ?_;have e1:bits .and .u16 _ 8=if hasB _ 8 then 8 else 0:=qL 3 (sC I) oO
 refine oD (oG [] w) λr2 w2 _ U o=>Mi o 0 (eJ a) ?_;rw[e1];unfold k7 at G;by_cases hb:hasB (eJ a) 8;rw[iP hb] at G⊢;have f:=U.drew;have E:∀ {r:Nat} {ob:Obj},w.heap[r]?=some ob->∀ {J:Md},Fr [] w J->J.heap[r]?=some ob:=λh J f=>by rw[f.block _ (gg h) λh=>nomatch h];exact h
 refine x_ (iH (E h1 f) _ rfl (Mj o.drew 0 (a.1,a.2.1) (Mj o.drew 0 a (iH (E h5 f) n rfl (qFb λJ O=>jU ((o.drew.q9 O).cells 0) (by unfold dW;rw[jI (E h1 (f.trans O))];rfl) ?_)))));exact qxH (h.q9 (f.trans O)) hr ⟨I.1,I.2.1⟩ (qsH I hs hn) λF' w' h s=>G F' w' h (.pre (f.trans O) s);rw[iN hb] at G⊢;exact y_ (G F w2 (h.q9 U) (.pre U (.refl _ _)))
def Ka(h:SB w Y sb F c b)(V:dV eH p.1)(G:dV eH p.2.1)(hn:IntKind.u64.has n)(hr:b.rm+6<=3*c)(kk:∀F' w',SB w' Y sb F' c (fE b p n)->lL F w F' w'->K 0 w'):cW 116 [dM sb,.agg (kJ p).toArray,.w n] dj w K:=by refine qqV<|oD (oG [] w) λr1 w1 _ f1 o=>oD o λr3 w2 _ f2 o=>oD o λr5 w3 _ f3 o=>oD o λr7 w4 _ f4 o=>o.z' 0 rfl λw5 o _=>oD o λah w6 _ f6 o=>?_;have f:=o.fr;have h:=h.J0 o;have z1:=Bk.pA (b:=b) (a:=p.1);have z2:=Bk.pA (b:=b.fp p.1) (a:=p.2.1);have z3:=KH (b:=(b.fp p.1).fp p.2.1) (a:=p.1) (s:=1) (n:=n);refine vV λX E=>y_ (ur oO oO (oB o 0 rfl _ rfl (nM rfl oM (qmM ?_))));refine Mi o 4 (pW sb) (Mj o 3 p.1 (JD h oL V λF7 w7 h7 s7=>x_ (E _ _ ?_)));have o:=h.own o s7;refine vV λX E=>LJ (by rw[gJ _ oO];rfl) ?_;rw[gJ _ oO];refine ur oO oO (oB o 0 rfl _ rfl (nM rfl oM (qmN ?_)));refine Mi o 4 (pW sb) (Mj o 3 p.2.1 (JD h7 oL G λF8 w8 h8 s8=>x_ (E _ _ ?_)));have o:=h7.own o s8;refine vV λX E=>LJ (by rw[gJ _ oO];rfl) ?_;rw[gJ _ oO];refine ur oO oO (oB o 0 rfl _ rfl (nM rfl oM (qmO ?_)));refine oB o 1 rfl _ rfl (Mj o 3 p.1 (nM rfl oM (qtS h8 (o.at (i:=4) rfl) (o.at (i:=2) rfl) V (show (0:Int)<=1/\(1:Int)<=255 from⟨oO,oO⟩) hn oL λF9 w9 h9 s9=>x_ (E _ _ ?_))));have o:=h8.own o s9;refine vV λX E=>LJ (by rw[gJ _ oO];rfl) ?_;rw[gJ _ oO];refine ur oO oO (oB o 0 rfl _ rfl (nM rfl oM (qmP ?_)));refine oB o 1 rfl _ rfl (Mj o 3 p.2.1 (nM rfl oM (qtS h9 (o.at (i:=4) rfl) (o.at (i:=2) rfl) G (show (0:Int)<=2/\(2:Int)<=255 from⟨oO,oO⟩) hn oL λI J O U=>x_ (E _ _ ?_))));exact vV λX E=>LK (by rw[gJ _ oO];rfl)<|kk I J (O.y4 λ_ h=>zI _ h) (.pre f (((s7.trans s8).trans s9).trans U))
def qFC:d7 (kJ p).toArray 0 (HL.mk eH a)=(kJ (a,p.2)).toArray:=by unfold kJ;rw[zV,zV];exact wM (A:=[]) rfl
def qFD:d7 (kJ p).toArray 15 (HL.mk eH a)=(kJ (p.1,a,p.2.2)).toArray:=wM rfl
def Ca{i j:e9}{K:List Me->WP}(h:SB w Y sb F c b)(hi:lU i)(I:lU j)(J:∀w',Fr [] w w'->K (kJ (mo b i j)) w'): cW 105 [dM sb,df i.1 i.2,df j.1 j.2] dz w K:=by refine qmQ ?_;have G:=CW;refine oD (oG [] w) λr1 w1 _ f1 o=>oD o λr3 w2 _ f2 o=>oK o G λr5 w3 _ o=>oK o G λr7 w4 _ o=>Mj o 3 i (Cu (h.q9 o.fr) hi λw5 O=>?_);have o:=o.q9 O;refine o.st' 0 rfl _ qFC rfl (zO rfl) λw6 o _=>o.st' 0 rfl (kJ ((dZ b i).getD iV,iV,(dZ b i).isSome,false)).toArray rfl rfl (zO rfl) λw7 o _=>Mj o 2 j (Cu (h.q9 o.fr) I λw8 U=>?_);have o:=o.q9 U;refine o.st' 0 rfl _ qFD rfl (zO rfl) λw9 o _=>o.st' 0 rfl (kJ (mo b i j)).toArray rfl rfl (zO rfl) λV o _=>lW (o.at (i:=0) rfl) _ (qn _) rfl (nc (qn _) (o.z' 1 rfl λE o _=>lW (o.at (i:=1) rfl) _ (qn _) rfl (J E o.fr)))
variable {t:Int}
def qBo{f2:Nat}(I:fj key)(V:vj t=((k:Int),(v:Int)))(G:k≠0)(J:key.length=k)(hT:TW dbk pb FD D j w0 Y F M)(hk:eY (Zo FD Y F) w0 ks key)(E:(oh D k v key M f2 (eS M t).1).2=5)(kk:∀w',Fr [] w0 w'->K 5 w'): cW 203 [dM pb,.i t,ks.v] dj w0 K:=by refine qnZ ?_;have ae:=hk.1;have h:=oG [] w0;refine oD h λr1 w2 _ _ h=>Mi h 0 ks<|GG V (λh=>absurd h G) (λ_ h=>absurd oL h) λ_ _ w7 f7=>?_;have h:=h.q9 f7;refine oD h λr8 w9 _ _ h=>oF h 0 rfl _ λag h _=>x_<|Mi h 1 ks<|Li I V G J (hT.cG h) (zy hk h) (by rw[E];decide) λs O _ U=>?_;rw[E];exact y_ (kk O (h.fr.trans U))
variable {t:Nat}
def ti.zv(h:ti w Y sb dbk pb FD F D M c Q Fo)(G:t<8)(I:key.length=(kv t).1/\fj key)(O:key∉eE (Fo t).1)(U:eY (Zo FD Y F) w ks key)(V:∀w',Fr [] w w'->K 5 w'):cW 203 [pP pb,.i t,ks.v] dj w K:=by have E:=BC G;have hT:=h.st.J0.J2 t G;have J:=hT.get (key:=key) h.st.J1.wf h.st.J1.Q3;have he:mi key (Fo t).1=none:=Dc λx hx e=>O (by rw[<- e];exact zY hx);rw[he] at J;exact qBo I.2 E.1 oL I.1 h.tw U (by rw[J]) V
def SB.zv(h:SB w1 Y sb F c b)(f:Fr [] w1 w)(I:t<8)(J:g.length=(kv t).1/\fj g)(O:mK w1 w ks g)(U:∀T,Hb T b->g∉eE (T t))(V:∀w',Fr [] w w'->K 5 w'):nn (pW sb) λa=>ld .ptr a w λp=>cW 203 [.p p,.i t,ks.v] dj w K:=by obtain⟨pb,dbk,FD,Fp,D,M,Fo,rfl,E,aa,ab,hb,hc,hj⟩:=h;have G:=E.q9 f;exact G.ut (G.zv I J (U _ hb) (O.to E.tw.xu) V)
def qvG{O U:Int}(h:SB w Y sb F c b)(hr:b.rm<=3*c)(V:dV kK (E,G,O,U))  (k0:(∃x∈b.due,pR x=(E,G))->∀F' w',SB w' Y sb F' c (b.iI (E,G,O,U))->lL F w F' w'->K 0 w')(k5:(∀x∈b.due,pR x≠(E,G))->∀w',Fr [] w w'->K 5 w'): cW 144 [dM sb,.agg #[.w E,.w G,.w O,.w U]] dj w K:=by refine qds<|oD (oG [] w) λr1 w1 _ I o=>Mj o 0 (E,G,O,U) (Kj λs t w2 hs ht f2=>?_);by_cases hin:∃x∈b.due,pR x=(E,G);exact SB.cut h (I.trans f2) hr oO (hs.up I.size) (λT q=>nH.mem (k:=(E,G)) q.due hin) (λT q=>q.iI V) (k0 hin);exact SB.zv h (I.trans f2) oO ⟨CM _ _,Kl _ _⟩ (hs.up I.size) (λT q hm=>by obtain⟨x,J,e⟩:=q.due.1.J6.1 hm;exact hin ⟨x,J,T64.inj (q.due.2 x J |>.1 |>λh=>⟨h,(q.due.2 x J).2.1⟩) ⟨V.1,V.2.1⟩ e⟩) λw' f=>k5 (λx J e=>hin ⟨x,J,e⟩) w' ((I.trans f2).trans f)
variable {b:Nat}
def qsm{n:Nat}{K:MC->WP}(Y:Mk)(G:∀b∈Y,b<w.z)(hY:HG∉Y)(I:Hv w)(J:8<=n)(O:n<=4096)(kk:∀sb pb dbk FD F D w',ti w' Y sb dbk pb FD F D (ng n) ((n-2)-gM (n-2)) (n,1) (λ_=>([],[]))->Made D n->HG∉FD->sb∉FD->Fr [] w w'->(∀b∈sb::(FD++F),w.z<=b)->K (pW sb,pW pb) w'): cW 26 [.i n] dE w K:=by exact qhQ<|qAh Y G hY I J O λdbk pb FD F D w1 E U V n1=>x_<|qvm<|oD (oG [] w1) λr w2 e2 f2 o=>kk r pb dbk FD F D w2 ⟨E.q9 f2,sW.made J O E.wf U,o.at (i:=0) rfl,λh=>by have:=E.x8.lt r h;omega⟩ U (λh=>by have:=n1 HG (zH _ h);have:=I.lt;omega) (λh=>by have:=E.xu r (by simp[h]);omega) (V.trans f2) λb hb=>(zG.1 hb).elim (λe=>by rw[e,e2];exact V.size) (n1 b)
structure jR (T Fa:Mk) (w0 W:Md) (Y:Mk) (L:Mq) (sb:Nat) (F:Mk) (c:Nat) (b:Bk):Prop where
 own:dY (fU L) W W L
 sB:SB W (fU L++Y) sb F c b
 fr:Fr (T++Fa) w0 W
 nL:∀ x∈fU L,x∈T\/w0.z<=x
 nF:∀ x∈F,x∈Fa\/w0.z<=x
 ns:sb∉fU L
variable {b:Bk} {Fa:Mk} {W:Md}
def jR.J0(h:jR T Fa w0 W Y L sb F c b)(o:dY (fU L) W w' L'):jR T Fa w0 w' Y L' sb F c b where
 own:=o.nI
 sB:=h.sB.KU h.ns o
 fr:=h.fr.j8 o.fr λx E=>(h.nL x E).imp (zH _) id
 nL:=λx E=>by obtain⟨p,G,rfl⟩:=mem_map.1 E;exact (o.own p G).elim (h.nL _) λg=>.inr (zL h.fr.size g)
 nF:=h.nF
 ns:=λE=>by
  obtain⟨p,G,e⟩:=mem_map.1 E;rcases o.own p G with I|I;exact h.ns (by rw[<- e];exact I);have:=h.sB.lt;omega
def jR.sub(h:jR T Fa w0 W Y L sb F c b)(E:L'.Sublist L):jR T Fa w0 W Y L' sb F c b where
 own:=(h.own.sub E).nI
 sB:=h.sB.y4 λb G=>(zD.1 G).elim (λG=>zH _ ((E.map _).subset G)) (zI _)
 fr:=h.fr
 nL:=λx I=>h.nL x ((E.map _).subset I)
 nF:=h.nF
 ns:=λI=>h.ns ((E.map _).subset I)
def jR.q9(h:jR T Fa w0 W Y L sb F c b)(f:Fr [] W w'):jR T Fa w0 w' Y L sb F c b:=
 ⟨(h.own.q9 f).nI,h.sB.q9 f,h.fr.trans (f.mono λ_ h _=>nomatch h),h.nL,h.nF,h.ns⟩
def jR.jw(h:jR T Fa w0 W Y L sb F c b)(G:SB w' (fU L++Y) sb F' c b')(s:lL F W F' w'):jR T Fa w0 w' Y L sb F' c b' where
 own:=h.sB.own h.own s
 sB:=G
 fr:=h.fr.j8 s.fr λx E=>(h.nF x E).imp (zI _) id
 nL:=h.nL
 nF:=λx E=>(s.new x E).elim (h.nF x) λg=>.inr (zL h.fr.size g)
 ns:=h.ns
def jR.ju{α:Type}{enc:α->List Me}{s:Sl}{l:List α}(h:jR T Fa w0 W Y L sb F c b)(r:eT enc k (T++Fa) w0 s l):eT enc k (fU L++F) W s l:=
 r.j0 h.fr λx E=>(zD.1 E).elim (λg=>(h.nL x g).imp (zH _) id) λg=>(h.nF x g).imp (zI _) id
def jR.jT{bb:Nat}{o:Obj}(h:jR T Fa w0 W Y L sb F c b)(E:w0.heap[bb]?=some o)(G:bb∉T)(I:bb∉Fa):W.heap[bb]?=some o:=by rw[h.fr.block _ (gg E) λJ=>(zD.1 J).elim G I];exact E
def jR.sG(h:jR [] Fa w0 W Y L sb F c b):lL Fa w0 F W:=⟨h.fr,h.nF⟩
def jR.out(h:jR T Fa w0 W Y L sb F c b):SB W Y sb F c b:=h.sB.y4 λ_ h=>zI _ h
def jR.call(h:SB W Y sb F c b):jR [] F W W Y [] sb F c b:=⟨.start _ _,h,.refl _ _,λ_ h=>(nomatch h),λ_ h=>.inl h,λh=>(nomatch h)⟩
variable {b:Nat}
def jR.start{q:Mu}(o:dY [] w0 w L)(h:ti w' (fU L++Y) sb dbk pb FD F D M c q λ_=>([],[]))(I:c<=100000)(J:q.2<=150)(O:HG∉FD)(U:sb∉FD)(f:Fr [] w w')(G:∀b∈sb::(FD++F),w.z<=b):jR [] [] w0 w' Y L sb (FD++F) c (BA (q.1,q.2,pb,D,oe M)) where
 own:=(o.q9 f).nI
 sB:=⟨pb,dbk,FD,F,D,M,_,rfl,h,O,U,qzV _,I,J,rfl⟩
 fr:=o.fr.trans f
 nL:=λx E=>by obtain⟨p,V,rfl⟩:=mem_map.1 E;exact (o.own p V).elim (λh=>nomatch h) .inr
 nF:=λx E=>.inr (zL o.fr.size (G x (zN _ E)))
 ns:=λhm=>by have:=Dn o sb hm;have:=G sb oN;omega
def qDL{o:Obj}(f:Fr [b] w w')(h:w.heap[b]?=some o)(E:w'.heap[b]?=some o):Fr [] w w':=⟨f.os,f.tape,f.output,f.size,λi G _=>by by_cases e:i=b;rw[e,h,E];exact f.block i G λI=>e (zE.1 I)⟩
def wl (w:Md) (S:Mk) (kb c:Nat) (b:Bk):Prop:=∃pb D M Fo,qO w S kb pb M/\sW D M c (b.cm.1,b.cm.2.1) Fo/\Hb (λt=>(Fo t).1) b/\b.cm.2.2=(pb,D,oe M)
variable {b:Bk} {kb:Nat} {x:Operand}
def wl.j0{S':Mk}(h:wl w S kb c b)(f:Fr S w w')(E:∀x∈S',x∈S\/w.z<=x):wl w' S' kb c b:=by obtain⟨pb,D,M,Fo,G,q⟩:=h;exact⟨pb,D,M,Fo,G.j0 f E,q⟩
def wl.q9(h:wl w S kb c b)(f:Fr [] w w'):wl w' S kb c b:=h.j0 (f.mono λ_ h _=>nomatch h) λ_ h=>.inl h
def wl.sG(h:wl w (HG::(Y++F)) kb c b)(s:lL F w F' w'):wl w' (HG::(Y++F')) kb c b:=h.j0 (s.fr.mono λx E _=>by simp[E]) λx E=>by simp only[zG,zD] at E⊢;rcases E with h|h|h;exact .inl (.inl h);exact .inl (.inr (.inl h));exact (s.new x h).imp (λh=>.inr (.inr h)) id
def qBG{K:Option Addr->WP}(h:SB w Y sb F c b)(J:∀kb w',wl w' (HG::(Y++F)) kb c b->Fr [] w w'->K (pW kb) w'): cW 94 [dM sb] dp w K:=by refine qkG ?_;obtain⟨pb,dbk,FD,Fp,D,M,Fo,rfl,E,O,U,V,hc,hj⟩:=h;have hl:=E.tw.wf.all;refine E.ut (qBB E.tw.x8 oL oL (λG=>by rw[E.st.J1.Q3] at G;cases G) λ_ kb w1 hm f1=>J kb w1 ⟨pb,D,M,Fo,hm.j0 (.refl _ _) λx I=>.inl ?_,E.st,V,hj.2⟩ f1);simp only[zG,zD] at I⊢;rcases I with h|h|h|h<;>simp[h]
def qBF(h:SB w Y sb F c b')(hm:wl w S kb c b)(O:∀x∈HG::(Y++F),x∈S)(U:b'.cm=b.cm)(kk:∀F' w',SB w' Y sb F' c b->lL F w F' w'->K 0 w'): cW 96 [dM sb,dM kb] dj w K:=by
 refine qkE ?_;obtain⟨pb,dbk,FD,Fp,D,M,Fo,rfl,E,V,aa,hb,hc,hj⟩:=h;obtain⟨ap,D0,M0,ac,hM,I,ad,hg⟩:=hm;rw[U] at E hj;have e:=hj.2.symm.trans hg;injection e with e1 e;injection e with e2 e;subst e1;subst e2;have hl:=I.J1.wf.all;have ho:=E.st.J1.Q3;refine E.ut (qBu E.tw.x8 (λb hb=>hb) (λ_=>⟨kb,rfl,hM.j0 (.refl _ _) λx hx=>.inl (O x ?_),oL,oL⟩) (λJ=>by rw[ho] at J;cases J) (λ_ J=>J.elim (λh2=>nomatch h2) λh2=>absurd (Ma eU.x6 e).symm h2) λ_ _ _ F2 w2 G f2 n2=>?_);simp only[zG,zD] at hx⊢;rcases hx with (h|h|h)|h<;>simp[h];rw[qzl e] at G;have hT:=E.tw.next (I.J1.Q3.trans ho.symm) I.J1.wf G f2;exact kk _ w2 ⟨pb,dbk,FD,F2,D,M0,ac,rfl,E.x6 hT I f2 n2,V,aa,ad,hc,hj.1,hg⟩ (lL.Q3 ⟨f2,n2⟩)
def Lj:fj [1]:=λx h=>by rw[zE.1 h];exact⟨oO,oO⟩
def uJ.CK{K:Mr->WP}(h:uJ w1 Y sb pb F c b)(f1:Fr [] w1 w)(U:mK w1 w ks [1])(k0:∀s w',b.last=none->Fr [] w w'->K (s,5) w')(k1:∀s B w' n,b.last=some n->ip w' s (bw 8 n) B->(∀x∈B,w.z<=x)->Fr [] w w'->K (s,0) w'): cW 29 [dM pb,.i 7,ks.v] dl w K:=by
 obtain⟨dbk,FD,Fp,D,M,Fo,rfl,O,ab,ac,hb,hc,hj⟩:=h;have G:=O.q9 f1;have hT:=G.st.J0.J2 7 oO;have E:=hT.get (key:=[1]) G.st.J1.wf G.st.J1.Q3;have ht:=hb.vF;have I:=BC (t:=7) oO;rw[ht] at E;cases J:b.last with
 | none=>
  rw[J] at E;have e:mi [1] (vh none)=none:=rfl;exact (IC (t:=((7:Nat):Int)) Lj I.1 oO rfl G.tw (U.to O.tw.xu) (by rw[E];decide) λs B w' _ _ f=>by rw[E];exact k0 s w' J f)
 | some n=>
  rw[J] at E;have e:mi [1] (vh (some n))=some _:=rfl;exact (IC (t:=((7:Nat):Int)) Lj I.1 oO rfl G.tw (U.to O.tw.xu) (by rw[E];exact (by decide:(0:Int)≠-1)) λs B w' V nB f=>by rw[E] at V⊢;exact k1 s B w' n J V nB f)
def KK{r:Nat}{T:Mf}(h:w.z<=r)(E:w'.heap[r]?=some (.c #[.b 1] T)):mK w w' ⟨pW r,1,1⟩ [1]:=FX (L:=[1]) h E oO oO rfl
def qnj(h:SB w Y sb F c b)(U:b.rm<=3*c)(V:∀F' w',SB w' Y sb F' c (b.iK n)->lL F w F' w'->K 0 w'): cW 52 [dM sb,.w n] dj w K:=by
 refine qhH ?_;obtain⟨pb,h⟩:=h;have g:=(Fr.refl [] w).drew;have G:∀ {r:Nat} {s:Sl} {w2:Md},Fr [] w w2->mK w w2 ⟨pW r,1,1⟩ [1]->mK w w2 s _->cW 86 [.p _,.i 7,.slice _ 1 1,s.v] [.one _] w2 K:=λ{r s w2} f n1 n2=>
  h.put f U oO ⟨rfl,Lj⟩ ⟨na _ _,sQ _ _⟩ n1 n2 (λT q=>q.iK) λF' w' h s=>V F' w' ⟨pb,h⟩ s
 refine⟨h.ut g (oD (oG [] w.drew) λr w1 e1 I o=>gY (h.held (g.trans I)) (EV λr2 w2 J E=>gY (h.held ((g.trans I).trans E)) (G ((g.trans I).trans E) (KK (by rw[e1];exact zM _) ((o.q9 E).at (i:=0) rfl)) (J.up I.size)))),?_⟩;exact h.ut g (EV λr2 w2 J E=>gY (h.held (g.trans E)) (oD (oG [] w2) λr w3 e3 O o=>gY (h.held ((g.trans E).trans O)) (G ((g.trans E).trans O) (KK (by rw[e3];exact E.size) (o.at (i:=0) rfl)) (J.q9 O))))
def qtW(h:SB w Y sb F c b)(hn:∀n,b.last=some n->lH n)(kk:∀w',Fr [] w w'->K (b.last.getD 0) w'): cW 21 [dM sb] dr w K:=by
 refine qkF ?_;obtain⟨pb,h⟩:=h;obtain⟨i,hi,hz,J,O⟩:=AF;refine h.ut (.refl _ _) (oD (oG [] w) λr1 w1 e1 I o=>h.CK I (KK (by rw[e1];exact zM _) (o.at (i:=0) rfl)) (λs w2 E U=>y_ ?_) λs B w2 n E V nB U=>x_ ?_);have:=kk w2 (I.trans U);rwa[E] at this;have G:=V.len;have h8:(bw 8 n).length=8:=na _ _;have hr:eY [] w2 s _:=V.ju mW λ_ _ h=>nomatch h;have hs:=yd (P:=prog) (tx:=79) (e':=5) hr mW (λx u hu=>by rw[zE.1 hu];rfl) oM;refine eZ.j2 V mW oM hi hz J rfl hs G (by rw[O];omega) oL λs' B' w3 aa f3 _ _=>qo5 (aa.ju mW λ_ _ h=>nomatch h) (hn n E) (hn n E) ?_;have ff:=(I.trans U).j8 f3 λx hx=>.inr (zL I.size (nB x hx))
 have:=kk w3.drew ff.drew;rwa[E] at this
variable {K:Bool->Prop} {y:Operand}
def Lm{P:Mg}{t:Mf}{ds:Array Me}(d:Nat)(J:d<=10000)(r:Bool)(h:xk P d t (.agg cs) (.agg ds)=some r)(G:P.eqGuardType P.depth t=false)(k:K (!r)): eO [jV.one Cell.bool] (λw'=>(do eqGuard .neq t x y (.agg cs) (.agg ds);binOp .neq t (.agg cs) (.agg ds):Sem Me).run P w') w K:=by have E:=Ht d t _ _ r h (10000-d) w;rw[show d+(10000-d)=10000 by omega] at E;have I:(binOp .neq t _ _).run P w=.ok _ w:=wW true E oN oN oN oN;refine tf (!r) ?_ k;show ((do eqGuard .neq t x y _ _;binOp .neq t _ _:Sem Me).run P w)=Result.ok (Value.bool (!r)) w;simp[eqGuard,G,I]
def vg{a b:e9}(k:K (decide (a=b))): eO [jV.one Cell.bool] (λw'=>(do eqGuard .eql nf x y (df a.1 a.2) (df b.1 b.2);binOp .eql nf (df a.1 a.2) (df b.1 b.2):Sem Me).run prog w') w K:=by have e:xk prog 2 nf (df a.1 a.2) (df b.1 b.2)=some (bif a.1==b.1 then (bif a.2==b.2 then true else false) else false):=oM;have h:(bif a.1==b.1 then (bif a.2==b.2 then true else false) else false)=decide (a=b):=(by obtain⟨E,G⟩:=a;obtain⟨I,J⟩:=b;by_cases h0:E=I;by_cases h1:G=J;simp[h0,h1];simp[h1];simp[h0]);rw[h] at e;exact qEM 2 oO _ e oM k
def wF{a b:e9}(k:K (!decide (a=b))): eO [jV.one Cell.bool] (λw'=>(do eqGuard .neq nf x y (df a.1 a.2) (df b.1 b.2);binOp .neq nf (df a.1 a.2) (df b.1 b.2):Sem Me).run prog w') w K:=by have e:xk prog 2 nf (df a.1 a.2) (df b.1 b.2)=some (bif a.1==b.1 then (bif a.2==b.2 then true else false) else false):=oM;have h:(bif a.1==b.1 then (bif a.2==b.2 then true else false) else false)=decide (a=b):=(by obtain⟨E,G⟩:=a;obtain⟨I,J⟩:=b;by_cases h0:E=I;by_cases h1:G=J;simp[h0,h1];simp[h1];simp[h0]);rw[h] at e;exact Lm 2 oO _ e oM k
def IW{P:Mg}{f:Mf->Me->Me->Option Bool}{G:Array Me}(E:∀t x r,f t x x=some r->r=true):∀ {I:List Field} {r:Bool},tU P f G G I=some r->r=true
 | [],r,h=>by simp[tU] at h;exact h
 | x::I,r,h=>by simp only[tU] at h;split at h;split at h;rename_i a b O J;rw[O] at J;cases J;split at h;rename_i r1 q U V;cases h;rw[E _ _ _ U,IW E V];rfl;cases h;cases h;exact IW E h
def qr5{P:Mg}{f:Mf->Me->Me->Option Bool}{e n:Nat}{E:Array Me}(G:∀t x r,f t x x=some r->r=true):∀ {is:Mk} {r:Bool},uS P f e n E E is=some r->r=true
 | [],r,h=>by simp[uS] at h;exact h
 | i::is,r,h=>by simp only[uS] at h;split at h;rename_i a b J I;rw[J] at I;cases I;split at h;rename_i r1 q O U;cases h;rw[G _ _ _ O,qr5 G U];rfl;cases h;cases h
def Ll{P:Mg}:∀(d:Nat) (t:Mf) (x:Me) (r:Bool),xk P d t x x=some r->r=true
 | 0,_,_,_,h=>nomatch h
 | d+1,t,x,r,h=>by
  unfold xk at h;split at h
  ·next heq=>cases heq;cases h;exact beq_self_eq_true _
  ·next heq=>cases heq;simp at h;exact h
  ·next heq=>cases heq;cases h;exact beq_self_eq_true _
  ·next heq=>
   cases heq;cases E:P.stoodInHeld t with
   | true=>rw[E] at h;cases h
   | false=>rw[E] at h;exact IW (Ll d) h
  ·next heq=>
   cases heq;next _ e _ _=>
   cases E:qm P e with
   | false=>rw[E] at h;cases h
   | true=>rw[E] at h;exact qr5 (Ll d) h
  cases h
def qE1{P:Mg}{t:Mf}(d:Nat)(G:d<=10000)(h:(xk P d t (.agg cs) (.agg cs)).isSome=true)(I:P.eqGuardType P.depth t=false)(k:K false): eO [jV.one Cell.bool] (λw'=>(do eqGuard .neq t x y (.agg cs) (.agg cs);binOp .neq t (.agg cs) (.agg cs):Sem Me).run P w') w K:=by
 obtain⟨r,E⟩:=Option.isSome_iff_exists.1 h;have:=Ll _ _ _ _ E;subst this;exact Lm d G true E I k
structure um where
 pb:Nat
 k:Nat
 v:Nat
 iZ:Sl
 to:Sl
 st:Sl
 f1:Me
 f2:Me
 f3:Me
def um.cells (x:um):Array Me:=#[.pointer (some ⟨x.pb,0,none⟩),.i x.k,.i x.v,x.iZ.v,x.to.v,x.st.v,x.f1,x.f2,x.f3]
def qK (w:Md) (cb:Nat) (x:um):Prop:=∃T,w.heap[cb]?=some (.c x.cells T)
variable {x:um} {cb:Nat} {K:Sl->Prop}
def qK.j0(h:qK w cb x)(f:Fr S w w')(E:cb∉S):qK w' cb x:=by obtain⟨T,h⟩:=h;exact⟨T,by rw[f.block cb (gg h) E];exact h⟩
def qK.q9(h:qK w cb x)(f:Fr [] w w'):qK w' cb x:=h.j0 f λh=>nomatch h
def qK.iZ(h:qK w cb x)(k:K x.iZ):ld .slice (dh cb 3) w K:=by obtain⟨T,h⟩:=h;exact sU x.iZ (jI h) k
def qK.to(h:qK w cb x)(k:K x.to):ld .slice (dh cb 4) w K:=by obtain⟨T,h⟩:=h;exact sU x.to (jI h) k
variable {K:Int->WP}
def qFH{i:Int}(hi:-1000000<=i/\i<=1000000)(h:K (i+1) w):cW 247 [dM cb,.i i] dj w K:=by refine qkn ?_;rw[IntWalk.i64_in _ oL];exact h
def qBL{to:Key}{K:Bool->WP}(h:qK w cb x)(E:eY S w ks key)(G:eY S w x.to to)(I:fj key)(J:fj to)(O:K (decide (cmpL key to>0)) w):cW 249 [dM cb,ks.v] dk w K:=by refine qhs<|fH (h.to ?_);exact Hx E G I J O
def qB0{n:dX}{y:mp}{iZ:Key}(h:qK w cb x)(I:fe S w y n)(V:eY S w x.iZ iZ)(hB:fj iZ)(hr:gQ n.J6)(hl:n.J6.length<=1000000)(kk:∀w',Fr [] w w'->K (sX n iZ) w'):cW 248 [dM cb,.agg (fB y)] dj w K:=by
 refine qi3<|oD (oG [] w) λr w1 e1 f1 ho=>Mi ho 0 y.1 ?_;have hd:=oH ho;have E:=f1.trans (Fr.refl [] w1).drew;have hy:=I.1;apply eF<;>intro J;have G:n.Q4=false:=(by rw[<- hy];simpa using J);refine Mj hd 0 y<|fH ((h.q9 E).iZ ?_);refine HY (I.q9 E) (V.q9 E) hB hr hl λO U=>?_
 have:=kk O (E.trans U);rw[sX,iN (by rw[G];decide)] at this;exact this;have G:n.Q4=true:=(by rw[<- hy];simpa using J);refine Mj hd 0 y<|fH ((h.q9 E).iZ ?_);refine GP (I.q9 E) (V.q9 E) hB hr hl λO U=>?_;have:=kk O (E.trans U);rw[sX,iP G] at this;exact this
end Go.Proofs.YtcnddmfogfebiaaGreatDoor
namespace Go.Pt
open Go
def CT{P:Mg}{w:Md}{v:Me}{f:FuncId}{h args:List Me}{ts:List jV}{K:kH ts->WP}(E:v=.func (.func f) h.toArray #[])(G:jJ P f=false)(k:call P f (h++args) ts w K):dU P v args ts w K:=by subst E;refine .inl ⟨f,h++args,?_,k⟩;simp[Deferred.ofValue,invoke,CZ G]
def GA{S ι:Type}{B:(S->WP)->S->WP}{s:S}{w:Md}(I:ι->S->WP)(m:ι->Nat)(V:ι)(h0:I V s w)(h:∀i s w,I i s w->∀X:S->WP,(∀E G w',I E G w'->m E<m i->X G w')->B X s w):loop S B s w:=by
 intro J hJ;have key:∀k i s w,m i=k->I i s w->J s w:=by
  intro k;induction k using Nat.strongRecOn with
  | _ k ih=>
   intro i s w hk hI;exact hJ s w (h i s w hI J λE G w' O U=>ih (m E) (hk▸U) E G w' rfl O)
 exact key _ V s w rfl h0
end Go.Pt
namespace Go.Proofs.YtcnddmfogfebiaaGreatDoor
open Go.Proofs.Tryz (prog)
open Go Go.Pt List
open Go.IntKind (wrap)
attribute [local irreducible] ld dP iA qg kO eX st new idx kz gi jH nD gV nn call dU inv run eO jt join loop held ext mn fc pZ qG qz IntKind.wrap
abbrev uI:=mp×qR
def Ew (x:mp) (i:Int):Array Me:=#[.bool x.1,x.2.1.v,x.2.2.1.v,x.2.2.2.v,.i i]
def kS (z:uI):List Me:=[.bool z.1.1,z.1.2.1.v,z.1.2.2.1.v,z.1.2.2.2.v,.i z.2.2]
def A8:∀z,(kS z).length=5:=λ_=>rfl
def qzF(z:uI):∀u∈kS z,u.oneCell'=true:=λu h=>by unfold kS at h;simp only[zG,xW,or_false] at h;rcases h with rfl|rfl|rfl|rfl|rfl<;>rfl
section
variable {w w':Md} {s:Sl} {zs:List uI} {z:uI} {SB:Mk}
def Hr(h:eZ kS 5 w s (zs++[z]) SB):∃b E T,SB=[b]/\s.a=pW b/\w.heap[b]?=some (.c E T)/\s.len=zs.length+1/\s.len<=s.cap/\s.cap*5<=E.size/\E.toList.take (zs.length*5+5)=zs.flatMap kS++kS z:=by rcases h with ⟨_,h,_⟩|⟨b,o,E,T,J,rfl,O,U,I,V,h7,G⟩;exact absurd h oN;rw[zF,xK] at I G;rw[xE,yQ,yH,flatMap_nil,xG,xS] at G;exact⟨b,E,T,J,O,U,I,V,oL,G⟩
def qCU{b j:Nat}(h:eZ kS 5 w s (zs++[z]) [b])(O:j<5):w.cell? ⟨b,zs.length*5+j,none⟩=(kS z)[j]?:=by obtain⟨b',U,T,G,V,I,h4,h5,h6,J⟩:=Hr h;cases G;rw[jI I,<- Array.getElem?_toList];have E:=Ma (·[zs.length*5+j]?) J;rw[xB,iP,yY (by rw[uX A8];omega),uX A8,vA] at E;exact E
def qxc{K:Addr->Prop}(h:eZ kS 5 w s (zs++[z]) SB)(J:zs.length<=1000000)(E:∀b,SB=[b]->K ⟨b,zs.length*5,none⟩):idx s (wrap .i64 ((s.len:Int)-1)) 5 K:=by obtain⟨b,O,T,G,I,U,V,h5,h6,h7⟩:=Hr h;have e:wrap .i64 ((s.len:Int)-1)=(zs.length:Int):=(by rw[IntWalk.i64_in _ oL];omega);rw[e];refine vD I ⟨oL,oL⟩ ?_;rw[zJ,xQ];exact E b G
def qFe{b:Nat}{j:Int}{K:WP}(h:eZ kS 5 w s (zs++[z]) [b])(kk:∀w',eZ kS 5 w' s (zs++[(z.1,z.2.1,j)]) [b]->Fr [b] w w'->K w'):st ⟨b,zs.length*5+4,none⟩ [.i j] w K:=by
 obtain⟨b',cs,T,hB,h2,h3,h4,h5,h6,h7⟩:=Hr h;cases hB;have hm:(zs.flatMap kS++kS z).length=zs.length*5+5:=(by rw[zF,uX A8];rfl);refine wU h3 _ rfl (by rfl) oQ λw' hb f=>kk w' (.inr ⟨b,0,_,T,rfl,rfl,h2,hb,by rw[zF,xK];exact h4,h5,by rw[qI];omega,?_⟩) f
 have:=qsL (i:=zs.length*5+4) (v:=.i j) (by rw[hm];omega) (by rw[hm];exact h7);rw[hm,set_append_right _ _ (by rw[uX A8];omega),uX A8,vA] at this;rw[xE,zF,xK,xS,yQ,yH,flatMap_nil,xG];exact this
def qEo{K:Sl->Prop}(h:eZ kS 5 w s (zs++[z]) SB)(hl:zs.length<=1000000)(I:∀E,eZ kS 5 w E zs SB->K E):gi s none (some (wrap .i64 ((s.len:Int)-1))) none 5 K:=by obtain⟨b,J,T,O,U,V,h4,h5,h6,h7⟩:=Hr h;have e:wrap .i64 ((s.len:Int)-1)=(zs.length:Int):=(by rw[IntWalk.i64_in _ oL];omega);rw[e];refine Dk ⟨oL,oL⟩ ?_;rw[zJ];refine I _ (.inr ⟨b,0,J,T,O,rfl,U,V,rfl,by dsimp only;omega,by dsimp only;omega,?_⟩);have G:=Ma (List.take (zs.length*5)) h7;rw[take_take,xP oL] at G;rw[xE,G,LO (by rw[uX A8];exact zM _)];exact zS (by rw[uX A8];exact zM _)
end
def qT (cb:Nat):Me:=.func (.func 247) #[dM cb] #[]
def rD (cb:Nat):Me:=.func (.func 248) #[dM cb] #[]
def sY (cb:Nat):Me:=.func (.func 249) #[dM cb] #[]
structure gZ (dbk pb:Nat) (FD:Mk) (D:dQ) (F:Mk) (M:eU) (k v:Nat) (to:Key) (w0:Md) (cb:Nat) (Y:Mk) (w:Md) (st:Sl) (SB:Mk) (zs:List uI):Prop where
 cell:∃ sf sto,qK w cb ⟨pb,k,v,sf,sto,st,qT cb,rD cb,sY cb⟩/\eY (cb::(SB++Y)) w sf []/\eY (cb::(SB++Y)) w sto to
 tw:TW dbk pb FD D 900000 w (cb::(SB++Y)) F M
 ve:eZ kS 5 w st zs SB
 nodes:∀ z∈zs,fe (cb::(SB++Y)) w z.1 z.2.1/\gp z.2.1 k v
 Hu:cb∉SB
 Eh:cb∉Y
 CD:∀ b∈SB,b∉Y
 new:∀ b∈cb::SB,w0.z<=b
 toB:fj to
 Eb:zs.length<=100000
section
variable {dbk pb:Nat} {FD F:Mk} {D:dQ} {M:eU} {k v:Nat} {to:Key} {w0 w w':Md} {cb:Nat} {Y Y' SB SB':Mk} {st st':Sl} {zs zs':List uI}
def gZ.x6(h:gZ dbk pb FD D F M k v to w0 cb Y w st SB zs)(f:Fr (cb::(SB++Y)) w w')(hc:∃sf J T,w.heap[cb]?=some (.c (um.cells ⟨pb,k,v,sf,J,st,qT cb,rD cb,sY cb⟩) T)/\w'.heap[cb]?=some (.c (um.cells ⟨pb,k,v,sf,J,st',qT cb,rD cb,sY cb⟩) T))(I:eZ kS 5 w' st' zs' SB')(hn:∀z∈zs',fe (cb::(SB'++Y')) w' z.1 z.2.1/\gp z.2.1 k v)(hS:∀b∈SB',b∈SB\/w.z<=b)(hY:∀b∈Y',b∈Y\/w.z<=b)(ae:∀b∈Y',b<w'.z)(af:∀b∈SB',b∉Y')(hl:zs'.length<=100000):gZ dbk pb FD D F M k v to w0 cb Y' w' st' SB' zs':=by
 obtain⟨sf,J,⟨T,E⟩,ag,ah⟩:=h.cell;obtain⟨aa,O,T',e,ac⟩:=hc;rw[e] at E;have e1:aa=sf/\O=J:=by
  injection E with E;injection E with E;unfold um.cells at E;simp only[Array.mk.injEq,List.cons.injEq,Value.slice.injEq,and_true,true_and] at E;obtain⟨⟨a1,a2,a3⟩,⟨b1,b2,b3⟩⟩:=E;exact⟨by cases sf;cases aa;simp_all,by cases J;cases O;simp_all⟩
 obtain⟨rfl,rfl⟩:=e1;have aq:=gg e;have U:∀b∈cb::(SB'++Y'),b∈cb::(SB++Y)\/w.z<=b:=λb I=>by rcases zG.1 I with rfl|I;exact .inl oN;rcases zD.1 I with I|I;exact (hS b I).imp (λh=>by simp[h]) id;exact (hY b I).imp (λh=>by simp[h]) id
 have ai:∀b∈cb::(SB'++Y'),b<w'.z:=λb G=>by rcases zG.1 G with rfl|G;exact gg ac;rcases zD.1 G with G|G;exact I.lt b G;exact ae b G
 have aj:=h.new cb oN;refine⟨⟨aa,O,⟨T',ac⟩,ag.j0 f U,ah.j0 f U⟩,h.tw.cQ f ai U,I,hn,λhm=>?_,λhm=>?_,af,λb I=>?_,h.toB,hl⟩;rcases hS cb hm with V|V;exact h.Hu V;omega;rcases hY cb hm with V|V;exact h.Eh V;omega;rcases zG.1 I with rfl|I;exact aj;rcases hS b I with V|V;exact h.new b (by simp[V]);omega
def gZ.at(h:gZ dbk pb FD D F M k v to w0 cb Y w st SB zs):∃G E T,w.heap[cb]?=some (.c (um.cells ⟨pb,k,v,G,E,st,qT cb,rD cb,sY cb⟩) T):=by obtain⟨G,E,⟨T,I⟩,_⟩:=h.cell;exact⟨G,E,T,I⟩
def gZ.lt(h:gZ dbk pb FD D F M k v to w0 cb Y w st SB zs):∀b∈cb::(SB++Y),b<w.z:=h.tw.uU
def gZ.j0(h:gZ dbk pb FD D F M k v to w0 cb Y w st SB zs)(f:Fr Y w w')(G:∀b∈Y',b∈Y\/w.z<=b)(I:∀b∈Y',b<w'.z):gZ dbk pb FD D F M k v to w0 cb Y' w' st SB zs:=by
 obtain⟨sf,J,T,O⟩:=h.at;have U:=gg O;have V:Fr (cb::(SB++Y)) w w':=f.mono λb E _=>by simp[E]
 refine h.x6 V ⟨sf,J,T,O,by rw[f.block cb U h.Eh];exact O⟩ (h.ve.j0 f h.CD) (λz hz=>⟨(h.nodes z hz).1.j0 V λb E=>?_,(h.nodes z hz).2⟩) (λb E=>.inl E) G I (λb E hm=>?_) h.Eb;rcases zG.1 E with rfl|E;exact .inl oN;rcases zD.1 E with E|E;exact .inl (by simp[E]);exact (G b E).imp (λh=>by simp[h]) id;rcases G b hm with h1|h1;exact h.CD b E h1;have:=h.lt b (by simp[E]);omega
def gZ.q9(h:gZ dbk pb FD D F M k v to w0 cb Y w st SB zs)(f:Fr [] w w'):gZ dbk pb FD D F M k v to w0 cb Y w' st SB zs:=
 h.j0 (f.mono λ_ h=>nomatch h) (λb E=>.inl E) λb E=>yD (h.lt b (by simp[E])) f.size
def gZ.drew(h:gZ dbk pb FD D F M k v to w0 cb Y w st SB zs):gZ dbk pb FD D F M k v to w0 cb Y w.drew st SB zs:=h.q9 (Fr.refl [] w).drew
def gZ.th{K:Sl->Prop}(h:gZ dbk pb FD D F M k v to w0 cb Y w st SB zs)(E:K st):ld .slice (dh cb 5) w K:=by
 obtain⟨J,G,T,I⟩:=h.at;exact sU st (jI I) E
def gZ.yp{K:WP}(h:gZ dbk pb FD D F M k v to w0 cb Y w st SB zs)(w1:Md)(f:Fr SB w w1)(E:eZ kS 5 w1 st' zs' SB')(hn:∀z∈zs',z∈zs\/fe (cb::(SB'++Y)) w1 z.1 z.2.1/\gp z.2.1 k v)(V:∀b∈SB',b∈SB\/w.z<=b)(hl:zs'.length<=100000)(kk:∀w',gZ dbk pb FD D F M k v to w0 cb Y w' st' SB' zs'->Fr (cb::SB) w w'->K w'):Pt.st (dh cb 5) [st'.v] w1 K:=by
 obtain⟨sf,I,T,hc⟩:=h.at;have ad:=gg hc;have ae:w1.heap[cb]?=some (.c (um.cells ⟨pb,k,v,sf,I,st,qT cb,rD cb,sY cb⟩) T):=(by rw[f.block cb ad h.Hu];exact hc);have O:cb∉SB':=λJ=>by rcases V cb J with G|G;exact h.Hu G;omega
 refine wU ae (um.cells ⟨pb,k,v,sf,I,st',qT cb,rD cb,sY cb⟩) rfl rfl (zO rfl) λw2 af f2=>?_;have f3:Fr (cb::SB) w w2:=(f.mono λb E _=>by simp[E]).j8 f2 λb E=>.inl (by rw[zE.1 E];simp);refine kk w2 (h.x6 (f3.mono λb E _=>by rcases zG.1 E with rfl|E<;>simp[*]) ⟨sf,I,T,hc,af⟩ (E.j0 f2 λb E J=>O (by rw[zE.1 J] at E;exact E)) (λz hz=>?_) V (λb E=>.inl E) (λb E=>yD (h.lt b (by simp[E])) f3.size) (λb E J=>?_) hl) f3;have U:∀b∈cb::(SB'++Y),b∈cb::(SB++Y)\/w.z<=b:=λb E=>by rcases zG.1 E with rfl|E;exact .inl oN;rcases zD.1 E with E|E;exact (V b E).imp (λh=>by simp[h]) id;exact .inl (by simp[E])
 rcases hn z hz with G|G;exact⟨(h.nodes z G).1.j0 (f3.mono λb E _=>by rcases zG.1 E with rfl|E<;>simp[*]) U,(h.nodes z G).2⟩;exact⟨G.1.j0 (f2.mono λb E _=>by rw[zE.1 E];simp) λb E=>.inl E,G.2⟩;rcases V b E with G|G;exact h.CD b G J;have:=h.lt b (by simp[J]);omega
def gZ.A6{z:uI}{b:Nat}{j:Int}{K:WP}(h:gZ dbk pb FD D F M k v to w0 cb Y w st [b] (zs++[z]))(kk:∀w',gZ dbk pb FD D F M k v to w0 cb Y w' st [b] (zs++[(z.1,z.2.1,j)])->Fr [b] w w'->K w'):Pt.st ⟨b,zs.length*5+4,none⟩ [.i j] w K:=by
 refine qFe h.ve λw' hb f=>kk w' ?_ f;obtain⟨sf,J,T,O⟩:=h.at;have U:=h.Hu;have V:Fr (cb::([b]++Y)) w w':=f.mono λx E _=>by rw[zE.1 E];simp
 have G:∀x∈cb::([b]++Y),x∈cb::([b]++Y)\/w.z<=x:=λx E=>.inl E;refine h.x6 V ⟨sf,J,T,O,by rw[f.block cb (gg O) U];exact O⟩ hb (λy I=>?_) (λx E=>.inl E) (λx E=>.inl E) (λx E=>yD (h.lt x (by simp[E])) f.size) h.CD (by have:=h.Eb;rw[zF] at this⊢;exact this);rcases zD.1 I with I|I;exact⟨(h.nodes y (zH _ I)).1.j0 V G,(h.nodes y (zH _ I)).2⟩;rw[zE.1 I];exact⟨fe.j0 (h.nodes z oN).1 V G,(h.nodes z oN).2⟩
end
end Go.Proofs.YtcnddmfogfebiaaGreatDoor
namespace Go.Pt
open Go
def qCt{o:Obj}{w:Md}{H:WP}{R:Nat->WP}(h:Pt.new o w R)(E:∀w',Fr [] w w'->H w'):Pt.new o w λr w1=>held [H] w1 (R r w1):=⟨E _ ((Fr.refl [] w).alloc o),h⟩
end Go.Pt
namespace Go.Proofs.YtcnddmfogfebiaaGreatDoor
open Go.Proofs.Tryz (prog)
open Go Go.Pt List
open Classical
attribute [local irreducible] ld dP iA qg kO eX st new idx kz gi jH nD gV nn call dU inv run eO jt join loop held ext mn fc pZ qG qz IntKind.wrap
abbrev FT:Mf:=368
def qER:∃i,prog.info? FT=some i/\i.zero=some (.agg da)/\i.size=5/\i.bytes=88:=yy oM
variable {w w':Md} {s:Sl} {K:Sl->WP} {x n most:Int} {T:Nat->iF} {L:iF} {S B Y F:Mk} {l:List (HL kK)} {P:Ml} {a:HL eH} {b:Bk} {c sb:Nat} {p:Pa} {i:e9} {k:Kp}
def qE7{zs:List uI}{SB:Mk}{x:mp}{n:dX}{i:Int}{H:WP}(h:eZ kS 5 w s zs SB)(hl:zs.length<=1000000)(J:∀w',Fr [] w w'->H w')(O:∀I B' w',eZ kS 5 w' I (zs++[(x,n,i)]) B'->Fr SB w w'->(∀b∈B',b∈SB\/w.z<=b)->K I w'): Pt.new (.cells (Ew x i) FT) w λr w1=>held [H] w1 (Pt.run di ((Builtin.append_ #[361,361] 361 #[s.v,.slice (pW r) 1 1]).run prog w1) K):=by obtain⟨j,U,V,E,G⟩:=qER;exact qCt (eZ.push h A8 (qzF _) oM U V E rfl rfl (by rw[G];omega) oL O) J
section
variable {dbk pb:Nat} {FD F:Mk} {D:dQ} {M:eU} {k v:Nat} {to:Key} {w0 w wA:Md} {cb:Nat} {Y SB:Mk} {st:Sl} {zs:List uI} {x:mp} {n:dX} {i:Int}
def qum{S:Mk}{K:Int->WP}(h:gZ dbk pb FD D F M k v to w0 cb Y w st SB zs)(E:fe (cb::(SB++Y)) w x n)(G:gQ n.J6)(I:n.J6.length<=1000000)(J:∀w',Fr [] w w'->K (sX n []) w'):dU prog (rD cb) [.agg (fB x)] dj w K:=by obtain⟨sf,O,U,V,h2⟩:=h.cell;exact CT rfl oM (qB0 U E V (λ_ h=>nomatch h) G I J)
def qA8{K:Int->WP}(hi:-1000000<=i/\i<=1000000)(h:K (i+1) w):dU prog (qT cb) [.i i] dj w K:=CT rfl oM (qFH hi h)
def qEb{ks:Sl}{key:Key}{K:Bool->WP}(h:gZ dbk pb FD D F M k v to w0 cb Y w st SB zs)(E:eY (cb::(SB++Y)) w ks key)(G:fj key)(I:K (tu to key) w):dU prog (sY cb) [ks.v] dk w K:=by obtain⟨V,J,O,h1,U⟩:=h.cell;exact CT rfl oM (qBL O E U G h.toB I)
def gZ.J0{T:Mk}{L:Mq}(G:gZ dbk pb FD D F M k v to w0 cb Y wA st SB zs)(h:dY T wA w L)(I:∀b∈T,b∈Y):gZ dbk pb FD D F M k v to w0 cb Y w st SB zs:=
 G.j0 (h.fr.mono λb E _=>I b E) (λb E=>.inl E) λb E=>yD (G.lt b (by simp[E])) h.fr.size
def fe.Cr{T:Mk}{L:Mq}(G:fe (cb::(SB++Y)) wA x n)(h:dY T wA w L)(I:∀b∈T,b∈Y):fe (cb::(SB++Y)) w x n:=
 G.j0 (h.fr.mono λb E _=>by simp[I b E]) λb E=>.inl E
def qsz{T:Mk}{G I:Nat}{X:Int->WP}{K:Unit->WP}(hA:gZ dbk pb FD D F M k v to w0 cb Y wA st SB zs)(hN:fe (cb::(SB++Y)) wA x n)(h:dY T wA w [(G,.c (Ew gG 0) FT),(I,.c (fB x) ND)])(hT:∀b∈T,b∈Y)(hl:zs.length+1<=100000)(ak:gp n k v)(hI:n.Q4=false->∃j:Nat,i=j/\j<n.J9.length)(J:∀w' st' SB',gZ dbk pb FD D F M k v to w0 cb Y w' st' SB' (zs++[(x,n,i)])->Fr (cb::(SB++T)) wA w'->(∀b∈SB',b∈SB\/wA.z<=b)->if n.Q4 then K () w' else X (n.J9.getD i.toNat 0) w'): Gn (pW cb) K G x i w I X:=by
 unfold Gn;refine oF h 0 rfl (Ew x i) λw1 h f1=>?_;have h:=oH h;have hC:=hA.J0 h hT;refine fH (hC.th ?_);refine Mj h 0 (x.1,x.2.1,x.2.2.1,x.2.2.2,i)<|qE7 (n:=n) hC.ve oL (λw' f=>?_) λs' B' w2 al f2 n2=>?_;obtain⟨sf,aC,T,U⟩:=(hC.q9 f).at
 exact jI U;refine fH ?_;have V:=gg (h.at (i:=1) rfl);have aa:=gg (h.at (i:=0) rfl);have ao:=h.fr.size;have ap:=hN.Cr h hT;refine hC.yp w2 f2 al (λz hz=>(zD.1 hz).imp id λhz=>?_) n2 (by rw[zF];exact hl) λw3 h3 f3=>?_;rw[zE.1 hz];refine⟨ap.j0 (f2.mono λb E _=>by simp[E]) λb E=>?_,ak⟩;rcases zG.1 E with rfl|E;exact .inl oN;rcases zD.1 E with E|E;exact (n2 b E).imp (λh=>by simp[h]) id;exact .inl (by simp[E]);have f4:Fr (cb::(SB++T)) wA w3:=(h.fr.mono λb E _=>by simp[E]).trans (f3.mono λb E _=>by rcases zG.1 E with rfl|E<;>simp[*]);have ab:∀r,r∈T\/wA.z<=r->r∉cb::SB:=λr hr hm=>by
  rcases hr with hr|hr;rcases zG.1 hm with rfl|hm;exact hA.Eh (hT _ hr);exact hA.CD r hm (hT r hr);have:=hA.lt r (by rcases zG.1 hm with rfl|hm<;>simp[*]);omega
 have ae:w3.heap[I]?=some (.c (fB x) ND):=(by rw[f3.block I V (ab I (h.own (I,.c (fB x) ND) oN))];exact h.at (i:=1) rfl);have au:w3.heap[G]?=some (.c (Ew x i) FT):=(by rw[f3.block G aa (ab G (h.own (G,.c (Ew x i) FT) oN))];exact h.at (i:=0) rfl);have J:=J w3 s' B' h3 f4 λb E=>(n2 b E).imp id λh=>zL ao h;have O:=hN.1;refine iH ae x.1 rfl ?_;apply eF<;>intro U;rw[<- O,U,iP rfl] at J;exact J;rw[<- O,U,iN oO] at J;refine iH ae x.2.2.2 rfl<|iH au i rfl ?_;obtain⟨j,rfl,hj⟩:=hI (by rw[<- O,U]);have af:=(h3.nodes (x,n,(j:Int)) oN).1.2.2.2.2;refine eT.get af j rfl (zA hj) rfl ?_;rw[zJ,yR,zA hj] at J;exact J
def qAx{T:Mk}{V:Nat}{X:Int->WP}{K:Unit->WP}(I:gZ dbk pb FD D F M k v to w0 cb Y wA st SB zs)(hN:fe (cb::(SB++Y)) wA x n)(h:dY T wA w [(V,.c (fB gG) ND)])(G:∀b∈T,b∈Y)(hl:zs.length+1<=100000)(E:gp n k v)(hI:n.Q4=false->∃j:Nat,(0:Int)=j/\j<n.J9.length)(J:sX n []=0)(kk:∀w' st' SB',gZ dbk pb FD D F M k v to w0 cb Y w' st' SB' (zs++[(x,n,0)])->Fr (cb::(SB++T)) wA w'->(∀b∈SB',b∈SB\/wA.z<=b)->if n.Q4 then K () w' else X (n.J9.getD 0 0) w'): Fc (pW cb) K V (x,0) w X:=by
 unfold Fc;refine oF h 0 rfl (fB x) λw1 h f1=>?_;have h:=oH h;refine x_<|⟨?_,?_⟩;refine Mj h 0 x ?_;obtain⟨sf,O,T,U⟩:=(I.J0 h G).at;refine fH (sU (rD cb) (jI U) ?_);refine Mj h 0 x<|qum (S:=[]) (I.J0 h G) (hN.Cr h G) E.2.2.1 (by have:=(AL E).1;omega) λw2 f2=>?_;rw[J];have h:=h.q9 f2;refine gY (h.cells 0)<|oD h λad w3 e3 f3 h=>?_;obtain⟨sf,O,T,U⟩:=(I.J0 h G).at
 exact nh (h.cells 1) (jI U) (h.cells 1)<|qsz I hN h G hl E hI kk;refine Mj h 0 x ?_;obtain⟨sf,O,T,U⟩:=(I.J0 h G).at;refine fH (sU (rD cb) (jI U) ?_);refine Mj h 0 x<|oD h λad w3 e3 f3 h=>?_;obtain⟨sf,O,T,U⟩:=(I.J0 h G).at
 refine nh (h.cells 1) (jI U) (h.cells 1)<|qum (S:=[]) (I.J0 h G) (hN.Cr h G) E.2.2.1 (by have:=(AL E).1;omega) λw2 f2=>?_;rw[J];have h:=h.q9 f2;exact gY (h.cells 1)<|qsz I hN h G hl E hI kk
def qrQ{s:jF}{h:Nat}{K:Unit->WP}(hs:Has D M k v h s)(hu:jf s.x5)(hC:gZ dbk pb FD D F M k v to w0 cb Y w st SB zs)(hl:zs.length+h+1<=100000)(kk:∀w' st' SB' zs',gZ dbk pb FD D F M k v to w0 cb Y w' st' SB' (zs++zs')->nU D k v M (h+1) s.x5=some (zs'.map (·.2))->Fr (cb::SB) w w'->(∀b∈SB',b∈SB\/w.z<=b)->K () w'): cW 253 [dM cb,.u s.x5] [] w K:=by
 refine qhV<|GA (λ(hh:Nat) p w'=>∃(sg:jF) (G:List uI) (af:Sl) (O:Mk),p=sg.x5/\jf sg.x5/\Has D M k v hh sg/\gZ dbk pb FD D F M k v to w0 cb Y w' af O (zs++G)/\(nU D k v M (hh+1) sg.x5).map (G.map (·.2)++·)=nU D k v M (h+1) s.x5/\G.length+hh=h/\Fr (cb::SB) w w'/\∀b∈O,b∈SB\/w.z<=b) id h ⟨s,[],st,SB,rfl,hu,hs,by rw[xG];exact hC,oN,oN,.refl _ _,λb E=>.inl E⟩ ?_;rintro hh p w1 ⟨sg,G,af,O,rfl,aI,av,aa,aw,a1,f1,n1⟩ X hX;have J:∃n,dR D M k v sg.x5=(n,0)/\(n.Q4=true->hh=0)/\sX n []=0/\(n.Q4=false->∃h2 es,hh=h2+1/\n=eK es/\∃hj:0<es.length,Has D M k v h2 es[0].2):=by
  cases hh with
  | zero=>
   obtain⟨h1,h2,h3,h4⟩:=av;exact⟨_,h3.load h4,λ_=>rfl,qCm,(λe=>nomatch e)⟩
  | succ h2=>
   obtain⟨es,e1,e2,e3⟩:=qCg av;exact⟨_,e1,(λe=>nomatch e),e2,λ_=>⟨h2,es,rfl,rfl,e3⟩⟩
 obtain⟨n,J,aK,ax,ay⟩:=J;have az:=Fm J;obtain⟨l1,l2,l3,l4,l5⟩:=AL az;have ao:(dO D M sg.x5).2.2=0/\jE (dO D M sg.x5).1 (dO D M sg.x5).2.1 k v=(n,0):=by unfold dR at J;split at J;rename_i aL;exact absurd (Prod.mk.inj J).2 aL;rename_i he;exact⟨oL,J⟩
 have aA:fj (dO D M sg.x5).2.1:=qif aa.tw.lim.ok (λe he=>(aa.tw.wf.body e he).2.2) _;have aM:(zs++G).length+1<=100000:=(by rw[zF];omega);have hI:n.Q4=false->∃j:Nat,(0:Int)=j/\j<n.J9.length:=λe=>by obtain⟨h2,es,_,rfl,hj,_⟩:=ay e;exact⟨0,rfl,by show _<(es.map _).length;rw[zK];exact hj⟩
 have ai:∀(x:mp) (Y' T:Mk) (wA wB:Md) (r:Nat),gZ dbk pb FD D F M k v to w0 cb Y' wA af O (zs++G)->fe (cb::(O++Y')) wA x n->dY T wA wB [(r,.c (fB gG) ND)]->(∀b∈T,b∈Y')->(∀b∈T,w1.z<=b)->(∀b∈Y,b∈Y')->Fr [] w1 wA->Fc (pW cb) K r (x,0) wB X:=by
  intro x Y' T wA wB r hA hN hO hT aO hY fA;refine qAx hA hN hO hT aM az hI ax λw2 ap ag I f2 n2=>?_;have I:gZ dbk pb FD D F M k v to w0 cb Y w2 ap ag (zs++(G++[(x,n,0)])):=by rw[<- zV];exact I.j0 (.refl _ _) (λb E=>.inl (hY b E)) λb E=>I.lt b (by simp[hY b E])
  have f3:=f1.j8 ((fA.mono λ_ h=>nomatch h).trans f2) λb E=>by rcases zG.1 E with rfl|E;exact .inl oN;rcases zD.1 E with E|E;exact (n1 b E).imp (λh=>by simp[h]) id;exact .inr (zL f1.size (aO b E))
  have n3:∀b∈ag,b∈SB\/w.z<=b:=λb E=>by rcases n2 b E with h|h;exact n1 b h;exact .inr (zL f1.size (zL fA.size h))
  by_cases hlf2:n.Q4=true;rw[iP hlf2];obtain rfl:=aK hlf2;refine kk w2 ap ag (G++[(x,n,0)]) I ?_ f3 n3;rw[<- aw,nU,J,iN λh=>h rfl,iP hlf2];simp
  ·rw[iN hlf2];have aB:n.Q4=false:=(oS hlf2);obtain⟨h2,es,rfl,rfl,hj,hk⟩:=ay aB;rw[GM hj];refine hX h2 _ w2 ⟨_,G++[(x,eK es,0)],ap,ag,rfl,?_,hk,I,?_,by rw[zF,xK];omega,f3,n3⟩ (Nat.lt_succ_self _);rw[<- GM hj];have aC:0<(eK es).J9.length:=(by show _<(es.map _).length;rw[zK];exact hj);rw[yR,zA aC];exact hN.2.1.2.2 _ (zW aC)
   ·rw[<- aw];conv=>rhs;rw[nU,J,iN λh=>h rfl,iN hlf2]
    rw[GM hj,Option.map_map];simp[Function.comp_def]
 obtain⟨sf,aq,T,V⟩:=aa.at;refine fH (sU (pW pb) (jI V) ?_);refine TW.read aa.tw aI λsb w2 aD f2=>?_;have I:=(aa.q9 f2).drew;refine LK (by dsimp only;rw[ao.1];rfl) ?_;obtain⟨sf,aq,T,V⟩:=I.at;have ac:=I.lt;refine⟨?_,?_⟩;refine fH (sU (k:Int) (jI V) ?_);refine fH (sU (v:Int) (jI V) ?_);refine Lh (aD [] λ_ h=>nomatch h) aA λx B w3 hN f3 ar=>?_;rw[ao.2] at hN⊢;have U:=I.q9 f3;refine oD (oG [] w3) λr w4 e4 f4 h=>?_;obtain⟨sf,aq,T,V⟩:=(U.q9 f4).at;refine jU (jI V) (jI V)<|ai x Y [] w3 w4 r U (hN.rd (λb E hm=>?_) λb E=>.inl ?_) h (λ_ h=>nomatch h) (λ_ h=>nomatch h) (λb E=>E) (f2.drew.trans f3);have:=ar b E;have:=ac b hm;omega;have:=ac b E;exact zH _ (mem_range.2 this);refine fH (sU (k:Int) (jI V) ?_);refine fH (sU (v:Int) (jI V) ?_);refine oD (oG [] w2.drew) λr w3 e3 f3 h=>?_;have aR:=gg (h.at (i:=0) rfl);have U:gZ dbk pb FD D F M k v to w0 cb (r::Y) w3 af O (zs++G):=I.j0 (f3.mono λ_ h=>nomatch h) (λb E=>(zG.1 E).elim (λe=>.inr (by rw[e,e3];exact zM _)) .inl) λb E=>by rcases zG.1 E with rfl|E;exact aR;exact yD (ac b (by simp[E])) f3.size
 obtain⟨sf,aq,T,V⟩:=U.at;refine jU (jI V) (jI V)<|Lh (eT.q9 (w:=w2.drew) (aD [] λ_ h=>nomatch h) f3) aA λx B w4 hN f4 ar=>?_;rw[ao.2] at hN⊢;have ak:=U.lt;refine ai x (r::Y) [r] w4 w4 r (U.q9 f4) (hN.rd (λb E hm=>?_) λb E=>.inl ?_) (CY ((h.q9 f4).at (i:=0) rfl)) (λb E=>by rw[zE.1 E];simp) (λb E=>?_) (λb E=>by simp[E]) ((f2.drew.trans f3).trans f4)
 have:=ar b E;have:=ak b hm;omega;exact zH _ (mem_range.2 (ak b E));rw[zE.1 E,e3];exact f2.size
end
open Go.IntKind (wrap)
section
variable {dbk pb:Nat} {FD F:Mk} {D:dQ} {M:eU} {k v:Nat} {to:Key} {w0 w wA:Md} {cb:Nat} {Y SB:Mk} {st:Sl} {zs:List uI}
def gZ.mH{c:Cell}{b j:Nat}{z:uI}{K:c.El->Prop}(h:gZ dbk pb FD D F M k v to w0 cb Y w st [b] (zs++[z]))(E:j<5)(x:c.El)(G:(kS z)[j]?=some (c.mk x))(I:K x):ld c ⟨b,zs.length*5+j,none⟩ w K:=
 sU x ((qCU h.ve E).trans G) I
def qzr{h:Nat}{K:Unit->WP}(hp:Path D M k v h (zs.map (·.2)))(hC:gZ dbk pb FD D F M k v to w0 cb Y w st SB zs)(kk:∀w' st' SB' zs',gZ dbk pb FD D F M k v to w0 cb Y w' st' SB' zs'->zs'.map (·.2)=(nz D k v M h (zs.map (·.2))).getD []->Fr (cb::SB) w w'->(∀b∈SB',b∈SB\/w.z<=b)->K () w'): cW 254 [dM cb] [] w K:=by
 refine qhU ?_;have U:=hp.len;have aU:=hC.Eb;rw[zK] at U;refine GA (λ(ad:List qR) (_:PUnit) w'=>∃(G:List uI) (z:uI) (E:List qR) (h1:Nat) (ao:Sl) (ae:Mk),G.map (·.2)=ad/\gZ dbk pb FD D F M k v to w0 cb Y w' ao ae (G++[z])/\zs.map (·.2)=ad++E/\ad.length+h1=h/\nz D k v M h1 E=none/\Fr (cb::SB) w w'/\∀b∈ae,b∈SB\/w.z<=b) List.length (zs.map (·.2)).dropLast ?_ ?_
 ·have O:zs≠[]:=λe=>by rw[e] at U;simp at U
  have hz:=(xZ O).symm;refine⟨zs.dropLast,zs.getLast O,[(zs.getLast O).2],0,st,SB,by rw[map_dropLast],by rw[<- hz];exact hC,?_,by simp;omega,rfl,.refl _ _,λb J=>.inl J⟩;conv=>lhs;rw[hz]
  simp
 rintro ad _ w1 ⟨G,z,E,h1,ao,ae,rfl,af,hz,hh,hn,f1,n1⟩ X hX;have ay:=af.Eb;rw[zF,xK] at ay;have aG:ao.len=G.length+1:=(by rw[af.ve.len,zF];rfl);refine fH (af.th (LJ (by rw[aG];exact yA oL) ?_));have ag:=af.drew;refine fH (ag.th ?_);refine fH (ag.th ?_);refine qEo ag.ve oL λs2 az=>?_;refine fH ?_;refine ag.yp w1.drew (.refl _ _) az (λz hz=>.inl (zH _ hz)) (λb J=>.inl J) oL λw2 ap f2=>?_;have aA:=f1.j8 ((Fr.refl _ w1).drew.trans f2) λb J=>by rcases zG.1 J with rfl|J;exact .inl oN;exact (n1 b J).imp (λh=>by simp[h]) id
 refine fH (ap.th ?_);have aB:=az.len;apply eF<;>intro hc;have hc:=yP.1 hc;have e0:G=[]:=length_eq_zero_iff.1 oL;subst e0;refine kk w2 s2 ae [] ap ?_ aA n1;rw[hz,map_nil,xH];have:h1=h:=(oS hh);rw[<- this,hn];rfl;have hc:=zR.1 hc;have O:G≠[]:=λe=>by rw[e] at aB;simp at aB;omega
 obtain⟨V,y,rfl⟩:∃V y,G=V++[y]:=⟨G.dropLast,G.getLast O,(xZ O).symm⟩;rw[xL,xM,map_nil,zV,singleton_append] at hz;rw[xL,xM,map_nil,zF,xK] at hh;have ah:(V.map (·.2)).length+(h1+1)=h:=oL;have aq:Path D M k v (h1+1) (y.2::E):=by rw[hz,<- ah] at hp;exact hp.drop
 obtain⟨I,i,up,ey,a3,aD,_⟩:=aq;obtain⟨yx,yf⟩:=y;have aH:=(List.cons.inj ey).1;subst aH;have ai:=ap.drew;rw[zF,xK] at ay;refine fH (ai.th ?_);refine fH (ai.th ?_);refine qxc ai.ve oL λb hB=>?_;subst hB;have aj:=ai.drew;obtain⟨sf,a5,T,aI⟩:=aj.at;have ar:=aj.nodes (yx,eK I,i) oN;have ak:(eK I).J9.length=I.length:=(by show (I.map (·.2.x5)).length=_;rw[zK]);have aX:I.length<=498:=(by rw[<- ak];exact (AL ar.2).2.2.1);refine fH (sU (qT cb) (jI aI) ?_);refine aj.mH oO i rfl ?_;refine qA8 oL ?_;refine aj.A6 λw3 aJ f3=>?_;have aa:=aJ.drew;have au:=aA.j8 (((Fr.refl _ w2).drew.drew).trans f3) λb' J=>by rw[zE.1 J];exact (n1 b oN).imp (λh=>by simp[h]) id
 have aK:yx.2.2.2.len=I.length:=(by rw[ar.1.2.2.2.2.1,ak]);have ab:=qyl (x:=(eK I,i)) hn;refine jd (λq w'=>q=decide (i+1<I.length)/\w'=w3.drew) ?_ ?_;exact aa.mH oO ((i:Int)+1) rfl (LJ (yA oL) (aa.mH oO ((i:Int)+1) rfl (aa.mH oO yx.2.2.2 rfl ⟨decide_eq_decide.2 (by rw[aK];omega),rfl⟩)));rintro q w4 ⟨rfl,rfl⟩;have al:=aa.drew;apply eF<;>intro h;have aE:=zC h;refine al.mH oO yx.2.2.2 rfl (al.mH oO ((i:Int)+1) rfl ?_);have aL:=(al.nodes (yx,eK I,(i:Int)+1) oN).1.2.2.2.2;have av:(eK I).J9[i+1]?=some I[i+1].2.x5:=(by show (I.map (·.2.x5))[i+1]?=_;rw[zQ,zA aE];rfl);refine eT.get aL (i+1) rfl av rfl ?_;refine qrQ (aD aE) (ar.1.2.1.2.2 _ (yF av)) al (by rw[zF,xK];rw[zK] at ah;omega) λw5 aM aN aO aP aQ f5 n5=>?_;refine kk w5 aM aN _ aP ?_ (au.j8 ((Fr.refl _ w3).drew.drew.trans f5) λb' J=>?_) λb' J=>?_;have e1:nz D k v M (h1+1) ((eK I,i)::E)=some ((eK I,(i:Int)+1)::aO.map (·.2)):=(by rw[ab,yu,iP ⟨by dsimp only;omega,by dsimp only;rw[ak];omega⟩];dsimp only;rw[show ((i:Int)+1).toNat=i+1 by omega,yR,av];simp only[xT];rw[aQ];rfl);rw[hz,<- ah,qso e1];simp;rcases zG.1 J with rfl|J;exact .inl oN;exact (n1 b' J).imp (λh=>by simp[h]) id;rcases n5 b' J with h|h;exact n1 b' h;exact .inr (zL au.size h);have h:=zB h;refine hX (V.map (·.2)) _ _ ⟨V,(yx,eK I,(i:Int)+1),(eK I,i)::E,h1+1,s2,[b],rfl,aa,hz,ah,?_,au.drew,n1⟩ ?_;rw[ab,yu,iN λg=>h (by have:=g.2;dsimp only at this;rw[ak] at this;omega)];simp
end
abbrev Jm:Mf:=247
def DF (a b:Sl):Array Me:=#[a.v,b.v]
@[reducible] def K6:List Cell:=[.slice,.slice]
section
variable {dbk pb:Nat} {FD F:Mk} {D:dQ} {M:eU} {k v:Nat} {to:Key} {w0 w wA:Md} {cb:Nat} {Y SB:Mk} {st:Sl} {zs:List uI}
def qCM{n:dX}(h:gp n k v)(I:n.Q4=true):k<=24/\v<=108:=by obtain⟨_,_,_,G⟩:=h;rw[iP I] at G;have E:=G.2.2.1;unfold eG at E;split at E;dsimp only at E;omega;omega
def qyX{K:(Sl×Sl)×Bool->WP}(hC:gZ dbk pb FD D F M k v to w0 cb Y w st SB zs)(hL:Left D M k v to 1 (zs.map (·.2)) L)(k0:L=[]->∀w',gZ dbk pb FD D F M k v to w0 cb Y w' dN [] []->Fr (cb::SB) w w'->K ((dN,dN),false) w')(k1:∀x L',L=x::L'->∀ks vs B1 B2 w' st' SB' zs',ip w' ks x.1 B1->ip w' vs x.2 B2->gZ dbk pb FD D F M k v to w0 cb (B1++(B2++Y)) w' st' SB' zs'->Left D M k v to 1 (zs'.map (·.2)) L'->Fr (cb::SB) w w'->(∀b∈SB',b∈SB\/w.z<=b)->(∀b∈B1,w.z<=b)->(∀b∈B2,w.z<=b)->(∀b∈B1,b∉B2)->K ((ks,vs),true) w'): cW 200 [dM cb] [.agg K6,.one .bool] w K:=by
 refine qhT<|oD (oG [] w) λr w1 e1 f1 h=>?_;have hrl:=gg (h.at (i:=0) rfl);have hltw:=hC.lt;have hC1:gZ dbk pb FD D F M k v to w0 cb (r::Y) w1 st SB zs:=hC.j0 (f1.mono λ_ h=>nomatch h) (λb hb=>(zG.1 hb).elim (λe=>.inr (by rw[e,e1];exact zM _)) .inl) λb hb=>by rcases zG.1 hb with rfl|hb;exact hrl;exact yD (hltw b (by simp[hb])) f1.size
 have hr1:=h.at (i:=0) rfl;have hrS:r∉cb::SB:=λhm=>by
  have:=hltw r (by rcases zG.1 hm with h|h<;>simp[h]);omega
 have hfr:∀ {w':Md},Fr (cb::SB) w1 w'->w'.heap[r]?=some (.c (DF dN dN) Jm):=λf=>by rw[f.block r hrl hrS];exact hr1
 refine jd (λ_ w'=>L=[]/\Fr (cb::SB) w1 w'/\∃st' SB' zs',gZ dbk pb FD D F M k v to w0 cb (r::Y) w' st' SB' zs'/\∀b∈SB',b∈SB\/w1.z<=b) ?_ ?_
 ·refine GA (λ(n:Nat) (_:PUnit) w'=>Fr (cb::SB) w1 w'/\∃st' SB' zs',gZ dbk pb FD D F M k v to w0 cb (r::Y) w' st' SB' zs'/\(∀b∈SB',b∈SB\/w1.z<=b)/\Left D M k v to n (zs'.map (·.2)) L) id 1 ⟨.refl _ _,st,SB,zs,hC1,λb hb=>.inl hb,hL⟩ ?_;rintro n _ w2 ⟨f2,st2,SB2,zs2,hC2,n2,hL2⟩ X hX;refine fH (hC2.th ?_);have hsl:=hC2.ve.len;apply eF<;>intro hc;rotate_left;have hc:=zB hc;have e0:zs2=[]:=length_eq_zero_iff.1 oL;refine⟨?_,f2,st2,SB2,zs2,hC2,n2⟩;rcases hL2 with h|⟨hh,T,ht,_,_⟩;exact h.2
  have:=ht.path.len;rw[e0] at this;simp at this;have hc:=zC hc;have hne:zs2≠[]:=λe=>by rw[e] at hsl;simp at hsl;omega
  rcases hL2 with ⟨h,_⟩|⟨hh,T,ht,hLT,hnd⟩;exact absurd (map_eq_nil_iff.1 h) hne;have htop:∃(lo:List qR) (y5:iF) (j:Nat),zs2.map (·.2)=lo++[(fL y5,(j:Int))]/\((ow hh (zs2.map (·.2))/\¬j<y5.length)\/∃hj:j<y5.length,∃T',T=y5[j]::T'/\pK D M k v hh (lo++[(fL y5,(j:Int)+1)]) T'):=by rcases qxe ht with hd|⟨y5,j,lo,hj,T',e1,e2,e3⟩;obtain⟨lo,y5,e⟩:=hd.vF;exact⟨lo,y5,_,e,.inl ⟨hd,Nat.lt_irrefl _⟩⟩;exact⟨lo,y5,j,e1,.inr ⟨hj,T',e2,e3⟩⟩
  obtain⟨lo,y5,j,ez,hcase⟩:=htop;obtain⟨zlo,zr,rfl,rfl,ezr⟩:=map_eq_append_iff.1 ez;obtain⟨⟨zx,zf⟩,rfl,ezf⟩:=map_eq_singleton_iff.1 ezr;subst ezf;have hfew:=hC2.Eb;rw[zF,xK] at hfew;have hD2:=hC2.drew;refine fH (hD2.th ?_);refine fH (hD2.th ?_);refine qxc hD2.ve oL λb hB=>?_;subst hB;have hE2:=hD2.drew;have hny:=hE2.nodes (zx,fL y5,(j:Int)) oN;have hkl:(fL y5).J6.length=y5.length:=zK ..;have hkl2:y5.length<=498:=(by rw[<- hkl];exact (AL hny.2).1);obtain⟨hzl,hNB,⟨pk,hpk,hpke⟩,⟨pv,hpv,hpve⟩,_⟩:=hny.1;have hpkl:pk.length=y5.length:=(by rw[<- hkl,<- hpke,zK]);have hpvl:pv.length=y5.length:=by have:(fL y5).Q0.length=y5.length:=zK ..;rw[<- this,<- hpve,zK]
  refine jd (λq w'=>q=decide (j<y5.length)/\w'=w2.drew.drew) ?_ ?_;exact hE2.mH (j:=0) oO zx.1 rfl (LJ hzl (hE2.mH oO (j:Int) rfl (LJ (yA oL) (hE2.mH oO (j:Int) rfl (hE2.mH oO zx.2.1 rfl ⟨decide_eq_decide.2 (by rw[hpk.len,hpkl];omega),rfl⟩)))));rintro q w3 ⟨rfl,rfl⟩;have hpth:=ht.path;apply eF<;>intro h;rotate_left;have h:=zB h;have hd:=hcase.elim And.left λ⟨hj,_⟩=>absurd hj h;have hn1:n≠0:=λe=>hnd e hd;refine qzr hpth hE2 λw4 st4 SB4 zs4 hC4 hz4 f4 n4=>?_;have f14:=f2.j8 ((Fr.refl _ w2).drew.drew.trans f4) λb' hb=>by rcases zG.1 hb with rfl|hb;exact .inl oN;exact (n2 b' hb).imp (λh=>by simp[h]) id
  have n14:∀b'∈SB4,b'∈SB\/w1.z<=b':=λb' hb=>by rcases n4 b' hb with h|h;exact n2 b' h;exact .inr (zL f2.size h)
  refine hX 0 _ w4 ⟨f14,st4,SB4,zs4,hC4,n14,?_⟩ (by show 0<n;omega);rcases qw5 ht hd with ⟨e2,rfl⟩|⟨fs',e2,e3,e4⟩;rw[e2] at hz4;exact .inl ⟨hz4,hLT⟩;rw[e2] at hz4;rw[hz4];exact .inr ⟨hh,T,e3,hLT,λ_=>e4⟩;have h:=zC h;obtain⟨hj,T',hT,ht'⟩:=hcase.resolve_left λhd=>hd.2 h;have hG2:=hE2.drew;refine hG2.mH oO zx.2.1 rfl<|hG2.mH oO (j:Int) rfl ?_;have hjk:j<pk.length:=oL;have hjv:j<pv.length:=oL;refine lf.get (hpk.q9 (Fr.refl [] _).drew) j rfl hjk<|hG2.mH oO zx.2.2.1 rfl<|hG2.mH oO (j:Int) rfl<|lf.get (hpv.q9 (Fr.refl [] _).drew) j rfl hjv ?_;have hH2:=hG2.drew;obtain⟨sf,sto,Tc,hcc⟩:=hH2.at;refine fH (sU (qT cb) (jI hcc) ?_);refine hH2.mH oO (j:Int) rfl<|qA8 oL<|hH2.A6 λw5 hC5 f5=>?_;have f15:=f2.j8 ((Fr.refl _ w2).drew.drew.drew.drew.trans f5) λb' hb=>by rw[zE.1 hb];exact (n2 b oN).imp (λh=>by simp[h]) id
  obtain⟨sf,sto,Tc,hcc⟩:=hC5.at;refine fH (sU (sY cb) (jI hcc) ?_);have f5':Fr (cb::([b]++(r::Y))) w2.drew.drew w5:=(Fr.refl _ w2.drew.drew).drew.drew.trans (f5.mono λx hx _=>by rw[zE.1 hx];simp);have hks:=(hpk.2 _ (zW hjk)).j0 f5' λx hx=>.inl hx;have hvs:=(hpv.2 _ (zW hjv)).j0 f5' λx hx=>.inl hx;have ek:pk[j].2=y5[j].1:=by
   have:=Ma (·[j]?) hpke;dsimp only [fL] at this;rw[zQ,zQ,zA hjk,zA hj] at this;exact yO this
  have ev:pv[j].2=y5[j].2:=by
   have:=Ma (·[j]?) hpve;dsimp only [fL] at this;rw[zQ,zQ,zA hjv,zA hj] at this;exact yO this
  rw[ek] at hks;rw[ev] at hvs;have hkB:=hNB.1 _ (zY (zW hj));have hkn:=hny.2.1 _ (zY (zW hj));have hvn:=hny.2.2.1 _ (zY (zW hj));have hkv:=qCM hny.2 rfl;refine qEb hC5 hks hkB ?_;apply eF<;>intro ho;refine⟨?_,f15,st2,[b],_,hC5,n2⟩;rw[hLT,hT,takeWhile_cons,ho];rfl;refine DB hks oL λs1 B1 w6 b6 f6 n6 _ _=>DB (hvs.q9 f6) oL λs2 B2 w7 b7 f7 n7 _ _=>?_;have hr7:=hfr (f15.trans ((f6.trans f7).mono λ_ h=>nomatch h));refine wU hr7 (DF s1 s2) rfl rfl (zO rfl) λw8 hr8 f8=>zo hr8 (s1,s2) rfl ?_;have hC7:=(hC5.q9 f6).q9 f7;have hn1:=n6;have hn2:∀b'∈B2,w5.z<=b':=λb' hb=>zL f6.size (n7 b' hb);have hz5:=f15.size;have hz1:=f1.size;have h12:∀b'∈B1,b'∉B2:=λb' hb hm=>by have:=b6.lt b' hb;have:=n7 b' hm;omega
  have hrn:∀b'∈B1++B2,b'≠r:=λb' hb e=>by
   rcases zD.1 hb with hb|hb;have:=hn1 b' hb;omega;have:=hn2 b' hb;omega
  have b8:=(b6.q9 f7).j0 f8 λb' hb hm=>hrn b' (by simp[hb]) (zE.1 hm);have b9:=b7.j0 f8 λb' hb hm=>hrn b' (by simp[hb]) (zE.1 hm);have hC8:gZ dbk pb FD D F M k v to w0 cb (B1++(B2++Y)) w8 st2 [b] (zlo++[(zx,fL y5,(j:Int)+1)]):=by have hA:gZ dbk pb FD D F M k v to w0 cb (B1++(B2++(r::Y))) w7 st2 [b] (zlo++[(zx,fL y5,(j:Int)+1)]):=hC5.j0 ((f6.trans f7).mono λ_ h=>nomatch h) (λb' hb=>?_) λb' hb=>?_;exact hA.j0 (f8.mono λb' hb _=>by rw[zE.1 hb];simp) (λb' hb=>.inl (by simp only[zD] at hb⊢;rcases hb with h|h|h<;>simp[h])) λb' hb=>yD (hA.lt b' (by simp only[zD,zG] at hb⊢;rcases hb with h|h|h<;>simp[h])) f8.size;rcases zD.1 hb with h|hb;exact .inr (hn1 b' h);rcases zD.1 hb with h|hb;exact .inr (hn2 b' h);exact .inl hb;rcases zD.1 hb with h|hb;exact (b6.q9 f7).lt b' h;rcases zD.1 hb with h|hb;exact b7.lt b' h;exact hC7.lt b' (by simp only[zG,zD];exact .inr (.inr (zG.1 hb)))
  refine k1 y5[j] (T'.takeWhile λx=>!tu to x.1) (by rw[hLT,hT,takeWhile_cons,ho];rfl) s1 s2 B1 B2 w8 st2 [b] _ b8 b9 hC8 (.inr ⟨hh,T',by rw[xL];exact ht',rfl,λe=>absurd e oO⟩) ?_ (λb' hb=>(n2 b' hb).imp id λh=>zL hz1 h) (λb' hb=>zL (zL hz1 hz5) (hn1 b' hb)) (λb' hb=>zL (zL hz1 hz5) (hn2 b' hb)) h12;refine ((f1.mono λ_ h=>nomatch h).trans (f15.trans ((f6.trans f7).mono λ_ h=>nomatch h))).j8 f8 λb' hb=>.inr ?_;rw[zE.1 hb,e1];exact zM _
 rintro _ w2 ⟨hL0,f2,st2,SB2,zs2,hC2,n2⟩;refine fH<|hC2.yp (st':=dN) (SB':=[]) (zs':=[]) w2 (.refl _ _) (.nil _ _ _) (λz hz=>nomatch hz) (λb hb=>nomatch hb) (yX _) λw3 hC3 f3=>?_;have f13:=f2.j8 f3 λb hb=>by rcases zG.1 hb with rfl|hb;exact .inl oN;exact (n2 b hb).imp (λh=>by simp[h]) id
 refine wU (hfr f13) (DF dN dN) rfl rfl (zO rfl) λw4 hr4 f4=>zo hr4 (dN,dN) rfl<|k0 hL0 w4 (hC3.j0 (f4.mono λb hb _=>by rw[zE.1 hb];simp) (λb hb=>.inl (by simp[hb])) λb hb=>yD (hC3.lt b (by simp[hb])) f4.size) (((f1.mono λ_ h=>nomatch h).trans f13).j8 f4 λb hb=>.inr ?_);rw[zE.1 hb,e1];exact zM _
end
def qCI{to:Key}(I:gq L):L.takeWhile (λx=>!tu to x.1)=jm [] to L:=by rw[ql2];unfold jm;congr 1;funext x;have J:cmpL x.1 []>=0:=(by cases x.1<;>simp[cmpL]);unfold G9 tu;by_cases E:cmpL x.1 to>0<;>simp[J,E]<;>omega;refine (pairwise_map.1 I).imp ?_;intro a b G h;unfold tu at h⊢;simp only[zT,L7] at h⊢;intro U;have O:gX to a.1:=(by unfold gX;rw[AV];omega);have E:=t8 O G;unfold gX at E;rw[AV] at E;omega
section
variable {dbk pb:Nat} {FD F:Mk} {D:dQ} {M:eU} {k v:Nat} {to:Key} {w0 w wA:Md} {cb:Nat} {Y SB:Mk} {st:Sl} {zs:List uI}
def ip.cY{w:Md}{s:Sl}{l:Ml}(h:ip w s l B)(E:∀b∈B,b∉S):eY S w s l:=h.ju mW E
def qBH{t:Int}{sf sto:Sl}{K:Option Addr->WP}(hT:TW dbk pb FD D 900000 w Y F M)(hs:vj t=((k:Int),(v:Int)))(hL:(k=0/\L=[])\/(k≠0/\gK D M k v t L P))(hLl:L.length<=90000)(hf:eY S w sf [])(ht:eY S w sto to)(htl:to.length<=1000000)(htB:fj to)(kk:∀cb w' st SB zs,gZ dbk pb FD D F M k v to w cb Y w' st SB zs->Left D M k v to 1 (zs.map (·.2)) (jm [] to L)->Fr [] w w'->K (pW cb) w'): cW 199 [dM pb,.i t,sf.v,sto.v,.bool false] dp w K:=by
 refine qpv<|qtY ?_;rw[hs];refine DB hf (yX _) λs1 B1 w1 b1 f1 n1 _ _=>DB (ht.q9 f1) htl λs2 B2 w2 b2 f2 n2 _ _=>oD (oG [] w2) λcb w3 e3 f3 h=>oF h 0 rfl (um.cells ⟨pb,k,v,s1,s2,dN,qT cb,.nilFunc,.nilFunc⟩) λw4 h f4=>oF h 0 rfl (um.cells ⟨pb,k,v,s1,s2,dN,qT cb,rD cb,.nilFunc⟩) λw5 h f5=>oF h 0 rfl (um.cells ⟨pb,k,v,s1,s2,dN,qT cb,rD cb,sY cb⟩) λw6 h f6=>jd (λ_ w'=>∃T,dY [] w2 w' [(cb,.c (um.cells ⟨pb,k,v,s1,s2,dN,qT cb,rD cb,sY cb⟩) T)]) (x_ ⟨_,h⟩) ?_;rintro _ w7 ⟨T,h⟩;have f07:=(f1.trans f2).trans h.fr;have hcl:=gg (h.at (i:=0) rfl);have hz1:=f1.size;have hz2:=f2.size;have hT7:=hT.q9 f07;have hylt:=hT.uU;have hcw:w.z<=cb:=oL;have hC:gZ dbk pb FD D F M k v to w cb Y w7 dN [] []:=by
  refine⟨⟨s1,s2,⟨T,h.at (i:=0) rfl⟩,ip.cY ((b1.q9 f2).q9 h.fr) λb hb hm=>?_,ip.cY (b2.q9 h.fr) λb hb hm=>?_⟩,?_,.nil _ _ _,(λz hz=>nomatch hz),(λh=>nomatch h),(λhm=>?_),(λb hb=>nomatch hb),(λb hb=>?_),htB,yX _⟩;have:=b1.lt b hb;have:=n1 b hb;rcases zG.1 hm with rfl|hm;omega;have:=hylt b (oS hm);omega;have:=b2.lt b hb;have:=n2 b hb;rcases zG.1 hm with rfl|hm;omega;have:=hylt b (oS hm);omega;exact hT.EJ (f07.mono λ_ h=>nomatch h) λb hb=>by rw[zE.1 hb];exact⟨hcw,hcl⟩
  have:=hylt cb hm;omega;rw[zE.1 hb];exact hcw
 refine jd (λ_ w'=>∃st SB zs,gZ dbk pb FD D F M k v to w cb Y w' st SB zs/\Left D M k v to 1 (zs.map (·.2)) (jm [] to L)/\Fr [] w w') ?_ ?_;refine TW.J5 hT7 λw8 f8=>?_;have hC8:=hC.q9 f8;refine jd (λq w'=>q=decide (0<k/\(eS M t).1≠0)/\w'=w8) ?_ ?_;refine eF (λh=>⟨?_,rfl⟩) λh=>⟨?_,rfl⟩;have h:=zC h;rw[LR,yN,zT,zR];exact⟨λg=>⟨oL,g⟩,λg=>g.2⟩;have h:=zB h;exact (zU λg=>h oL).symm;rintro q w9 ⟨rfl,rfl⟩;have h0:L=[]->Left D M k v to 1 ([]:List qR) (jm [] to L):=λe=>.inl ⟨rfl,by rw[e];unfold jm;simp⟩;apply eF<;>intro hq;obtain⟨hk,hr⟩:=zC hq;obtain⟨_,hTr⟩:k≠0/\gK D M k v t L P:=hL.resolve_left λh=>by omega
 have hrh:=(qhf hTr).1;rcases hTr with ⟨e,_,_⟩|⟨hh,n,p,hp,e,hHas⟩;rw[e] at hr;exact absurd rfl hr;have hrh2:hh+1<=L.length:=by rw[e] at hrh;exact hrh
 have hpu:jf p:=by
  have:=(GN hT.wf t).1;rw[e] at this;exact this
 rw[e];refine qrQ hHas hpu hC8 (by show 0+hh+1<=100000;omega) λw10 st10 SB10 zs10 hC10 hp10 f10 n10=>⟨st10,SB10,zs10,hC10,?_,(f07.trans f8).j8 f10 λb hb=>.inr ?_⟩;obtain⟨fs,e1,e2,_⟩:=IP hHas;rw[hp10] at e1;have e1:=yO e1;rw[e1];exact .inr ⟨hh,_,e2,(qCI hHas.sort).symm,λe=>absurd e oO⟩;rw[zE.1 hb];exact hcw;have hq:=zB hq;have hLn:L=[]:=by rcases hL with h|⟨hk,hTr⟩;exact h.2;rcases hTr with ⟨_,h,_⟩|⟨hh,n,p,hp,e,hHas⟩;exact h;exact absurd ⟨oL,by rw[e];exact hp⟩ hq
 exact⟨dN,[],[],hC8,h0 hLn,f07.trans f8⟩;rintro _ w8 ⟨st8,SB8,zs8,hC8,hL8,f8⟩;exact kk cb w8 st8 SB8 zs8 hC8 hL8 f8
end
abbrev SS:=Sl×Sl
def qv (x:SS):List Me:=[x.1.v,x.2.v]
def qr4:∀z,(qv z).length=2:=λ_=>rfl
def qzG(z:SS):∀u∈qv z,u.oneCell'=true:=λu h=>by unfold qv at h;simp only[zG,xW,or_false] at h;rcases h with rfl|rfl<;>rfl
def qES:∃i,prog.info? Jm=some i/\i.zero=some (.agg dd)/\i.size=2/\i.bytes=48:=yy oM
def qFa{zs:List SS}{SB:Mk}{x:SS}(h:eZ qv 2 w s zs SB)(V:zs.length<=1000000)(J:∀I B' w',eZ qv 2 w' I (zs++[x]) B'->Fr SB w w'->(∀b∈B',b∈SB\/w.z<=b)->K I w'): Pt.new (.cells (DF x.1 x.2) Jm) w λr w1=>Pt.run di ((Builtin.append_ #[243,243] 243 #[s.v,.slice (pW r) 1 1]).run prog w1) K:=by obtain⟨j,O,U,E,G⟩:=qES;exact eZ.push h qr4 (qzG _) oM O U E rfl rfl (by rw[G];omega) oL J
def sw (w:Md) (h:Mk) (ps:List (SS×(Key×Key))):Prop:=∀p∈ps,∃E G,ip w p.1.1 p.2.1 E/\ip w p.1.2 p.2.2 G/\(∀b∈E,b∈h)/\∀b∈G,b∈h
def sw.j0{I G:Mk}{ps:List (SS×(Key×Key))}(h:sw w I ps)(f:Fr S w w')(J:∀b∈I,b∉S)(O:∀b∈I,b∈G):sw w' G ps:=λp hp=>by obtain⟨B1,B2,h1,h2,U,V⟩:=h p hp;exact⟨B1,B2,h1.j0 f λb E=>J b (U b E),h2.j0 f λb E=>J b (V b E),λb E=>O b (U b E),λb E=>O b (V b E)⟩
section
variable {dbk pb:Nat} {FD F:Mk} {D:dQ} {M:eU} {k v:Nat} {to:Key} {w0 w wA:Md} {cb:Nat} {Y SB:Mk} {st:Sl} {zs:List uI}
def qyW{t:Int}{sf aj:Sl}(hT:TW dbk pb FD D 900000 w [] F M)(hs:vj t=((k:Int),(v:Int)))(hL:(k=0/\L=[])\/(k≠0/\gK D M k v t L P))(ak:L.length<=90000)(hf:eY S w sf [])(ht:eY S w aj to)(az:to.length<=1000000)(aA:fj to)(kk:∀s w' B G ps,eZ qv 2 w' s (ps.map (·.1)) B->sw w' G ps->(∀b∈G,b∉B)->ps.map (·.2)=(jm [] to L).take most.toNat->Fr [] w w'->(∀b∈B,w.z<=b)->(∀b∈G,w.z<=b)->K s w'): cW 141 [dM pb,.i t,sf.v,aj.v,.bool false,.i most] di w K:=by
 refine qqS<|qBH hT hs hL ak hf ht az aA λcb w1 st SB zs aB aC f1=>?_;have a7:(jm [] to L).length<=90000:=zL (length_filter_le _ _) ak;refine jd (λs w'=>∃B G ps,eZ qv 2 w' s (ps.map (·.1)) B/\sw w' G ps/\(∀b∈G,b∉B)/\ps.map (·.2)=(jm [] to L).take most.toNat/\Fr [] w w'/\(∀b∈B,w.z<=b)/\(∀b∈G,w.z<=b)) ?_ ?_
 ·refine GA (λ(i:Nat) s w'=>∃B G ps st SB zs,i<=(jm [] to L).length/\eZ qv 2 w' s (ps.map (·.1)) B/\sw w' G ps/\(∀b∈G,b∉B)/\ps.map (·.2)=(jm [] to L).take i/\(most.toNat<i->i=0)/\Fr [] w w'/\(∀b∈B,w.z<=b)/\(∀b∈G,w.z<=b)/\gZ dbk pb FD D F M k v to w cb (B++G) w' st SB zs/\Left D M k v to 1 (zs.map (·.2)) ((jm [] to L).drop i)) (λi=>(jm [] to L).length+1-i) 0 ⟨[],[],[],st,SB,zs,yX _,.nil _ _ _,(λp hp=>nomatch hp),(λb E=>nomatch E),rfl,λ_=>rfl,f1,(λb E=>nomatch E),(λb E=>nomatch E),aB,by rw[xE];exact aC⟩ ?_;rintro i s w2 ⟨B,G,ps,a8,al,a9,hi,E,hR,hd,V,aF,f2,n2,n3,J,aH⟩ X hX;have ba:s.len=i:=by
   rw[E.len,zK];have:=Ma List.length V;rw[zK,yL] at this;omega
  apply eF<;>intro hc;rotate_left;have hc:=zB hc;refine⟨B,G,ps,E,hR,hd,?_,f2,n2,n3⟩;rw[V];by_cases h0:most.toNat<i;have:=aF h0;omega;have:most.toNat=i:=oL;rw[this];have hc:=zC hc;refine qyX J aH (λaI w3 ae f3=>?_) λx L' aa ks vs B1 B2 w3 aJ aK aL hk hv ae aM f3 n4 n5 n6 aW=>?_;refine oD (oG [] w3) λr w4 e4 f4 h=>oF h 0 rfl (DF dN dN) λw5 h f5=>y_ ?_;have af:=f3.trans (h.fr.mono λ_ h=>nomatch h);have I:∀b∈B++G,b∉cb::al:=λb E U=>by rcases zG.1 U with rfl|U;exact J.Eh E;exact J.CD b U E
  refine⟨B,G,ps,E.j0 af λb E=>I b (by simp[E]),hR.j0 af (λb E=>I b (by simp[E])) λb E=>E,hd,?_,f2.j8 af λb E=>.inr (J.new b E),n2,n3⟩;rw[V];have O:(jm [] to L).length<=i:=by
   have:=Ma List.length aI;rw[yC,xJ] at this;omega
  rw[zS O,zS oL];have O:i<(jm [] to L).length:=by
   have:=Ma List.length aa;rw[yC,yI] at this;omega
  have hx:(jm [] to L).take (i+1)=(jm [] to L).take i++[x]:=(by rw[yG O];rw[zX O] at aa;rw[(List.cons.inj aa).1]);have ag:(jm [] to L).drop (i+1)=L':=(by rw[zX O] at aa;exact (List.cons.inj aa).2);have I:∀b∈B++G,b∉cb::al:=λb E U=>by rcases zG.1 U with rfl|U;exact J.Eh E;exact J.CD b U E
  have aN:=E.j0 f3 λb E=>I b (by simp[E]);have aO:sw w3 (B1++(B2++G)) (ps++[((ks,vs),x)]):=λp hp=>by rcases zD.1 hp with hp|hp;exact hR.j0 f3 (λb E=>I b (by simp[E])) (λb E=>by simp[E]) p hp;rw[zE.1 hp];exact⟨B1,B2,hk,hv,λb E=>by simp[E],λb E=>by simp[E]⟩
  have ar:∀b∈B1++(B2++G),b∉B:=λb ab U=>by
   have:=E.lt b U;rcases zD.1 ab with h|ab;have:=n5 b h;omega;rcases zD.1 ab with h|ab;have:=n6 b h;omega;exact hd b ab U
  refine oD (oG [] w3) λr w4 e4 f4 h=>oF h 0 rfl (DF ks vs) λw5 h f5=>x_<|Mj h 0 (ks,vs) ?_;have aP:=ae.q9 h.fr;refine qFa (aN.q9 h.fr) (by rw[zK];have:=Ma List.length V;rw[zK,yL] at this;omega) λs6 B6 w6 b6 f6 n7=>?_;have au:=ae.lt;have ac:∀b∈B1++(B2++G),b<w5.z:=λb E=>yD (au b (by simp only[zD,zG] at E⊢;rcases E with h|h|h<;>simp[h])) h.fr.size;have aR:Fr [] w w6:=by refine (f2.j8 f3 λb E=>.inr (J.new b E)).trans (h.fr) |>.j8 f6 λb E=>.inr (n2 b E)
  have hz:=(f2.j8 f3 λb E=>.inr (J.new b E)).size;refine hX (i+1) s6 w6 ⟨B6,B1++(B2++G),ps++[((ks,vs),x)],aJ,aK,aL,O,by rw[xL];exact b6,(aO.j0 h.fr (λ_ _ h=>nomatch h) λb E=>E).j0 f6 ar λb E=>E,λb E U=>?_,by rw[xL,V,hx];rfl,λh=>oL,aR,λb E=>?_,λb E=>?_,aP.j0 (f6.mono λb E _=>by simp[E]) (λb E=>?_) λb E=>?_,by rw[ag];exact aM⟩ ?_;rcases n7 b U with h1|h1;exact ar b E h1;have:=ac b E;omega;rcases n7 b E with h1|h1;exact n2 b h1;have:=h.fr.size;omega;have av:=f2.size;rcases zD.1 E with h|E;exact zL av (n5 b h);rcases zD.1 E with h|E;exact zL av (n6 b h);exact n3 b E;rcases zD.1 E with E|E;exact (n7 b E).imp (λh=>by simp[h]) id;exact .inl (by simp only[zD] at E⊢;rcases E with h|h|h<;>simp[h]);rcases zD.1 E with E|E;exact b6.lt b E;exact yD (ac b E) f6.size;show _+1-(i+1)<_+1-i;omega
 rintro s w2 ⟨B,G,ps,h1,h2,h3,h4,h5,h6,h7⟩;exact kk s w2 B G ps h1 h2 h3 h4 h5 h6 h7
end
def qFS{iZ to:Key}{x:Key×Key}:G9 iZ to x=true↔¬gX x.1 iZ/\¬gX to x.1:=by unfold G9;rw[yB,yN,yN];have h:cmpL x.1 iZ>=0↔¬gX x.1 iZ:=(by unfold gX;omega);have E:cmpL x.1 to<=0↔¬gX to x.1:=(by unfold gX;rw[AV x.1 to];omega);rw[h,E]
def qBX(l:Ml):¬cmpL l l<0:=uL
def qFj{x y:Ml}{m:Int}(E:lH n)(G:lH m)(I:x.length=y.length):gX (x++bw 8 n) (y++bw 8 m)↔gX x y\/x=y/\n<m:=by unfold gX;rw[qwE I];by_cases e:x=y;rw[iP e,qzp E G,e];exact⟨λh=>.inr ⟨rfl,h⟩,λh=>h.elim (λh=>absurd h (qBX y)) λh=>h.2⟩;rw[iN e];exact⟨.inl,λh=>h.elim id λh=>absurd h.1 e⟩
def qxg{a b c d:Int}(E:lH a)(I:lH b)(G:lH c)(J:lH d):gX (mL a b) (mL c d)↔a<c\/a=c/\b<d:=by unfold mL;rw[qFj I J (by rw[na,na]),show gX (bw 8 a) (bw 8 c)↔a<c from qzp E G];exact⟨λh=>h.imp id λh=>⟨G3 (by rw[p8];exact E) (by rw[p8];exact G) h.1,h.2⟩,λh=>h.imp id λh=>⟨by rw[h.1],h.2⟩⟩
def yg (l:List (HL kK)):Prop:=l.Pairwise λa b=>wJ a b=true
def Bm (d:HL kK):Key×Key:=(mL d.1 d.2.1,jW (xv d))
def qB6{a b:HL kK}(h:dV kK a)(E:dV kK b):gX (Bm a).1 (Bm b).1↔wJ a b=true:=by unfold wJ;rw[yN];exact qxg (py h.1) (py h.2.1) (py E.1) (py E.2.1)
def nH.eqs{α κ:Type}{K:qM α κ}{l:List α}{f:α->Key×Key}(h:nH K L l)(E:∀a,f a=(K.g (K.key a),K.val a))(G:l.Pairwise λa b=>gX (f a).1 (f b).1):L=l.map f:=by
 refine List.Perm.eq_of_pairwise (le:=λx y=>gX x.1 y.1) (λa b _ _ I J=>absurd J (wu I)) ?_ ?_ ?_;have:=h.1.sort;unfold gq gQ eE at this;exact pairwise_map.1 this;exact pairwise_map.2 G;rw[show f=λa=>(K.g (K.key a),K.val a) from funext E];exact h.1.perm
def lp (l:List (HL kK)) (J0 most:Int):List (HL kK):=(l.filter λd=>decide (d.1<=J0)).take most.toNat
def qzC{J0:Int}(h:nH E2 L l)(J:yg l)(O:lH J0):(jm [] (mL J0 18446744073709551615) L).take most.toNat=(lp l J0 most).map Bm:=by
 have e:L=l.map Bm:=h.eqs (λ_=>rfl) (List.Pairwise.imp_of_mem (λ{a b} U V E=>(qB6 (h.2 a U) (h.2 b V)).2 E) J);unfold jm lp;rw[e,filter_map,xN];congr 2;refine filter_congr λd hd=>?_;have I:=h.2 d hd;have E:=py I.1;have G:=py I.2.1;rw[LR,Function.comp,qFS,yN];have h0:¬gX (Bm d).1 []:=by
  unfold Bm mL gX;have:bw 8 d.1≠[]:=λe=>by have:=Ma List.length e;rw[na] at this;cases this
  cases hx:bw 8 d.1 with|nil=>exact absurd hx this|cons x r=>exact (by decide:¬(1:Int)<0)
 have h3:gX (mL J0 18446744073709551615) (Bm d).1↔J0<d.1\/J0=d.1/\18446744073709551615<d.2.1:=qxg O ⟨oO,oO⟩ E G;rw[h3];have key:∀a e:Int,lH e->(¬(J0<a\/J0=a/\18446744073709551615<e)↔a<=J0):=λa e h=>by omega
 exact⟨λh=>(key _ _ G).1 h.2,λh=>⟨h0,(key _ _ G).2 h⟩⟩
abbrev Lb:Mf:=171
abbrev qX:HL kK->List Me:=HL.mk kK
def qr1(d:HL kK):(qX d).length=4:=rfl
def qEQ:∃i,prog.info? Lb=some i/\i.zero=some (.agg dc)/\i.size=4/\i.bytes=32:=yy oM
def qzE(d:HL kK):∀u∈qX d,u.oneCell'=true:=λu h=>by obtain⟨a,b,c,e⟩:=d;rcases zG.1 h with rfl|h;rfl;rcases zG.1 h with rfl|h;rfl;rcases zG.1 h with rfl|h;rfl;rw[zE.1 h];rfl
def qE6{x:HL kK}(h:eZ qX 4 w s l B)(V:l.length<=1000000)(J:∀I B' w',eZ qX 4 w' I (l++[x]) B'->Fr B w w'->(∀b∈B',b∈B\/w.z<=b)->K I w'): Pt.new (.cells (HL.mk kK x).toArray Lb) w λr w1=>Pt.run di ((Builtin.append_ #[168,168] 168 #[s.v,.slice (pW r) 1 1]).run prog w1) K:=by obtain⟨j,O,U,E,G⟩:=qEQ;exact eZ.push h qr1 (qzE x) oM O U E rfl rfl (by rw[G];omega) oL J
def qDr{J0:Int}(h:SB w Y sb F c b)(hn:IntKind.u64.has J0)(hd:yg b.due)(hl:b.size<=90000)(kk:∀s B w',eZ qX 4 w' s (lp b.due J0 most) B->Fr [] w w'->(∀x∈B,w.z<=x)->(∀d∈b.due,dV kK d)->K s w'): cW 84 [dM sb,.w J0,.i most] di w K:=by
 refine qlW ?_;obtain⟨pb,h⟩:=h;have g:=(Fr.refl [] w).drew;refine h.ut g (qwu λs1 w1 h1 f1=>gY (h.held (g.trans f1)) ?_);obtain⟨dbk,FD,Fp,D,M,Fo,rfl,hS,ax,ay,hb,hc,hj⟩:=h;have G:=hb.due;have aA:=G.len;have ae:=(hS.q9 g).q9 f1;have hz:b.due.length<=b.size:=(by unfold Bk.size;omega);refine qyW ((ae.tw.y4 (Y':=[]) λ_ h=>nomatch h).up oL) rfl (.inr ⟨oO,hS.st.J0.J2 3 oO⟩) oL (.nil _ _ _ _) h1.rd (by rw[CM];decide) (Kl _ _) λs2 w2 B KB ps hB hR _ I f2 nB _=>?_;rw[qzC G hd (py hn)] at I;have af:ps.length=(lp b.due J0 most).length:=(by have:=Ma List.length I;simpa using this);have aD:(lp b.due J0 most).length<=b.due.length:=(by unfold lp;rw[yL];exact zL (Nat.min_le_right _ _) (length_filter_le _ _));have aE:s2.len=ps.length:=(by rw[hB.len,zK]);have ag:eT qv 2 [] w2 s2 (ps.map (·.1)):=hB.ju qr4 λ_ _ h=>nomatch h;refine lD (λq w'=>∃i:Nat,∃B',q.2=i/\i<=ps.length/\eZ qX 4 w' q.1 ((lp b.due J0 most).take i) B'/\Fr [] w2 w'/\∀x∈B',w2.z<=x) (λq _=>ps.length-q.2.toNat) ⟨0,[],rfl,yX _,eZ.nil _ _ _,.refl _ _,λ_ h=>nomatch h⟩ ?_;rintro⟨s3,q⟩ w3 ⟨i,B3,hq,hi,b3,U,n3⟩ X hX;subst hq;apply cD<;>intro J;have E:i<ps.length:=oL;have O:i<(lp b.due J0 most).length:=oL;have V:ps[i].2=Bm (lp b.due J0 most)[i]:=by
  have:=Ma (·[i]?) I;simp only[zQ,zA E,zA O,Option.map_some] at this;exact yO this
 generalize aa:(lp b.due J0 most)[i]=d at V;have hm:d∈b.due:=(by rw[<- aa];exact (mem_filter.1 (yV (zW O))).1);have ok:=G.2 d hm;obtain⟨B1,B2,k1,k2,_,_⟩:=hR ps[i] (zW E);rw[V] at k1 k2;have aj:eY [] w2 ps[i].1.1 (mL d.1 d.2.1):=k1.ju mW λ_ _ h=>nomatch h;have ak:eY [] w2 ps[i].1.2 (jW (xv d)):=k2.ju mW λ_ _ h=>nomatch h;refine jd (λq w'=>∃B',eZ qX 4 w' q ((lp b.due J0 most).take (i+1)) B'/\Fr [] w2 w'/\∀x∈B',w2.z<=x) ?_ λs4 w4 ⟨B4,b4,f4,n4⟩=>hX _ _ ⟨i+1,B4,by dsimp only;rw[gJ _ oL];rfl,E,b4,f4,n4⟩ (by dsimp only;rw[gJ _ oL];omega);refine eT.qC (ag.q9 U) i rfl (by rw[zQ,zA E];rfl) rfl rfl<|oD (oG [] w3) λr4 w4 _ f4 o=>o.z' 0 rfl λw5 o _=>oB o 0 rfl ps[i].1.1 rfl (oB o 0 rfl ps[i].1.2 rfl ?_);have f5:=U.trans o.fr;refine qxw (aj.q9 f5) (ak.q9 f5) (py ok.1) (py ok.2.1) ⟨py ok.2.2.1,py ok.2.2.2⟩ λw6 f6=>oD (o.q9 f6) λr7 w7 _ f7 o=>o.z' 0 rfl λw8 o _=>y_ (Mj o 0 d ?_);refine qE6 (b3.q9 o.fr) (by rw[yL];omega) λs9 B9 w9 b9 f9 n9=>⟨B9,?_,(U.trans o.fr).j8 f9 λx hx=>.inr (n3 x hx),λx hx=>(n9 x hx).elim (n3 x) λh=>zL (U.trans o.fr).size h⟩;rw[yG O,aa];exact b9;have E:i=ps.length:=oL;subst E;rw[af,xY] at b3;have f:=(g.trans f1).trans f2;exact kk s3 B3 w3 b3 (f.trans U) (λx hx=>zL f.size (n3 x hx)) G.2
def pH(h:lH x):IntKind.u64.has x:=show (0:Int)<=x/\x<=18446744073709551615 from⟨h.1,oL⟩
def Kd(h:0<=x/\x<65536):IntKind.u16.has x:=show (0:Int)<=x/\x<=65535 from⟨h.1,oL⟩
def mv:IntKind.u64.has 0:=pH ⟨oO,oO⟩
def I3:dV eH iV:=⟨mv,mv,mv,mv,mv,mv,mv,mv,mv,mv,mv,show (0:Int)<=0/\(0:Int)<=4294967295 from⟨oO,oO⟩,Kd ⟨oO,oO⟩,Kd ⟨oO,oO⟩,mv⟩
def JL{x:e9}(E:ji x)(h:dV eH a):dV eH (pQ x a):=⟨h.1,h.2.1,pH E.1,pH E.2,h.2.2.2.2⟩
def JO{x:e9}(E:ji x)(h:dV eH a):dV eH (ol x a):=⟨h.1,h.2.1,h.2.2.1,h.2.2.2.1,h.2.2.2.2.1,h.2.2.2.2.2.1,pH E.1,pH E.2,h.2.2.2.2.2.2.2.2⟩
def Kz(E:0<=x/\x<65536)(h:dV eH a):dV eH (lc x a):=⟨h.1,h.2.1,h.2.2.1,h.2.2.2.1,h.2.2.2.2.1,h.2.2.2.2.2.1,h.2.2.2.2.2.2.1,h.2.2.2.2.2.2.2.1,h.2.2.2.2.2.2.2.2.1,h.2.2.2.2.2.2.2.2.2.1,h.2.2.2.2.2.2.2.2.2.2.1,h.2.2.2.2.2.2.2.2.2.2.2.1,h.2.2.2.2.2.2.2.2.2.2.2.2.1,Kd E,h.2.2.2.2.2.2.2.2.2.2.2.2.2.2⟩
def Fz(h:0<=x/\x<65536):0<=me x 16/\me x 16<65536:=by
 unfold me;split
 ·next e=>unfold hasB at e;have:=zC e;omega
 exact h
def qyF{t:HL eu}{q:Pa}(I:dV eu t)(J:dV eH p.1)(O:dV eH p.2.1)(h:lR t p=some q):dV eH q.1/\dV eH q.2.1:=by obtain⟨x,U,h⟩:=Option.bind_eq_some_iff.1 h;obtain⟨y,V,rfl⟩:=yT.1 h;have E:=JL (EN (Au J) (u5 I) U).2 J;have G:=JO (EN (AS O) (u5 I) V).2 O;constructor;split;exact Kz (Fz (sC E)) E;exact E;dsimp only;split;exact Kz (Fz (sC G)) G;exact G
def Hb.m7(h:Hb T b)(i:e9):dV eH ((dZ b i).getD iV):=by
 cases E:dZ b i with|none=>exact I3|some a=>exact h.acc.2 a (mem_of_find?_eq_some E)
def Hb.ER(h:Hb T b)(E:eM b i=some k):sV k/\kV k=i:=⟨h.gL.2 k (mem_of_find?_eq_some E),by simpa using List.find?_some E⟩
def SB.hb(h:SB w Y sb F c b):∃T,Hb T b:=by obtain⟨pb,dbk,FD,J,D,M,Fo,rfl,O,E,G,I,U,V⟩:=h;exact⟨_,I⟩
def fI (t:HL eu):e9:=(t.2.2.1,t.2.2.2.1)
def fJ (t:HL eu):e9:=(t.2.2.2.2.1,t.2.2.2.2.2.1)
def pX (b:Bk) (d:HL kK) (n:Int):Bk:=
 let k:=(eM b (xv d)).getD nE
 ((fE b ((lR k.1 (mo b (fI k.1) (fJ k.1))).getD ux) n).fG (gb k.1,4)).iI d
def BP (c:Nat) (b:Bk) (d:HL kK):Prop:=d∈b.due/\(∃k q,eM b (xv d)=some k/\lR k.1 (mo b (fI k.1) (fJ k.1))=some q)/\b.rm+9<=3*c
def lO:Bk->List (HL kK)->Int->Bk
 | b,[],_=>b
 | b,d::r,n=>lO (pX b d n) r ((n+1)%18446744073709551616)
def px (c:Nat):Bk->List (HL kK)->Int->Prop
 | _,[],_=>True
 | b,d::r,n=>BP c b d/\px c (pX b d n) r ((n+1)%18446744073709551616)
def qzm:(fE b p n).rm<=b.rm+8:=by have h:=Bk.pA (b:=b) (a:=p.1);have E:=Bk.pA (b:=b.fp p.1) (a:=p.2.1);have G:=KH (b:=(b.fp p.1).fp p.2.1) (a:=p.1) (s:=1) (n:=n);have I:=KH (b:=k7 ((b.fp p.1).fp p.2.1) p.1 1 n) (a:=p.2.1) (s:=2) (n:=n);unfold fE;omega
def qxN:(fE b p n).due=b.due:=by unfold fE k7;split<;>split<;>rfl
variable {K:Int->WP} {F':Mk}
def H9{w1:Md}{d:HL kK}{q:Pa}{G I r6 r1:Nat}{o6:Obj}(h:SB w Y sb F c b)(o:dY [] w w1 [(G,.c (kJ ux).toArray qP),(I,LH eu k.1 43),(r6,o6),(r1,LH kK d Lb)])(V:d∈b.due)(hk:eM b (xv d)=some k)(hq:lR k.1 (mo b (fI k.1) (fJ k.1))=some q)(hr:b.rm+9<=3*c)(hn:IntKind.u64.has n)(kk:∀F' w',SB w' Y sb F' c (pX b d n)->lL F w F' w'->K 0 w'):Gt (pW sb) n K (kJ q,true) G w1 I r1:=by obtain⟨T,O⟩:=h.hb;have E:=(O.ER hk).1;have U:=O.due.2 d V;have J:=qyF E.1 (O.m7 _) (O.m7 _) hq;have e:pX b d n=((fE b q n).fG (gb k.1,4)).iI d:=(by unfold pX;rw[hk];simp only[xT];rw[hq];rfl);rw[e] at kk;refine nc (qn q) (o.z' 0 rfl λw2 o _=>x_ (lW (o.at (i:=0) rfl) _ (qn q) rfl ?_));have f:=o.fr;have h:=h.J0 o;have z:=qzm (b:=b) (p:=q) (n:=n);have z2:=Bk.nt (b:=fE b q n) (x:=(gb k.1,4));refine Ka h J.1 J.2 hn oL λF3 w3 h3 s3=>x_ ?_;have o:=h.own o s3;refine Mj o 1 (k.1.1,k.1.2.1) (KD h3 oL ⟨E.1.1,E.1.2.1⟩ (show (0:Int)<=4/\(4:Int)<=255 from⟨oO,oO⟩) λF4 w4 h4 s4=>x_ ?_);have o:=h3.own o s4;refine Mj o 3 d (qxE h4 ?_ U (by show d∈(fE b q n).due;rw[qxN];exact V) λF5 w5 h5 s5=>?_);exact zL z2 oL;exact kk F5 w5 (h5.y4 λ_ h=>zI _ h) (.pre f ((s3.trans s4).trans s5))
def qE2{d:HL kK}(h:SB w Y sb F c b)(ok:BP c b d)(hn:IntKind.u64.has n)(kk:∀F' w',SB w' Y sb F' c (pX b d n)->lL F w F' w'->K 0 w'): cW 85 [dM sb,.agg #[.w d.1,.w d.2.1,.w d.2.2.1,.w d.2.2.2],.w n] dj w K:=by
 refine qtc ?_;obtain⟨V,⟨k,q,J,I⟩,hr⟩:=ok;obtain⟨T,hb⟩:=h.hb;have E:=(hb.ER J).1;have O:dV kK d:=hb.due.2 d V;have hz:=CW;have af:=yk;have gD:lU (fI k.1):=⟨E.1.2.2.1,E.1.2.2.2.1⟩;have gC:lU (fJ k.1):=⟨E.1.2.2.2.2.1,E.1.2.2.2.2.2.1⟩;have hA:=hb.m7 (fI k.1);have hC:=hb.m7 (fJ k.1);refine oD (oG [] w) λr1 w1 _ f1 o=>Mj o 0 (d.2.2.1,d.2.2.2) (Dj (h.q9 f1) ⟨O.2.2.1,O.2.2.2⟩ λw2 f2=>?_);rw[show eM b (d.2.2.1,d.2.2.2)=some k from J];refine oK (o.q9 f2) af λr6 w3 _ o=>nc (sE k) (o.z' 0 rfl λw4 o _=>Mj o 0 k.1 (oD o λar w5 _ f5 o=>o.z' 0 rfl λw6 o _=>?_));have o:=o.drew;refine⟨Mj o 0 k.1 (Mj o 0 (fI k.1) (Mj o 0 (fJ k.1) (Ca (h.q9 o.fr) gD gC λw7 G=>gY ((o.q9 G).cells 0) (G4 (am:=(0,0)) E.1 hA hC I λw8 U=>oK ((o.q9 G).q9 U) hz λr9 w9 _ o=>nh (o.cells 1) (o.cells 1) (o.cells 1) ?_)))),
  Mj o 0 k.1 (Mj o 0 (fI k.1) (Mj o 0 (fJ k.1) (Ca (h.q9 o.fr) gD gC λw7 G=>gY ((o.q9 G).cells 0) (oK (o.q9 G) hz λr9 w9 _ o=>nh (o.cells 1) (o.cells 1) (o.cells 1) (G4 (am:=(0,0)) E.1 hA hC I λw8 U=>?_))))),
  Mj o 0 k.1 (Mj o 0 (fI k.1) (Mj o 0 (fJ k.1) (oK o hz λr9 w9 _ o=>nh (o.cells 1) (o.cells 1) (o.cells 1) (Ca (h.q9 o.fr) gD gC λw7 G=>gY ((o.q9 G).cells 1) (G4 (am:=(0,0)) E.1 hA hC I λw8 U=>?_)))))⟩
 exact H9 h o V J I hr hn kk;exact H9 h (o.q9 U) V J I hr hn kk;exact H9 h ((o.q9 G).q9 U) V J I hr hn kk
def SB.flt(h:SB w Y sb F c b):∀x∈F,x<w.z:=by obtain⟨pb,dbk,FD,O,D,M,Fo,rfl,E,G,I,U,V,hj⟩:=h;exact λx J=>(zD.1 J).elim (λh=>E.tw.x8.rN x (zH _ h)) λh=>E.tw.x8.lt x h
def qB7{J0:Int}:(lp l J0 most).length<=l.length:=by unfold lp;rw[yL];exact zL (Nat.min_le_right _ _) (length_filter_le _ _)
variable {K:Mo->WP} {b':Bk}
def qBE{first:Int}(h:SB w Y sb F c b)(hn:IntKind.u64.has first)(hd:yg b.due)(hl:b.size<=90000)(ok:px c b (lp b.due first most) first)(kk:∀F' w',SB w' Y sb F' c (lO b (lp b.due first most) first)->lL F w F' w'->K (((lp b.due first most).length:Int),0) w'): cW 51 [dM sb,.w first,.i most] dv w K:=by
 refine qpF ?_;have hz:b.due.length<=b.size:=(by unfold Bk.size;omega);have ab:=qB7 (l:=b.due) (J0:=first) (most:=most);refine qDr h hn hd hl λs B w1 hB f1 nB _=>?_;generalize lp b.due first most=l at ok kk hB ab;have ad:=hB.len;have hR:=hB.ju qr1 λx hx hF=>by have:=nB x hx;have:=h.flt x hF;omega
 have hu:=py hn;refine lD (λq w'=>∃i:Nat,∃F' bi,q=i/\i<=l.length/\SB w' Y sb F' c bi/\eT qX 4 F' w' s l/\lL F w F' w'/\px c bi (l.drop i) ((first+i)%18446744073709551616)/\lO bi (l.drop i) ((first+i)%18446744073709551616)=lO b l first) (λq _=>l.length-q.toNat) ⟨0,F,b,rfl,yX _,h.q9 f1,hR,.pre f1 (.refl _ _),by rw[show (first+((0:Nat):Int))%18446744073709551616=first by omega];exact ok,by rw[show (first+((0:Nat):Int))%18446744073709551616=first by omega];rfl⟩ ?_;rintro q w2 ⟨i,F2,bi,rfl,hi,h2,J,s2,G,O⟩ X hX;apply cD<;>intro hc
 ·have E:i<l.length:=oL;rw[zX E] at G O;have en:wrap .u64 (first+wrap .u64 (i:Int))=(first+i)%18446744073709551616:=(by rw[qV (i:Int) ⟨oL,oL⟩];unfold wrap;have:(IntKind.u64.signed)=false:=rfl;rfl);rw[en];refine eT.qC J i rfl (zA E) rfl rfl<|oD (oG [] w2) λr3 w3 _ f3 o=>o.z' 0 rfl λw4 o _=>oE o 0 rfl l[i] rfl<|qE2 (h2.q9 o.fr) G.1 (pH ⟨oL,oL⟩) λF5 w5 h5 s5=>x_ ?_;rw[gJ _ oL];have U:((first+(i:Int))%18446744073709551616+1)%18446744073709551616=(first+((i+1:Nat):Int))%18446744073709551616:=oL;have V:=G.2;rw[U] at V;rw[lO,U] at O;have I:=lL.pre o.fr s5;exact hX _ _ ⟨i+1,F5,_,rfl,E,h5,J.j0 I.fr I.new,s2.trans I,V,O⟩ oL
 have E:i=l.length:=oL;subst E;rw[drop_length,lO] at O;rw[ad];rw[O] at h2;exact kk F2 w2 h2 s2
def uu (x k:Int):Int:=if hasB x k then x else x+k
def kQ (t:HL eu):Int:=t.2.2.2.2.2.2.2.2.2.2.2.1
def kR (t:HL eu):Int:=t.2.2.2.2.2.2.2.2.2.2.2.2.2.2.2
def iD (t:HL eu):Option Int:=if kQ t=0 then none else if kR t+kQ t<18446744073709551616 then some (kR t+kQ t) else none
def eQ (a:HL eH):e9×e9:=((a.2.2.2.2.1,a.2.2.2.2.2.1),(a.2.2.2.2.2.2.2.2.1,a.2.2.2.2.2.2.2.2.2.1))
def uO (a:HL eH):Int:=a.2.2.2.2.2.2.2.2.2.2.1
def jM (a:HL eH):Int:=a.2.2.2.2.2.2.2.2.2.2.2.1
def ph (a:HL eH):Int:=a.2.2.2.2.2.2.2.2.2.2.2.2.1
def wD (a:HL eH):Int:=a.2.2.2.2.2.2.2.2.2.2.2.2.2.2
def vO (x:e9):HL eH->HL eH:=λ(h,E,G,I,J,O,r)=>(h,E,G,I,x.1,x.2,r)
def vU (x:e9):HL eH->HL eH:=λ(h,E,G,I,J,O,c0,c1,U,V,r)=>(h,E,G,I,J,O,c0,c1,x.1,x.2,r)
def js (x:Int):HL eH->HL eH:=λ(h,E,G,I,J,O,c0,c1,U,V,t,l,k,f,n)=>(h,E,G,I,J,O,c0,c1,U,V,t,l,k,f,x)
def iB (t:HL eu):e9:=(t.2.2.2.2.2.2.2.2.1,t.2.2.2.2.2.2.2.2.2.1)
def wE (t:HL eu):Int:=t.2.2.2.2.2.2.2.2.2.2.1
def mc (t:HL eu):Int:=t.2.2.2.2.2.2.2.2.2.2.2.2.1
def mz (t:HL eu):Int:=t.2.2.2.2.2.2.2.2.2.2.2.2.2.1
def li:e9:=(18446744073709551615,18446744073709551615)
def gr (t:HL eu):Bool:=hasB (dT t) 4||hasB (dT t) 8
def mX (t:HL eu):Int:=if kR t≠0 then 3 else if dT t>255 then 4 else if gb t=(0,0) then 5 else if gb t=li then 6 else 0
def nm {α:Type} [DecidableEq α] (t:HL eu) (none h there:α):α:=if gr t=true/\h=none then there else h
def kY (t:HL eu) (k:Kp):Int:=
 if dT t≠dT k.1 then 7 else if iB t≠iB k.1 then 8 else if kQ t≠kQ k.1 then 9 else if nm t (0,0) (fI t) (fI k.1)≠fI k.1 then 10
 else if nm t (0,0) (fJ t) (fJ k.1)≠fJ k.1 then 11 else if fM t≠k.2 then 12 else if wE t≠wE k.1 then 13
 else if nm t 0 (mc t) (mc k.1)≠mc k.1 then 14 else if nm t 0 (mz t) (mz k.1)≠mz k.1 then 15 else 16
def jz (t:HL eu):Int:=if (hasB (dT t) 4&&hasB (dT t) 8)||(gr t&&(hasB (dT t) 2||hasB (dT t) 16||hasB (dT t) 32||hasB (dT t) 64||hasB (dT t) 128)) then 17 else 0
def pY (t:HL eu):Int:=if fI t=(0,0) then 19 else if fI t=li then 20 else if fJ t=(0,0) then 21 else if fJ t=li then 22 else if fI t=fJ t then 23 else 0
def qw (t:HL eu):Int:=
 if iB t≠(0,0) then 24 else if kQ t≠0/\hasB (dT t) 2=false then 25 else if (hasB (dT t) 64||hasB (dT t) 128)=true/\hasB (dT t) 2=false then 26
 else if mc t=0 then 27 else if mz t=0 then 28 else 0
def rV (t:HL eu) (p:Pa):Int:=
 if p.2.2.1=false then 29 else if p.2.2.2=false then 30 else if jM p.1≠jM p.2.1 then 31 else if mc t≠jM p.1 then 32
 else if hasB (eJ p.1) 16 then 33 else if hasB (eJ p.2.1) 16 then 34 else 0
def tO (t:HL eu) (n room:Int):Int:=if room≠0/\room≠42/\room≠43 then room else if kQ t>18446744073709551615-n then 41 else room
def wt (a b:e9):e9:=(oo a b).getD (0,0)
def qp (G I E:e9):e9:=match jK G I with|none=>(0,0)|some h=>wt E h
def jr (a b:e9):e9:=if wv b<wv a then b else a
def lw (t:HL eu) (p:Pa):e9:=
 let o:=if hasB (dT t) 16 then jr (fM t) (qp (i6 p.1) (eQ p.1).1 (eQ p.1).2) else fM t
 if hasB (dT t) 32 then jr o (qp (ja p.2.1) (eQ p.2.1).2 (eQ p.2.1).1) else o
def sH (a b c:e9):Option e9:=(jK a b).bind λx=>jK x c
def rW (t:HL eu) (a:HL eH):e9:=if hasB (dT t) 2 then i6 a else (eQ a).1
def sI (t:HL eu) (a:HL eH):e9:=if hasB (dT t) 2 then ja a else (eQ a).2
def my (t:HL eu) (x:e9) (a:HL eH):HL eH:=if hasB (dT t) 2 then pQ x a else vO x a
def k6 (t:HL eu) (x:e9) (a:HL eH):HL eH:=if hasB (dT t) 2 then ol x a else vU x a
def ry (t:HL eu) (am:e9) (p:Pa):Int:=
 if jK (rW t p.1) am=none then (if hasB (dT t) 2 then 35 else 37) else if jK (sI t p.2.1) am=none then (if hasB (dT t) 2 then 36 else 38)
 else match sH (i6 p.1) (eQ p.1).1 am,sH (ja p.2.1) (eQ p.2.1).2 am with|none,_=>39|some _,none=>40|some d,some c=>if hasB (eJ p.1) 2=true/\wv d>wv (eQ p.1).2 then 42 else if hasB (eJ p.2.1) 4=true/\wv c>wv (eQ p.2.1).1 then 43 else 0
def jD (t:HL eu) (n:Int) (p:Pa):Int×e9:=
 if pY t≠0 then (pY t,(0,0)) else if qw t≠0 then (qw t,(0,0)) else if rV t p≠0 then (rV t p,(0,0))
 else if tO t n (ry t (lw t p) p)≠0 then (tO t n (ry t (lw t p) p),(0,0)) else (0,lw t p)
def rT (t:HL eu) (am:e9) (p:Pa):Option Pa:=(jK (rW t p.1) am).bind λx=>(jK (sI t p.2.1) am).map λy=>
 (let d:=my t x p.1;if hasB (dT t) 64 then lc (uu (eJ d) 16) d else d,let c:=k6 t y p.2.1;if hasB (dT t) 128 then lc (uu (eJ c) 16) c else c,p.2.2)
def lY (t:HL eu) (am:e9) (n:Int):Kp:=
 ((λ(h,E,G,I,c0,c1,_,_,w0,w1,g,o,l,k,f,_)=>(h,E,G,I,c0,c1,am.1,am.2,w0,w1,g,o,l,k,f,n):HL eu->HL eu) t,fM t)
def iO (b:Bk) (t:HL eu):Bk:=if hasB (dT t) 2 then match iD t with|some x=>(b.fG (gb t,1)).ou (x,kR t,(gb t).1,(gb t).2)|none=>b.fG (gb t,1)
 else b
def oX (b:Bk) (t:HL eu) (n:Int):Int×Bk:=
 let p:=mo b (fI t) (fJ t)
 let c:=jD t n p
 if c.1≠0 then (c.1,b) else (0,fE (iO (b.dS (lY t c.2 n)) (lY t c.2 n).1) ((rT t c.2 p).getD ux) n)
def yo (t:HL eu) (n:Int):Bool:=match iD t with|some x=>decide (x<=n)|none=>false
def gO (t:HL eu):Int:=if iB t=(0,0) then 44 else if iB t=li then 45 else if iB t=gb t then 46 else if kQ t≠0 then 25 else 0
def iQ (t q:HL eu) (there:Bool):Int:=
 if there=false then 47 else if hasB (dT q) 2=false then 48 else if fI t≠(0,0)/\fI t≠fI q then 49 else if fJ t≠(0,0)/\fJ t≠fJ q then 50
 else if mc t≠0/\mc t≠mc q then 51 else if mz t≠0/\mz t≠mz q then 52
 else if hasB (dT t) 4=true/\fM t≠li/\wv (fM t)>wv (fM q) then 53 else if hasB (dT t) 4=false/\hasB (dT t) 8=true/\fM t≠(0,0)/\fM t≠fM q then 54 else 0
def lN (q:HL eu) (st n:Int):Int:=if st=2 then 55 else if st=3 then 56 else if st=4 then 57 else if yo q n then 57 else 0
def qo (t:HL eu) (p:Pa):Int:=if hasB (dT t) 4=false then 0 else if hasB (eJ p.1) 16 then 33 else if hasB (eJ p.2.1) 16 then 34 else 0
def nK (t:HL eu) (n:Int) (q:HL eu) (there:Bool) (st:Int) (p:Pa):Int×e9:=
 let v:=if gO t≠0 then gO t else if iQ t q there≠0 then iQ t q there else if lN q st n≠0 then lN q st n else qo t p
 if v≠0 then (v,(0,0)) else if hasB (dT t) 4=true/\fM t≠li then (0,fM t) else (0,fM q)
def lz (q:HL eu) (am:e9) (h:Bool) (p:Pa):Option Pa:=if h then
  (oo (i6 p.1) (fM q)).bind λx=>(oo (ja p.2.1) (fM q)).bind λy=>(jK (eQ p.1).1 am).bind λu=>(jK (eQ p.2.1).2 am).map λv=>
   (vO u (pQ x p.1),vU v (ol y p.2.1),p.2.2)
 else lR q p
def kL (t q:HL eu) (am:e9) (n:Int):Kp:=
 ((λ(h,E,_,_,_,_,_,_,w0,w1,g,o,_,_,f,_)=>(h,E,(fI q).1,(fI q).2,(fJ q).1,(fJ q).2,am.1,am.2,w0,w1,g,o,mc q,mz q,f,n):HL eu->HL eu) t,fM t)
def jv (b:Bk) (q:HL eu):Bk:=match iD q with|some x=>b.iI (x,kR q,0,0)|none=>b
def rq (b:Bk) (t:HL eu) (n:Int):Int×Bk:=
 let k:=(eM b (iB t)).getD nE
 let p:=mo b (fI k.1) (fJ k.1)
 let c:=nK t n k.1 (eM b (iB t)).isSome (iM b (iB t)) p
 if c.1≠0 then (c.1,b) else (0,fE (jv ((b.dS (kL t k.1 c.2 n)).fG (iB t,if hasB (dT t) 4 then 2 else 3)) k.1) ((lz k.1 c.2 (hasB (dT t) 4) p).getD ux) n)
def kX (b:Bk) (t:HL eu) (n:Int):Int×Bk:=
 if mX t≠0 then (mX t,b) else match eM b (gb t) with|some k=>(kY t k,b)|none=>if jz t≠0 then (jz t,b) else if gr t then rq b t n else oX b t n
def nO (a o:HL eH):Int:=if eJ a≠me (eJ o) 16 then 7 else if uO a≠uO o then 13 else if jM a≠jM o then 14 else if ph a≠ph o then 15 else 16
def jN (a o:HL eH) (there:Bool):Int:=
 if wD a≠0 then 3 else if 16<=eJ a then 4 else if fP a=(0,0) then 5 else if fP a=li then 6 else if there then nO a o
 else if hasB (eJ a) 2=true/\hasB (eJ a) 4=true then 17 else if ¬(i6 a=(0,0)/\(eQ a).1=(0,0)/\ja a=(0,0)/\(eQ a).2=(0,0)) then 18 else if jM a=0 then 27 else if ph a=0 then 28 else 0
def mD (b:Bk) (a:HL eH) (n:Int):Int×Bk:=
 let v:=jN a ((dZ b (fP a)).getD iV) (dZ b (fP a)).isSome
 if v≠0 then (v,b) else (0,b.fp (js n a))
def gE:Nat->Nat->List Bool->List (My)
 | _,_,[]=>[]
 | iZ,i,[x]=>[(iZ,i+1,x)]
 | iZ,i,x::y::r=>if x then gE iZ (i+1) (y::r) else (iZ,i+1,false)::gE (i+1) (i+1) (y::r)
def iR (f:Bk->Nat->Int×Bk):Nat->Nat->Bk->Option (Nat×Int)×Bk
 | _,0,b=>(none,b)
 | i,m+1,b=>if (f b i).1≠0 then (some (i,(f b i).1),(f b i).2) else iR f (i+1) m (f b i).2
def iC (iZ to at_:Nat) (v:Int):List (Mo):=(List.range' iZ (to-iZ)).map λi:Nat=>((i:Int),if i=at_ then v else (1:Int))
def jO (f:Bk->Nat->Int×Bk) (b:Bk) (c:My):Bk×List (Mo):=
 if c.2.2 then (b,iC c.1 c.2.1 (c.2.1-1) 2) else match iR f c.1 (c.2.1-c.1) b with|(none,b')=>(b',[])|(some (i,v),_)=>(b,iC c.1 c.2.1 i v)
def fD (f:Bk->Nat->Int×Bk):Bk->List (My)->Bk×List (Mo)
 | b,[]=>(b,[])
 | b,c::r=>((fD f (jO f b c).1 r).1,(jO f b c).2++(fD f (jO f b c).1 r).2)
def jp (f:Bk->Nat->Int×Bk) (b:Bk) (first:Int) (h:List Bool):Bk×List (Mo):=
 let r:=fD f b (gE 0 0 h)
 if h=[] then r else (r.1.iK (first+h.length-1),r.2)
def Df{α κ:Type}[DecidableEq κ]{kf:α->κ}{a:α}{i:κ}:∀ {l:List α},(iT kf a l).find? (λx=>decide (kf x=i))=if kf a=i then some a else l.find? λx=>decide (kf x=i)
 | []=>by unfold iT;by_cases h:kf a=i;simp;simp
 | x::r=>by unfold iT;by_cases e:kf x=kf a;rw[iP e,List.find?_cons,List.find?_cons,e];by_cases h:kf a=i;simp[h];simp[h];rw[iN e,List.find?_cons,List.find?_cons,Df (l:=r)];by_cases h:kf a=i;rw[iP h,iP h,zU (by rw[<- h];exact e)];rw[iN h,iN h]
def BN:dZ (b.fp a) i=if fP a=i then some a else dZ b i:=Df
def Jr{x:e9×Int}:iM (b.fG x) i=if x.1=i then x.2 else iM b i:=by unfold iM Bk.fG;rw[Df];by_cases h:x.1=i;rw[iP h,iP h];rfl;rw[iN h,iN h]
def qrG(h:b.acc=b'.acc)(i:e9):dZ b i=dZ b' i:=by unfold dZ;rw[h]
def qA3(h:b.gL=b'.gL)(i:e9):eM b i=eM b' i:=by unfold eM;rw[h]
def Ez(h:b.lP=b'.lP)(i:e9):iM b i=iM b' i:=by unfold iM;rw[h]
def vp(h:dZ b i=some a):a∈b.acc/\fP a=i:=⟨mem_of_find?_eq_some h,by simpa using List.find?_some h⟩
def Gq(h:eM b i=some k):k∈b.gL/\kV k=i:=⟨mem_of_find?_eq_some h,by simpa using List.find?_some h⟩
def Lv(h:eM b i=none):∀k∈b.gL,kV k≠i:=λk E=>by simpa using List.find?_eq_none.1 h k E
def Jb{α κ:Type}[DecidableEq κ]{kf:α->κ}{a x:α}:∀ {l:List α},(∀y∈l,kf y≠kf a)->(x∈iT kf a l↔x=a\/x∈l)
 | [],_=>by unfold iT;simp
 | y::r,h=>by unfold iT;rw[iN (h y oN),zG,Jb (l:=r) λz E=>h z (zN _ E),zG];constructor<;>(intro h;rcases h with h|h|h<;>simp[h])
def Gs{α κ:Type}[DecidableEq κ]{kf:α->κ}{a:α}{g:α->Int}:∀ {l:List α},(∀y∈l,kf y≠kf a)->((iT kf a l).map g).sum=(l.map g).sum+g a
 | [],_=>by unfold iT;simp
 | y::r,h=>by unfold iT;rw[iN (h y oN),xM,sum_cons,Gs (l:=r) λz E=>h z (zN _ E),xM,sum_cons];omega
def qvo{α κ:Type}{kf:α->κ}{k:α}{g I:α->Int}:∀ {l:List α},(l.map kf).Nodup->k∈l->(∀x∈l,kf x≠kf k->I x=g x)->(l.map I).sum=(l.map g).sum-g k+I k
 | x::r,h,E,J=>by
  rw[xM,LP] at h;rw[xM,sum_cons,xM,sum_cons];rcases zG.1 E with rfl|E;have:=map_congr_left λy G=>J y (zN _ G) λe=>h.1 (by rw[<- e];exact zY G);rw[this];omega;rw[qvo h.2 E λy G=>J y (zN _ G),J x oN λe=>h.1 (by rw[e];exact zY E)];omega
def Hc{α β:Type}{f:α->β}{l:List α}(h:(l.map f).Nodup){x y:α}(I:x∈l)(J:y∈l)(e:f x=f y):x=y:=by
 induction l with
 | nil=>cases I
 | cons a l ih=>
  rw[xM,LP] at h;rcases zG.1 I with G|G;rcases zG.1 J with E|E;rw[G,E];exact absurd (by rw[<- G,e];exact zY E) h.1;rcases zG.1 J with E|E;exact absurd (by rw[<- E,<- e];exact zY G) h.1;exact ih h.2 G E
def Gg{α:Type}{g:α->Int}{l:List α}(h:∀x∈l,g x=0):(l.map g).sum=0:=by
 induction l with|nil=>rfl|cons a l ih=>rw[xM,sum_cons,h a oN,ih λx E=>h x (zN _ E)];rfl
def qFg{α:Type}{g:α->Int}{l:List α}(h:∀x∈l,0<=g x):0<=(l.map g).sum:=by
 induction l with
 | nil=>exact Int.le_refl _
 | cons a l ih=>
  have:=ih λx E=>h x (zN _ E);have:=h a oN;rw[xM,sum_cons];omega
def qxd{α:Type}{g:α->Int}{l:List α}(h:∀x∈l,0<=g x){k:α}(E:k∈l):g k<=(l.map g).sum:=by
 induction l with
 | nil=>cases E
 | cons a l ih=>
  have J:=h a oN;have G:=λx I=>h x (zN a I);have:=qFg G;rw[xM,sum_cons];rcases zG.1 E with rfl|E;omega;have:=ih G E;omega
def ig (b:Bk) (k:Kp):Bool:=hasB (dT k.1) 2&&decide (iM b (kV k)=1)
def uD (k:Kp):Bool:=!hasB (dT k.1) 2&&!hasB (dT k.1) 8
def nY (side:HL eu->e9) (b:Bk) (i:e9) (k:Kp):Int:=if side k.1=i/\ig b k=true then wv (fM k.1) else 0
def vL (side:HL eu->e9) (i:e9) (k:Kp):Int:=if side k.1=i/\uD k=true then wv (fM k.1) else 0
def ky (side:HL eu->e9) (b:Bk) (i:e9):Int:=(b.gL.map (nY side b i)).sum
def k8 (side:HL eu->e9) (b:Bk) (i:e9):Int:=(b.gL.map (vL side i)).sum
def nS (a:HL eH):Prop:=wv (i6 a)+wv (eQ a).1<18446744073709551616*18446744073709551616/\wv (ja a)+wv (eQ a).2<18446744073709551616*18446744073709551616/\(hasB (eJ a) 2=true->wv (i6 a)+wv (eQ a).1<=wv (eQ a).2)/\(hasB (eJ a) 4=true->wv (ja a)+wv (eQ a).2<=wv (eQ a).1)
def qF (k:Kp) (x:Int):HL kK:=(x,kR k.1,(kV k).1,(kV k).2)
structure lh (n:Int) (b:Bk):Prop where
 hb:∃ T,Hb T b
 wG:∀ k∈b.gL,jz k.1=0
 A9:∀ k∈b.gL,fI k.1≠fJ k.1/\∃ x y,dZ b (fI k.1)=some x/\dZ b (fJ k.1)=some y/\jM x=jM y
 lP:∀ k∈b.gL,hasB (dT k.1) 2=true->1<=iM b (kV k)/\iM b (kV k)<=4
 rz:∀ i a,dZ b i=some a->wv (i6 a)=ky fI b i/\wv (eQ a).1=k8 fI b i/\wv (ja a)=ky fJ b i/\wv (eQ a).2=k8 fJ b i
 lim:∀ i a,dZ b i=some a->nS a
 due:yg b.due
 tk:∀ d,d∈b.due↔∃ k∈b.gL,ig b k=true/\iD k.1=some d.1/\d=qF k d.1
 Cn:∀ k∈b.gL,kR k.1<n
def lh.mono{n':Int}(h:lh n b)(E:n<=n'):lh n' b:=⟨h.hb,h.wG,h.A9,h.lP,h.rz,h.lim,h.due,h.tk,λk G=>Int.lt_of_lt_of_le (h.Cn k G) E⟩
def lh.m7(h:lh n b)(E:dZ b i=some a):dV eH a:=by obtain⟨T,G⟩:=h.hb;exact G.acc.2 a (vp E).1
def lh.qD(h:lh n b)(E:k∈b.gL):sV k:=by obtain⟨T,G⟩:=h.hb;exact G.gL.2 k E
def lh.Gx(h:lh n b):(b.gL.map kV).Nodup:=by obtain⟨T,E⟩:=h.hb;exact E.gL.nodup
structure tP (x x':HL eH) (p q r s:Int):Prop where
 fit:dV eH x'
 id:fP x'=fP x
 Kq:jM x'=jM x
 wG:hasB (eJ x') 2=hasB (eJ x) 2/\hasB (eJ x') 4=hasB (eJ x) 4
 rz:wv (i6 x')=wv (i6 x)+p/\wv (eQ x').1=wv (eQ x).1+q/\wv (ja x')=wv (ja x)+r/\wv (eQ x').2=wv (eQ x).2+s
def qwS:hasB (uu x 16) 2=hasB x 2/\hasB (uu x 16) 4=hasB x 4:=by unfold uu;split;exact⟨rfl,rfl⟩;unfold hasB;constructor<;>(rw[LM];omega)
def qux:hasB (me x 16) 2=hasB x 2/\hasB (me x 16) 4=hasB x 4:=by unfold me;split;unfold hasB;constructor<;>(rw[LM];omega);exact⟨rfl,rfl⟩
def tP.fl{x x':HL eH}{p q r s f:Int}(h:tP x x' p q r s)(G:0<=f/\f<65536)(E:hasB f 2=hasB (eJ x') 2/\hasB f 4=hasB (eJ x') 4):tP x (lc f x') p q r s:=
 ⟨Kz G h.fit,h.id,h.Kq,⟨E.1.trans h.wG.1,E.2.trans h.wG.2⟩,h.rz⟩
def qAp(h:0<=x/\x<65536):0<=uu x 16/\uu x 16<65536:=by
 unfold uu;split;exact h
 ·next e=>unfold hasB at e;simp only[decide_eq_true_eq] at e;omega
def u9(h:dV eH a):ji (eQ a).1/\ji (eQ a).2:=⟨⟨py h.2.2.2.2.1,py h.2.2.2.2.2.1⟩,⟨py h.2.2.2.2.2.2.2.2.1,py h.2.2.2.2.2.2.2.2.2.1⟩⟩
def qsJ{x:e9}(E:ji x)(h:dV eH a):dV eH (vO x a):=⟨h.1,h.2.1,h.2.2.1,h.2.2.2.1,pH E.1,pH E.2,h.2.2.2.2.2.2⟩
def qsI{x:e9}(E:ji x)(h:dV eH a):dV eH (vU x a):=⟨h.1,h.2.1,h.2.2.1,h.2.2.2.1,h.2.2.2.2.1,h.2.2.2.2.2.1,h.2.2.2.2.2.2.1,h.2.2.2.2.2.2.2.1,pH E.1,pH E.2,h.2.2.2.2.2.2.2.2.2.2⟩
def lh.x6{x y x' y':HL eH}{D C:e9}{u v:Int}(h:lh n b)(O:D≠C)(U:dZ b D=some x)(V:dZ b C=some y)(ea:b'.acc=((b.fp x').fp y').acc)(I:tP x x' u v 0 0)(J:tP y y' 0 0 u v)(lx:nS x')(ly:nS y')(h1:∀i,ky fI b' i=ky fI b i+if D=i then u else 0)(h2:∀i,k8 fI b' i=k8 fI b i+if D=i then v else 0)(h3:∀i,ky fJ b' i=ky fJ b i+if C=i then u else 0)(h4:∀i,k8 fJ b' i=k8 fJ b i+if C=i then v else 0): (∀i a,dZ b' i=some a->wv (i6 a)=ky fI b' i/\wv (eQ a).1=k8 fI b' i/\wv (ja a)=ky fJ b' i/\wv (eQ a).2=k8 fJ b' i)/\(∀i a,dZ b' i=some a->nS a)/\∀i a,dZ b i=some a->∃a',dZ b' i=some a'/\jM a'=jM a:=by
 have e1:=I.id.trans (vp U).2;have e2:=J.id.trans (vp V).2;have G:∀i,dZ b' i=if C=i then some y' else if D=i then some x' else dZ b i:=λi=>by rw[qrG ea,BN,BN,e1,e2]
 refine⟨λi a E=>?_,λi a E=>?_,λi a E=>?_⟩
 ·rw[G] at E;rw[h1,h2,h3,h4];split at E
  ·next e=>
   cases E;subst e
   have:=h.rz _ _ V;rw[iN O,iN O,iP rfl,iP rfl,J.rz.1,J.rz.2.1,J.rz.2.2.1,J.rz.2.2.2];omega
  ·next e=>
   rw[iN e,iN e];split at E
   ·next e'=>
    cases E;subst e'
    have:=h.rz _ _ U;rw[iP rfl,iP rfl,I.rz.1,I.rz.2.1,I.rz.2.2.1,I.rz.2.2.2];omega
   ·next e'=>
    have:=h.rz _ _ E;rw[iN e',iN e'];omega
 rw[G] at E;split at E;cases E;exact ly;split at E;cases E;exact lx;exact h.lim _ _ E
 ·rw[G];split
  ·next e=>subst e;rw[V] at E;cases E;exact⟨_,rfl,J.Kq⟩
  ·split
   ·next e=>subst e;rw[U] at E;cases E;exact⟨_,rfl,I.Kq⟩
   exact⟨_,E,rfl⟩
def lh.J8(h:lh n b)(hi:dZ b i=none):ky fI b i=0/\k8 fI b i=0/\ky fJ b i=0/\k8 fJ b i=0:=by
 have G:∀k∈b.gL,fI k.1≠i/\fJ k.1≠i:=λk E=>by obtain⟨_,x,y,I,J,_⟩:=h.A9 k E;exact⟨λe=>(by rw[e,hi] at I;cases I),λe=>(by rw[e,hi] at J;cases J)⟩
 exact⟨Gg λk E=>iN λe=>(G k E).1 e.1,Gg λk E=>iN λe=>(G k E).1 e.1,Gg λk E=>iN λe=>(G k E).2 e.1,Gg λk E=>iN λe=>(G k E).2 e.1⟩
def lh.le(h:lh n b)(E:k∈b.gL)(J:ig b k=true){x y:HL eH}(O:dZ b (fI k.1)=some x)(U:dZ b (fJ k.1)=some y):wv (fM k.1)<=wv (i6 x)/\wv (fM k.1)<=wv (ja y):=by
 have nn:∀(side:HL eu->e9) i,∀k∈b.gL,0<=nY side b i k:=λside i k E=>by
  have:=xh (u5 (h.qD E).1);unfold nY;split<;>omega
 have G:=qxd (nn fI (fI k.1)) E;have I:=qxd (nn fJ (fJ k.1)) E;rw[nY,iP ⟨rfl,J⟩] at G I;rw[(h.rz _ _ O).1,(h.rz _ _ U).2.2.1];exact⟨G,I⟩
def qEC{x y b:Nat}(G:b<=1)(E:K ((((x+y+b)%18446744073709551616:Nat):Int),(((x+y+b) / 18446744073709551616:Nat):Int)) w): ext prog 269 [.w x,.w y,.w b] dy w K:=by
 refine CE (e:=λh=>do
  let (x,y,c) <- Extern.MathBitsCarry.three "Add64" h;pure (Extern.MathBitsCarry.pair ((x+y+c)%Extern.MathBitsCarry.m64) ((x+y+c) / Extern.MathBitsCarry.m64))) Tryz.func269 (by kernel_rfl) (by kernel_rfl) (by kernel_rfl) (by kernel_rfl) _ w ?_ E
 have:b=0\/b=1:=(by omega);rcases this with rfl|rfl<;>rfl
def qzk{y b:Int}(h:lH x)(E:lH y)(I:b=0\/b=1)(G:K ((x+y+b)%18446744073709551616,(x+y+b) / 18446744073709551616) w): ext prog 269 [.w x,.w y,.w b] dy w K:=by obtain⟨x,rfl⟩:=Int.eq_ofNat_of_zero_le h.1;obtain⟨y,rfl⟩:=Int.eq_ofNat_of_zero_le E.1;obtain⟨b,rfl⟩:=Int.eq_ofNat_of_zero_le (show 0<=b by omega);exact qEC oL<|G
variable {K:e9×Bool->WP} {a:e9} {n:Nat} {l:List e9}
def Ad{G h I E:Int}(ha:ji (G,h))(hb:ji (I,E))(kk:∀w',Fr [] w w'->K ((jK (G,h) (I,E)).getD (0,0),(jK (G,h) (I,E)).isSome) w'): cW 220 [df G h,df I E] [.agg dg,.one .bool] w K:=by
 refine qwo ?_;obtain⟨J,O⟩:=ha;obtain⟨U,V⟩:=hb;refine oD (oG [] w) λr1 w1 _ f1 o=>oD o λr3 w2 _ f2 o=>oD o λr5 w3 _ f3 o=>Mi o 2 h (Mi o 1 E (qzk O V (.inl rfl) ?_));refine Mi o 2 G (Mi o 1 I (qzk J U oP ?_));dsimp only;by_cases hs:G+I+(h+E+0) / 18446744073709551616<18446744073709551616;have z:(G+I+(h+E+0) / 18446744073709551616) / 18446744073709551616=0:=oL;have e:jK (G,h) (I,E)=some ((G+I+(h+E+0) / 18446744073709551616)%18446744073709551616,(h+E+0)%18446744073709551616):=by unfold jK wv za;rw[iP];exact Ma some (Prod.ext oP oP)
 rw[z];refine x_ (o.z' 0 rfl λw4 o _=>oE o 0 rfl (_,_) rfl ?_);have:=kk w4 o.fr;rw[e] at this;exact this;have z:(G+I+(h+E+0) / 18446744073709551616) / 18446744073709551616=1:=oL;have e:jK (G,h) (I,E)=none:=by unfold jK wv;rw[iN]
 rw[z];refine y_ (o.z' 0 rfl λw4 o _=>Mj o 0 (0,0) ?_);have:=kk w4 o.fr;rw[e] at this;exact this
def qBJ{G h I E:Int}(ha:ji (G,h))(hb:ji (I,E))(J:∀w',Fr [] w w'->K ((oo (G,h) (I,E)).getD (0,0),(oo (G,h) (I,E)).isSome) w'): cW 215 [df G h,df I E] [.agg dg,.one .bool] w K:=by
 by_cases hle:wv (I,E)<=wv (G,h);have e:oo _ _=some _:=iP hle;exact In ha hb e λw' f=>by have:=J w' f;rw[e] at this;exact this
 have e:oo _ _=none:=iN hle;rw[e] at J;refine qn6 ?_;obtain⟨O,U⟩:=ha;obtain⟨V,aa⟩:=hb;unfold wv at hle;refine oD (oG [] w) λr1 w1 _ f1 o=>oD o λr3 w2 _ f2 o=>oD o λr5 w3 _ f3 o=>Mi o 2 h (Mi o 1 E (Gz U aa (.inl rfl) ?_));refine Mi o 2 G (Mi o 1 I (Gz O V (by dsimp only;split<;>simp) ?_));have hB:(if h<E+0 then (1:Int) else 0)=if h<E then 1 else 0:=by rw[Int.add_zero]
 rw[hB];have ab:G<I+(if h<E then (1:Int) else 0):=(by split<;>omega);rw[iP ab];exact y_ (o.z' 0 rfl λw4 o _=>oE o 0 rfl _ rfl (J w4 o.fr))
def qse{K:Bool->WP}(h:K false w):cW 292 [.w x] dk w K:=by apply qs9;simpa using h
def pD (x y:Int):Int:=if x<y then -1 else if x>y then 1 else 0
def qni{y:Int}{K:Int->WP}(h:K (pD x y) w):cW 267 [.w x,.w y] dj w K:=by refine qpr<|qse (qse (x_ (x_ ?_)));unfold pD at h;refine eF (λE=>?_) λE=>?_;rw[iP (zC E)] at h;exact h;rw[iN (zB E)] at h;refine eF (λE=>?_) λE=>?_;rw[iP (zC E)] at h;exact h;rw[iN (zB E)] at h;exact h
def HD{b:e9}{K:Int->WP}(V:ji a)(hb:ji b)(U:∀w',Fr [] w w'->K (pD (wv a) (wv b)) w'): cW 213 [df a.1 a.2,df b.1 b.2] dj w K:=by
 refine qwp ?_;obtain⟨h,I⟩:=a;obtain⟨E,J⟩:=b;obtain⟨ab,ac⟩:=V;obtain⟨ad,ae⟩:=hb;refine oD (oG [] w) λr1 w1 _ f1 o=>oD o λr3 w2 _ f2 o=>Mi o 1 h (Mi o 0 E (qni ?_));refine eF (λO=>?_) λO=>?_
 ·have G:pD h E≠0:=(oS O);have e:pD (h*18446744073709551616+I) (E*18446744073709551616+J)=pD h E:=by unfold pD at G⊢;(repeat' split);all_goals first|rfl|omega|(exfalso;apply G;repeat' split<;>omega)
  rw[<- e];exact U w2 o.fr
 ·have G:pD h E=0:=(oS O);have e:pD (h*18446744073709551616+I) (E*18446744073709551616+J)=pD I J:=by
   have:h=E:=by unfold pD at G;split at G;omega;split at G<;>omega
   unfold pD;(repeat' split);all_goals first|rfl|omega
  refine Mi o 1 I (Mi o 0 J (qni ?_));rw[<- e];exact U w2 o.fr
def Bg{K:e9->WP}(h:∀w',Fr [] w w'->K li w'):cW 98 [] [.agg dg] w K:=by exact qwr<|oD (oG [] w) λr1 w1 _ E o=>o.z' 0 rfl λw2 o _=>oE o 0 rfl _ rfl (h w2 o.fr)
def qDp{h E G I:Int}{K:e9->WP}(J:ji (h,E))(O:ji (G,I))(U:∀w',Fr [] w w'->K (wt (h,E) (G,I)) w'): cW 271 [df h E,df G I] [.agg dg] w K:=by refine qvA<|oD (oG [] w) λr1 w1 _ f1 o=>oD o λr3 w2 _ f2 o=>oD o λr5 w3 _ f3 o=>Mj o 2 (h,E) (Mj o 1 (G,I) (qBJ J O λw4 V=>?_));have o:=o.q9 V;refine oD o λaa w5 _ f5 o=>o.z' 0 rfl λw6 o _=>oE o 0 rfl _ rfl (o.z' 1 rfl λw7 o _=>oE o 1 rfl _ rfl (U w7 o.fr))
def qAX(h:ji a):jK (0,0) a=some a:=by have E:=xh h;unfold jK;rw[show wv (0,0)=0 from rfl,Int.zero_add,iP E.2,Kn h]
def pa:e9->List e9->Option e9
 | a,[]=>some a
 | a,x::r=>(jK a x).bind λy=>pa y r
def qFG{x y z:e9}(h:ji x):pa (0,0) [x,y,z]=sH x y z:=by unfold pa;rw[qAX h];unfold sH;dsimp only [Option.bind_some];unfold pa;congr 1;funext u;unfold pa;cases jK u z<;>rfl
def que(h:n<l.length):((l.flatMap gx).drop (2*n)).take 2=gx l[n]:=by
 induction l generalizing n with
 | nil=>cases h
 | cons a l ih=>
  cases n with|zero=>rfl|succ n=>exact ih (oS h)
def qEA{r:Nat}{T:Mf}(J:w.heap[r]?=some (.c (l.flatMap gx).toArray T))(hn:l.length=n)(ac:n<=1000)(hl:∀x∈l,ji x)(O:∀w',Fr [] w w'->K ((pa (0,0) l).getD (0,0),(pa (0,0) l).isSome) w'): cW 272 [.slice (pW r) n n] [.agg dg,.one .bool] w K:=by
 refine qwq (l:=⟨pW r,n,n⟩)<|oD (oG [] w) λr1 w1 _ f1 o=>oD o λr3 w2 _ f2 o=>lD (λq w'=>∃(i:Nat) (a:e9),q=i/\i<=n/\ji a/\dY [] w w' [(r3,.c #[.w a.1,.w a.2] nf),(r1,.c cq nf)]/\pa a (l.drop i)=pa (0,0) l) (λq _=>n-q.toNat) ⟨0,(0,0),rfl,yX _,⟨⟨oO,oO⟩,⟨oO,oO⟩⟩,o,rfl⟩ ?_;rintro q w3 ⟨i,a,rfl,hi,U,o,e⟩ X hX;refine eF (λG=>?_) λG=>?_;have E:i<l.length:=(by have:=zC G;dsimp only at this;omega);have V:=hl _ (zW E);rw[zX E] at e;refine vD rfl ⟨oL,by dsimp only;omega⟩ (zo (by rw[o.fr.block r (gg J) λh=>nomatch h];exact J) l[i] (by rw[zJ,xQ,Nat.mul_comm];exact que E) ?_);refine oD o λaf w4 _ f4 o=>o.z' 0 rfl λw5 o _=>Mj o 1 a (oE o 0 rfl l[i] rfl (Ad U V λw6 f6=>?_));have o:=o.q9 f6;refine oD o λah w7 _ f7 o=>o.z' 0 rfl λw8 o _=>?_;have e1:pa a (l[i]::l.drop (i+1))=(jK a l[i]).bind λy=>pa y (l.drop (i+1)):=rfl;rw[e1] at e;cases I:jK a l[i] with
 | none=>
  rw[I] at e;refine y_ (o.z' 3 rfl λw9 o _=>Mj o 3 (0,0) ?_);have:=O w9 o.fr;rw[<- e] at this;exact this
 | some y=>
  rw[I] at e o;have hy:=(zn U V I).2;refine x_ (Mj o 0 y (o.z' 2 rfl λw9 o _=>hX _ _ ⟨i+1,y,gJ _ oL,oL,hy,o.sub (.cons _ (.cons _ (.refl _))),e⟩ (by rw[gJ _ oL];omega)))
 have E:i=l.length:=(by have:=zB G;dsimp only at this;omega);rw[E,drop_length] at e;refine Mj o 0 a (o.z' 1 rfl λw4 o _=>Mj o 1 a ?_);have:=O w4 o.fr;rw[<- e] at this;exact this
def qAe(E:ji a):jr li a=a:=by
 have G:=xh E;unfold jr;split;rfl
 ·next h=>
  refine (qFp E ⟨⟨oO,oO⟩,⟨oO,oO⟩⟩ ?_).symm;have:wv li=18446744073709551616*18446744073709551616-1:=oO;omega
def qtT{r:Nat}{T:Mf}{K:e9->WP}(J:w.heap[r]?=some (.c (l.flatMap gx).toArray T))(hn:l.length=n)(U:n<=1000)(V:∀x∈l,ji x)(kk:∀w',Fr [] w w'->K (l.foldl jr li) w'): cW 224 [.slice (pW r) n n] [.agg dg] w K:=by
 refine qtC (a:=⟨pW r,n,n⟩) ?_;have ht:ji li:=⟨⟨oO,oO⟩,⟨oO,oO⟩⟩;refine oD (oG [] w) λr1 w1 _ f1 o=>Bg λw2 f2=>oD (o.q9 f2) λO w3 _ f3 o=>o.z' 0 rfl λw4 o _=>lD (λq w'=>∃(i:Nat) (a:e9),q=i/\i<=n/\ji a/\dY [] w w' [(O,.c #[.w a.1,.w a.2] nf),(r1,.c cq nf)]/\(l.drop i).foldl jr a=l.foldl jr li) (λq _=>n-q.toNat) ⟨0,li,rfl,yX _,ht,o,rfl⟩ ?_;rintro q w5 ⟨i,a,rfl,hi,ha,o,e⟩ X hX;refine eF (λG=>?_) λG=>?_
 ·have E:i<l.length:=(by have:=zC G;dsimp only at this;omega);have hx:=V _ (zW E);rw[zX E,foldl_cons] at e;have hm:ji (jr a l[i]):=(by unfold jr;split<;>assumption);refine jd (λ_ w'=>dY [] w w' [(O,.c #[.w (jr a l[i]).1,.w (jr a l[i]).2] nf),(r1,.c cq nf)]) ?_ λ_ I o=>hX _ _ ⟨i+1,_,gJ _ oL,oL,hm,o,e⟩ (by rw[gJ _ oL];omega);refine vD rfl ⟨oL,by dsimp only;omega⟩ (zo (by rw[o.fr.block r (gg J) λh=>nomatch h];exact J) l[i] (by rw[zJ,xQ,Nat.mul_comm];exact que E) ?_);refine oD o λah I _ f6 o=>o.z' 0 rfl λw7 o _=>oE o 0 rfl l[i] rfl (Mj o 1 a (HD hx ha λw8 f8=>?_));have o:=o.q9 f8;refine eF (λG=>?_) λG=>?_
  ·have:wv l[i]<wv a:=by have:=zC G;unfold pD at this;(repeat' split at this);all_goals omega
   refine oE o 0 rfl l[i] rfl (o.z' 1 rfl λw9 o _=>?_);unfold jr;rw[iP this];exact o.sub (.cons _ (.refl _))
  have:¬wv l[i]<wv a:=(by have:=zB G;unfold pD at this;intro h;rw[iP h] at this;omega);unfold jr;rw[iN this];exact o.sub (.cons _ (.refl _))
 have E:i=l.length:=(by have:=zB G;dsimp only at this;omega);rw[E,drop_length] at e;have e:a=l.foldl jr li:=e;refine Mj o 0 a (o.z' 1 rfl λI o _=>Mj o 1 a ?_);rw[e];exact kk I o.fr
end Go.Proofs.YtcnddmfogfebiaaGreatDoor
