/- Conditions: those that stand in each line. -/
import Derived.Test.YtpcmehldpoljfaaGreatDoorCSKQ5
import Derived.Test.YtpcmehldpoljfaaGreatDoorCSKQ4
import Derived.Test.YtpcmehldpoljfaaGreatDoorCSKQ2
import Derived.Laws.Externs
import Derived.Test.YtpcmehldpoljfaaGreatDoorCSKQ3
set_option linter.unusedVariables false
set_option linter.unusedSimpArgs false
set_option linter.defProp false
namespace Go.Proofs.YtpcmehldpoljfaaGreatDoor
open Go Go.Pt
attribute [local irreducible] ld dK ij nM jv fg st new idx jw jL fD jO jl mF gF nn call ed inv run eW i9 join loop held ext kH eS nf mY ng IntKind.wrap
section
open Go Go.Pt List
open Go.IntKind (wrap)
open Classical
variable {K:ka×Int->WP} {R Z:List Nat} {key:Key}
section
variable {dbk pb j:Nat} {FD Y F Bl Br:List Nat} {D:dI} {w0:World} {M:dY} {xl xr:ka} {nl nr:dL} {ks:Sl} {key:Key}
def qyY{K:ka×ka×Sl->WP}(hT:TW dbk pb FD D j w0 (Bl++(Br++Y)) F M)(hl:fc (Zo FD (Bl++(Br++Y)) F) w0 xl nl Bl)(hr:fc (Zo FD (Bl++(Br++Y)) F) w0 xr nr Br)(d1:∀b∈Bl,b∉Br)(d2:∀b∈Bl,b∉Y)(d3:∀b∈Br,b∉Y)(hk:eh (Zo FD (Bl++(Br++Y)) F) w0 ks key)(au:eF key)(aA:nl.Q4=nr.Q4)(h1:1<=nr.J6.length)(h2:nr.Q4=true->2<=nr.J6.length)(sl:gE nl)(sr:gE nr)(kk:∀yl yr aB w',TW dbk pb FD D j w' Y F M->eC (Zo FD Y F) w' yl (takeN nl nr key).1->eC (Zo FD Y F) w' yr (takeN nl nr key).2.1->eh (Zo FD Y F) w' aB (takeN nl nr key).2.2->Fr (Bl++F) w0 w'->K (yl,yr,aB) w'): cW 205 [.agg (eJ xl),.agg (eJ xr),ks.v] [.agg dX,.agg dX,.one .slice] w0 K:=by
 refine qsX ?_;unfold Cg CB;obtain⟨pk,pv,o⟩:=hr.AT (S0:=Bl++Zo FD Y F) fun b u hm=>by rcases zD.1 hm with hm|hm;exact d1 b hm u;have h0:=hT.sep b (by simp[u]);simp only[Zo,zD,zG] at hm;rcases hm with (hm|hm|hm)|hm;exact h0.1 hm;exact h0.2 hm;exact d3 b u hm;exact hT.yf b (by simp[u]) hm
 have e0:Ed dbk pb FD D j (Bl++F) Bl w0 w0 [] (Br++Y) F M xl nl Bl:=⟨⟨.refl _ _,fun b u=>.inl (by simp[u]),fun _ h=>nomatch h⟩,hT,hl,fun _ h=>(nomatch h),fun b u=>.inl u,fun b u=>by simp[u],fun b u hm=>(zD.1 hm).elim (d1 b u) (d2 b u)⟩;have ae:∀b∈Bl++Zo FD Y F,b∈Zo FD (Bl++(Br++Y)) F:=fun b u=>by simp only[Zo,zD,zG] at u⊢;rcases u with u|(u|u|u)|u<;>simp[u]
 have af:∀b∈Bl++F,b∈Bl++Zo FD Y F:=fun b u=>by simp only[Zo,zD,zG] at u⊢;rcases u with u|u<;>simp[u]
 have nZ:∀ {w' T x' n' B'},Ed dbk pb FD D j (Bl++F) Bl w0 w' T (Br++Y) F M x' n' B'->mn (Zo FD (Bl++(Br++Y)) F) w0 (Zo FD (T++(B'++(Br++Y))) F):=fun e b u=>by simp only[Zo,zD,zG] at u;rcases u with (u|u|u|u|u|u)|u;exact .inl (by simp[u]);exact .inl (by simp[u]);exact (e.sg.own b u).imp (fun h=>ae b (af b h)) id;exact (e.cE b u).imp (fun h=>ae b (af b (e.cR b h))) id;exact .inl (by simp[u]);exact .inl (by simp[u]);exact .inl (by simp[u])
 have J:∀ {w' T x' n' B'},Ed dbk pb FD D j (Bl++F) Bl w0 w' T (Br++Y) F M x' n' B'->pG (Bl++Zo FD Y F) (Zo FD (T++(B'++(Br++Y))) F) w' xr nr pk pv:=fun e=>o.q8 e.fr af (fun b u=>ae b (af b u)) (fun b u=>.inl u) (nZ e);have aC:=o.rdK ae;have aD:=o.rdV ae;have U:∀ {w' T x' n' B'},Ed dbk pb FD D j (Bl++F) Bl w0 w' T (Br++Y) F M x' n' B'->Fr (Bl++Zo FD Y F) w0 w':=fun e=>e.fr.mono fun b u _=>af b u;have ag:∀b∈Zo FD Y F,b∈Bl++Zo FD Y F\/w0.heap.size<=b:=fun b u=>.inl (zI _ u);have an:=o.lens;have kl:=o.tj;have vl:=o.ws;have sk:=sr.J6;have bj:=sl.J6;have bk:=sl.Q0;have bl:=sl.J9;have h:=oE [] w0;refine oB h fun r1 w2 _ _ h=>oB h fun r3 w4 _ _ h=>oB h fun r5 w6 _ _ h=>oB h fun r7 w8 _ _ h=>oA h 3 rfl xl.1 rfl ?_;apply dW<;>intro hc
 ·rw[hl.1] at hc;have aE:nr.Q4=true:=(by rw[<- aA];exact hc);have h2:=h2 aE;have bm:=sr.Q4 aE;have hG:takeN nl nr key=({ nl with J6:=nl.J6++[nr.J6.getD 0 []],Q0:=nl.Q0++[nr.Q0.getD 0 []] },{ nr with J6:=nr.J6.drop 1,Q0:=nr.Q0.drop 1 },(nr.J6.drop 1).getD 0 []):=(by unfold takeN;rw[if_pos hc]);have hi:0<pk.length:=oJ;have V:0<pv.length:=oJ;have aw:0<(pk.drop 1).length:=(by rw[yC];omega);have aY:(nr.J6.drop 1).getD 0 []=(pk.drop 1)[0].2:=(by rw[<- o.J6,<- wT,wD aw]);rw[hG,o.mG hi,o.rL V,aY] at kk;have ad:eF pk[0].2:=(by rw[<- o.mG hi];exact sX o.nb.1 _);have ax:eF pv[0].2:=(by rw[<- o.rL V];exact sX o.nb.2.1 _);refine⟨?a1,?a2,?a3⟩;case' a1=>
   have h:=oF h;refine oA h 3 rfl xl.2.1 rfl<|oA h 2 rfl xr.2.1 rfl<|dZ.cF ((o.rk).q7 h.fr) 0 rfl hi fun aF ai=>oA h 3 rfl xl.2.2.1 rfl<|oA h 2 rfl xr.2.2.1 rfl<|dZ.cF ((o.rv).q7 h.fr) 0 rfl V fun aG aa=>oB h fun aH aI _ _ h=>?_;have e:=e0.J0 h;refine qh (aa _ _ (J e).rv) (h.cell 3 rfl rfl) (h.cell 4 rfl rfl) (h.cell 4 rfl rfl)<|e.py h oJ 0 rfl ((J e).ek _ (zX hi)) ad fun C B1 aK e h _=>mK (aa _ _ (J e).rv) (h.cell 3 rfl rfl) (h.cell 4 rfl rfl)<|oB h fun aL aM _ _ h=>?_;have e:=e.J0 h;refine qh (h.cell 5 rfl rfl) (ai _ _ (J e).rk) (h.cell 4 rfl rfl) (h.cell 5 rfl rfl)<|e.wq h oN 0 rfl ((J e).ev _ (zX V)) ax fun E B2 aO e h _=>?_
  case' a2=>
   have h:=oF h;refine oA h 3 rfl xl.2.1 rfl<|oA h 2 rfl xr.2.1 rfl<|dZ.cF ((o.rk).q7 h.fr) 0 rfl hi fun aF ai=>oA h 3 rfl xl.2.2.1 rfl<|oA h 2 rfl xr.2.2.1 rfl<|dZ.cF ((o.rv).q7 h.fr) 0 rfl V fun aG aa=>oB h fun aH aI _ _ h=>qh (aa _ _ (J (e0.J0 h)).rv) (h.cell 3 rfl rfl) (h.cell 4 rfl rfl) (h.cell 4 rfl rfl)<|oB h fun aL aM _ _ h=>?_;have e:=e0.J0 h;refine qh (h.cell 5 rfl rfl) (ai _ _ (J e).rk) (h.cell 4 rfl rfl) (h.cell 5 rfl rfl)<|e.py h oJ 1 rfl ((J e).ek _ (zX hi)) ad fun C B1 aK e h _=>mK (aa _ _ (J e).rv) (h.cell 4 rfl rfl) (h.cell 5 rfl rfl)<|e.wq h oN 0 rfl ((J e).ev _ (zX V)) ax fun E B2 aO e h _=>?_
  case' a3=>
   have h:=oF h;refine oA h 3 rfl xl.2.1 rfl<|oA h 2 rfl xr.2.1 rfl<|dZ.cF ((o.rk).q7 h.fr) 0 rfl hi fun aF ai=>oA h 3 rfl xl.2.2.1 rfl<|oA h 2 rfl xr.2.2.1 rfl<|dZ.cF ((o.rv).q7 h.fr) 0 rfl V fun aG aa=>oB h fun aH aI _ _ h=>qh (h.cell 4 rfl rfl) (ai _ _ (J (e0.J0 h)).rk) (h.cell 3 rfl rfl) (h.cell 4 rfl rfl)<|oB h fun aL aM _ _ h=>?_;have e:=e0.J0 h;refine qh (aa _ _ (J e).rv) (h.cell 4 rfl rfl) (h.cell 5 rfl rfl) (h.cell 5 rfl rfl)<|e.py h oJ 0 rfl ((J e).ek _ (zX hi)) ad fun C B1 aK e h _=>mK (aa _ _ (J e).rv) (h.cell 4 rfl rfl) (h.cell 5 rfl rfl)<|e.wq h oN 1 rfl ((J e).ev _ (zX V)) ax fun E B2 aO e h _=>?_
  all_goals
   refine oD h 5 rfl (eJ (xl.1,C,xl.2.2.1,xl.2.2.2)) fun am h _=>oD h 5 rfl (eJ (xl.1,C,E,xl.2.2.2)) fun aZ h _=>?_;have h:=oF h;refine oA h 4 rfl xr.2.1 rfl<|jg.from aC 1 rfl oJ fun G R=>oA h 4 rfl xr.2.2.1 rfl<|jg.from aD 1 rfl oJ fun I aj=>oD h 4 rfl (eJ (xr.1,G,xr.2.2.1,xr.2.2.2)) fun a0 h _=>oD h 4 rfl (eJ (xr.1,G,I,xr.2.2.2)) fun a4 h _=>?_;have h:=oF h;refine oC h 5 rfl (xl.1,C,E,xl.2.2.2) rfl<|oC h 4 rfl (xr.1,G,I,xr.2.2.2) rfl<|oA h 4 rfl G rfl<|dZ.cF (R.q8 (U (e.J0 h)) fun b u=>.inl u).1 0 rfl aw fun bn aP=>oD h 3 rfl (eJ (xl.1,C,E,xl.2.2.2)) fun a5 h _=>mK (aP _ _ (R.q8 (U (e.J0 h)) fun b u=>.inl u).1) (h.cell 4 rfl rfl) (h.cells 4 rfl rfl)<|oD h 2 rfl (eJ (xr.1,G,I,xr.2.2.2)) fun ay h _=>ko (aP _ _ (R.q8 (U (e.J0 h)) fun b u=>.inl u).1) (h.cell 4 rfl rfl)<|oC h 3 rfl (xl.1,C,E,xl.2.2.2) rfl<|oC h 2 rfl (xr.1,G,I,xr.2.2.2) rfl ?_;have e:=e.J0 h;have hR:=e.y9.j6 (S':=Zo FD Y F) fun b u=>.inl (A7 b u);have ak:=R.q8 (U e) ag;exact kk (xl.1,C,E,xl.2.2.2) (xr.1,G,I,xr.2.2.2) _ ay (e.qs.y0 fun b u=>by simp[u]) hR ⟨an.Q4,⟨fun a ha=>o.nb.1 a (yU ha),fun a ha=>o.nb.2.1 a (yU ha),o.nb.2.2⟩,⟨_,ak,by rw[wT,o.J6]⟩,⟨_,aj.q8 (U e) ag,by rw[wT,o.Q0]⟩,o.ri.q8 (U e) ag⟩
    (ak.2 _ (zX aw)) e.fr
 ·rw[hl.1] at hc;have a7:¬nl.Q4=true:=(by rw[hc];decide);have il:=sr.inner (by rw[<- aA];exact hc);have hG:takeN nl nr key=({ nl with J6:=nl.J6++[key],J9:=nl.J9++[nr.J9.getD 0 0] },{ nr with J6:=nr.J6.drop 1,J9:=nr.J9.drop 1 },nr.J6.getD 0 []):=(by unfold takeN;rw[if_neg a7]);have hi:0<pk.length:=oJ;have al:0<nr.J9.length:=oJ;rw[hG,o.mG hi,ue al] at kk;have ad:gC nr.J9[0]:=o.nb.2.2 _ (zX al);have kw:∀ {w' T x' n' B'},Ed dbk pb FD D j (Bl++F) Bl w0 w' T (Br++Y) F M x' n' B'->eh (Zo FD (T++(B'++(Br++Y))) F) w' ks key:=fun e=>hk.q8 (e.fr.mono fun b u _=>ae b (af b u)) (nZ e);refine oA h 2 rfl xr.2.1 rfl<|dZ.cF ((o.rk).q7 h.fr) 0 rfl hi fun bf bg=>⟨?b1,?b2,?b3⟩;case' b1=>
   have h:=oF h;refine oA h 3 rfl xl.2.1 rfl<|oA h 3 rfl xl.2.2.2 rfl<|oA h 2 rfl xr.2.2.2 rfl<|dZ.cP ((o.ri).q7 h.fr) 0 rfl al fun aQ ab=>oB h fun ao ap _ _ h=>?_;have e:=e0.J0 h;refine qh (ab _ _ (J e).ri) (h.cell 3 rfl rfl) (h.cell 4 rfl rfl) (h.cell 4 rfl rfl)<|e.py h oJ 0 rfl (kw e) au fun C B1 aR e h _=>mK (ab _ _ (J e).ri) (h.cell 3 rfl rfl) (h.cell 4 rfl rfl)<|oB h fun aq ar _ _ h=>?_;have e:=e.J0 h;refine ko (h.cell 5 rfl rfl) (h.cell 5 rfl rfl)<|e.vU h oN 0 rfl ad fun E B2 am e h _=>?_
  case' b2=>
   have h:=oF h;refine oA h 3 rfl xl.2.1 rfl<|oA h 3 rfl xl.2.2.2 rfl<|oA h 2 rfl xr.2.2.2 rfl<|dZ.cP ((o.ri).q7 h.fr) 0 rfl al fun aQ ab=>oB h fun ao ap _ _ h=>qh (ab _ _ (J (e0.J0 h)).ri) (h.cell 3 rfl rfl) (h.cell 4 rfl rfl) (h.cell 4 rfl rfl)<|oB h fun aq ar _ _ h=>?_;have e:=e0.J0 h;refine ko (h.cell 5 rfl rfl) (h.cell 5 rfl rfl)<|e.py h oJ 1 rfl (kw e) au fun C B1 aR e h _=>mK (ab _ _ (J e).ri) (h.cell 4 rfl rfl) (h.cell 5 rfl rfl)<|e.vU h oN 0 rfl ad fun E B2 am e h _=>?_
  case' b3=>
   have h:=oF h;refine oA h 3 rfl xl.2.1 rfl<|oA h 3 rfl xl.2.2.2 rfl<|oA h 2 rfl xr.2.2.2 rfl<|dZ.cP ((o.ri).q7 h.fr) 0 rfl al fun aQ ab=>oB h fun ao ap _ _ h=>ko (h.cell 4 rfl rfl) (h.cell 4 rfl rfl)<|oB h fun aq ar _ _ h=>?_;have e:=e0.J0 h;refine qh (ab _ _ (J e).ri) (h.cell 4 rfl rfl) (h.cell 5 rfl rfl) (h.cell 5 rfl rfl)<|e.py h oJ 0 rfl (kw e) au fun C B1 aR e h _=>mK (ab _ _ (J e).ri) (h.cell 4 rfl rfl) (h.cell 5 rfl rfl)<|e.vU h oN 1 rfl ad fun E B2 am e h _=>?_
  all_goals
   refine oD h 5 rfl (eJ (xl.1,C,xl.2.2.1,xl.2.2.2)) fun am h _=>oD h 5 rfl (eJ (xl.1,C,xl.2.2.1,E)) fun aZ h _=>?_;have h:=oF h;refine oA h 4 rfl xr.2.1 rfl<|jg.from aC 1 rfl oJ fun G R=>oA h 4 rfl xr.2.2.2 rfl<|dZ.vw o.ri 1 rfl oJ fun I aj=>oD h 4 rfl (eJ (xr.1,G,xr.2.2.1,xr.2.2.2)) fun a0 h _=>oD h 4 rfl (eJ (xr.1,G,xr.2.2.1,I)) fun a4 h _=>?_;have h:=oF h;refine oC h 5 rfl (xl.1,C,xl.2.2.1,E) rfl<|oC h 4 rfl (xr.1,G,xr.2.2.1,I) rfl<|oD h 3 rfl (eJ (xl.1,C,xl.2.2.1,E)) fun a5 h _=>ig (h.cells 4 rfl rfl)<|oD h 2 rfl (eJ (xr.1,G,xr.2.2.1,I)) fun ay h _=>oC h 3 rfl (xl.1,C,xl.2.2.1,E) rfl<|oC h 2 rfl (xr.1,G,xr.2.2.1,I) rfl ?_;have e:=e.J0 h;have hR:=e.y9.j6 (S':=Zo FD Y F) fun b u=>.inl (A7 b u);exact kk (xl.1,C,xl.2.2.1,E) (xr.1,G,xr.2.2.1,I) _ ay (e.qs.y0 fun b u=>by simp[u]) hR ⟨an.Q4,⟨fun a ha=>o.nb.1 a (yU ha),o.nb.2.1,fun a ha=>o.nb.2.2 a (yU ha)⟩,⟨_,R.q8 (U e) ag,by rw[wT,o.J6]⟩,⟨_,aD.q8 (U e) ag,o.Q0⟩,aj.q8 (U e) ag⟩
    (((J e).ek _ (zX hi)).q8 (.refl _ _) fun b u=>.inl (by simp only[Zo,zD,zG] at u⊢;rcases u with (u|u|u)|u<;>simp[u])) e.fr
end
section
section
variable {dbk pb j:Nat} {FD S S0 S1 N0 Y Y1 F F' T B Bl Br Bn:List Nat} {D:dI} {w0 wa w w':World} {M M':dY} {L:List (Nat×Obj)} {x xl xr:ka} {n nl nr:dL} {k v:Nat} {t:Int}
def qAc(g:Sg S0 w0 wa F T)(u:∀b∈S0,b∈S1):Sg S1 w0 wa F T:=⟨g.pO.mono fun b h _=>u b h,fun b h=>(g.new b h).imp (u b) id,fun b h=>(g.own b h).imp (u b) id⟩
structure nu (FD F:List Nat) (w:World) (T R:List Nat) (x:ka) (n:dL) (B:List Nat):Prop where
 node:fc (Zo FD (T++R) F) w x n B
 sep:∀ b∈T,b∉B
def nu.J0(o:nu FD F wa T R x n B)(h:dQ T wa w L):nu FD F w (fi L) R x n B:=
 ⟨o.node.q8 h.fr (fun b u C=>o.sep b C u) (fun b u=>.inl (by simp[u])) (C2 h),fun b u C=>by
  obtain⟨q,G,rfl⟩:=mem_map.1 u;rcases h.own q G with E|E;exact o.sep _ E C
  have:=o.node.lt _ C;omega⟩
def Ed.base(e:Ed dbk pb FD D j S0 N0 w0 w T Y F M x n B)(C:∀b∈S0,b∈Z)(E:∀b∈FD,b∈Z)(G:HG∈Z)(I:∀b∈Y,b∈Z):mn Z w0 (Zo FD (T++(B++Y)) F):=fun b u=>by simp only[Zo,zD,zG] at u;rcases u with (u|u|u|u|u)|u;exact .inl (E b u);rw[u];exact .inl G;exact (e.sg.own b u).imp (C b) id;exact (e.cE b u).imp (fun h=>C b (e.cR b h)) id;exact .inl (I b u);exact (e.sg.new b u).imp (C b) id
def Ed.x4(e:Ed dbk pb FD D j S0 N0 w0 w T Y F M x n B)(hn:fc Z w0 xl nl Bn)(V:∀b∈Bn,b∉S0)(hS:∀b∈S0,b∈Z)(G:∀b∈FD,b∈Z)(I:HG∈Z)(hY:∀b∈Y,b∈Z)(C:∀b∈Bn++Y1,b∈Y)(J:∀b∈Bn,b∉Y1)(R:∀b∈Bn,b<w0.heap.size): Ed dbk pb FD D j (Bn++S0) Bn w0 w T Y1 F M xl nl Bn:=by
 have hz:=e.base hS G I hY;have E:∀b∈Zo FD (T++(Bn++Y1)) F,b∈Zo FD (T++(B++Y)) F:=fun b u=>by simp only[Zo,zD,zG] at u⊢;have U:=fun h=>C b h;simp only[zD] at U;rcases u with (u|u|u|u|u)|u;simp[u];simp[u];simp[u];simp[U (.inl u)];simp[U (.inr u)];simp[u]
 refine⟨qAc e.sg fun b u=>zI _ u,e.tw.y0 fun b u=>?_,hn.q8 e.fr V (fun b u=>.inl (hS b u)) fun b u=>hz b (E b u),fun b u hm=>?_,fun b u=>.inl u,fun b u=>zH _ u,J⟩;rcases zD.1 u with u|u;simp[u];exact zI _ (zI _ (C b u));rcases e.sg.own b u with h1|h1;exact V b hm h1
 have:=R b hm;omega
def qA5:∀b∈Bn++(Br++Y),b∈Zo FD (Bl++(Bn++(Br++Y))) F:=fun b u=>by simp only[Zo,zD,zG] at u⊢;rcases u with h|h|h<;>simp[h]
def qAF:∀b∈Bn++Y,b∈Bn++(Br++Y):=fun b u=>by simp only[zD] at u⊢;rcases u with h|h<;>simp[h]
def qAG:∀b∈Zo FD (T++(Bn++Y)) F,b∈Zo FD (T++(Bn++(Br++Y))) F:=fun b u=>by simp only[Zo,zD,zG] at u⊢;rcases u with (h|h|h|h|h)|h<;>simp[h]
def qyw{i:Nat}(hT:TW dbk pb FD D j w0 (Bl++(Bn++(Br++Y))) F M)(hl:fc (Zo FD (Bl++(Bn++(Br++Y))) F) w0 xl nl Bl)(hn:fc (Zo FD (Bl++(Bn++(Br++Y))) F) w0 x n Bn)(hr:fc (Zo FD (Bl++(Bn++(Br++Y))) F) w0 xr nr Br)(d1:∀b∈Bl,b∉Bn)(d2:∀b∈Bl,b∉Br)(d3:∀b∈Bl,b∉Y)(d4:∀b∈Bn,b∉Br)(d5:∀b∈Bn,b∉Y)(sl:gE nl)(sr:gE nr)(sn:gE n)(hi:i<n.J6.length)(aA:n.Q4=false)(R:∀yn B' F' w',TW dbk pb FD D j w' (B'++Y) F' (lD k v M n i nl nr).2->fc (Zo FD (B'++Y) F') w' yn (lD k v M n i nl nr).1.1 B'->Fr (Bn++(Bl++F)) w0 w'->(∀b∈B',b∈Bn\/w0.heap.size<=b)->(∀b∈F',b∈Bn++(Bl++F)\/w0.heap.size<=b)->K (yn,(lD k v M n i nl nr).1.2) w'): cW 203 [.agg (mZ (jx k v pb t)),.agg (eJ x),.i i,.agg (eJ xl),.agg (eJ xr)] [.agg dX,.one .i] w0 K:=by
 refine qlU ?_;have e0:Ed dbk pb FD D j (Bl++F) Bl w0 w0 [] (Bn++(Br++Y)) F M xl nl Bl:=⟨⟨.refl _ _,fun b u=>.inl (by simp[u]),fun _ h=>nomatch h⟩,hT,hl,fun _ h=>(nomatch h),fun b u=>.inl u,fun b u=>by simp[u],fun b u G=>by simp only[zD] at G;rcases G with G|G|G;exact d1 b u G;exact d2 b u G;exact d3 b u G⟩;have hF:∀ {Bx:List Nat},(∀b∈Bx,b∈Bn\/b∈Br)->(∀b∈Bx,b∉Bl)->∀b∈Bx,b∉Bl++F:=fun h1 h2 b u G=>(zD.1 G).elim (h2 b u) fun G=>hT.yf b (by rcases h1 b u with h|h<;>simp[h]) G;have dn:=hF (Bx:=Bn) (fun b u=>.inl u) fun b u G=>d1 b G u;obtain⟨nk,nv,on⟩:=hn.AT (S0:=Bl++F) dn;obtain⟨rk,rv,E⟩:=hr.AT (S0:=Bl++F) (hF (fun b u=>.inr u) fun b u G=>d2 b G u);have ac:∀b∈Bl++F,b∈Zo FD (Bl++(Bn++(Br++Y))) F:=fun b u=>by rcases zD.1 u with u|u<;>simp[u]
 have nZ:∀ {w' T x' n' B'},Ed dbk pb FD D j (Bl++F) Bl w0 w' T (Bn++(Br++Y)) F M x' n' B'->mn (Zo FD (Bl++(Bn++(Br++Y))) F) w0 (Zo FD (T++(B'++(Bn++(Br++Y)))) F):=fun e=>e.base ac (fun b u=>by simp[u]) oL fun b u=>by simp only[Zo,zD,zG] at u⊢;rcases u with h|h|h<;>simp[h]
 have nw:∀ {w' T x' n' B'},Ed dbk pb FD D j (Bl++F) Bl w0 w' T (Bn++(Br++Y)) F M x' n' B'->pG (Bl++F) (Zo FD (T++(B'++(Bn++(Br++Y)))) F) w' x n nk nv:=fun e=>on.q8 e.fr (fun b u=>u) ac (fun b u=>.inl u) (nZ e);have V:∀ {w' T x' n' B'},Ed dbk pb FD D j (Bl++F) Bl w0 w' T (Bn++(Br++Y)) F M x' n' B'->pG (Bl++F) (Zo FD (T++(B'++(Bn++(Br++Y)))) F) w' xr nr rk rv:=fun e=>E.q8 e.fr (fun b u=>u) ac (fun b u=>.inl u) (nZ e);have ad:i<nk.length:=(by rw[on.tj];exact hi);have a4:=sn.inner aA;have ae:i<n.J9.length:=oJ;have ag:i+1<n.J9.length:=oJ;have z1:=sl.J6;have z2:=sl.Q0;have z3:=sl.J9;have z4:=sr.J6;have z5:=sr.Q0;have z6:=sr.J9;have z7:=sn.J6;have z8:=sn.J9;have a5:=E.tj;have a6:=E.ws;have h:=oE [] w0;refine oB h fun r1 w2 _ _ h=>oB h fun r3 w4 _ _ h=>oB h fun r5 w6 _ _ h=>oB h fun r7 w8 _ _ h=>oB h fun r9 a7 _ _ h=>gW (fun _ w'=>∃I B',dQ [r9,r7,r5,r3,r1] w' w' [(r9,.cells (eJ fx) ND (0,0)),(r7,.cells (eJ xr) ND (0,0)),(r5,.cells (eJ (xl.1,I,xl.2.2)) ND (0,0)),(r3,.cells (eJ x) ND (0,0)),(r1,.cells (mZ (jx k v pb t)) WK (0,0))]/\
  Ed dbk pb FD D j (Bl++F) Bl w0 w' [r9,r7,r5,r3,r1] (Bn++(Br++Y)) F M (xl.1,I,xl.2.2) { nl with J6:=if nl.Q4 then nl.J6 else nl.J6++[n.J6.getD i []] } B') ?_ ?_
 refine oA h 2 rfl xl.1 rfl ?_;apply dW<;>intro C;have C:nl.Q4=false:=(by rw[hl.1,zT] at C;exact C);rw[if_neg (show ¬nl.Q4=true by rw[C];decide),on.mG ad];have h:=oF h;refine oA h 2 rfl xl.2.1 rfl<|oA h 3 rfl x.2.1 rfl<|dZ.get (on.rk.q7 h.fr) i rfl (x:=nk[i].1) (by rw[zQ,zA ad];rfl) (y:=nk[i].1) rfl<|oB h fun a8 a9 _ _ h=>ig (h.cell 3 rfl rfl) ?_;have e:=e0.J0 h;exact e.py h oJ 0 rfl ((nw e).ek _ (zX ad)) (by rw[<- on.mG ad];exact sX on.nb.1 _) fun I B1 a' e h _=>oD h 3 rfl (eJ (xl.1,I,xl.2.2)) fun ba h _=>⟨I,B1,lH h (.cons _ (.refl _)),(e.J0 h).sub oL⟩;have C:nl.Q4=true:=(by rw[hl.1,yE] at C;exact C);rw[if_pos C];exact⟨xl.2.1,Bl,lH h (.refl _),e0.J0 h⟩;rintro _ bb ⟨I,B1,h,e⟩;have e:=e.J0 h;have h:=lH h (.refl _);refine oA h 2 rfl I rfl<|oA h 1 rfl xr.2.1 rfl ?_;have aT:(if nl.Q4 then nl.J6 else nl.J6++[n.J6.getD i []]).length<=2001:=by split;omega;rw[zF,xM];omega
 refine e.u0 h oN (V e).rk (V e).ek (by rw[E.J6];exact E.nb.1) fun aa B2 bd e h _=>?_;rw[E.J6] at e;refine oD h 2 rfl (eJ (xl.1,aa,xl.2.2.1,xl.2.2.2)) fun bf h _=>oA h 2 rfl xl.2.2.1 rfl<|oA h 1 rfl xr.2.2.1 rfl ?_;have e:=e.J0 h;refine e.uJ h oN (V e).rv (V e).ev (by rw[E.Q0];exact E.nb.2.1) fun af B3 bg e h _=>?_;rw[E.Q0] at e;refine oD h 2 rfl (eJ (xl.1,aa,af,xl.2.2.2)) fun bh h _=>oA h 2 rfl xl.2.2.2 rfl<|oA h 1 rfl xr.2.2.2 rfl ?_;have e:=e.J0 h;refine e.uS h oN (V e).ri E.nb.2.2 fun ah B4 bi e h _=>oD h 2 rfl (eJ (xl.1,aa,af,ah)) fun bj h _=>?_;have h:=oF h;have e:=e.J0 h;have h:=lH h (.refl _);refine oC h 4 rfl (jx k v pb t) rfl<|oA h 3 rfl x.2.2.2 rfl<|dZ.get (nw e).ri i rfl (x:=n.J9[i]) (zA ae) (y:=n.J9[i]) rfl<|oC h 2 rfl (xl.1,aa,af,ah) rfl ?_;have hJ:({ Q4:=nl.Q4,J6:=(if nl.Q4 then nl.J6 else nl.J6++[n.J6.getD i []])++nr.J6,Q0:=nl.Q0++nr.Q0,J9:=nl.J9++nr.J9 }:dL)=kM nl nr (n.J6.getD i []):=rfl;have aC:n.J9.getD i 0=n.J9[i]:=ue ae;have ao:n.J9.getD (i+1) 0=n.J9[i+1]:=ue ag;unfold lD at R;rw[aC,ao,<- hJ] at R;have aD:=e.y9.j6 (fun b u=>.inl (qAG b u));have e:=e.x4 hn dn ac (fun b u=>by simp[u]) oL qA5 (Y1:=Y) qAF d5 hn.lt;refine uy e.tw aD (by dsimp only;rw[zF];omega) (by dsimp only;rw[zF];omega) (by dsimp only;rw[zF];omega) fun F1 bm ap aE aF=>?_;obtain⟨e,h⟩:=e.next h ap aE aF
 generalize aG:dO k v M n.J9[i] { Q4:=nl.Q4,J6:=(if nl.Q4 then nl.J6 else nl.J6++[n.J6.getD i []])++nr.J6,Q0:=nl.Q0++nr.Q0,J9:=nl.J9++nr.J9 }=st at R e⊢;have hu:gC st.1.1:=(by rw[<- aG];exact uT hT.wf (hn.2.1.2.2 _ (zX ae)));obtain⟨⟨bn,J⟩,M1⟩:=st;dsimp only at R e hu⊢;refine gW (fun er w'=>∃F2,er=(if J=0 then (fk M1 n.J9[i+1]).1 else J)/\dQ [r9,r7,r5,r3,r1] w' w' [(r9,.cells (eJ fx) ND (0,0)),(r7,.cells (eJ xr) ND (0,0)),(r5,.cells (eJ (xl.1,aa,af,ah)) ND (0,0)),(r3,.cells (eJ x) ND (0,0)),(r1,.cells (mZ (jx k v pb t)) WK (0,0))]/\
  Ed dbk pb FD D j (Bn++(Bl++F)) Bn w0 w' [r9,r7,r5,r3,r1] Y F2 (if J=0 then (fk M1 n.J9[i+1]).2 else M1) x n Bn) ?_ ?_
 apply dW<;>intro C;have C:J=0:=yP.1 C;rw[if_pos C,if_pos C];have h:=oF h;refine oA h 4 rfl (pW pb) rfl<|oA h 3 rfl x.2.2.2 rfl ?_;have e:=e.J0 h;have ew:wrap .i64 ((i:Int)+1)=((i+1:Nat):Int):=qZ oJ;refine dZ.get e.y6 (i+1) ew (x:=n.J9[i+1]) (zA ag) (y:=n.J9[i+1]) rfl<|TW.drop e.tw fun F2 bo aq aH aI=>?_;obtain⟨e,h⟩:=e.next h aq aH aI
 exact⟨F2,rfl,h,e⟩;have C:¬J=0:=zR.1 C;rw[if_neg C,if_neg C];exact⟨F1,rfl,h,e⟩;rintro er bp ⟨F2,rfl,h,e⟩;have e:=e.J0 h;have h:=lH h (.refl _);have aJ:∀ {A B:(dL×Int)×dY},(if J≠0 then A else B)=if J=0 then B else A:=by intro A B;by_cases h:J=0;rw[if_neg (fun h'=>h' h),if_pos h];rw[if_pos h,if_neg h]
 rw[aJ] at R;apply dW<;>intro C;have C:(if J=0 then (fk M1 n.J9[i+1]).1 else J)≠0:=by rw[zT] at C;exact zR.1 C
 refine oD h 0 rfl (eJ fx) fun ar h _=>oC h 0 rfl fx rfl ?_;have e:=e.J0 h;by_cases h0:J=0;rw[if_pos h0] at R C e⊢;rw[if_pos C] at R;exact R fx [] F2 ar e.qs.j7 (.zero _ _) e.fr (fun _ h=>(nomatch h)) e.sg.new;rw[if_neg h0] at R C e⊢;exact R fx [] F2 ar e.qs.j7 (.zero _ _) e.fr (fun _ h=>(nomatch h)) e.sg.new;have C:(if J=0 then (fk M1 n.J9[i+1]).1 else J)=0:=by rw[yE] at C;exact yP.1 C
 by_cases h0:J=0;rw[if_pos h0] at R C e;rw[if_neg (fun h=>h C)] at R;refine oA h 3 rfl x.2.2.2 rfl<|e.tT h (i:=i) ae rfl hu fun B1 bt e h _=>?_;have h:=oF h;refine oA h 3 rfl x.2.2.2 rfl<|oA h 3 rfl x.2.1 rfl ?_;have e:=e.J0 h;have ew:wrap .i64 ((i:Int)+1)=((i+1:Nat):Int):=qZ oJ;have aK:wrap .i64 ((i:Int)+2)=((i+1+1:Nat):Int):=(by rw[gg _ oJ];omega);refine e.GF h (i:=i+1) (by dsimp only;rw[xG];omega) ew aK (by dsimp only;rw[xG];omega) fun U B2 bu e h _=>ig (h.cell 3 rfl rfl)<|e.AN h (i:=i) hi rfl ew oN fun ab B3 bv e h _=>oD h 3 rfl (eJ (x.1,x.2.1,x.2.2.1,U)) fun bx h _=>oD h 3 rfl (eJ (x.1,ab,x.2.2.1,U)) fun bz h _=>oC h 3 rfl (x.1,ab,x.2.2.1,U) rfl<|oD h 0 rfl (eJ (x.1,ab,x.2.2.1,U)) fun aL h _=>oC h 0 rfl (x.1,ab,x.2.2.1,U) rfl ?_;have e:=e.J0 h;refine R (x.1,ab,x.2.2.1,U) B3 F2 aL e.tw.j7 (e.node.j6 fun b u=>.inl (by simp only[Zo,zD,zG] at u⊢;rcases u with (u|u|u|u)|u<;>simp[u])) e.fr e.cE e.sg.new;rw[if_neg h0] at C;exact absurd C h0
end
end
section
section
variable {D:dI} {M:dY} {k v side c:Nat} {n nx ny:dL}
def qyl{e:Int}(h:dJ D M k v (n.J9.getD side 0)=(ny,e))(u:e≠0):jB D k v M n side c nx=((ip,e),M):=by unfold jB;rw[h,if_pos u]
def qwI(h:dJ D M k v (n.J9.getD side 0)=(ny,0))(u:¬iO ny k v):jB D k v M n side c nx=lD k v M n (if side<c then side else c) (if side<c then ny else nx) (if side<c then nx else ny):=by unfold jB;rw[h,if_neg (fun h=>h rfl)];by_cases hsd:side<c;rw[if_pos hsd,if_pos hsd,if_pos hsd,if_pos hsd,if_pos u];rw[if_neg hsd,if_neg hsd,if_neg hsd,if_neg hsd,if_pos u]
def qwH(h:dJ D M k v (n.J9.getD side 0)=(ny,0))(u:iO ny k v):jB D k v M n side c nx=mV k v M n (if side<c then side else c) (if side<c then iQ ny nx (n.J6.getD side []) else takeN nx ny (n.J6.getD c [])):=by unfold jB;rw[h,if_neg (fun h=>h rfl)];by_cases hsd:side<c;rw[if_pos hsd,if_pos hsd,if_pos hsd,if_neg (fun h=>h u)];rw[if_neg hsd,if_neg hsd,if_neg hsd,if_neg (fun h=>h u)]
def qms{n:dL}{k v:Nat}(h:fC n k v):gE n:=by obtain⟨E,G,I,u,C⟩:=uK h;exact⟨fun h=>(u h).1,fun h=>(C h).1.symm,oJ,oJ,oJ⟩
def qvV(E:gU k v)(u:iO n k v)(sn:gE n):1<=n.J6.length/\(n.Q4=true->2<=n.J6.length):=by
 have G:=E.Q4;have I:=E.inner;unfold iO at u;unfold eP at u;cases C:n.Q4 with
 | true=>rw[C,if_pos rfl] at u;dsimp only at u;exact⟨oJ,fun _=>oJ⟩
 | false=>
  have:=sn.inner C
  rw[C,if_neg oM] at u;dsimp only at u;exact⟨oJ,fun h=>nomatch h⟩
end
section
variable {dbk pb j:Nat} {FD S S0 N0 Y F F' T B Bl Br Bn Bx By:List Nat} {D:dI} {w0 wa w w' w7:World} {M M':dY} {L:List (Nat×Obj)} {x xx xy:ka} {n nx ny:dL} {k v:Nat} {t:Int}
def Ed.more(e:Ed dbk pb FD D j S0 N0 w0 w (fi L) Y F M x n B)(h:dQ T wa w L)(J:TW dbk pb FD D j w7 (By++(fi L++(B++Y))) F M)(R:fc (Zo FD (By++(fi L++(B++Y))) F) w7 xy ny By)(f:Fr [] w w7)(E:∀c∈By,w.heap.size<=c): Ed dbk pb FD D j S0 N0 w0 w7 (fi L) (By++Y) F M x n B/\dQ (fi L) w7 w7 L/\nu FD F w7 (fi L) (B++(By++Y)) xy ny By:=by
 have C:∀b∈Zo FD (fi L++(B++(By++Y))) F,b∈Zo FD (By++(fi L++(B++Y))) F:=fun b u=>by simp only[Zo,zD,zG] at u⊢;rcases u with (u|u|u|u|u|u)|u<;>simp[u]
 have G:∀b∈Zo FD (fi L++(B++(By++Y))) F,b∈Zo FD (fi L++(B++Y)) F\/w.heap.size<=b:=fun b u=>by simp only[Zo,zD,zG] at u⊢;rcases u with (u|u|u|u|u|u)|u;simp[u];simp[u];simp[u];simp[u];exact .inr (E b u);simp[u];simp[u]
 refine⟨⟨⟨e.sg.pO.j8 f (fun _ h=>nomatch h),e.sg.new,e.sg.own⟩,J.y0 fun b u=>?_,e.node.q8 f (fun _ _ h=>nomatch h) (fun _ h=>nomatch h) G,e.sep,e.cE,e.cR,fun b u C=>?_⟩,ql h f (fun _ _ h=>nomatch h),R.j6 fun b u=>.inl (C b u),fun b u C=>?_⟩;simp only[zD] at u⊢;rcases u with u|u|u|u<;>simp[u];rcases zD.1 C with I|I
 have:=e.node.lt b u;have:=E b I;omega
 exact e.cK b u I
 have:=wg h b u;have:=E b C;omega
def nu.more(o:nu FD F w (fi L) (B++Y) x n Bx)(f:Fr [] w w7)(C:∀c∈By,w.heap.size<=c):nu FD F w7 (fi L) (B++(By++Y)) x n Bx:=
 ⟨o.node.q8 f (fun _ _ h=>nomatch h) (fun _ h=>nomatch h) fun b u=>by simp only[Zo,zD,zG] at u⊢;rcases u with (u|u|u|u|u|u)|u;simp[u];simp[u];simp[u];simp[u];exact .inr (C b u);simp[u];simp[u],o.sep⟩
def nu.q7{R:List Nat}(o:nu FD F w T R x n B)(f:Fr [] w w'):nu FD F w' T R x n B:=⟨o.node.q7 f,o.sep⟩
def qwK{nl nr:dL}(h:∀a∈nl.J6,eF a)(sl:gE nl)(u:gE nr):eF (iQ nl nr key).2.2/\(iQ nl nr key).1.J6.length<=9000/\(iQ nl nr key).1.Q0.length<=9000/\(iQ nl nr key).1.J9.length<=9000/\(iQ nl nr key).2.1.J6.length<=9000/\(iQ nl nr key).2.1.Q0.length<=9000/\(iQ nl nr key).2.1.J9.length<=9000:=by obtain⟨_,_,C,E,G⟩:=sl;obtain⟨_,_,I,J,R⟩:=u;unfold iQ;split;refine⟨sX h _,?_⟩;simp only[yL,yI];omega;refine⟨sX h _,?_⟩;simp only[yL,yI];omega
def qxH{nl nr:dL}(h:∀a∈nr.J6,eF a)(sl:gE nl)(u:gE nr):eF (takeN nl nr key).2.2/\(takeN nl nr key).1.J6.length<=9000/\(takeN nl nr key).1.Q0.length<=9000/\(takeN nl nr key).1.J9.length<=9000/\(takeN nl nr key).2.1.J6.length<=9000/\(takeN nl nr key).2.1.Q0.length<=9000/\(takeN nl nr key).2.1.J9.length<=9000:=by obtain⟨_,_,E,G,I⟩:=sl;obtain⟨_,_,J,R,U⟩:=u;unfold takeN;split;refine⟨sX (fun a C=>h a (yU C)) _,?_⟩;simp only[zF,yC,yI,xK];omega;refine⟨sX h _,?_⟩;simp only[zF,yC,yI,xK];omega
def tP{Y':List Nat}(h:∀b∈Y',b∈Y):∀b∈Zo FD Y' F,b∈Zo FD Y F:=fun b u=>by simp only[Zo,zD,zG] at u⊢;rcases u with (u|u|u)|u;simp[u];simp[u];simp[h b u];simp[u]
def Ed.fM{Y1:List Nat}(e:Ed dbk pb FD D j S0 N0 w0 w (fi L) Y F M x n B)(h:dQ T wa w L)(R:TW dbk pb FD D j w' (fi L++(B++Y1)) F M)(f:Fr S w w')(G:∀b∈S,b∈S0\/w0.heap.size<=b)(C:∀b∈S,b∉B/\b∉fi L)(I:∀b∈S,b∈Zo FD (fi L++(B++Y)) F)(J:∀b∈Y1,b∈Y): Ed dbk pb FD D j S0 N0 w0 w' (fi L) Y1 F M x n B/\dQ (fi L) w' w' L:=
 ⟨⟨⟨e.sg.pO.j8 f G,e.sg.new,e.sg.own⟩,R,e.node.q8 f (fun b u E=>(C b E).1 u) (fun b u=>.inl (I b u)) fun b u=>.inl (by simp only[Zo,zD,zG] at u⊢;rcases u with (u|u|u|u|u)|u;simp[u];simp[u];simp[u];simp[u];simp[J b u];simp[u]),e.sep,e.cE,e.cR,fun b u E=>e.cK b u (J b E)⟩,ql h f fun b u E=>(C b E).2 u⟩
set_option maxHeartbeats 4000000 in
def qym{side c:Nat}(hT:TW dbk pb FD D j w0 (Bn++(Bx++Y)) F M)(hn:fc (Zo FD (Bn++(Bx++Y)) F) w0 x n Bn)(hx:fc (Zo FD (Bn++(Bx++Y)) F) w0 xx nx Bx)(d1:∀b∈Bn,b∉Bx)(d2:∀b∈Bn,b∉Y)(d3:∀b∈Bx,b∉Y)(sn:gE n)(sx:gE nx)(a6:n.Q4=false)(ct:side+1=c\/c+1=side)(hs:side<n.J9.length)(cu:c<n.J9.length)(bL:∀ny,dJ D M k v (n.J9.getD side 0)=(ny,0)->ny.Q4=nx.Q4)(a7:gU k v)(kk:∀yn B' F' w',TW dbk pb FD D j w' (B'++Y) F' (jB D k v M n side c nx).2->fc (Zo FD (B'++Y) F') w' yn (jB D k v M n side c nx).1.1 B'->Fr (Bn++(Bx++F)) w0 w'->(∀b∈B',b∈Bn\/w0.heap.size<=b)->(∀b∈F',b∈Bn++(Bx++F)\/w0.heap.size<=b)->K (yn,(jB D k v M n side c nx).1.2) w'): cW 170 [.agg (mZ (jx k v pb t)),.agg (eJ x),.i side,.i c,.agg (eJ xx)] [.agg dX,.one .i] w0 K:=by
 refine qlT ?_;unfold Gy Er;have ei:(if (c:Int)<(side:Int) then (c:Int) else (side:Int))=(((if side<c then side else c):Nat):Int):=by by_cases h1:c<side;rw[iP,iN];rw[iN,iP]
 have ao:(if side<c then side else c)+1<n.J9.length:=(by split<;>omega);rw[ei];generalize aC:(if side<c then side else c)=i at ao⊢;have il:=sn.inner a6;have s1:=sn.J6;have s3:=sn.J9;have aD:i<n.J6.length:=oJ;have ew:wrap .i64 ((i:Int)+1)=((i+1:Nat):Int):=qZ oJ;rw[ew];have e0:Ed dbk pb FD D j (Bn++(Bx++F)) Bn w0 w0 [] (Bx++Y) F M x n Bn:=⟨⟨.refl _ _,fun b u=>.inl (by simp[u]),fun _ h=>nomatch h⟩,hT,hn,fun _ h=>(nomatch h),fun b u=>.inl u,fun b u=>by simp[u],fun b u I=>(zD.1 I).elim (d1 b u) (d2 b u)⟩;have o0:nu FD F w0 [] (Bn++(Bx++Y)) xx nx Bx:=⟨hx,fun _ h=>nomatch h⟩;rcases al:dJ D M k v (n.J9.getD side 0) with ⟨ny,ey⟩;have bN:n.J9.getD side 0=n.J9[side]:=ue hs;have aL:dJ D M k v n.J9[side]=(ny,ey):=(by rw[<- bN];exact al);have a8:=hx.lt;have a9:∀b∈Y,b<w0.heap.size:=fun b u=>hT.qo b (by simp[u]);have a':gC n.J9[side]:=hn.2.1.2.2 _ (zX hs);have h:=oE [] w0;refine oB h fun J w2 _ _ h=>oB h fun R w4 _ _ h=>oB h fun U w6 _ _ h=>oB h fun V w8 _ _ h=>?_;have h:=oF h;refine⟨?a,?b⟩;case' a=>
  have e:=e0.J0 h;have o:=o0.J0 h;refine oC h 3 rfl (jx k v pb t) rfl<|oA h 2 rfl x.2.2.2 rfl<|dZ.cP e.y6 side rfl hs fun bO hh=>?_;have aQ:=e.fr.size;refine Ap (k:=k) (v:=v) e.tw a' fun xy By bQ ap ab aq ac=>?_;rw[aL] at ab⊢;dsimp only at ab;obtain⟨e,h,oy⟩:=e.more h ap ab aq ac;have ox:=o.more (By:=By) aq ac;refine oB h fun C bR _ _ h=>mK (hh _ _ (e.J0 h).y6) (h.cell 3 rfl rfl) (h.cells 4 rfl rfl)<|oD h 0 rfl (eJ xy) fun bS h _=>?_;have oy:=oy.J0 h;have ox:=ox.J0 h;have e:=e.J0 h;have h:=lH h (.refl _);have aE:∀b∈By,w0.heap.size<=b:=fun b u=>zL aQ (ac b u)
 case' b=>
  have e:=e0.J0 h;have o:=o0.J0 h;have h:=lH h (.refl _);refine oC h 3 rfl (jx k v pb t) rfl<|oA h 2 rfl x.2.2.2 rfl<|dZ.cP e.y6 side rfl hs fun bO hh=>oB h fun C bR _ _ h=>?_;have e:=e.J0 h;have o:=o.J0 h;refine mK (hh _ _ e.y6) (h.cell 3 rfl rfl) (h.cells 4 rfl rfl) ?_;have aQ:=e.fr.size;refine Ap (k:=k) (v:=v) e.tw a' fun xy By bQ ap ab aq ac=>?_;rw[aL] at ab⊢;dsimp only at ab;obtain⟨e,h,oy⟩:=e.more h ap ab aq ac;have ox:=o.more (By:=By) aq ac;refine oD h 0 rfl (eJ xy) fun bS h _=>?_;have oy:=oy.J0 h;have ox:=ox.J0 h;have e:=e.J0 h;have h:=lH h (.refl _);have aE:∀b∈By,w0.heap.size<=b:=fun b u=>zL aQ (ac b u)
 all_goals
  apply dW<;>intro hc;have ar:ey≠0:=by rw[zT] at hc;exact zR.1 hc
  rw[qyl al ar] at kk;refine oD h 1 rfl (eJ fx) fun bT h _=>oC h 1 rfl fx rfl ?_;have e:=e.J0 h;exact kk fx [] F bT (e.qs.y0 fun b u=>by simp at u⊢;simp[u]) (.zero _ _) e.fr (fun _ h=>(nomatch h)) e.sg.new;have bU:ey=0:=by rw[yE] at hc;exact yP.1 hc
  subst bU;have bV:=AK al;have sy:=qms bV;have aM:=bL ny al;have aR:∀b∈By,b∉Bx:=fun b u I=>by have:=aE b u;have:=a8 b I;omega
  have bb:∀b∈By,b∉Y:=fun b u I=>by have:=aE b u;have:=a9 b I;omega
  refine⟨?_,?_⟩;have h:=oF h;refine oC h 2 rfl xx rfl<|oC h 0 rfl xy rfl<|oB h fun E bW _ _ h=>ko (h.cells 1 rfl rfl) (h.cells 3 rfl rfl)<|oB h fun G bX _ _ h=>ko (h.cells 2 rfl rfl) (h.cells 4 rfl rfl)<|oD h 1 rfl (eJ xx) fun bY h _=>ig (h.cells 2 rfl rfl)<|oD h 0 rfl (eJ xy) fun bZ h _=>?_;rotate_left;have h:=oF h;refine oC h 2 rfl xx rfl<|oC h 0 rfl xy rfl<|oB h fun G bW _ _ h=>ko (h.cells 1 rfl rfl) (h.cells 3 rfl rfl)<|oB h fun E bX _ _ h=>ko (h.cells 2 rfl rfl) (h.cells 4 rfl rfl)<|oD h 0 rfl (eJ xx) fun bY h _=>ig (h.cells 2 rfl rfl)<|oD h 1 rfl (eJ xy) fun bZ h _=>?_;have h:=Dr h (List.Perm.swap _ _ _);all_goals
   obtain⟨xl,nl,Bl,xr,nr,Br,hP⟩:∃xl nl Bl xr nr Br,(side<c/\xl=xy/\nl=ny/\Bl=By/\xr=xx/\nr=nx/\Br=Bx)\/(¬side<c/\xl=xx/\nl=nx/\Bl=Bx/\xr=xy/\nr=ny/\Br=By):=by by_cases aa:side<c;exact⟨_,_,_,_,_,_,.inl ⟨aa,rfl,rfl,rfl,rfl,rfl,rfl⟩⟩;exact⟨_,_,_,_,_,_,.inr ⟨aa,rfl,rfl,rfl,rfl,rfl,rfl⟩⟩
   refine gW (fun _ w'=>dQ [G,E,C,V,U,R,J] w' w' [(G,.cells (eJ xr) ND (0,0)),(E,.cells (eJ xl) ND (0,0)),(C,.cells (eJ xy) ND (0,0)),(V,.cells (eJ fx) ND (0,0)),(U,.cells (eJ xx) ND (0,0)),(R,.cells (eJ x) ND (0,0)),(J,.cells (mZ (jx k v pb t)) WK (0,0))]/\
    Ed dbk pb FD D j (Bn++(Bx++F)) Bn w0 w' [G,E,C,V,U,R,J] (By++(Bx++Y)) F M x n Bn/\nu FD F w' [G,E,C,V,U,R,J] (Bn++(By++(Bx++Y))) xx nx Bx/\nu FD F w' [G,E,C,V,U,R,J] (Bn++(By++(Bx++Y))) xy ny By) ?_ ?_
   apply dW<;>intro hc;have aa:side<c:=(by have:=zC hc;omega);rcases hP with ⟨_,rfl,rfl,rfl,rfl,rfl,rfl⟩|⟨hn,_⟩;have h:=oF h;exact oC h 2 rfl xl rfl<|oC h 4 rfl xr rfl<|oD h 1 rfl (eJ xl) fun cx h _=>ig (h.cells 4 rfl rfl)<|oD h 0 rfl (eJ xr) fun cy h _=>⟨lH h (.refl _),e.J0 h,ox.J0 h,oy.J0 h⟩;exact absurd aa hn;have aa:¬side<c:=(by have:=zB hc;omega);rcases hP with ⟨hn,_⟩|⟨_,rfl,rfl,rfl,rfl,rfl,rfl⟩;exact absurd hn aa;exact⟨lH h (.refl _),e.J0 h,ox.J0 h,oy.J0 h⟩;rintro _ cz ⟨h,e,ox,oy⟩;refine oC h 6 rfl (BH k v) rfl<|oC h 2 rfl xy rfl ?_;have ly:nQ xy ny:=(oy.node.rd (S:=[]) (fun _ _ h=>(nomatch h)) fun _ h=>nomatch h).lens;refine qyW ly fun am b0=>?_;have h:=h.q7 b0;have e:=e.J0 h;have ox:=ox.J0 h;have oy:=oy.J0 h;have h:=lH h (.refl _);apply dW<;>intro hc;have aG:¬iO ny k v:=by rw[zT] at hc;exact zB hc
   rw[qwI al aG] at kk;have hj:(if side<c then ny else nx)=nl/\(if side<c then nx else ny)=nr:=by rcases hP with ⟨h1,_,h2,_,_,h3,_⟩|⟨h1,_,h2,_,_,h3,_⟩;rw[if_pos h1,if_pos h1,h2,h3];exact⟨rfl,rfl⟩;rw[if_neg h1,if_neg h1,h2,h3];exact⟨rfl,rfl⟩
   rw[aC,hj.1,hj.2] at kk;have e:=e.sub (T1:=[G,E,C,V,U,R,J]) fun b u=>u;have aT:nu FD F am [G,E,C,V,U,R,J] (Bn++(By++(Bx++Y))) xl nl Bl:=by rcases hP with ⟨_,rfl,rfl,rfl,_⟩|⟨_,rfl,rfl,rfl,_⟩<;>assumption
   have b3:nu FD F am [G,E,C,V,U,R,J] (Bn++(By++(Bx++Y))) xr nr Br:=by rcases hP with ⟨_,_,_,_,rfl,rfl,rfl⟩|⟨_,_,_,_,rfl,rfl,rfl⟩<;>assumption
   have bc:gE nl/\gE nr:=by rcases hP with ⟨_,_,rfl,_,_,rfl,_⟩|⟨_,_,rfl,_,_,rfl,_⟩<;>exact⟨by assumption,by assumption⟩
   have b4:(∀b∈Bl,b∈By\/b∈Bx)/\(∀b∈Br,b∈By\/b∈Bx)/\∀b∈Bl,b∉Br:=by rcases hP with ⟨_,_,_,rfl,_,_,rfl⟩|⟨_,_,_,rfl,_,_,rfl⟩;exact⟨fun b u=>.inl u,fun b u=>.inr u,aR⟩;exact⟨fun b u=>.inr u,fun b u=>.inl u,fun b u I=>aR b I u⟩
   obtain⟨aH,bd,b5⟩:=b4;have aU:∀b,b∈By\/b∈Bx->b∉Bn/\b∉Y:=fun b u=>by rcases u with u|u;exact⟨fun I=>e.cK b I (by simp[u]),bb b u⟩;exact⟨fun I=>e.cK b I (by simp[u]),d3 b u⟩
   have au:∀b∈Bl++(Bn++(Br++([G,E,C,V,U,R,J]++Y))),b∈[G,E,C,V,U,R,J]++(Bn++(By++(Bx++Y))):=fun b u=>by have a1:=aH b;have a2:=bd b;rw[zD,zD,zD,zD] at u⊢;rcases u with u|u|u|u|u;rcases a1 u with h|h<;>simp[h];simp[u];rcases a2 u with h|h<;>simp[h];simp[u];simp[u]
   have hZ:∀b∈Zo FD (Bl++(Bn++(Br++([G,E,C,V,U,R,J]++Y)))) F,b∈Zo FD ([G,E,C,V,U,R,J]++(Bn++(By++(Bx++Y)))) F:=tP au;refine oC h 6 rfl (jx k v pb t) rfl<|oC h 5 rfl x rfl<|oC h 1 rfl xl rfl<|oC h 0 rfl xr rfl<|qyw (Y:=[G,E,C,V,U,R,J]++Y) (e.tw.y0 au) (aT.node.j6 fun b u=>.inl (hZ b u)) (e.node.j6 fun b u=>.inl (hZ b u)) (b3.node.j6 fun b u=>.inl (hZ b u)) (fun b u=>(aU b (aH b u)).1) b5 (fun b u I=>(zD.1 I).elim (fun I=>aT.sep b I u) (aU b (aH b u)).2) (fun b u I=>(aU b (bd b I)).1 u) (fun b u I=>(zD.1 I).elim (fun I=>e.sep b I u) (d2 b u)) bc.1 bc.2 sn aD a6 fun yn B' F' b8 bf bg bh nB nF=>?_;have b9:∀b∈[G,E,C,V,U,R,J],b<am.heap.size:=fun b u=>e.tw.qo b (zH _ u);have hS:∀b∈Bn++(Bl++F),b∈Bn++(Bx++F)\/w0.heap.size<=b:=fun b u=>by rcases zD.1 u with u|u;exact .inl (by simp[u]);rcases zD.1 u with u|u;rcases aH b u with h1|h1;exact .inr (aE b h1);exact .inl (by simp[h1]);exact .inl (by simp[u])
   have h:=ql h bh fun b u I=>by rcases zD.1 I with I|I;exact e.sep b u I;rcases zD.1 I with I|I;exact aT.sep b u I;exact e.tw.yf b (zH _ u) I
   refine oD h 3 rfl (eJ yn) fun ca h _=>oC h 3 rfl yn rfl ?_;have bi:∀b∈[G,E,C,V,U,R,J]++(B'++Y),b∈B'++([G,E,C,V,U,R,J]++Y):=fun b u=>by rw[zD,zD] at u⊢;rcases u with u|u|u<;>simp[u]
   have o:nu FD F' b8 [G,E,C,V,U,R,J] (B'++Y) yn _ B':=⟨bg.j6 fun b u=>.inl (tP bi b u),fun b u I=>(nB b I).elim (e.sep b u) fun h1=>by have:=b9 b u;omega⟩;have cc:=bf.y0 bi;exact kk yn B' F' ca (TW.J0 (T:=[G,E,C,V,U,R,J]) cc h).j7 ((o.J0 h).node.j6 fun b u=>.inl (Af b u)) ((e.fr.j8 bh hS).j8 h.fr e.sg.own) (fun b u=>(nB b u).imp id fun h1=>zL e.fr.size h1) fun b u=>(nF b u).elim (hS b) fun h1=>.inr (zL e.fr.size h1);have aG:iO ny k v:=(by rw[yE] at hc;exact zC hc);rw[qwH al aG,aC] at kk;obtain⟨y1,y2⟩:=qvV a7 aG sy;have e:=e.sub (T1:=[G,E,C,V,U,R,J]) fun b u=>u;have ox:nu FD F am [G,E,C,V,U,R,J] (Bn++(By++(Bx++Y))) xx nx Bx:=ox;have oy:nu FD F am [G,E,C,V,U,R,J] (Bn++(By++(Bx++Y))) xy ny By:=oy;have bj:∀b∈Bx++(By++([G,E,C,V,U,R,J]++(Bn++Y))),b∈[G,E,C,V,U,R,J]++(Bn++(By++(Bx++Y))):=fun b u=>by rw[zD,zD,zD,zD] at u⊢;rcases u with u|u|u|u|u<;>simp[u]
   have aV:∀b∈Zo FD (Bx++(By++([G,E,C,V,U,R,J]++(Bn++Y)))) F,b∈Zo FD ([G,E,C,V,U,R,J]++(Bn++(By++(Bx++Y)))) F:=tP bj;have bk:∀b∈Bx,b∉By:=fun b u I=>aR b I u;have aN:∀b∈Bx,b∉[G,E,C,V,U,R,J]++(Bn++Y):=fun b u I=>by rcases zD.1 I with I|I;exact ox.sep b I u;rcases zD.1 I with I|I;exact d1 b I u;exact d3 b u I
   have aO:∀b∈By,b∉[G,E,C,V,U,R,J]++(Bn++Y):=fun b u I=>by rcases zD.1 I with I|I;exact oy.sep b I u;rcases zD.1 I with I|I;exact e.cK b I (by simp[u]);exact bb b u I
   obtain⟨nk,nv,on⟩:=e.node.AT (S0:=[]) fun _ _ h=>nomatch h;have av:i<nk.length:=(by rw[on.tj];exact aD);have bl:eF nk[i].2:=(by rw[<- on.mG av];exact sX on.nb.1 _);have bm:=(on.ek _ (zX av)).q8 (.refl _ _) fun b u=>.inl (aV b u);have bn:n.J6.getD i []=nk[i].2:=on.mG av;have bo:=e.tw.y0 bj;have bp:=ox.node.j6 fun b u=>.inl (aV b u);have aJ:=oy.node.j6 fun b u=>.inl (aV b u);refine gW (fun _ w'=>∃yl yr r B',dQ [G,E,C,V,U,R,J] w' w' [(G,.cells (eJ yr) ND (0,0)),(E,.cells (eJ yl) ND (0,0)),(C,.cells (eJ xy) ND (0,0)),(V,.cells (eJ fx) ND (0,0)),(U,.cells (eJ xx) ND (0,0)),(R,.cells (eJ x) ND (0,0)),(J,.cells (mZ (jx k v pb t)) WK (0,0))]/\
    Ed dbk pb FD D j (Bn++(Bx++F)) Bn w0 w' [G,E,C,V,U,R,J] Y F M x { n with J6:=n.J6.set i r.2.2 } B'/\eC (Zo FD ([G,E,C,V,U,R,J]++(B'++Y)) F) w' yl r.1/\eC (Zo FD ([G,E,C,V,U,R,J]++(B'++Y)) F) w' yr r.2.1/\
    (if side<c then iQ ny nx (n.J6.getD side []) else takeN nx ny (n.J6.getD c []))=r/\r.1.J6.length<=9000/\r.1.Q0.length<=9000/\r.1.J9.length<=9000/\r.2.1.J6.length<=9000/\r.2.1.Q0.length<=9000/\r.2.1.J9.length<=9000) ?_ ?_
   have bq:∀b∈Bx++F,b∈Bn++(Bx++F)\/w0.heap.size<=b:=fun b u=>.inl (zI _ u);have bt:∀b∈Bx++F,b∉Bn/\b∉[G,E,C,V,U,R,J]:=fun b u=>by rcases zD.1 u with u|u;exact⟨fun I=>d1 b I u,fun I=>ox.sep b I u⟩;exact⟨fun I=>e.tw.yf b (by simp[I]) u,fun I=>e.tw.yf b (zH _ I) u⟩
   have bu:∀b∈Bx++F,b∈Zo FD ([G,E,C,V,U,R,J]++(Bn++(By++(Bx++Y)))) F:=fun b u=>by rcases zD.1 u with u|u<;>simp[u]
   have fd:=(Fr.refl [] am).drew;apply cD<;>intro aX;have aa:side<c:=oJ;have aY:side=i:=(by rw[<- aC,if_pos aa]);rcases hP with ⟨_,rfl,rfl,rfl,rfl,rfl,rfl⟩|⟨hn,_⟩;have h:=oF h;have e:=e.J0 h;have h:=lH h (.refl _);refine oA h 5 rfl x.2.1 rfl<|oC h 1 rfl xl rfl<|oC h 0 rfl xr rfl<|oA h 5 rfl x.2.1 rfl<|dZ.get (on.rk.q7 fd) i rfl (x:=nk[i].1) (by rw[zQ,zA av];rfl) (y:=nk[i].1) rfl ?_;have gm:=qwK (key:=nk[i].2) aJ.2.1.1 sy sx;refine qyp (Y:=[G,E,C,V,U,R,J]++(Bn++Y)) (bo.q7 fd) (aJ.q7 fd) (bp.q7 fd) bk aN aO (bm.q7 fd) bl aM y1 sy sx fun yl yr cd ce aw hL hR ak aZ=>?_;obtain⟨e,h⟩:=e.fM h aw aZ bq bt bu fun b u=>by simp[u]
   refine ig (h.cell 5 rfl rfl)<|oD h 1 rfl (eJ yl) fun cf h _=>ig (h.cell 5 rfl rfl)<|oD h 0 rfl (eJ yr) fun cg h _=>ig (h.cell 5 rfl rfl) ?_;have e:=e.J0 h;have hL:=eC.J0 (T:=[G,E,C,V,U,R,J]) hL h;have hR:=eC.J0 (T:=[G,E,C,V,U,R,J]) hR h;have ak:=pL (T:=[G,E,C,V,U,R,J]) ak h;have h:=lH h (.refl _);exact e.As h (i:=i) aD rfl ak gm.1 fun B1 ch e h kp=>⟨yl,yr,_,B1,h,e,kp.node _ _ hL,kp.node _ _ hR,by rw[if_pos aa,aY,bn],gm.2.1,gm.2.2.1,gm.2.2.2.1,gm.2.2.2.2.1,gm.2.2.2.2.2.1,gm.2.2.2.2.2.2⟩;exact absurd aa hn;have aa:¬side<c:=oJ;have aY:c=i:=(by rw[<- aC,if_neg aa]);rcases hP with ⟨hn,_⟩|⟨_,rfl,rfl,rfl,rfl,rfl,rfl⟩;exact absurd hn aa;have h:=oF h;have e:=e.J0 h;have h:=lH h (.refl _);refine oA h 5 rfl x.2.1 rfl<|oC h 1 rfl xl rfl<|oC h 0 rfl xr rfl<|oA h 5 rfl x.2.1 rfl<|dZ.get (on.rk.q7 fd) i rfl (x:=nk[i].1) (by rw[zQ,zA av];rfl) (y:=nk[i].1) rfl ?_;have gm:=qxH (key:=nk[i].2) aJ.2.1.1 sx sy;refine qyY (Y:=[G,E,C,V,U,R,J]++(Bn++Y)) (bo.q7 fd) (bp.q7 fd) (aJ.q7 fd) bk aN aO (bm.q7 fd) bl aM.symm y1 y2 sx sy fun yl yr cd ce aw hL hR ak aZ=>?_;obtain⟨e,h⟩:=e.fM h aw aZ bq bt bu fun b u=>by simp[u]
   refine ig (h.cell 5 rfl rfl)<|oD h 1 rfl (eJ yl) fun cf h _=>ig (h.cell 5 rfl rfl)<|oD h 0 rfl (eJ yr) fun cg h _=>ig (h.cell 5 rfl rfl) ?_;have e:=e.J0 h;have hL:=eC.J0 (T:=[G,E,C,V,U,R,J]) hL h;have hR:=eC.J0 (T:=[G,E,C,V,U,R,J]) hR h;have ak:=pL (T:=[G,E,C,V,U,R,J]) ak h;have h:=lH h (.refl _);exact e.As h (i:=i) aD rfl ak gm.1 fun B1 ch e h kp=>⟨yl,yr,_,B1,h,e,kp.node _ _ hL,kp.node _ _ hR,by rw[if_neg aa,aY,bn],gm.2.1,gm.2.2.1,gm.2.2.2.1,gm.2.2.2.2.1,gm.2.2.2.2.2.1,gm.2.2.2.2.2.2⟩;rintro _ cD ⟨yl,yr,r,B',h,e,hL,hR,hr,q1,q2,q3,q4,q5,q6⟩;have aK:i<n.J9.length:=oJ;rw[hr] at kk;unfold mV at kk;rw[ue aK,ue ao] at kk;have h:=oF h;have e:=e.J0 h;have hL:=eC.J0 (T:=[G,E,C,V,U,R,J]) hL h;have hR:=eC.J0 (T:=[G,E,C,V,U,R,J]) hR h;have h:=lH h (.refl _);refine oA h 5 rfl x.2.2.2 rfl<|oC h 6 rfl (jx k v pb t) rfl<|oA h 5 rfl x.2.2.2 rfl<|dZ.get e.y6 i rfl (x:=n.J9[i]) (zA aK) (y:=n.J9[i]) rfl<|oC h 1 rfl yl rfl<|uy e.tw hL oJ oJ oJ fun F1 cG bv bx bz=>?_;obtain⟨e,h⟩:=e.next h bv bx bz
   have hR:=hR.next bx bz
   have a3:gC (dO k v M n.J9[i] r.1).1.1:=uT hT.wf (hn.2.1.2.2 _ (zX aK));generalize dO k v M n.J9[i] r.1=ci at kk e a3⊢;obtain⟨⟨a1,bA⟩,M1⟩:=ci;dsimp only at kk e a3⊢;refine ig (h.cell 5 rfl rfl)<|e.tT h (i:=i) aK rfl a3 fun B1 cH e h kp=>?_;have hR:=kp.node _ _ hR;apply dW<;>intro ay;have ar:bA≠0:=(by rw[zT] at ay;exact zR.1 ay);rw[if_pos ar] at kk;refine oD h 3 rfl (eJ fx) fun bB h _=>oC h 3 rfl fx rfl ?_;have e:=e.J0 h;exact kk fx [] F1 bB e.qs.j7 (.zero _ _) e.fr (fun _ h=>(nomatch h)) e.sg.new;have ar:¬bA≠0:=(by rw[yE] at ay;exact fun h=>h (yP.1 ay));rw[if_neg ar] at kk;have bC:(n.J9.set i a1)[i+1]?=some n.J9[i+1]:=(by rw[List.getElem?_set_ne oJ,zA ao]);have h:=oF h;have e:=e.J0 h;have hR:=eC.J0 hR h;have h:=lH h (.refl _);refine oA h 5 rfl x.2.2.2 rfl<|oC h 6 rfl (jx k v pb t) rfl<|oA h 5 rfl x.2.2.2 rfl<|dZ.get e.y6 (i+1) rfl (x:=n.J9[i+1]) bC (y:=n.J9[i+1]) rfl<|oC h 0 rfl yr rfl<|uy e.tw hR oJ oJ oJ fun F2 cr a4 bD bE=>?_;have a5:gC (dO k v M1 n.J9[i+1] r.2.1).1.1:=uT e.tw.wf (hn.2.1.2.2 _ (zX ao));obtain⟨e,h⟩:=e.next h a4 bD bE
   generalize dO k v M1 n.J9[i+1] r.2.1=cj at kk e a5⊢;obtain⟨⟨a2,cI⟩,M2⟩:=cj;dsimp only at kk e a5⊢;refine ig (h.cell 5 rfl rfl)<|e.tT h (i:=i+1) (by dsimp only;rw[xG];exact ao) rfl a5 fun B2 cs e h _=>oC h 5 rfl x rfl<|oD h 3 rfl (eJ x) fun bF h _=>oC h 3 rfl x rfl ?_;have e:=e.J0 h;exact kk x B2 F2 bF e.tw.j7 (e.node.j6 fun b u=>.inl (Af b u)) e.fr e.cE e.sg.new
end
end
section
section
variable {D:dI} {M M1:dY} {k v f side c i:Nat} {key:Key} {p e0 e1:Int} {n nx N:dL}
def C6{α:Type}{l:List α}{i:Nat}(h:i<l.length):(gM l i).length+1=l.length:=by unfold gM;rw[zF,yL,yC];omega
def qmc{l r:dL}(sn:gE n)(u:n.Q4=false)(hi:i<n.J6.length)(h:(lD k v M n i l r).1.2=0):gE (lD k v M n i l r).1.1:=by have J:=sn.inner u;obtain⟨_,_,R,G,U⟩:=sn;unfold lD at h⊢;split;rename_i C;rw[if_pos C] at h;exact absurd h C;rename_i C;rw[if_neg C] at h;split;rename_i E;rw[if_pos E] at h;exact absurd h E;have I:=C6 (l:=n.J9.set i (dO k v M (n.J9.getD i 0) (kM l r (n.J6.getD i []))).1.1) (i:=i+1) (by rw[xG];omega);have V:=C6 hi;rw[xG] at I;exact⟨(fun h=>by rw[u] at h;cases h),fun _=>by dsimp only;omega,by dsimp only;omega,G,by dsimp only;omega⟩
def qlZ{r:dL×dL×Key}(sn:gE n)(u:n.Q4=false)(h:(mV k v M n i r).1.2=0):gE (mV k v M n i r).1.1:=by have E:=sn.inner u;obtain⟨_,_,G,I,J⟩:=sn;unfold mV at h⊢;split;rename_i C;rw[if_pos C] at h;exact absurd h C;exact⟨(fun h=>by rw[u] at h;cases h),fun _=>by dsimp only;rw[xG,xG,xG];exact E,by dsimp only;rw[xG];exact G,I,by dsimp only;rw[xG,xG];exact J⟩
def qti(sn:gE n)(u:n.Q4=false)(I:side+1=c\/c+1=side)(R:side<n.J9.length)(J:c<n.J9.length)(h:(jB D k v M n side c nx).1.2=0):gE (jB D k v M n side c nx).1.1:=by have U:=sn.inner u;unfold jB at h⊢;split;rename_i G;rw[if_pos G] at h;exact absurd h G;rename_i G;rw[if_neg G] at h;split;rename_i C;rw[if_pos C] at h;split;rename_i E;rw[if_pos E] at h;exact qmc sn u oJ h;rename_i E;rw[if_neg E] at h;exact qlZ sn u h;rename_i C;rw[if_neg C] at h;split;rename_i E;rw[if_pos E] at h;exact qmc sn u oJ h;rename_i E;rw[if_neg E] at h;exact qlZ sn u h
def iL (c:Nat):Nat:=if c>0 then c-1 else c+1
def qyf(h:dJ D M k v p=(n,e0))(u:e0≠0):gX D k v key (f+1) M p=((ip,e0),M):=by unfold gX;rw[h,if_pos u]
def qyg(h:dJ D M k v p=(n,0))(u:n.Q4=true)(C:n.J6[dN n.J6 key]?=some key):gX D k v key (f+1) M p=(({ n with J6:=gM n.J6 (dN n.J6 key),Q0:=gM n.Q0 (dN n.J6 key) },0),M):=by unfold gX;rw[h,if_neg (fun h=>h rfl),if_pos u,if_pos C]
def qwu(h:dJ D M k v p=(n,0))(u:n.Q4=true)(C:¬n.J6[dN n.J6 key]?=some key):gX D k v key (f+1) M p=((ip,5),M):=by unfold gX;rw[h,if_neg (fun h=>h rfl),if_pos u,if_neg C]
def qwt(h:dJ D M k v p=(n,0))(u:¬n.Q4=true)(C:gX D k v key f M (n.J9.getD (en n.J6 key) 0)=((N,e1),M1))(E:e1≠0):gX D k v key (f+1) M p=((ip,e1),M1):=by unfold gX;rw[h,if_neg (fun h=>h rfl),if_neg u];dsimp only;rw[C,if_pos E]
def qws(h:dJ D M k v p=(n,0))(u:¬n.Q4=true)(C:gX D k v key f M (n.J9.getD (en n.J6 key) 0)=((N,0),M1))(E:¬oi N k v):gX D k v key (f+1) M p = (({ n with J9:=n.J9.set (en n.J6 key) (dO k v M1 (n.J9.getD (en n.J6 key) 0) N).1.1 },(dO k v M1 (n.J9.getD (en n.J6 key) 0) N).1.2),(dO k v M1 (n.J9.getD (en n.J6 key) 0) N).2):=by unfold gX;rw[h,if_neg (fun h=>h rfl),if_neg u];dsimp only;rw[C,if_neg (fun h=>h rfl),if_pos E]
def qwr(h:dJ D M k v p=(n,0))(u:¬n.Q4=true)(C:gX D k v key f M (n.J9.getD (en n.J6 key) 0)=((N,0),M1))(E:oi N k v):gX D k v key (f+1) M p=jB D k v M1 n (iL (en n.J6 key)) (en n.J6 key) N:=by unfold gX iL;rw[h,if_neg (fun h=>h rfl),if_neg u];dsimp only;rw[C,if_neg (fun h=>h rfl),if_neg (fun h=>h E)];split<;>rfl
def mj (D:dI) (k v:Nat) (key:Key):Nat->dY->Int->Prop
 | 0,_,_=>False
 | f+1,M,p=>∀n,dJ D M k v p=(n,0)->n.Q4=false->mj D k v key f M (n.J9.getD (en n.J6 key) 0)/\
  ∀N M1,gX D k v key f M (n.J9.getD (en n.J6 key) 0)=((N,0),M1)->oi N k v->∀ny,dJ D M1 k v (n.J9.getD (iL (en n.J6 key)) 0)=(ny,0)->ny.Q4=N.Q4
end
section
variable {dbk pb j:Nat} {FD S S0 N0 Y Y1 F F' T B By:List Nat} {D:dI} {w0 wa w w' w7:World} {M M':dY} {L:List (Nat×Obj)} {x xy:ka} {n ny:dL} {k v:Nat} {t:Int}
def Ed.vG(e:Ed dbk pb FD D j S0 N0 w0 w (fi L) Y F M x n B)(h:dQ T wa w L)(J:TW dbk pb FD D j w7 (By++(fi L++(B++Y))) F' M')(U:fc (Zo FD (By++(fi L++(B++Y))) F') w7 xy ny By)(f:Fr F w w7)(R:∀b∈F',b∈F\/w.heap.size<=b)(I:∀c∈By,w.heap.size<=c): Ed dbk pb FD D j S0 N0 w0 w7 (fi L) (By++Y) F' M' x n B/\dQ (fi L) w7 w7 L/\nu FD F' w7 (fi L) (B++(By++Y)) xy ny By:=by
 have C:∀b∈fi L++(B++(By++Y)),b∈By++(fi L++(B++Y)):=fun b u=>by simp only[zD] at u⊢;rcases u with u|u|u|u<;>simp[u]
 obtain⟨e1,E⟩:=e.next h (J.y0 fun b u=>zI _ u) f R
 refine⟨⟨e1.sg,J.y0 C,e.node.q8 f (fun b u G=>e.tw.yf b (by simp[u]) G) (fun b u=>.inl (uV u)) fun b u=>?_,e1.sep,e1.cE,e1.cR,fun b u G=>?_⟩,E,U.j6 fun b u=>.inl (tP C b u),fun b u G=>?_⟩;simp only[Zo,zD,zG] at u⊢;rcases u with (u|u|u|u|u|u)|u;simp[u];simp[u];simp[u];simp[u];exact .inr (I b u);simp[u];exact (R b u).imp (fun h=>.inr h) id;rcases zD.1 G with E|E
 have:=e.node.lt b u;have:=I b E;omega
 exact e.cK b u E
 have:=wg h b u;have:=I b G;omega
def Ed.less(e:Ed dbk pb FD D j S0 N0 w0 w T Y F M x n B)(C:∀b∈Y1,b∈Y):Ed dbk pb FD D j S0 N0 w0 w T Y1 F M x n B:=by
 have E:∀b∈T++(B++Y1),b∈T++(B++Y):=fun b u=>by simp only[zD] at u⊢;rcases u with u|u|u;simp[u];simp[u];simp[C b u]
 exact⟨e.sg,e.tw.y0 E,e.node.j6 fun b u=>.inl (tP E b u),e.sep,e.cE,e.cR,fun b u h=>e.cK b u (C b h)⟩
def qzC{L':List (Nat×Obj)}(E:TW dbk pb FD D j w (B++(T++Y)) F M)(G:fc (Zo FD (B++(T++Y)) F) w x n B)(I:∀b∈T,b∉B)(h:dQ T w w' L'): TW dbk pb FD D j w' (B++Y) F M/\fc (Zo FD (B++Y) F) w' x n B:=by
 have C:∀b∈T++(B++Y),b∈B++(T++Y):=fun b u=>by rw[zD,zD] at u⊢;rcases u with u|u|u<;>simp[u]
 have o:nu FD F w T (B++Y) x n B:=⟨G.j6 fun b u=>.inl (tP C b u),I⟩;exact⟨(TW.J0 (E.y0 C) h).j7,(o.J0 h).node.j6 fun b u=>.inl (Af b u)⟩
set_option maxHeartbeats 2000000 in
def EK{ks:Sl}{key:Key}(aA:eF key)(ao:gU k v):∀(f:Nat) {Y F:List Nat} {w0:World} {M:dY} {p:Int} {K:ka×Int->WP} (hT:TW dbk pb FD D j w0 Y F M) (hp:gC p) (hk:eh (Zo FD Y F) w0 ks key) (R:mj D k v key f M p) (kk:∀yn B' F' w',((gX D k v key f M p).1.2=0->gE (gX D k v key f M p).1.1)->TW dbk pb FD D j w' (B'++Y) F' (gX D k v key f M p).2->fc (Zo FD (B'++Y) F') w' yn (gX D k v key f M p).1.1 B'->Fr F w0 w'->(∀b∈B',w0.heap.size<=b)->(∀b∈F',b∈F\/w0.heap.size<=b)->K (yn,(gX D k v key f M p).1.2) w'), cW 136 [.agg (mZ (jx k v pb t)),.u p,ks.v] [.agg dX,.one .i] w0 K
 | 0,_,_,_,_,_,_,_,_,_,R,_=>R.elim
 | f+1,Y,F,w0,M,p,K,hT,hp,hk,R,kk=>by
  refine qnk ?_;have h:=oE [] w0;have g:=Sg.start F w0;refine oB h fun r1 w2 _ _ h=>oB h fun r3 w4 _ _ h=>oC h 1 rfl (jx k v pb t) rfl ?_;rcases U:dJ D M k v p with ⟨n,e0⟩;refine Ap (k:=k) (v:=v) (hT.cB h) hp fun x B w7 bj aJ f7 bk=>?_;rw[U] at aJ⊢;dsimp only at aJ;obtain⟨e,h⟩:=Ed.load (N0:=[]) (fun _ h=>nomatch h) g h bj aJ f7 bk fun b C=>yD (hT.qo b C) h.fr.size;refine oB h fun r8 w9 _ _ h=>oD h 0 rfl (eJ x) fun bV h _=>?_;have aq:∀ {e:Int} {M':dY} {F':List Nat} {w'},gX D k v key (f+1) M p=((ip,e),M')->e≠0->TW dbk pb FD D j w' Y F' M'->Fr F w0 w'->(∀b∈F',b∈F\/w0.heap.size<=b)->K (fx,e) w':=fun he bl bm fr hF=>by
   have:=kk fx [] _ _ (fun h=>by rw[he] at h;exact absurd h bl) (by rw[he];exact bm) (by rw[he];exact .zero _ _) fr (fun _ h=>nomatch h) hF
   rw[he] at this;exact this
  apply dW<;>intro V;have aE:e0≠0:=by rw[zT] at V;exact zR.1 V
  refine oD h 1 rfl (eJ fx) fun bY h _=>oC h 1 rfl fx rfl ?_;have e:=e.J0 h;exact aq (qyf U aE) aE e.qs.j7 e.fr e.sg.new;have bn:e0=0:=by rw[yE] at V;exact yP.1 V
  subst bn;have hr:=AK U;have sn:=qms hr;obtain⟨l1,l2,l3,l4,l5⟩:=uK hr;have e:=e.J0 h;have h:=lH h (.refl _);have aV:x.1=n.Q4:=e.node.1;refine oA h 0 rfl x.1 rfl ?_;apply dW<;>intro V;rw[aV] at V;obtain⟨l6,l7⟩:=l4 V;refine oC h 0 rfl x rfl<|Ds e.y9 (e.cT hk) aA hr.2.2.1 oJ fun b3 bo=>?_;obtain⟨e,h⟩:=e.cA h bo;have b4:=G5 n.J6 key;apply dW<;>intro aa;rw[zT] at aa;have aW:=zB aa;refine oD h 1 rfl (eJ fx) fun b5 h _=>oC h 1 rfl fx rfl ?_;have e:=e.J0 h;exact aq (qwu U V aW) oM e.qs.j7 e.fr e.sg.new;rw[yE] at aa;have aX:=zC aa;have aY:=(zP.1 aX).1;have ac:=qyg (f:=f) U V aX;have ew:wrap .i64 ((dN n.J6 key:Int)+1)=((dN n.J6 key+1:Nat):Int):=qZ oJ;rw[ac] at kk;have h:=oF h;refine oA h 0 rfl x.2.1 rfl<|oA h 0 rfl x.2.2.1 rfl ?_;have e:=e.J0 h;dsimp only;refine e.AN h (i:=dN n.J6 key) aY rfl ew oJ fun ak B1 b6 e h _=>ig (h.cell 0 rfl rfl)<|e.Eh h (i:=dN n.J6 key) oN rfl ew oN fun ar B2 b7 e h _=>oD h 0 rfl (eJ (x.1,ak,x.2.2.1,x.2.2.2)) fun b8 h _=>oD h 0 rfl (eJ (x.1,ak,ar,x.2.2.2)) fun b9 h _=>oC h 0 rfl (x.1,ak,ar,x.2.2.2) rfl<|oD h 1 rfl (eJ (x.1,ak,ar,x.2.2.2)) fun bq h _=>oC h 1 rfl (x.1,ak,ar,x.2.2.2) rfl ?_;have e:=e.J0 h;have k1:=C6 aY;have k2:=C6 (l:=n.Q0) (i:=dN n.J6 key) oJ;exact kk (x.1,ak,ar,x.2.2.2) B2 F bq (fun _=>⟨fun _=>by dsimp only;omega,(fun h=>by dsimp only at h;rw[V] at h;cases h),by dsimp only;omega,by dsimp only;omega,by dsimp only;omega⟩) e.tw.j7 (e.node.j6 fun b C=>.inl (Af b C)) e.fr (fun b C=>(e.cE b C).elim (fun h=>nomatch h) id) e.sg.new
  ·rw[aV] at V;have aK:¬n.Q4=true:=(by rw[V];decide);obtain⟨l6,l7,l8⟩:=l5 V;obtain⟨G,ab⟩:=R n U V;refine oC h 0 rfl x rfl<|Bm e.y9 (e.cT hk) aA hr.2.2.1 oJ fun ca bt=>?_;obtain⟨e,h⟩:=e.cA h bt;have bu:=yi n.J6 key;have au:=fun N e1 M1 he=>qwt (key:=key) (f:=f) (N:=N) (e1:=e1) (M1:=M1) U aK he;have aa:=fun N M1 he=>qws (key:=key) (f:=f) (N:=N) (M1:=M1) U aK he;have aL:=fun N M1 he=>qwr (key:=key) (f:=f) (N:=N) (M1:=M1) U aK he;generalize cc:en n.J6 key=c at bu G ab au aa aL⊢;have ad:c<n.J9.length:=oJ;have bv:n.J9.getD c 0=n.J9[c]:=ue ad;rw[bv] at G ab au aa aL;have hu:gC n.J9[c]:=e.node.2.1.2.2 _ (zX ad);rcases al:gX D k v key f M n.J9[c] with ⟨⟨N1,e1⟩,M1⟩;have au:=au N1 e1 M1 al;refine⟨?a,?b⟩;case' a=>
    have h:=oF h;have e:=e.J0 h;refine oC h 2 rfl (jx k v pb t) rfl<|oA h 0 rfl x.2.2.2 rfl<|dZ.cP e.y6 c rfl ad fun bz hh=>?_;have hz:=e.fr.size;refine EK aA ao f e.tw hu (e.cT hk) G fun xx Bx F1 bB an ae I aM af aN=>?_;rw[al] at an ae I⊢;dsimp only at an I⊢;obtain⟨e,h,ox⟩:=e.vG h ae I aM aN af;refine oB h fun J bC _ _ h=>mK (hh _ _ (e.J0 h).y6) (h.cell 1 rfl rfl) (h.cells 3 rfl rfl)<|oD h 0 rfl (eJ xx) fun bD h _=>?_;have aD:∀b∈Bx,w0.heap.size<=b:=fun b C=>zL hz (af b C);have ox:=ox.J0 h;have e:=e.J0 h;have h:=lH h (.refl _)
   case' b=>
    have h:=oF h;have e:=e.J0 h;have h:=lH h (.refl _);refine oC h 2 rfl (jx k v pb t) rfl<|oA h 0 rfl x.2.2.2 rfl<|dZ.cP e.y6 c rfl ad fun bz hh=>oB h fun J bC _ _ h=>?_;have e:=e.J0 h;refine mK (hh _ _ e.y6) (h.cell 1 rfl rfl) (h.cells 3 rfl rfl) ?_;have hz:=e.fr.size;refine EK aA ao f e.tw hu (e.cT hk) G fun xx Bx F1 bB an ae I aM af aN=>?_;rw[al] at an ae I⊢;dsimp only at an I⊢;obtain⟨e,h,ox⟩:=e.vG h ae I aM aN af;refine oD h 0 rfl (eJ xx) fun bD h _=>?_;have aD:∀b∈Bx,w0.heap.size<=b:=fun b C=>zL hz (af b C);have ox:=ox.J0 h;have e:=e.J0 h;have h:=lH h (.refl _)
   all_goals
    apply dW<;>intro hq;have aF:e1≠0:=by rw[zT] at hq;exact zR.1 hq
    refine oD h 2 rfl (eJ fx) fun cd h _=>oC h 2 rfl fx rfl ?_;have e:=e.J0 h;exact aq (au aF) aF (e.qs.y0 fun b C=>by simp[C]) e.fr e.sg.new;have bE:e1=0:=by rw[yE] at hq;exact yP.1 hq
    subst bE;have sx:=an rfl;refine oC h 3 rfl (BH k v) rfl<|oC h 0 rfl xx rfl ?_;have lx:nQ xx N1:=(ox.node.rd (S:=[]) (fun _ _ h=>(nomatch h)) fun _ h=>nomatch h).lens;refine qAI lx fun ah a3=>?_;obtain⟨e,h⟩:=e.cA h a3;have ox:=ox.q7 a3;apply dW<;>intro av;have aj:¬oi N1 k v:=by rw[zT] at av;exact zB av
    have ac:=aa N1 M1 al aj;rw[ac] at kk;have h:=oF h;have e:=e.J0 h;have ox:=ox.J0 h;have h:=lH h (.refl _);refine oA h 1 rfl x.2.2.2 rfl<|oC h 3 rfl (jx k v pb t) rfl<|oA h 1 rfl x.2.2.2 rfl<|dZ.get e.y6 c rfl (x:=n.J9[c]) (zA ad) (y:=n.J9[c]) rfl<|oC h 0 rfl xx rfl ?_;have z1:=sx.J6;have z2:=sx.Q0;have z3:=sx.J9;have bF:eC (Zo FD (fi _++(B++Y)) F1) ah.drew xx N1:=ox.node.rd (fun b C E=>by
     have hs:=e.tw.sep b (by simp[C]);rcases zD.1 E with E|E;rcases zD.1 E with E|E;exact hs.1 E;rcases zG.1 E with E|E;exact hs.2 E;rcases zD.1 E with E|E;exact ox.sep b E C;rcases zD.1 E with E|E;exact e.cK b E (by simp[C])
     have:=aD b C;have:=hT.qo b E;omega
     exact e.tw.yf b (by simp[C]) E) fun b C=>.inl (tP (fun b C=>by
     rw[zD,zD] at C⊢;rcases C with C|C|C;exact .inl C;exact .inr (by simp[C]);exact .inr (by simp[C])) b C)
    have e:=e.less (Y1:=Y) fun b C=>zI _ C;refine uy e.tw bF oJ oJ oJ fun F2 cf a5 bG bH=>?_;have aO:gC (dO k v M1 n.J9[c] N1).1.1:=uT e.tw.wf hu;obtain⟨e,h⟩:=e.next h a5 bG bH
    generalize dO k v M1 n.J9[c] N1=st at kk e aO⊢;obtain⟨⟨a1,s1⟩,M2⟩:=st;dsimp only at kk e aO⊢;refine ig (h.cell 1 rfl rfl)<|e.tT h (i:=c) ad rfl aO fun B2 cg e h _=>oC h 1 rfl x rfl<|oD h 2 rfl (eJ x) fun bI h _=>oC h 2 rfl x rfl ?_;have e:=e.J0 h;exact kk x B2 F2 bI (fun _=>⟨(fun h=>by dsimp only at h;rw[V] at h;cases h),fun _=>by dsimp only;rw[xG];omega,by dsimp only;omega,by dsimp only;omega,by dsimp only;rw[xG];omega⟩) e.tw.j7 (e.node.j6 fun b C=>.inl (Af b C)) e.fr (fun b C=>(e.cE b C).elim (fun h=>nomatch h) id) e.sg.new;have aj:oi N1 k v:=by rw[yE] at av;exact zC av
    have ac:=aL N1 M1 al aj;have bJ:=ab N1 M1 al aj;rw[ac] at kk;have e:=e.sub (T1:=[J,r8,r3,r1]) fun b C=>C;have ox:nu FD F1 ah [J,r8,r3,r1] (B++(Bx++Y)) xx N1 Bx:=ox;have ai:∀b∈B++(Bx++([J,r8,r3,r1]++Y)),b∈[J,r8,r3,r1]++(B++(Bx++Y)):=fun b C=>by rw[zD,zD,zD] at C⊢;rcases C with C|C|C|C<;>simp[C]
    have bK:∀b∈Bx,b∉Y:=fun b C E=>by have:=aD b C;have:=hT.qo b E;omega
    have a6:iL c+1=c\/c+1=iL c:=(by unfold iL;split<;>omega);have hs:iL c<n.J9.length:=(by unfold iL;split<;>omega);have aG:=fun {K':ka×Int->WP} (bL)=>qym (t:=t) (pb:=pb) (j:=j) (dbk:=dbk) (Y:=[J,r8,r3,r1]++Y) (K:=K') (e.tw.y0 ai) (e.node.j6 fun b C=>.inl (tP ai b C)) (ox.node.j6 fun b C=>.inl (tP ai b C)) (fun b C E=>e.cK b C (zH _ E)) (fun b C E=>(zD.1 E).elim (fun E=>e.sep b E C) fun E=>e.cK b C (zI _ E)) (fun b C E=>(zD.1 E).elim (fun E=>ox.sep b E C) (bK b C)) sn sx V a6 hs ad bJ ao bL;have a7:=fun h0=>qti (D:=D) (M:=M1) (k:=k) (v:=v) (nx:=N1) sn V a6 hs ad h0;have hS:∀b∈B++(Bx++F1),b∈F\/w0.heap.size<=b:=fun b C=>by rcases zD.1 C with C|C;exact (e.cE b C).elim (fun h=>nomatch h) .inr;rcases zD.1 C with C|C;exact .inr (aD b C);exact e.sg.new b C
    have bM:∀b∈[J,r8,r3,r1],b<ah.heap.size:=fun b C=>e.tw.qo b (zH _ C);have a8:∀b∈[J,r8,r3,r1],b∉B++(Bx++F1):=fun b C E=>by rcases zD.1 E with E|E;exact e.sep b C E;rcases zD.1 E with E|E;exact ox.sep b C E;exact e.tw.yf b (zH _ C) E
    generalize jB D k v M1 n (iL c) c N1=ev at kk a7 aG;have aw:∀ {z:Int},z=(iL c:Int)->(dK iz (dg r1) ah fun a9=>dK dX (dg r8) ah fun a'=>dK dX (dg J) ah fun ba=>
      cW 170 [fG iz a9,fG dX a',Value.int IntKind.i64 z,Value.int IntKind.i64 c,fG dX ba] [gN.agg dX,gN.one (Cell.int IntKind.i64)] ah fun aH bb=>
      st (dg r3) (HL.mk dX aH.1) bb fun aI=>dK dX (dg r3) aI fun bc=>K (bc,aH.2) aI):=fun hz=>by
     subst hz;refine oC h 3 rfl (jx k v pb t) rfl<|oC h 1 rfl x rfl<|oC h 0 rfl xx rfl<|aG fun yn B' F' cj bd bf bg nB nF=>?_;have h:=ql h bg a8;refine oD h 2 rfl (eJ yn) fun bN h _=>oC h 2 rfl yn rfl ?_;obtain⟨bO,bP⟩:=qzC (T:=[J,r8,r3,r1]) bd bf (fun b C E=>(nB b E).elim (e.sep b C) fun h1=>by have:=bM b C;omega) h;exact kk yn B' F' bN a7 bO bP ((e.fr.j8 bg hS).j8 h.fr e.sg.own) (fun b C=>(nB b C).elim (fun h1=>(e.cE b h1).elim (fun h=>nomatch h) id) fun h1=>zL e.fr.size h1) fun b C=>(nF b C).elim (hS b) fun h1=>.inr (zL e.fr.size h1)
    apply cD<;>intro aP;have ax:0<c:=oJ;refine aw ?_;unfold iL;rw[if_pos ax,gg _ oJ];omega;have ax:¬0<c:=oJ;refine aw ?_;unfold iL;rw[if_neg ax,gg _ oJ];omega
end
end
section
abbrev RtC:=Int×Int×Int
def rW (x:RtC):Array Value:=#[.u x.1,.u x.2.1,.u x.2.2]
abbrev RT:TypeId:=125
section
variable {S:List Nat} {w:World}
def Ef{vb:Nat}{T':TypeId}{h:Nat×Nat}{ks:Sl}(C:w.heap[vb]?=some (.cells #[fS ks] T' h))(E:vb∉S)(G:eh S w ks key):jg S w ⟨pW vb,1,1⟩ [(ks,key)]:=
 ⟨⟨rfl,zM _,.inr ⟨vb,0,_,T',h,rfl,C,E,fun i x u=>by
  cases i with
  | zero=>cases u;rfl
  | succ i=>simp at u⟩⟩,fun p I=>by rw[zE.1 I];exact G⟩
def qAh{vb:Nat}{T':TypeId}{C:Nat×Nat}{a b:Int}(E:w.heap[vb]?=some (.cells #[.u a,.u b] T' C))(G:vb∉S):dZ iu 1 S w ⟨pW vb,2,2⟩ [a,b]:=
 ⟨rfl,zM _,.inr ⟨vb,0,_,T',C,rfl,E,G,fun i x h=>by
  match i,h with
  | 0,h=>cases h;rfl
  | 1,h=>cases h;rfl
  | i+2,h=>simp at h⟩⟩
end
section
variable {dbk pb j:Nat} {FD Y F F' T:List Nat} {D:dI} {w0 w w':World} {M M':dY} {L L':List (Nat×Obj)} {k v:Nat} {t:Int}
def Cw{b:Nat}(h:TW dbk pb FD D j w Y F M)(C:w.heap.size<=b):b∉Zo FD Y F:=fun u=>by have:=h.sI b u;omega
set_option maxHeartbeats 1000000 in
def qvn{f:Nat}{ks vs:Sl}{val:Key}{K:Int->WP}(aw:eF key)(ax:eF val)(hT:TW dbk pb FD D j w0 Y F M)(hk:eh (Zo FD Y F) w0 ks key)(hv:eh (Zo FD Y F) w0 vs val)(C:(dU M t).1≠0->(gT D k v key val f M (dU M t).1).1.2≠-1)(u:∀F' w',TW dbk pb FD D j w' Y F' (ju D k v t key val f M).2->Fr F w0 w'->(∀b∈F',b∈F\/w0.heap.size<=b)->K (ju D k v t key val f M).1 w'): cW 96 [.agg (mZ (jx k v pb t)),ks.v,vs.v] di w0 K:=by
 refine qj1 ?_;have g:=Sg.start F w0;have h:=oE [] w0;obtain⟨u1,u2,u3⟩:=Cb hT.wf t;refine oB h fun r1 w2 _ _ h=>oA h 0 rfl (pW pb) rfl<|oA h 0 rfl t rfl<|TW.J5 (hT.q7 h.fr) fun w6 f6=>?_;have h:=h.q7 f6;unfold ju at u;generalize dU M t=J at u C u1 u2 u3⊢;refine oB h fun r7 w8 _ _ h=>oD h 0 rfl (rW J) fun w9 h _=>oA h 0 rfl J.1 rfl ?_;apply dW<;>intro hc;have hc:J.1=0:=yP.1 hc;rw[if_pos hc] at u;refine oC h 1 rfl (jx k v pb t) rfl ?_;have ai:=hT.cB h;have aP:=uk hk h;have aQ:=uk hv h;have g:=g.cA h (.refl [] _);have h:=lH h (.refl _);refine oB h fun ay bm bn az h=>oB h fun aA aR bo aT h=>?_;have bj:=az.size;have ac:=az.trans aT;have ag:=ai.q7 ac;have aU:=Cw ai (b:=ay) oJ;have aV:=Cw ai (b:=aA) oJ;have aj:=Ef (h.at (i:=1) rfl) aU (aP.q7 ac);have aW:=Ef (h.at (i:=0) rfl) aV (aQ.q7 ac);have hx:eC _ aR (true,⟨pW ay,1,1⟩,⟨pW aA,1,1⟩,dG) (ef [(key,val)]):=⟨rfl,⟨fun a ha=>by rw[zE.1 ha];exact aw,fun a ha=>by rw[zE.1 ha];exact ax,fun _ h=>nomatch h⟩,⟨_,aj,rfl⟩,⟨_,aW,rfl⟩,.nil _ _ _ _⟩;refine uy ag hx (zO rfl) (zO rfl) (zO rfl) fun F1 aY U aB aZ=>?_;have g:=g.next h aB aZ
 have h:=ql (h.sub (.cons _ (.cons _ (.refl _)))) aB fun b hb=>ag.yf b (zH _ hb);have hu:gC (dO k v M 0 (ef [(key,val)])).1.1:=uT hT.wf tZ;unfold kG at u;generalize dO k v M 0 (ef [(key,val)])=st at u U hu⊢;obtain⟨⟨q,e⟩,M1⟩:=st;dsimp only at u U hu⊢;apply dW<;>intro I;have C:e≠0:=by rw[zT] at I;exact zR.1 I
 rw[if_pos C] at u;exact u F1 aY U.j7 g.pO g.new;have C:¬e≠0:=by rw[yE] at I;exact fun h=>h (yP.1 I)
 rw[if_neg C] at u;exact oA h 1 rfl (pW pb) rfl<|oA h 1 rfl t rfl<|TW.pZ U hu ⟨oM,oM⟩ ⟨oM,oM⟩ fun a0 aC a1=>u F1 a0 aC.j7 (g.pO.j8 a1 g.new) g.new;have hc:J.1≠0:=zR.1 hc;rw[if_neg hc] at u;refine oC h 1 rfl (jx k v pb t) rfl<|oA h 0 rfl J.1 rfl<|DI aw ax f (hT.cB h) u1 (uk hk h) (uk hv h) (C hc) fun gs F1 aD hG R al aE a2=>?_;have g:=g.next h aE a2
 have h:=(hT.cB h).own h aE;generalize gT D k v key val f M J.1=pn at u hG R al⊢;obtain⟨⟨G,e1⟩,M1⟩:=pn;dsimp only at hG R al⊢;unfold rI at u;dsimp only at u;refine oB h fun aF bq _ _ h=>oD h 0 rfl (pD (sW G gs)) fun a3 h _=>?_;apply dW<;>intro I;have C:e1≠0:=by rw[zT] at I;exact zR.1 I
 rw[if_pos C] at u;exact u F1 a3 (R.J0 h).j7 (g.fr h) g.new;have C:¬e1≠0:=by rw[yE] at I;exact fun h=>h (yP.1 I)
 rw[if_neg C] at u;refine oA h 0 rfl G.x5 rfl<|oD h 1 rfl (rW (G.x5,J.2.1,J.2.2)) fun bt h _=>?_;have aG:gC (if G.J8 then wrap .u32 (J.2.1+1) else J.2.1):=by split;exact vv _;exact u2
 refine gW (fun _ w'=>dQ [r7,r1] aD w' [(aF,.cells (pD (sW G gs)) GR (0,0)),(r7,.cells (rW (G.x5,(if G.J8 then wrap .u32 (J.2.1+1) else J.2.1),J.2.2)) RT (0,0)),(r1,.cells (mZ (jx k v pb t)) WK (0,0))]) ?_ ?_;refine oA h 0 rfl G.J8 rfl ?_;apply dW<;>intro E;rw[if_pos E];refine oA h 1 rfl J.2.1 rfl<|oD h 1 rfl (rW (G.x5,wrap .u32 (J.2.1+1),J.2.2)) fun bu h _=>h;rw[if_neg (by rw[E];decide)];exact h;intro _ a4 h;generalize (if G.J8 then wrap .u32 (J.2.1+1) else J.2.1)=ab at u aG h;refine gW (fun _ w'=>∃(a c:Int) (F2 T:List Nat) (M2:dY) (wa:World),Sg F w0 wa F2 T/\TW dbk pb FD D j wa (T++Y) F2 M2/\dQ T wa w' [(aF,.cells (pD (sW G gs)) GR (0,0)),(r7,.cells (rW (a,ab,c)) RT (0,0)),(r1,.cells (mZ (jx k v pb t)) WK (0,0))]/\gC a/\gC c/\
  ∀F' w',TW dbk pb FD D j w' Y F' (eV M2 t a ab c).2->Fr F w0 w'->(∀b∈F',b∈F\/w0.heap.size<=b)->K (eV M2 t a ab c).1 w') ?_ ?_
 refine oA h 0 rfl G.x4 rfl ?_;apply dW<;>intro E;have E:G.x4≠0:=by rw[zT] at E;exact zR.1 E
 rw[if_pos E] at u;refine oC h 2 rfl (jx k v pb t) rfl<|oA h 0 rfl gs rfl ?_;have V:=TW.J0 (T:=[r7,r1]) R h;have am:=pL (T:=[r7,r1]) al h;have g:Sg F w0 a4 F1 (fi _):=g.cA h (.refl [] _);have h:=lH h (.refl _);refine oB h fun aH bv bx aI h=>oA h 1 rfl G.x5 rfl<|oA h 1 rfl G.x4 rfl<|oB h fun aJ a5 bz a6 h=>?_;have bk:=aI.size;have aK:=aI.trans a6;have ah:=V.q7 aK;have a7:=Cw V (b:=aH) oJ;have a8:=Cw V (b:=aJ) oJ;have aj:=Ef (h.at (i:=1) rfl) a7 (am.q7 aK);have a9:=qAh (h.at (i:=0) rfl) a8;have hx:eC _ a5 (false,⟨pW aH,1,1⟩,dG,⟨pW aJ,2,2⟩) ⟨false,[G.key],[],[G.x5,G.x4]⟩:=⟨rfl,⟨fun a ha=>by rw[zE.1 ha];exact hG.key,fun _ h=>(nomatch h),fun a ha=>by simp only[zG,xX,or_false] at ha;rcases ha with rfl|rfl;exact hG.x5;exact hG.x4⟩,⟨_,aj,rfl⟩,⟨_,.nil _ _,rfl⟩,a9⟩;refine uy ah hx (zO rfl) (zO rfl) (zO rfl) fun F2 aL aa aM a'=>?_;have g:=g.next h aM a'
 have h:=ql (h.sub (.cons _ (.cons _ (.refl _)))) aM fun b hb=>ah.yf b (zH _ hb);have hu:gC (dO k v M1 0 ⟨false,[G.key],[],[G.x5,G.x4]⟩).1.1:=uT V.wf tZ;unfold kG at u;generalize dO k v M1 0 ⟨false,[G.key],[],[G.x5,G.x4]⟩=st at u aa hu⊢;obtain⟨⟨q,e⟩,M2⟩:=st;dsimp only at u aa hu⊢;apply dW<;>intro ad;have C:e≠0:=by rw[zT] at ad;exact zR.1 ad
 rw[if_pos C] at u;exact u F2 aL aa.j7 g.pO g.new;have C:¬e≠0:=by rw[yE] at ad;exact fun h=>h (yP.1 ad)
 rw[if_neg C] at u;exact oA h 1 rfl J.2.2 rfl<|oD h 1 rfl (rW (q,ab,J.2.2)) fun bA h _=>oD h 1 rfl (rW (q,ab,wrap .u32 (J.2.2+1))) fun bB h _=>⟨q,_,F2,_,M2,aL,⟨g.pO,g.new,fun b hb=>g.own b (by simp at hb⊢;rcases hb with h|h|h<;>simp[h])⟩,aa,h,hu,vv _,u⟩;have E:¬G.x4≠0:=by rw[yE] at E;exact fun h=>h (yP.1 E)
 rw[if_neg E] at u;exact⟨G.x5,J.2.2,F1,[r7,r1],M1,aD,g,R,h,hG.x5,u3,u⟩;rintro _ bC ⟨a,c,F2,T,M2,wa,g,ba,h,ha,bb,u⟩;exact oA h 2 rfl (pW pb) rfl<|oA h 2 rfl t rfl<|oC h 1 rfl (a,ab,c) rfl<|TW.pZ (ba.J0 h) ha aG bb fun bc aN bd=>u F2 bc aN.j7 ((g.fr h).j8 bd g.new) g.new
end
end
section
section
variable {dbk pb j:Nat} {FD Y F F' T:List Nat} {D:dI} {w0 w w':World} {M M':dY} {L L':List (Nat×Obj)} {k v:Nat} {t:Int}
def nu.rd{x:ka}{n:dL}{B:List Nat}(o:nu FD F w T (B++Y) x n B)(E:TW dbk pb FD D j w (T++(B++Y)) F M)(C:∀b∈B,b∉Y):eC (Zo FD (T++Y) F) w x n:=
 o.node.rd (fun b h u=>by
  have G:=E.sep b (by simp[h]);simp only[Zo,zD,zG] at u;rcases u with (u|u|u|u)|u;exact G.1 u;exact G.2 u;exact o.sep b u h;exact C b h u;exact E.yf b (by simp[h]) u) fun b h=>.inl (tP (fun b h=>by
  rw[zD] at h;simp only[zD];rcases h with h|h;exact .inl h;exact .inr (.inr h)) b h)
def nu.next{x:ka}{n:dL}{B:List Nat}(o:nu FD F w T R x n B)(f:Fr F w w')(h:∀b∈B,b∉F)(u:∀b∈F',b∈F\/w.heap.size<=b):nu FD F' w' T R x n B:=⟨o.node.q8 f h (fun b C=>.inl (uV C)) (TW.uR u),o.sep⟩
def qxB{r:Int×Int×Int}{N:dL}:mg k v t r ((N,0),M) = if N.Q4=true/\N.J6.length=0 then (if (fk M r.1).1≠0 then ((fk M r.1).1,(fk M r.1).2) else eV (fk M r.1).2 t 0 0 0) else if N.Q4=false/\N.J9.length=1 then (if (fk M r.1).1≠0 then ((fk M r.1).1,(fk M r.1).2) else eV (fk M r.1).2 t (N.J9.getD 0 0) (wrap .u32 (r.2.1-1)) (wrap .u32 (r.2.2-1))) else kG t (dO k v M r.1 N) (wrap .u32 (r.2.1-1)) r.2.2:=by unfold mg;rw[if_neg (fun h=>h rfl)]
set_option maxHeartbeats 1000000 in
def qvO{f:Nat}{ks:Sl}{K:Int->WP}(aG:eF key)(am:gU k v)(hT:TW dbk pb FD D j w0 Y F M)(hk:eh (Zo FD Y F) w0 ks key)(U:mj D k v key f M (dU M t).1)(E:∀F' w',TW dbk pb FD D j w' Y F' (kR D k v t key f M).2->Fr F w0 w'->(∀b∈F',b∈F\/w0.heap.size<=b)->K (kR D k v t key f M).1 w'): cW 105 [.agg (mZ (jx k v pb t)),ks.v] di w0 K:=by
 refine qj2 ?_;have g:=Sg.start F w0;have h:=oE [] w0;obtain⟨u1,u2,u3⟩:=Cb hT.wf t;refine oB h fun r1 w2 _ _ h=>oA h 0 rfl (pW pb) rfl<|oA h 0 rfl t rfl<|TW.J5 (hT.q7 h.fr) fun w6 f6=>?_;have h:=h.q7 f6;unfold kR at E;generalize dU M t=G at E U u1 u2 u3⊢;refine oB h fun r7 w8 _ _ h=>oD h 0 rfl (rW G) fun w9 h _=>oC h 1 rfl (jx k v pb t) rfl<|oA h 0 rfl G.1 rfl<|EK aG am f (hT.cB h) u1 (uk hk h) U fun x B F1 aq ah V aa ar ae aI=>?_;have aJ:=wg h;have a4:=h.fr.size;have g:=g.next h ar aI
 have h:=(hT.cB h).own h ar;generalize gX D k v key f M G.1=cn at E ah V aa⊢;obtain⟨⟨N,e1⟩,M1⟩:=cn;dsimp only at ah V aa⊢;have au:TW dbk pb FD D j aq ([r7,r1]++(B++Y)) F1 M1:=V.y0 fun b u=>by rw[zD,zD] at u;simp only[zD];rcases u with u|u|u;exact .inr (.inl u);exact .inl u;exact .inr (.inr u)
 have o:nu FD F1 aq [r7,r1] (B++Y) x N B:=⟨aa.j6 fun b u=>.inl (tP (fun b u=>by rw[zD,zD] at u;simp only[zD];rcases u with u|u|u;exact .inr (.inl u);exact .inl u;exact .inr (.inr u)) b u),fun b u hm=>by have:=aJ b u;have:=ae b hm;omega⟩;have aL:∀b∈B,b∉Y:=fun b u hm=>by have:=hT.qo b hm;have:=ae b u;omega
 have I:∀ {T:List Nat},∀b∈T++Y,b∈T++(B++Y):=fun b u=>by rw[zD] at u;simp only[zD];rcases u with u|u;exact .inl u;exact .inr (.inr u)
 refine oB h fun aM a6 _ _ h=>oD h 0 rfl (eJ x) fun aN h _=>?_;apply dW<;>intro J;have ab:e1≠0:=by rw[zT] at J;exact zR.1 J
 have e:mg k v t G ((N,e1),M1)=(e1,M1):=(by unfold mg;rw[if_pos ab]);rw[e] at E;exact E F1 aN ((TW.J0 (T:=[r7,r1]) au h).y0 fun b u=>by simp[u]) (g.fr h) g.new;have aO:e1=0:=(by rw[yE] at J;exact yP.1 J);subst aO;rw[qxB] at E;have ac:x.1=N.Q4:=o.node.1;have av:nQ x N:=(o.node.rd (S:=[]) (fun _ _ h=>(nomatch h)) fun _ h=>nomatch h).lens;have ai:gC (wrap .u32 (G.2.1-1)):=vv _;refine oA h 1 rfl G.2.1 rfl<|oD h 1 rfl (rW (G.1,wrap .u32 (G.2.1-1),G.2.2)) fun aw h _=>?_;generalize wrap .u32 (G.2.1-1)=ad at E ai h;have C:=TW.J0 (T:=[r7,r1]) au h;have o:=o.J0 h;have g:Sg F w0 aw F1 (fi _):=g.cA h (.refl [] _);have h:=lH h (.refl _);refine gW (fun e w'=>∃(a b c:Int) (F2 T:List Nat) (M2:dY) (wa:World),Sg F w0 wa F2 T/\TW dbk pb FD D j wa (T++Y) F2 M2/\dQ T wa w' [(aM,.cells (eJ x) ND (0,0)),(r7,.cells (rW (a,b,c)) RT (0,0)),(r1,.cells (mZ (jx k v pb t)) WK (0,0))]/\gC a/\gC b/\gC c/\
  ∀F' w',TW dbk pb FD D j w' Y F' (if e≠0 then (e,M2) else eV M2 t a b c).2->Fr F w0 w'->(∀b∈F',b∈F\/w0.heap.size<=b)->K (if e≠0 then (e,M2) else eV M2 t a b c).1 w') ?_ ?_
 refine gW (fun d w'=>d=decide (N.Q4=true/\N.J6.length=0)/\w'=aw) ?_ ?_;refine oA h 0 rfl x.1 rfl ?_;apply dW<;>intro J;rw[ac] at J;refine oA h 0 rfl x.2.1 rfl ⟨?_,rfl⟩;rw[av.J6,Bool.eq_iff_iff,yP,yN];exact⟨fun h=>⟨J,oJ⟩,fun h=>by rw[h.2];rfl⟩;rw[ac] at J;exact⟨(zU fun h=>by rw[J] at h;exact absurd h.1 oM).symm,rfl⟩;rintro d aP ⟨rfl,rfl⟩;apply dW<;>intro hd;have hd:=zC hd;rw[if_pos hd] at E;refine oA h 2 rfl (pW pb) rfl<|oA h 1 rfl G.1 rfl<|TW.drop (C.y0 I) fun F2 aQ ax ay aR=>?_;have g:=g.next h ay aR
 have h:=TW.own (C.y0 I) h ay;exact oD h 1 rfl (rW (0,0,0)) fun a7 h _=>⟨0,0,0,F2,_,_,aQ,g,ax,h,tZ,tZ,tZ,E⟩;have hd:=zB hd;rw[if_neg hd] at E;refine gW (fun d w'=>d=decide (N.Q4=false/\N.J9.length=1)/\w'=aP) ?_ ?_;refine oA h 0 rfl x.1 rfl ?_;apply dW<;>intro J;rw[ac,zT] at J;refine oA h 0 rfl x.2.2.2 rfl ⟨?_,rfl⟩;rw[av.J9,Bool.eq_iff_iff,yP,yN];exact⟨fun h=>⟨J,oJ⟩,fun h=>by rw[h.2];rfl⟩;rw[ac,yE] at J;exact⟨(zU fun h=>by rw[J] at h;exact absurd h.1 oM).symm,rfl⟩;rintro d a8 ⟨rfl,rfl⟩;apply dW<;>intro R;have R:=zC R;rw[if_pos R] at E;have ak:0<N.J9.length:=oJ;rw[ue ak] at E;have aT:gC N.J9[0]:=o.node.2.1.2.2 _ (zX ak);refine oA h 2 rfl (pW pb) rfl<|oA h 1 rfl G.1 rfl<|TW.drop C fun F2 aU az al aA=>?_;have g:=g.next h al aA
 have o:=o.next al (fun b u=>C.yf b (by simp[u])) aA
 have h:=TW.own C h al;have h:=oF h;refine oA h 0 rfl x.2.2.2 rfl ?_;have oR:eC [] _ x N:=(o.J0 h).node.rd (S:=[]) (fun _ _ h=>(nomatch h)) fun _ h=>nomatch h;exact dZ.get oR.2.2.2.2 0 rfl (x:=N.J9[0]) (zA ak) (y:=N.J9[0]) rfl<|oA h 1 rfl G.2.2 rfl<|oD h 1 rfl (rW (N.J9[0],ad,G.2.2)) fun a' h _=>oD h 1 rfl (rW (N.J9[0],ad,wrap .u32 (G.2.2-1))) fun ba h _=>⟨_,_,_,F2,_,_,aU,g,az.y0 I,h,aT,ai,vv _,E⟩;have R:=zB R;rw[if_neg R] at E;have sx:=ah rfl;have z1:=sx.J6;have z2:=sx.Q0;have z3:=sx.J9;refine oC h 2 rfl (jx k v pb t) rfl<|oA h 1 rfl G.1 rfl<|oC h 0 rfl x rfl<|uy (C.y0 I) (o.rd C aL) oJ oJ oJ fun F2 aW ag aB aX=>?_;have aC:gC (dO k v M1 G.1 N).1.1:=uT C.wf u1;have g:=g.next h aB aX
 have h:=TW.own (C.y0 I) h aB;unfold kG at E;generalize dO k v M1 G.1 N=st at E ag aC⊢;obtain⟨⟨q,e2⟩,M2⟩:=st;exact oD h 1 rfl (rW (q,ad,G.2.2)) fun bb h _=>⟨q,ad,G.2.2,F2,_,M2,aW,g,ag,h,aC,ai,u3,E⟩;rintro e aY ⟨a,b,c,F2,T,M2,wa,g,aD,h,ua,ub,uc,E⟩;apply dW<;>intro R;have ab:e≠0:=by rw[zT] at R;exact zR.1 R
 rw[if_pos ab] at E;exact E F2 aY (aD.J0 h).j7 (g.fr h) g.new;have ab:¬e≠0:=by rw[yE] at R;exact fun h=>h (yP.1 R)
 rw[if_neg ab] at E;exact oA h 2 rfl (pW pb) rfl<|oA h 2 rfl t rfl<|oC h 1 rfl (a,b,c) rfl<|TW.pZ (aD.J0 h) ua ub uc fun aZ aE a0=>E F2 aZ aE.j7 ((g.fr h).j8 a0 g.new) g.new
end
end
end
section
open Go Go.Pt List
open Go.IntKind (wrap)
open Classical
variable {K:Sl×Int->WP} {f:Nat} {key:Key} {ks:Sl}
def qw4{S:Type}{B:(S->WP)->S->WP}(I:Nat->S->WP)(E:∀f s w (X:S->WP),I f s w->(∀u C w',u<f->I u C w'->X C w')->B X s w):∀(f:Nat) {s:S} {w:World},I f s w->loop S B s w:=fun f=>by
 induction f using Nat.strongRecOn with
 | ind f ih=>exact fun {s w} h=>Al fun X G=>E f s w X h fun u C w' J R=>G _ _ (ih u J R)
noncomputable def lL (D:dI) (k v:Nat) (key:Key) (M:dY):Nat->Int->Key×Int
 | 0,p=>if p=0 then ([],5) else ([],-1)
 | f+1,p=>if p=0 then ([],5)
  else if (dJ D M k v p).2≠0 then ([],(dJ D M k v p).2)
  else if (dJ D M k v p).1.Q4 then
   if (dJ D M k v p).1.J6[dN (dJ D M k v p).1.J6 key]?=some key then ((dJ D M k v p).1.Q0.getD (dN (dJ D M k v p).1.J6 key) [],0) else ([],5)
  else lL D k v key M f ((dJ D M k v p).1.J9.getD (en (dJ D M k v p).1.J6 key) 0)
section
variable {dbk pb j:Nat} {FD Y F F' T:List Nat} {D:dI} {w0 w w':World} {M M':dY} {k v:Nat} {t:Int}
def GL(af:eF key)(hs:rm t=((k:Int),(v:Int)))(aw:k≠0)(aZ:key.length=k)(hT:TW dbk pb FD D j w0 Y F M)(hk:eh (Zo FD Y F) w0 ks key)(R:(lL D k v key M f (dU M t).1).2≠-1)(kk:∀s B w',fQ w' s (lL D k v key M f (dU M t).1).1 B->(∀b∈B,w0.heap.size<=b)->Fr [] w0 w'->K (s,(lL D k v key M f (dU M t).1).2) w'): cW 47 [dF pb,.i t,ks.v] dk w0 K:=by
 refine qtH ?_;have aQ:=hk.1;refine De (k:=k) (v:=v) hs (fun h=>absurd h aw) (fun _ h=>absurd oJ h) fun _ _ w2 f2=>?_;have h:=(oE [] w0).q7 f2;refine oB h fun r3 w4 _ _ h=>oD h 0 rfl (mZ (jx k v pb t)) fun w5 h _=>cond_false rfl<|TW.J5 (hT.q7 h.fr) fun w7 f7=>?_;have h:=h.q7 f7;have hu:=(Cb hT.wf t).1;generalize dU M t=rt at kk R hu⊢;generalize ah:lL D k v key M f rt.1=ai at kk R;refine gW (fun _ w'=>ai=([],5)/\Fr [] w0 w') ?_ ?_
 ·refine qw4 (fun f s w'=>lL D k v key M f s=ai/\gC s/\dQ [] w0 w' [(r3,.cells (mZ (jx k v pb t)) WK (0,0))]) ?_ f ⟨ah,hu,h⟩;rintro f s a4 X ⟨u,az,h⟩ hX;apply dW<;>intro hc
  ·have U:s≠0:=(by rw[zT] at hc;exact zR.1 hc);cases f with
   | zero=>
    unfold lL at u;rw[if_neg U] at u;rw[<- u] at R;exact absurd rfl R
   | succ f=>
   unfold lL at u;rw[if_neg U] at u;refine oC h 0 rfl (jx k v pb t) rfl ?_;rcases ab:dJ D M k v s with ⟨n,e0⟩;rw[ab] at u;dsimp only at u;refine Ap (k:=k) (v:=v) (hT.q7 h.fr) az fun x B aA aT C aB aU=>?_;rw[ab] at C⊢;dsimp only at C⊢;have J:eC [] aA x n:=C.rd (fun _ _ h=>(nomatch h)) fun _ h=>nomatch h;have h:=h.q7 aB;have aV:=h.fr;refine oB h fun aj aC a6 aD h=>?_;have J:eC [aj] aC x n:=(J.j6 (S':=[aj]) fun b hb=>by rw[zE.1 hb];exact .inr oJ).q7 aD;refine oD h 0 rfl (eJ x) fun ak h aF=>?_;have J:=J.q8 aF fun b hb=>.inl hb;apply dW<;>intro E;have al:e0≠0:=by rw[zT] at E;exact zR.1 E
   rw[if_pos al] at u;subst u;exact kk dG [] ak (.nil _ _ _) (fun _ h=>nomatch h) h.fr;have aG:e0=0:=by rw[yE] at E;exact yP.1 E
   subst aG;rw[if_neg (fun h=>h rfl)] at u;have hr:=AK ab;obtain⟨l1,l2,l3,l4,l5⟩:=uK hr;have am:x.1=n.Q4:=J.1;refine oA h 0 rfl x.1 rfl ?_;apply dW<;>intro G;have I:n.Q4=false:=(by rw[am,zT] at G;exact G);rw[if_neg (by rw[I];decide)] at u;obtain⟨l6,l7,l8⟩:=l5 I;have aW:=yi n.J6 key;have fd:=(Fr.refl [] ak).drew;have h:=oF h;refine oA h 0 rfl x.2.2.2 rfl<|oC h 0 rfl x rfl<|Bm (J.q7 fd) (hk.q7 h.fr) af hr.2.2.1 oJ fun aH an=>?_;have h:=h.q7 an;refine ig (h.cell 0 rfl rfl) ?_;have ac:en n.J6 key<n.J9.length:=oJ;refine dZ.get ((J.q7 fd).q7 an).2.2.2.2 (en n.J6 key) rfl (zA ac) (y:=n.J9[en n.J6 key]) rfl ?_;rw[ue ac] at u;exact hX f _ aH (Nat.lt_succ_self f) ⟨u,J.2.1.2.2 _ (zX ac),h.sub (sublist_cons_self _ _)⟩;have I:n.Q4=true:=(by rw[am,yE] at G;exact G);rw[if_pos I] at u;obtain⟨l6,l7⟩:=l4 I;refine oC h 0 rfl x rfl<|Ds J (hk.q7 h.fr) af hr.2.2.1 oJ fun ba ao=>?_;have h:=h.q7 ao;apply cD<;>intro ad;have ap:=ad;rw[if_pos ap] at u;have bb:=(zP.1 ap).1;obtain⟨pv,aq,ae⟩:=(J.q7 ao).2.2.2.1;have V:dN n.J6 key<pv.length:=by
    have:=congrArg List.length ae
    rw[zK] at this;omega
   refine oA h 0 rfl x.2.2.1 rfl<|jg.get aq (dN n.J6 key) rfl V ?_;have ar:n.Q0.getD (dN n.J6 key) []=pv[dN n.J6 key].2:=(by rw[<- ae,wD V]);rw[ar] at u;have aI:pv[dN n.J6 key].2.length<=1000000:=by have h1:=hr.2.1 pv[dN n.J6 key].2 (by rw[<- ae];exact zZ (zX V));have h2:=qnx (k:=k) (v:=v) oJ;omega
   refine zo (aq.2 _ (zX V)) aI fun s' B' aJ aK aL aM _ _=>?_;subst u;have aN:=h.fr.size;exact kk s' B' aJ aK (fun c hc=>zL aN (aM c hc)) (h.fr.trans aL);have au:=ad;rw[if_neg au] at u;exact⟨u.symm,h.fr⟩
  have U:s=0:=(by rw[yE] at hc;exact yP.1 hc);refine⟨?_,h.fr⟩;rw[<- u];cases f<;>(unfold lL;rw[if_pos U])
 rintro _ aO ⟨rfl,aP⟩;exact kk dG [] aO (.nil _ _ _) (fun _ h=>nomatch h) aP
def Gv(h:eF key)(I:rm t=((k:Int),(v:Int)))(u:k≠0)(C:key.length=k)(J:TW dbk pb FD D j w0 Y F M)(R:eh (Zo FD Y F) w0 ks key)(E:(lL D k v key M f (dU M t).1).2≠-1)(U:∀s w',(∀G:List Nat,(∀b∈G,b<w0.heap.size)->eh G w' s (lL D k v key M f (dU M t).1).1)->Fr [] w0 w'->K (s,(lL D k v key M f (dU M t).1).2) w'): cW 47 [dF pb,.i t,ks.v] dk w0 K:=
 GL h I u C J R E fun s B w' b n f=>U s w' (fun G V=>b.jo kW fun c hc hm=>by have:=n c hc;have:=V c hm;omega) f
def qus{r h:Int}(u:0<=r)(C:0<=h/\h<=1000000)(E:2*h.toNat+1<=r.toNat):decide (r>wrap .i64 (2*wrap .i64 h))=true:=by rw[gg h oJ,gg (2*h) oJ];exact yA oJ
def qzm{vs:Sl}{val:Key}{K:Int->WP}(U:eF key)(V:eF val)(hs:rm t=((k:Int),(v:Int)))(aa:k≠0)(al:key.length=k)(ab:val.length=v)(hT:TW dbk pb FD D j w0 Y F M)(hk:eh (Zo FD Y F) w0 ks key)(hv:eh (Zo FD Y F) w0 vs val)(ac:0<=(dU M t).2.2/\(dU M t).2.2<=1000000)(ad:2*(dU M t).2.2.toNat+1<=M.Q1.length)(ae:(dU M t).1≠0->(gT D k v key val f M (dU M t).1).1.2≠-1)(kk:∀F' w',TW dbk pb FD D j w' Y F' (ju D k v t key val f M).2->Fr F w0 w'->(∀b∈F',b∈F\/w0.heap.size<=b)->K (ju D k v t key val f M).1 w'): cW 50 [dF pb,.i t,ks.v,vs.v] di w0 K:=by refine qtI ?_;have ao:=hk.1;have af:=hv.1;have g:=Sg.start F w0;have h:=oE [] w0;refine oB h fun r1 w2 _ _ h=>oB h fun r3 w4 _ _ h=>oA h 1 rfl ks rfl<|De (k:=k) (v:=v) hs (fun h=>absurd h aa) (fun _ h=>absurd oJ h) fun _ _ w7 f7=>?_;have h:=h.q7 f7;refine oB h fun r8 w9 _ _ h=>oD h 0 rfl (mZ (jx k v pb t)) fun ag h _=>cond_false rfl<|oA h 1 rfl vs rfl<|oA h 0 rfl (v:Int) rfl<|cond_false (by rw[af,ab];simp)<|oC h 0 rfl (jx k v pb t) rfl ?_;have u:=hT.cB h;have E:=uk hk h;have G:=uk hv h;have g:Sg F w0 ag F (fi _):=g.cA h (.refl [] _);have h:=lH h (.refl _);refine qfh<|oB h fun q1 av _ _ h=>?_;have h:=oF h;refine oA h 0 rfl (pW pb) rfl<|oA h 0 rfl (pW pb) rfl<|oA h 0 rfl t rfl<|TW.room (u.J0 h)<|ko (h.cell 0 rfl rfl) (h.cell 0 rfl rfl)<|TW.J5 (u.J0 h) fun aw C=>?_;have I:=(u.J0 h).q7 C;have J:=(pL E h).q7 C;have R:=(pL G h).q7 C;have g:=g.cA h C;have h:=ql h C fun _ _ h=>nomatch h;exact cond_true (qus oJ ac oJ)<|rS (lb:=[dF r8,dF r1,dF r3]) rfl oK<|qpA<|oC h 1 rfl (jx k v pb t) rfl<|oA h 3 rfl ks rfl<|oA h 2 rfl vs rfl<|qvn U V I J R ae fun F' w' ah f' n'=>kk F' w' ah.j7 (g.pO.j8 f' g.new) fun b hb=>(n' b hb).elim (g.new b) fun h1=>.inr (zL g.pO.size h1)
def qzc{f2:Nat}{K:Int->WP}(J:eF key)(R:gU k v)(hs:rm t=((k:Int),(v:Int)))(U:k≠0)(ac:key.length=k)(hT:TW dbk pb FD D j w0 Y F M)(hk:eh (Zo FD Y F) w0 ks key)(ae:0<=(dU M t).2.2/\(dU M t).2.2<=1000000)(af:2*(dU M t).2.2.toNat+1<=M.Q1.length)(G:(lL D k v key M f2 (dU M t).1).2=0)(I:mj D k v key f M (dU M t).1)(kk:∀F' w',TW dbk pb FD D j w' Y F' (kR D k v t key f M).2->Fr F w0 w'->(∀b∈F',b∈F\/w0.heap.size<=b)->K (kR D k v t key f M).1 w'): cW 61 [dF pb,.i t,ks.v] di w0 K:=by refine qmz ?_;have ak:=hk.1;have g:=Sg.start F w0;have h:=oE [] w0;refine oB h fun r1 w2 _ _ h=>oA h 0 rfl ks rfl<|De (k:=k) (v:=v) hs (fun h=>absurd h U) (fun _ h=>absurd oJ h) fun _ _ w7 f7=>?_;have h:=h.q7 f7;refine oB h fun r8 w9 _ _ h=>oD h 0 rfl (mZ (jx k v pb t)) fun ao h _=>cond_false rfl<|oA h 1 rfl ks rfl<|Gv (f:=f2) J hs U ac (hT.cB h) (uk hk h) (by rw[G];decide) fun s ap _ C=>?_;rw[G];have u:=(hT.cB h).q7 C;have V:=(uk hk h).q7 C;have g:=g.cA h C;have h:=ql h C fun _ _ h=>nomatch h;refine cond_false rfl<|oC h 0 rfl (jx k v pb t) rfl<|qfh<|oB h fun q1 aq _ _ h=>?_;have h:=oF h;refine oA h 0 rfl (pW pb) rfl<|oA h 0 rfl (pW pb) rfl<|oA h 0 rfl t rfl<|TW.room (u.J0 h)<|ko (h.cell 0 rfl rfl) (h.cell 0 rfl rfl)<|TW.J5 (u.J0 h) fun ar E=>?_;have aa:=(u.J0 h).q7 E;have ab:=(pL V h).q7 E;have g:=g.cA h E;have h:=ql h E fun _ _ h=>nomatch h;exact cond_true (qus oJ ae oJ)<|rS (lb:=[dF r8,dF r1]) rfl oK<|qpz<|oC h 1 rfl (jx k v pb t) rfl<|oA h 2 rfl ks rfl<|qvO J R aa ab I fun F' w' ag f' n'=>kk F' w' ag.j7 (g.pO.j8 f' g.new) fun b hb=>(n' b hb).elim (g.new b) fun h1=>.inr (zL g.pO.size h1)
end
end
section
open Go Go.Pt List
open Go.IntKind (wrap)
open Classical
variable {L:fN} {key:Key}
def jc (key:Key) (L:fN):Option Key:=(L.find? fun x=>decide (x.1=key)).map (·.2)
def Gt{A B:fN}:jc key (A++B)=match jc key A with|some v=>some v|none=>jc key B:=by unfold jc;rw[List.find?_append];cases A.find? (fun x=>decide (x.1=key))<;>rfl
def yq(h:∀x∈L,x.1≠key):jc key L=none:=by unfold jc;rw[List.find?_eq_none.2 fun x u=>by simp[h x u]];rfl
def qp3(h:key∈dP L):∃v,jc key L=some v:=by
 unfold jc;obtain⟨x,u,rfl⟩:=mem_map.1 h;cases e:L.find? (fun y=>decide (y.1=x.1)) with
 | none=>exact absurd (List.find?_eq_none.1 e x u) oL
 | some y=>exact⟨y.2,rfl⟩
section
variable {D:dI} {M M':dY} {k v:Nat} {key:Key}
def Has.get:∀ {h:Nat} {s:gY},Has D M k v h s->s.x5≠0->M.Wf->M.Q3=false->lL D k v key M (h+1) s.x5=match jc key s.y3 with|some x=>(x,0)|none=>([],5)
 | 0,s,hs,hp,hW,ho=>by
  obtain⟨h1,h2,h3,h4⟩:=hs;have hl:dJ D M k v s.x5=(ef s.y3,0):=h3.load h4;have ac:e9 s.y3:=h3.right.2.2.1;have al:(ef s.y3).J6=dP s.y3:=rfl;unfold lL;rw[if_neg hp,hl];dsimp only;rw[if_neg (fun h=>h rfl),if_pos (show (ef s.y3).Q4=true from rfl),al];by_cases hm:(dP s.y3)[dN (dP s.y3) key]?=some key
  ·rw[if_pos hm];have hi:dN (dP s.y3) key<s.y3.length:=by
    have:=(zP.1 hm).1
    simpa using this
   have am:=Ae (k:=key) ac;have ad:s.y3=s.y3.take (dN (dP s.y3) key)++s.y3[dN (dP s.y3) key]::s.y3.drop (dN (dP s.y3) key+1):=by rw[getElem_cons_drop,xE]
   have I:s.y3[dN (dP s.y3) key].1=key:=(by rw[zQ,zA hi] at hm;simpa using hm);have hg:jc key s.y3=some s.y3[dN (dP s.y3) key].2:=by
    conv=>lhs;rw[ad]
    rw[Gt,yq fun x u=>zz (am.1 x u)];unfold jc;rw[List.find?_cons_of_pos (by simp[I])];rfl
   rw[hg];show ((List.map (·.2) s.y3).getD _ [],(0:Int))=_;rw[yR,zQ,zA hi];rfl
  rw[if_neg hm];have hn:key∉dP s.y3:=fun h=>hm ((vZ ac).2 h);rw[yq fun x u e=>hn (by rw[<- e];exact zZ u)]
 | h+1,⟨p,n,L,P⟩,⟨es,h0,h1,h2,h3,h4,h5,h6,h7⟩,hp,hW,ho=>by
  dsimp only at h1 h2 h3 h5 hp;subst h1 h2 h3;have hl:dJ D M k v p=(dM es,0):=h4.load h5;obtain⟨A,e,B,J,hA,I,an,R⟩:=uv (key:=key) h0 h6;have U:(dM es).J9.getD (en (dM es).J6 key) 0=e.2.x5:=R;have ao:e∈es:=(by rw[J];simp);obtain⟨V,_⟩:=h7 e ao;have aC:=t8 hW (V.J4 ho e.2.x5 V.mem);unfold lL;rw[if_neg hp,hl];dsimp only;rw[if_neg (fun h=>h rfl),if_neg (show ¬(dM es).Q4=true from fun e=>nomatch e),U,V.get oJ hW ho];have G:=h6;rw[J] at G;have C:=G.mid;have E:es.flatMap (·.2.y3)=A.flatMap (·.2.y3)++(e.2.y3++B.flatMap (·.2.y3)):=(by rw[J,qn]);have ap:∀x∈A.flatMap (·.2.y3),x.1≠key:=fun x u=>by obtain⟨a,ha,u⟩:=yK.1 u;exact zz (qY (C.1 a ha x u) I)
  have aq:∀x∈B.flatMap (·.2.y3),x.1≠key:=fun x u=>by obtain⟨b,hb,u⟩:=yK.1 u;exact (zz (qY (an b hb) ((C.2 b hb).2.2 x u))).symm
  rw[E,Gt,yq ap,Gt,yq aq];cases jc key e.2.y3<;>rfl
def Has.Q6(hc:gU k v):∀(h:Nat) (M:dY) (s:gY),Has D M k v h s->M.Wf->M.Q3=false->s.y4.Nodup->key∈dP s.y3->2*h<=M.Q1.length->mj D k v key (h+1) M s.x5
 | 0,M,s,hs,hW,ho,ae,J,hf=>fun n hn hl=>by have af:dJ D M k v s.x5=(ef s.y3,0):=hs.2.2.1.load hs.2.2.2;rw[af] at hn;cases hn;cases hl
 | h+1,M,⟨p,n,L,P⟩,⟨G,h0,h1,h2,h3,h4,h5,h6,h7⟩,hW,ho,ae,J,hf=>fun n' hn hl=>by
  dsimp only at h1 h2 h3 h5 ae J hn;subst h1 h2 h3;have ax:dJ D M k v p=(dM G,0):=h4.load h5;rw[ax] at hn;cases hn;obtain⟨A,e,B,E,hA,ay,az,ag⟩:=uv (key:=key) h0 h6;have ah:(dM G).J9.getD (en (dM G).J6 key) 0=e.2.x5:=ag;have aA:en (dM G).J6 key=A.length:=hA.symm;have aB:e∈G:=(by rw[E];simp);obtain⟨an,aC⟩:=h7 e aB;have ai:G.flatMap (·.2.y4)=A.flatMap (·.2.y4)++(e.2.y4++B.flatMap (·.2.y4)):=(by rw[E,qn]);have V:G.flatMap (·.2.y3)=A.flatMap (·.2.y3)++(e.2.y3++B.flatMap (·.2.y3)):=(by rw[E,qn]);have aa:(A.flatMap (·.2.y4)++(e.2.y4++B.flatMap (·.2.y4))).Nodup:=(by rw[<- ai];exact (nodup_cons.1 ae).2);have ab:e.2.y4.Nodup:=(yM.1 (yM.1 aa).2.1).1;have ac:=h6;rw[E] at ac;have R:=ac.mid;have U:key∈dP e.2.y3:=by obtain⟨x,C,rfl⟩:=mem_map.1 J;rw[V] at C;rcases zD.1 C with C|C;obtain⟨a,ha,C⟩:=yK.1 C;exact absurd (qY (R.1 a ha x C) ay) qC;rcases zD.1 C with C|C;exact zZ C;obtain⟨b,I,C⟩:=yK.1 C;exact absurd (qY (az b I) ((R.2 b I).2.2 x C)) qC
  obtain⟨N1,n1,M1,Re,a1,ec,aD,ao,st,a3,a4⟩:=Gc hc h M e.2 an hW ho ab U oJ;rw[ah];refine⟨an.Q6 hc h M e.2 hW ho ab U oJ,fun N M2 ad aU ny aj=>?_⟩;rw[ec] at ad;cases ad;have aE:N1.Q4=decide (h=0):=by
   cases h with
   | zero=>rw[ao.1];rfl
   | succ h=>obtain⟨a5,_,h',_⟩:=ao;rw[h'];rfl
  have u:∀b,(b∈A\/b∈B)->(dM G).J9.getD (iL (en (dM G).J6 key)) 0=b.2.x5->ny.Q4=N1.Q4:=fun b I aF=>by
   rw[aF] at aj;have aG:b∈G:=by rw[E];rcases I with I|I<;>simp[I]
   obtain⟨ap,_⟩:=h7 b aG;have aq:Has D M1 k v h b.2:=ap.q8 fun x C=>(st.rest x (ap.J4 ho x C) fun hm=>by have ar:x∈e.2.y4:=(by rw[aD];exact zN _ hm);have hd:=yM.1 aa;have aH:=yM.1 hd.2.1;rcases I with I|I;exact hd.2.2 x (yK.2 ⟨b,I,C⟩) x (zH _ ar) rfl;exact aH.2.2 x ar x (yK.2 ⟨b,I,C⟩) rfl).1;obtain⟨N2,R2,af,_,_,au,_⟩:=aq.load;rw[af] at aj;cases aj;rw[au,aE]
  have h2:=h4.right.x9.1;rw[aA] at u;have aI:(dM G).J9=G.map (·.2.x5):=rfl;rw[aI] at u;by_cases hA0:A.length>0;have hs:iL A.length=A.length-1:=(by unfold iL;rw[if_pos hA0]);obtain⟨A',b,rfl⟩:∃A' b,A=A'++[b]:=⟨A.dropLast,A.getLast (length_pos_iff.1 hA0),(vA _).symm⟩;refine u b (.inl oL) ?_;rw[hs,E];simp[yR];have hs:iL A.length=A.length+1:=(by unfold iL;rw[if_neg hA0]);have aJ:A=[]:=eq_nil_of_length_eq_zero oJ;subst aJ;cases B with
  | nil=>rw[E] at h2;simp at h2
  | cons b B=>
   refine u b (.inr oL) ?_;rw[hs,E];rfl
def fP.get{t:Int}{L:fN}{P:List Int}(C:fP D M k v t L P)(E:M.Wf)(G:M.Q3=false):lL D k v key M (dU M t).2.2.toNat (dU M t).1=match jc key L with|some x=>(x,0)|none=>([],5):=by rcases C with ⟨e0,rfl,rfl⟩|⟨h,n,p,u,I,J⟩;rw[e0];rfl;rw[I];dsimp only;rw[zJ];exact J.get u E G
def fP.Q6(E:gU k v){t:Int}{L:fN}{P:List Int}(G:fP D M k v t L P)(u:key∈dP L)(I:M.Wf)(J:M.Q3=false)(R:P.Nodup)(C:2*(dU M t).2.2.toNat+1<=M.Q1.length):mj D k v key (dU M t).2.2.toNat M (dU M t).1:=by rcases G with ⟨e0,rfl,rfl⟩|⟨h,n,p,U,V,hs⟩;cases u;rw[V] at C⊢;dsimp only at C⊢;rw[zJ] at C⊢;exact hs.Q6 E h M _ I J R u oJ
def qtq{t:Int}{f:Nat}{val:Key}{M':dY}(h:ju D k v t key val f M=(0,M')):(dU M t).1≠0->(gT D k v key val f M (dU M t).1).1.2≠-1:=fun C u=>by unfold ju at h;rw[if_neg C] at h;unfold rI at h;rw[if_pos (by rw[u];decide),u] at h;cases h
end
section
structure Gd (N:dY) (b:Nat) (M:dY):Prop where
 Q3:M.Q3=false
 j9:M.j9=N.j9
 Q5:M.Q5=N.Q5
 Q9:M.Q9=N.Q9
 x6:M.x6=N.x6
 eH:N.j9.2.getD 0 0=(b:Int)/\2<=b
 Q1:∀ x∈M.Q1,x<(b:Int)
 J8:∀ x∈M.J8.map (·.1),x<(b:Int)
section
variable {α β:Type} {N:dY} {b c:Nat}
end
section
variable {N:dY} {b c k v:Nat} {D:dI} {M M':dY}
def fP.cC{D':dI}{t:Int}{L:fN}{P:List Int}(h:fP D M k v t L P)(C:∀x∈P,dH D' M' x=dH D M x)(e:dU M' t=dU M t):fP D' M' k v t L P:=by rcases h with ⟨E,G,I⟩|⟨h,n,p,J,u,R⟩;exact .inl ⟨e.trans E,G,I⟩;exact .inr ⟨h,n,p,J,e.trans u,R.cC C⟩
def fP.low{t:Int}{P:List Int}(h:fP D M k v t L P):(dU M t).2.2.toNat<=L.length/\0<=(dU M t).2.2:=by
 rcases h with ⟨u,G,I⟩|⟨h,n,p,J,C,E⟩;rw[u];exact⟨yX _,Int.le_refl _⟩
 have:=E.counts.1
 rw[C];exact⟨by dsimp only at this⊢;omega,by dsimp only;omega⟩
end
end
section
def kv (t:Int):Nat×Nat:=((rm t).1.toNat,(rm t).2.toNat)
def vN{t:Nat}(u:t<8):rm t=(((kv t).1:Int),((kv t).2:Int))/\gU (kv t).1 (kv t).2/\1<=(kv t).1/\(kv t).1<=24/\1<=(kv t).2/\(kv t).2<=108:=by obtain⟨k,v,e,h⟩:=qAd (t:=t) ⟨oJ,oJ⟩;have:kv t=(k,v):=(by unfold kv;rw[e];rfl);rw[this];exact⟨e,h⟩
abbrev jU:=Nat->fN×List Int
def oq (F:jU) (t:Nat) (x:fN×List Int):jU:=fun u=>if u=t then x else F u
def AJ(F:jU)(t:Nat)(x:fN×List Int):oq F t x t=x:=if_pos rfl
def yo{F:jU}{t u:Nat}{x:fN×List Int}(h:u≠t):oq F t x u=F u:=if_neg h
structure yj (D:dI) (M:dY) (F:jU):Prop where
 J2:∀ t:Nat,t<8->fP D M (kv t).1 (kv t).2 t (F t).1 (F t).2
 nodup:∀ t:Nat,t<8->(F t).2.Nodup
 J3:∀ t u:Nat,t<8->u<8->t≠u->∀ x∈(F t).2,x∉(F u).2
 use:∀ x,dT M x->∃ t:Nat,t<8/\x∈(F t).2
section
variable {D D':dI} {M M':dY} {F W:jU} {b q t:Nat}
def fP.J4{k v:Nat}{t:Int}{L:fN}{P:List Int}(u:M.Q3=false)(h:fP D M k v t L P):∀x∈P,dT M x:=by rcases h with ⟨_,_,rfl⟩|⟨h,n,p,_,_,C⟩;exact fun x E=>nomatch E;exact C.J4 u
def yj.next{L':fN}{P':List Int}(h:yj D M F)(ho:M.Q3=false)(U:t<8)(hT:fP D M' (kv t).1 (kv t).2 t L' P')(I:mX D M M' t (F t).2 P'):yj D M' (oq F t (L',P')):=by have J:∀u:Nat,u<8->u≠t->∀x∈(F u).2,dT M x/\x∉(F t).2:=fun u G E x C=>⟨(h.J2 u G).J4 ho x C,h.J3 u t G U E x C⟩;have V:∀u:Nat,u<8->u≠t->∀x∈(F u).2,x∉P':=fun u G E x C=>(I.step.rest x (J u G E x C).1 (J u G E x C).2).2.2;refine⟨fun u G=>?_,fun u G=>?_,fun u z G hz E x C=>?_,fun x C=>?_⟩;by_cases e:u=t;subst e;rw[AJ];exact hT;rw[yo e];exact (h.J2 u G).cC (fun x C=>(I.step.rest x (J u G e x C).1 (J u G e x C).2).1) (I.others u oJ);by_cases e:u=t;subst e;rw[AJ];exact I.step.nodup;rw[yo e];exact h.nodup u G;by_cases e:u=t;subst e;rw[AJ] at C;rw[yo E.symm];exact fun hm=>V z hz E.symm x hm C;rw[yo e] at C;by_cases e2:z=t;subst e2;rw[AJ];exact V u G e x C;rw[yo e2];exact h.J3 u z G hz E x C;rcases I.step.use x C with R|⟨R,h2⟩;exact⟨t,U,by rw[AJ];exact R⟩;obtain⟨u,G,C⟩:=h.use x R;exact⟨u,G,by rw[yo fun e=>h2 (by rw[<- e];exact C)];exact C⟩
def Calm.next{t:Int}{P P':List Int}(h:Calm D M b q)(u:mX D M M' t P P'):Calm D M' b q:=
 ⟨h.quiet,h.Q7,h.size,by have:=u.step.j9;rw[<- h.blocks,<- this],h.b8,u.wf,u.step.z9 h.Q9,u.step.Q3,u.len,by rw[show M'.j9=M.j9 from u.step.j9];exact h.seq,by rw[show M'.x6=M.x6 from u.step.x6];exact h.x6⟩
def BR (t:Int) (M:dY):dY:=ie M.j9 M.Q5 M.Q9 t false M.Q9
structure Wo (D:dI) (M:dY) (b q:Nat) (F W:jU):Prop where
 J1:Calm D M b q
 J0:yj D M F
 was:yj D (BR 0 M) W
 opens:oU D M.j9 M.Q5 M.Q9
 Q8:M.j9.2.length=27
 b4:8<=b/\b<=300
end
end
section
section
variable {D:dI} {M:dY} {k v:Nat} {frm:Key}
abbrev kr:=dL×Int
noncomputable def iw (D:dI) (k v:Nat) (M:dY) (pick:dL->Int):Nat->Int->Option (List kr)
 | 0,p=>none
 | f+1,p=>if (dJ D M k v p).2≠0 then none
  else if (dJ D M k v p).1.Q4 then some [((dJ D M k v p).1,pick (dJ D M k v p).1)]
  else (iw D k v M pick f ((dJ D M k v p).1.J9.getD (pick (dJ D M k v p).1).toNat 0)).map (((dJ D M k v p).1,pick (dJ D M k v p).1)::·)
def lU (D:dI) (M:dY) (k v:Nat) (frm:Key):Nat->List kr->fN->Prop
 | 0,E,T=>∃(u:fN) (i:Nat),E=[(ef u,(i:Int))]/\i<=u.length/\e9 u/\T=u.drop i
 | h+1,E,T=>∃(C:List gH) (i:Nat) (G:List kr) (T1:fN),E=(dM C,(i:Int))::G/\i<C.length/\(∀e∈C.drop (i+1),Has D M k v h e.2/\∀x∈e.2.y3,¬fI x.1 frm)/\lU D M k v frm h G T1/\T=T1++(C.drop (i+1)).flatMap (·.2.y3)
def jM (n:dL) (frm:Key):Int:=if n.Q4 then dN n.J6 frm else en n.J6 frm
noncomputable def mE (frm:Key) (L:fN):fN:=L.filter fun x=>decide (¬fI x.1 frm)
def Gw(h:∀x∈L,¬fI x.1 frm):mE frm L=L:=filter_eq_self.2 fun x u=>yA (h x u)
def qnT(h:∀x∈L,fI x.1 frm):mE frm L=[]:=filter_eq_nil_iff.2 fun x u=>by simpa using h x u
def DZ{A B:fN}:mE frm (A++B)=mE frm A++mE frm B:=xC ..
def qpe{a b:Key}(h:lJ b a):¬fI a b:=h
def FW:∀ {h:Nat} {s:gY},Has D M k v h s->∃fs,iw D k v M (fun n=>jM n frm) (h+1) s.x5=some fs/\lU D M k v frm h fs (mE frm s.y3)
 | 0,s,hs=>by
  obtain⟨h1,h2,h3,h4⟩:=hs;have hl:dJ D M k v s.x5=(ef s.y3,0):=h3.load h4;have ad:e9 s.y3:=h3.right.2.2.1;have ae:=G5 (dP s.y3) frm;rw[zK] at ae;have af:=Ae (k:=frm) ad;unfold iw;rw[hl,if_neg (fun h=>h rfl),if_pos (show (ef s.y3).Q4=true from rfl)];refine⟨_,rfl,s.y3,dN (dP s.y3) frm,?_,ae,ad,?_⟩;show [(ef s.y3,jM (ef s.y3) frm)]=_;rw[jM,if_pos (show (ef s.y3).Q4=true from rfl)];rfl
  ·conv=>lhs;rw[<- xE (dN (dP s.y3) frm) s.y3]
   rw[DZ,qnT af.1,xI,Gw fun x G=>qpe (af.2 x G)]
 | h+1,⟨p,n,L,P⟩,⟨u,h0,h1,h2,h3,h4,h5,h6,h7⟩=>by
  dsimp only at h1 h2 h3 h5;subst h1 h2 h3;have hl:dJ D M k v p=(dM u,0):=h4.load h5;obtain⟨A,e,B,E,hA,am,ag,R⟩:=uv (key:=frm) h0 h6;have U:(dM u).J9.getD (en (dM u).J6 frm) 0=e.2.x5:=R;have V:en (dM u).J6 frm=A.length:=hA.symm;have an:e∈u:=(by rw[E];simp);obtain⟨ao,_⟩:=h7 e an;have J:=h6;rw[E] at J;have C:=J.mid;obtain⟨fs,e1,e2⟩:=FW ao;have ah:jM (dM u) frm=(A.length:Int):=by rw[jM,if_neg (show ¬(dM u).Q4=true from fun e=>nomatch e),V]
  unfold iw;rw[hl,if_neg (fun h=>h rfl),if_neg (show ¬(dM u).Q4=true from fun e=>nomatch e)];show ∃fs,Option.map (((dM u),jM (dM u) frm)::·) (iw D k v M (fun n=>jM n frm) (h+1) ((dM u).J9.getD (jM (dM u) frm).toNat 0))=some fs/\_;rw[ah,zJ,<- V,U,e1,V];have I:u.drop (A.length+1)=B:=(by rw[E];simp);refine⟨_,rfl,u,A.length,fs,_,rfl,by rw[E];simp,fun b hb=>?_,e2,?_⟩;rw[I] at hb;exact⟨(h7 b (by rw[E];simp[hb])).1,fun x G g=>(C.2 b hb).2.2 x G (pf g (ag b hb))⟩
  ·rw[I];show mE frm (u.flatMap (·.2.y3))=_;conv=>lhs;rw[E]
   rw[yQ,yH,DZ,DZ,qnT fun x G=>?_,xI,Gw (L:=B.flatMap _) fun x G=>?_];obtain⟨b,hb,G⟩:=yK.1 G;exact fun g=>(C.2 b hb).2.2 x G (pf g (ag b hb));obtain⟨a,ha,G⟩:=yK.1 G;exact qY (C.1 a ha x G) am
end
end
section
section
variable {D:dI} {M:dY} {k v:Nat} {frm:Key}
noncomputable def io (D:dI) (k v:Nat) (M:dY) (pick:dL->Int) (step:Int->Int):Nat->List kr->Option (List kr)
 | 0,_=>none
 | _+1,[]=>none
 | h+1,(n,i)::C=>match io D k v M pick step h C with
  | some u=>some ((n,i)::u)
  | none=>if 0<=step i/\step i<n.J9.length then (iw D k v M pick (h+1) (n.J9.getD (step i).toNat 0)).map ((n,step i)::·) else none
def jV:Nat->List kr->Prop
 | 0,C=>∃u:fN,C=[(ef u,(u.length:Int))]
 | _+1,[]=>False
 | h+1,_::E=>jV h E
def qul:∀ {h:Nat} {G:List kr} {T:fN},lU D M k v frm h G T->jV h G->(io D k v M (fun n=>jM n frm) (fun i=>i+1) h G=none/\T=[])\/∃I,io D k v M (fun n=>jM n frm) (fun i=>i+1) h G=some I/\lU D M k v frm h I T
 | 0,G,T,⟨U,i,e,hi,hs,J⟩,⟨R,e'⟩=>by rw[e] at e';have e1:=(vB (vC e').1);have e2:dP U=dP R:=congrArg dL.J6 e1.1;have e3:=congrArg List.length e2;rw[zK,zK] at e3;have e4:=Int.ofNat.inj e1.2;exact .inl ⟨rfl,by rw[J];exact vE oJ⟩
 | h+1,G,T,⟨E,i,up,T1,e,hi,V,hu,J⟩,u=>by
  subst e;have u:jV h up:=u;rcases qul hu u with ⟨h1,rfl⟩|⟨ab,h1,h2⟩;have ac:(dM E).J9.length=E.length:=(by show (E.map (·.2.x5)).length=_;rw[zK]);have ej:((i:Int)+1).toNat=i+1:=oJ;unfold io;rw[h1];dsimp only;rw[ac,ej];by_cases hlt:i+1<E.length;rw[if_pos ⟨oJ,oJ⟩];have ad:(dM E).J9.getD (i+1) 0=E[i+1].2.x5:=by show (E.map (·.2.x5)).getD _ 0=_;rw[yR,zQ,zA hlt];rfl
  have C:E.drop (i+1)=E[i+1]::E.drop (i+2):=zY hlt;obtain⟨q1,q2⟩:=V E[i+1] (by rw[C];exact mem_cons_self ..);obtain⟨ae,p1,p2⟩:=FW (frm:=frm) q1;rw[Gw q2] at p2;rw[ad,p1];refine .inr ⟨_,rfl,E,i+1,ae,_,rfl,hlt,fun e he=>V e (by rw[C];exact zN _ he),p2,?_⟩;rw[J,xI,C,yH];rw[iN];exact .inl ⟨rfl,by rw[J,vE oJ];rfl⟩;unfold io;rw[h1];exact .inr ⟨_,rfl,E,i,ab,T1,rfl,hi,V,h2,J⟩
end
end
section
section
variable {D:dI} {M:dY} {k v:Nat} {to:Key}
def ik (n:dL) (to:Key):Int:=if n.Q4 then (en n.J6 to:Int)-1 else en n.J6 to
def ma (D:dI) (M:dY) (k v:Nat) (to:Key):Nat->List kr->fN->Prop
 | 0,E,T=>∃(u:fN) (i:Nat),E=[(ef u,(i:Int)-1)]/\i<=u.length/\e9 u/\T=(u.take i).reverse
 | h+1,E,T=>∃(C:List gH) (i:Nat) (G:List kr) (T1:fN),E=(dM C,(i:Int))::G/\i<C.length/\(∀e∈C.take i,Has D M k v h e.2/\∀x∈e.2.y3,¬fI to x.1)/\ma D M k v to h G T1/\T=T1++((C.take i).flatMap (·.2.y3)).reverse
noncomputable def uf (to:Key) (L:fN):fN:=L.filter fun x=>decide (¬fI to x.1)
def Ej(h:∀x∈L,¬fI to x.1):uf to L=L:=filter_eq_self.2 fun x u=>yA (h x u)
def qsU(h:∀x∈L,fI to x.1):uf to L=[]:=filter_eq_nil_iff.2 fun x u=>by simpa using h x u
def FX{A B:fN}:uf to (A++B)=uf to A++uf to B:=xC ..
def qqe{l:fN}{k:Key}(u:e9 l):(∀x∈l.take (en (dP l) k),lJ x.1 k)/\∀x∈l.drop (en (dP l) k),fI k x.1:=by refine⟨fun x h=>qn1 (l:=dP l) ?_,fun x h=>qmf (l:=dP l) u ?_⟩;rw[<- xP];exact zZ h;rw[<- xQ];exact zZ h
def Fi:∀ {h:Nat} {s:gY},Has D M k v h s->∃fs,iw D k v M (fun n=>ik n to) (h+1) s.x5=some fs/\ma D M k v to h fs (uf to s.y3).reverse
 | 0,s,hs=>by
  obtain⟨h1,h2,h3,h4⟩:=hs;have hl:dJ D M k v s.x5=(ef s.y3,0):=h3.load h4;have ae:e9 s.y3:=h3.right.2.2.1;have af:=yi (dP s.y3) to;rw[zK] at af;have ag:=qqe (k:=to) ae;unfold iw;rw[hl,if_neg (fun h=>h rfl),if_pos (show (ef s.y3).Q4=true from rfl)];refine⟨_,rfl,s.y3,en (dP s.y3) to,?_,af,ae,?_⟩;show [(ef s.y3,ik (ef s.y3) to)]=_;rw[ik,if_pos (show (ef s.y3).Q4=true from rfl)];rfl
  ·congr 1;conv=>lhs;rw[<- xE (en (dP s.y3) to) s.y3]
   rw[FX,qsU ag.2,xH,Ej fun x E=>ag.1 x E]
 | h+1,⟨p,n,L,P⟩,⟨u,h0,h1,h2,h3,h4,h5,h6,h7⟩=>by
  dsimp only at h1 h2 h3 h5;subst h1 h2 h3;have hl:dJ D M k v p=(dM u,0):=h4.load h5;obtain⟨A,e,B,C,hA,am,an,U⟩:=uv (key:=to) h0 h6;have V:(dM u).J9.getD (en (dM u).J6 to) 0=e.2.x5:=U;have aa:en (dM u).J6 to=A.length:=hA.symm;have ao:e∈u:=(by rw[C];simp);obtain⟨ap,_⟩:=h7 e ao;have J:=h6;rw[C] at J;have G:=J.mid;obtain⟨fs,e1,e2⟩:=Fi ap;have ah:ik (dM u) to=(A.length:Int):=by rw[ik,if_neg (show ¬(dM u).Q4=true from fun e=>nomatch e),aa]
  unfold iw;rw[hl,if_neg (fun h=>h rfl),if_neg (show ¬(dM u).Q4=true from fun e=>nomatch e)];show ∃fs,Option.map (((dM u),ik (dM u) to)::·) (iw D k v M (fun n=>ik n to) (h+1) ((dM u).J9.getD (ik (dM u) to).toNat 0))=some fs/\_;rw[ah,zJ,<- aa,V,e1,aa];have I:u.take A.length=A:=(by rw[C];simp);have R:∀a∈A,∀x∈a.2.y3,¬fI to x.1:=fun a ha x E g=>am (pf g (G.1 a ha x E));refine⟨_,rfl,u,A.length,fs,_,rfl,by rw[C];simp,fun b hb=>?_,e2,?_⟩;rw[I] at hb;exact⟨(h7 b (by rw[C];simp[hb])).1,R b hb⟩
  ·rw[I];show (uf to (u.flatMap (·.2.y3))).reverse=_;conv=>lhs;rw[C]
   rw[yQ,yH,FX,FX,qsU (L:=B.flatMap _) fun x E=>?_,xH,Ej (L:=A.flatMap _) fun x E=>?_,reverse_append];obtain⟨a,ha,E⟩:=yK.1 E;exact R a ha x E;obtain⟨b,hb,E⟩:=yK.1 E;exact qY (an b hb) ((G.2 b hb).2.2 x E)
end
end
section
section
variable {D:dI} {M:dY} {k v:Nat} {to:Key}
def jX:Nat->List kr->Prop
 | 0,C=>∃u:fN,C=[(ef u,-1)]
 | _+1,[]=>False
 | h+1,_::E=>jX h E
def qqm:∀ {h:Nat} {I:List kr} {T:fN},ma D M k v to h I T->jX h I->(io D k v M (fun n=>ik n to) (fun i=>i-1) h I=none/\T=[])\/∃J,io D k v M (fun n=>ik n to) (fun i=>i-1) h I=some J/\ma D M k v to h J T
 | 0,I,T,⟨aj,i,e,hi,hs,R⟩,⟨ag,e'⟩=>by rw[e] at e';have e1:=(vB (vC e').1);have e4:(i:Int)-1=-1:=e1.2;have e5:i=0:=oJ;subst e5;exact .inl ⟨rfl,by rw[R];rfl⟩
 | h+1,I,T,⟨E,i,up,T1,e,hi,U,hu,R⟩,u=>by
  subst e;have u:jX h up:=u;rcases qqm hu u with ⟨V,rfl⟩|⟨aa,V,h2⟩;have ab:(dM E).J9.length=E.length:=(by show (E.map (·.2.x5)).length=_;rw[zK]);unfold io;rw[V];dsimp only;rw[ab];cases i with
  | zero=>
   rw[iN];exact .inl ⟨rfl,by rw[R];rfl⟩
  | succ i=>
   have ej:(((i+1:Nat):Int)-1).toNat=i:=oJ;have ac:((i+1:Nat):Int)-1=(i:Int):=oJ;have G:i<E.length:=oJ;rw[ej,if_pos ⟨oJ,oJ⟩,ac];have ad:(dM E).J9.getD i 0=E[i].2.x5:=(by show (E.map (·.2.x5)).getD _ 0=_;rw[yR,zQ,zA G];rfl);have C:E.take (i+1)=E.take i++[E[i]]:=yG G;obtain⟨q1,q2⟩:=U E[i] (by rw[C];exact zI _ (mem_cons_self ..));obtain⟨ae,p1,p2⟩:=Fi (to:=to) q1;rw[Ej q2] at p2;rw[ad,p1];refine .inr ⟨_,rfl,E,i,ae,_,rfl,G,fun e he=>U e (by rw[C];exact zH _ he),p2,?_⟩;rw[R,xI,C,yQ,reverse_append,yH,flatMap_nil,xH]
  unfold io;rw[V];exact .inr ⟨_,rfl,E,i,aa,T1,rfl,hi,U,h2,R⟩
end
end
section
section
variable {D:dI} {M:dY} {k v:Nat} {frm to:Key}
def quu:∀ {h:Nat} {C:List kr} {T:fN},lU D M k v frm h C T->jV h C\/∃(u:fN) (i:Nat) (lo:List kr) (hi:i<u.length) (T':fN),C=lo++[(ef u,(i:Int))]/\T=u[i]::T'/\lU D M k v frm h (lo++[(ef u,(i:Int)+1)]) T'
 | 0,C,T,⟨u,i,e,hi,I,E⟩=>by by_cases hlt:i<u.length;exact .inr ⟨u,i,[],hlt,u.drop (i+1),e,by rw[E,zY hlt],u,i+1,rfl,hlt,I,rfl⟩;have:i=u.length:=oJ;subst this;exact .inl ⟨u,e⟩
 | h+1,C,T,⟨G,i,up,T1,e,hi,J,R,E⟩=>by subst e;rcases quu R with U|⟨u,j,lo,V,T',e1,e2,e3⟩;exact .inl U;refine .inr ⟨u,j,(dM G,(i:Int))::lo,V,T'++(G.drop (i+1)).flatMap (·.2.y3),by rw[e1];rfl,by rw[E,e2];rfl,G,i,_,T',rfl,hi,J,e3,rfl⟩
def qqO:∀ {h:Nat} {C:List kr} {T:fN},ma D M k v to h C T->jX h C\/∃(u:fN) (i:Nat) (lo:List kr) (hi:i<u.length) (T':fN),C=lo++[(ef u,(i:Int))]/\T=u[i]::T'/\ma D M k v to h (lo++[(ef u,(i:Int)-1)]) T'
 | 0,C,T,⟨u,i,e,hi,J,G⟩=>by
  cases i with
  | zero=>exact .inl ⟨u,e⟩
  | succ i=>
   have E:i<u.length:=oJ;have e0:((i+1:Nat):Int)-1=(i:Int):=oJ;rw[e0] at e;exact .inr ⟨u,i,[],E,(u.take i).reverse,e,by rw[G,yG E,reverse_append];rfl,u,i,rfl,oJ,J,rfl⟩
 | h+1,C,T,⟨I,i,up,T1,e,hi,R,U,G⟩=>by subst e;rcases qqO U with V|⟨u,j,lo,hj,T',e1,e2,e3⟩;exact .inl V;refine .inr ⟨u,j,(dM I,(i:Int))::lo,hj,T'++((I.take i).flatMap (·.2.y3)).reverse,by rw[e1];rfl,by rw[G,e2];rfl,I,i,_,T',rfl,hi,R,e3,rfl⟩
end
end
section
section
variable {D:dI} {M:dY} {k v:Nat} {frm to:Key}
def qr0:∀ {h:Nat} {s:gY} {R:List kr},Has D M k v h s->(∀x∈s.y3,¬fI x.1 frm)->iw D k v M (fun n=>jM n frm) (h+1) s.x5=some R->¬jV h R
 | 0,s,R,hs,u,C=>by have ad:=hs.ne;obtain⟨h1,h2,U,h4⟩:=hs;have hl:dJ D M k v s.x5=(ef s.y3,0):=U.load h4;have ai:=Ae (k:=frm) U.right.2.2.1;unfold iw at C;rw[hl,if_neg (fun h=>h rfl),if_pos (show (ef s.y3).Q4=true from rfl)] at C;have C:=yO C;rintro⟨G,e⟩;rw[<- C] at e;have e1:=(vB (vC e).1);have e2:dP s.y3=dP G:=congrArg dL.J6 e1.1;have e3:=congrArg List.length e2;rw[zK,zK] at e3;have e4:jM (ef s.y3) frm=(G.length:Int):=e1.2;rw[jM,if_pos (show (ef s.y3).Q4=true from rfl)] at e4;have e5:dN (dP s.y3) frm=G.length:=Int.ofNat.inj e4;obtain⟨x,r,hx⟩:=exists_cons_of_ne_nil ad;refine u x (by rw[hx];exact mem_cons_self ..) (ai.1 x ?_);rw[e5,zS oJ,hx];exact mem_cons_self ..
 | h+1,⟨p,n,L,P⟩,R,⟨E,h0,h1,h2,U,h4,h5,h6,h7⟩,u,C=>by
  dsimp only at h1 h2 U h5 u C;subst h1 h2 U;have hl:dJ D M k v p=(dM E,0):=h4.load h5;obtain⟨A,e,B,aj,hA,ay,az,I⟩:=uv (key:=frm) h0 h6;have J:(dM E).J9.getD (en (dM E).J6 frm) 0=e.2.x5:=I;have V:en (dM E).J6 frm=A.length:=hA.symm;have aa:e∈E:=(by rw[aj];simp);obtain⟨ak,_⟩:=h7 e aa;have ab:jM (dM E) frm=(A.length:Int):=by rw[jM,if_neg (show ¬(dM E).Q4=true from fun e=>nomatch e),V]
  unfold iw at C;rw[hl,if_neg (fun h=>h rfl),if_neg (show ¬(dM E).Q4=true from fun e=>nomatch e)] at C;have C:Option.map (((dM E),jM (dM E) frm)::·) (iw D k v M (fun n=>jM n frm) (h+1) ((dM E).J9.getD (jM (dM E) frm).toNat 0))=some R:=C;rw[ab,zJ,<- V,J] at C;obtain⟨al,e1,rfl⟩:=yT.1 C;show ¬jV h al;exact qr0 ak (fun x hx=>u x (yK.2 ⟨e,aa,hx⟩)) e1
end
end
section
section
variable {D:dI} {M:dY} {k v:Nat} {frm to:Key}
def qnS:∀ {h:Nat} {s:gY} {J:List kr},Has D M k v h s->(∀x∈s.y3,¬fI to x.1)->iw D k v M (fun n=>ik n to) (h+1) s.x5=some J->¬jX h J
 | 0,s,J,hs,u,C=>by
  have ac:=hs.ne;obtain⟨h1,h2,R,h4⟩:=hs;have hl:dJ D M k v s.x5=(ef s.y3,0):=R.load h4;have ah:=qqe (k:=to) R.right.2.2.1;unfold iw at C;rw[hl,if_neg (fun h=>h rfl),if_pos (show (ef s.y3).Q4=true from rfl)] at C;have C:=yO C;rintro⟨ao,e⟩;rw[<- C] at e;have e1:=(vB (vC e).1);have e4:ik (ef s.y3) to=-1:=e1.2;rw[ik,if_pos (show (ef s.y3).Q4=true from rfl)] at e4;have e5:en (dP s.y3) to=0:=by have e6:((en (dP s.y3) to:Nat):Int)-1=-1:=e4;omega
  obtain⟨x,r,hx⟩:=exists_cons_of_ne_nil ac;refine u x (by rw[hx];exact mem_cons_self ..) (ah.2 x ?_);rw[e5,xF,hx];exact mem_cons_self ..
 | h+1,⟨p,n,L,P⟩,J,⟨E,h0,h1,h2,R,h4,h5,h6,h7⟩,u,C=>by
  dsimp only at h1 h2 R h5 u C;subst h1 h2 R;have hl:dJ D M k v p=(dM E,0):=h4.load h5;obtain⟨A,e,B,ai,hA,aw,ax,G⟩:=uv (key:=to) h0 h6;have I:(dM E).J9.getD (en (dM E).J6 to) 0=e.2.x5:=G;have U:en (dM E).J6 to=A.length:=hA.symm;have V:e∈E:=(by rw[ai];simp);obtain⟨aj,_⟩:=h7 e V;have aa:ik (dM E) to=(A.length:Int):=by rw[ik,if_neg (show ¬(dM E).Q4=true from fun e=>nomatch e),U]
  unfold iw at C;rw[hl,if_neg (fun h=>h rfl),if_neg (show ¬(dM E).Q4=true from fun e=>nomatch e)] at C;have C:Option.map (((dM E),ik (dM E) to)::·) (iw D k v M (fun n=>ik n to) (h+1) ((dM E).J9.getD (ik (dM E) to).toNat 0))=some J:=C;rw[aa,zJ,<- U,I] at C;obtain⟨ak,e1,rfl⟩:=yT.1 C;show ¬jX h ak;exact qnS aj (fun x hx=>u x (yK.2 ⟨e,V,hx⟩)) e1
end
end
section
section
variable {D:dI} {M:dY} {k v:Nat} {frm to:Key} {pick:dL->Int} {step:Int->Int}
def qjx:∀ {h:Nat} {R I:List kr} {T:fN},lU D M k v frm h R T->jV h R->io D k v M (fun n=>jM n frm) (fun i=>i+1) h R=some I->¬jV h I
 | 0,_,_,_,_,_,h=>nomatch h
 | h+1,R,I,T,⟨C,i,up,T1,e,hi,hd,hu,hT⟩,u,E=>by
  subst e;have u:jV h up:=u;unfold io at E;cases e1:io D k v M (fun n=>jM n frm) (fun i=>i+1) h up with
  | some U=>
   rw[e1] at E;cases E;show ¬jV h U;exact qjx hu u e1
  | none=>
   rw[e1] at E;dsimp only at E;split at E;rename_i G;have V:(dM C).J9.length=C.length:=(by show (C.map (·.2.x5)).length=_;rw[zK]);have ej:((i:Int)+1).toNat=i+1:=oJ;rw[V] at G;rw[ej] at E;have G:i+1<C.length:=oJ;have aa:(dM C).J9.getD (i+1) 0=C[i+1].2.x5:=by show (C.map (·.2.x5)).getD _ 0=_;rw[yR,zQ,zA G];rfl
   have J:C.drop (i+1)=C[i+1]::C.drop (i+2):=zY G;obtain⟨q1,q2⟩:=hd C[i+1] (by rw[J];exact mem_cons_self ..);obtain⟨ab,e2,rfl⟩:=yT.1 E;show ¬jV h ab;exact qr0 q1 q2 (by rw[<- aa];exact e2);cases E
def qgX:∀ {h:Nat} {R G:List kr} {T:fN},ma D M k v to h R T->jX h R->io D k v M (fun n=>ik n to) (fun i=>i-1) h R=some G->¬jX h G
 | 0,_,_,_,_,_,h=>nomatch h
 | h+1,R,G,T,⟨E,i,up,T1,e,hi,hd,hu,hT⟩,u,C=>by
  subst e;have u:jX h up:=u;unfold io at C;cases e1:io D k v M (fun n=>ik n to) (fun i=>i-1) h up with
  | some U=>
   rw[e1] at C;cases C;show ¬jX h U;exact qgX hu u e1
  | none=>
   rw[e1] at C;dsimp only at C;split at C;rename_i I;obtain⟨i,rfl⟩:∃j,i=j+1:=⟨i-1,oJ⟩;have ej:(((i+1:Nat):Int)-1).toNat=i:=oJ;rw[ej] at C;have I:i<E.length:=oJ;have V:(dM E).J9.getD i 0=E[i].2.x5:=by show (E.map (·.2.x5)).getD _ 0=_;rw[yR,zQ,zA I];rfl
   have J:E.take (i+1)=E.take i++[E[i]]:=yG I;obtain⟨q1,q2⟩:=hd E[i] (by rw[J];exact zI _ (mem_cons_self ..));obtain⟨aa,e2,rfl⟩:=yT.1 C;show ¬jX h aa;exact qnS q1 q2 (by rw[<- V];exact e2);cases C
def Path (D:dI) (M:dY) (k v:Nat) (step:Int->Int):Nat->List kr->Prop
 | 0,E=>∃(u:fN) (i:Int),E=[(ef u,i)]/\-1<=i/\i<=u.length
 | h+1,E=>∃(C:List gH) (i:Int) (G:List kr),E=(dM C,i)::G/\0<=i/\i<C.length/\(∀j:Nat,step i=j->∀I:j<C.length,Has D M k v h C[j].2)/\Path D M k v step h G
def lU.path:∀ {h:Nat} {u:List kr} {T:fN},lU D M k v frm h u T->Path D M k v (fun i=>i+1) h u
 | 0,u,T,⟨E,i,e,G,hs,I⟩=>⟨E,i,e,oJ,oJ⟩
 | h+1,u,T,⟨J,i,R,T1,e,G,U,V,I⟩=>⟨J,i,R,e,oJ,oJ,fun j C hj=>by have C:(i:Int)+1=j:=C;have C:j=i+1:=oJ;subst C;exact (U _ (by rw[zY hj];exact mem_cons_self ..)).1,V.path⟩
def ma.path:∀ {h:Nat} {u:List kr} {T:fN},ma D M k v to h u T->Path D M k v (fun i=>i-1) h u
 | 0,u,T,⟨E,i,e,G,hs,I⟩=>⟨E,_,e,oJ,oJ⟩
 | h+1,u,T,⟨J,i,R,T1,e,G,U,V,I⟩=>⟨J,i,R,e,oJ,oJ,fun j C hj=>by have C:(i:Int)-1=j:=C;have C:i=j+1:=oJ;subst C;exact (U _ (by rw[yG hj];exact zI _ (mem_cons_self ..))).1,V.path⟩
def Path.len:∀ {h:Nat} {u:List kr},Path D M k v step h u->u.length=h+1
 | 0,_,⟨_,_,e,_⟩=>by rw[e];rfl
 | h+1,_,⟨_,_,E,e,_,_,_,C⟩=>by rw[e,yI,C.len]
def Path.drop:∀ {pre u:List kr} {h:Nat},Path D M k v step (pre.length+h) (pre++u)->Path D M k v step h u
 | [],_,_,h=>by rw[xK,xS] at h;exact h
 | x::pre,u,n,h=>by have e:(x::pre).length+n=(pre.length+n)+1:=(by rw[yI];omega);rw[e] at h;obtain⟨E,i,G,e1,_,_,_,C⟩:=h;rw[(vC e1).2.symm] at C;exact C.drop
noncomputable def tA (D:dI) (k v:Nat) (M:dY) (pick:dL->Int) (step:Int->Int) (h:Nat) (x:kr):Option (List kr):=
 if 0<=step x.2/\step x.2<x.1.J9.length then (iw D k v M pick (h+1) (x.1.J9.getD (step x.2).toNat 0)).map ((x.1,step x.2)::·) else none
def qvx{h:Nat}{x:kr}{u:List kr}(e:io D k v M pick step h u=none):io D k v M pick step (h+1) (x::u)=tA D k v M pick step h x:=by obtain⟨n,i⟩:=x;unfold io;rw[e];rfl
def qql:∀ {pre u r:List kr} {h:Nat},io D k v M pick step h u=some r->io D k v M pick step (pre.length+h) (pre++u)=some (pre++r)
 | [],u,r,h,e=>by rw[xK,xS];exact e
 | (n,i)::pre,u,r,h,e=>by have e1:((n,i)::pre).length+h=(pre.length+h)+1:=(by rw[yI];omega);rw[e1,xJ];unfold io;rw[qql (pre:=pre) e];rfl
def qyr{h:Nat}{s:gY}(hs:Has D M k v (h+1) s):∃u:List gH,dJ D M k v s.x5=(dM u,0)/\∃hj:en (dM u).J6 key<u.length,(dM u).J9.getD (en (dM u).J6 key) 0=u[en (dM u).J6 key].2.x5/\Has D M k v h u[en (dM u).J6 key].2:=by obtain⟨p,n,L,P⟩:=s;obtain⟨u,h0,J,R,U,h4,V,h6,h7⟩:=hs;dsimp only at J R U V;subst J R U;refine⟨u,h4.load V,?_⟩;obtain⟨A,e,B,E,hA,ag,ah,G⟩:=uv (key:=key) h0 h6;have I:en (dM u).J6 key=A.length:=hA.symm;have C:en (dM u).J6 key<u.length:=(by rw[I,E];simp);refine⟨C,?_,(h7 _ (zX C)).1⟩;show (u.map (·.2.x5)).getD _ 0=_;rw[yR,zQ,zA C];rfl
end
end
end
section
open Go Go.Pt List
open Go.IntKind (wrap)
open Classical
variable {K:Option Addr×Option Addr->WP}
def qw5{w:World}{n:Nat}(Y:List Nat)(I:∀b∈Y,b<w.heap.size)(hY:HG∉Y)(hv:Hv w)(h8:8<=n)(h4:n<=4096)(hk:∀dbk pb FD F D w',TW dbk pb FD D 5000 w' Y F (jW n)->Made D n->Fr [] w w'->(∀b∈FD++F,w.heap.size<=b)->K (pW dbk,pW pb) w'): cW 62 [.i n] dz w K:=by
 refine qhJ<|qzd (fun h=>oJ) fun _ _ dbk FD w1 d1 V n1=>?_;rw[zJ] at d1;obtain⟨D',e1,q1,s1,ac,o1,z1⟩:=qrZ (qvw n) (qxb n) h8 h4;have J:=hv.q7 V;have hg:HG∉FD:=fun hm=>by have:=n1 _ hm;have:=hv.lt;omega
 have ar:(mM n).Q6.length=n:=(by simp[mM]);refine gW (fun b w'=>b=false/\∃F',DS dbk w1 FD w' F' D' (0+5000)) ?_ ?_;refine cond_false rfl (cond_false rfl ?_);refine quM d1 (lF.new h4) oM oJ J hg fun w' F' d'=>?_;rw[e1] at d'⊢;exact⟨rfl,F',d'⟩;rintro b w2 ⟨rfl,F2,C⟩;refine cond_false rfl ?_;have E:∀b∈F2,w.heap.size<=b:=fun b u=>by rcases C.nw b u with h|h;exact n1 b h;exact zL V.size h
 have R:=o1.open;have G:=(C.hv J hg).1;have U:w.heap.size<=w2.heap.size:=zL V.size C.fr.size;refine qwa (F2++HG::Y) (fun b u=>?_) C.at_ C.lim.ok G (fun h=>by rw[R] at h;cases h) fun pb F M w3 hM hp f3 n3=>?_;rcases zD.1 u with u|u;exact C.at_.lt b u;rcases zG.1 u with rfl|u;exact G.lt;exact yD (I b u) U;rw[R] at hM;cases hM;refine cond_false rfl<|hk dbk pb F2 F D' w3 ⟨C.at_.q7 f3,C.lim,hp,G.q7 f3,qzX h8 h4,fun b u=>⟨fun hm=>?_,fun e=>hY (e▸u)⟩⟩ ⟨q1,s1,ac,o1,e1,z1⟩ ((V.j8 C.fr fun b u=>.inr (n1 b u)).j8 f3 oL) fun b u=>?_
 have:=E b hm
 have:=I b u
 omega;rcases zD.1 u with u|u;exact E b u;exact zL U (n3 b u)
def Az (x:Key×Key):List Value:=[.string (BP x.1),.string (BP x.2)]
def eQ.none{α:Type}{enc:α->List Value}{k:Nat}{w:World}{b:Nat}{T:TypeId}(h:w.heap[b]?=some (.cells #[] T (0,0))):eQ enc k w ⟨pW b,0,0⟩ [] [b]:=
 .inr ⟨b,0,#[],T,rfl,rfl,rfl,h,rfl,zM _,oL,oL⟩
end
section
open Go Go.Pt List
open Go.IntKind (wrap)
open Classical
end
section
open Go Go.Pt List
open Go.IntKind (wrap)
open Classical
structure HiI (k v c:Nat) (t:Int) (w0 w:World) (s:Sl) (m:Nat) (dbk pb:Nat) (FD:List Nat) (D:dI) (F:List Nat) (M:dY) (P:List Int) (L:fN) (B:List Nat):Prop where
 tw:TW dbk pb FD D 5000 w [] F M
 Hg:wY D M k v c t L P
 t5:eQ Az 2 w s L B
 len:L.length<=m
 fr:Fr [] w0 w
 new:∀ b∈FD++F,w0.heap.size<=b
 J3:∀ b∈B,b∉F
section
variable {k v c:Nat} {t:Int} {w0 w:World} {s:Sl} {m:Nat} {dbk pb:Nat} {FD F B:List Nat} {D:dI} {M:dY} {P:List Int} {L:fN}
end
end
section
open Go Go.Pt List
open Go.IntKind (wrap)
open Classical
end
section
open Go Go.Pt List
open Go.IntKind (wrap)
open Classical
variable {B S:List Nat} {K:Sl->WP} {L:List (Nat×Obj)} {T:TypeId} {a:HL iT} {cs:Array Value} {ids:List iV} {l u:List Int} {m r:Nat} {n:Int} {s t:Sl} {w w0:World} {x:iV}
def Dn:∀ {k i:Nat} {n:Int},i<k->(bw k n)[i]?=some (n / 256^(k-1-i)%256)
 | k+1,i,n,h=>by rw[bw];by_cases hi:i<k;rw[yZ (by rw[k8];exact hi),Dn hi,Int.ediv_ediv_of_nonneg oM,show k+1-1-i=(k-1-i)+1 by omega,Int.pow_succ,Int.mul_comm];have:i=k:=oJ;subst this;rw[yY (by rw[k8];exact zM _),k8,Nat.sub_self,show i+1-1-i=0 by omega,Int.pow_zero,Int.ediv_one];rfl
def Ek{i:Nat}(h:8*i<=m):wrap .u8 (Int.fdiv n (2^min (8*i) m))=n / 256^i%256:=by rw[Aj,xR h,Int.fdiv_eq_ediv_of_nonneg _ (Int.le_of_lt (Int.pow_pos oM)),Int.pow_mul];rfl
def qnw{j:Nat}{x:Int}:dR (fR l) j [.b x]=fR (l.set j x):=by rw[dR,dR];apply Array.ext';rw[Array.toList_setIfInBounds];show (fR _).toList.set _ _=(fR _).toList;unfold fR;simp only[toList_toArray];rw[<- map_set]
def kE (w w':World) (s:Sl) (l:List Int):Prop:=eh (List.range w.heap.size) w' s l
section
variable {w w1 w2 w':World} {s:Sl} {l:List Int} {S:List Nat}
def kE.q7(h:kE w w' s l)(f:Fr [] w' w2):kE w w2 s l:=dZ.q7 h f
def kE.to(h:kE w w' s l)(u:∀b∈S,b<w.heap.size):eh S w' s l:=dZ.j6 h fun b C=>.inl (mem_range.2 (u b C))
def kE.up(h:kE w1 w' s l)(f:w.heap.size<=w1.heap.size):kE w w' s l:=h.to fun b u=>yD (mem_range.1 u) f
def kE.rd(h:kE w w' s l):eh [] w' s l:=h.to fun _ h=>nomatch h
def C3{b o n cap:Nat}{L:List Int}{u:Nat×Nat}(I:w.heap.size<=b)(C:w'.heap[b]?=some (.cells (fR L) T u))(E:o+n<=L.length)(G:n<=cap)(e:(L.drop o).take n=l):kE w w' ⟨some (dg b o),n,cap⟩ l:=by rw[<- e];exact vo C E G fun h=>by have:=mem_range.1 h;omega
def vO(h:fQ w' s l B)(u:∀b∈B,w.heap.size<=b):kE w w' s l:=h.jo kW fun b C h=>by have:=mem_range.1 h;have:=u b C;omega
def BW{b o n:Nat}{a:Sl}{ys:List Int}(h:eh [] w ⟨some (dg b o),n,n⟩ l)(V:eh [] w a ys)(hy:0<ys.length)(hl:l.length+ys.length<=1000000)(kk:∀s' B w',fQ w' s' (l++ys) B->Fr [] w w'->(∀b∈B,w.heap.size<=b)->K s' w'): Pt.run dh ((Builtin.append_ #[101,101] 101 #[.slice (some (dg b o)) n n,a.v]).run Tryz.prog w) K:=by
 obtain⟨i,hi,hz,E,G⟩:=uO;have I:=V.1;have C:n=l.length:=h.1;have hc:=h.cells kW rfl;refine qtQ (m:=a.len) (e:=5) (olds:=l.map (Value.int .u8)) (news:=ys.map (Value.int .u8)) oK hi hz E rfl (by rw[zK,C]) (fun j u hj=>?_) ?_ oJ (by rw[G];omega) oJ fun b' cs c w' eb J f R U ht=>?_;rw[<- qX] at hj;exact hc j u hj
 have:=tg (P:=Tryz.prog) (tx:=101) (e':=5) V kW (fun x u hu=>by rw[zE.1 hu];rfl) oK
 rw[qX] at this;exact this;refine kk _ [b'] w' (eQ.one (e:=Value.int .u8) (fun _=>rfl) J (by rw[zF];omega) R U ?_) f fun b J=>by rw[zE.1 J,eb];exact zM _
 rw[zF,<- C,<- I,ht,xN]
end
def qAq{K:Int×Int->WP}(u:∀w',Fr [] w w'->K (0,n) w'):cW 98 [.int .u64 n] [.agg df] w K:=by exact qv0<|oB (oE [] w) fun r w1 e1 C h=>h.sz 0 rfl #[.int .u64 0,.int .u64 n] fun w2 h _=>oC h 0 rfl (0,n) rfl<|u w2 h.fr
def DW{a0 C:Int}(R:∀r w',kE w w' ⟨pW r,16,16⟩ (iG (a0,C))->Fr [] w w'->w'.heap[r]?=some (.cells (fR (iG (a0,C))) 5 (0,0))->w.heap.size<=r->K ⟨pW r,16,16⟩ w'): cW 97 [de a0 C] dh w K:=by
 refine qrc<|oB (oE [] w) fun U w1 e1 V h=>dQ.mkN h rfl oM oM oM oM fun r w2 e2 h=>?_;have I:w.heap.size<=r:=(by have:=V.size;omega);refine iU (fun x w'=>∃j:Nat,∃l:List Int,x=j/\j<=8/\l.length=16/\dQ [] w w' [(r,.cells (fR l) 5 (0,0)),(U,.cells #[.int .u64 a0,.int .u64 C] 39 (0,0))]/\∀i<j,l[i]?=(bw 8 a0)[i]?/\l[8+i]?=(bw 8 C)[i]?) (fun x _=>8-x.toNat) ⟨0,zs 16,rfl,oM,rfl,h,fun i h=>oJ⟩ ?_;rintro x w3 ⟨j,l,rfl,hj,hl,h,E⟩ X hX;apply cD<;>intro G;have u:j<8:=oJ;have e1:wrap .i64 (56-wrap .i64 (8*(j:Int)))=((8*(7-j):Nat):Int):=by rw[gg (8*(j:Int)) oJ,gg _ oJ];omega
 rw[e1,gg (8+(j:Int)) oJ,gg ((j:Int)+1) oJ,zJ];refine oA h 1 rfl a0 rfl (mP oJ (uj oJ oJ ?_));rw[Ek (n:=a0) (i:=7-j) (m:=64) oJ];refine h.st' 0 rfl _ qnw rfl (by rw[yd];simp;omega) fun w4 h _=>oA h 1 rfl C rfl (mP oJ (uj oJ oJ ?_));rw[Ek (n:=C) (i:=7-j) (m:=64) oJ];refine h.st' 0 rfl _ qnw rfl (by rw[yd];simp;omega) fun w5 h _=>hX _ _ ⟨j+1,_,rfl,u,by simpa using hl,h,fun i ad=>?_⟩ oJ;rw[show (0+(j:Int).toNat*1)=j by omega,show (0+(8+(j:Int)).toNat*1)=8+j by omega];by_cases e:i=j;subst e;rw[Dn u,Dn u,show 8-1-i=7-i by omega];exact⟨by rw[List.getElem?_set_ne oJ,List.getElem?_set_self oJ],by rw[List.getElem?_set_self (by rw[xG];omega)]⟩
 have:=E i oJ
 exact⟨by rw[List.getElem?_set_ne oJ,List.getElem?_set_ne oJ];exact this.1,by rw[List.getElem?_set_ne oJ,List.getElem?_set_ne oJ];exact this.2⟩;have u:j=8:=oJ;subst u;have e:l=iG (a0,C):=by
  apply ext_getElem?;intro i;unfold iG;by_cases h8:i<8;rw[yZ (by rw[k8];exact h8)];exact (E i h8).1;rw[yY (by rw[k8];omega),k8];by_cases h16:i<16
  have:=(E (i-8) oJ).2
  rwa[show 8+(i-8)=i by omega] at this;rw[yS oJ,yS (by rw[k8];omega)]
 subst e;have J:=h.at (i:=0) rfl;exact R r w3 (C3 I J (by rw[lT];decide) oM (by rw[xF];exact zS (by rw[lT];decide))) h.fr J I
def uB{a0 u:Int}(E:∀r w',kE w w' ⟨pW r,16,16⟩ (iG (a0,u))->Fr [] w w'->K ⟨pW r,16,16⟩ w'): cW 55 [de a0 u] dh w K:=by exact qwX<|oB (oE [] w) fun J w1 e1 C h=>oC h 0 rfl (a0,u) rfl<|DW fun r w2 G I _ _=>E r w2 (G.up C.size) (C.trans I)
def Bg(u:∀r w',kE w w' ⟨some (dg r 8),8,8⟩ (bw 8 n)->Fr [] w w'->K ⟨some (dg r 8),8,8⟩ w'): cW 51 [.int .u64 n] dh w K:=by refine qsb<|qAq fun w1 h=>DW fun r w2 I C E G=>Ce oM oM oM oM<|u r w2 (C3 (zL h.size G) E (by rw[lT];decide) oM ?_) (h.trans C);rw[iG,drop_left' (k8 _ _)];exact zS (by rw[k8];decide)
def Ct{a0 u:Int}(E:∀s w',kE w w' s (kT (a0,u) n)->Fr [] w w'->K s w'): cW 38 [de a0 u,.int .u64 n] dh w K:=by refine qtr<|oB (oE [] w) fun r1 w1 e1 f1 h=>oC h 0 rfl (a0,u) rfl<|qo6<|oB h fun r2 w2 e2 f2 h=>oC h 0 rfl (a0,u) rfl<|rS (lb:=[]) rfl oK (uB fun r3 w3 G I=>?_);refine rS (lb:=[]) rfl oK (Bg fun r4 w4 J C=>?_);refine BW (G.q7 C).rd J.rd (by rw[k8];decide) (by rw[k8,lT];decide) fun s B R U V n5=>?_;have f:=h.fr.trans (I.trans C);exact E s R (vO U fun b hb=>zL f.size (n5 b hb)) (f.trans V)
def qtJ{m:Int}(u:∀s w',kE w w' s (kN n m)->Fr [] w w'->K s w'): cW 35 [.int .u64 n,.int .u64 m] dh w K:=by refine qvq<|qo5<|rS (lb:=[]) rfl oK (Bg fun r3 w3 C E=>?_);refine rS (lb:=[]) rfl oK (Bg fun r4 w4 G h=>?_);refine BW (C.q7 h).rd G.rd (by rw[k8];decide) (by rw[k8,k8];decide) fun s B I J R U=>?_;have f:=E.trans h;exact u s I (vO J fun b V=>zL f.size (U b V)) (f.trans R)
def Dh{j:Nat}(h:eF l)(u:j<l.length)(I:j<8):bits .or .u64 (wrap .u64 (nP (l.take j)*2^8)) (wrap .u64 l[j])=nP (l.take (j+1)):=by
 have J:=h l[j] (zX u);have R:=Cu (l:=l.take j) fun y C=>h y (yV C);have E:(256:Int)^(l.take j).length<=256^7:=by
  have:((256^(l.take j).length:Nat):Int)<=((256^7:Nat):Int):=by
   have:=Nat.pow_le_pow_right (n:=256) oM (show (l.take j).length<=7 by rw[yL];omega)
   omega
  simpa using this
 have G:(256:Int)^7=72057594037927936:=oM;rw[G] at E;rw[yG u,qrC,wQ l[j] oJ,wQ _ oJ];rw[qqr 8 oJ oJ oJ oJ oJ];omega
def quL{K:Int->WP}(h:eh S w s l)(J:eF l)(V:l.length<=8)(R:K (nP l) w):cW 85 [s.v] dl w K:=by refine qqX ?_;have G:=h.1;refine iU (fun x w'=>w'=w/\∃i:Nat,x.2=i/\i<=l.length/\x.1=nP (l.take i)) (fun x _=>((l.length:Int)-x.2).toNat) ⟨rfl,0,rfl,oJ,rfl⟩ ?_;rintro⟨r,ii⟩ w' ⟨rfl,i,C,hi,I⟩ X U;simp only at C I;subst C I;apply cD<;>intro E;have u:i<l.length:=oJ;refine eh.at h i rfl (zA u) ?_;rw[gg _ oJ,Dh J u oJ];exact U _ _ ⟨rfl,i+1,oL,oJ,rfl⟩ oN;have u:i=l.length:=oJ;subst u;rw[xZ];exact R
section
abbrev ut:TypeId:=39
abbrev iZ:iV->List Value:=fun x=>[.int .u64 x.1,.int .u64 x.2]
def rJ(x:iV):(iZ x).length=2:=rfl
def qt{x:Int}(h:IntKind.u64.has x):np x:=by have u:(0:Int)<=x/\x<=18446744073709551615:=h;exact⟨u.1,oJ⟩
def Dp{w':World}{b:Nat}{o o':Obj}(h:dQ S w0 w L)(i:Nat)(hi:L[i]?=some (b,o))(f:Fr [b] w w')(u:w'.heap[b]?=some o'):dQ S w0 w' (L.set i (b,o')):=
 (h.gR (o':=o') i hi).q7 ⟨f.os,f.tape,f.output,by rw[tE];exact f.size,fun j C _=>by
  rw[om _ _ _ _ (eZ (h.at hi))];split
  ·next e=>rw[e];exact u
  ·next e=>exact f.block j (by rwa[tE] at C) (oP e)⟩
def Eo{b:Sl}{k:Nat}{E:Sl->WP}(h:fQ w b l B)(hm:8*k<=m+8)(hl:l.length<=1000)(h8:k<=8)(kk:∀s B' w',fQ w' s (l++bw k n) B'->Fr B w w'->(∀b∈B',b∈B\/w.heap.size<=b)->E s w'): loop (Sl×Int) (fun X t w3=>cond (decide (t.2>=0)) (gF (0<=wrap .i64 (8*t.2))<|Pt.new (.cells #[.b (wrap .u8 (Int.fdiv n (2^min (Int.toNat (wrap .i64 (8*t.2))) m)))] 5) w3 fun r w5=>Pt.run dh ((Builtin.append_ #[101,101] 101 #[t.1.v,.slice (pW r) 1 1]).run Tryz.prog w5) fun s w7=>X (s,wrap .i64 (t.2-1)) w7) (E t.1 w3)) (b,wrap .i64 (k-1)) w:=by
 refine iU (fun t w'=>∃j:Nat,∃B',t.2=(k:Int)-1-j/\j<=k/\fQ w' t.1 (l++(bw k n).take j) B'/\Fr B w w'/\∀b∈B',b∈B\/w.heap.size<=b) (fun t _=>(t.2+1).toNat) ⟨0,B,by dsimp only;rw[gg _ oJ];omega,yX _,by rw[take_zero,xH];exact h,.refl _ _,fun _ h=>.inl h⟩ ?_;rintro⟨s,x⟩ w1 ⟨j,B1,hx,hj,I,J,R⟩ X hX;dsimp only at hx I⊢;subst hx;apply dW<;>intro G;have G:=zC G;have C:j<k:=oJ;have e1:wrap .i64 (8*((k:Int)-1-j))=((8*(k-1-j):Nat):Int):=(by rw[gg _ oJ];omega);rw[e1,zJ,Ek oJ,gg _ oJ];obtain⟨i,hi,hz,U,V⟩:=uO;have ad:(l++(bw k n).take j).length<=1008:=(by rw[zF,yL];omega);refine mP oJ (eQ.push (e:=5) (x:=n / 256^(k-1-j)%256) I kW (fun u hu=>by rw[zE.1 hu];rfl) oK hi hz U rfl rfl (by rw[V];omega) oJ fun s2 B2 w2 b2 f2 n2=>?_);refine hX _ _ ⟨j+1,B2,by dsimp only;omega,C,?_,J.j8 f2 R,fun b hb=>(n2 b hb).elim (R b) fun h=>.inr (zL J.size h)⟩ oN
 have:=Dn (n:=n) C
 obtain⟨hb,e⟩:=zP.1 this;rw[yG hb,e,<- zV];exact b2;have G:=zB G;have C:j=k:=oJ;subst C;rw[zS (by rw[k8];exact zM _)] at I;exact kk _ B1 _ I J R
section
variable {w:World} {b s:Sl} {l:List Int} {B:List Nat} {n:Int} {K:Sl->WP}
def qz5(h:fQ w b l B)(u:l.length<=1000)(C:∀s B' w',fQ w' s (l++bw 2 n) B'->Fr B w w'->(∀b∈B',b∈B\/w.heap.size<=b)->K s w'):cW 135 [b.v,.int .u16 n,.i 2] dh w K:=
 qpm (Eo h (k:=2) oM u oM C)
def qz6(h:fQ w b l B)(C:l.length<=1000)(E:∀s B' w',fQ w' s (l++bw 4 n) B'->Fr B w w'->(∀b∈B',b∈B\/w.heap.size<=b)->K s w'):cW 133 [b.v,.u n,.i 4] dh w K:=
 qpn (Eo h (k:=4) oM C oM E)
def qz7(h:fQ w b l B)(u:l.length<=1000)(C:∀s B' w',fQ w' s (l++bw 8 n) B'->Fr B w w'->(∀b∈B',b∈B\/w.heap.size<=b)->K s w'):cW 134 [b.v,.int .u64 n,.i 8] dh w K:=
 qpo (Eo h (k:=8) oM u oM C)
def Cd:∀l:List iV,(l.flatMap iG).length=16*l.length
 | []=>rfl
 | x::l=>by rw[yH,zF,lT,Cd l,yI];omega
def qqR{I:Sl->List Int->WP}(hI:I b l w)(hf:∀s l w w',I s l w->Fr [] w w'->I s l w')(C:dZ iZ 2 [] w t ids)(hl:ids.length<=5)(J:∀(i:Nat) s l' w1 (a:Sl) x (K:Sl->WP),i<ids.length->ids[i]?=some x->l'=l++(ids.take i).flatMap iG->I s l' w1->dZ iZ 2 [] w1 t ids->eh [] w1 a (iG x)->(∀R w2,I R (l'++iG x) w2->dZ iZ 2 [] w2 t ids->K R w2)-> Pt.run dh ((Builtin.append_ #[101,101] 101 #[s.v,a.v]).run Tryz.prog w1) K)(kk:∀s w',I s (l++ids.flatMap iG) w'->K s w'):cW 103 [b.v,t.v] dh w K:=by refine qou ?_;have U:=C.1;refine iU (fun q w'=>∃i:Nat,q.2=i/\i<=ids.length/\I q.1 (l++(ids.take i).flatMap iG) w'/\dZ iZ 2 [] w' t ids) (fun q _=>ids.length-q.2.toNat) ⟨0,rfl,yX _,by rw[take_zero,flatMap_nil,xH];exact hI,C⟩ ?_;rintro⟨s,x⟩ w1 ⟨i,V,hi,G,r1⟩ X hX;dsimp only at V G⊢;subst V;apply dW<;>intro E;have E:=zC E;have u:i<ids.length:=oJ;refine dZ.qT (x:=ids[i]) (y:=ids[i]) r1 i rfl (zA u) rfl rfl<|oB (oE [] w1) fun r w2 e2 f2 h=>h.sz 0 rfl #[.int .u64 ids[i].1,.int .u64 ids[i].2] fun w3 h _=>oC h 0 rfl (ids[i].1,ids[i].2) rfl<|DW fun r4 w4 h4 f4 _ _=>?_;have f:=h.fr.trans f4;refine J i _ _ _ ⟨pW r4,16,16⟩ ids[i] _ u (zA u) rfl (hf _ _ _ _ G f) (r1.q7 f) h4.rd fun s5 w5 h5 r5=>?_;rw[gg _ oJ];refine hX _ _ ⟨i+1,rfl,u,?_,r5⟩ oN;rw[yG u,yQ,<- zV,flatMap_singleton];exact h5;have E:=zB E;have u:i=ids.length:=oJ;subst u;rw[xZ] at G;exact kk _ _ G
def qy2(u:dZ iZ 2 [] w t ids)(V:ids.length<=5)(kk:∀s B' w',fQ w' s (ids.flatMap iG) B'->Fr [] w w'->(∀b∈B',w.heap.size<=b)->K s w'): cW 103 [.slice none 0 0,t.v] dh w K:=by refine qqR (b:=dG) (l:=[]) (I:=fun s l w'=>∃B',fQ w' s l B'/\Fr [] w w'/\∀b∈B',w.heap.size<=b) ⟨[],eQ.nil _ _ _,.refl _ _,fun _ h=>nomatch h⟩ (fun s l w1 w2 ⟨B',J,E,G⟩ f=>⟨B',J.q7 f,E.trans f,G⟩) u V (fun i s l' w1 a x K hi _ R ⟨B1,J,E,G⟩ r1 ha k=>?_) fun s w' ⟨B',b,f,n⟩=>kk s B' w' b f n;have:l'.length<=80:=(by rw[R,xI,Cd,yL];omega);refine zp J ha (by rw[lT];omega) fun s2 B2 w2 b2 f2 n2=>?_;have C:Fr [] w w2:=E.j8 f2 fun b U=>.inr (G b U);exact k s2 w2 ⟨B2,b2,C,fun b U=>(n2 b U).elim (G b) (zL E.size)⟩ (u.q7 C)
end
def qA7{u:Nat}{C:List Int}{K:Int->WP}(I:w.heap[r]?=some (.cells #[s.v] T (0,0)))(J:eh S w s (l++C))(hS:r∈S)(hB:eF l)(hl:l.length=u)(h8:u<=8)(kk:∀V w',w'.heap[r]?=some (.cells #[V.v] T (0,0))->eh S w' V C->Fr [r] w w'->K (nP l) w'):cW 120 [dF r,.i u] dl w K:=by subst hl;refine qhA<|fv (iA I s rfl ?_);refine dZ.part J 0 l.length rfl rfl (yX _) oL fun s1 l1 r1 _=>?_;rw[xF,take_left' rfl] at r1;refine iU (fun x w'=>w'=w/\∃i:Nat,x.2=i/\i<=l.length/\x.1=nP (l.take i)) (fun x _=>((l.length:Int)-x.2).toNat) ⟨rfl,0,rfl,oJ,rfl⟩ ?_;rintro⟨y,ii⟩ w' ⟨rfl,i,G,hi,hy⟩ X hX;simp only at G hy;subst G hy;apply cD<;>intro R;have E:i<l.length:=oJ;refine eh.at r1 i rfl (zA E) ?_;rw[gg _ oJ,Dh hB E oJ];exact hX _ _ ⟨rfl,i+1,oL,oJ,rfl⟩ oN;have E:i=l.length:=oJ;subst E;rw[xZ];refine fv (iA I s rfl ?_);refine dZ.part J l.length (l++C).length rfl (by rw[xW,J.1]) oL (zM _) fun s2 l2 r2 _=>?_;rw[xZ,drop_left' rfl] at r2;refine fv (qP I #[s2.v] rfl rfl (zM _) fun w2 U f2=>?_);exact kk s2 w2 U (r2.q8 (f2.mono fun b h _=>by rw[zE.1 h];exact hS) fun b h=>.inl h) f2
def FK{h:Nat}{K:Int->WP}(G:w.heap[r]?=some (.cells #[s.v] T (0,0)))(I:eh S w s (bw h n++u))(J:r∈S)(E:0<=n/\n<256^h)(R:h<=8)(U:∀C w',w'.heap[r]?=some (.cells #[C.v] T (0,0))->eh S w' C u->Fr [r] w w'->K n w'):cW 120 [dF r,.i h] dl w K:=
 qA7 G I J (po _ _) (k8 _ _) R fun C w' V h2 h3=>by rw[uH h E.1 E.2];exact U C w' V h2 h3
def qBm{K:Int×Int->WP}(C:w.heap[r]?=some (.cells #[s.v] T (0,0)))(U:eh S w s (iG x++u))(G:r∈S)(I:tI x)(V:∀J w',w'.heap[r]?=some (.cells #[J.v] T (0,0))->eh S w' J u->Fr [r] w w'->K x w'):cW 119 [dF r] [.agg df] w K:=by refine qjc<|oB (D6 C) fun R w1 e1 f1 h=>?_;have E:eh (R::S) w1 s (iG x++u):=dZ.q8 (U.j6 (S':=R::S) fun b C=>(zG.1 C).elim (fun e=>.inr oJ) .inl) (Fr.mono f1 fun b h _=>nomatch h) fun b C=>.inl C;rw[iG,zV] at E;refine FK (h.at (i:=1) rfl) E (zN _ G) (by rw[p8];exact I.1) oM fun s2 w2 b2 r2 f2=>?_;have h:=Dp h 1 rfl f2 b2;refine FK (h.at (i:=1) rfl) r2 (zN _ G) (by rw[p8];exact I.2) oM fun s3 w3 b3 r3 f3=>?_;have h:=Dp h 1 rfl f3 b3;exact h.sz 0 rfl #[.int .u64 x.1,.int .u64 x.2] fun w4 h f4=>oC h 0 rfl x rfl<|V s3 w4 (h.at (i:=1) rfl) (r3.q8 (f4.mono fun b h _=>by rw[zE.1 h];exact mem_cons_self) fun b C=>.inl (zN _ C)) h.fr
def uX (m r:Nat):Array Value:=((List.range m).map fun i=>Value.pointer (some ⟨r,2*i,none⟩)).toArray
def qun{G:List Nat}{r9 I R:Nat}{P9 T7 T5:TypeId}{z:List Value}{E:WP}(hm:ids.length=m)(h5:m<=5)(hz:2*m<=z.length)(h:dQ S w0 w ((r9,.cells (uX m I) P9 (0,0))::(I,.cells z.toArray T7 (0,0))::(R,.cells #[s.v] T5 (0,0))::L))(J:eh G w s (ids.flatMap iG++u))(ad:R∈G)(ae:I∈G)(hW:∀x∈ids,tI x)(kk:∀U w',dQ S w0 w' ((r9,.cells (uX m I) P9 (0,0))::(I,.cells (ids.flatMap iZ++z.drop (2*m)).toArray T7 (0,0))::(R,.cells #[U.v] T5 (0,0))::L)->eh G w' U u->E w'): loop Int (fun X x w=>cond (decide (x<(m:Int))) (idx ⟨pW r9,m,m⟩ x 1 fun a=>ld .ptr a w fun p=>cW 119 [dF R] [.agg df] w fun t w'=>nn p fun a=>st a [.int .u64 t.1,.int .u64 t.2] w' fun w2=>X (wrap .i64 (x+1)) w2) (E w)) 0 w:=by
 refine iU (fun x w'=>∃i:Nat,∃U,x=i/\i<=m/\dQ S w0 w' ((r9,.cells (uX m I) P9 (0,0))::(I,.cells ((ids.take i).flatMap iZ++z.drop (2*i)).toArray T7 (0,0))::(R,.cells #[U.v] T5 (0,0))::L)/\eh G w' U ((ids.drop i).flatMap iG++u)) (fun x _=>m-x.toNat) ⟨0,s,rfl,yX _,h,J⟩ ?_;rintro x w1 ⟨i,s1,rfl,hi,h,J⟩ X hX;apply dW<;>intro V;have V:=zC V;have C:i<m:=oJ;refine uj oJ oJ ?_;rw[zJ,xT,xS];refine oA h 0 rfl (some ⟨I,2*i,none⟩) (by simp[uX,C];rfl) ?_;rw[zY (by omega:i<ids.length),yH,zV] at J;refine qBm (h.at (i:=2) rfl) J ad (hW _ (zX _)) fun s2 w2 b2 r2 f2=>?_;have h:=Dp h 2 rfl f2 b2;have hA:((ids.take i).flatMap iZ).length=2*i:=(by rw[pQ rJ,yL];omega);have hZ:z.drop (2*i)=(z.drop (2*i)).take 2++z.drop (2*(i+1)):=(by rw[show 2*(i+1)=2*i+2 by omega,<- xD,xE]);have af:dR ((ids.take i).flatMap iZ++z.drop (2*i)).toArray (2*i) (iZ ids[i])=((ids.take i).flatMap iZ++iZ ids[i]++z.drop (2*(i+1))).toArray:=by rw[hZ,<- zV,<- hA];exact sL (by rw[yL,yC,rJ];omega)
 refine fv (h.st' 1 rfl _ af rfl (by simp[hA];omega) fun w3 h f3=>?_);rw[gg _ oJ];refine hX _ _ ⟨i+1,s2,rfl,C,?_,r2.q8 (f3.mono fun b h _=>by rw[zE.1 h];exact ae) fun b hb=>.inl hb⟩ oJ;rw[yG (by omega:i<ids.length),yQ,flatMap_singleton];exact h;have V:=zB V;have C:i=m:=oJ;subst C;rw[zS oJ] at h;rw[drop_of_length_le oJ] at J;exact kk s1 w1 h J
def tp{G:List Nat}{I J u off:Nat}{R:Nat×Obj}{U T5:TypeId}{v:Value}{V:Int->Value}{C:List Int}{K:WP}(h:dQ S w0 w (R::(I,.cells cs U (0,0))::(J,.cells #[s.v] T5 (0,0))::L))(hr:eh G w s (bw u n++C))(hG:J∈G/\I∈G)(hn:0<=n/\n<256^u)(hv:V n=v)(E:Array Value)(kk:∀s' w',dQ S w0 w' (R::(I,.cells E U (0,0))::(J,.cells #[s'.v] T5 (0,0))::L)->eh G w' s' C->K w')(hs:dR cs off [v]=E:=by rfl)(h1:v.oneCell'=true:=by rfl)(hl:off+1<=cs.size:=by exact zO rfl)(h8:u<=8:=by decide): cW 120 [dF J,.i u] dl w fun x w'=>Pt.st (dg I off) [V x] w' K:=by refine FK (h.at (i:=2) rfl) hr hG.1 hn h8 fun s2 w2 b2 r2 f2=>?_;have h:=Dp h 2 rfl f2 b2;rw[hv];exact h.st' 1 rfl E hs (by simp[h1]) hl fun w3 h f3=>kk s2 w3 h (r2.q8 (f3.mono fun b h _=>by rw[zE.1 h];exact hG.2) fun b hb=>.inl hb)
end
section
abbrev u2:List Cell:=df
def Bf (w0 w:World) (s:Sl) (l:List Int) (n:Nat):Prop:=l.length=n/\∃B,fQ w s l B/\Fr [] w0 w/\∀b∈B,w0.heap.size<=b
section
variable {w0 w w':World} {s b:Sl} {l:List Int} {k:Nat} {n:Int} {K:Sl->WP}
def Bf.fr(h:Bf w0 w s l k):Fr [] w0 w:=h.2.elim fun _ h=>h.2.1
def Bf.len(h:Bf w0 w s l k):s.len=k:=h.1▸h.2.elim fun _ h=>h.1.len
def Bf.down(h:Bf w w' s l k)(f:Fr [] w0 w):Bf w0 w' s l k:=⟨h.1,h.2.elim fun B q=>⟨B,q.1,f.trans q.2.1,fun b u=>zL f.size (q.2.2 b u)⟩⟩
def Bf.new(h:Bf w0 w s l k):kE w0 w s l:=h.2.elim fun _ h=>vO h.1 h.2.2
def Bf.q7(h:Bf w0 w s l k)(f:Fr [] w w'):Bf w0 w' s l k:=h.2.elim fun B q=>⟨h.1,B,q.1.q7 f,q.2.1.trans f,q.2.2⟩
def Bf.of{B':List Nat}{l':List Int}(h:Bf w0 w b l k)(G:fQ w b l B)(C:∀x∈B,w0.heap.size<=x)(E:l'.length=m)(b':fQ w' s (l++l') B')(f:Fr B w w')(n':∀x∈B',x∈B\/w.heap.size<=x):Bf w0 w' s (l++l') (k+m):=
 ⟨by rw[zF,h.1,E],B',b',h.fr.j8 f fun x u=>.inr (C x u),fun x u=>(n' x u).elim (C x) (zL h.fr.size)⟩
def Bf.uE(h:Bf w0 w b l k)(u:∀s w',Bf w0 w' s (l++bw 2 n) (k+2)->K s w')(C:k<=1000:=by decide):cW 135 [b.v,.int .u16 n,.i 2] dh w K:=by obtain⟨B,q,f,E⟩:=h.2;exact qz5 q (by rw[h.1];exact C) fun s B' w' b' G n'=>u s w' (h.of q E (k8 _ _) b' G n')
def Bf.wU(h:Bf w0 w b l k)(C:∀s w',Bf w0 w' s (l++bw 4 n) (k+4)->K s w')(E:k<=1000:=by decide):cW 133 [b.v,.u n,.i 4] dh w K:=by obtain⟨B,q,f,G⟩:=h.2;exact qz6 q (by rw[h.1];exact E) fun s B' w' b' I n'=>C s w' (h.of q G (k8 _ _) b' I n')
def Bf.tz(h:Bf w0 w b l k)(u:∀s w',Bf w0 w' s (l++bw 8 n) (k+8)->K s w')(C:k<=1000:=by decide):cW 134 [b.v,.int .u64 n,.i 8] dh w K:=by obtain⟨B,q,f,E⟩:=h.2;exact qz7 q (by rw[h.1];exact C) fun s B' w' b' G n'=>u s w' (h.of q E (k8 _ _) b' G n')
def DU(u:w.heap[r]?=some (.cells (ids.flatMap iZ).toArray T (0,0)))(C:ids.length=m)(E:m<=5)(G:∀s w',Bf w w' s (ids.flatMap iG) (16*m)->K s w'): cW 103 [.slice none 0 0,.slice (pW r) m m] dh w K:=by subst C;have I:dZ iZ 2 [] w ⟨pW r,ids.length,ids.length⟩ ids:=eQ.jo rJ (eQ.fresh rJ u rfl (zM _) (by rw[size_toArray,pQ rJ];exact zM _) (zS (by rw[pQ rJ];exact zM _))) fun _ _ h=>nomatch h;exact qy2 I E fun s B w' b f n=>G s w' ⟨Cd _,B,b,f,n⟩
def dZ.max{α:Type}{enc:α->List Value}{k n:Nat}{w:World}{s:Sl}{l:List α}{hi:Int}{K:Sl->Prop}(h:dZ enc k S w s l)(R:hi=n)(J:n<=l.length)(h0:0<n)(U:∀C,C.len=n->dZ enc k S w C (l.take n)->K C):fD s none (some hi) (some hi) k K:=by obtain⟨h1,h2,E⟩:=h;subst R;unfold fD;refine⟨by simp;omega,U _ oL ⟨by simp;omega,oL,.inr ?_⟩⟩;rcases E with E|⟨V,o,cs,T,fr,ha,G,I,hc⟩;rw[E] at J;simp at J;omega;refine⟨V,o,cs,T,fr,?_,G,I,fun i x u=>?_⟩;simp only[xW,xV,zJ];rw[if_neg oO,ha];simp[Addr.q9];rw[xB] at u;split at u;exact hc i x u;cases u
end
def C5{x:Int}(h:IntKind.u64.has x):0<=x/\x<256^8:=by rw[p8];exact qt h
abbrev k7 (x:iV):Prop:=IntKind.u64.has x.1/\IntKind.u64.has x.2
def k7.ok(h:k7 x):tI x:=⟨qt h.1,qt h.2⟩
def qBh{a b c d:iV}(u:k7 a)(C:k7 b)(E:k7 c)(G:k7 d):∀x∈[a,b,c,d],tI x:=fun x h=>by simp at h;rcases h with rfl|rfl|rfl|rfl;exact u.ok;exact C.ok;exact E.ok;exact G.ok
def qAv{a b c d e:iV}(u:k7 a)(C:k7 b)(E:k7 c)(G:k7 d)(I:k7 e):∀x∈[a,b,c,d,e],tI x:=fun x J=>(zG.1 J).elim (fun h=>by rw[h];exact u.ok) (qBh C E G I x)
def kD (a:HL iT):iV:=(a.1,a.2.1)
def pq:HL iT->List Int:=fun (_,_,h,u,C,E,G,I,J,R,t,l,k,f,n)=>iG (h,u)++(iG (C,E)++(iG (G,I)++(iG (J,R)++(bw 8 t++(bw 4 l++(bw 2 k++(bw 2 f++bw 8 n)))))))
def pV (a:HL iT):List Int:=iG (kD a)++pq a
def E8(a:HL iT):(pq a).length=88:=by obtain⟨h,u,C,E,G,I,J,R,U,V,t,l,k,f,n⟩:=a;simp only[pq,zF,lT,k8]
def qrA(a:HL iT):(pV a).length=104:=by rw[pV,zF,lT,E8]
def qwd(kk:∀s w',Bf w w' s (pV a) 104->K s w'): cW 99 [.agg (HL.mk iT a).toArray] dh w K:=by
 obtain⟨u,C,E,G,I,J,R,U,V,d1,t,l,k,f,n⟩:=a;refine qja<|oB (oE [] w) fun r1 w1 e1 f1 h=>oC h 0 rfl (u,C) rfl (oC h 0 rfl (E,G) rfl (oC h 0 rfl (I,J) rfl (oC h 0 rfl (R,U) rfl (oC h 0 rfl (V,d1) rfl ?_))));refine oB h fun r8 w2 e2 f2 h=>DU (ids:=[(u,C),(E,G),(I,J),(R,U),(V,d1)]) (h.at (i:=0) rfl) rfl oM fun s3 w3 q=>?_;have h3:=(h.q7 q.fr).drew;refine oA h3 1 rfl t rfl (oA h3 1 rfl l rfl ?_);refine (q.q7 (Fr.refl [] w3).drew).tz fun s4 w4 q=>ig ((h.q7 q.fr).cell 1 rfl rfl) (q.wU fun s5 w5 q=>?_);have h5:=(h.q7 q.fr).drew;refine oA h5 1 rfl k rfl (oA h5 1 rfl f rfl (oA h5 1 rfl n rfl ?_));refine (q.q7 (Fr.refl [] w5).drew).uE fun s6 w6 q=>ko ((h.q7 q.fr).cell 1 rfl rfl) ((h.q7 q.fr).cell 1 rfl rfl) (q.uE fun s7 w7 q=>?_);refine ig ((h.q7 q.fr).cell 1 rfl rfl) (q.tz fun s8 w8 q=>?_);have e:[(u,C),(E,G),(I,J),(R,U),(V,d1)].flatMap iG++bw 8 t++bw 4 l++bw 2 k++bw 2 f++bw 8 n=pV (u,C,E,G,I,J,R,U,V,d1,t,l,k,f,n):=by simp only[yH,flatMap_nil,pV,kD,pq,zV,xH,xI]
 rw[e] at q;exact kk s8 w8 (q.down (f1.trans f2))
def quF{K:Sl×Sl->WP}(G:∀s t w',kE w w' s (iG (kD a))->kE w w' t (pq a)->Fr [] w w'->K (s,t) w'): cW 52 [.agg (HL.mk iT a).toArray] dq w K:=by refine qif<|oB (oE [] w) fun U w1 e1 u h=>oC h 0 rfl a rfl<|qwd fun s w2 q=>?_;have V:=qrA a;have I:=q.len;refine dZ.max (n:=16) q.new rfl oJ oM fun J _ C=>dZ.part q.new 16 104 rfl (by rw[xW,I]) oM oJ fun R _ E _=>?_;rw[pV,take_left' (lT _)] at C;rw[zS oJ,pV,drop_left' (lT _)] at E;exact G J R _ (kE.up C u.size) (kE.up E u.size) ((u.trans q.fr).drew)
def qv6{K:HL iT×Bool->WP}(hr:eh [] w s (pV a))(ha:jE iT a)(kk:∀w',Fr [] w w'->K (a,true) w'): cW 100 [s.v] [.agg iT,.one .bool] w K:=by
 refine qi9 ?_;have hl:=hr.1;rw[qrA] at hl;obtain⟨C,E,G,I,J,R,U,V,d0,d1,t,l,k,f,n⟩:=a;obtain⟨ad,ae,af,ag,ah,ai,aj,ak,al,am,ht,u,hk,hf,hn⟩:=ha;refine oB (oE [] w) fun r1 w1 e1 f1 h=>cond_false (by rw[hl];rfl)<|oB h fun r5 w2 e2 f2 h=>oB h fun r7 w3 e3 f3 h=>oB h fun r9 w4 e4 f4 h=>?_;have hG:eh [r5,r7,r1] w4 s ([(C,E),(G,I),(J,R),(U,V),(d0,d1)].flatMap iG++(bw 8 t++(bw 4 l++(bw 2 k++(bw 2 f++(bw 8 n++[])))))):=by
  have:=dZ.q7 (hr.j6 (S':=[r5,r7,r1]) fun b hb=>.inr (by have:=f1.size;have:=f2.size;simp at hb;omega)) h.fr
  simpa only[yH,flatMap_nil,pV,kD,pq,zV,xH,xI] using this
 refine qun (m:=5) (P9:=_) rfl oM oM h hG oL oL (qAv ⟨ad,ae⟩ ⟨af,ag⟩ ⟨ah,ai⟩ ⟨aj,ak⟩ ⟨al,am⟩) fun s5 w5 h an=>?_;let A:Int->Int->Int->Int->Int->Array Value:=fun t l k f n=>(HL.mk iT (C,E,G,I,J,R,U,V,d0,d1,t,l,k,f,n)).toArray;exact tp h an oL (C5 ht) rfl (A t 0 0 0 0) fun s6 w6 h r6=>tp h r6 oL (zh u) (congrArg _ (lN l (zh u))) (A t l 0 0 0) fun s7 w7 h r7=>tp h r7 oL (vc hk) (congrArg _ (Dz k (vc hk))) (A t l k 0 0) fun s8 w8 h r8=>tp h r8 oL (vc hf) (congrArg _ (Dz f (vc hf))) (A t l k f 0) fun s9 w9 h r9=>tp h r9 oL (C5 hn) rfl (A t l k f n) fun aJ aK h aL=>oC h 1 rfl (C,E,G,I,J,R,U,V,d0,d1,t,l,k,f,n) rfl<|h.st' 3 rfl _ (kj rfl) rfl (zM _) fun ao h aM=>oC h 3 rfl (C,E,G,I,J,R,U,V,d0,d1,t,l,k,f,n) rfl<|kk ao h.fr
end
def qAs{m:List Int}(E:w.heap[r]?=some (.cells #[s.v,t.v] T (0,0)))(G:eh [] w s l)(I:eh [] w t m)(U:l.length+m.length<=1000)(J:∀u w',eh [] w' u (l++m)->Fr [] w w'->K u w'):cW 88 [.slice (pW r) 2 2] dh w K:=by have R:jg [] w ⟨pW r,2,2⟩ [(s,l),(t,m)]:=⟨eQ.jo u9 (eQ.fresh u9 E rfl (zM _) (zM _) rfl) (fun _ _ h=>nomatch h),fun p C=>by rcases zG.1 C with rfl|C;exact G;rw[zE.1 C];exact I⟩;have e:(ga [(s,l),(t,m)]).flatten=l++m:=(by simp[ga]);refine qpE (s:=⟨pW r,2,2⟩) R (zO rfl) (by rw[e,zF];omega) fun u B w' b f n=>J u w' ?_ f;rw[e] at b;exact b.jo kW fun _ _ h=>nomatch h
def quI{K:HL iT×Bool->WP}(C:eh [] w s (iG (kD a)))(G:eh [] w t (pq a))(I:jE iT a)(J:∀w',Fr [] w w'->K (a,true) w'): cW 56 [s.v,t.v] [.agg iT,.one .bool] w K:=by refine qig ?_;have E:=C.1;rw[lT] at E;refine oB (oE [] w) fun r1 w1 e1 f1 h=>cond_false (by rw[E];rfl) (oB h fun r5 w2 e2 f2 h=>?_);refine qAs (h.at (i:=0) rfl) (C.q7 h.fr) (G.q7 h.fr) (by rw[lT,E8];decide) fun u w3 R U=>qv6 R I fun w4 V=>?_;have h:=h.q7 (U.trans V);exact h.st' 1 rfl _ (kj rfl) rfl (zM _) fun w5 h _=>oC h 1 rfl a rfl (J w5 h.fr)
def pg (t:HL ll):iV:=(t.1,t.2.1)
def oX:HL ll->List Int:=fun (_,_,h,u,C,E,G,I,J,R,t,o,l,k,f,n)=>iG (h,u)++(iG (C,E)++(iG (G,I)++(iG (J,R)++(bw 8 t++(bw 4 o++(bw 4 l++(bw 2 k++(bw 2 f++bw 8 n))))))))
def pd (a:HL ll):List Int:=iG (pg a)++oX a
def vW(a:HL ll):(oX a).length=92:=by obtain⟨h,u,C,E,G,I,J,R,U,V,t,o,l,k,f,n⟩:=a;simp only[oX,zF,lT,k8]
def qsY(a:HL ll):(pd a).length=108:=by rw[pd,zF,lT,vW]
def qwf{a:HL ll}(kk:∀s w',Bf w w' s (pd a) 108->K s w'): cW 102 [.agg (HL.mk ll a).toArray] dh w K:=by
 obtain⟨u,C,E,G,I,J,R,U,V,d1,t,o,l,k,f,n⟩:=a;refine qih<|oB (oE [] w) fun r1 w1 e1 f1 h=>oC h 0 rfl (u,C) rfl (oC h 0 rfl (E,G) rfl (oC h 0 rfl (I,J) rfl (oC h 0 rfl (R,U) rfl (oC h 0 rfl (V,d1) rfl ?_))));refine oB h fun r8 w2 e2 f2 h=>DU (ids:=[(u,C),(E,G),(I,J),(R,U),(V,d1)]) (h.at (i:=0) rfl) rfl oM fun s3 w3 q=>?_;have h3:=(h.q7 q.fr).drew;refine oA h3 1 rfl t rfl (oA h3 1 rfl o rfl (oA h3 1 rfl l rfl ?_));refine (q.q7 (Fr.refl [] w3).drew).tz fun s4 w4 q=>ko ((h.q7 q.fr).cell 1 rfl rfl) ((h.q7 q.fr).cell 1 rfl rfl) (q.wU fun s5 w5 q=>?_);refine ig ((h.q7 q.fr).cell 1 rfl rfl) (q.wU fun s5 w5 q=>?_);have h5:=(h.q7 q.fr).drew;refine oA h5 1 rfl k rfl (oA h5 1 rfl f rfl (oA h5 1 rfl n rfl ?_));refine (q.q7 (Fr.refl [] w5).drew).uE fun s6 w6 q=>ko ((h.q7 q.fr).cell 1 rfl rfl) ((h.q7 q.fr).cell 1 rfl rfl) (q.uE fun s7 w7 q=>?_);refine ig ((h.q7 q.fr).cell 1 rfl rfl) (q.tz fun s8 w8 q=>?_);have e:[(u,C),(E,G),(I,J),(R,U),(V,d1)].flatMap iG++bw 8 t++bw 4 o++bw 4 l++bw 2 k++bw 2 f++bw 8 n=pd (u,C,E,G,I,J,R,U,V,d1,t,o,l,k,f,n):=by simp only[yH,flatMap_nil,pd,pg,oX,zV,xH,xI]
 rw[e] at q;exact kk s8 w8 (q.down (f1.trans f2))
def qv7{a:HL ll}{K:HL ll×Bool->WP}(hr:eh [] w s (pd a))(ha:jE ll a)(kk:∀w',Fr [] w w'->K (a,true) w'): cW 101 [s.v] [.agg ll,.one .bool] w K:=by
 refine qie ?_;have hl:=hr.1;rw[qsY] at hl;obtain⟨E,G,I,J,R,U,V,c1,d0,d1,t,o,l,k,f,n⟩:=a;obtain⟨ad,ae,af,ag,ah,ai,aj,ak,al,am,ht,ho,C,hk,hf,hn⟩:=ha;refine oB (oE [] w) fun r1 w1 e1 f1 h=>cond_false (by rw[hl];rfl)<|oB h fun r5 w2 e2 f2 h=>oB h fun u w3 e3 f3 h=>oB h fun r9 w4 e4 f4 h=>?_;have hG:eh [r5,u,r1] w4 s ([(E,G),(I,J),(R,U),(V,c1),(d0,d1)].flatMap iG++(bw 8 t++(bw 4 o++(bw 4 l++(bw 2 k++(bw 2 f++(bw 8 n++[]))))))):=by
  have:=dZ.q7 (hr.j6 (S':=[r5,u,r1]) fun b hb=>.inr (by have:=f1.size;have:=f2.size;simp at hb;omega)) h.fr
  simpa only[yH,flatMap_nil,pd,pg,oX,zV,xH,xI] using this
 refine qun (m:=5) (P9:=_) rfl oM oM h hG oL oL (qAv ⟨ad,ae⟩ ⟨af,ag⟩ ⟨ah,ai⟩ ⟨aj,ak⟩ ⟨al,am⟩) fun s5 w5 h an=>?_;let A:Int->Int->Int->Int->Int->Int->Array Value:=fun t o l k f n=>(HL.mk ll (E,G,I,J,R,U,V,c1,d0,d1,t,o,l,k,f,n)).toArray;exact tp h an oL (C5 ht) rfl (A t 0 0 0 0 0) fun s6 w6 h r6=>tp h r6 oL (zh ho) (congrArg _ (lN o (zh ho))) (A t o 0 0 0 0) fun s7 w7 h u=>tp h u oL (zh C) (congrArg _ (lN l (zh C))) (A t o l 0 0 0) fun s7 w7 h u=>tp h u oL (vc hk) (congrArg _ (Dz k (vc hk))) (A t o l k 0 0) fun s8 w8 h r8=>tp h r8 oL (vc hf) (congrArg _ (Dz f (vc hf))) (A t o l k f 0) fun s9 w9 h r9=>tp h r9 oL (C5 hn) rfl (A t o l k f n) fun aL aM h aN=>oC h 1 rfl (E,G,I,J,R,U,V,c1,d0,d1,t,o,l,k,f,n) rfl<|h.st' 3 rfl _ (kj rfl) rfl (zM _) fun ao h aO=>oC h 3 rfl (E,G,I,J,R,U,V,c1,d0,d1,t,o,l,k,f,n) rfl (kk ao h.fr)
def dZ.uU{b n c o cap:Nat}{L:List Int}(h:eh S w ⟨pW b,n,c⟩ L)(E:o+m<=L.length)(G:m<=cap)(h0:0<m):eh S w ⟨some (dg b o),m,cap⟩ ((L.drop o).take m):=by
 obtain⟨h1,h2,C⟩:=h;refine⟨by simp;omega,G,.inr ?_⟩;rcases C with C|⟨bl,o',I,T,J,R,U,V,hx⟩;subst C;simp at E;omega;cases R;refine⟨b,o,I,T,J,rfl,U,V,fun i x u=>?_⟩;rw[xB] at u;split at u;rw[xA] at u
 have:=hx (o+i) x u
 rw[<- this];congr 2;omega;cases u
def qzv{C n c o:Nat}{ys:List Int}{a:Sl}(R:w.heap[C]?=some (.cells cs T (0,0)))(h0:w0.heap.size<=C)(hn:n=l.length)(hc:n<=c)(U:c<=cs.size)(hl:cs.toList.take l.length=l.map (Value.int .u8))(f0:Fr [] w0 w)(ho:0<o/\o<n)(hr:eh [] w a ys)(hy:l.length+ys.length<=1000)(kk:∀s' w',kE w0 w' s' (l.drop o++ys)->kE w0 w' ⟨pW C,o,o⟩ (l.take o)->Fr [C] w w'->K s' w'): Pt.run dh ((Builtin.append_ #[101,101] 101 #[.slice (some (dg C o)) (n-o) (c-o),a.v]).run Tryz.prog w) K:=by
 obtain⟨i,hi,hz,G,ae⟩:=uO;subst hn;have af:=hr.1;have V:fQ w ⟨pW C,l.length,c⟩ l [C]:=eQ.one (e:=Value.int .u8) (fun _=>rfl) R rfl hc U hl;have hR:kE w0 w ⟨pW C,l.length,c⟩ l:=vO V fun b h=>by rw[zE.1 h];exact h0
 have E:=tg (P:=Tryz.prog) (tx:=101) (e':=5) hr kW (fun x u hu=>by rw[zE.1 hu];rfl) oK;rw[qX] at E;have aa:eh [] w ⟨some (dg C o),l.length-o,c-o⟩ (l.drop o):=by
  have:=dZ.uU (o:=o) (m:=l.length-o) (cap:=c-o) hR.rd oJ oJ oJ
  rwa[zS oL] at this
 by_cases hroom:l.length+ys.length<=c;have az:=E.newsLen;have hk:(l.length-o)+a.len<=c-o:=oJ;have e0:o+(l.length-o)*1=l.length:=oJ;refine t6 ⟨_,_,_⟩ _ (run_append_room_src w 101 101 101 5 i oK hi C o (l.length-o) (c-o) _ a.len _ (by rw[G];exact E) hk (fun j hj=>?_) (fun j hj=>?_)) ?_;rw[G,e0,ji R];rw[zK] at hj;have:l.length+j<cs.size:=oJ;simp[this];simp[World.frozen?,R];rw[wt R,G,e0];have I:(gR w C (.cells (dR cs l.length (ys.map (Value.int .u8))) T (0,0))).heap[C]?=some (.cells (dR cs l.length (ys.map (Value.int .u8))) T (0,0)):=(by rw[om _ _ _ _ (eZ R),if_pos rfl]);have J:fQ _ ⟨pW C,(l++ys).length,c⟩ (l++ys) [C]:=eQ.one (e:=Value.int .u8) (fun _=>rfl) I rfl (by rw[zF];exact hroom) (by rw[mR];exact U) (by rw[pN _ _ _ oO,hl,xN,zF,take_append_of_le_length oL];exact zS oL);have ac:kE w0 _ ⟨pW C,(l++ys).length,c⟩ (l++ys):=vO J fun b h=>by rw[zE.1 h];exact h0
 refine kk _ _ ?_ ?_ (sh (eZ R) _)
 have:=dZ.uU (o:=o) (m:=l.length-o+a.len) (cap:=c-o) ac (by rw[zF];omega) hk oJ
 rwa[drop_append_of_le_length oJ,zS oO] at this
 have:=dZ.uU (o:=0) (m:=o) (cap:=o) ac (by rw[zF];omega) (zM _) ho.1
 rwa[xF,take_append_of_le_length oJ] at this;have ag:=aa.cells kW rfl;refine qtQ (m:=a.len) (e:=5) (olds:=(l.drop o).map (Value.int .u8)) (news:=ys.map (Value.int .u8)) oK hi hz G rfl oL (fun j u hj=>?_) E oJ (by rw[ae];omega) oJ fun b' cs c' w' eb I f ah ad ht=>?_;rw[<- qX] at hj;exact ag j u hj;have ai:fQ w' ⟨pW b',l.length-o+a.len,c'⟩ (l.drop o++ys) [b']:=eQ.one (e:=Value.int .u8) (fun _=>rfl) I oO ah ad (by rw[zF,yC,<- af,ht,xN]);refine kk _ w' (vO ai fun b h=>by rw[zE.1 h,eb];exact f0.size) ?_ (f.mono fun _ h _=>nomatch h)
 have:=dZ.uU (o:=0) (m:=o) (cap:=o) (hR.q7 f) oJ (zM _) ho.1
 rwa[xF] at this
def qrz{K:iV×Bool->WP}(E:eh [] w s (iG x))(C:tI x)(V:∀w',Fr [] w w'->K (x,true) w'): cW 42 [s.v] [.agg df,.one .bool] w K:=by refine qs2 ?_;have R:=E.1;rw[lT] at R;refine oB (oE [] w) fun r1 w1 e1 f1 h=>cond_false (by rw[R];rfl) (oB h fun r5 w2 e2 f2 h=>?_);have l0:=k8 8 x.1;have l1:=k8 8 x.2;refine iU (fun q w'=>∃i:Nat,q=i/\i<=8/\dQ [] w w' [(r5,.cells #[.int .u64 (nP ((bw 8 x.1).take i)),.int .u64 (nP ((bw 8 x.2).take i))] ut (0,0)),(r1,.cells cX ut (0,0))]) (fun q _=>8-q.toNat) ⟨0,rfl,oM,h⟩ ?_;rintro q w3 ⟨i,rfl,hi,h⟩ X hX;apply cD<;>intro G;have u:i<8:=oJ;have I:(iG x)[i]?=some ((bw 8 x.1)[i]' oJ):=(by rw[iG,yZ oJ,zA oJ]);have J:(iG x)[8+i]?=some ((bw 8 x.2)[i]' oJ):=(by rw[iG,yY oJ,l0,vD,zA oJ]);rw[gg (8+(i:Int)) oJ,gg ((i:Int)+1) oJ];refine oA h.drew 0 rfl _ rfl (eh.at (E.q7 h.drew.fr) i rfl I ?_);rw[Dh (po _ _) oJ u];refine h.drew.sz 0 rfl #[.int .u64 (nP ((bw 8 x.1).take (i+1))),.int .u64 (nP ((bw 8 x.2).take i))] fun U h _=>oA h.drew 0 rfl _ rfl (eh.at (E.q7 h.drew.fr) (8+i) oJ J ?_);rw[Dh (po _ _) oJ u];exact h.drew.sz 0 rfl #[.int .u64 (nP ((bw 8 x.1).take (i+1))),.int .u64 (nP ((bw 8 x.2).take (i+1)))] fun w5 h _=>hX _ _ ⟨i+1,rfl,u,h⟩ oJ;have u:i=8:=oJ;subst u;rw[zS oJ,zS oJ,uH 8 C.1.1 (by rw[p8];exact C.1.2),uH 8 C.2.1 (by rw[p8];exact C.2.2)] at h;refine oC h 0 rfl x rfl (h.st' 1 rfl _ (kj rfl) rfl (zM _) fun U h _=>?_);exact oC h 1 rfl x rfl (V U h.fr)
def qAm{K:Int->WP}(h:eh S w s (bw 8 n))(u:np n)(C:K n w):cW 85 [s.v] dl w K:=
 quL h (po _ _) (by rw[k8];decide) (by rw[uH 8 u.1 (by rw[p8];exact u.2)];exact C)
def qnr{m:Int}{K:Int×Int×Bool->WP}(h:eh [] w s (kN n m))(G:np n)(I:np m)(J:K (n,m,true) w.drew): cW 48 [s.v] dx w K:=by refine qqW ?_;have u:=h.1;rw[wN] at u;refine cond_false (by rw[u];rfl) (dZ.part h 0 8 rfl rfl oM (by rw[wN];decide) fun R _ C _=>dZ.part h 8 16 rfl (by rw[xW,u]) oM (by rw[wN];decide) fun U _ E _=>?_);rw[kN,xF,take_left' (k8 _ _)] at C;rw[zS (by rw[wN];decide),kN,drop_left' (k8 _ _)] at E;exact qAm C.drew G (qAm E.drew I J)
def qns{e i0 u:Int}{K:Sl×Sl->WP}(I:∀s t w',kE w w' s (kN e n)->kE w w' t (iG (i0,u))->Fr [] w w'->K (s,t) w'): cW 60 [.agg #[.int .u64 e,.int .u64 n,.int .u64 i0,.int .u64 u]] dq w K:=by refine qlJ<|oB (oE [] w) fun V w1 e1 C h=>oA h.drew 0 rfl e rfl (oA h.drew 0 rfl n rfl (oC h.drew 0 rfl (i0,u) rfl ?_));refine qtJ fun s w2 J E=>ig ((h.drew.q7 E).cells 0 rfl rfl) (uB fun r3 R U G=>?_);have f:=C.drew.trans E;exact I s _ R ((J.up C.size).q7 G) (U.up f.size) (f.trans G)
def quJ{e:Int}{K:(Int×Int×Int×Int)×Bool->WP}(C:eh [] w s (kN e n))(E:eh [] w t (iG x))(G:np e)(I:np n)(J:tI x)(R:∀w',Fr [] w w'->K ((e,n,x.1,x.2),true) w'): cW 36 [s.v,t.v] [.agg [.int .u64,.int .u64,.int .u64,.int .u64],.one .bool] w K:=by refine qlL<|oB (oE [] w) fun r1 w1 e1 u h=>qnr (C.q7 u) G I<|qrz (E.q7 u.drew) J fun w2 U=>oB (h.drew.q7 U) fun r7 w3 e3 f3 h=>h.sz 0 rfl #[.int .u64 x.1,.int .u64 x.2] fun V h _=>ui false V (fun M hM=>cond_false rfl hM) (cond_false rfl ?_);refine oC h 0 rfl x rfl (h.sz 1 rfl #[.int .u64 e,.int .u64 n,.int .u64 x.1,.int .u64 x.2] fun w5 h _=>?_);exact oC h 1 rfl (e,n,x.1,x.2) rfl (R w5 h.fr)
abbrev yv:TypeId:=79
abbrev Kp:=HL ll×iV
def nO (k:Kp):List Value:=HL.mk ll k.1++iZ k.2
def sR (k:Kp):List Int:=oX k.1++iG k.2
def ol(k:Kp):(nO k).length=18:=rfl
def xm(k:Kp):(sR k).length=108:=by rw[sR,zF,vW,lT]
def tf:Kp:=((0,0,0,0,0,0,0,0,0,0,0,0,0,0,0,0),(0,0))
def yb:((Tryz.prog.info? yv).bind (·.zero)).map (fun z=>z.cells.toList)=some (nO tf):=by kernel_rfl
def qya{k:Kp}(w:World):(Instr.build yv #[(0,.agg (HL.mk ll k.1).toArray),(1,.agg #[.int .u64 k.2.1,.int .u64 k.2.2])]).run Tryz.prog w=.ok (.agg (nO k).toArray) w:=by obtain⟨z,u,h⟩:=yT.1 yb;exact qoy (P:=Tryz.prog) (a:=.agg (HL.mk ll k.1).toArray) (b:=.agg #[.int .u64 k.2.1,.int .u64 k.2.2]) (o1:=16) (s0:=16) (s1:=2) u oK (fun w=>oK) rfl rfl rfl (by rw[<- Array.length_toList,h];rfl) w
def quH{k:Kp}{K:Sl×Sl->WP}(kk:∀s t w',kE w w' s (iG (pg k.1))->kE w w' t (sR k)->Fr [] w w'->K (s,t) w'): cW 59 [.agg (nO k).toArray] dq w K:=by
 refine qhy<|oB (oE [] w) fun r1 w1 e1 f1 h=>oC h 0 rfl k.1 rfl (qwf fun s w2 q=>?_);have V:=qsY k.1;obtain⟨B,hb,f2,hB⟩:=q.2;obtain⟨u,cs,T,rfl,ha,G,hn,hc,J,ht⟩:=hb.ptr (by intro h;rw[h] at V;simp at V);obtain⟨sa,sn,sc⟩:=s;dsimp only at ha hn hc J;subst ha;have R:w1.heap.size<=u:=hB u (zE.2 rfl);rw[qX] at ht;unfold fD;refine⟨by simp;omega,by simp;omega,?_⟩;simp only[xW,xV];rw[if_neg oO,if_neg oL];simp only[Option.map_some,Addr.q9];have h:=(h.q7 f2).drew;refine oC h 0 rfl k.2 rfl (oB h fun r9 w3 e3 f3 h=>?_);have E:dZ iZ 2 [u] w3 ⟨pW r9,1,1⟩ [k.2]:=eQ.jo rJ (eQ.fresh rJ (h.at (i:=0) rfl) rfl (zM _) (zM _) rfl) fun b hb h=>by have:=zE.1 hb;have:=zE.1 h;have:u<w2.drew.heap.size:=eZ G;omega
 have ac:Fr [] w2 w3:=(Fr.refl [] w2).drew.trans f3;have hV:(pd k.1).drop 16=oX k.1:=(by rw[pd,drop_left' (lT _)]);have hI:(pd k.1).take 16=iG (pg k.1):=(by rw[pd,take_left' (lT _)]);have ad:oX k.1≠sR k:=fun e=>by have:=congrArg List.length e;rw[vW,xm] at this;omega
 refine qqR (b:=⟨some (dg u 16),sn-16,sc-16⟩) (l:=oX k.1) (I:=fun s l' w'=>(s=⟨some (dg u 16),sn-16,sc-16⟩/\l'=oX k.1/\Fr [] w3 w')\/(l'=sR k/\kE w w' s (sR k)/\kE w w' ⟨pW u,16,16⟩ (iG (pg k.1))/\Fr [] w w')) (.inl ⟨rfl,rfl,.refl _ _⟩) (fun s l w' aD q f=>q.elim (fun q=>.inl ⟨q.1,q.2.1,q.2.2.trans f⟩) fun q=>.inr ⟨q.1,q.2.1.q7 f,q.2.2.1.q7 f,q.2.2.2.trans f⟩) (E.j6 fun _ h=>nomatch h) (zO rfl) (fun i s l' w4 a x K' hi hx C q r4 ra k'=>?_) fun s w4 q=>?_;have ag:i=0:=(by simp at hi;exact hi);subst ag;cases hx;rcases q with ⟨rfl,C,U⟩|⟨e,_⟩;have ah:w4.heap[u]?=some (.cells cs T (0,0)):=(by rw[(ac.trans U).block u (eZ G) (fun h=>nomatch h)];exact G);refine qzv (w0:=w) (o:=16) ah (zL f1.size R) hn hc J ht (h.fr.trans U) oJ ra (by rw[V,lT];decide) fun s5 w5 h5 h6 f5=>?_;rw[hV] at h5;rw[hI] at h6;rw[C] at k';exact k' s5 w5 (.inr ⟨rfl,h5,h6,(h.fr.trans U).j8 f5 fun b h=>.inr (by rw[zE.1 h];exact zL f1.size R)⟩) (((E.q7 U).q8 f5 fun b h=>.inl h).j6 fun _ h=>nomatch h);rw[e] at C;exact absurd (oP C.symm) ad;rcases q with ⟨_,e,_⟩|⟨_,q1,q2,q3⟩
 have:=congrArg List.length e
 rw[zF,Cd,vW] at this;simp at this;exact kk _ s w4 q2 q1 q3
def ti (k:Kp):Prop:=jE ll k.1/\k7 k.2
def quK{k:Kp}{K:List Value×Bool->WP}(J:eh [] w s (iG (pg k.1)))(E:eh [] w t (sR k))(R:ti k)(kk:∀w',Fr [] w w'->K (nO k,true) w'): cW 58 [s.v,t.v] dw w K:=by refine qhz ?_;have U:=J.1;rw[lT] at U;have C:=E.1;rw[xm] at C;have hz:=yb;refine oI (oE [] w) hz fun r1 w1 e1 h=>ui false w1 (fun M hM=>cond_false (by rw[U];rfl) (by rw[C];exact hM)) (cond_false rfl ?_);refine dZ.part (E.q7 h.fr) 0 92 rfl rfl oM (by rw[xm];decide) fun s2 _ V _=>?_;rw[xF,sR,take_left' (vW _)] at V;refine oB h fun r3 w3 e3 f3 h=>qAs (h.at (i:=0) rfl) (J.q7 h.fr) (V.q7 f3) (by rw[lT,vW];decide) fun u w4 hu f4=>qv7 hu R.1 fun w5 f5=>oB (h.q7 (f4.trans f5)) fun r6 w6 e6 f6 h=>h.st' 0 rfl _ (kj rfl) rfl (zM _) fun w7 h _=>dZ.part (E.q7 h.fr) 92 108 rfl (by rw[xW,C]) oM (by rw[xm];decide) fun s8 _ h8 _=>?_;rw[zS (by rw[xm];decide),sR,drop_left' (vW _)] at h8;refine qrz h8 R.2.ok fun w9 f9=>oB (h.q7 f9) fun r9 aj ak al h=>h.st' 0 rfl _ (kj rfl) rfl (zM _) fun G h _=>oC h 1 rfl k.1 rfl (oC h 0 rfl k.2 rfl (qm (ts:=[gN.kF]) (nO k) (qya G) (mP (ol k) ?_)));exact h.st' 3 rfl _ (kj rfl) rfl (zM _) fun I h _=>nJ (h.at (i:=3) rfl) (nO k) (ol k) rfl (kk I h.fr)
def sw:HL sD->List Int:=fun (h,u,C,E,G,I,J,R,n)=>iG (h,u)++(iG (C,E)++(iG (G,I)++iG (J,R)))
def mQ (a:HL sD):Int:=a.2.2.2.2.2.2.2.2
def rF (a:HL sD):List Int:=sw a++bw 8 (mQ a)
def CE(a:HL sD):(sw a).length=64:=by obtain⟨h,u,C,E,G,I,J,R,n⟩:=a;simp only[sw,zF,lT]
def qx6(a:HL sD):(rF a).length=72:=by rw[rF,zF,CE,k8]
def qwe{a:HL sD}(V:∀s w',Bf w w' s (rF a) 72->K s w'): cW 146 [.agg (HL.mk sD a).toArray] dh w K:=by
 obtain⟨u,C,E,G,I,J,R,U,n⟩:=a;refine qjb<|oB (oE [] w) fun r1 w1 e1 f1 h=>?_;have h:=h.drew;refine oC h 0 rfl (u,C) rfl (oC h 0 rfl (E,G) rfl (oC h 0 rfl (I,J) rfl (oC h 0 rfl (R,U) rfl (oA h 0 rfl n rfl ?_))));refine oB h fun r8 w2 e2 f2 h=>ig (h.cell 1 rfl rfl)<|DU (ids:=[(u,C),(E,G),(I,J),(R,U)]) (h.at (i:=0) rfl) rfl oM fun s3 w3 q=>ig ((h.q7 q.fr).cell 1 rfl rfl) (q.tz fun s4 w4 q=>?_);have e:[(u,C),(E,G),(I,J),(R,U)].flatMap iG++bw 8 n=rF (u,C,E,G,I,J,R,U,n):=by simp only[yH,flatMap_nil,rF,mQ,sw,zV,xH,xI]
 rw[e] at q;exact V s4 w4 (q.down h.fr)
def rh:HL mt->Int:=fun (_,_,_,_,_,_,_,_,_,s)=>s
def lr:HL mt->HL sD:=fun (h,u,C,E,G,I,J,R,n,_)=>(h,u,C,E,G,I,J,R,n)
def sG (r:HL mt):List Int:=rh r::sw (lr r)
def qyT(r:HL mt):(sG r).length=65:=by rw[sG,yI,CE]
def quG{a0 G:Int}{r:HL mt}{K:Sl×Sl->WP}(kk:∀s t w',kE w w' s (kT (a0,G) (mQ (lr r)))->kE w w' t (sG r)->Fr [] w w'->K (s,t) w'): cW 111 [de a0 G,.agg (HL.mk mt r).toArray] dq w K:=by
 refine qlK<|oB (oE [] w) fun r1 w1 e1 f1 h=>oB h fun r3 w2 e2 f2 h=>oC h 0 rfl (lr r) rfl (qwe fun s w3 q=>?_);have h:=(h.q7 q.fr).drew;have hq:=(q.new.q7 (Fr.refl [] w3).drew).rd;have hn:(mQ (lr r))=r.2.2.2.2.2.2.2.2.1:=rfl;have hx:(rF (lr r)).take 64=sw (lr r):=(by rw[rF,take_left' (CE _)]);have ak:=qx6 (lr r);have al:=CE (lr r);simp only[Addr.q9];refine⟨?a,?b⟩;case' a=>refine oC h 1 rfl (a0,G) rfl (oA h 0 rfl (mQ (lr r)) rfl (oA h 0 rfl (rh r) rfl (dZ.part hq 0 64 rfl rfl oM oJ fun s4 _ I _=>Ct fun J w5 R u=>?_)))
 case' b=>refine oC h 1 rfl (a0,G) rfl (oA h 0 rfl (mQ (lr r)) rfl (oA h 0 rfl (rh r) rfl (dZ.part hq 0 64 rfl rfl oM oJ fun s4 _ I _=>?_)))
 all_goals rw[xF,hx] at I
 case a=>
  have h:=h.q7 u;refine ig (h.cell 0 rfl rfl) (oB h fun r6 w6 e6 C h=>ko (h.cell 1 rfl rfl) (h.cells 2 rfl rfl) ?_);exact BW (w:=w6) (l:=[rh r]) (vo (o:=0) (n:=1) (L:=[rh r]) (h.at (i:=0) rfl) (zM _) (zM _) (fun h=>nomatch h)) ((I.q7 u).q7 C) oJ oO fun U B7 w7 V E n7=>kk J U w7 ((R.q7 (C.trans E)).up (f1.trans (f2.trans q.fr)).size) (vO V fun b hb=>zL h.fr.size (n7 b hb)) (h.fr.trans E)
 case b=>
  refine oB h fun r6 w6 e6 C h=>ko (h.cell 1 rfl rfl) (h.cells 2 rfl rfl) (Ct fun J w5 R u=>?_);have h:=h.q7 u;exact ig (h.cell 1 rfl rfl)<|BW (w:=w5) (l:=[rh r]) (vo (o:=0) (n:=1) (L:=[rh r]) (h.at (i:=0) rfl) (zM _) (zM _) (fun h=>nomatch h)) ((I.q7 C).q7 u) oJ oO fun U B7 w7 V E n7=>kk J U w7 ((R.q7 E).up ((f1.trans (f2.trans q.fr)).drew.trans C).size) (vO V fun b hb=>zL h.fr.size (n7 b hb)) (h.fr.trans E)
def Av:HL mt:=(0,0,0,0,0,0,0,0,0,0)
section
section
variable {k v c:Nat} {t:Int} {w0 w:World} {s:Sl} {m:Nat} {dbk pb:Nat} {FD F B:List Nat} {D:dI} {M:dY} {P:List Int} {L:fN}
end
def qyV{t:Int}{k v:Nat}(h:Aq t)(C:rm t=((k:Int),(v:Int))):4<=(dV k v).1:=by
 obtain⟨E,G⟩:=h;have:t=0\/t=1\/t=2\/t=3\/t=4\/t=5\/t=6\/t=7:=oJ;rcases this with rfl|rfl|rfl|rfl|rfl|rfl|rfl|rfl<;>
  (obtain⟨e1,u⟩:=vB C;have e1:=Int.ofNat.inj e1;have u:=Int.ofNat.inj u;subst e1 u;decide)
end
end
section
open Go Go.Pt List
open Go.IntKind (wrap)
open Classical
end
section
open Go Go.Pt List
open Go.IntKind (wrap)
open Classical
def Bb (frm to:Key) (x:Key×Key):Bool:=decide (cmpL x.1 frm>=0)&&decide (cmpL x.1 to<=0)
def lp (frm to:Key) (L:fN):fN:=L.filter (Bb frm to)
end
section
set_option linter.unusedSectionVars false
open Go Go.Pt List
open Go.IntKind (wrap)
section
variable {α:Type} {kf vf:α->Key} {L:fN} {l:List α} {a:α} {k v:Key}
def iE {κ:Type} [DecidableEq κ] (kf:α->κ) (a:α):List α->List α
 | []=>[a]
 | x::r=>if kf x=kf a then a::r else x::iE kf a r
def qsx{κ:Type}[DecidableEq κ]{kf:α->κ}:∀ {l:List α} {i:Nat} (h:i<l.length),kf l[i]=kf a->(∀(j:Nat) (C:j<i),kf (l[j]' oJ)≠kf a)->iE kf a l=l.set i a
 | x::r,0,h,e,_=>if_pos e
 | x::r,i+1,h,e,u=>by have E:kf x≠kf a:=u 0 oJ;rw[iE,if_neg E,set_cons_succ,qsx (i:=i) (oP h) e fun j C=>u (j+1) oJ]
def Fl{κ:Type}[DecidableEq κ]{kf:α->κ}:∀ {l:List α},(∀x∈l,kf x≠kf a)->iE kf a l=l++[a]
 | [],_=>rfl
 | x::r,h=>by rw[iE,if_neg (h x oL),Fl fun y u=>h y (zN _ u),xJ]
def qsy{κ:Type}[DecidableEq κ]{kf:α->κ}{x:α}:∀ {l:List α},x∈iE kf a l->x=a\/x∈l
 | [],h=>.inl (zE.1 h)
 | y::r,h=>by unfold iE at h;split at h;exact (zG.1 h).imp id fun h=>zN _ h;rcases zG.1 h with h|h;exact .inr (by rw[h];exact mem_cons_self);exact (qsy h).imp id fun h=>zN _ h
def uW{κ:Type}[DecidableEq κ]{kf:α->κ}:∀ {l:List α},(iE kf a l).length<=l.length+1
 | []=>zM _
 | y::r=>by unfold iE;split;exact Nat.le_succ _;exact Nat.succ_le_succ uW
def qor{κ:Type}[DecidableEq κ]{kf:α->κ}{kg:α->Key}:∀ {l:List α},(∀x∈l,kf x=kf a↔kg x=kg a)->iE kf a l=iE kg a l
 | [],_=>rfl
 | y::r,h=>by have u:=h y mem_cons_self;have ih:=qor (l:=r) fun x C=>h x (zN _ C);unfold iE;by_cases e:kf y=kf a;rw[if_pos e,if_pos (u.1 e)];rw[if_neg e,if_neg fun E=>e (u.2 E),ih]
def qp9:∀ {L:fN},k∉dP L->(fH k v L).Perm ((k,v)::L)
 | [],_=>.refl _
 | x::r,h=>by have h:=not_mem_of_not_mem_cons h |> fun u=>And.intro (fun e:k=x.1=>h (by rw[e];simp)) u;unfold fH;split;exact .refl _;rw[if_neg h.1];exact (List.Perm.cons x (qp9 h.2)).trans (List.Perm.swap _ _ _)
def qxa:∀ {l:List α} {a b:α},(l.map kf).Nodup->a∈l->b∈l->kf b=kf a->b=a
 | x::l,a,b,h,G,E,e=>by rw[xO,nodup_cons] at h;rcases zG.1 G with rfl|C;rcases zG.1 E with rfl|u;rfl;exact absurd (by rw[<- e];exact zZ u) h.1;rcases zG.1 E with rfl|u;exact absurd (by rw[e];exact zZ C) h.1;exact qxa h.2 C u e
structure kx (kf vf:α->Key) (L:fN) (l:List α):Prop where
 sort:e9 L
 nodup:(l.map kf).Nodup
 perm:L.Perm (l.map fun a=>(kf a,vf a))
def kx.len(h:kx kf vf L l):L.length=l.length:=by rw[h.perm.length_eq,zK]
def kx.J6(h:kx kf vf L l):k∈dP L↔∃x∈l,kf x=k:=by rw[(h.perm.map (·.1)).mem_iff,map_map];simp
def kx.nil:kx kf vf [] []:=⟨.nil,.nil,.refl _⟩
def kx.put(h:kx kf vf L l)(a:α):kx kf vf (fH (kf a) (vf a) L) (iE kf a l):=by
 by_cases hin:∃x∈l,kf x=kf a;obtain⟨x,C,e⟩:=hin;obtain⟨P,Q,rfl⟩:=append_of_mem C;have u:=h.nodup;have I:(kf a,vf x)∈L:=h.perm.mem_iff.2 (mem_map.2 ⟨x,C,by rw[e]⟩);obtain⟨A,B,rfl⟩:=append_of_mem I;have J:=h.sort;unfold e9 fJ dP at J;rw[xN,xO,pairwise_append] at J;have V:∀y∈A,fI y.1 (kf a):=fun y E=>J.2.2 _ (zZ E) _ oL;rw[xN,xO,yM,nodup_cons] at u;have hP:iE kf a (P++x::Q)=P++a::Q:=by
  have G:∀y∈P,kf y≠kf a:=fun y E R=>u.2.2 _ (zZ E) _ oL (R.trans e.symm);clear C I h u J;induction P with
  | nil=>exact if_pos e
  | cons y P ih=>rw[xJ,iE,if_neg (G y oL),ih fun z U=>G z (zN _ U),xJ]
 rw[E1 V,hP];refine⟨by have:=Dd (k:=kf a) (v:=vf a) h.sort;rw[E1 V] at this;exact this,?_,?_⟩;rw[xN,xO,yM,nodup_cons,<- e];exact u;have hp:=h.perm;rw[xN,xO] at hp;have h1:=(perm_middle.symm.trans hp).trans perm_middle;rw[e] at h1;have h2:=List.Perm.cons_inv h1;rw[xN,xO];exact (perm_middle.trans ((h2.cons _))).trans perm_middle.symm;have hn:∀x∈l,kf x≠kf a:=fun x C e=>hin ⟨x,C,e⟩;have hk:kf a∉dP L:=fun I=>hin (h.J6.1 I);rw[Fl hn];refine⟨Dd h.sort,?_,?_⟩;rw[xN,yM];exact⟨h.nodup,oL,fun x C y E e=>by obtain⟨z,U,rfl⟩:=mem_map.1 C;rw[map_singleton,zE] at E;exact hn z U (e.trans E)⟩;refine (qp9 hk).trans ((h.perm.cons _).trans ?_);rw[xN];exact (perm_append_singleton _ _).symm
def kx.cut(h:kx kf vf L l)(k:Key):kx kf vf (gi k L) (l.filter fun x=>decide (kf x≠k)):=by
 refine⟨qpR h.sort,h.nodup.sublist (filter_sublist.map _),?_⟩
 have:=h.perm.filter fun x=>decide (x.1≠k)
 rw[filter_map] at this;exact this
def kx.get(h:kx kf vf L l)(k:Key):jc k L=(l.find? fun x=>decide (kf x=k)).map vf:=by
 cases u:l.find? fun x=>decide (kf x=k) with
 | none=>
  rw[List.find?_eq_none] at u;exact yq fun x U e=>by obtain⟨a,C,rfl⟩:=mem_map.1 (h.perm.mem_iff.1 U);exact u a C (oP e)
 | some a=>
  have C:=mem_of_find?_eq_some u;have J:kf a=k:=(by simpa using List.find?_some u);have V:(k,vf a)∈L:=h.perm.mem_iff.2 (mem_map.2 ⟨a,C,by rw[J]⟩);obtain⟨v,E⟩:=qp3 (zZ V:k∈dP L);rw[E];unfold jc at E;obtain⟨z,R,rfl⟩:=yT.1 E;have G:z.1=k:=(by simpa using List.find?_some R);obtain⟨b,hb,e⟩:=mem_map.1 (h.perm.mem_iff.1 (mem_of_find?_eq_some R));have I:b=a:=
   qxa h.nodup C hb (by rw[J,<- G,<- e])
  rw[<- e,I];rfl
end
structure nt (α κ:Type) where
 key:α->κ
 g:κ->Key
 val:α->Key
 ok:α->Prop
 vP:κ->Prop
 okk:∀ a,ok a->vP (key a)
 inj:∀ k k',vP k->vP k'->g k=g k'->k=k'
section
variable {α κ:Type} [DecidableEq κ] {K:nt α κ} {L:fN} {l:List α} {a:α} {k:κ}
def lB (K:nt α κ) (L:fN) (l:List α):Prop:=kx (fun a=>K.g (K.key a)) K.val L l/\∀a∈l,K.ok a
def lB.nil:lB K [] []:=⟨.nil,fun _ h=>nomatch h⟩
def lB.len(h:lB K L l):L.length=l.length:=h.1.len
def lB.iff(h:lB K L l)(u:K.vP k)(C:a∈l):K.key a=k↔K.g (K.key a)=K.g k:=⟨fun e=>by rw[e],K.inj _ _ (K.okk a (h.2 a C)) u⟩
def lB.put(h:lB K L l)(C:K.ok a):lB K (fH (K.g (K.key a)) (K.val a) L) (iE K.key a l):=
 ⟨by rw[qor (kg:=fun a=>K.g (K.key a)) fun x u=>h.iff (K.okk a C) u];exact h.1.put a,fun x u=>(qsy u).elim (fun e=>by rw[e];exact C) (h.2 x)⟩
def lB.cut(h:lB K L l)(C:K.vP k):lB K (gi (K.g k) L) (l.filter fun x=>decide (K.key x≠k)):=
 ⟨by rw[filter_congr (q:=fun x=>decide (K.g (K.key x)≠K.g k)) fun x u=>by rw[decide_eq_decide,ne_eq,ne_eq,h.iff C u]];exact h.1.cut _,fun x u=>h.2 x (mem_filter.1 u).1⟩
def lB.find(h:lB K L l)(E:K.vP k):jc (K.g k) L=(l.find? fun x=>decide (K.key x=k)).map K.val:=by
 rw[h.1.get];congr 1;have:∀u:List α,(∀x∈u,x∈l)->(u.find? fun x=>decide (K.g (K.key x)=K.g k))=u.find? fun x=>decide (K.key x=k):=by
  intro u;induction u with
  | nil=>intro _;rfl
  | cons x r ih=>
   intro C;rw[List.find?_cons,List.find?_cons,ih fun y G=>C y (zN _ G),show decide (K.g (K.key x)=K.g k)=decide (K.key x=k) from decide_eq_decide.2 (h.iff E (C x mem_cons_self)).symm]
 exact this l fun _ h=>h
def lB.mem(h:lB K L l)(C:∃x∈l,K.key x=k):K.g k∈dP L:=h.1.J6.2 (C.elim fun x u=>⟨x,u.1,by rw[u.2]⟩)
def lB.ok(h:lB K L l){x:α}(u:(l.find? fun x=>decide (K.key x=k))=some x):K.ok x/\K.key x=k:=⟨h.2 x (mem_of_find?_eq_some u),by simpa using List.find?_some u⟩
end
end
section
open Go Go.Pt List
open Go.IntKind (wrap)
open Classical
structure A8 (D:dI) (M:dY) (k v b q:Nat) (t:Int) (L:fN) (P:List Int):Prop where
 J1:Calm D M b q
 J2:fP D M k v t L P
 nodup:P.Nodup
 use:∀ x,dT M x->x∈P
 many:b-2<=M.Q9.length+90+eI b
section
variable {D D':dI} {M M':dY} {k v b q:Nat} {t:Int} {L L':fN} {P P':List Int}
end
def qwL{D:dI}{n k v:Nat}{t:Int}(G:0<=t/\t<8)(C:8<=n)(I:n<=4096)(E:(jW n).Wf)(u:Made D n):A8 D (jW n) k v n 1 t [] []:=by
 have h:=qqL (D:=D) (k:=k) (v:=v) G C I E;have e:(jW n).j9.2.getD 0 0=n:=(by show wrap .u32 (n:Int)=_;exact lN _ oJ);refine⟨⟨u.quiet,u.Q7,u.size,e,C,E,h.Q9,h.Q3,h.len,⟨(by decide:(0:Int)<=1),(by decide:(1:Int)<=1)⟩,⟨(by decide:(0:Int)<=1),(by decide:(1:Int)<=1)⟩⟩,h.J2,.nil,h.use,?_⟩
 have:=h.many
 have:=qn6 (a:=n-2) (b:=n) oJ
 omega
end
section
open Go Go.Pt List
open Go.IntKind (wrap)
open Classical
variable {D:dI}
structure oh (D:dI) (M:dY) (c:Nat) (Q:Nat×Nat) (Fo:jU):Prop where
 J0:yj D M Fo
 J1:Calm D M Q.1 Q.2
 many:c<=M.Q9.length
def mp (M:dY):dY:={ M with Q1:=[],J7:=[],J8:=[],Q2:=[] }
def jD (F:jU):Nat:=(F 0).1.length+(F 1).1.length+(F 2).1.length+(F 3).1.length+(F 4).1.length+(F 5).1.length+(F 6).1.length+(F 7).1.length
def qy6{t:Nat}(h:t<8):t=0\/t=1\/t=2\/t=3\/t=4\/t=5\/t=6\/t=7:=by omega
def Bj{F:jU}{t:Nat}(h:t<8):(F t).1.length<=jD F:=by unfold jD;rcases qy6 h with rfl|rfl|rfl|rfl|rfl|rfl|rfl|rfl<;>omega
section
variable {D:dI} {M:dY} {c t:Nat} {Q:Nat×Nat} {F:jU} {key val:Key}
def oh.y4(h:oh D M c Q F):((List.range 8).flatMap fun u=>(F u).2).length<=jD F:=by
 have C:∀u,u<8->(F u).2.length<=(F u).1.length:=fun u E=>(h.J0.J2 u E).cQ (qyV ⟨oJ,oJ⟩ (vN E).1);have e:(List.range 8)=[0,1,2,3,4,5,6,7]:=oM;rw[e];simp only[yH,flatMap_nil,zF,xK];unfold jD
 have:=C 0 oM;have:=C 1 oM;have:=C 2 oM;have:=C 3 oM;have:=C 4 oM;have:=C 5 oM;have:=C 6 oM;have:=C 7 oM
 omega
def oh.use(h:oh D M c Q F):∀x,dT M x->x∈(List.range 8).flatMap fun u=>(F u).2:=fun x C=>by obtain⟨u,E,C⟩:=h.J0.use x C;exact yK.2 ⟨u,mem_range.2 E,C⟩
def oh.Q1(h:oh D M c Q F):c<=M.Q1.length+jD F:=by have C:=h.J1.Q9.length_eq;rw[zF] at C;have G:=h.many;have I:(M.J8.map (·.1)).length<=((List.range 8).flatMap fun u=>(F u).2).length:=List.Nodup.length_le_of_subset h.J1.wf.y8 fun x E=>h.use x (.inl E);have J:=h.y4;omega
def oh.room(h:oh D M c Q F)(u:t<8)(C:3*jD F+1<=c):2*(dU M t).2.2.toNat+1<=M.Q1.length:=by
 have E:=h.Q1;have G:=(h.J0.J2 t u).low
 have:=Bj (F:=F) u
 omega
def oh.next{M':dY}{L':fN}{P':List Int}(h:oh D M c Q F)(C:t<8)(E:fP D M' (kv t).1 (kv t).2 t L' P')(u:mX D M M' t (F t).2 P'):oh D M' c Q (oq F t (L',P')):=
 ⟨h.J0.next h.J1.Q3 C E u,h.J1.next u,by have:M'.Q9=M.Q9:=u.step.Q9;rw[this];exact h.many⟩
def mX.base{M':dY}{P P':List Int}{t:Int}(h:mX D M M' t P P')(u:M.Q3=false):mp M'=mp M:=by have C:=h.step.Q3;have E:=h.step.j9;have G:=h.step.Q5;have I:=h.step.Q9;have J:=h.step.x6;cases M;cases M';unfold mp;simp_all
def oh.put(h:oh D M c Q F)(u:t<8)(E:3*jD F+1<=c)(G:c<=100000)(I:key.length=(kv t).1/\eF key)(J:val.length=(kv t).2/\eF val): ∃M' P',ju D (kv t).1 (kv t).2 t key val (dU M t).2.2.toNat M=(0,M')/\oh D M' c Q (oq F t (fH key val (F t).1,P'))/\mp M'=mp M:=by
 have:=Bj (F:=F) u
 obtain⟨M',P',e,R,C,_⟩:=qwV (vN u).2.1 ⟨oJ,oJ⟩ I J (h.J0.J2 t u) h.J1.wf h.J1.Q3 h.J1.len (h.J0.nodup t u) oJ (h.room u E);exact⟨M',P',e,h.next u R C,C.base h.J1.Q3⟩
def oh.cut(h:oh D M c Q F)(u:t<8)(E:3*jD F+1<=c)(G:c<=100000)(I:key∈dP (F t).1): ∃M' P',kR D (kv t).1 (kv t).2 t key (dU M t).2.2.toNat M=(0,M')/\oh D M' c Q (oq F t (gi key (F t).1,P'))/\mp M'=mp M:=by
 have:=Bj (F:=F) u
 obtain⟨M',P',e,J,C,_⟩:=qxu (vN u).2.1 ⟨oJ,oJ⟩ (h.J0.J2 t u) I h.J1.wf h.J1.Q3 h.J1.len (h.J0.nodup t u) oJ (h.room u E);exact⟨M',P',e,h.next u J C,C.base h.J1.Q3⟩
def oh.nm(h:oh D M c Q F)(E:Q.2<=1000000)(R:c+eI Q.1+jD F+2<=Q.1)(U:eI Q.1+jD F<=c):∃D' M',gA D M=((D',M'),0)/\oh D' M' c (Q.1,Q.2+1) F:=by have V:=h.Q1;obtain⟨D',M',e,G,u,C⟩:=qrH h.J1 E h.use oJ;refine⟨D',M',e,⟨⟨fun t I=>(h.J0.J2 t I).kept h.J1.Q3 u,h.J0.nodup,h.J0.J3,fun x J=>h.J0.use x ((u.use x).1 J)⟩,G,?_⟩⟩;have h3:=h.y4;rcases C with rfl|C;exact h.many;omega
end
def oh.made{n:Nat}(u:8<=n)(C:n<=4096)(E:(jW n).Wf)(R:Made D n):oh D (jW n) ((n-2)-eI (n-2)) (n,1) (fun _=>([],[])):=by have G:∀t:Nat,t<8->wY D (jW n) (kv t).1 (kv t).2 ((n-2)-eI (n-2)) t [] []:=fun t I=>qqL ⟨oJ,oJ⟩ u C E;have J:=G 0 oM;have U:A8 D (jW n) (kv 0).1 (kv 0).2 n 1 0 [] []:=qwL ⟨oM,oM⟩ u C E R;exact⟨⟨fun t I=>(G t I).J2,fun _ _=>.nil,fun _ _ _ _ _ _ h=>(nomatch h),fun x h=>nomatch J.use x h⟩,U.J1,Nat.le_of_eq J.many.symm⟩
def TW.up{dbk pb j u:Nat}{FD Y F:List Nat}{w:World}{M:dY}(h:TW dbk pb FD D j w Y F M)(C:j<=u):TW dbk pb FD D u w Y F M:=⟨h.cN,h.lim.mono C,h.x8,h.hv,h.wf,h.sep⟩
abbrev zy:TypeId:=100
abbrev pP (r:Nat):Value:=dF r
structure nh (w:World) (Y:List Nat) (sb dbk pb:Nat) (FD F:List Nat) (D:dI) (M:dY) (c:Nat) (Q:Nat×Nat) (Fo:jU):Prop where
 tw:TW dbk pb FD D (5000*Q.2) w Y F M
 st:oh D M c Q Fo
 cell:w.heap[sb]?=some (.cells #[pP pb] zy (0,0))
 out:sb∉F
section
variable {w w':World} {Q:Nat×Nat} {sb dbk pb c t:Nat} {Y FD F F':List Nat} {D:dI} {M M':dY} {Fo Fo':jU} {key val:Key} {ks vs:Sl}
def nh.q7(h:nh w Y sb dbk pb FD F D M c Q Fo)(f:Fr [] w w'):nh w' Y sb dbk pb FD F D M c Q Fo:=⟨h.tw.q7 f,h.st,by rw[f.block sb (eZ h.cell) (fun h=>nomatch h)];exact h.cell,h.out⟩
def nh.rc{K:Option Addr->Prop}(h:nh w Y sb dbk pb FD F D M c Q Fo)(u:K (pW pb)):nn (pW sb) fun a=>ld .ptr a w K:=fv (iA h.cell (pW pb) rfl u)
def nh.x6(h:nh w Y sb dbk pb FD F D M c Q Fo)(u:TW dbk pb FD D (5000*Q.2) w' Y F' M')(C:oh D M' c Q Fo')(f:Fr F w w')(n:∀b∈F',b∈F\/w.heap.size<=b):nh w' Y sb dbk pb FD F' D M' c Q Fo':=
 ⟨u,C,by rw[f.block sb (eZ h.cell) h.out];exact h.cell,fun E=>(n sb E).elim h.out fun G=>by have:=eZ h.cell;omega⟩
def nh.put{K:Int->WP}(h:nh w Y sb dbk pb FD F D M c Q Fo)(u:t<8)(J:3*jD Fo+1<=c)(C:c<=100000)(E:key.length=(kv t).1/\eF key)(G:val.length=(kv t).2/\eF val)(U:eh (Zo FD Y F) w ks key)(V:eh (Zo FD Y F) w vs val)(kk:∀F' w' M' P',nh w' Y sb dbk pb FD F' D M' c Q (oq Fo t (fH key val (Fo t).1,P'))->mp M'=mp M->Fr F w w'->(∀b∈F',b∈F\/w.heap.size<=b)->K 0 w'): cW 50 [pP pb,.i t,ks.v,vs.v] di w K:=by
 obtain⟨M',P',e,hS,hB⟩:=h.st.put (key:=key) (val:=val) u J C E G;have hl:=(h.st.J0.J2 t u).low
 have:=Bj (F:=Fo) u
 have I:=vN u;refine qzm (f:=(dU M t).2.2.toNat) E.2 G.2 I.1 oJ E.1 G.1 h.tw U V ⟨hl.2,oJ⟩ (h.st.room u J) (qtq e) fun F' w' R f n=>?_;rw[e] at R⊢;exact kk F' w' M' P' (h.x6 R hS f n) hB f n
def nh.cut{K:Int->WP}(h:nh w Y sb dbk pb FD F D M c Q Fo)(C:t<8)(I:3*jD Fo+1<=c)(J:c<=100000)(u:key∈dP (Fo t).1)(U:eh (Zo FD Y F) w ks key)(V:∀F' w' M' P',nh w' Y sb dbk pb FD F' D M' c Q (oq Fo t (gi key (Fo t).1,P'))->mp M'=mp M->Fr F w w'->(∀b∈F',b∈F\/w.heap.size<=b)->K 0 w'): cW 61 [pP pb,.i t,ks.v] di w K:=by
 obtain⟨M',P',e,hS,hB⟩:=h.st.cut (key:=key) C I J u;have E:=h.st.J0.J2 t C;have hl:=E.low
 have:=Bj (F:=Fo) C
 have G:=vN C;obtain⟨x,hx,rfl⟩:=mem_map.1 u;obtain⟨q1,q2,q3,q4⟩:=E.sort.2 x hx;obtain⟨y,hy⟩:=qp3 u;have R:=E.get (key:=x.1) h.st.J1.wf h.st.J1.Q3;rw[hy] at R;refine qzc (f:=(dU M t).2.2.toNat) (f2:=(dU M t).2.2.toNat) q3 G.2.1 G.1 oJ q1 h.tw U ⟨hl.2,oJ⟩ (h.st.room C I) (by rw[R]) (E.Q6 G.2.1 u h.st.J1.wf h.st.J1.Q3 (h.st.J0.nodup t C) (h.st.room C I)) fun F' w' E f n=>?_;rw[e] at E⊢;exact V F' w' M' P' (h.x6 E hS f n) hB f n
def nh.get{K:Sl×Int->WP}(h:nh w Y sb dbk pb FD F D M c Q Fo)(G:t<8)(I:key.length=(kv t).1/\eF key)(rk:eh (Zo FD Y F) w ks key)(J:∀s w' z e,(jc key (Fo t).1=some z/\e=0)\/(jc key (Fo t).1=none/\z=[]/\e=5)->eh (Zo FD Y F) w' s z->(e=0->z.length=(kv t).2)->eF z->Fr [] w w'->K (s,e) w'): cW 47 [pP pb,.i t,ks.v] dk w K:=by
 have E:=vN G;have R:=h.st.J0.J2 t G;have U:=R.get (key:=key) h.st.J1.wf h.st.J1.Q3;refine Gv (f:=(dU M t).2.2.toNat) I.2 E.1 oJ I.1 h.tw rk ?_ fun s w' u f=>?_;rw[U];cases jc key (Fo t).1 with
 | none=>exact (by decide:(5:Int)≠-1)
 | some y=>exact (by decide:(0:Int)≠-1)
 have u:=u _ h.tw.sI;rw[U] at u⊢;cases C:jc key (Fo t).1 with
 | none=>
  rw[C] at u;exact J s w' [] 5 (.inr ⟨C,rfl,rfl⟩) u (fun h=>nomatch h) (fun _ h=>nomatch h) f
 | some y=>
  rw[C] at u;unfold jc at C;obtain⟨z,V,rfl⟩:=yT.1 C;have hm:=R.sort.2 z (mem_of_find?_eq_some V);exact J s w' _ 0 (.inl ⟨by unfold jc;rw[V];rfl,rfl⟩) u (fun _=>hm.2.1) hm.2.2.2 f
end
section
def quz{dbk pb j:Nat}{FD Y F:List Nat}{w:World}{M:dY}{K:Int->WP}(h:TW dbk pb FD D j w Y F M)(hj:j<=900000)(ht:0<=M.x6/\M.x6<=1000000000)(G:HG∉FD)(kk:∀C F' w',TW dbk pb C (gA D M).1.1 (j+5000) w' Y F' (gA D M).1.2->Fr (FD++F) w w'->(∀b∈C++F',b∈FD++F\/w.heap.size<=b)->K (gA D M).2 w'): cW 72 [dF pb] di w K:=by
 have I:HG∈FD++HG::Y:=oL;have J:HG∉F:=h.x8.sep HG I;refine qs6 h.cN h.lim h.x8 (fun b u=>zH _ u) h.wf oJ ht h.hv G fun C F' w' d' l' p' R=>?_;have V:∀b∈C++F',b∈FD++F\/w.heap.size<=b:=R.2;refine kk C F' w' ⟨d',l',p'.tk fun b u=>?_,h.hv.q8 R.1 (fun U=>(zD.1 U).elim G J),qwn h.wf,fun b u=>⟨fun U=>?_,(h.sep b u).2⟩⟩ R.1 V;rcases zD.1 u with u|u;exact zH _ u;refine zI _ (zI _ u);rcases V b (zH _ U) with E|E;rcases zD.1 E with E|E;exact (h.sep b u).1 E;exact h.yf b u E
 have:=h.qo b u;omega
structure Duo (w0 w:World) (O:List Nat) (da pa:Nat) (Xa Fa:List Nat) (Da:dI) (ja:Nat) (Ma:dY) (db pb:Nat) (Xb Fb:List Nat) (Db:dI) (jb:Nat) (Mb:dY):Prop where
 a:TW da pa Xa Da ja w (Xb++(Fb++O)) Fa Ma
 b:TW db pb Xb Db jb w (Xa++(Fa++O)) Fb Mb
 He:∀ x∈Xa++Fa,w0.heap.size<=x
 Hf:∀ x∈Xb++Fb,w0.heap.size<=x
 Hd:∀ x∈O,w0.heap.size<=x
 hg:HG<w0.heap.size
 fr:Fr [] w0 w
section
variable {w0 w w':World} {O O':List Nat} {da pa db pb:Nat} {Xa Fa Xb Fb Xa' Fa':List Nat} {Da Db Da':dI} {ja jb ja':Nat} {Ma Mb Ma':dY}
end
end
end
section
open Go Go.Pt List
open Go.IntKind (wrap)
abbrev Mv:=iV×Int×iV
abbrev Ln:=iV×HL mt
def ph (m:Mv):iV×Int:=(m.1,m.2.1)
def qW (x:Ln):iV×Int:=(x.1,mQ (lr x.2))
def k9 (d:HL i7):Int×Int:=(d.1,d.2.1)
def Bu (d:HL i7):iV:=(d.2.2.1,d.2.2.2)
def qe (k:Kp):iV:=pg k.1
def k7.inj{a b:iV}(u:k7 a)(C:k7 b)(h:iG a=iG b):a=b:=FV u.ok C.ok h
abbrev uq (p:iV×Int):Prop:=k7 p.1/\IntKind.u64.has p.2
def uq.inj{a b:iV×Int}(u:uq a)(C:uq b)(h:kT a.1 a.2=kT b.1 b.2):a=b:=by obtain⟨E,G⟩:=qxe u.1.ok C.1.ok (qt u.2) (qt C.2) h;exact Prod.ext E G
def T64.inj{a b:Int×Int}(u:k7 a)(C:k7 b)(h:kN a.1 a.2=kN b.1 b.2):a=b:=FV u.ok C.ok h
def BL:nt (HL iT) iV:=⟨kD,iG,pq,jE iT,k7,fun a h=>⟨h.1,h.2.1⟩,fun _ _=>k7.inj⟩
def BF:nt Kp iV:=⟨qe,iG,sR,ti,k7,fun a h=>⟨h.1.1,h.1.2.1⟩,fun _ _=>k7.inj⟩
def Bp:nt (iV×Int) iV:=⟨fun x=>x.1,iG,fun x=>[x.2],fun x=>k7 x.1/\IntKind.u8.has x.2,k7,fun a h=>h.1,fun _ _=>k7.inj⟩
def tG:nt (HL i7) (Int×Int):=⟨k9,fun p=>kN p.1 p.2,fun d=>iG (Bu d),jE i7,k7,fun a h=>⟨h.1,h.2.1⟩,fun _ _=>T64.inj⟩
def BJ:nt Mv (iV×Int):=⟨ph,fun p=>kT p.1 p.2,fun m=>iG m.2.2,fun m=>uq (ph m)/\k7 m.2.2,uq,fun a h=>h.1,fun _ _=>uq.inj⟩
def Am:nt Ln (iV×Int):=⟨qW,fun p=>kT p.1 p.2,fun x=>sG x.2,fun x=>k7 x.1/\jE mt x.2,uq,fun a h=>⟨h.1,h.2.2.2.2.2.2.2.2.2.1⟩,fun _ _=>uq.inj⟩
abbrev Gh:=Nat×dI×dY
structure Bk where
 acc:List (HL iT)
 kc:List Kp
 jJ:List (iV×Int)
 due:List (HL i7)
 me:List Mv
 mh:List Mv
 jz:List Ln
 last:Option Int
 gn:Nat
 /-- The disk's blocks,the commits; what no operation turns but a nm. -/
 cm:Nat×Nat×Gh
def qw (o:Option Int):fN:=o.toList.map fun n=>([1],bw 8 n)
structure Hb (T:Nat->fN) (b:Bk):Prop where
 acc:lB BL (T 0) b.acc
 kc:lB BF (T 1) b.kc
 jJ:lB Bp (T 2) b.jJ
 due:lB tG (T 3) b.due
 me:lB BJ (T 4) b.me
 mh:lB BJ (T 5) b.mh
 jz:lB Am (T 6) b.jz
 pB:T 7=qw b.last
def Bk.size (b:Bk):Nat:=b.acc.length+b.kc.length+b.jJ.length+b.due.length+b.me.length+b.mh.length+b.jz.length+b.last.toList.length
def Bk.l9 (b:Bk) (a:HL iT):Bk:={ b with acc:=iE kD a b.acc }
def Bk.lq (b:Bk) (k:Kp):Bk:={ b with kc:=iE qe k b.kc }
def Bk.mL (b:Bk) (m:Mv):Bk:={ b with me:=iE ph m b.me }
def Bk.oQ (b:Bk) (m:Mv):Bk:={ b with mh:=iE ph m b.mh }
def Bk.lA (b:Bk) (x:iV×Int):Bk:={ b with jJ:=iE (fun x=>x.1) x b.jJ }
def Bk.lR (b:Bk) (x:Ln):Bk:={ b with jz:=iE qW x b.jz }
def ml (a b:HL i7):Bool:=decide (a.1<b.1\/a.1=b.1/\a.2.1<b.2.1)
def li (d:HL i7):List (HL i7)->List (HL i7)
 | []=>[d]
 | x::r=>if ml d x then d::x::r else x::li d r
def i8 (d:HL i7) (l:List (HL i7)):List (HL i7):=l.filter fun x=>decide (k9 x≠k9 d)
def Bk.kC (b:Bk) (d:HL i7):Bk:={ b with due:=i8 d b.due }
def Bk.jp (b:Bk) (d:HL i7):Bk:={ b with due:=li d (i8 d b.due) }
def jY (b:Bk) (i:iV):Option (HL iT):=b.acc.find? fun x=>decide (kD x=i)
def jT (b:Bk) (i:iV):Option Kp:=b.kc.find? fun x=>decide (qe x=i)
def nU (b:Bk) (i:iV):Int:=((b.jJ.find? fun x=>decide (x.1=i)).map (·.2)).getD 0
def xg (t:HL ll):Mv:=((t.2.2.1,t.2.2.2.1),t.2.2.2.2.2.2.2.2.2.2.2.2.2.2.2,pg t)
def Cz (t:HL ll):Mv:=((t.2.2.2.2.1,t.2.2.2.2.2.1),t.2.2.2.2.2.2.2.2.2.2.2.2.2.2.2,pg t)
def Bk.jN (b:Bk) (k:Kp):Bk:=((b.lq k).mL (xg k.1)).oQ (Cz k.1)
def Bk.wF (b:Bk):Bk:={ b with cm:=(b.cm.1,b.cm.2.1+1,b.cm.2.2) }
def wM (q:Nat×Nat×Gh):Bk:=⟨[],[],[],[],[],[],[],none,0,q⟩
def Bk.gs (b:Bk) (g:Gh):Bk:={ b with cm:=(b.cm.1,b.cm.2.1,g) }
def Bk.jI (b:Bk) (n:Int):Bk:={ b with last:=some n }
def Cm{d:HL i7}:∀ {l:List (HL i7)},(li d l).Perm (d::l)
 | []=>.refl _
 | x::r=>by unfold li;split;exact .refl _;exact (Cm.cons x).trans (.swap _ _ _)
def lB.perm{α κ:Type}{K:nt α κ}{L:fN}{l l':List α}(h:lB K L l)(p:l.Perm l'):lB K L l':=
 ⟨⟨h.1.sort,(p.map _).nodup_iff.1 h.1.nodup,h.1.perm.trans (p.map _)⟩,fun x u=>h.2 x (p.mem_iff.2 u)⟩
def qqz{α κ:Type}[DecidableEq κ]{kf:α->κ}{a:α}:∀ {l:List α},(l.map kf).Nodup->(iE kf a l).Perm (a::l.filter fun x=>decide (kf x≠kf a))
 | [],_=>.refl _
 | x::r,h=>by rw[xO,nodup_cons] at h;unfold iE;by_cases e:kf x=kf a;rw[if_pos e,filter_cons,if_neg (by simp[e]),filter_eq_self.2 fun y u=>by have:kf y≠kf a:=fun C=>h.1 (by rw[e,<- C];exact zZ u);simpa using this];rw[if_neg e,filter_cons,if_pos (oP e)];exact ((qqz h.2).cons x).trans (.swap _ _ _)
def lB.nodup{α κ:Type}{K:nt α κ}{L:fN}{l:List α}(h:lB K L l):(l.map K.key).Nodup:=by
 have:=h.1.nodup
 rw[show (fun a=>K.g (K.key a))=K.g∘K.key from rfl,<- map_map] at this;exact this.of_map _ fun a b h e=>h (by rw[e])
def mr (T:Nat->fN) (t:Nat) (L:fN):Nat->fN:=fun u=>if u=t then L else T u
section
variable {T:Nat->fN} {b:Bk}
def Hb.l9(h:Hb T b){a:HL iT}(u:jE iT a):Hb (mr T 0 (fH (iG (kD a)) (pq a) (T 0))) (b.l9 a):=⟨h.acc.put u,h.kc,h.jJ,h.due,h.me,h.mh,h.jz,h.pB⟩
def Hb.lq(h:Hb T b){a:Kp}(u:ti a):Hb (mr T 1 (fH (iG (qe a)) (sR a) (T 1))) (b.lq a):=⟨h.acc,h.kc.put u,h.jJ,h.due,h.me,h.mh,h.jz,h.pB⟩
def Hb.lA(h:Hb T b){a:iV×Int}(u:k7 a.1/\IntKind.u8.has a.2):Hb (mr T 2 (fH (iG a.1) [a.2] (T 2))) (b.lA a):=⟨h.acc,h.kc,h.jJ.put u,h.due,h.me,h.mh,h.jz,h.pB⟩
def Hb.mL(h:Hb T b){a:Mv}(u:uq (ph a)/\k7 a.2.2):Hb (mr T 4 (fH (kT a.1 a.2.1) (iG a.2.2) (T 4))) (b.mL a):=⟨h.acc,h.kc,h.jJ,h.due,h.me.put u,h.mh,h.jz,h.pB⟩
def Hb.oQ(h:Hb T b){a:Mv}(u:uq (ph a)/\k7 a.2.2):Hb (mr T 5 (fH (kT a.1 a.2.1) (iG a.2.2) (T 5))) (b.oQ a):=⟨h.acc,h.kc,h.jJ,h.due,h.me,h.mh.put u,h.jz,h.pB⟩
def Hb.lR(h:Hb T b){a:Ln}(u:k7 a.1/\jE mt a.2):Hb (mr T 6 (fH (kT a.1 (mQ (lr a.2))) (sG a.2) (T 6))) (b.lR a):=⟨h.acc,h.kc,h.jJ,h.due,h.me,h.mh,lB.put (K:=Am) (a:=a) h.jz u,h.pB⟩
def Hb.kC(h:Hb T b){d:HL i7}(u:jE i7 d):Hb (mr T 3 (gi (kN d.1 d.2.1) (T 3))) (b.kC d):=⟨h.acc,h.kc,h.jJ,lB.cut (K:=tG) (k:=k9 d) h.due ⟨u.1,u.2.1⟩,h.me,h.mh,h.jz,h.pB⟩
def Hb.jp(h:Hb T b){d:HL i7}(u:jE i7 d):Hb (mr T 3 (fH (kN d.1 d.2.1) (iG (Bu d)) (T 3))) (b.jp d):=⟨h.acc,h.kc,h.jJ,(lB.put (K:=tG) (a:=d) h.due u).perm ((qqz h.due.nodup).trans Cm.symm),h.me,h.mh,h.jz,h.pB⟩
def Hb.jI(h:Hb T b){n:Int}:Hb (mr T 7 (fH [1] (bw 8 n) (T 7))) (b.jI n):=⟨h.acc,h.kc,h.jJ,h.due,h.me,h.mh,h.jz,by
 show fH [1] (bw 8 n) (T 7)=qw (some n);rw[h.pB];cases b.last with
 | none=>rfl
 | some x=>simp[qw,fH,cmpL]⟩
def Hb.size(h:Hb T b):(T 0).length+(T 1).length+(T 2).length+(T 3).length+(T 4).length+(T 5).length+(T 6).length+(T 7).length=b.size:=by rw[h.acc.len,h.kc.len,h.jJ.len,h.due.len,h.me.len,h.mh.len,h.jz.len,h.pB,qw,zK];rfl
def qAu(q:Nat×Nat×Gh):Hb (fun _=>[]) ⟨[],[],[],[],[],[],[],none,0,q⟩:=⟨.nil,.nil,.nil,.nil,.nil,.nil,.nil,rfl⟩
end
end
section
open Go Go.Pt List
open Go.IntKind (wrap)
open Classical
variable {K:Int->WP} {L:List (Nat×Obj)} {T:List Nat} {u:Int} {wa:World}
structure nI (F:List Nat) (w:World) (F':List Nat) (w':World):Prop where
 fr:Fr F w w'
 new:∀ x∈F',x∈F\/w.heap.size<=x
section
variable {F F' F2:List Nat} {w w' w2:World}
def nI.trans(h:nI F w F' w')(k:nI F' w' F2 w2):nI F w F2 w2:=⟨h.fr.j8 k.fr h.new,fun x u=>(k.new x u).elim (h.new x) fun C=>.inr (zL h.fr.size C)⟩
def nI.pre(f:Fr [] w w')(k:nI F w' F' w2):nI F w F' w2:=⟨(f.mono fun _ h _=>nomatch h).trans k.fr,fun x u=>(k.new x u).imp id fun h=>zL f.size h⟩
def nI.Q3{B:List Nat}(h:nI F w F' w'):nI (B++F) w (B++F') w':=⟨h.fr.mono fun _ h _=>zI _ h,fun x C=>(zD.1 C).elim (fun u=>.inl (zH _ u)) fun u=>(h.new x u).imp (zI _) id⟩
end
def qD (w:World) (Y:List Nat) (sb pb:Nat) (F:List Nat) (c:Nat) (b:Bk):Prop:=∃dbk FD h D M Fo,F=FD++h/\nh w Y sb dbk pb FD h D M c (b.cm.1,b.cm.2.1) Fo/\HG∉FD/\sb∉FD/\Hb (fun t=>(Fo t).1) b/\c<=100000/\b.cm.2.1<=150/\b.cm.2.2=(pb,D,mp M)
def SB (w:World) (Y:List Nat) (sb:Nat) (F:List Nat) (c:Nat) (b:Bk):Prop:=∃pb,qD w Y sb pb F c b
section
variable {w w' w1:World} {Y Y' F F':List Nat} {sb c:Nat} {b b':Bk}
def SB.q7(h:SB w Y sb F c b)(f:Fr [] w w'):SB w' Y sb F c b:=by obtain⟨pb,dbk,FD,E,D,M,Fo,rfl,G,u,C,I,J,R⟩:=h;exact⟨pb,dbk,FD,E,D,M,Fo,rfl,G.q7 f,u,C,I,J,R⟩
def SB.y0(h:SB w Y sb F c b)(G:∀b∈Y',b∈Y):SB w Y' sb F c b:=by obtain⟨pb,dbk,FD,I,D,M,Fo,rfl,u,C,E,J,R,U⟩:=h;exact⟨pb,dbk,FD,I,D,M,Fo,rfl,⟨u.tw.y0 G,u.st,u.cell,u.out⟩,C,E,J,R,U⟩
def SB.yf(h:SB w Y sb F c b):∀b∈Y,b∉F:=by obtain⟨pb,dbk,FD,J,D,M,Fo,rfl,u,E,G,R,U,V⟩:=h;exact fun b C I=>(zD.1 I).elim (fun h=>(u.tw.sep b C).1 h) (u.tw.yf b C)
def SB.GG{L':List (Nat×Obj)}(h:SB wa (fi L++Y) sb F c b)(G:sb∉fi L)(o:dQ (fi L) wa w L'):SB w (fi L'++Y) sb F c b:=by obtain⟨pb,dbk,FD,I,D,M,Fo,rfl,u,C,E,J,R,U⟩:=h;exact⟨pb,dbk,FD,I,D,M,Fo,rfl,⟨u.tw.J0 o,u.st,o.pC u.cell G,u.out⟩,C,E,J,R,U⟩
def SB.own(h:SB w (fi L++Y) sb F c b)(o:dQ T wa w L)(s:nI F w F' w'):dQ (fi L) w' w' L:=ql o s.fr fun b u=>h.yf b (zH _ u)
def SB.lt(h:SB w Y sb F c b):sb<w.heap.size:=by obtain⟨pb,dbk,FD,G,D,M,Fo,rfl,u,C,E,I,J,R⟩:=h;exact eZ u.cell
def qD.rc{pb:Nat}{K:Addr->Option Addr->Prop}(h:qD w1 Y sb pb F c b)(f:Fr [] w1 w)(u:K (dg sb) (pW pb)):nn (pW sb) fun a=>ld .ptr a w (K a):=by
 obtain⟨dbk,FD,I,D,M,Fo,rfl,C,E,G,J,R,U⟩:=h
 have:=(C.q7 f).cell
 exact fv (iA this (pW pb) rfl u)
def qD.held{pb:Nat}(h:qD w1 Y sb pb F c b)(f:Fr [] w1 w):w.cell? (dg sb)=some (dF pb):=by obtain⟨dbk,FD,G,D,M,Fo,rfl,u,C,E,I,J,R⟩:=h;rw[ji (u.q7 f).cell];rfl
def qD.put{t pb:Nat}{g v:Key}{ks vs:Sl}{K:Int->WP}(h:qD w1 Y sb pb F c b)(f:Fr [] w1 w)(hr:3*b.size+1<=c)(ht:t<8)(hk:g.length=(kv t).1/\eF g)(hv:v.length=(kv t).2/\eF v)(rk:kE w1 w ks g)(rv:kE w1 w vs v)(E:∀T,Hb T b->Hb (mr T t (fH g v (T t))) b')(kk:∀F' w',qD w' Y sb pb F' c b'->nI F w1 F' w'->K 0 w')(C:b'.cm=b.cm:=by rfl):cW 50 [dF pb,.i t,ks.v,vs.v] di w K:=by
 obtain⟨dbk,FD,Fp,D,M,Fo,rfl,G,I,J,U,V,hj⟩:=h;have h1:=G.q7 f;refine h1.put ht (by have:=U.size;unfold jD;omega) V hk hv (rk.to G.tw.sI) (rv.to G.tw.sI) fun F' w' M' P' R hB f2 n=>kk (FD++F') w' ⟨dbk,FD,F',D,M',_,rfl,by rw[C];exact R,I,J,?_,V,by rw[C,hB];exact hj⟩ (.pre f (nI.Q3 ⟨f2,n⟩));have e:(fun u=>(oq Fo t (fH g v (Fo t).1,P') u).1)=mr (fun u=>(Fo u).1) t (fH g v (Fo t).1):=by funext u;unfold oq mr;split<;>rfl
 rw[e];exact E _ U
def qD.get{t pb:Nat}{g:Key}{ks:Sl}{α κ:Type}[DecidableEq κ]{T:nt α κ}{l:List α}{k:κ}{K:Sl×Int->WP}(h:qD w1 Y sb pb F c b)(J:Fr [] w1 w)(R:t<8)(U:g.length=(kv t).1/\eF g)(V:kE w1 w ks g)(hT:∀P,Hb P b->lB T (P t) l)(hg:g=T.g k)(G:T.vP k)(k0:∀s w',(l.find? fun x=>decide (T.key x=k))=none->Fr [] w w'->K (s,5) w')(k1:∀s w' x,(l.find? fun x=>decide (T.key x=k))=some x->T.ok x->T.key x=k->eh [] w' s (T.val x)->Fr [] w w'->K (s,0) w'): cW 47 [dF pb,.i t,ks.v] dk w K:=by
 obtain⟨dbk,FD,Fp,D,M,Fo,rfl,I,ae,af,hb,hc,hj⟩:=h;subst hg;have h1:=I.q7 J;refine h1.get R U (V.to I.tw.sI) fun s w' z e E hz _ _ f=>?_;have q:=hT _ hb;have u:=q.find G;rcases E with ⟨E,rfl⟩|⟨E,rfl,rfl⟩;rw[E] at u;cases C:l.find? fun x=>decide (T.key x=k) with
 | none=>rw[C] at u;cases u
 | some x=>
  rw[C] at u;cases u
  have:=q.ok C
  exact k1 s w' x C this.1 this.2 (hz.j6 fun _ h=>nomatch h) f
 rw[E] at u;cases C:l.find? fun x=>decide (T.key x=k) with
 | none=>exact k0 s w' C f
 | some x=>rw[C] at u;cases u
def SB.put{t:Nat}{g v:Key}{ks vs:Sl}{K:Int->WP}(h:SB w1 Y sb F c b)(f:Fr [] w1 w)(E:3*b.size+1<=c)(G:t<8)(I:g.length=(kv t).1/\eF g)(J:v.length=(kv t).2/\eF v)(R:kE w1 w ks g)(U:kE w1 w vs v)(u:∀T,Hb T b->Hb (mr T t (fH g v (T t))) b')(V:∀F' w',SB w' Y sb F' c b'->nI F w1 F' w'->K 0 w')(C:b'.cm=b.cm:=by rfl):nn (pW sb) fun a=>ld .ptr a w fun p=>cW 50 [.pointer p,.i t,ks.v,vs.v] di w K:=
 h.elim fun pb h=>h.rc f (h.put f E G I J R U u (fun F' w' h=>V F' w' ⟨pb,h⟩) C)
def SB.get{t:Nat}{g:Key}{ks:Sl}{α κ:Type}[DecidableEq κ]{T:nt α κ}{l:List α}{k:κ}{K:Sl×Int->WP}(h:SB w1 Y sb F c b)(C:Fr [] w1 w)(E:t<8)(G:g.length=(kv t).1/\eF g)(I:kE w1 w ks g)(J:∀P,Hb P b->lB T (P t) l)(R:g=T.g k)(u:T.vP k)(U:∀s w',(l.find? fun x=>decide (T.key x=k))=none->Fr [] w w'->K (s,5) w')(V:∀s w' x,(l.find? fun x=>decide (T.key x=k))=some x->T.ok x->T.key x=k->eh [] w' s (T.val x)->Fr [] w w'->K (s,0) w'): nn (pW sb) fun a=>ld .ptr a w fun p=>cW 47 [.pointer p,.i t,ks.v] dk w K:=
 h.elim fun pb h=>h.rc C (h.get C E G I J R u U V)
end
section
def px:HL iT:=(0,0,0,0,0,0,0,0,0,0,0,0,0,0,0)
def pz{a b:List Int}(h:eF a)(u:eF b):eF (a++b):=fun x C=>(zD.1 C).elim (h x) (u x)
def qx4(a:HL iT):eF (pq a):=pz (oj _) (pz (oj _) (pz (oj _) (pz (oj _) (pz (po _ _) (pz (po _ _) (pz (po _ _) (pz (po _ _) (po _ _))))))))
def qyZ(a:HL ll):eF (oX a):=pz (oj _) (pz (oj _) (pz (oj _) (pz (oj _) (pz (po _ _) (pz (po _ _) (pz (po _ _) (pz (po _ _) (pz (po _ _) (po _ _)))))))))
def qzQ(k:Kp):eF (sR k):=pz (qyZ _) (oj _)
def qyS{r:HL mt}(h:jE mt r):eF (sG r):=fun x u=>by rcases zG.1 u with rfl|u;exact qza h.2.2.2.2.2.2.2.2.2;exact (pz (oj _) (pz (oj _) (pz (oj _) (oj _)))) x u
section
variable {w w' w1:World} {Y F:List Nat} {sb c:Nat} {b b':Bk}
def SB.cut{t:Nat}{g:Key}{ks:Sl}{K:Int->WP}(h:SB w1 Y sb F c b)(f:Fr [] w1 w)(hr:3*b.size+1<=c)(ht:t<8)(rk:kE w1 w ks g)(E:∀T,Hb T b->g∈dP (T t))(G:∀T,Hb T b->Hb (mr T t (gi g (T t))) b')(kk:∀F' w',SB w' Y sb F' c b'->nI F w1 F' w'->K 0 w')(C:b'.cm=b.cm:=by rfl):nn (pW sb) fun a=>ld .ptr a w fun p=>cW 61 [.pointer p,.i t,ks.v] di w K:=by
 obtain⟨pb,dbk,FD,Fp,D,M,Fo,rfl,V,I,J,R,hc,hj⟩:=h;have h1:=V.q7 f;refine h1.rc (h1.cut ht (by have:=R.size;unfold jD;omega) hc (E _ R) (rk.to V.tw.sI) fun F' w' M' P' U hB f2 n=>kk (FD++F') w' ⟨pb,dbk,FD,F',D,M',_,rfl,by rw[C];exact U,I,J,?_,hc,by rw[C,hB];exact hj⟩ (.pre f (nI.Q3 ⟨f2,n⟩)));have e:(fun u=>(oq Fo t (gi g (Fo t).1,P') u).1)=mr (fun u=>(Fo u).1) t (gi g (Fo t).1):=by funext u;unfold oq mr;split<;>rfl
 rw[e];exact G _ R
def qzq{i0:Int}{K:HL iT×Bool->WP}(h:SB w Y sb F c b)(hi:k7 (i0,u))(kk:∀w',Fr [] w w'->K ((jY b (i0,u)).getD px,(jY b (i0,u)).isSome) w'): cW 22 [dF sb,de i0 u] [.agg iT,.one .bool] w K:=by
 refine qhC<|oB (oE [] w) fun r1 w1 _ f1 o=>oB o fun r3 w2 _ f2 o=>oC o 1 rfl (i0,u) rfl (uB fun r4 w3 hk f3=>?_);have E:∀(x:HL iT) (U:Bool) (J:World),Fr [] w3 J->(x=(jY b (i0,u)).getD px/\U=(jY b (i0,u)).isSome)->Pt.st (dg r3) (HL.mk pM x) J fun C=>dK pM (dg r3) C fun t=>K (t,U) C:=fun x U J G e=>by rw[e.1,e.2];exact oG (o.q7 (f3.trans G)) 0 rfl _ (kj rfl) rfl (zM _) fun C o _=>oC o 0 rfl _ rfl (kk C o.fr)
 refine qoE<|oB (oE [] w3) fun r5 J _ G o2=>SB.get (T:=BL) (k:=(i0,u)) (l:=b.acc) (t:=0) h (o.fr.trans (f3.trans G)) oM ⟨lT _,oj _⟩ ((hk.q7 G).up o.fr.size) (fun P q=>q.acc) rfl hi (fun s C hn R=>?_) fun s C x hx V he hv R=>?_;refine cond_true rfl (oB (o2.q7 R) fun r6 w6 _ f6 o3=>oC o3 0 rfl px rfl (o3.st' 1 rfl _ (kj rfl) rfl (zM _) fun w7 I f7=>oC I 1 rfl px rfl ?_));exact E _ _ w7 I.fr ⟨by rw[show jY b (i0,u)=none from hn];rfl,by rw[show jY b (i0,u)=none from hn];rfl⟩;refine cond_false rfl (rS (lb:=[]) rfl oK (quI ((hk.rd.q7 G).q7 R |> fun q=>by rw[<- he] at q;exact q) hv V fun w6 f6=>?_));exact oG ((o2.q7 R).q7 f6) 0 rfl _ (kj rfl) rfl (zM _) fun w7 I f7=>oC I 0 rfl x rfl<|E _ _ w7 I.fr ⟨by rw[show jY b (i0,u)=some x from hx];rfl,by rw[show jY b (i0,u)=some x from hx];rfl⟩
end
end
section
section
variable {w w' w1:World} {Y F:List Nat} {sb c:Nat} {b b':Bk}
def quY{a:HL iT}(h:SB w Y sb F c b)(C:3*b.size+1<=c)(E:jE iT a)(G:∀F' w',SB w' Y sb F' c (b.l9 a)->nI F w F' w'->K 0 w'): cW 20 [dF sb,.agg (HL.mk iT a).toArray] di w K:=by refine qfR<|oB (oE [] w) fun U w1 _ u o=>oC o 0 rfl a rfl (quF fun s t w2 I J R=>?_);exact SB.put (t:=0) h (u.trans R) C oM ⟨lT _,oj _⟩ ⟨E8 _,qx4 _⟩ (I.up u.size) (J.up u.size) (fun T q=>q.l9 E) G
def qzt{i0:Int}{K:List Value×Bool->WP}(h:SB w Y sb F c b)(hi:k7 (i0,u))(kk:∀w',Fr [] w w'->K (nO ((jT b (i0,u)).getD tf),(jT b (i0,u)).isSome) w'): cW 23 [dF sb,de i0 u] dw w K:=by
 refine qgC<|oB (oE [] w) fun r1 w1 _ f1 o=>oI o yb fun r3 w2 _ o=>oC o 1 rfl (i0,u) rfl (uB fun r4 w3 hk f3=>?_);have hz:=yb;have E:∀(x:Kp) (U:Bool) (J:World),Fr [] w3 J->(x=(jT b (i0,u)).getD tf/\U=(jT b (i0,u)).isSome)->gF ((nO x).length=18) (Pt.st (dg r3) (nO x) J fun C=>ij 18 (dg r3) C fun t=>K (t,U) C):=fun x U J f4 e=>by rw[e.1,e.2];refine mP (ol _) (oG (o.q7 (f3.trans f4)) 0 rfl _ (kj rfl) rfl (zM _) fun C o _=>?_);exact nJ (o.at (i:=0) rfl) _ (ol _) rfl (kk C o.fr)
 refine qoF<|oI (oE [] w3) hz fun r5 J _ G=>SB.get (T:=BF) (k:=(i0,u)) (l:=b.kc) (t:=1) h (o.fr.trans (f3.trans G.fr)) oM ⟨lT _,oj _⟩ ((hk.q7 G.fr).up o.fr.size) (fun P q=>q.kc) rfl hi (fun s C hn R=>?_) fun s C x hx V he hv R=>?_;refine cond_true rfl (oI (G.q7 R) hz fun r6 w6 _ o3=>nJ (o3.at (i:=0) rfl) _ (ol tf) rfl (mP rfl (o3.st' 1 rfl _ (kj rfl) rfl (zM _) fun w7 I f7=>nJ (I.at (i:=1) rfl) _ (ol tf) rfl ?_)));exact E _ _ w7 I.fr ⟨by rw[show jT b (i0,u)=none from hn];rfl,by rw[show jT b (i0,u)=none from hn];rfl⟩;refine cond_false rfl (rS (lb:=[]) rfl oK (quK (by have q:=(hk.rd.q7 G.fr).q7 R;rw[<- he] at q;exact q) hv V fun w6 f6=>?_));refine mP (ol x) (oG ((G.q7 R).q7 f6) 0 rfl _ (kj rfl) rfl (zM _) fun w7 I f7=>nJ (I.at (i:=0) rfl) _ (ol x) rfl ?_);exact E _ _ w7 I.fr ⟨by rw[show jT b (i0,u)=some x from hx];rfl,by rw[show jT b (i0,u)=some x from hx];rfl⟩
def qzs{i0:Int}(h:SB w Y sb F c b)(hi:k7 (i0,u))(I:∀w',Fr [] w w'->K (nU b (i0,u)) w'): cW 29 [dF sb,de i0 u] [.one .b] w K:=by
 refine qiv ?_;obtain⟨pb,h⟩:=h;refine oB (oE [] w) fun r1 w1 _ C o=>h.rc C.drew (oC o.drew 0 rfl (i0,u) rfl (uB fun r4 w3 J R=>?_));have f:=C.drew.trans R;refine ig (h.held f) (h.get (T:=Bp) (k:=(i0,u)) (l:=b.jJ) (t:=2) f oM ⟨lT _,oj _⟩ (J.up C.drew.size) (fun P q=>q.jJ) rfl hi (fun s E U G=>cond_true rfl ?_) fun s E x V aa he hv G=>cond_false rfl (eh.at hv 0 rfl (x:=x.2) rfl ?_))
 have:=I E (f.trans G)
 unfold nU at this;rwa[show (b.jJ.find? fun x=>decide (x.1=(i0,u)))=none from U] at this
 have:=I E (f.trans G)
 unfold nU at this;rwa[show (b.jJ.find? fun x=>decide (x.1=(i0,u)))=some x from V] at this
def qu1{i0 x:Int}(h:SB w Y sb F c b)(V:3*b.size+1<=c)(hi:k7 (i0,u))(E:IntKind.u8.has x)(kk:∀F' w',SB w' Y sb F' c (b.lA ((i0,u),x))->nI F w F' w'->K 0 w'): cW 67 [dF sb,de i0 u,.b x] di w K:=by
 refine qgl ?_;obtain⟨pb,h⟩:=h;have hB:eF [x]:=fun z hz=>by rw[zE.1 hz];exact qza E
 have new:∀ {w2 G:World} {r:Nat},Fr [] w w2->r=w2.heap.size->G.heap[r]?=some (.cells (fR [x]) 5 (0,0))->kE w G ⟨pW r,1,1⟩ [x]:=fun f e hb=>C3 (by have:=f.size;omega) hb (zM _) (zM _) rfl;refine oB (oE [] w) fun r1 w1 _ C o=>⟨h.rc C.drew (oC o.drew 0 rfl (i0,u) rfl (uB fun r4 G I J=>ig (h.held (C.drew.trans J)) (oB (o.drew.q7 J) fun r5 w4 R f4 o=>?_))),h.rc C.drew (oC o.drew 0 rfl (i0,u) rfl (oB o.drew fun r5 w4 R f4 o=>?_))⟩;refine ko (o.cells 1 rfl rfl) (h.held o.fr) (h.put (t:=2) o.fr V oM ⟨lT _,oj _⟩ ⟨rfl,hB⟩ ((I.q7 f4).up C.drew.size) (new (C.drew.trans J) R (o.at (i:=0) rfl)) (fun T q=>q.lA (a:=((i0,u),x)) ⟨hi,E⟩) fun F' w' h=>kk F' w' ⟨pb,h⟩);refine ko (o.cells 1 rfl rfl) (h.held o.fr) (uB fun r6 w5 I U=>ig (h.held (o.fr.trans U)) ?_);exact h.put (t:=2) (o.fr.trans U) V oM ⟨lT _,oj _⟩ ⟨rfl,hB⟩ (I.up o.fr.size) (new C.drew R ((o.q7 U).at (i:=0) rfl)) (fun T q=>q.lA (a:=((i0,u),x)) ⟨hi,E⟩) fun F' w' h=>kk F' w' ⟨pb,h⟩
def FI{C d2 d3:Int}(h:SB w Y sb F c b)(G:3*b.size+1<=c)(I:jE i7 (u,C,d2,d3))(J:∀F' w',SB w' Y sb F' c (b.jp (u,C,d2,d3))->nI F w F' w'->K 0 w'): cW 26 [dF sb,.agg #[.int .u64 u,.int .u64 C,.int .u64 d2,.int .u64 d3]] di w K:=by refine qit<|oB (oE [] w) fun r1 w1 _ E o=>oC o 0 rfl (u,C,d2,d3) rfl (qns fun s t w2 R U V=>?_);exact SB.put (t:=3) h (E.trans V) G oM ⟨wN _ _,DG _ _⟩ ⟨lT _,oj _⟩ (R.up E.size) (U.up E.size) (fun T q=>q.jp I) J
def quZ{a0:Int}{r:HL mt}(h:SB w Y sb F c b)(E:3*b.size+1<=c)(G:k7 (a0,u))(C:jE mt r)(I:∀F' w',SB w' Y sb F' c (b.lR ((a0,u),r))->nI F w F' w'->K 0 w'): cW 71 [dF sb,de a0 u,.agg (HL.mk mt r).toArray] di w K:=by refine qiu<|oB (oE [] w) fun V w1 _ f1 o=>oB o fun r3 w2 _ f2 o=>oC o 1 rfl (a0,u) rfl (oC o 0 rfl r rfl (quG fun s t w3 J R U=>?_));exact SB.put (t:=6) h (o.fr.trans U) E oM ⟨ED _ _,GI _ _⟩ ⟨qyT _,qyS C⟩ (J.up o.fr.size) (R.up o.fr.size) (fun T q=>q.lR (a:=((a0,u),r)) ⟨G,C⟩) I
end
end
section
section
variable {w w' w1:World} {Y F F':List Nat} {sb pb c:Nat} {b b':Bk}
def qD.J0(h:qD wa Y sb pb F c b)(o:dQ [] wa w L):qD w (fi L++Y) sb pb F c b:=by obtain⟨dbk,FD,G,D,M,Fo,rfl,u,C,E,I,J,R⟩:=h;exact⟨dbk,FD,G,D,M,Fo,rfl,⟨u.tw.cB o,u.st,o.pC u.cell (fun h=>nomatch h),u.out⟩,C,E,I,J,R⟩
def qD.own(h:qD w (fi L++Y) sb pb F c b)(o:dQ T wa w L)(s:nI F w F' w'):dQ (fi L) w' w' L:=ql o s.fr fun b u=>SB.yf ⟨pb,h⟩ b (zH _ u)
def SB.count{t:Nat}(h:SB w1 Y sb F c b)(f:Fr [] w1 w)(E:t<8)(G:∀(T:Nat->fN) (x y:Int) w',Hb T b->Fr [] w w'->K (T t).length w'): nn (pW sb) fun a=>ld .ptr a w fun p=>cW 46 [.pointer p,.i t] [.agg [.u,.u,.u]] w fun q w'=>K q.2.1 w':=by obtain⟨pb,h⟩:=h;refine h.rc f ?_;obtain⟨dbk,FD,Fp,D,M,Fo,rfl,C,I,J,R,hc,hj⟩:=h;refine TW.J5 (C.q7 f).tw fun w' U=>?_;have V:=(qhg (C.st.J0.J2 t E)).2.2.1;rw[V];exact G _ 0 0 w' R U
def sP (b:Bk):List Int:=[b.acc.length,b.kc.length,b.jJ.length,b.due.length,b.me.length,b.mh.length,b.jz.length,b.last.toList.length]
abbrev c8:List Cell:=[.u,.u,.u,.u,.u,.u,.u,.u]
def tq (b:Bk):HL c8:=(b.acc.length,b.kc.length,b.jJ.length,b.due.length,b.me.length,b.mh.length,b.jz.length,b.last.toList.length)
def Hb.cnt{T:Nat->fN}(h:Hb T b){t:Nat}(u:t<8):(sP b)[t]?=some ((T t).length:Int):=by rcases qy6 u with rfl|rfl|rfl|rfl|rfl|rfl|rfl|rfl;rw[h.acc.len];rfl;rw[h.kc.len];rfl;rw[h.jJ.len];rfl;rw[h.due.len];rfl;rw[h.me.len];rfl;rw[h.mh.len];rfl;rw[h.jz.len];rfl;rw[h.pB,qw,zK];rfl
def quW{K:HL c8->WP}(h:SB w Y sb F c b)(kk:∀w',Fr [] w w'->K (tq b) w'): cW 16 [dF sb] [.agg c8] w K:=by
 refine qir<|oB (oE [] w) fun r1 w1 _ f1 o=>oB o fun R w2 _ f2 o=>iU (fun q w'=>∃i:Nat,q=i/\i<=8/\dQ [] w w' [(R,.cells (((sP b).take i).map (Value.int .u32)++(zs (8-i)).map (Value.int .u32)).toArray 64 (0,0)),(r1,.cells ((zs 8).map (Value.int .u32)).toArray 64 (0,0))]) (fun q _=>8-q.toNat) ⟨0,rfl,oM,o⟩ ?_;rintro q w3 ⟨i,rfl,hi,o⟩ X hX;apply cD<;>intro E;have C:i<8:=oJ;refine SB.count (K:=fun x w'=>gF (0<=(i:Int)/\(i:Int)<((8:Nat):Int)) (Pt.st (Addr.add (dg R) (Int.toNat i*1)) [.u x] w' fun w2=>X (wrap .i64 (i+1)) w2)) h o.fr C fun T _ _ U hb f4=>mP ⟨oJ,oJ⟩ ?_;simp only[Addr.q9];have V:((sP b).take i).length=i:=(by rw[yL];exact xR hi);have hx:=hb.cnt C;obtain⟨G,I⟩:=zP.1 hx;have J:dR (((sP b).take i).map (Value.int .u32)++(zs (8-i)).map (Value.int .u32)).toArray i [.u ((T i).length:Int)]=(((sP b).take (i+1)).map (Value.int .u32)++(zs (8-(i+1))).map (Value.int .u32)).toArray:=by
  have hz:(zs (8-i)).map (Value.int .u32)=[.u 0]++(zs (8-(i+1))).map (Value.int .u32):=(by rw[show 8-i=(8-(i+1))+1 by omega];rfl);rw[hz,<- zV,yG G,I,xN]
  have:=sL (A:=((sP b).take i).map (Value.int .u32)) (X:=[.u 0]) (Y:=[.u ((T i).length:Int)]) (Z:=(zs (8-(i+1))).map (Value.int .u32)) rfl
  rw[zK,V] at this;exact this
 rw[show 0+Int.toNat (i:Int)*1=i by omega,gg _ oJ];exact oG (o.q7 f4) 0 rfl _ J rfl (by rw[size_toArray,zF,zK,zK,V,oZ];show i+1<=_;omega) fun w5 o _=>hX _ _ ⟨i+1,rfl,C,o⟩ oJ;have C:i=8:=oJ;subst C;refine oC o 0 rfl (tq b) rfl (o.st' 1 rfl _ (kj rfl) rfl (zM _) fun U o _=>?_);exact oC o 1 rfl (tq b) rfl (kk U o.fr)
def qu0{k:Kp}(h:SB w Y sb F c b)(hr:3*(b.size+3)+1<=c)(C:ti k)(kk:∀F' w',SB w' Y sb F' c (b.jN k)->nI F w F' w'->K 0 w'): cW 24 [dF sb,.agg (nO k).toArray] di w K:=by refine qfp ?_;obtain⟨pb,h⟩:=h;refine oB (oE [] w) fun r1 w1 _ f1 o=>oC o 0 rfl k.1 rfl (oB o fun r4 w2 _ f2 o=>o.st' 0 rfl _ (kj rfl) rfl (zM _) fun w3 o f3=>?_);refine nJ (o.at (i:=1) rfl) (nO k) rfl rfl (quH fun s t w4 hs ht f4=>?_);have J:=o.fr;have h:=h.J0 o;have p1:=uW (kf:=qe) (a:=k) (l:=b.kc);have p2:=uW (kf:=ph) (a:=xg k.1) (l:=b.me);have z1:(b.lq k).size<=b.size+1:=(by unfold Bk.size Bk.lq;dsimp only;omega);have z2:((b.lq k).mL (xg k.1)).size<=b.size+2:=(by unfold Bk.size Bk.mL Bk.lq;dsimp only;omega);have hi:k7 (pg k.1):=⟨C.1.1,C.1.2.1⟩;have hn:IntKind.u64.has k.1.2.2.2.2.2.2.2.2.2.2.2.2.2.2.2:=C.1.2.2.2.2.2.2.2.2.2.2.2.2.2.2.2;refine h.rc f4 (h.put (t:=1) f4 oJ oM ⟨lT _,oj _⟩ ⟨xm _,qzQ _⟩ hs ht (fun T q=>q.lq C) fun F5 w5 G s5=>cond_false rfl ?_);have o5:=h.own o s5;have o:=o5.drew;have g:=(Fr.refl [] w5).drew;have R:k7 (k.1.2.2.1,k.1.2.2.2.1):=⟨C.1.2.2.1,C.1.2.2.2.1⟩;have U:k7 (k.1.2.2.2.2.1,k.1.2.2.2.2.2.1):=⟨C.1.2.2.2.2.1,C.1.2.2.2.2.2.1⟩;refine G.rc g (oC o 0 rfl (k.1.2.2.1,k.1.2.2.2.1) rfl (oA o 0 rfl k.1.2.2.2.2.2.2.2.2.2.2.2.2.2.2.2 rfl (oC o 0 rfl (k.1.1,k.1.2.1) rfl (Ct fun s6 w6 V u=>ko ((o.q7 u).cells 0 rfl rfl) (G.held (g.trans u)) (uB fun r7 w7 h7 E=>ig (G.held ((g.trans u).trans E)) ?_)))));refine G.put (t:=4) ((g.trans u).trans E) oJ oM ⟨ED _ _,GI _ _⟩ ⟨lT _,oj _⟩ ((V.q7 E).up (zM _)) (h7.up u.size) (fun T q=>q.mL (a:=xg k.1) ⟨⟨R,hn⟩,hi⟩) fun F8 w8 I s8=>cond_false rfl ?_;have o:=(G.own o5 s8).drew;have g:=(Fr.refl [] w8).drew;refine I.rc g (oC o 0 rfl (k.1.2.2.2.2.1,k.1.2.2.2.2.2.1) rfl (oA o 0 rfl k.1.2.2.2.2.2.2.2.2.2.2.2.2.2.2.2 rfl (oC o 0 rfl (k.1.1,k.1.2.1) rfl (Ct fun s6 w9 V u=>ko ((o.q7 u).cells 0 rfl rfl) (I.held (g.trans u)) (uB fun r7 au h7 E=>ig (I.held ((g.trans u).trans E)) ?_)))));exact I.put (t:=5) ((g.trans u).trans E) oJ oM ⟨ED _ _,GI _ _⟩ ⟨lT _,oj _⟩ ((V.q7 E).up (zM _)) (h7.up u.size) (fun T q=>q.oQ (a:=Cz k.1) ⟨⟨U,hn⟩,hi⟩) fun ab ac ad ae=>kk ab ac (SB.y0 ⟨pb,ad⟩ fun _ h=>zI _ h) (.pre J ((s5.trans s8).trans ae))
end
end
end
section
open Go Go.Pt List
open Go.IntKind (wrap)
open Classical
end
section
open Go Go.Pt List
open Go.IntKind (wrap)
open Classical
end
section
open Go Go.Pt List
open Go.IntKind (wrap)
open Classical
section
variable {w:World} {a b:iV} {K:iV×Bool->WP}
end
end
section
open Go Go.Pt List
open Go.IntKind (wrap)
open Classical
end
section
open Go Go.Pt List
open Go.IntKind (wrap)
open Classical
variable {K:Int->WP}
section
variable {w w' w1:World} {Y F F':List Nat} {sb pb c:Nat} {b b':Bk}
end
section
section
variable {w w' w1:World} {Y F F':List Nat} {sb c:Nat} {b:Bk} {ks vs:Sl}
def EO:eF [1]:=fun x h=>by rw[zE.1 h];exact⟨oM,oM⟩
def qD.wR{pb:Nat}{K:Sl×Int->WP}(h:qD w1 Y sb pb F c b)(U:Fr [] w1 w)(J:kE w1 w ks [1])(V:∀s w',b.last=none->Fr [] w w'->K (s,5) w')(k1:∀s B w' n,b.last=some n->fQ w' s (bw 8 n) B->(∀x∈B,w.heap.size<=x)->Fr [] w w'->K (s,0) w'): cW 47 [dF pb,.i 7,ks.v] dk w K:=by
 obtain⟨dbk,FD,Fp,D,M,Fo,rfl,I,ab,ac,hb,hc,hj⟩:=h;have C:=I.q7 U;have hT:=C.st.J0.J2 7 oM;have u:=hT.get (key:=[1]) C.st.J1.wf C.st.J1.Q3;have ht:(Fo 7).1=qw b.last:=hb.pB;have E:=vN (t:=7) oM;rw[ht] at u;cases G:b.last with
 | none=>
  rw[G] at u;have e:jc [1] (qw none)=none:=rfl;rw[e] at u;exact (GL (t:=((7:Nat):Int)) (f:=(dU M ((7:Nat):Int)).2.2.toNat) EO E.1 oM rfl C.tw (J.to I.tw.sI) (by rw[u];decide) fun s B w' _ _ f=>by rw[u];exact V s w' G f)
 | some n=>
  rw[G] at u;have e:jc [1] (qw (some n))=some (bw 8 n):=rfl;rw[e] at u;exact (GL (t:=((7:Nat):Int)) (f:=(dU M ((7:Nat):Int)).2.2.toNat) EO E.1 oM rfl C.tw (J.to I.tw.sI) (by rw[u];exact (by decide:(0:Int)≠-1)) fun s B w' R nB f=>by rw[u] at R⊢;exact k1 s B w' n G R nB f)
end
end
section
section
variable {w w' w1:World} {Y F F':List Nat} {sb c:Nat} {b:Bk}
def Gz{r:Nat}{T:TypeId}(h:w.heap.size<=r)(u:w'.heap[r]?=some (.cells #[.b 1] T (0,0))):kE w w' ⟨pW r,1,1⟩ [1]:=C3 (L:=[1]) h u oM oM rfl
def qs9{n:Int}(h:SB w Y sb F c b)(J:3*b.size+1<=c)(R:∀F' w',SB w' Y sb F' c (b.jI n)->nI F w F' w'->K 0 w'): cW 19 [dF sb,.int .u64 n] di w K:=by
 refine qhD ?_;obtain⟨pb,h⟩:=h;have g:=(Fr.refl [] w).drew;have C:∀ {r:Nat} {s:Sl} {w2:World},Fr [] w w2->kE w w2 ⟨pW r,1,1⟩ [1]->kE w w2 s (bw 8 n)->cW 50 [dF pb,.i 7,.slice (pW r) 1 1,s.v] di w2 K:=fun {r s w2} f U V=>
  h.put (t:=7) (ks:=⟨pW r,1,1⟩) f J oM ⟨rfl,EO⟩ ⟨k8 _ _,po _ _⟩ U V (fun T q=>q.jI) fun F' w' h s=>R F' w' ⟨pb,h⟩ s
 refine⟨h.rc g (oB (oE [] w.drew) fun r w1 e1 E o=>ig (h.held (g.trans E)) (Bg fun r2 w2 G u=>ig (h.held ((g.trans E).trans u)) (C ((g.trans E).trans u) (Gz (by rw[e1];exact zM _) ((o.q7 u).at (i:=0) rfl)) (G.up E.size)))),?_⟩;exact h.rc g (Bg fun r2 w2 G u=>ig (h.held (g.trans u)) (oB (oE [] w2) fun r w3 e3 I o=>ig (h.held ((g.trans u).trans I)) (C ((g.trans u).trans I) (Gz (by rw[e3];exact u.size) (o.at (i:=0) rfl)) (G.q7 I))))
def qxZ(h:SB w Y sb F c b)(hn:∀n,b.last=some n->np n)(kk:∀w',Fr [] w w'->K (b.last.getD 0) w'): cW 17 [dF sb] dl w K:=by
 refine qjZ ?_;obtain⟨pb,h⟩:=h;obtain⟨i,hi,hz,I,J⟩:=uO;refine h.rc (.refl _ _) (oB (oE [] w) fun r1 w1 e1 G o=>h.wR (ks:=⟨pW r1,1,1⟩) G (Gz (by rw[e1];exact zM _) (o.at (i:=0) rfl)) (fun s w2 C R=>cond_true rfl ?_) fun s B w2 n C U nB R=>cond_false rfl ?_)
 have:=kk w2 (G.trans R)
 rwa[C] at this;have E:s.len=(bw 8 n).length:=U.len;have h8:(bw 8 n).length=8:=k8 _ _;have hr:eh [] w2 s (bw 8 n):=U.jo kW fun _ _ h=>nomatch h;have hs:=tg (P:=Tryz.prog) (tx:=101) (e':=5) hr kW (fun x u hu=>by rw[zE.1 hu];rfl) oK;refine eQ.j1 (ys:=bw 8 n) (e:=5) U kW oK hi hz I rfl hs E (by rw[J];omega) oJ fun s' B' w3 V f3 _ _=>qnr (n:=n) (m:=n) (V.jo kW fun _ _ h=>nomatch h) (hn n C) (hn n C) ?_;have ff:Fr [] w w3:=(G.trans R).j8 f3 fun x hx=>.inr (zL G.size (nB x hx))
 have:=kk w3.drew ff.drew
 rwa[C] at this
end
end
section
section
variable {w w':World} {Q:Nat×Nat} {sb dbk pb c t:Nat} {Y FD F F':List Nat} {D:dI} {M M':dY} {Fo Fo':jU} {b:Bk}
def nh.nm{K:Int->WP}(h:nh w Y sb dbk pb FD F D M c Q Fo)(hq:Q.2<=100)(R:c+eI Q.1+jD Fo+2<=Q.1)(U:eI Q.1+jD Fo<=c)(G:HG∉FD)(V:sb∉FD)(kk:∀u F' w' D' M',nh w' Y sb dbk pb u F' D' M' c (Q.1,Q.2+1) Fo->HG∉u->sb∉u->Fr (FD++F) w w'->(∀b∈u++F',b∈FD++F\/w.heap.size<=b)->K 0 w'): cW 72 [pP pb] di w K:=by obtain⟨D',M',e,hS⟩:=h.st.nm oJ R U;have ht:=h.st.J1.x6;have hl:=eZ h.cell;have ae:HG<w.heap.size:=h.tw.sI HG (by simp[Zo]);refine quz h.tw oJ ⟨ht.1,oJ⟩ G fun u F' w' I f n=>?_;rw[e] at I⊢;have E:sb∉FD++F:=fun C=>(zD.1 C).elim V h.out;have hF:HG∉FD++F:=fun C=>(zD.1 C).elim G (h.tw.x8.sep HG oL);exact kk u F' w' D' M' ⟨I,hS,by rw[f.block sb hl E];exact h.cell,fun C=>(n sb (zI _ C)).elim E fun J=>oJ⟩ (fun C=>(n HG (zH _ C)).elim hF fun J=>oJ) (fun C=>(n sb (zH _ C)).elim E fun J=>oJ) f n
def SB.nm{K:Int->WP}(h:SB w Y sb F c b)(hp:w.heap[sb]?=some (.cells #[pP pb] zy (0,0)))(hq:b.cm.2.1<=100)(hc:c+eI b.cm.1+b.size+2<=b.cm.1)(hr:eI b.cm.1+b.size<=c)(kk:∀F' w' g,SB w' Y sb F' c (b.wF.gs g)->nI F w F' w'->K 0 w'):cW 72 [pP pb] di w K:=by
 obtain⟨E,dbk,FD,Fp,D,M,Fo,rfl,hS,G,I,u,J,hj⟩:=h;have e:pb=E:=by
  have:=hS.cell
  rw[hp] at this;cases this;rfl
 subst e;have hs:=u.size;have hk:jD Fo=b.size:=(by unfold jD;exact hs);refine hS.nm (Q:=(b.cm.1,b.cm.2.1)) hq oN oN G I fun C F' w' D' M' R U V f n=>kk (C++F') w' (pb,D',mp M') ⟨pb,dbk,C,F',D',M',Fo,rfl,R,U,V,⟨u.acc,u.kc,u.jJ,u.due,u.me,u.mh,u.jz,u.pB⟩,J,by show b.cm.2.1+1<=150;omega,rfl⟩ ⟨f,n⟩
end
end
section
section
variable {dbk pb j:Nat} {FD Y F:List Nat} {D:dI} {M:dY} {k v:Nat} {t:Int} {w0:World}
def qxN{ks:Sl}{key:Key}{f2:Nat}(E:eF key)(R:rm t=((k:Int),(v:Int)))(C:k≠0)(G:key.length=k)(V:TW dbk pb FD D j w0 Y F M)(U:eh (Zo FD Y F) w0 ks key)(u:(lL D k v key M f2 (dU M t).1).2=5)(kk:∀w',Fr [] w0 w'->K 5 w'): cW 61 [dF pb,.i t,ks.v] di w0 K:=by refine qmz ?_;have ab:=U.1;have h:=oE [] w0;refine oB h fun r1 w2 _ _ h=>oA h 0 rfl ks rfl<|De (k:=k) (v:=v) R (fun h=>absurd h C) (fun _ h=>absurd oJ h) fun _ _ w7 f7=>?_;have h:=h.q7 f7;refine oB h fun r8 w9 _ _ h=>oD h 0 rfl (mZ (jx k v pb t)) fun ad h _=>cond_false rfl<|oA h 1 rfl ks rfl<|Gv (f:=f2) E R C G (V.cB h) (uk U h) (by rw[u];decide) fun s I _ J=>?_;rw[u];exact cond_true rfl (kk I (h.fr.trans J))
end
section
variable {w w' w1:World} {Q:Nat×Nat} {sb dbk pb c t:Nat} {Y FD F F':List Nat} {D:dI} {M M':dY} {Fo Fo':jU} {key val:Key} {ks vs:Sl} {b b':Bk}
def nh.tY(h:nh w Y sb dbk pb FD F D M c Q Fo)(C:t<8)(E:key.length=(kv t).1/\eF key)(I:key∉dP (Fo t).1)(J:eh (Zo FD Y F) w ks key)(R:∀w',Fr [] w w'->K 5 w'):cW 61 [pP pb,.i t,ks.v] di w K:=by have u:=vN C;have U:=h.st.J0.J2 t C;have G:=U.get (key:=key) h.st.J1.wf h.st.J1.Q3;have V:jc key (Fo t).1=none:=yq fun x hx e=>I (by rw[<- e];exact zZ hx);rw[V] at G;exact qxN (f2:=(dU M t).2.2.toNat) E.2 u.1 oJ E.1 h.tw J (by rw[G]) R
def SB.tY{t:Nat}{g:Key}{ks:Sl}{K:Int->WP}(h:SB w1 Y sb F c b)(f:Fr [] w1 w)(E:t<8)(G:g.length=(kv t).1/\eF g)(I:kE w1 w ks g)(J:∀T,Hb T b->g∉dP (T t))(R:∀w',Fr [] w w'->K 5 w'):nn (pW sb) fun a=>ld .ptr a w fun p=>cW 61 [.pointer p,.i t,ks.v] di w K:=by obtain⟨pb,dbk,FD,Fp,D,M,Fo,rfl,u,U,V,hb,hc,hj⟩:=h;have C:=u.q7 f;exact C.rc (C.tY E G (J _ hb) (I.to u.tw.sI) R)
def qs8{u C d2 d3:Int}(h:SB w Y sb F c b)(U:3*b.size+1<=c)(I:jE i7 (u,C,d2,d3))  (V:(∃x∈b.due,k9 x=(u,C))->∀F' w',SB w' Y sb F' c (b.kC (u,C,d2,d3))->nI F w F' w'->K 0 w')(k5:(∀x∈b.due,k9 x≠(u,C))->∀w',Fr [] w w'->K 5 w'): cW 25 [dF sb,.agg #[.int .u64 u,.int .u64 C,.int .u64 d2,.int .u64 d3]] di w K:=by refine qis<|oB (oE [] w) fun r1 w1 _ E o=>oC o 0 rfl (u,C,d2,d3) rfl (qns fun s t w2 R ht J=>?_);by_cases hin:∃x∈b.due,k9 x=(u,C);exact SB.cut (t:=3) h (E.trans J) U oM (R.up E.size) (fun T q=>lB.mem (K:=tG) (k:=(u,C)) q.due hin) (fun T q=>q.kC I) (V hin);exact SB.tY (t:=3) h (E.trans J) oM ⟨wN _ _,DG _ _⟩ (R.up E.size) (fun T q hm=>by obtain⟨x,G,e⟩:=q.due.1.J6.1 hm;exact hin ⟨x,G,T64.inj (q.due.2 x G |>.1 |> fun h=>⟨h,(q.due.2 x G).2.1⟩) ⟨I.1,I.2.1⟩ e⟩) fun w' f=>k5 (fun x G e=>hin ⟨x,G,e⟩) w' ((E.trans J).trans f)
def qtg{d:HL i7}(h:∀x∈b.due,k9 x≠k9 d):b.kC d=b:=by unfold Bk.kC i8;rw[filter_eq_self.2 fun x u=>yA (h x u)]
end
end
end
section
open Go Go.Pt List
open Go.IntKind (wrap)
variable {K:Int->WP}
structure pi where
 pb:Nat
 k:Nat
 v:Nat
 frm:Sl
 to:Sl
 st:Sl
 f1:Value
 f2:Value
 f3:Value
def pi.cells (x:pi):Array Value:=#[.pointer (some ⟨x.pb,0,none⟩),.i x.k,.i x.v,x.frm.v,x.to.v,x.st.v,x.f1,x.f2,x.f3]
def mJ (w:World) (cb:Nat) (x:pi):Prop:=∃T,w.heap[cb]?=some (.cells x.cells T (0,0))
def mJ.q8{S:List Nat}{w w':World}{cb:Nat}{x:pi}(h:mJ w cb x)(f:Fr S w w')(u:cb∉S):mJ w' cb x:=by obtain⟨T,h⟩:=h;exact⟨T,by rw[f.block cb (eZ h) u];exact h⟩
def mJ.q7{w w':World}{cb:Nat}{x:pi}(h:mJ w cb x)(f:Fr [] w w'):mJ w' cb x:=h.q8 f fun h=>nomatch h
def mJ.frm{w:World}{cb:Nat}{x:pi}{K:Sl->Prop}(h:mJ w cb x)(k:K x.frm):ld .slice (dg cb 3) w K:=by obtain⟨T,h⟩:=h;exact pr x.frm (ji h) k
def mJ.to{w:World}{cb:Nat}{x:pi}{K:Sl->Prop}(h:mJ w cb x)(k:K x.to):ld .slice (dg cb 4) w K:=by obtain⟨T,h⟩:=h;exact pr x.to (ji h) k
section
variable {w:World} {cb:Nat} {x:pi} {S:List Nat} {y:ka} {n:dL} {frm to:Key}
def qBc{i:Int}(hi:-1000000<=i/\i<=1000000)(h:K (i+1) w):cW 76 [dF cb,.i i] di w K:=by refine qjN ?_;rw[IntWalk.i64_in _ oJ];exact h
def qzA{i:Int}(hi:-1000000<=i/\i<=1000000)(h:K (i-1) w):cW 79 [dF cb,.i i] di w K:=by refine qhO ?_;rw[IntWalk.i64_in _ oJ];exact h
def qx3{ks:Sl}{key:Key}{K:Bool->WP}(h:mJ w cb x)(u:eh S w ks key)(C:eh S w x.to to)(E:eF key)(G:eF to)(I:K (decide (cmpL key to>0)) w):cW 78 [dF cb,ks.v] dj w K:=by refine qhq<|fv (h.to ?_);exact BC u C E G I
def qx9{ks:Sl}{key:Key}{K:Bool->WP}(h:mJ w cb x)(u:eh S w ks key)(C:eh S w x.frm frm)(E:eF key)(G:eF frm)(I:K (decide (cmpL key frm<0)) w):cW 81 [dF cb,ks.v] dj w K:=by refine qhr<|fv (h.frm ?_);exact BC u C E G I
def qye(h:mJ w cb x)(E:eC S w y n)(R:eh S w x.frm frm)(U:eF frm)(V:fJ n.J6)(hl:n.J6.length<=1000000)(kk:∀w',Fr [] w w'->K (jM n frm) w'):cW 77 [dF cb,.agg (eJ y)] di w K:=by
 refine qiP<|oB (oE [] w) fun r w1 e1 f1 ho=>oA ho 0 rfl y.1 rfl ?_;have hd:=oF ho;have u:=f1.trans (Fr.refl [] w1).drew;have hy:y.1=n.Q4:=E.1;apply dW<;>intro G;have C:n.Q4=false:=(by rw[<- hy];simpa using G);refine oC hd 0 rfl y rfl<|fv ((h.q7 u).frm ?_);refine Bm (E.q7 u) (R.q7 u) U V hl fun I J=>?_
 have:=kk I (u.trans J)
 rw[jM,if_neg (by rw[C];decide)] at this;exact this;have C:n.Q4=true:=(by rw[<- hy];simpa using G);refine oC hd 0 rfl y rfl<|fv ((h.q7 u).frm ?_);refine Ds (E.q7 u) (R.q7 u) U V hl fun I J=>?_
 have:=kk I (u.trans J)
 rw[jM,if_pos C] at this;exact this
def qwp(h:mJ w cb x)(G:eC S w y n)(U:eh S w x.to to)(V:eF to)(hr:fJ n.J6)(hl:n.J6.length<=1000000)(kk:∀w',Fr [] w w'->K (ik n to) w'):cW 80 [dF cb,.agg (eJ y)] di w K:=by
 refine qhP<|oB (oE [] w) fun r w1 e1 f1 ho=>?_;have I:=oF ho;have u:=f1.trans (Fr.refl [] w1).drew;have J:y.1=n.Q4:=G.1;refine oC I 0 rfl y rfl<|fv ((h.q7 u).to ?_);have af:=yi n.J6 to;refine Bm (G.q7 u) (U.q7 u) V hr hl fun w3 R=>?_;have C:=I.q7 R;refine oA C 0 rfl y.1 rfl ?_
 have:=kk w3 (u.trans R)
 apply dW<;>intro E;rw[ik,if_pos (by rw[<- J];exact E)] at this;rw[IntWalk.i64_in _ oJ];exact this;rw[ik,if_neg (by rw[<- J,E];decide)] at this;exact this
end
end
end Go.Proofs.YtpcmehldpoljfaaGreatDoor
namespace Go.Pt
section
open Go
def xn{P:Program}{w:World}{v:Value}{f:FuncId}{ra args:List Value}{ts:List gN}{K:iY ts->WP}(h:v=.func (.func f) ra.toArray #[])(u:iy P f=false)(k:call P f (ra++args) ts w K):ed P v args ts w K:=by subst h;refine .inl ⟨f,ra++args,?_,k⟩;simp[Deferred.ofValue,invoke,Ac u]
def BS{S ι:Type}{B:(S->WP)->S->WP}{s:S}{w:World}(I:ι->S->WP)(m:ι->Nat)(i0:ι)(G:I i0 s w)(step:∀i s w,I i s w->∀X:S->WP,(∀h u w',I h u w'->m h<m i->X u w')->B X s w):loop S B s w:=by
 intro J R;have key:∀k i s w,m i=k->I i s w->J s w:=by
  intro k;induction k using Nat.strongRecOn with
  | _ k ih=>
   intro i s w U V;exact R s w (step i s w V J fun h u w' C E=>ih (m h) (U▸E) h u w' rfl C)
 exact key _ i0 s w rfl G
end
end Go.Pt
namespace Go.Proofs.YtpcmehldpoljfaaGreatDoor
section
open Go Go.Pt List
open Go.IntKind (wrap)
abbrev qi:=ka×kr
def AD (x:ka) (i:Int):Array Value:=#[.bool x.1,x.2.1.v,x.2.2.1.v,x.2.2.2.v,.i i]
def iS (z:qi):List Value:=[.bool z.1.1,z.1.2.1.v,z.1.2.2.1.v,z.1.2.2.2.v,.i z.2.2]
def vJ:∀z,(iS z).length=5:=fun _=>rfl
def qwB(z:qi):∀u∈iS z,u.oneCell'=true:=fun u h=>by unfold iS at h;simp only[zG,xX,or_false] at h;rcases h with rfl|rfl|rfl|rfl|rfl<;>rfl
section
variable {w w':World} {s:Sl} {zs:List qi} {z:qi} {SB:List Nat}
def CS(h:eQ iS 5 w s (zs++[z]) SB):∃b u T,SB=[b]/\s.a=pW b/\w.heap[b]?=some (.cells u T (0,0))/\s.len=zs.length+1/\s.len<=s.cap/\s.cap*5<=u.size/\u.toList.take (zs.length*5+5)=zs.flatMap iS++iS z:=by rcases h with ⟨_,h,_⟩|⟨b,o,u,T,G,rfl,I,J,E,R,U,C⟩;exact absurd h oL;rw[zF,xM] at E C;rw[xF,yQ,yH,flatMap_nil,xH,xU] at C;exact⟨b,u,T,G,I,J,E,R,oJ,C⟩
def qyX{b j:Nat}(h:eQ iS 5 w s (zs++[z]) [b])(I:j<5):w.cell? ⟨b,zs.length*5+j,none⟩=(iS z)[j]?:=by obtain⟨b',J,T,C,R,E,U,V,h6,G⟩:=CS h;cases C;rw[ji E,<- xL];have u:=congrArg (·[zs.length*5+j]?) G;rw[xB,iP,yY (by rw[pQ vJ];omega),pQ vJ,vD] at u;exact u
def qut{K:Addr->Prop}(h:eQ iS 5 w s (zs++[z]) SB)(G:zs.length<=1000000)(u:∀b,SB=[b]->K ⟨b,zs.length*5,none⟩):idx s (wrap .i64 ((s.len:Int)-1)) 5 K:=by obtain⟨b,I,T,C,E,J,R,U,V,h7⟩:=CS h;have e:wrap .i64 ((s.len:Int)-1)=(zs.length:Int):=(by rw[IntWalk.i64_in _ oJ];omega);rw[e];refine qj E ⟨oJ,oJ⟩ ?_;rw[zJ,xS];exact u b C
def qAU{b:Nat}{j:Int}{K:WP}(h:eQ iS 5 w s (zs++[z]) [b])(kk:∀w',eQ iS 5 w' s (zs++[(z.1,z.2.1,j)]) [b]->Fr [b] w w'->K w'):st ⟨b,zs.length*5+4,none⟩ [.i j] w K:=by
 obtain⟨b',cs,T,hB,h2,h3,h4,h5,h6,h7⟩:=CS h;cases hB;have hm:(zs.flatMap iS++iS z).length=zs.length*5+5:=(by rw[zF,pQ vJ];rfl);refine qP h3 _ rfl (by rfl) oO fun w' hb f=>kk w' (.inr ⟨b,0,_,T,rfl,rfl,h2,hb,by rw[zF,xM];exact h4,h5,by rw[mR];omega,?_⟩) f
 have:=qqI (cs:=cs) (M:=zs.flatMap iS++iS z) (i:=zs.length*5+4) (v:=.i j) (by rw[hm];omega) (by rw[hm];exact h7)
 rw[hm,set_append_right _ _ (by rw[pQ vJ];omega),pQ vJ,vD] at this;rw[xF,zF,xM,xU,yQ,yH,flatMap_nil,xH];exact this
def qAe{K:Sl->Prop}(h:eQ iS 5 w s (zs++[z]) SB)(V:zs.length<=1000000)(E:∀u,eQ iS 5 w u zs SB->K u):fD s none (some (wrap .i64 ((s.len:Int)-1))) none 5 K:=by obtain⟨b,G,T,I,J,R,h4,h5,h6,U⟩:=CS h;have e:wrap .i64 ((s.len:Int)-1)=(zs.length:Int):=(by rw[IntWalk.i64_in _ oJ];omega);rw[e];refine zj ⟨oJ,oJ⟩ ?_;rw[zJ];refine E _ (.inr ⟨b,0,G,T,I,rfl,J,R,rfl,by dsimp only;omega,by dsimp only;omega,?_⟩);have C:=congrArg (List.take (zs.length*5)) U;rw[take_take,xR oJ] at C;rw[xF,C,take_append_of_le_length (by rw[pQ vJ];exact zM _)];exact zS (by rw[pQ vJ];exact zM _)
end
def mv (cb:Nat) (down:Bool):Value:=.func (.func (if down then 79 else 76)) #[dF cb] #[]
def mI (cb:Nat) (down:Bool):Value:=.func (.func (if down then 80 else 77)) #[dF cb] #[]
def nz (cb:Nat) (down:Bool):Value:=.func (.func (if down then 81 else 78)) #[dF cb] #[]
def jA (down:Bool) (frm to:Key) (n:dL):Int:=if down then ik n to else jM n frm
def jG (down:Bool) (i:Int):Int:=if down then i-1 else i+1
def mU (down:Bool) (frm to key:Key):Bool:=if down then decide (cmpL key frm<0) else decide (cmpL key to>0)
structure gb (dbk pb:Nat) (FD:List Nat) (D:dI) (F:List Nat) (M:dY) (k v:Nat) (frm to:Key) (down:Bool) (w0:World) (cb:Nat) (Y:List Nat) (w:World) (st:Sl) (SB:List Nat) (zs:List qi):Prop where
 cell:∃ sf sto,mJ w cb ⟨pb,k,v,sf,sto,st,mv cb down,mI cb down,nz cb down⟩/\eh (cb::(SB++Y)) w sf frm/\eh (cb::(SB++Y)) w sto to
 tw:TW dbk pb FD D 900000 w (cb::(SB++Y)) F M
 t5:eQ iS 5 w st zs SB
 nodes:∀ z∈zs,eC (cb::(SB++Y)) w z.1 z.2.1/\fC z.2.1 k v
 Di:cb∉SB
 Au:cb∉Y
 wK:∀ b∈SB,b∉Y
 new:∀ b∈cb::SB,w0.heap.size<=b
 wv:eF frm
 GW:eF to
 An:zs.length<=100000
section
variable {dbk pb:Nat} {FD F:List Nat} {D:dI} {M:dY} {k v:Nat} {frm to:Key} {down:Bool} {w0 w w':World} {cb:Nat} {Y Y' SB SB':List Nat} {st st':Sl} {zs zs':List qi}
def gb.x6(h:gb dbk pb FD D F M k v frm to down w0 cb Y w st SB zs)(f:Fr (cb::(SB++Y)) w w')(hc:∃V G T,w.heap[cb]?=some (.cells (pi.cells ⟨pb,k,v,V,G,st,mv cb down,mI cb down,nz cb down⟩) T (0,0))/\w'.heap[cb]?=some (.cells (pi.cells ⟨pb,k,v,V,G,st',mv cb down,mI cb down,nz cb down⟩) T (0,0)))(E:eQ iS 5 w' st' zs' SB')(hn:∀z∈zs',eC (cb::(SB'++Y')) w' z.1 z.2.1/\fC z.2.1 k v)(hS:∀b∈SB',b∈SB\/w.heap.size<=b)(hY:∀b∈Y',b∈Y\/w.heap.size<=b)(ac:∀b∈Y',b<w'.heap.size)(ad:∀b∈SB',b∉Y')(hl:zs'.length<=100000):gb dbk pb FD D F M k v frm to down w0 cb Y' w' st' SB' zs':=by
 obtain⟨V,G,⟨T,u⟩,ae,af⟩:=h.cell;obtain⟨U,I,T',e,aa⟩:=hc;rw[e] at u;have e1:U=V/\I=G:=by
  injection u with u
  injection u with u
  unfold pi.cells at u;simp only[Array.mk.injEq,List.cons.injEq,Value.slice.injEq,and_true,true_and] at u;obtain⟨⟨a1,a2,a3⟩,⟨b1,b2,b3⟩⟩:=u;exact⟨by cases V;cases U;simp_all,by cases G;cases I;simp_all⟩
 obtain⟨rfl,rfl⟩:=e1;have an:=eZ e;have J:∀b∈cb::(SB'++Y'),b∈cb::(SB++Y)\/w.heap.size<=b:=fun b E=>by rcases zG.1 E with rfl|E;exact .inl oL;rcases zD.1 E with E|E;exact (hS b E).imp (fun h=>by simp[h]) id;exact (hY b E).imp (fun h=>by simp[h]) id
 have ag:∀b∈cb::(SB'++Y'),b<w'.heap.size:=fun b C=>by rcases zG.1 C with rfl|C;exact eZ aa;rcases zD.1 C with C|C;exact E.lt b C;exact ac b C
 have ah:w0.heap.size<=cb:=h.new cb oL;refine⟨⟨U,I,⟨T',aa⟩,ae.q8 f J,af.q8 f J⟩,h.tw.cM f ag J,E,hn,fun hm=>?_,fun hm=>?_,ad,fun b E=>?_,h.wv,h.GW,hl⟩;rcases hS cb hm with R|R;exact h.Di R;omega;rcases hY cb hm with R|R;exact h.Au R;omega;rcases zG.1 E with rfl|E;exact ah;rcases hS b E with R|R;exact h.new b (by simp[R]);omega
def gb.at(h:gb dbk pb FD D F M k v frm to down w0 cb Y w st SB zs):∃C u T,w.heap[cb]?=some (.cells (pi.cells ⟨pb,k,v,C,u,st,mv cb down,mI cb down,nz cb down⟩) T (0,0)):=by obtain⟨C,u,⟨T,E⟩,_⟩:=h.cell;exact⟨C,u,T,E⟩
def gb.lt(h:gb dbk pb FD D F M k v frm to down w0 cb Y w st SB zs):∀b∈cb::(SB++Y),b<w.heap.size:=h.tw.qo
def gb.q8(h:gb dbk pb FD D F M k v frm to down w0 cb Y w st SB zs)(f:Fr Y w w')(C:∀b∈Y',b∈Y\/w.heap.size<=b)(E:∀b∈Y',b<w'.heap.size):gb dbk pb FD D F M k v frm to down w0 cb Y' w' st SB zs:=by
 obtain⟨sf,G,T,I⟩:=h.at
 have J:=eZ I;have R:Fr (cb::(SB++Y)) w w':=f.mono fun b u _=>by simp[u]
 refine h.x6 R ⟨sf,G,T,I,by rw[f.block cb J h.Au];exact I⟩ (h.t5.q8 f h.wK) (fun z U=>⟨(h.nodes z U).1.q8 R fun b u=>?_,(h.nodes z U).2⟩) (fun b u=>.inl u) C E (fun b u hm=>?_) h.An;rcases zG.1 u with rfl|u;exact .inl oL;rcases zD.1 u with u|u;exact .inl (by simp[u]);exact (C b u).imp (fun h=>by simp[h]) id;rcases C b hm with V|V;exact h.wK b u V
 have:=h.lt b (by simp[u]);omega
def gb.q7(h:gb dbk pb FD D F M k v frm to down w0 cb Y w st SB zs)(f:Fr [] w w'):gb dbk pb FD D F M k v frm to down w0 cb Y w' st SB zs:=
 h.q8 (f.mono fun _ h=>nomatch h) (fun b u=>.inl u) fun b u=>yD (h.lt b (by simp[u])) f.size
def gb.drew(h:gb dbk pb FD D F M k v frm to down w0 cb Y w st SB zs):gb dbk pb FD D F M k v frm to down w0 cb Y w.drew st SB zs:=h.q7 (Fr.refl [] w).drew
def gb.pA{K:Sl->Prop}(h:gb dbk pb FD D F M k v frm to down w0 cb Y w st SB zs)(u:K st):ld .slice (dg cb 5) w K:=by
 obtain⟨G,C,T,E⟩:=h.at
 exact pr st (ji E) u
def gb.tv{K:WP}(h:gb dbk pb FD D F M k v frm to down w0 cb Y w st SB zs)(w1:World)(f:Fr SB w w1)(u:eQ iS 5 w1 st' zs' SB')(hn:∀z∈zs',z∈zs\/eC (cb::(SB'++Y)) w1 z.1 z.2.1/\fC z.2.1 k v)(R:∀b∈SB',b∈SB\/w.heap.size<=b)(hl:zs'.length<=100000)(kk:∀w',gb dbk pb FD D F M k v frm to down w0 cb Y w' st' SB' zs'->Fr (cb::SB) w w'->K w'):Pt.st (dg cb 5) [st'.v] w1 K:=by
 obtain⟨V,E,T,hc⟩:=h.at
 have ab:=eZ hc;have ac:w1.heap[cb]?=some (.cells (pi.cells ⟨pb,k,v,V,E,st,mv cb down,mI cb down,nz cb down⟩) T (0,0)):=(by rw[f.block cb ab h.Di];exact hc);have I:cb∉SB':=fun G=>by rcases R cb G with C|C;exact h.Di C;omega
 refine qP ac (pi.cells ⟨pb,k,v,V,E,st',mv cb down,mI cb down,nz cb down⟩) rfl rfl (zO rfl) fun w2 ad f2=>?_;have U:Fr (cb::SB) w w2:=(f.mono fun b u _=>by simp[u]).j8 f2 fun b u=>.inl (by rw[zE.1 u];simp);refine kk w2 (h.x6 (U.mono fun b u _=>by rcases zG.1 u with rfl|u<;>simp[*]) ⟨V,E,T,hc,ad⟩ (u.q8 f2 fun b u G=>I (by rw[zE.1 G] at u;exact u)) (fun z hz=>?_) R (fun b u=>.inl u) (fun b u=>yD (h.lt b (by simp[u])) U.size) (fun b u G=>?_) hl) U;have J:∀b∈cb::(SB'++Y),b∈cb::(SB++Y)\/w.heap.size<=b:=fun b u=>by rcases zG.1 u with rfl|u;exact .inl oL;rcases zD.1 u with u|u;exact (R b u).imp (fun h=>by simp[h]) id;exact .inl (by simp[u])
 rcases hn z hz with C|C;exact⟨(h.nodes z C).1.q8 (U.mono fun b u _=>by rcases zG.1 u with rfl|u<;>simp[*]) J,(h.nodes z C).2⟩;exact⟨C.1.q8 (f2.mono fun b u _=>by rw[zE.1 u];simp) fun b u=>.inl u,C.2⟩;rcases R b u with C|C;exact h.wK b C G
 have:=h.lt b (by simp[G]);omega
def gb.vi{z:qi}{b:Nat}{j:Int}{K:WP}(h:gb dbk pb FD D F M k v frm to down w0 cb Y w st [b] (zs++[z]))(U:∀w',gb dbk pb FD D F M k v frm to down w0 cb Y w' st [b] (zs++[(z.1,z.2.1,j)])->Fr [b] w w'->K w'):Pt.st ⟨b,zs.length*5+4,none⟩ [.i j] w K:=by
 refine qAU h.t5 fun w' V f=>U w' ?_ f;obtain⟨sf,G,T,I⟩:=h.at
 have J:cb∉[b]:=h.Di;have R:Fr (cb::([b]++Y)) w w':=f.mono fun x u _=>by rw[zE.1 u];simp
 have C:∀x∈cb::([b]++Y),x∈cb::([b]++Y)\/w.heap.size<=x:=fun x u=>.inl u;refine h.x6 R ⟨sf,G,T,I,by rw[f.block cb (eZ I) J];exact I⟩ V (fun y E=>?_) (fun x u=>.inl u) (fun x u=>.inl u) (fun x u=>yD (h.lt x (by simp[u])) f.size) h.wK (by have:=h.An;rw[zF] at this⊢;exact this);rcases zD.1 E with E|E;exact⟨(h.nodes y (zH _ E)).1.q8 R C,(h.nodes y (zH _ E)).2⟩;rw[zE.1 E];exact⟨eC.q8 (h.nodes z oL).1 R C,(h.nodes z oL).2⟩
end
end
end Go.Proofs.YtpcmehldpoljfaaGreatDoor
namespace Go.Pt
section
open Go
def qyC{o:Obj}{w:World}{H:WP}{R:Nat->WP}(h:Pt.new o w R)(u:∀w',Fr [] w w'->H w'):Pt.new o w fun r w1=>held [H] w1 (R r w1):=⟨u _ ((Fr.refl [] w).alloc o),h⟩
end
end Go.Pt
namespace Go.Proofs.YtpcmehldpoljfaaGreatDoor
section
open Go Go.Pt List
open Classical
abbrev FT:TypeId:=176
def qAy:∃i,Tryz.prog.info? FT=some i/\i.zero=some (.agg cZ)/\i.size=5/\i.bytes=88:=sK oK
def qAP{w:World}{s:Sl}{zs:List qi}{SB:List Nat}{x:ka}{n:dL}{i:Int}{H:WP}{K:Sl->WP}(h:eQ iS 5 w s zs SB)(U:zs.length<=1000000)(G:∀w',Fr [] w w'->H w')(I:∀E B' w',eQ iS 5 w' E (zs++[(x,n,i)]) B'->Fr SB w w'->(∀b∈B',b∈SB\/w.heap.size<=b)->K E w'): Pt.new (.cells (AD x i) FT) w fun r w1=>held [H] w1 (Pt.run dh ((Builtin.append_ #[162,162] 162 #[s.v,.slice (pW r) 1 1]).run Tryz.prog w1) K):=by obtain⟨j,J,R,u,C⟩:=qAy;exact qyC (eQ.push (e:=FT) (x:=((x,n,i):qi)) h vJ (qwB _) oK J R u rfl rfl (by rw[C];omega) oJ I) G
section
variable {dbk pb:Nat} {FD F:List Nat} {D:dI} {M:dY} {k v:Nat} {frm to:Key} {down:Bool} {w0 w wA:World} {cb:Nat} {Y SB:List Nat} {st:Sl} {zs:List qi} {x:ka} {n:dL} {i:Int}
def qrV{S:List Nat}{K:Int->WP}(h:gb dbk pb FD D F M k v frm to down w0 cb Y w st SB zs)(u:eC (cb::(SB++Y)) w x n)(C:fJ n.J6)(E:n.J6.length<=1000000)(G:∀w',Fr [] w w'->K (jA down frm to n) w'):ed Tryz.prog (mI cb down) [.agg (eJ x)] di w K:=by
 obtain⟨V,J,I,R,U⟩:=h.cell;cases down with
 | false=>exact xn (ra:=[dF cb]) rfl oK (qye I u R h.wv C E G)
 | true=>exact xn (ra:=[dF cb]) rfl oK (qwp I u U h.GW C E G)
def qxK{K:Int->WP}(hi:-1000000<=i/\i<=1000000)(h:K (jG down i) w):ed Tryz.prog (mv cb down) [.i i] di w K:=by
 cases down with
 | false=>exact xn (ra:=[dF cb]) rfl oK (qBc hi h)
 | true=>exact xn (ra:=[dF cb]) rfl oK (qzA hi h)
def qz2{ks:Sl}{key:Key}{K:Bool->WP}(h:gb dbk pb FD D F M k v frm to down w0 cb Y w st SB zs)(u:eh (cb::(SB++Y)) w ks key)(C:eF key)(E:K (mU down frm to key) w):ed Tryz.prog (nz cb down) [ks.v] dj w K:=by
 obtain⟨U,I,G,J,R⟩:=h.cell;cases down with
 | false=>exact xn (ra:=[dF cb]) rfl oK (qx3 G u R C h.GW E)
 | true=>exact xn (ra:=[dF cb]) rfl oK (qx9 G u J C h.wv E)
def gb.J0{T:List Nat}{L:List (Nat×Obj)}(C:gb dbk pb FD D F M k v frm to down w0 cb Y wA st SB zs)(h:dQ T wA w L)(E:∀b∈T,b∈Y):gb dbk pb FD D F M k v frm to down w0 cb Y w st SB zs:=
 C.q8 (h.fr.mono fun b u _=>E b u) (fun b u=>.inl u) fun b u=>yD (C.lt b (by simp[u])) h.fr.size
def eC.wC{T:List Nat}{L:List (Nat×Obj)}(C:eC (cb::(SB++Y)) wA x n)(h:dQ T wA w L)(E:∀b∈T,b∈Y):eC (cb::(SB++Y)) w x n:=
 C.q8 (h.fr.mono fun b u _=>by simp[E b u]) fun b u=>.inl u
def qqx{T:List Nat}{C E:Nat}{X:Int->WP}{K:Unit->WP}(hA:gb dbk pb FD D F M k v frm to down w0 cb Y wA st SB zs)(hN:eC (cb::(SB++Y)) wA x n)(h:dQ T wA w [(C,.cells (AD fx 0) FT (0,0)),(E,.cells (eJ x) ND (0,0))])(hT:∀b∈T,b∈Y)(hl:zs.length+1<=100000)(ai:fC n k v)(hI:n.Q4=false->∃j:Nat,i=j/\j<n.J9.length)(G:∀w' st' SB',gb dbk pb FD D F M k v frm to down w0 cb Y w' st' SB' (zs++[(x,n,i)])->Fr (cb::(SB++T)) wA w'->(∀b∈SB',b∈SB\/wA.heap.size<=b)->if n.Q4 then K () w' else X (n.J9.getD i.toNat 0) w'): CW (pW cb) K C x i w E X:=by
 unfold CW;refine oD h 0 rfl (AD x i) fun w1 h f1=>?_;have h:=oF h;have hC:=hA.J0 h hT;refine fv (hC.pA ?_);refine oC h 0 rfl (x.1,x.2.1,x.2.2.1,x.2.2.2,i) rfl<|qAP (x:=x) (n:=n) (i:=i) hC.t5 oJ (fun w' f=>?_) fun s' B' w2 aj f2 n2=>?_;obtain⟨sf,az,T,J⟩:=(hC.q7 f).at
 exact ji J;refine fv ?_;have R:=eZ (h.at (i:=1) rfl);have U:=eZ (h.at (i:=0) rfl);have al:=h.fr.size;have am:=hN.wC h hT;refine hC.tv w2 f2 aj (fun z hz=>(zD.1 hz).imp id fun hz=>?_) n2 (by rw[zF];exact hl) fun V h3 f3=>?_;rw[zE.1 hz];refine⟨am.q8 (f2.mono fun b u _=>by simp[u]) fun b u=>?_,ai⟩;rcases zG.1 u with rfl|u;exact .inl oL;rcases zD.1 u with u|u;exact (n2 b u).imp (fun h=>by simp[h]) id;exact .inl (by simp[u]);have f4:Fr (cb::(SB++T)) wA V:=(h.fr.mono fun b u _=>by simp[u]).trans (f3.mono fun b u _=>by rcases zG.1 u with rfl|u<;>simp[*]);have aa:∀r,r∈T\/wA.heap.size<=r->r∉cb::SB:=fun r hr hm=>by
  rcases hr with hr|hr;rcases zG.1 hm with rfl|hm;exact hA.Au (hT _ hr);exact hA.wK r hm (hT r hr)
  have:=hA.lt r (by rcases zG.1 hm with rfl|hm<;>simp[*])
  omega
 have ad:V.heap[E]?=some (.cells (eJ x) ND (0,0)):=(by rw[f3.block E R (aa E (h.own (E,.cells (eJ x) ND (0,0)) oL))];exact h.at (i:=1) rfl);have ap:V.heap[C]?=some (.cells (AD x i) FT (0,0)):=(by rw[f3.block C U (aa C (h.own (C,.cells (AD x i) FT (0,0)) oL))];exact h.at (i:=0) rfl);have G:=G V s' B' h3 f4 fun b u=>(n2 b u).imp id fun h=>zL al h;have I:x.1=n.Q4:=hN.1;refine iA ad x.1 rfl ?_;apply dW<;>intro J;rw[<- I,J,if_pos rfl] at G;exact G;rw[<- I,J,if_neg oM] at G;refine iA ad x.2.2.2 rfl<|iA ap i rfl ?_;obtain⟨j,rfl,hj⟩:=hI (by rw[<- I,J]);have ae:dZ iu 1 (cb::(B'++Y)) V x.2.2.2 n.J9:=(h3.nodes (x,n,(j:Int)) oL).1.2.2.2.2;refine dZ.get ae j rfl (zA hj) (y:=n.J9[j]) rfl ?_;rw[zJ,yR,zA hj] at G;exact G
def qxi{T:List Nat}{J:Nat}{X:Int->WP}{K:Unit->WP}(E:gb dbk pb FD D F M k v frm to down w0 cb Y wA st SB zs)(R:eC (cb::(SB++Y)) wA x n)(h:dQ T wA w [(J,.cells (eJ fx) ND (0,0))])(C:∀b∈T,b∈Y)(hl:zs.length+1<=100000)(u:fC n k v)(hI:n.Q4=false->∃j:Nat,jA down frm to n=j/\j<n.J9.length)(kk:∀w' st' SB',gb dbk pb FD D F M k v frm to down w0 cb Y w' st' SB' (zs++[(x,n,jA down frm to n)])->Fr (cb::(SB++T)) wA w'->(∀b∈SB',b∈SB\/wA.heap.size<=b)->if n.Q4 then K () w' else X (n.J9.getD (jA down frm to n).toNat 0) w'): BD (pW cb) K J (x,0) w X:=by
 unfold BD;refine oD h 0 rfl (eJ x) fun w1 h f1=>?_;have h:=oF h;refine cond_false rfl<|⟨?_,?_⟩;refine oC h 0 rfl x rfl ?_;obtain⟨U,G,T,I⟩:=(E.J0 h C).at
 refine fv (pr (mI cb down) (ji I) ?_);refine oC h 0 rfl x rfl<|qrV (S:=[]) (E.J0 h C) (R.wC h C) u.2.2.1 (by have:=(uK u).1;omega) fun w2 V=>?_;have h:=h.q7 V;refine ig (h.cells 0 rfl rfl)<|oB h fun aa w3 e3 f3 h=>?_;obtain⟨U,G,T,I⟩:=(E.J0 h C).at
 exact mK (h.cells 1 rfl rfl) (ji I) (h.cells 1 rfl rfl)<|qqx E R h C hl u hI kk;refine oC h 0 rfl x rfl ?_;obtain⟨U,G,T,I⟩:=(E.J0 h C).at
 refine fv (pr (mI cb down) (ji I) ?_);refine oC h 0 rfl x rfl<|oB h fun aa w3 e3 f3 h=>?_;obtain⟨U,G,T,I⟩:=(E.J0 h C).at
 refine mK (h.cells 1 rfl rfl) (ji I) (h.cells 1 rfl rfl)<|qrV (S:=[]) (E.J0 h C) (R.wC h C) u.2.2.1 (by have:=(uK u).1;omega) fun w2 V=>?_;have h:=h.q7 V;exact ig (h.cells 1 rfl rfl)<|qqx E R h C hl u hI kk
def qpO{s:gY}{h:Nat}{K:Unit->WP}(hs:Has D M k v h s)(hu:gC s.x5)(hC:gb dbk pb FD D F M k v frm to down w0 cb Y w st SB zs)(hl:zs.length+h+1<=100000)(kk:∀w' st' SB' zs',gb dbk pb FD D F M k v frm to down w0 cb Y w' st' SB' (zs++zs')->iw D k v M (jA down frm to) (h+1) s.x5=some (zs'.map (·.2))->Fr (cb::SB) w w'->(∀b∈SB',b∈SB\/w.heap.size<=b)->K () w'): cW 82 [dF cb,.u s.x5] [] w K:=by
 refine qhR<|BS (fun (hh:Nat) p w'=>∃(sg:gY) (E:List qi) (ae:Sl) (J:List Nat),p=sg.x5/\gC sg.x5/\Has D M k v hh sg/\gb dbk pb FD D F M k v frm to down w0 cb Y w' ae J (zs++E)/\(iw D k v M (jA down frm to) (hh+1) sg.x5).map (E.map (·.2)++·)=iw D k v M (jA down frm to) (h+1) s.x5/\E.length+hh=h/\Fr (cb::SB) w w'/\∀b∈J,b∈SB\/w.heap.size<=b) id h ⟨s,[],st,SB,rfl,hu,hs,by rw[xH];exact hC,oL,oL,.refl _ _,fun b C=>.inl C⟩ ?_;rintro hh p w1 ⟨sg,E,ae,J,rfl,aI,av,aa,aw,a1,f1,n1⟩ X hX;have I:∃n,dJ D M k v sg.x5=(n,0)/\(n.Q4=true->hh=0)/\(n.Q4=false->∃h2 U,hh=h2+1/\n=dM U/\∃hj:en n.J6 (if down then to else frm)<U.length,n.J9.getD (en n.J6 (if down then to else frm)) 0=U[en n.J6 (if down then to else frm)].2.x5/\Has D M k v h2 U[en n.J6 (if down then to else frm)].2):=by
  cases hh with
  | zero=>
   obtain⟨h1,h2,h3,h4⟩:=av;exact⟨_,h3.load h4,fun _=>rfl,(fun e=>nomatch e)⟩
  | succ h2=>
   obtain⟨U,e1,hj,e2,e3⟩:=qyr (key:=if down then to else frm) av;exact⟨_,e1,(fun e=>nomatch e),fun _=>⟨h2,U,rfl,rfl,hj,e2,e3⟩⟩
 obtain⟨n,I,aK,ax⟩:=I;have ay:=AK I;obtain⟨l1,l2,l3,l4,l5⟩:=uK ay;have am:(dH D M sg.x5).2.2=0/\iv (dH D M sg.x5).1 (dH D M sg.x5).2.1 k v=(n,0):=by unfold dJ at I;split at I;rename_i af;exact absurd (vB I).2 af;rename_i he;exact⟨oJ,I⟩
 have az:eF (dH D M sg.x5).2.1:=qh5 aa.tw.lim.ok (fun e he=>(aa.tw.wf.body e he).2.2) _;have aL:(zs++E).length+1<=100000:=(by rw[zF];omega);have hI:n.Q4=false->∃j:Nat,jA down frm to n=j/\j<n.J9.length:=fun e=>by
  obtain⟨h2,U,_,rfl,hj,_⟩:=ax e;refine⟨_,?_,by show _<(U.map _).length;rw[zK];exact hj⟩;cases down with
  | false=>
   show jM (dM U) frm=_;exact if_neg (fun g=>nomatch g)
  | true=>
   show ik (dM U) to=_;exact if_neg (fun g=>nomatch g)
 have ai:∀(x:ka) (Y' T:List Nat) (wA wB:World) (r:Nat),gb dbk pb FD D F M k v frm to down w0 cb Y' wA ae J (zs++E)->eC (cb::(J++Y')) wA x n->dQ T wA wB [(r,.cells (eJ fx) ND (0,0))]->(∀b∈T,b∈Y')->(∀b∈T,w1.heap.size<=b)->(∀b∈Y,b∈Y')->Fr [] w1 wA->BD (pW cb) K r (x,0) wB X:=by
  intro x Y' T wA wB r hA hN hO hT aN hY fA;refine qxi hA hN hO hT aL ay hI fun w2 an ag G f2 n2=>?_;have G:gb dbk pb FD D F M k v frm to down w0 cb Y w2 an ag (zs++(E++[(x,n,jA down frm to n)])):=by rw[<- zV];exact G.q8 (.refl _ _) (fun b C=>.inl (hY b C)) fun b C=>G.lt b (by simp[hY b C])
  have f3:Fr (cb::SB) w w2:=f1.j8 ((fA.mono fun _ h=>nomatch h).trans f2) fun b C=>by rcases zG.1 C with rfl|C;exact .inl oL;rcases zD.1 C with C|C;exact (n1 b C).imp (fun h=>by simp[h]) id;exact .inr (zL f1.size (aN b C))
  have n3:∀b∈ag,b∈SB\/w.heap.size<=b:=fun b C=>by rcases n2 b C with h|h;exact n1 b h;exact .inr (zL f1.size (zL fA.size h))
  by_cases hlf2:n.Q4=true;rw[if_pos hlf2];obtain rfl:=aK hlf2;refine kk w2 an ag (E++[(x,n,jA down frm to n)]) G ?_ f3 n3;rw[<- aw,iw,I,if_neg (fun h=>h rfl),if_pos hlf2];simp
  ·rw[if_neg hlf2];have aA:n.Q4=false:=(oP hlf2);obtain⟨h2,U,rfl,af,hj,ao,hk⟩:=ax aA;have aB:jA down frm to n=((en n.J6 (if down then to else frm):Nat):Int):=by
    cases down with
    | false=>
     show jM n frm=_;exact if_neg hlf2
    | true=>
     show ik n to=_;exact if_neg hlf2
   rw[aB,zJ,ao];refine hX h2 _ w2 ⟨_,E++[(x,n,jA down frm to n)],an,ag,rfl,?_,hk,G,?_,by rw[zF,xM];omega,f3,n3⟩ (Nat.lt_succ_self _);rw[<- ao];have aC:en n.J6 (if down then to else frm)<n.J9.length:=(by rw[af];show _<(U.map _).length;rw[zK,<- af];exact hj);rw[yR,zA aC];exact hN.2.1.2.2 _ (zX aC)
   ·rw[<- aw];conv=>rhs;rw[iw,I,if_neg (fun h=>h rfl),if_neg hlf2]
    dsimp only;rw[aB,zJ,ao,Option.map_map];simp[Function.comp_def]
 obtain⟨sf,ap,T,V⟩:=aa.at
 refine fv (pr (pW pb) (ji V) ?_);refine TW.read aa.tw aI fun sb w2 aD f2=>?_;have G:=(aa.q7 f2).drew;refine cond_false (by dsimp only;rw[am.1];rfl) ?_;obtain⟨sf,ap,T,V⟩:=G.at
 have ab:=G.lt;refine⟨?_,?_⟩;refine fv (pr (k:Int) (ji V) ?_);refine fv (pr (v:Int) (ji V) ?_);refine DJ (k:=k) (v:=v) (aD [] fun _ h=>nomatch h) az fun x B w3 hN f3 aq=>?_;rw[am.2] at hN⊢;have R:=G.q7 f3;refine oB (oE [] w3) fun r w4 e4 f4 h=>?_;obtain⟨sf,ap,T,V⟩:=(R.q7 f4).at
 refine ko (ji V) (ji V)<|ai x Y [] w3 w4 r R (hN.rd (fun b C hm=>?_) fun b C=>.inl ?_) h (fun _ h=>nomatch h) (fun _ h=>nomatch h) (fun b C=>C) (f2.drew.trans f3)
 have:=aq b C;have:=ab b hm;omega
 have:b<w2.heap.size:=ab b C;exact zH _ (mem_range.2 this);refine fv (pr (k:Int) (ji V) ?_);refine fv (pr (v:Int) (ji V) ?_);refine oB (oE [] w2.drew) fun r w3 e3 f3 h=>?_;have aQ:=eZ (h.at (i:=0) rfl);have R:gb dbk pb FD D F M k v frm to down w0 cb (r::Y) w3 ae J (zs++E):=G.q8 (f3.mono fun _ h=>nomatch h) (fun b C=>(zG.1 C).elim (fun e=>.inr (by rw[e,e3];exact zM _)) .inl) fun b C=>by rcases zG.1 C with rfl|C;exact aQ;exact yD (ab b (by simp[C])) f3.size
 obtain⟨sf,ap,T,V⟩:=R.at
 refine ko (ji V) (ji V)<|DJ (k:=k) (v:=v) (dZ.q7 (w:=w2.drew) (aD [] fun _ h=>nomatch h) f3) az fun x B w4 hN f4 aq=>?_;rw[am.2] at hN⊢;have ak:=R.lt;refine ai x (r::Y) [r] w4 w4 r (R.q7 f4) (hN.rd (fun b C hm=>?_) fun b C=>.inl ?_) (D6 ((h.q7 f4).at (i:=0) rfl)) (fun b C=>by rw[zE.1 C];simp) (fun b C=>?_) (fun b C=>by simp[C]) ((f2.drew.trans f3).trans f4)
 have:=aq b C;have:=ak b hm;omega
 exact zH _ (mem_range.2 (ak b C));rw[zE.1 C,e3];exact f2.size
end
end
end Go.Proofs.YtpcmehldpoljfaaGreatDoor
