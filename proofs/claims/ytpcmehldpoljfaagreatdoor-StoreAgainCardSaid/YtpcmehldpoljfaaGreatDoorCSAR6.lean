/- Conditions: those that stand in each line. -/
import Derived.Test.YtpcmehldpoljfaaGreatDoorCSAR5
import Derived.Test.YtpcmehldpoljfaaGreatDoorCSAR4
import Derived.Test.YtpcmehldpoljfaaGreatDoorCSAR2
import Derived.Laws.Externs
import Derived.Test.YtpcmehldpoljfaaGreatDoorCSAR3
set_option linter.unusedVariables false
set_option linter.unusedSimpArgs false
set_option linter.defProp false
namespace Go.Proofs.YtpcmehldpoljfaaGreatDoor
open Go Go.Pt
attribute [local irreducible] ld dL gZ mP i3 fc st new idx i4 jg fB jk iO lS gB nn call dZ inv run eW iC join loop held ext jU eH mv mp mA IntKind.wrap
open Go.Proofs.Tryz (prog)
section
open Go Go.Pt List
open Go.IntKind (wrap)
open Classical
variable {K:kz×kz×Sl->WP} {R T Z:Ik} {i:Nat} {key:Key}
def qp{H u C E:WP}{w:Ic}{K:Prop}(h:H w)(G:u w)(I:C w)(J:E w)(k:K):held [H,u,C,E] w K:=by unfold held;exact⟨⟨h,G,I,J⟩,k⟩
structure pM (S0 Z:Ik) (w:Ic) (x:kz) (n:dM) (pk pv:ph):Prop where
 lens:oh x n
 nb:NB n
 J6:ga pk=n.J6
 Q0:ga pv=n.Q0
 rk:ee gq 1 S0 w x.2.1 (iv pk)
 rv:ee gq 1 S0 w x.2.2.1 (iv pv)
 ri:ee iw 1 S0 w x.2.2.2 n.J9
 ek:∀ p∈pk,en Z w p.1 p.2
 ev:∀ p∈pv,en Z w p.1 p.2
section
variable {S S0 S0' Z Z' B:Ik} {w w':Ic} {x:kz} {n:dM} {pk pv:ph}
def fh.Bc(h:fh Z w x n B)(C:∀b∈B,b∉S0):∃pk pv,pM S0 Z w x n pk pv:=by have G:eF [] w x n:=h.rd (λ_ _ h=>(nomatch h)) λ_ h=>nomatch h;have I:=G.lens;obtain⟨h0,E,Bk,Bv,Bi,rfl,J,⟨pk,R,U,V⟩,⟨pv,v1,v2,v3⟩,hi⟩:=h;exact⟨pk,pv,I,E,U,v2,R.jz vQ λb u=>C b (by simp[u]),v1.jz vQ λb u=>C b (by simp[u]),hi.jz qZ λb u=>C b (by simp[u]),V,v3⟩
def pM.q8(h:pM S0 Z w x n pk pv)(f:Fr S w w')(G:∀b∈S,b∈S0)(E:∀b∈S,b∈Z)(C:mu S0 w S0')(J:mu Z w Z'):pM S0' Z' w' x n pk pv where
 lens:=h.lens
 nb:=h.nb
 J6:=h.J6
 Q0:=h.Q0
 rk:=h.rk.q8 (f.mono λb u _=>G b u) C
 rv:=h.rv.q8 (f.mono λb u _=>G b u) C
 ri:=h.ri.q8 (f.mono λb u _=>G b u) C
 ek:=λp I=>(h.ek p I).q8 (f.mono λb u _=>E b u) J
 ev:=λp I=>(h.ev p I).q8 (f.mono λb u _=>E b u) J
def pM.tk(h:pM S0 Z w x n pk pv):pk.length=n.J6.length:=by rw[<- h.J6,zK]
def pM.wI(h:pM S0 Z w x n pk pv):pv.length=n.Q0.length:=by rw[<- h.Q0,zK]
def pM.rdK(h:pM S0 Z w x n pk pv)(u:∀b∈S0,b∈Z):jq S0 w x.2.1 pk:=⟨h.rk,λp C=>(h.ek p C).q8 (.refl _ _) λb E=>.inl (u b E)⟩
def pM.rdV(h:pM S0 Z w x n pk pv)(u:∀b∈S0,b∈Z):jq S0 w x.2.2.1 pv:=⟨h.rv,λp C=>(h.ev p C).q8 (.refl _ _) λb E=>.inl (u b E)⟩
def ee.cF{s:Sl}{ps:ph}{i:Int}{K:Addr->Sl->Prop}(h:ee gq 1 S w s (iv ps))(n:Nat)(hi:i=n)(J:n<ps.length)(R:∀a,(∀S' w',ee gq 1 S' w' s (iv ps)->w'.cell? a=some (.slice ps[n].1.a ps[n].1.len ps[n].1.cap))->K a ps[n].1):idx s i 1 λa=>ld .slice a w λy=>K a y:=by
 subst hi;have G:(iv ps)[n]?=some ps[n].1:=(by rw[zQ,zA J];rfl);obtain⟨hl,b,o,I,_,cs,T,fr,hb,hc⟩:=h.at n G;refine qs I ⟨oJ,oJ⟩ ?_;rw[zJ];have key:∀S' w',ee gq 1 S' w' s (iv ps)->w'.cell? ⟨b,o+n*1,none⟩=some (.slice ps[n].1.a ps[n].1.len ps[n].1.cap):=λS' w' U=>by
  obtain⟨_,b',o',u,_,V,T',aa,C,E⟩:=U.at n G;rw[I] at u;cases u;rw[jp C]
  have:=H9 (·[0]?) E;simpa[gq] using this
 exact pB ps[n].1 (key S w h) (R _ key)
def pM.mL(h:pM S0 Z w x n pk pv)(hi:i<pk.length):n.J6.getD i []=pk[i].2:=by rw[<- h.J6,wW hi]
def pM.rQ(h:pM S0 Z w x n pk pv)(hi:i<pv.length):n.Q0.getD i []=pv[i].2:=by rw[<- h.Q0,wW hi]
def uj{n:dM}(hi:i<n.J9.length):n.J9.getD i 0=n.J9[i]:=by rw[yQ,zA hi];rfl
end
structure gG (n:dM):Prop where
 Q4:n.Q4=true->n.Q0.length=n.J6.length
 inner:n.Q4=false->n.J9.length=n.J6.length+1
 J6:n.J6.length<=2000
 Q0:n.Q0.length<=2000
 J9:n.J9.length<=2000
section
variable {dbk pb j:Nat} {FD Y F Bl Br:Ik} {D:dJ} {w0:Ic} {M:dV} {xl xr:kz} {nl nr:dM} {ks:Sl} {key:Key}
def zoT{b:Nat}(h:b∈T):b∈Zo FD (T++Y) F:=by simp[h]
def BF:∀b∈Zo FD Y F,b∈Zo FD (T++(Bl++Y)) F:=λb h=>by simp only[Zo,zD,zG] at h⊢;rcases h with (h|h|h)|h<;>simp[h]
def Ak{α:Type}(l:List α)(x:α):fI l 0 x=x::l:=by unfold fI;simp
def qyN(hT:TW dbk pb FD D j w0 (Br++(Bl++Y)) F M)(hl:fh (Zo FD (Br++(Bl++Y)) F) w0 xl nl Bl)(hr:fh (Zo FD (Br++(Bl++Y)) F) w0 xr nr Br)(d1:∀b∈Br,b∉Bl)(d2:∀b∈Br,b∉Y)(d3:∀b∈Bl,b∉Y)(hk:en (Zo FD (Br++(Bl++Y)) F) w0 ks key)(aw:eI key)(bd:nl.Q4=nr.Q4)(h1:1<=nl.J6.length)(sl:gG nl)(sr:gG nr)(kk:∀yl yr aC w',TW dbk pb FD D j w' Y F M->eF (Zo FD Y F) w' yl (iU nl nr key).1->eF (Zo FD Y F) w' yr (iU nl nr key).2.1->en (Zo FD Y F) w' aC (iU nl nr key).2.2->Fr (Br++F) w0 w'->K (yl,yr,aC) w'): cW 204 [.agg (eN xl),.agg (eN xr),ks.v] [.agg ed,.agg ed,.one .slice] w0 K:=by
 refine qti ?_;unfold Df Dg;obtain⟨pk,pv,o⟩:=hl.Bc (S0:=Br++Zo FD Y F) λb u hm=>by rcases zD.1 hm with hm|hm;exact d1 b hm u;have h0:=hT.sep b (by simp[u]);simp only[Zo,zD,zG] at hm;rcases hm with (hm|hm|hm)|hm;exact h0.1 hm;exact h0.2 hm;exact d3 b u hm;exact hT.yf b (by simp[u]) hm
 have e0:Ed dbk pb FD D j (Br++F) Br w0 w0 [] (Bl++Y) F M xr nr Br:=⟨⟨.refl _ _,λb u=>.inl (by simp[u]),λ_ h=>nomatch h⟩,hT,hr,λ_ h=>(nomatch h),λb u=>.inl u,λb u=>by simp[u],λb u hm=>(zD.1 hm).elim (d1 b u) (d2 b u)⟩;have ad:∀b∈Br++Zo FD Y F,b∈Zo FD (Br++(Bl++Y)) F:=λb u=>by simp only[Zo,zD,zG] at u⊢;rcases u with u|(u|u|u)|u<;>simp[u]
 have ae:∀b∈Br++F,b∈Br++Zo FD Y F:=λb u=>by simp only[Zo,zD,zG] at u⊢;rcases u with u|u<;>simp[u]
 have nZ:∀ {w' T x' n' B'},Ed dbk pb FD D j (Br++F) Br w0 w' T (Bl++Y) F M x' n' B'->mu (Zo FD (Br++(Bl++Y)) F) w0 (Zo FD (T++(B'++(Bl++Y))) F):=λe b u=>by simp only[Zo,zD,zG] at u;rcases u with (u|u|u|u|u|u)|u;exact .inl (by simp[u]);exact .inl (by simp[u]);exact (e.sg.own b u).imp (λh=>ad b (ae b h)) id;exact (e.cE b u).imp (λh=>ad b (ae b (e.cR b h))) id;exact .inl (by simp[u]);exact .inl (by simp[u]);exact .inl (by simp[u])
 have R:∀ {w' T x' n' B'},Ed dbk pb FD D j (Br++F) Br w0 w' T (Bl++Y) F M x' n' B'->pM (Br++Zo FD Y F) (Zo FD (T++(B'++(Bl++Y))) F) w' xl nl pk pv:=λe=>o.q8 e.fr ae (λb u=>ad b (ae b u)) (λb u=>.inl u) (nZ e);have aD:=o.rdK ad;have aE:=o.rdV ad;have af:∀ {w' T x' n' B'},Ed dbk pb FD D j (Br++F) Br w0 w' T (Bl++Y) F M x' n' B'->Fr (Br++Zo FD Y F) w0 w':=λe=>e.fr.mono λb u _=>ae b u;have ag:∀b∈Zo FD Y F,b∈Br++Zo FD Y F\/w0.heap.size<=b:=λb u=>.inl (zI _ u);have U:=o.lens;have kl:=o.tk;have vl:=o.wI;have sk:=sl.J6;have bf:=sr.J6;have bg:=sr.Q0;have bh:=sr.J9;have aO:wrap .i64 ((xl.2.1.len:Int)-1)=((nl.J6.length-1:Nat):Int):=(by rw[U.J6,gi _ oJ];omega);have h:=oE [] w0;refine oB h λr1 w2 _ _ h=>oB h λr3 w4 _ _ h=>oB h λr5 w6 _ _ h=>oB h λr7 w8 _ _ h=>Ii h 3 rfl xl.2.1<|Ii h 3 rfl xl.1 ?_;rw[aO];apply dX<;>intro hc
 ·rw[U.Q4] at hc;have bi:=sl.Q4 hc;have hG:iU nl nr key=({ nl with J6:=nl.J6.take (nl.J6.length-1),Q0:=nl.Q0.take (nl.J6.length-1) },{ nr with J6:=nl.J6.getD (nl.J6.length-1) []::nr.J6,Q0:=nl.Q0.getD (nl.J6.length-1) []::nr.Q0 },nl.J6.getD (nl.J6.length-1) []):=(by unfold iU;rw[iP hc]);have hi:nl.J6.length-1<pk.length:=oJ;have V:nl.J6.length-1<pv.length:=oJ;rw[hG,o.mL hi,o.rQ V] at kk;have ac:eI pk[nl.J6.length-1].2:=(by rw[<- o.mL hi];exact sX o.nb.1 _);have ay:eI pv[nl.J6.length-1].2:=(by rw[<- o.rQ V];exact sX o.nb.2.1 _);refine⟨?a1,?a2,?a3⟩;case' a1=>
   have h:=oF h;refine Ii h 2 rfl xr.2.1<|Ii h 3 rfl xl.2.1<|ee.cF ((o.rk).q7 h.fr) (nl.J6.length-1) rfl hi λai G=>Ii h 2 rfl xr.2.2.1<|Ii h 3 rfl xl.2.2.1<|ee.cF ((o.rv).q7 h.fr) (nl.J6.length-1) rfl V λaF aa=>oB h λaj ak _ _ h=>?_;have e:=e0.J0 h;refine qp (aa _ _ (R e).rv) (h.cell 4) (h.cell 3) (h.cell 3)<|e.cO h (i:=0) (yW _) rfl oJ 0 rfl ((R e).ek _ (zW hi)) ac λC B1 al e h _=>mQ (aa _ _ (R e).rv) (h.cell 4) (h.cell 3)<|oB h λam an _ _ h=>?_;have e:=e.J0 h;refine qp (h.cell 4) (G _ _ (R e).rk) (h.cell 5) (h.cell 4)<|e.sH h (i:=0) (yW _) rfl oN 0 rfl ((R e).ev _ (zW V)) ay λE B2 ao e h _=>?_
  case' a2=>
   have h:=oF h;refine Ii h 2 rfl xr.2.1<|Ii h 3 rfl xl.2.1<|ee.cF ((o.rk).q7 h.fr) (nl.J6.length-1) rfl hi λai G=>Ii h 2 rfl xr.2.2.1<|Ii h 3 rfl xl.2.2.1<|ee.cF ((o.rv).q7 h.fr) (nl.J6.length-1) rfl V λaF aa=>oB h λaj ak _ _ h=>qp (aa _ _ (R (e0.J0 h)).rv) (h.cell 4) (h.cell 3) (h.cell 3)<|oB h λam an _ _ h=>?_;have e:=e0.J0 h;refine qp (h.cell 4) (G _ _ (R e).rk) (h.cell 5) (h.cell 4)<|e.cO h (i:=0) (yW _) rfl oJ 1 rfl ((R e).ek _ (zW hi)) ac λC B1 al e h _=>mQ (aa _ _ (R e).rv) (h.cell 5) (h.cell 4)<|e.sH h (i:=0) (yW _) rfl oN 0 rfl ((R e).ev _ (zW V)) ay λE B2 ao e h _=>?_
  case' a3=>
   have h:=oF h;refine Ii h 2 rfl xr.2.1<|Ii h 3 rfl xl.2.1<|ee.cF ((o.rk).q7 h.fr) (nl.J6.length-1) rfl hi λai G=>Ii h 2 rfl xr.2.2.1<|Ii h 3 rfl xl.2.2.1<|ee.cF ((o.rv).q7 h.fr) (nl.J6.length-1) rfl V λaF aa=>oB h λaj ak _ _ h=>qp (h.cell 3) (G _ _ (R (e0.J0 h)).rk) (h.cell 4) (h.cell 3)<|oB h λam an _ _ h=>?_;have e:=e0.J0 h;refine qp (aa _ _ (R e).rv) (h.cell 5) (h.cell 4) (h.cell 4)<|e.cO h (i:=0) (yW _) rfl oJ 0 rfl ((R e).ek _ (zW hi)) ac λC B1 al e h _=>mQ (aa _ _ (R e).rv) (h.cell 5) (h.cell 4)<|e.sH h (i:=0) (yW _) rfl oN 1 rfl ((R e).ev _ (zW V)) ay λE B2 ao e h _=>?_
  all_goals
   refine oD h 4 rfl (eN (xr.1,C,xr.2.2.1,xr.2.2.2)) λaQ h _=>oD h 4 rfl (eN (xr.1,C,E,xr.2.2.2)) λaR h _=>?_;have h:=oF h;refine Ii h 5 rfl xl.2.1<|jq.upto aD (nl.J6.length-1) rfl oJ λI ap=>Ii h 5 rfl xl.2.2.1<|jq.upto aE (nl.J6.length-1) rfl oJ λJ aq=>oD h 5 rfl (eN (xl.1,I,xl.2.2.1,xl.2.2.2)) λaT h _=>oD h 5 rfl (eN (xl.1,I,J,xl.2.2.2)) λaU h _=>?_;have h:=oF h;refine Ij h 5 rfl (xl.1,I,J,xl.2.2.2)<|Ij h 4 rfl (xr.1,C,E,xr.2.2.2)<|Ii h 4 rfl C ?_;have e:=e.J0 h;have h:=lM h (.refl _);obtain⟨q0,qN,⟨qk,au,aI⟩,q4,q5⟩:=e.y9;have az:0<qk.length:=by
    have:=H9 List.length aI;dsimp only at this;rw[Ak,zK,yH] at this;omega
   have aV:qk[0].2=pk[nl.J6.length-1].2:=(by rw[<- wW az,aI];dsimp only;rw[Ak];rfl);refine ee.cF au.1 0 rfl az λbj aJ=>oD h 3 rfl (eN (xl.1,I,J,xl.2.2.2)) λaW h _=>mQ (aJ [] _ (au.1.q8 (h.fr.mono λb u _=>zoT u) λ_ h=>nomatch h)) (h.cell 4) (h.cells 4)<|oD h 2 rfl (eN (xr.1,C,E,xr.2.2.2)) λaA h _=>ky (aJ [] _ (au.1.q8 (h.fr.mono λb u _=>zoT u) λ_ h=>nomatch h)) (h.cell 4)<|Ij h 3 rfl (xl.1,I,J,xl.2.2.2)<|Ij h 2 rfl (xr.1,C,E,xr.2.2.2) ?_;have av:=pT (au.2 _ (zW az)) h;rw[aV] at av;have e:=e.J0 h;have hR:=e.y9.j6 (S':=Zo FD Y F) λb u=>.inl (BF b u);rw[Ak,Ak] at hR;exact kk (xl.1,I,J,xl.2.2.2) (xr.1,C,E,xr.2.2.2) _ aA (e.qz.y0 λb u=>by simp[u]) ⟨U.Q4,⟨λa ha=>o.nb.1 a (yU ha),λa ha=>o.nb.2.1 a (yU ha),o.nb.2.2⟩,⟨_,ap.q8 (af e) ag,by rw[zk,o.J6]⟩,⟨_,aq.q8 (af e) ag,by rw[zk,o.Q0]⟩,o.ri.q8 (af e) ag⟩
    hR (av.q8 (.refl _ _) λb u=>.inl (BF b u)) e.fr
 ·rw[U.Q4] at hc;have aX:¬nl.Q4=true:=(by rw[hc];decide);have il:=sl.inner hc;have hG:iU nl nr key=({ nl with J6:=nl.J6.take (nl.J6.length-1),J9:=nl.J9.take (nl.J6.length-1+1) },{ nr with J6:=key::nr.J6,J9:=nl.J9.getD (nl.J6.length-1+1) 0::nr.J9 },nl.J6.getD (nl.J6.length-1) []):=(by unfold iU;rw[iN aX]);have hi:nl.J6.length-1<pk.length:=oJ;have ar:nl.J6.length-1+1<nl.J9.length:=oJ;rw[hG,o.mL hi,uj ar] at kk;have ac:gE nl.J9[nl.J6.length-1+1]:=o.nb.2.2 _ (zW ar);have aY:wrap .i64 (((nl.J6.length-1:Nat):Int)+1)=((nl.J6.length-1+1:Nat):Int):=rj oJ;rw[aY];have kw:∀ {w' T x' n' B'},Ed dbk pb FD D j (Br++F) Br w0 w' T (Bl++Y) F M x' n' B'->en (Zo FD (T++(B'++(Bl++Y))) F) w' ks key:=λe=>hk.q8 (e.fr.mono λb u _=>ad b (ae b u)) (nZ e);refine Ii h 3 rfl xl.2.1<|ee.cF ((o.rk).q7 h.fr) (nl.J6.length-1) rfl hi λa9 a'=>⟨?b1,?b2,?b3⟩;case' b1=>
   have h:=oF h;refine Ii h 2 rfl xr.2.1<|Ii h 2 rfl xr.2.2.2<|Ii h 3 rfl xl.2.2.2<|ee.cP ((o.ri).q7 h.fr) (nl.J6.length-1+1) rfl ar λai G=>oB h λaj ak _ _ h=>?_;have e:=e0.J0 h;refine qp (G _ _ (R e).ri) (h.cell 4) (h.cell 3) (h.cell 3)<|e.cO h (i:=0) (yW _) rfl oJ 0 rfl (kw e) aw λC B1 al e h _=>mQ (G _ _ (R e).ri) (h.cell 4) (h.cell 3)<|oB h λam an _ _ h=>?_;have e:=e.J0 h;refine ky (h.cell 4) (h.cell 4)<|e.sE h (i:=0) (yW _) rfl oN 0 rfl ac λE B2 ao e h _=>?_
  case' b2=>
   have h:=oF h;refine Ii h 2 rfl xr.2.1<|Ii h 2 rfl xr.2.2.2<|Ii h 3 rfl xl.2.2.2<|ee.cP ((o.ri).q7 h.fr) (nl.J6.length-1+1) rfl ar λai G=>oB h λaj ak _ _ h=>qp (G _ _ (R (e0.J0 h)).ri) (h.cell 4) (h.cell 3) (h.cell 3)<|oB h λam an _ _ h=>?_;have e:=e0.J0 h;refine ky (h.cell 4) (h.cell 4)<|e.cO h (i:=0) (yW _) rfl oJ 1 rfl (kw e) aw λC B1 al e h _=>mQ (G _ _ (R e).ri) (h.cell 5) (h.cell 4)<|e.sE h (i:=0) (yW _) rfl oN 0 rfl ac λE B2 ao e h _=>?_
  case' b3=>
   have h:=oF h;refine Ii h 2 rfl xr.2.1<|Ii h 2 rfl xr.2.2.2<|Ii h 3 rfl xl.2.2.2<|ee.cP ((o.ri).q7 h.fr) (nl.J6.length-1+1) rfl ar λai G=>oB h λaj ak _ _ h=>ky (h.cell 3) (h.cell 3)<|oB h λam an _ _ h=>?_;have e:=e0.J0 h;refine qp (G _ _ (R e).ri) (h.cell 5) (h.cell 4) (h.cell 4)<|e.cO h (i:=0) (yW _) rfl oJ 0 rfl (kw e) aw λC B1 al e h _=>mQ (G _ _ (R e).ri) (h.cell 5) (h.cell 4)<|e.sE h (i:=0) (yW _) rfl oN 1 rfl ac λE B2 ao e h _=>?_
  all_goals
   refine oD h 4 rfl (eN (xr.1,C,xr.2.2.1,xr.2.2.2)) λaQ h _=>oD h 4 rfl (eN (xr.1,C,xr.2.2.1,E)) λaR h _=>?_;have h:=oF h;refine Ii h 5 rfl xl.2.1<|jq.upto aD (nl.J6.length-1) rfl oJ λI ap=>Ii h 5 rfl xl.2.2.2<|ee.A5 o.ri (nl.J6.length-1+1) rfl oJ λJ aq=>oD h 5 rfl (eN (xl.1,I,xl.2.2.1,xl.2.2.2)) λaT h _=>oD h 5 rfl (eN (xl.1,I,xl.2.2.1,J)) λaU h _=>?_;have h:=oF h;refine Ij h 5 rfl (xl.1,I,xl.2.2.1,J)<|Ij h 4 rfl (xr.1,C,xr.2.2.1,E)<|oD h 3 rfl (eN (xl.1,I,xl.2.2.1,J)) λaW h _=>ik (h.cells 4)<|oD h 2 rfl (eN (xr.1,C,xr.2.2.1,E)) λaA h _=>Ij h 3 rfl (xl.1,I,xl.2.2.1,J)<|Ij h 2 rfl (xr.1,C,xr.2.2.1,E) ?_;have e:=e.J0 h;have hR:=e.y9.j6 (S':=Zo FD Y F) λb u=>.inl (BF b u);rw[Ak,Ak] at hR;exact kk (xl.1,I,xl.2.2.1,J) (xr.1,C,xr.2.2.1,E) _ aA (e.qz.y0 λb u=>by simp[u]) ⟨U.Q4,⟨λa ha=>o.nb.1 a (yU ha),o.nb.2.1,λa ha=>o.nb.2.2 a (yU ha)⟩,⟨_,ap.q8 (af e) ag,by rw[zk,o.J6]⟩,⟨_,aE.q8 (af e) ag,o.Q0⟩,aq.q8 (af e) ag⟩
    hR (((R e).ek _ (zW hi)).q8 (.refl _ _) λb u=>.inl (by simp only[Zo,zD,zG] at u⊢;rcases u with (u|u|u)|u<;>simp[u])) e.fr
end
section
section
variable {dbk pb j:Nat} {FD Y F Bl Br:Ik} {D:dJ} {w0:Ic} {M:dV} {xl xr:kz} {nl nr:dM} {ks:Sl} {key:Key}
def qzm(hT:TW dbk pb FD D j w0 (Bl++(Br++Y)) F M)(hl:fh (Zo FD (Bl++(Br++Y)) F) w0 xl nl Bl)(hr:fh (Zo FD (Bl++(Br++Y)) F) w0 xr nr Br)(d1:∀b∈Bl,b∉Br)(d2:∀b∈Bl,b∉Y)(d3:∀b∈Br,b∉Y)(hk:en (Zo FD (Bl++(Br++Y)) F) w0 ks key)(au:eI key)(aA:nl.Q4=nr.Q4)(h1:1<=nr.J6.length)(h2:nr.Q4=true->2<=nr.J6.length)(sl:gG nl)(sr:gG nr)(kk:∀yl yr aB w',TW dbk pb FD D j w' Y F M->eF (Zo FD Y F) w' yl (takeN nl nr key).1->eF (Zo FD Y F) w' yr (takeN nl nr key).2.1->en (Zo FD Y F) w' aB (takeN nl nr key).2.2->Fr (Bl++F) w0 w'->K (yl,yr,aB) w'): cW 205 [.agg (eN xl),.agg (eN xr),ks.v] [.agg ed,.agg ed,.one .slice] w0 K:=by
 refine qtj ?_;unfold De C6;obtain⟨pk,pv,o⟩:=hr.Bc (S0:=Bl++Zo FD Y F) λb u hm=>by rcases zD.1 hm with hm|hm;exact d1 b hm u;have h0:=hT.sep b (by simp[u]);simp only[Zo,zD,zG] at hm;rcases hm with (hm|hm|hm)|hm;exact h0.1 hm;exact h0.2 hm;exact d3 b u hm;exact hT.yf b (by simp[u]) hm
 have e0:Ed dbk pb FD D j (Bl++F) Bl w0 w0 [] (Br++Y) F M xl nl Bl:=⟨⟨.refl _ _,λb u=>.inl (by simp[u]),λ_ h=>nomatch h⟩,hT,hl,λ_ h=>(nomatch h),λb u=>.inl u,λb u=>by simp[u],λb u hm=>(zD.1 hm).elim (d1 b u) (d2 b u)⟩;have ae:∀b∈Bl++Zo FD Y F,b∈Zo FD (Bl++(Br++Y)) F:=λb u=>by simp only[Zo,zD,zG] at u⊢;rcases u with u|(u|u|u)|u<;>simp[u]
 have af:∀b∈Bl++F,b∈Bl++Zo FD Y F:=λb u=>by simp only[Zo,zD,zG] at u⊢;rcases u with u|u<;>simp[u]
 have nZ:∀ {w' T x' n' B'},Ed dbk pb FD D j (Bl++F) Bl w0 w' T (Br++Y) F M x' n' B'->mu (Zo FD (Bl++(Br++Y)) F) w0 (Zo FD (T++(B'++(Br++Y))) F):=λe b u=>by simp only[Zo,zD,zG] at u;rcases u with (u|u|u|u|u|u)|u;exact .inl (by simp[u]);exact .inl (by simp[u]);exact (e.sg.own b u).imp (λh=>ae b (af b h)) id;exact (e.cE b u).imp (λh=>ae b (af b (e.cR b h))) id;exact .inl (by simp[u]);exact .inl (by simp[u]);exact .inl (by simp[u])
 have J:∀ {w' T x' n' B'},Ed dbk pb FD D j (Bl++F) Bl w0 w' T (Br++Y) F M x' n' B'->pM (Bl++Zo FD Y F) (Zo FD (T++(B'++(Br++Y))) F) w' xr nr pk pv:=λe=>o.q8 e.fr af (λb u=>ae b (af b u)) (λb u=>.inl u) (nZ e);have aC:=o.rdK ae;have aD:=o.rdV ae;have U:∀ {w' T x' n' B'},Ed dbk pb FD D j (Bl++F) Bl w0 w' T (Br++Y) F M x' n' B'->Fr (Bl++Zo FD Y F) w0 w':=λe=>e.fr.mono λb u _=>af b u;have ag:∀b∈Zo FD Y F,b∈Bl++Zo FD Y F\/w0.heap.size<=b:=λb u=>.inl (zI _ u);have an:=o.lens;have kl:=o.tk;have vl:=o.wI;have sk:=sr.J6;have bj:=sl.J6;have bk:=sl.Q0;have bl:=sl.J9;have h:=oE [] w0;refine oB h λr1 w2 _ _ h=>oB h λr3 w4 _ _ h=>oB h λr5 w6 _ _ h=>oB h λr7 w8 _ _ h=>Ii h 3 rfl xl.1 ?_;apply dX<;>intro hc
 ·rw[hl.1] at hc;have aE:nr.Q4=true:=(by rw[<- aA];exact hc);have h2:=h2 aE;have bm:=sr.Q4 aE;have hG:takeN nl nr key=({ nl with J6:=nl.J6++[nr.J6.getD 0 []],Q0:=nl.Q0++[nr.Q0.getD 0 []] },{ nr with J6:=nr.J6.drop 1,Q0:=nr.Q0.drop 1 },(nr.J6.drop 1).getD 0 []):=(by unfold takeN;rw[iP hc]);have hi:0<pk.length:=oJ;have V:0<pv.length:=oJ;have aw:0<(pk.drop 1).length:=(by rw[yB];omega);have aY:(nr.J6.drop 1).getD 0 []=(pk.drop 1)[0].2:=(by rw[<- o.J6,<- xf,wW aw]);rw[hG,o.mL hi,o.rQ V,aY] at kk;have ad:eI pk[0].2:=(by rw[<- o.mL hi];exact sX o.nb.1 _);have ax:eI pv[0].2:=(by rw[<- o.rQ V];exact sX o.nb.2.1 _);refine⟨?a1,?a2,?a3⟩;case' a1=>
   have h:=oF h;refine Ii h 3 rfl xl.2.1<|Ii h 2 rfl xr.2.1<|ee.cF ((o.rk).q7 h.fr) 0 rfl hi λaF ai=>Ii h 3 rfl xl.2.2.1<|Ii h 2 rfl xr.2.2.1<|ee.cF ((o.rv).q7 h.fr) 0 rfl V λaG aa=>oB h λaH aI _ _ h=>?_;have e:=e0.J0 h;refine qp (aa _ _ (J e).rv) (h.cell 3) (h.cell 4) (h.cell 4)<|e.pF h oJ 0 rfl ((J e).ek _ (zW hi)) ad λC B1 aK e h _=>mQ (aa _ _ (J e).rv) (h.cell 3) (h.cell 4)<|oB h λaL aM _ _ h=>?_;have e:=e.J0 h;refine qp (h.cell 5) (ai _ _ (J e).rk) (h.cell 4) (h.cell 5)<|e.wH h oN 0 rfl ((J e).ev _ (zW V)) ax λE B2 aO e h _=>?_
  case' a2=>
   have h:=oF h;refine Ii h 3 rfl xl.2.1<|Ii h 2 rfl xr.2.1<|ee.cF ((o.rk).q7 h.fr) 0 rfl hi λaF ai=>Ii h 3 rfl xl.2.2.1<|Ii h 2 rfl xr.2.2.1<|ee.cF ((o.rv).q7 h.fr) 0 rfl V λaG aa=>oB h λaH aI _ _ h=>qp (aa _ _ (J (e0.J0 h)).rv) (h.cell 3) (h.cell 4) (h.cell 4)<|oB h λaL aM _ _ h=>?_;have e:=e0.J0 h;refine qp (h.cell 5) (ai _ _ (J e).rk) (h.cell 4) (h.cell 5)<|e.pF h oJ 1 rfl ((J e).ek _ (zW hi)) ad λC B1 aK e h _=>mQ (aa _ _ (J e).rv) (h.cell 4) (h.cell 5)<|e.wH h oN 0 rfl ((J e).ev _ (zW V)) ax λE B2 aO e h _=>?_
  case' a3=>
   have h:=oF h;refine Ii h 3 rfl xl.2.1<|Ii h 2 rfl xr.2.1<|ee.cF ((o.rk).q7 h.fr) 0 rfl hi λaF ai=>Ii h 3 rfl xl.2.2.1<|Ii h 2 rfl xr.2.2.1<|ee.cF ((o.rv).q7 h.fr) 0 rfl V λaG aa=>oB h λaH aI _ _ h=>qp (h.cell 4) (ai _ _ (J (e0.J0 h)).rk) (h.cell 3) (h.cell 4)<|oB h λaL aM _ _ h=>?_;have e:=e0.J0 h;refine qp (aa _ _ (J e).rv) (h.cell 4) (h.cell 5) (h.cell 5)<|e.pF h oJ 0 rfl ((J e).ek _ (zW hi)) ad λC B1 aK e h _=>mQ (aa _ _ (J e).rv) (h.cell 4) (h.cell 5)<|e.wH h oN 1 rfl ((J e).ev _ (zW V)) ax λE B2 aO e h _=>?_
  all_goals
   refine oD h 5 rfl (eN (xl.1,C,xl.2.2.1,xl.2.2.2)) λam h _=>oD h 5 rfl (eN (xl.1,C,E,xl.2.2.2)) λaZ h _=>?_;have h:=oF h;refine Ii h 4 rfl xr.2.1<|jq.from aC 1 rfl oJ λG R=>Ii h 4 rfl xr.2.2.1<|jq.from aD 1 rfl oJ λI aj=>oD h 4 rfl (eN (xr.1,G,xr.2.2.1,xr.2.2.2)) λa0 h _=>oD h 4 rfl (eN (xr.1,G,I,xr.2.2.2)) λa4 h _=>?_;have h:=oF h;refine Ij h 5 rfl (xl.1,C,E,xl.2.2.2)<|Ij h 4 rfl (xr.1,G,I,xr.2.2.2)<|Ii h 4 rfl G<|ee.cF (R.q8 (U (e.J0 h)) λb u=>.inl u).1 0 rfl aw λbn aP=>oD h 3 rfl (eN (xl.1,C,E,xl.2.2.2)) λa5 h _=>mQ (aP _ _ (R.q8 (U (e.J0 h)) λb u=>.inl u).1) (h.cell 4) (h.cells 4)<|oD h 2 rfl (eN (xr.1,G,I,xr.2.2.2)) λay h _=>ky (aP _ _ (R.q8 (U (e.J0 h)) λb u=>.inl u).1) (h.cell 4)<|Ij h 3 rfl (xl.1,C,E,xl.2.2.2)<|Ij h 2 rfl (xr.1,G,I,xr.2.2.2) ?_;have e:=e.J0 h;have hR:=e.y9.j6 (S':=Zo FD Y F) λb u=>.inl (BF b u);have ak:=R.q8 (U e) ag;exact kk (xl.1,C,E,xl.2.2.2) (xr.1,G,I,xr.2.2.2) _ ay (e.qz.y0 λb u=>by simp[u]) hR ⟨an.Q4,⟨λa ha=>o.nb.1 a (yT ha),λa ha=>o.nb.2.1 a (yT ha),o.nb.2.2⟩,⟨_,ak,by rw[xf,o.J6]⟩,⟨_,aj.q8 (U e) ag,by rw[xf,o.Q0]⟩,o.ri.q8 (U e) ag⟩
    (ak.2 _ (zW aw)) e.fr
 ·rw[hl.1] at hc;have a7:¬nl.Q4=true:=(by rw[hc];decide);have il:=sr.inner (by rw[<- aA];exact hc);have hG:takeN nl nr key=({ nl with J6:=nl.J6++[key],J9:=nl.J9++[nr.J9.getD 0 0] },{ nr with J6:=nr.J6.drop 1,J9:=nr.J9.drop 1 },nr.J6.getD 0 []):=(by unfold takeN;rw[iN a7]);have hi:0<pk.length:=oJ;have al:0<nr.J9.length:=oJ;rw[hG,o.mL hi,uj al] at kk;have ad:gE nr.J9[0]:=o.nb.2.2 _ (zW al);have kw:∀ {w' T x' n' B'},Ed dbk pb FD D j (Bl++F) Bl w0 w' T (Br++Y) F M x' n' B'->en (Zo FD (T++(B'++(Br++Y))) F) w' ks key:=λe=>hk.q8 (e.fr.mono λb u _=>ae b (af b u)) (nZ e);refine Ii h 2 rfl xr.2.1<|ee.cF ((o.rk).q7 h.fr) 0 rfl hi λbf bg=>⟨?b1,?b2,?b3⟩;case' b1=>
   have h:=oF h;refine Ii h 3 rfl xl.2.1<|Ii h 3 rfl xl.2.2.2<|Ii h 2 rfl xr.2.2.2<|ee.cP ((o.ri).q7 h.fr) 0 rfl al λaQ ab=>oB h λao ap _ _ h=>?_;have e:=e0.J0 h;refine qp (ab _ _ (J e).ri) (h.cell 3) (h.cell 4) (h.cell 4)<|e.pF h oJ 0 rfl (kw e) au λC B1 aR e h _=>mQ (ab _ _ (J e).ri) (h.cell 3) (h.cell 4)<|oB h λaq ar _ _ h=>?_;have e:=e.J0 h;refine ky (h.cell 5) (h.cell 5)<|e.wj h oN 0 rfl ad λE B2 am e h _=>?_
  case' b2=>
   have h:=oF h;refine Ii h 3 rfl xl.2.1<|Ii h 3 rfl xl.2.2.2<|Ii h 2 rfl xr.2.2.2<|ee.cP ((o.ri).q7 h.fr) 0 rfl al λaQ ab=>oB h λao ap _ _ h=>qp (ab _ _ (J (e0.J0 h)).ri) (h.cell 3) (h.cell 4) (h.cell 4)<|oB h λaq ar _ _ h=>?_;have e:=e0.J0 h;refine ky (h.cell 5) (h.cell 5)<|e.pF h oJ 1 rfl (kw e) au λC B1 aR e h _=>mQ (ab _ _ (J e).ri) (h.cell 4) (h.cell 5)<|e.wj h oN 0 rfl ad λE B2 am e h _=>?_
  case' b3=>
   have h:=oF h;refine Ii h 3 rfl xl.2.1<|Ii h 3 rfl xl.2.2.2<|Ii h 2 rfl xr.2.2.2<|ee.cP ((o.ri).q7 h.fr) 0 rfl al λaQ ab=>oB h λao ap _ _ h=>ky (h.cell 4) (h.cell 4)<|oB h λaq ar _ _ h=>?_;have e:=e0.J0 h;refine qp (ab _ _ (J e).ri) (h.cell 4) (h.cell 5) (h.cell 5)<|e.pF h oJ 0 rfl (kw e) au λC B1 aR e h _=>mQ (ab _ _ (J e).ri) (h.cell 4) (h.cell 5)<|e.wj h oN 1 rfl ad λE B2 am e h _=>?_
  all_goals
   refine oD h 5 rfl (eN (xl.1,C,xl.2.2.1,xl.2.2.2)) λam h _=>oD h 5 rfl (eN (xl.1,C,xl.2.2.1,E)) λaZ h _=>?_;have h:=oF h;refine Ii h 4 rfl xr.2.1<|jq.from aC 1 rfl oJ λG R=>Ii h 4 rfl xr.2.2.2<|ee.vJ o.ri 1 rfl oJ λI aj=>oD h 4 rfl (eN (xr.1,G,xr.2.2.1,xr.2.2.2)) λa0 h _=>oD h 4 rfl (eN (xr.1,G,xr.2.2.1,I)) λa4 h _=>?_;have h:=oF h;refine Ij h 5 rfl (xl.1,C,xl.2.2.1,E)<|Ij h 4 rfl (xr.1,G,xr.2.2.1,I)<|oD h 3 rfl (eN (xl.1,C,xl.2.2.1,E)) λa5 h _=>ik (h.cells 4)<|oD h 2 rfl (eN (xr.1,G,xr.2.2.1,I)) λay h _=>Ij h 3 rfl (xl.1,C,xl.2.2.1,E)<|Ij h 2 rfl (xr.1,G,xr.2.2.1,I) ?_;have e:=e.J0 h;have hR:=e.y9.j6 (S':=Zo FD Y F) λb u=>.inl (BF b u);exact kk (xl.1,C,xl.2.2.1,E) (xr.1,G,xr.2.2.1,I) _ ay (e.qz.y0 λb u=>by simp[u]) hR ⟨an.Q4,⟨λa ha=>o.nb.1 a (yT ha),o.nb.2.1,λa ha=>o.nb.2.2 a (yT ha)⟩,⟨_,R.q8 (U e) ag,by rw[xf,o.J6]⟩,⟨_,aD.q8 (U e) ag,o.Q0⟩,aj.q8 (U e) ag⟩
    (((J e).ek _ (zW hi)).q8 (.refl _ _) λb u=>.inl (by simp only[Zo,zD,zG] at u⊢;rcases u with (u|u|u)|u<;>simp[u])) e.fr
end
end
section
section
variable {dbk pb j:Nat} {FD S S0 S1 N0 Y Y1 F F' T B Bl Br Bn:Ik} {D:dJ} {w0 wa w w':Ic} {M M':dV} {L:Ip} {x xl xr:kz} {n nl nr:dM} {k v:Nat} {t:Int}
def qAv(g:Sg S0 w0 wa F T)(u:∀b∈S0,b∈S1):Sg S1 w0 wa F T:=⟨g.pY.mono λb h _=>u b h,λb h=>(g.new b h).imp (u b) id,λb h=>(g.own b h).imp (u b) id⟩
structure nT (FD F:Ik) (w:Ic) (T R:Ik) (x:kz) (n:dM) (B:Ik):Prop where
 node:fh (Zo FD (T++R) F) w x n B
 sep:∀ b∈T,b∉B
def nT.J0(o:nT FD F wa T R x n B)(h:dR T wa w L):nT FD F w (fk L) R x n B:=
 ⟨o.node.q8 h.fr (λb u C=>o.sep b C u) (λb u=>.inl (by simp[u])) (Dw h),λb u C=>by
  obtain⟨q,G,rfl⟩:=mem_map.1 u;rcases h.own q G with E|E;exact o.sep _ E C;have:=o.node.lt _ C;omega⟩
def Ed.base(e:Ed dbk pb FD D j S0 N0 w0 w T Y F M x n B)(C:∀b∈S0,b∈Z)(E:∀b∈FD,b∈Z)(G:HG∈Z)(I:∀b∈Y,b∈Z):mu Z w0 (Zo FD (T++(B++Y)) F):=λb u=>by simp only[Zo,zD,zG] at u;rcases u with (u|u|u|u|u)|u;exact .inl (E b u);rw[u];exact .inl G;exact (e.sg.own b u).imp (C b) id;exact (e.cE b u).imp (λh=>C b (e.cR b h)) id;exact .inl (I b u);exact (e.sg.new b u).imp (C b) id
def Ed.x4(e:Ed dbk pb FD D j S0 N0 w0 w T Y F M x n B)(hn:fh Z w0 xl nl Bn)(V:∀b∈Bn,b∉S0)(hS:∀b∈S0,b∈Z)(G:∀b∈FD,b∈Z)(I:HG∈Z)(hY:∀b∈Y,b∈Z)(C:∀b∈Bn++Y1,b∈Y)(J:∀b∈Bn,b∉Y1)(R:∀b∈Bn,b<w0.heap.size): Ed dbk pb FD D j (Bn++S0) Bn w0 w T Y1 F M xl nl Bn:=by
 have hz:=e.base hS G I hY;have E:∀b∈Zo FD (T++(Bn++Y1)) F,b∈Zo FD (T++(B++Y)) F:=λb u=>by simp only[Zo,zD,zG] at u⊢;have U:=λh=>C b h;simp only[zD] at U;rcases u with (u|u|u|u|u)|u;simp[u];simp[u];simp[u];simp[U (.inl u)];simp[U (.inr u)];simp[u]
 refine⟨qAv e.sg λb u=>zI _ u,e.tw.y0 λb u=>?_,hn.q8 e.fr V (λb u=>.inl (hS b u)) λb u=>hz b (E b u),λb u hm=>?_,λb u=>.inl u,λb u=>zH _ u,J⟩;rcases zD.1 u with u|u;simp[u];exact zI _ (zI _ (C b u));rcases e.sg.own b u with h1|h1;exact V b hm h1;have:=R b hm;omega
def qBo:∀b∈Bn++(Br++Y),b∈Zo FD (Bl++(Bn++(Br++Y))) F:=λb u=>by simp only[Zo,zD,zG] at u⊢;rcases u with h|h|h<;>simp[h]
def qAX:∀b∈Bn++Y,b∈Bn++(Br++Y):=λb u=>by simp only[zD] at u⊢;rcases u with h|h<;>simp[h]
def qAY:∀b∈Zo FD (T++(Bn++Y)) F,b∈Zo FD (T++(Bn++(Br++Y))) F:=λb u=>by simp only[Zo,zD,zG] at u⊢;rcases u with (h|h|h|h|h)|h<;>simp[h]
def qyU{K:kz×Int->WP}(hT:TW dbk pb FD D j w0 (Bl++(Bn++(Br++Y))) F M)(hl:fh (Zo FD (Bl++(Bn++(Br++Y))) F) w0 xl nl Bl)(hn:fh (Zo FD (Bl++(Bn++(Br++Y))) F) w0 x n Bn)(hr:fh (Zo FD (Bl++(Bn++(Br++Y))) F) w0 xr nr Br)(d1:∀b∈Bl,b∉Bn)(d2:∀b∈Bl,b∉Br)(d3:∀b∈Bl,b∉Y)(d4:∀b∈Bn,b∉Br)(d5:∀b∈Bn,b∉Y)(sl:gG nl)(sr:gG nr)(sn:gG n)(hi:i<n.J6.length)(aA:n.Q4=false)(R:∀yn B' F' w',TW dbk pb FD D j w' (B'++Y) F' (lI k v M n i nl nr).2->fh (Zo FD (B'++Y) F') w' yn (lI k v M n i nl nr).1.1 B'->Fr (Bn++(Bl++F)) w0 w'->(∀b∈B',b∈Bn\/w0.heap.size<=b)->(∀b∈F',b∈Bn++(Bl++F)\/w0.heap.size<=b)->K (yn,(lI k v M n i nl nr).1.2) w'): cW 203 [.agg (np (jC k v pb t)),.agg (eN x),.i i,.agg (eN xl),.agg (eN xr)] [.agg ed,.one .i] w0 K:=by
 refine ql1 ?_;have e0:Ed dbk pb FD D j (Bl++F) Bl w0 w0 [] (Bn++(Br++Y)) F M xl nl Bl:=⟨⟨.refl _ _,λb u=>.inl (by simp[u]),λ_ h=>nomatch h⟩,hT,hl,λ_ h=>(nomatch h),λb u=>.inl u,λb u=>by simp[u],λb u G=>by simp only[zD] at G;rcases G with G|G|G;exact d1 b u G;exact d2 b u G;exact d3 b u G⟩;have hF:∀ {Bx:Ik},(∀b∈Bx,b∈Bn\/b∈Br)->(∀b∈Bx,b∉Bl)->∀b∈Bx,b∉Bl++F:=λh1 h2 b u G=>(zD.1 G).elim (h2 b u) λG=>hT.yf b (by rcases h1 b u with h|h<;>simp[h]) G;have dn:=hF (Bx:=Bn) (λb u=>.inl u) λb u G=>d1 b G u;obtain⟨nk,nv,on⟩:=hn.Bc (S0:=Bl++F) dn;obtain⟨rk,rv,E⟩:=hr.Bc (S0:=Bl++F) (hF (λb u=>.inr u) λb u G=>d2 b G u);have ac:∀b∈Bl++F,b∈Zo FD (Bl++(Bn++(Br++Y))) F:=λb u=>by rcases zD.1 u with u|u<;>simp[u]
 have nZ:∀ {w' T x' n' B'},Ed dbk pb FD D j (Bl++F) Bl w0 w' T (Bn++(Br++Y)) F M x' n' B'->mu (Zo FD (Bl++(Bn++(Br++Y))) F) w0 (Zo FD (T++(B'++(Bn++(Br++Y)))) F):=λe=>e.base ac (λb u=>by simp[u]) oL λb u=>by simp only[Zo,zD,zG] at u⊢;rcases u with h|h|h<;>simp[h]
 have nw:∀ {w' T x' n' B'},Ed dbk pb FD D j (Bl++F) Bl w0 w' T (Bn++(Br++Y)) F M x' n' B'->pM (Bl++F) (Zo FD (T++(B'++(Bn++(Br++Y)))) F) w' x n nk nv:=λe=>on.q8 e.fr (λb u=>u) ac (λb u=>.inl u) (nZ e);have V:∀ {w' T x' n' B'},Ed dbk pb FD D j (Bl++F) Bl w0 w' T (Bn++(Br++Y)) F M x' n' B'->pM (Bl++F) (Zo FD (T++(B'++(Bn++(Br++Y)))) F) w' xr nr rk rv:=λe=>E.q8 e.fr (λb u=>u) ac (λb u=>.inl u) (nZ e);have ad:i<nk.length:=(by rw[on.tk];exact hi);have a4:=sn.inner aA;have ae:i<n.J9.length:=oJ;have ag:i+1<n.J9.length:=oJ;have z1:=sl.J6;have z2:=sl.Q0;have z3:=sl.J9;have z4:=sr.J6;have z5:=sr.Q0;have z6:=sr.J9;have z7:=sn.J6;have z8:=sn.J9;have a5:=E.tk;have a6:=E.wI;have h:=oE [] w0;refine oB h λr1 w2 _ _ h=>oB h λr3 w4 _ _ h=>oB h λr5 w6 _ _ h=>oB h λr7 w8 _ _ h=>oB h λr9 a7 _ _ h=>gP (λ_ w'=>∃I B',dR [r9,r7,r5,r3,r1] w' w' [(r9,.c (eN fD) ND),(r7,.c (eN xr) ND),(r5,.c (eN (xl.1,I,xl.2.2)) ND),(r3,.c (eN x) ND),(r1,.c (np (jC k v pb t)) WK)]/\
  Ed dbk pb FD D j (Bl++F) Bl w0 w' [r9,r7,r5,r3,r1] (Bn++(Br++Y)) F M (xl.1,I,xl.2.2) { nl with J6:=if nl.Q4 then nl.J6 else nl.J6++[n.J6.getD i []] } B') ?_ ?_
 refine Ii h 2 rfl xl.1 ?_;apply dX<;>intro C;have C:nl.Q4=false:=(by rw[hl.1,zT] at C;exact C);rw[iN (show ¬nl.Q4=true by rw[C];decide),on.mL ad];have h:=oF h;refine Ii h 2 rfl xl.2.1<|Ii h 3 rfl x.2.1<|ee.get (on.rk.q7 h.fr) i rfl (x:=nk[i].1) (by rw[zQ,zA ad];rfl) (y:=nk[i].1) rfl<|oB h λa8 a9 _ _ h=>ik (h.cell 3) ?_;have e:=e0.J0 h;exact e.pF h oJ 0 rfl ((nw e).ek _ (zW ad)) (by rw[<- on.mL ad];exact sX on.nb.1 _) λI B1 a' e h _=>oD h 3 rfl (eN (xl.1,I,xl.2.2)) λba h _=>⟨I,B1,lM h (.cons _ (.refl _)),(e.J0 h).sub oL⟩;have C:nl.Q4=true:=(by rw[hl.1,yD] at C;exact C);rw[iP C];exact⟨xl.2.1,Bl,lM h (.refl _),e0.J0 h⟩;rintro _ bb ⟨I,B1,h,e⟩;have e:=e.J0 h;have h:=lM h (.refl _);refine Ii h 2 rfl I<|Ii h 1 rfl xr.2.1 ?_;have aT:(if nl.Q4 then nl.J6 else nl.J6++[n.J6.getD i []]).length<=2001:=by split;omega;rw[zF,xL];omega
 refine e.vh h oN (V e).rk (V e).ek (by rw[E.J6];exact E.nb.1) λaa B2 bd e h _=>?_;rw[E.J6] at e;refine oD h 2 rfl (eN (xl.1,aa,xl.2.2.1,xl.2.2.2)) λbf h _=>Ii h 2 rfl xl.2.2.1<|Ii h 1 rfl xr.2.2.1 ?_;have e:=e.J0 h;refine e.uO h oN (V e).rv (V e).ev (by rw[E.Q0];exact E.nb.2.1) λaf B3 bg e h _=>?_;rw[E.Q0] at e;refine oD h 2 rfl (eN (xl.1,aa,af,xl.2.2.2)) λbh h _=>Ii h 2 rfl xl.2.2.2<|Ii h 1 rfl xr.2.2.2 ?_;have e:=e.J0 h;refine e.uU h oN (V e).ri E.nb.2.2 λah B4 bi e h _=>oD h 2 rfl (eN (xl.1,aa,af,ah)) λbj h _=>?_;have h:=oF h;have e:=e.J0 h;have h:=lM h (.refl _);refine Ij h 4 rfl (jC k v pb t)<|Ii h 3 rfl x.2.2.2<|ee.get (nw e).ri i rfl (x:=n.J9[i]) (zA ae) (y:=n.J9[i]) rfl<|Ij h 2 rfl (xl.1,aa,af,ah) ?_;have hJ:({ Q4:=nl.Q4,J6:=(if nl.Q4 then nl.J6 else nl.J6++[n.J6.getD i []])++nr.J6,Q0:=nl.Q0++nr.Q0,J9:=nl.J9++nr.J9 }:dM)=kP nl nr (n.J6.getD i []):=rfl;have aC:n.J9.getD i 0=n.J9[i]:=uj ae;have ao:n.J9.getD (i+1) 0=n.J9[i+1]:=uj ag;unfold lI at R;rw[aC,ao,<- hJ] at R;have aD:=e.y9.j6 λb u=>.inl (qAY b u);have e:=e.x4 hn dn ac (λb u=>by simp[u]) oL qBo (Y1:=Y) qAX d5 hn.lt;refine uY e.tw aD (by dsimp only;rw[zF];omega) (by dsimp only;rw[zF];omega) (by dsimp only;rw[zF];omega) λF1 bm ap aE aF=>?_;obtain⟨e,h⟩:=e.next h ap aE aF;generalize aG:dP k v M n.J9[i] { Q4:=nl.Q4,J6:=(if nl.Q4 then nl.J6 else nl.J6++[n.J6.getD i []])++nr.J6,Q0:=nl.Q0++nr.Q0,J9:=nl.J9++nr.J9 }=st at R e⊢;have hu:gE st.1.1:=(by rw[<- aG];exact uT hT.wf (hn.2.1.2.2 _ (zW ae)));obtain⟨⟨bn,J⟩,M1⟩:=st;dsimp only at R e hu⊢;refine gP (λer w'=>∃F2,er=(if J=0 then (fq M1 n.J9[i+1]).1 else J)/\dR [r9,r7,r5,r3,r1] w' w' [(r9,.c (eN fD) ND),(r7,.c (eN xr) ND),(r5,.c (eN (xl.1,aa,af,ah)) ND),(r3,.c (eN x) ND),(r1,.c (np (jC k v pb t)) WK)]/\
  Ed dbk pb FD D j (Bn++(Bl++F)) Bn w0 w' [r9,r7,r5,r3,r1] Y F2 (if J=0 then (fq M1 n.J9[i+1]).2 else M1) x n Bn) ?_ ?_
 apply dX<;>intro C;have C:J=0:=yO.1 C;rw[iP C,iP C];have h:=oF h;refine Ii h 4 rfl (pW pb)<|Ii h 3 rfl x.2.2.2 ?_;have e:=e.J0 h;have ew:wrap .i64 ((i:Int)+1)=((i+1:Nat):Int):=rj oJ;refine ee.get e.y6 (i+1) ew (x:=n.J9[i+1]) (zA ag) (y:=n.J9[i+1]) rfl<|TW.drop e.tw λF2 bo aq aH aI=>?_;obtain⟨e,h⟩:=e.next h aq aH aI
 exact⟨F2,rfl,h,e⟩;have C:¬J=0:=zR.1 C;rw[iN C,iN C];exact⟨F1,rfl,h,e⟩;rintro er bp ⟨F2,rfl,h,e⟩;have e:=e.J0 h;have h:=lM h (.refl _);have aJ:∀ {A B:(dM×Int)×dV},(if J≠0 then A else B)=if J=0 then B else A:=by intro A B;by_cases h:J=0;rw[iN λh'=>h' h,iP h];rw[iP h,iN h]
 rw[aJ] at R;apply dX<;>intro C;have C:(if J=0 then (fq M1 n.J9[i+1]).1 else J)≠0:=by rw[zT] at C;exact zR.1 C
 refine oD h 0 rfl (eN fD) λar h _=>Ij h 0 rfl fD ?_;have e:=e.J0 h;by_cases h0:J=0;rw[iP h0] at R C e⊢;rw[iP C] at R;exact R fD [] F2 ar e.qz.j7 (.zero _ _) e.fr (λ_ h=>(nomatch h)) e.sg.new;rw[iN h0] at R C e⊢;exact R fD [] F2 ar e.qz.j7 (.zero _ _) e.fr (λ_ h=>(nomatch h)) e.sg.new;have C:(if J=0 then (fq M1 n.J9[i+1]).1 else J)=0:=by rw[yD] at C;exact yO.1 C
 by_cases h0:J=0;rw[iP h0] at R C e;rw[iN λh=>h C] at R;refine Ii h 3 rfl x.2.2.2<|e.tY h (i:=i) ae rfl hu λB1 bt e h _=>?_;have h:=oF h;refine Ii h 3 rfl x.2.2.2<|Ii h 3 rfl x.2.1 ?_;have e:=e.J0 h;have ew:wrap .i64 ((i:Int)+1)=((i+1:Nat):Int):=rj oJ;have aK:wrap .i64 ((i:Int)+2)=((i+1+1:Nat):Int):=(by rw[gi _ oJ];omega);refine e.GU h (i:=i+1) (by dsimp only;rw[xF];omega) ew aK (by dsimp only;rw[xF];omega) λU B2 bu e h _=>ik (h.cell 3)<|e.A7 h (i:=i) hi rfl ew oN λab B3 bv e h _=>oD h 3 rfl (eN (x.1,x.2.1,x.2.2.1,U)) λbx h _=>oD h 3 rfl (eN (x.1,ab,x.2.2.1,U)) λbz h _=>Ij h 3 rfl (x.1,ab,x.2.2.1,U)<|oD h 0 rfl (eN (x.1,ab,x.2.2.1,U)) λaL h _=>Ij h 0 rfl (x.1,ab,x.2.2.1,U) ?_;have e:=e.J0 h;refine R (x.1,ab,x.2.2.1,U) B3 F2 aL e.tw.j7 (e.node.j6 λb u=>.inl (by simp only[Zo,zD,zG] at u⊢;rcases u with (u|u|u|u)|u<;>simp[u])) e.fr e.cE e.sg.new;rw[iN h0] at C;exact absurd C h0
end
end
section
section
variable {D:dJ} {M:dV} {k v side c:Nat} {n nx ny:dM}
def qyI{e:Int}(h:dK D M k v (n.J9.getD side 0)=(ny,e))(u:e≠0):jF D k v M n side c nx=((ir,e),M):=by unfold jF;rw[h,iP u]
def qw3(h:dK D M k v (n.J9.getD side 0)=(ny,0))(u:¬iT ny k v):jF D k v M n side c nx=lI k v M n (if side<c then side else c) (if side<c then ny else nx) (if side<c then nx else ny):=by unfold jF;rw[h,iN λh=>h rfl];by_cases hsd:side<c;rw[iP hsd,iP hsd,iP hsd,iP hsd,iP u];rw[iN hsd,iN hsd,iN hsd,iN hsd,iP u]
def qw2(h:dK D M k v (n.J9.getD side 0)=(ny,0))(u:iT ny k v):jF D k v M n side c nx=nd k v M n (if side<c then side else c) (if side<c then iU ny nx (n.J6.getD side []) else takeN nx ny (n.J6.getD c [])):=by unfold jF;rw[h,iN λh=>h rfl];by_cases hsd:side<c;rw[iP hsd,iP hsd,iP hsd,iN λh=>h u];rw[iN hsd,iN hsd,iN hsd,iN λh=>h u]
def qmC{n:dM}{k v:Nat}(h:fH n k v):gG n:=by obtain⟨E,G,I,u,C⟩:=uQ h;exact⟨λh=>(u h).1,λh=>(C h).1.symm,oJ,oJ,oJ⟩
def qwe(E:gY k v)(u:iT n k v)(sn:gG n):1<=n.J6.length/\(n.Q4=true->2<=n.J6.length):=by
 have G:=E.Q4;have I:=E.inner;unfold iT at u;unfold eT at u;cases C:n.Q4 with
 | true=>rw[C,iP rfl] at u;dsimp only at u;exact⟨oJ,λ_=>oJ⟩
 | false=>
  have:=sn.inner C;rw[C,iN oM] at u;dsimp only at u;exact⟨oJ,λh=>nomatch h⟩
end
section
variable {dbk pb j:Nat} {FD S S0 N0 Y F F' T B Bl Br Bn Bx By:Ik} {D:dJ} {w0 wa w w' w7:Ic} {M M':dV} {L:Ip} {x xx xy:kz} {n nx ny:dM} {k v:Nat} {t:Int}
def Ed.more(e:Ed dbk pb FD D j S0 N0 w0 w (fk L) Y F M x n B)(h:dR T wa w L)(J:TW dbk pb FD D j w7 (By++(fk L++(B++Y))) F M)(R:fh (Zo FD (By++(fk L++(B++Y))) F) w7 xy ny By)(f:Fr [] w w7)(E:∀c∈By,w.heap.size<=c): Ed dbk pb FD D j S0 N0 w0 w7 (fk L) (By++Y) F M x n B/\dR (fk L) w7 w7 L/\nT FD F w7 (fk L) (B++(By++Y)) xy ny By:=by
 have C:∀b∈Zo FD (fk L++(B++(By++Y))) F,b∈Zo FD (By++(fk L++(B++Y))) F:=λb u=>by simp only[Zo,zD,zG] at u⊢;rcases u with (u|u|u|u|u|u)|u<;>simp[u]
 have G:∀b∈Zo FD (fk L++(B++(By++Y))) F,b∈Zo FD (fk L++(B++Y)) F\/w.heap.size<=b:=λb u=>by simp only[Zo,zD,zG] at u⊢;rcases u with (u|u|u|u|u|u)|u;simp[u];simp[u];simp[u];simp[u];exact .inr (E b u);simp[u];simp[u]
 refine⟨⟨⟨e.sg.pY.j8 f (λ_ h=>nomatch h),e.sg.new,e.sg.own⟩,J.y0 λb u=>?_,e.node.q8 f (λ_ _ h=>nomatch h) (λ_ h=>nomatch h) G,e.sep,e.cE,e.cR,λb u C=>?_⟩,qv h f (λ_ _ h=>nomatch h),R.j6 λb u=>.inl (C b u),λb u C=>?_⟩;simp only[zD] at u⊢;rcases u with u|u|u|u<;>simp[u];rcases zD.1 C with I|I;have:=e.node.lt b u;have:=E b I;omega;exact e.cK b u I;have:=xj h b u;have:=E b C;omega
def nT.more(o:nT FD F w (fk L) (B++Y) x n Bx)(f:Fr [] w w7)(C:∀c∈By,w.heap.size<=c):nT FD F w7 (fk L) (B++(By++Y)) x n Bx:=
 ⟨o.node.q8 f (λ_ _ h=>nomatch h) (λ_ h=>nomatch h) λb u=>by simp only[Zo,zD,zG] at u⊢;rcases u with (u|u|u|u|u|u)|u;simp[u];simp[u];simp[u];simp[u];exact .inr (C b u);simp[u];simp[u],o.sep⟩
def nT.q7{R:Ik}(o:nT FD F w T R x n B)(f:Fr [] w w'):nT FD F w' T R x n B:=⟨o.node.q7 f,o.sep⟩
def qw5{nl nr:dM}(h:∀a∈nl.J6,eI a)(sl:gG nl)(u:gG nr):eI (iU nl nr key).2.2/\(iU nl nr key).1.J6.length<=9000/\(iU nl nr key).1.Q0.length<=9000/\(iU nl nr key).1.J9.length<=9000/\(iU nl nr key).2.1.J6.length<=9000/\(iU nl nr key).2.1.Q0.length<=9000/\(iU nl nr key).2.1.J9.length<=9000:=by obtain⟨_,_,C,E,G⟩:=sl;obtain⟨_,_,I,J,R⟩:=u;unfold iU;split;refine⟨sX h _,?_⟩;simp only[yK,yH];omega;refine⟨sX h _,?_⟩;simp only[yK,yH];omega
def qx1{nl nr:dM}(h:∀a∈nr.J6,eI a)(sl:gG nl)(u:gG nr):eI (takeN nl nr key).2.2/\(takeN nl nr key).1.J6.length<=9000/\(takeN nl nr key).1.Q0.length<=9000/\(takeN nl nr key).1.J9.length<=9000/\(takeN nl nr key).2.1.J6.length<=9000/\(takeN nl nr key).2.1.Q0.length<=9000/\(takeN nl nr key).2.1.J9.length<=9000:=by obtain⟨_,_,E,G,I⟩:=sl;obtain⟨_,_,J,R,U⟩:=u;unfold takeN;split;refine⟨sX (λa C=>h a (yT C)) _,?_⟩;simp only[zF,yB,yH,xJ];omega;refine⟨sX h _,?_⟩;simp only[zF,yB,yH,xJ];omega
def tH{Y':Ik}(h:∀b∈Y',b∈Y):∀b∈Zo FD Y' F,b∈Zo FD Y F:=λb u=>by simp only[Zo,zD,zG] at u⊢;rcases u with (u|u|u)|u;simp[u];simp[u];simp[h b u];simp[u]
def Ed.fO{Y1:Ik}(e:Ed dbk pb FD D j S0 N0 w0 w (fk L) Y F M x n B)(h:dR T wa w L)(R:TW dbk pb FD D j w' (fk L++(B++Y1)) F M)(f:Fr S w w')(G:∀b∈S,b∈S0\/w0.heap.size<=b)(C:∀b∈S,b∉B/\b∉fk L)(I:∀b∈S,b∈Zo FD (fk L++(B++Y)) F)(J:∀b∈Y1,b∈Y): Ed dbk pb FD D j S0 N0 w0 w' (fk L) Y1 F M x n B/\dR (fk L) w' w' L:=
 ⟨⟨⟨e.sg.pY.j8 f G,e.sg.new,e.sg.own⟩,R,e.node.q8 f (λb u E=>(C b E).1 u) (λb u=>.inl (I b u)) λb u=>.inl (by simp only[Zo,zD,zG] at u⊢;rcases u with (u|u|u|u|u)|u;simp[u];simp[u];simp[u];simp[u];simp[J b u];simp[u]),e.sep,e.cE,e.cR,λb u E=>e.cK b u (J b E)⟩,qv h f λb u E=>(C b E).2 u⟩
set_option maxHeartbeats 4000000 in
def qyJ{side c:Nat}{K:kz×Int->WP}(hT:TW dbk pb FD D j w0 (Bn++(Bx++Y)) F M)(hn:fh (Zo FD (Bn++(Bx++Y)) F) w0 x n Bn)(hx:fh (Zo FD (Bn++(Bx++Y)) F) w0 xx nx Bx)(d1:∀b∈Bn,b∉Bx)(d2:∀b∈Bn,b∉Y)(d3:∀b∈Bx,b∉Y)(sn:gG n)(sx:gG nx)(a6:n.Q4=false)(ct:side+1=c\/c+1=side)(hs:side<n.J9.length)(cu:c<n.J9.length)(bL:∀ny,dK D M k v (n.J9.getD side 0)=(ny,0)->ny.Q4=nx.Q4)(a7:gY k v)(kk:∀yn B' F' w',TW dbk pb FD D j w' (B'++Y) F' (jF D k v M n side c nx).2->fh (Zo FD (B'++Y) F') w' yn (jF D k v M n side c nx).1.1 B'->Fr (Bn++(Bx++F)) w0 w'->(∀b∈B',b∈Bn\/w0.heap.size<=b)->(∀b∈F',b∈Bn++(Bx++F)\/w0.heap.size<=b)->K (yn,(jF D k v M n side c nx).1.2) w'): cW 170 [.agg (np (jC k v pb t)),.agg (eN x),.i side,.i c,.agg (eN xx)] [.agg ed,.one .i] w0 K:=by
 refine ql0 ?_;unfold GH Ey;have ei:(if (c:Int)<(side:Int) then (c:Int) else (side:Int))=(((if side<c then side else c):Nat):Int):=by by_cases h1:c<side;rw[iP,iN];rw[iN,iP]
 have ao:(if side<c then side else c)+1<n.J9.length:=(by split<;>omega);rw[ei];generalize aC:(if side<c then side else c)=i at ao⊢;have il:=sn.inner a6;have s1:=sn.J6;have s3:=sn.J9;have aD:i<n.J6.length:=oJ;have ew:wrap .i64 ((i:Int)+1)=((i+1:Nat):Int):=rj oJ;rw[ew];have e0:Ed dbk pb FD D j (Bn++(Bx++F)) Bn w0 w0 [] (Bx++Y) F M x n Bn:=⟨⟨.refl _ _,λb u=>.inl (by simp[u]),λ_ h=>nomatch h⟩,hT,hn,λ_ h=>(nomatch h),λb u=>.inl u,λb u=>by simp[u],λb u I=>(zD.1 I).elim (d1 b u) (d2 b u)⟩;have o0:nT FD F w0 [] (Bn++(Bx++Y)) xx nx Bx:=⟨hx,λ_ h=>nomatch h⟩;rcases al:dK D M k v (n.J9.getD side 0) with ⟨ny,ey⟩;have bN:n.J9.getD side 0=n.J9[side]:=uj hs;have aL:dK D M k v n.J9[side]=(ny,ey):=(by rw[<- bN];exact al);have a8:=hx.lt;have a9:∀b∈Y,b<w0.heap.size:=λb u=>hT.qw b (by simp[u]);have a':gE n.J9[side]:=hn.2.1.2.2 _ (zW hs);have h:=oE [] w0;refine oB h λJ w2 _ _ h=>oB h λR w4 _ _ h=>oB h λU w6 _ _ h=>oB h λV w8 _ _ h=>?_;have h:=oF h;refine⟨?a,?b⟩;case' a=>
  have e:=e0.J0 h;have o:=o0.J0 h;refine Ij h 3 rfl (jC k v pb t)<|Ii h 2 rfl x.2.2.2<|ee.cP e.y6 side rfl hs λbO hh=>?_;have aQ:=e.fr.size;refine AB (k:=k) (v:=v) e.tw a' λxy By bQ ap ab aq ac=>?_;rw[aL] at ab⊢;dsimp only at ab;obtain⟨e,h,oy⟩:=e.more h ap ab aq ac;have ox:=o.more (By:=By) aq ac;refine oB h λC bR _ _ h=>mQ (hh _ _ (e.J0 h).y6) (h.cell 3) (h.cells 4)<|oD h 0 rfl (eN xy) λbS h _=>?_;have oy:=oy.J0 h;have ox:=ox.J0 h;have e:=e.J0 h;have h:=lM h (.refl _);have aE:∀b∈By,w0.heap.size<=b:=λb u=>zL aQ (ac b u)
 case' b=>
  have e:=e0.J0 h;have o:=o0.J0 h;have h:=lM h (.refl _);refine Ij h 3 rfl (jC k v pb t)<|Ii h 2 rfl x.2.2.2<|ee.cP e.y6 side rfl hs λbO hh=>oB h λC bR _ _ h=>?_;have e:=e.J0 h;have o:=o.J0 h;refine mQ (hh _ _ e.y6) (h.cell 3) (h.cells 4) ?_;have aQ:=e.fr.size;refine AB (k:=k) (v:=v) e.tw a' λxy By bQ ap ab aq ac=>?_;rw[aL] at ab⊢;dsimp only at ab;obtain⟨e,h,oy⟩:=e.more h ap ab aq ac;have ox:=o.more (By:=By) aq ac;refine oD h 0 rfl (eN xy) λbS h _=>?_;have oy:=oy.J0 h;have ox:=ox.J0 h;have e:=e.J0 h;have h:=lM h (.refl _);have aE:∀b∈By,w0.heap.size<=b:=λb u=>zL aQ (ac b u)
 all_goals
  apply dX<;>intro hc;have ar:ey≠0:=by rw[zT] at hc;exact zR.1 hc
  rw[qyI al ar] at kk;refine oD h 1 rfl (eN fD) λbT h _=>Ij h 1 rfl fD ?_;have e:=e.J0 h;exact kk fD [] F bT (e.qz.y0 λb u=>by simp at u⊢;simp[u]) (.zero _ _) e.fr (λ_ h=>(nomatch h)) e.sg.new;have bU:ey=0:=by rw[yD] at hc;exact yO.1 hc
  subst bU;have bV:=AL al;have sy:=qmC bV;have aM:=bL ny al;have aR:∀b∈By,b∉Bx:=λb u I=>by have:=aE b u;have:=a8 b I;omega
  have bb:∀b∈By,b∉Y:=λb u I=>by have:=aE b u;have:=a9 b I;omega
  refine⟨?_,?_⟩;have h:=oF h;refine Ij h 2 rfl xx<|Ij h 0 rfl xy<|oB h λE bW _ _ h=>ky (h.cells 1) (h.cells 3)<|oB h λG bX _ _ h=>ky (h.cells 2) (h.cells 4)<|oD h 1 rfl (eN xx) λbY h _=>ik (h.cells 2)<|oD h 0 rfl (eN xy) λbZ h _=>?_;rotate_left;have h:=oF h;refine Ij h 2 rfl xx<|Ij h 0 rfl xy<|oB h λG bW _ _ h=>ky (h.cells 1) (h.cells 3)<|oB h λE bX _ _ h=>ky (h.cells 2) (h.cells 4)<|oD h 0 rfl (eN xx) λbY h _=>ik (h.cells 2)<|oD h 1 rfl (eN xy) λbZ h _=>?_;have h:=Du h (List.Perm.swap _ _ _);all_goals
   obtain⟨xl,nl,Bl,xr,nr,Br,hP⟩:∃xl nl Bl xr nr Br,(side<c/\xl=xy/\nl=ny/\Bl=By/\xr=xx/\nr=nx/\Br=Bx)\/(¬side<c/\xl=xx/\nl=nx/\Bl=Bx/\xr=xy/\nr=ny/\Br=By):=by by_cases aa:side<c;exact⟨_,_,_,_,_,_,.inl ⟨aa,rfl,rfl,rfl,rfl,rfl,rfl⟩⟩;exact⟨_,_,_,_,_,_,.inr ⟨aa,rfl,rfl,rfl,rfl,rfl,rfl⟩⟩
   refine gP (λ_ w'=>dR [G,E,C,V,U,R,J] w' w' [(G,.c (eN xr) ND),(E,.c (eN xl) ND),(C,.c (eN xy) ND),(V,.c (eN fD) ND),(U,.c (eN xx) ND),(R,.c (eN x) ND),(J,.c (np (jC k v pb t)) WK)]/\
    Ed dbk pb FD D j (Bn++(Bx++F)) Bn w0 w' [G,E,C,V,U,R,J] (By++(Bx++Y)) F M x n Bn/\nT FD F w' [G,E,C,V,U,R,J] (Bn++(By++(Bx++Y))) xx nx Bx/\nT FD F w' [G,E,C,V,U,R,J] (Bn++(By++(Bx++Y))) xy ny By) ?_ ?_
   apply dX<;>intro hc;have aa:side<c:=(by have:=zC hc;omega);rcases hP with ⟨_,rfl,rfl,rfl,rfl,rfl,rfl⟩|⟨hn,_⟩;have h:=oF h;exact Ij h 2 rfl xl<|Ij h 4 rfl xr<|oD h 1 rfl (eN xl) λcx h _=>ik (h.cells 4)<|oD h 0 rfl (eN xr) λcy h _=>⟨lM h (.refl _),e.J0 h,ox.J0 h,oy.J0 h⟩;exact absurd aa hn;have aa:¬side<c:=(by have:=zB hc;omega);rcases hP with ⟨hn,_⟩|⟨_,rfl,rfl,rfl,rfl,rfl,rfl⟩;exact absurd hn aa;exact⟨lM h (.refl _),e.J0 h,ox.J0 h,oy.J0 h⟩;rintro _ cz ⟨h,e,ox,oy⟩;refine Ij h 6 rfl (BT k v)<|Ij h 2 rfl xy ?_;have ly:oh xy ny:=(oy.node.rd (S:=[]) (λ_ _ h=>(nomatch h)) λ_ h=>nomatch h).lens;refine qzk ly λam b0=>?_;have h:=h.q7 b0;have e:=e.J0 h;have ox:=ox.J0 h;have oy:=oy.J0 h;have h:=lM h (.refl _);apply dX<;>intro hc;have aG:¬iT ny k v:=by rw[zT] at hc;exact zB hc
   rw[qw3 al aG] at kk;have hj:(if side<c then ny else nx)=nl/\(if side<c then nx else ny)=nr:=by rcases hP with ⟨h1,_,h2,_,_,h3,_⟩|⟨h1,_,h2,_,_,h3,_⟩;rw[iP h1,iP h1,h2,h3];exact⟨rfl,rfl⟩;rw[iN h1,iN h1,h2,h3];exact⟨rfl,rfl⟩
   rw[aC,hj.1,hj.2] at kk;have e:=e.sub (T1:=[G,E,C,V,U,R,J]) λb u=>u;have aT:nT FD F am [G,E,C,V,U,R,J] (Bn++(By++(Bx++Y))) xl nl Bl:=by rcases hP with ⟨_,rfl,rfl,rfl,_⟩|⟨_,rfl,rfl,rfl,_⟩<;>assumption
   have b3:nT FD F am [G,E,C,V,U,R,J] (Bn++(By++(Bx++Y))) xr nr Br:=by rcases hP with ⟨_,_,_,_,rfl,rfl,rfl⟩|⟨_,_,_,_,rfl,rfl,rfl⟩<;>assumption
   have bc:gG nl/\gG nr:=by rcases hP with ⟨_,_,rfl,_,_,rfl,_⟩|⟨_,_,rfl,_,_,rfl,_⟩<;>exact⟨by assumption,by assumption⟩
   have b4:(∀b∈Bl,b∈By\/b∈Bx)/\(∀b∈Br,b∈By\/b∈Bx)/\∀b∈Bl,b∉Br:=by rcases hP with ⟨_,_,_,rfl,_,_,rfl⟩|⟨_,_,_,rfl,_,_,rfl⟩;exact⟨λb u=>.inl u,λb u=>.inr u,aR⟩;exact⟨λb u=>.inr u,λb u=>.inl u,λb u I=>aR b I u⟩
   obtain⟨aH,bd,b5⟩:=b4;have aU:∀b,b∈By\/b∈Bx->b∉Bn/\b∉Y:=λb u=>by rcases u with u|u;exact⟨λI=>e.cK b I (by simp[u]),bb b u⟩;exact⟨λI=>e.cK b I (by simp[u]),d3 b u⟩
   have au:∀b∈Bl++(Bn++(Br++([G,E,C,V,U,R,J]++Y))),b∈[G,E,C,V,U,R,J]++(Bn++(By++(Bx++Y))):=λb u=>by have a1:=aH b;have a2:=bd b;rw[zD,zD,zD,zD] at u⊢;rcases u with u|u|u|u|u;rcases a1 u with h|h<;>simp[h];simp[u];rcases a2 u with h|h<;>simp[h];simp[u];simp[u]
   have hZ:∀b∈Zo FD (Bl++(Bn++(Br++([G,E,C,V,U,R,J]++Y)))) F,b∈Zo FD ([G,E,C,V,U,R,J]++(Bn++(By++(Bx++Y)))) F:=tH au;refine Ij h 6 rfl (jC k v pb t)<|Ij h 5 rfl x<|Ij h 1 rfl xl<|Ij h 0 rfl xr<|qyU (Y:=[G,E,C,V,U,R,J]++Y) (e.tw.y0 au) (aT.node.j6 λb u=>.inl (hZ b u)) (e.node.j6 λb u=>.inl (hZ b u)) (b3.node.j6 λb u=>.inl (hZ b u)) (λb u=>(aU b (aH b u)).1) b5 (λb u I=>(zD.1 I).elim (λI=>aT.sep b I u) (aU b (aH b u)).2) (λb u I=>(aU b (bd b I)).1 u) (λb u I=>(zD.1 I).elim (λI=>e.sep b I u) (d2 b u)) bc.1 bc.2 sn aD a6 λyn B' F' b8 bf bg bh nB nF=>?_;have b9:∀b∈[G,E,C,V,U,R,J],b<am.heap.size:=λb u=>e.tw.qw b (zH _ u);have hS:∀b∈Bn++(Bl++F),b∈Bn++(Bx++F)\/w0.heap.size<=b:=λb u=>by rcases zD.1 u with u|u;exact .inl (by simp[u]);rcases zD.1 u with u|u;rcases aH b u with h1|h1;exact .inr (aE b h1);exact .inl (by simp[h1]);exact .inl (by simp[u])
   have h:=qv h bh λb u I=>by rcases zD.1 I with I|I;exact e.sep b u I;rcases zD.1 I with I|I;exact aT.sep b u I;exact e.tw.yf b (zH _ u) I
   refine oD h 3 rfl (eN yn) λca h _=>Ij h 3 rfl yn ?_;have bi:∀b∈[G,E,C,V,U,R,J]++(B'++Y),b∈B'++([G,E,C,V,U,R,J]++Y):=λb u=>by rw[zD,zD] at u⊢;rcases u with u|u|u<;>simp[u]
   have o:nT FD F' b8 [G,E,C,V,U,R,J] (B'++Y) yn _ B':=⟨bg.j6 λb u=>.inl (tH bi b u),λb u I=>(nB b I).elim (e.sep b u) λh1=>by have:=b9 b u;omega⟩;have cc:=bf.y0 bi;exact kk yn B' F' ca (TW.J0 (T:=[G,E,C,V,U,R,J]) cc h).j7 ((o.J0 h).node.j6 λb u=>.inl (yc b u)) ((e.fr.j8 bh hS).j8 h.fr e.sg.own) (λb u=>(nB b u).imp id λh1=>zL e.fr.size h1) λb u=>(nF b u).elim (hS b) λh1=>.inr (zL e.fr.size h1);have aG:iT ny k v:=(by rw[yD] at hc;exact zC hc);rw[qw2 al aG,aC] at kk;obtain⟨y1,y2⟩:=qwe a7 aG sy;have e:=e.sub (T1:=[G,E,C,V,U,R,J]) λb u=>u;have ox:nT FD F am [G,E,C,V,U,R,J] (Bn++(By++(Bx++Y))) xx nx Bx:=ox;have oy:nT FD F am [G,E,C,V,U,R,J] (Bn++(By++(Bx++Y))) xy ny By:=oy;have bj:∀b∈Bx++(By++([G,E,C,V,U,R,J]++(Bn++Y))),b∈[G,E,C,V,U,R,J]++(Bn++(By++(Bx++Y))):=λb u=>by rw[zD,zD,zD,zD] at u⊢;rcases u with u|u|u|u|u<;>simp[u]
   have aV:∀b∈Zo FD (Bx++(By++([G,E,C,V,U,R,J]++(Bn++Y)))) F,b∈Zo FD ([G,E,C,V,U,R,J]++(Bn++(By++(Bx++Y)))) F:=tH bj;have bk:∀b∈Bx,b∉By:=λb u I=>aR b I u;have aN:∀b∈Bx,b∉[G,E,C,V,U,R,J]++(Bn++Y):=λb u I=>by rcases zD.1 I with I|I;exact ox.sep b I u;rcases zD.1 I with I|I;exact d1 b I u;exact d3 b u I
   have aO:∀b∈By,b∉[G,E,C,V,U,R,J]++(Bn++Y):=λb u I=>by rcases zD.1 I with I|I;exact oy.sep b I u;rcases zD.1 I with I|I;exact e.cK b I (by simp[u]);exact bb b u I
   obtain⟨nk,nv,on⟩:=e.node.Bc (S0:=[]) λ_ _ h=>nomatch h;have av:i<nk.length:=(by rw[on.tk];exact aD);have bl:eI nk[i].2:=(by rw[<- on.mL av];exact sX on.nb.1 _);have bm:=(on.ek _ (zW av)).q8 (.refl _ _) λb u=>.inl (aV b u);have bn:n.J6.getD i []=nk[i].2:=on.mL av;have bo:=e.tw.y0 bj;have bp:=ox.node.j6 λb u=>.inl (aV b u);have aJ:=oy.node.j6 λb u=>.inl (aV b u);refine gP (λ_ w'=>∃yl yr r B',dR [G,E,C,V,U,R,J] w' w' [(G,.c (eN yr) ND),(E,.c (eN yl) ND),(C,.c (eN xy) ND),(V,.c (eN fD) ND),(U,.c (eN xx) ND),(R,.c (eN x) ND),(J,.c (np (jC k v pb t)) WK)]/\
    Ed dbk pb FD D j (Bn++(Bx++F)) Bn w0 w' [G,E,C,V,U,R,J] Y F M x { n with J6:=n.J6.set i r.2.2 } B'/\eF (Zo FD ([G,E,C,V,U,R,J]++(B'++Y)) F) w' yl r.1/\eF (Zo FD ([G,E,C,V,U,R,J]++(B'++Y)) F) w' yr r.2.1/\
    (if side<c then iU ny nx (n.J6.getD side []) else takeN nx ny (n.J6.getD c []))=r/\r.1.J6.length<=9000/\r.1.Q0.length<=9000/\r.1.J9.length<=9000/\r.2.1.J6.length<=9000/\r.2.1.Q0.length<=9000/\r.2.1.J9.length<=9000) ?_ ?_
   have bq:∀b∈Bx++F,b∈Bn++(Bx++F)\/w0.heap.size<=b:=λb u=>.inl (zI _ u);have bt:∀b∈Bx++F,b∉Bn/\b∉[G,E,C,V,U,R,J]:=λb u=>by rcases zD.1 u with u|u;exact⟨λI=>d1 b I u,λI=>ox.sep b I u⟩;exact⟨λI=>e.tw.yf b (by simp[I]) u,λI=>e.tw.yf b (zH _ I) u⟩
   have bu:∀b∈Bx++F,b∈Zo FD ([G,E,C,V,U,R,J]++(Bn++(By++(Bx++Y)))) F:=λb u=>by rcases zD.1 u with u|u<;>simp[u]
   have fd:=(Fr.refl [] am).drew;apply cD<;>intro aX;have aa:side<c:=oJ;have aY:side=i:=(by rw[<- aC,iP aa]);rcases hP with ⟨_,rfl,rfl,rfl,rfl,rfl,rfl⟩|⟨hn,_⟩;have h:=oF h;have e:=e.J0 h;have h:=lM h (.refl _);refine Ii h 5 rfl x.2.1<|Ij h 1 rfl xl<|Ij h 0 rfl xr<|Ii h 5 rfl x.2.1<|ee.get (on.rk.q7 fd) i rfl (x:=nk[i].1) (by rw[zQ,zA av];rfl) (y:=nk[i].1) rfl ?_;have gm:=qw5 (key:=nk[i].2) aJ.2.1.1 sy sx;refine qyN (Y:=[G,E,C,V,U,R,J]++(Bn++Y)) (bo.q7 fd) (aJ.q7 fd) (bp.q7 fd) bk aN aO (bm.q7 fd) bl aM y1 sy sx λyl yr cd ce aw hL hR ak aZ=>?_;obtain⟨e,h⟩:=e.fO h aw aZ bq bt bu λb u=>by simp[u]
   refine ik (h.cell 5)<|oD h 1 rfl (eN yl) λcf h _=>ik (h.cell 5)<|oD h 0 rfl (eN yr) λcg h _=>ik (h.cell 5) ?_;have e:=e.J0 h;have hL:=eF.J0 (T:=[G,E,C,V,U,R,J]) hL h;have hR:=eF.J0 (T:=[G,E,C,V,U,R,J]) hR h;have ak:=pT (T:=[G,E,C,V,U,R,J]) ak h;have h:=lM h (.refl _);exact e.AG h (i:=i) aD rfl ak gm.1 λB1 ch e h kp=>⟨yl,yr,_,B1,h,e,kp.node _ _ hL,kp.node _ _ hR,by rw[iP aa,aY,bn],gm.2.1,gm.2.2.1,gm.2.2.2.1,gm.2.2.2.2.1,gm.2.2.2.2.2.1,gm.2.2.2.2.2.2⟩;exact absurd aa hn;have aa:¬side<c:=oJ;have aY:c=i:=(by rw[<- aC,iN aa]);rcases hP with ⟨hn,_⟩|⟨_,rfl,rfl,rfl,rfl,rfl,rfl⟩;exact absurd hn aa;have h:=oF h;have e:=e.J0 h;have h:=lM h (.refl _);refine Ii h 5 rfl x.2.1<|Ij h 1 rfl xl<|Ij h 0 rfl xr<|Ii h 5 rfl x.2.1<|ee.get (on.rk.q7 fd) i rfl (x:=nk[i].1) (by rw[zQ,zA av];rfl) (y:=nk[i].1) rfl ?_;have gm:=qx1 (key:=nk[i].2) aJ.2.1.1 sx sy;refine qzm (Y:=[G,E,C,V,U,R,J]++(Bn++Y)) (bo.q7 fd) (bp.q7 fd) (aJ.q7 fd) bk aN aO (bm.q7 fd) bl aM.symm y1 y2 sx sy λyl yr cd ce aw hL hR ak aZ=>?_;obtain⟨e,h⟩:=e.fO h aw aZ bq bt bu λb u=>by simp[u]
   refine ik (h.cell 5)<|oD h 1 rfl (eN yl) λcf h _=>ik (h.cell 5)<|oD h 0 rfl (eN yr) λcg h _=>ik (h.cell 5) ?_;have e:=e.J0 h;have hL:=eF.J0 (T:=[G,E,C,V,U,R,J]) hL h;have hR:=eF.J0 (T:=[G,E,C,V,U,R,J]) hR h;have ak:=pT (T:=[G,E,C,V,U,R,J]) ak h;have h:=lM h (.refl _);exact e.AG h (i:=i) aD rfl ak gm.1 λB1 ch e h kp=>⟨yl,yr,_,B1,h,e,kp.node _ _ hL,kp.node _ _ hR,by rw[iN aa,aY,bn],gm.2.1,gm.2.2.1,gm.2.2.2.1,gm.2.2.2.2.1,gm.2.2.2.2.2.1,gm.2.2.2.2.2.2⟩;rintro _ cD ⟨yl,yr,r,B',h,e,hL,hR,hr,q1,q2,q3,q4,q5,q6⟩;have aK:i<n.J9.length:=oJ;rw[hr] at kk;unfold nd at kk;rw[uj aK,uj ao] at kk;have h:=oF h;have e:=e.J0 h;have hL:=eF.J0 (T:=[G,E,C,V,U,R,J]) hL h;have hR:=eF.J0 (T:=[G,E,C,V,U,R,J]) hR h;have h:=lM h (.refl _);refine Ii h 5 rfl x.2.2.2<|Ij h 6 rfl (jC k v pb t)<|Ii h 5 rfl x.2.2.2<|ee.get e.y6 i rfl (x:=n.J9[i]) (zA aK) (y:=n.J9[i]) rfl<|Ij h 1 rfl yl<|uY e.tw hL oJ oJ oJ λF1 cG bv bx bz=>?_;obtain⟨e,h⟩:=e.next h bv bx bz
   have hR:=hR.next bx bz;have a3:gE (dP k v M n.J9[i] r.1).1.1:=uT hT.wf (hn.2.1.2.2 _ (zW aK));generalize dP k v M n.J9[i] r.1=ci at kk e a3⊢;obtain⟨⟨a1,bA⟩,M1⟩:=ci;dsimp only at kk e a3⊢;refine ik (h.cell 5)<|e.tY h (i:=i) aK rfl a3 λB1 cH e h kp=>?_;have hR:=kp.node _ _ hR;apply dX<;>intro ay;have ar:bA≠0:=(by rw[zT] at ay;exact zR.1 ay);rw[iP ar] at kk;refine oD h 3 rfl (eN fD) λbB h _=>Ij h 3 rfl fD ?_;have e:=e.J0 h;exact kk fD [] F1 bB e.qz.j7 (.zero _ _) e.fr (λ_ h=>(nomatch h)) e.sg.new;have ar:¬bA≠0:=(by rw[yD] at ay;exact λh=>h (yO.1 ay));rw[iN ar] at kk;have bC:(n.J9.set i a1)[i+1]?=some n.J9[i+1]:=(by rw[List.getElem?_set_ne oJ,zA ao]);have h:=oF h;have e:=e.J0 h;have hR:=eF.J0 hR h;have h:=lM h (.refl _);refine Ii h 5 rfl x.2.2.2<|Ij h 6 rfl (jC k v pb t)<|Ii h 5 rfl x.2.2.2<|ee.get e.y6 (i+1) rfl (x:=n.J9[i+1]) bC (y:=n.J9[i+1]) rfl<|Ij h 0 rfl yr<|uY e.tw hR oJ oJ oJ λF2 cr a4 bD bE=>?_;have a5:gE (dP k v M1 n.J9[i+1] r.2.1).1.1:=uT e.tw.wf (hn.2.1.2.2 _ (zW ao));obtain⟨e,h⟩:=e.next h a4 bD bE
   generalize dP k v M1 n.J9[i+1] r.2.1=cj at kk e a5⊢;obtain⟨⟨a2,cI⟩,M2⟩:=cj;dsimp only at kk e a5⊢;refine ik (h.cell 5)<|e.tY h (i:=i+1) (by dsimp only;rw[xF];exact ao) rfl a5 λB2 cs e h _=>Ij h 5 rfl x<|oD h 3 rfl (eN x) λbF h _=>Ij h 3 rfl x ?_;have e:=e.J0 h;exact kk x B2 F2 bF e.tw.j7 (e.node.j6 λb u=>.inl (yc b u)) e.fr e.cE e.sg.new
end
end
section
section
variable {D:dJ} {M M1:dV} {k v f side c i:Nat} {key:Key} {p e0 e1:Int} {n nx N:dM}
def Cr{α:Type}{l:List α}{i:Nat}(h:i<l.length):(gN l i).length+1=l.length:=by unfold gN;rw[zF,yK,yB];omega
def qml{l r:dM}(sn:gG n)(u:n.Q4=false)(hi:i<n.J6.length)(h:(lI k v M n i l r).1.2=0):gG (lI k v M n i l r).1.1:=by have J:=sn.inner u;obtain⟨_,_,R,G,U⟩:=sn;unfold lI at h⊢;split;rename_i C;rw[iP C] at h;exact absurd h C;rename_i C;rw[iN C] at h;split;rename_i E;rw[iP E] at h;exact absurd h E;have I:=Cr (l:=n.J9.set i (dP k v M (n.J9.getD i 0) (kP l r (n.J6.getD i []))).1.1) (i:=i+1) (by rw[xF];omega);have V:=Cr hi;rw[xF] at I;exact⟨(λh=>by rw[u] at h;cases h),λ_=>by dsimp only;omega,by dsimp only;omega,G,by dsimp only;omega⟩
def ql8{r:dM×dM×Key}(sn:gG n)(u:n.Q4=false)(h:(nd k v M n i r).1.2=0):gG (nd k v M n i r).1.1:=by have E:=sn.inner u;obtain⟨_,_,G,I,J⟩:=sn;unfold nd at h⊢;split;rename_i C;rw[iP C] at h;exact absurd h C;exact⟨(λh=>by rw[u] at h;cases h),λ_=>by dsimp only;rw[xF,xF,xF];exact E,by dsimp only;rw[xF];exact G,I,by dsimp only;rw[xF,xF];exact J⟩
def qtC(sn:gG n)(u:n.Q4=false)(I:side+1=c\/c+1=side)(R:side<n.J9.length)(J:c<n.J9.length)(h:(jF D k v M n side c nx).1.2=0):gG (jF D k v M n side c nx).1.1:=by have U:=sn.inner u;unfold jF at h⊢;split;rename_i G;rw[iP G] at h;exact absurd h G;rename_i G;rw[iN G] at h;split;rename_i C;rw[iP C] at h;split;rename_i E;rw[iP E] at h;exact qml sn u oJ h;rename_i E;rw[iN E] at h;exact ql8 sn u h;rename_i C;rw[iN C] at h;split;rename_i E;rw[iP E] at h;exact qml sn u oJ h;rename_i E;rw[iN E] at h;exact ql8 sn u h
def iR (c:Nat):Nat:=if c>0 then c-1 else c+1
def qyB(h:dK D M k v p=(n,e0))(u:e0≠0):hU D k v key (f+1) M p=((ir,e0),M):=by unfold hU;rw[h,iP u]
def qyC(h:dK D M k v p=(n,0))(u:n.Q4=true)(C:n.J6[dO n.J6 key]?=some key):hU D k v key (f+1) M p=(({ n with J6:=gN n.J6 (dO n.J6 key),Q0:=gN n.Q0 (dO n.J6 key) },0),M):=by unfold hU;rw[h,iN λh=>h rfl,iP u,iP C]
def qwQ(h:dK D M k v p=(n,0))(u:n.Q4=true)(C:¬n.J6[dO n.J6 key]?=some key):hU D k v key (f+1) M p=((ir,5),M):=by unfold hU;rw[h,iN λh=>h rfl,iP u,iN C]
def qwP(h:dK D M k v p=(n,0))(u:¬n.Q4=true)(C:hU D k v key f M (n.J9.getD (eu n.J6 key) 0)=((N,e1),M1))(E:e1≠0):hU D k v key (f+1) M p=((ir,e1),M1):=by unfold hU;rw[h,iN λh=>h rfl,iN u];dsimp only;rw[C,iP E]
def qwO(h:dK D M k v p=(n,0))(u:¬n.Q4=true)(C:hU D k v key f M (n.J9.getD (eu n.J6 key) 0)=((N,0),M1))(E:¬oU N k v):hU D k v key (f+1) M p = (({ n with J9:=n.J9.set (eu n.J6 key) (dP k v M1 (n.J9.getD (eu n.J6 key) 0) N).1.1 },(dP k v M1 (n.J9.getD (eu n.J6 key) 0) N).1.2),(dP k v M1 (n.J9.getD (eu n.J6 key) 0) N).2):=by unfold hU;rw[h,iN λh=>h rfl,iN u];dsimp only;rw[C,iN λh=>h rfl,iP E]
def qwN(h:dK D M k v p=(n,0))(u:¬n.Q4=true)(C:hU D k v key f M (n.J9.getD (eu n.J6 key) 0)=((N,0),M1))(E:oU N k v):hU D k v key (f+1) M p=jF D k v M1 n (iR (eu n.J6 key)) (eu n.J6 key) N:=by unfold hU iR;rw[h,iN λh=>h rfl,iN u];dsimp only;rw[C,iN λh=>h rfl,iN λh=>h E];split<;>rfl
def mr (D:dJ) (k v:Nat) (key:Key):Nat->dV->Int->Prop
 | 0,_,_=>False
 | f+1,M,p=>∀n,dK D M k v p=(n,0)->n.Q4=false->mr D k v key f M (n.J9.getD (eu n.J6 key) 0)/\
  ∀N M1,hU D k v key f M (n.J9.getD (eu n.J6 key) 0)=((N,0),M1)->oU N k v->∀ny,dK D M1 k v (n.J9.getD (iR (eu n.J6 key)) 0)=(ny,0)->ny.Q4=N.Q4
end
section
variable {dbk pb j:Nat} {FD S S0 N0 Y Y1 F F' T B By:Ik} {D:dJ} {w0 wa w w' w7:Ic} {M M':dV} {L:Ip} {x xy:kz} {n ny:dM} {k v:Nat} {t:Int}
def Ed.vM(e:Ed dbk pb FD D j S0 N0 w0 w (fk L) Y F M x n B)(h:dR T wa w L)(J:TW dbk pb FD D j w7 (By++(fk L++(B++Y))) F' M')(U:fh (Zo FD (By++(fk L++(B++Y))) F') w7 xy ny By)(f:Fr F w w7)(R:∀b∈F',b∈F\/w.heap.size<=b)(I:∀c∈By,w.heap.size<=c): Ed dbk pb FD D j S0 N0 w0 w7 (fk L) (By++Y) F' M' x n B/\dR (fk L) w7 w7 L/\nT FD F' w7 (fk L) (B++(By++Y)) xy ny By:=by
 have C:∀b∈fk L++(B++(By++Y)),b∈By++(fk L++(B++Y)):=λb u=>by simp only[zD] at u⊢;rcases u with u|u|u|u<;>simp[u]
 obtain⟨e1,E⟩:=e.next h (J.y0 λb u=>zI _ u) f R;refine⟨⟨e1.sg,J.y0 C,e.node.q8 f (λb u G=>e.tw.yf b (by simp[u]) G) (λb u=>.inl (uX u)) λb u=>?_,e1.sep,e1.cE,e1.cR,λb u G=>?_⟩,E,U.j6 λb u=>.inl (tH C b u),λb u G=>?_⟩;simp only[Zo,zD,zG] at u⊢;rcases u with (u|u|u|u|u|u)|u;simp[u];simp[u];simp[u];simp[u];exact .inr (I b u);simp[u];exact (R b u).imp (λh=>.inr h) id;rcases zD.1 G with E|E;have:=e.node.lt b u;have:=I b E;omega;exact e.cK b u E;have:=xj h b u;have:=I b G;omega
def Ed.less(e:Ed dbk pb FD D j S0 N0 w0 w T Y F M x n B)(C:∀b∈Y1,b∈Y):Ed dbk pb FD D j S0 N0 w0 w T Y1 F M x n B:=by
 have E:∀b∈T++(B++Y1),b∈T++(B++Y):=λb u=>by simp only[zD] at u⊢;rcases u with u|u|u;simp[u];simp[u];simp[C b u]
 exact⟨e.sg,e.tw.y0 E,e.node.j6 λb u=>.inl (tH E b u),e.sep,e.cE,e.cR,λb u h=>e.cK b u (C b h)⟩
def qzU{L':Ip}(E:TW dbk pb FD D j w (B++(T++Y)) F M)(G:fh (Zo FD (B++(T++Y)) F) w x n B)(I:∀b∈T,b∉B)(h:dR T w w' L'): TW dbk pb FD D j w' (B++Y) F M/\fh (Zo FD (B++Y) F) w' x n B:=by
 have C:∀b∈T++(B++Y),b∈B++(T++Y):=λb u=>by rw[zD,zD] at u⊢;rcases u with u|u|u<;>simp[u]
 have o:nT FD F w T (B++Y) x n B:=⟨G.j6 λb u=>.inl (tH C b u),I⟩;exact⟨(TW.J0 (E.y0 C) h).j7,(o.J0 h).node.j6 λb u=>.inl (yc b u)⟩
set_option maxHeartbeats 2000000 in
def He{ks:Sl}{key:Key}(aA:eI key)(ao:gY k v):∀(f:Nat) {Y F:Ik} {w0:Ic} {M:dV} {p:Int} {K:kz×Int->WP} (hT:TW dbk pb FD D j w0 Y F M) (hp:gE p) (hk:en (Zo FD Y F) w0 ks key) (R:mr D k v key f M p) (kk:∀yn B' F' w',((hU D k v key f M p).1.2=0->gG (hU D k v key f M p).1.1)->TW dbk pb FD D j w' (B'++Y) F' (hU D k v key f M p).2->fh (Zo FD (B'++Y) F') w' yn (hU D k v key f M p).1.1 B'->Fr F w0 w'->(∀b∈B',w0.heap.size<=b)->(∀b∈F',b∈F\/w0.heap.size<=b)->K (yn,(hU D k v key f M p).1.2) w'), cW 136 [.agg (np (jC k v pb t)),.u p,ks.v] [.agg ed,.one .i] w0 K
 | 0,_,_,_,_,_,_,_,_,_,R,_=>R.elim
 | f+1,Y,F,w0,M,p,K,hT,hp,hk,R,kk=>by
  refine qny ?_;have h:=oE [] w0;have g:=Sg.start F w0;refine oB h λr1 w2 _ _ h=>oB h λr3 w4 _ _ h=>Ij h 1 rfl (jC k v pb t) ?_;rcases U:dK D M k v p with ⟨n,e0⟩;refine AB (k:=k) (v:=v) (hT.cB h) hp λx B w7 bj aJ f7 bk=>?_;rw[U] at aJ⊢;dsimp only at aJ;obtain⟨e,h⟩:=Ed.load (N0:=[]) (λ_ h=>nomatch h) g h bj aJ f7 bk λb C=>yC (hT.qw b C) h.fr.size;refine oB h λr8 w9 _ _ h=>oD h 0 rfl (eN x) λbV h _=>?_;have aq:∀ {e:Int} {M':dV} {F':Ik} {w'},hU D k v key (f+1) M p=((ir,e),M')->e≠0->TW dbk pb FD D j w' Y F' M'->Fr F w0 w'->(∀b∈F',b∈F\/w0.heap.size<=b)->K (fD,e) w':=λhe bl bm fr hF=>by
   have:=kk fD [] _ _ (λh=>by rw[he] at h;exact absurd h bl) (by rw[he];exact bm) (by rw[he];exact .zero _ _) fr (λ_ h=>nomatch h) hF;rw[he] at this;exact this
  apply dX<;>intro V;have aE:e0≠0:=by rw[zT] at V;exact zR.1 V
  refine oD h 1 rfl (eN fD) λbY h _=>Ij h 1 rfl fD ?_;have e:=e.J0 h;exact aq (qyB U aE) aE e.qz.j7 e.fr e.sg.new;have bn:e0=0:=by rw[yD] at V;exact yO.1 V
  subst bn;have hr:=AL U;have sn:=qmC hr;obtain⟨l1,l2,l3,l4,l5⟩:=uQ hr;have e:=e.J0 h;have h:=lM h (.refl _);have aV:x.1=n.Q4:=e.node.1;refine Ii h 0 rfl x.1 ?_;apply dX<;>intro V;rw[aV] at V;obtain⟨l6,l7⟩:=l4 V;refine Ij h 0 rfl x<|CO e.y9 (e.cT hk) aA hr.2.2.1 oJ λb3 bo=>?_;obtain⟨e,h⟩:=e.cA h bo;have b4:=Gf n.J6 key;apply dX<;>intro aa;rw[zT] at aa;have aW:=zB aa;refine oD h 1 rfl (eN fD) λb5 h _=>Ij h 1 rfl fD ?_;have e:=e.J0 h;exact aq (qwQ U V aW) oM e.qz.j7 e.fr e.sg.new;rw[yD] at aa;have aX:=zC aa;have aY:=(zP.1 aX).1;have ac:=qyC (f:=f) U V aX;have ew:wrap .i64 ((dO n.J6 key:Int)+1)=((dO n.J6 key+1:Nat):Int):=rj oJ;rw[ac] at kk;have h:=oF h;refine Ii h 0 rfl x.2.1<|Ii h 0 rfl x.2.2.1 ?_;have e:=e.J0 h;dsimp only;refine e.A7 h (i:=dO n.J6 key) aY rfl ew oJ λak B1 b6 e h _=>ik (h.cell 0)<|e.Eu h (i:=dO n.J6 key) oN rfl ew oN λar B2 b7 e h _=>oD h 0 rfl (eN (x.1,ak,x.2.2.1,x.2.2.2)) λb8 h _=>oD h 0 rfl (eN (x.1,ak,ar,x.2.2.2)) λb9 h _=>Ij h 0 rfl (x.1,ak,ar,x.2.2.2)<|oD h 1 rfl (eN (x.1,ak,ar,x.2.2.2)) λbq h _=>Ij h 1 rfl (x.1,ak,ar,x.2.2.2) ?_;have e:=e.J0 h;have k1:=Cr aY;have k2:=Cr (l:=n.Q0) (i:=dO n.J6 key) oJ;exact kk (x.1,ak,ar,x.2.2.2) B2 F bq (λ_=>⟨λ_=>by dsimp only;omega,(λh=>by dsimp only at h;rw[V] at h;cases h),by dsimp only;omega,by dsimp only;omega,by dsimp only;omega⟩) e.tw.j7 (e.node.j6 λb C=>.inl (yc b C)) e.fr (λb C=>(e.cE b C).elim (λh=>nomatch h) id) e.sg.new
  ·rw[aV] at V;have aK:¬n.Q4=true:=(by rw[V];decide);obtain⟨l6,l7,l8⟩:=l5 V;obtain⟨G,ab⟩:=R n U V;refine Ij h 0 rfl x<|BD e.y9 (e.cT hk) aA hr.2.2.1 oJ λca bt=>?_;obtain⟨e,h⟩:=e.cA h bt;have bu:=zo n.J6 key;have au:=λN e1 M1 he=>qwP (key:=key) (f:=f) (N:=N) (e1:=e1) (M1:=M1) U aK he;have aa:=λN M1 he=>qwO (key:=key) (f:=f) (N:=N) (M1:=M1) U aK he;have aL:=λN M1 he=>qwN (key:=key) (f:=f) (N:=N) (M1:=M1) U aK he;generalize cc:eu n.J6 key=c at bu G ab au aa aL⊢;have ad:c<n.J9.length:=oJ;have bv:n.J9.getD c 0=n.J9[c]:=uj ad;rw[bv] at G ab au aa aL;have hu:gE n.J9[c]:=e.node.2.1.2.2 _ (zW ad);rcases al:hU D k v key f M n.J9[c] with ⟨⟨N1,e1⟩,M1⟩;have au:=au N1 e1 M1 al;refine⟨?a,?b⟩;case' a=>
    have h:=oF h;have e:=e.J0 h;refine Ij h 2 rfl (jC k v pb t)<|Ii h 0 rfl x.2.2.2<|ee.cP e.y6 c rfl ad λbz hh=>?_;have hz:=e.fr.size;refine He aA ao f e.tw hu (e.cT hk) G λxx Bx F1 bB an ae I aM af aN=>?_;rw[al] at an ae I⊢;dsimp only at an I⊢;obtain⟨e,h,ox⟩:=e.vM h ae I aM aN af;refine oB h λJ bC _ _ h=>mQ (hh _ _ (e.J0 h).y6) (h.cell 1) (h.cells 3)<|oD h 0 rfl (eN xx) λbD h _=>?_;have aD:∀b∈Bx,w0.heap.size<=b:=λb C=>zL hz (af b C);have ox:=ox.J0 h;have e:=e.J0 h;have h:=lM h (.refl _)
   case' b=>
    have h:=oF h;have e:=e.J0 h;have h:=lM h (.refl _);refine Ij h 2 rfl (jC k v pb t)<|Ii h 0 rfl x.2.2.2<|ee.cP e.y6 c rfl ad λbz hh=>oB h λJ bC _ _ h=>?_;have e:=e.J0 h;refine mQ (hh _ _ e.y6) (h.cell 1) (h.cells 3) ?_;have hz:=e.fr.size;refine He aA ao f e.tw hu (e.cT hk) G λxx Bx F1 bB an ae I aM af aN=>?_;rw[al] at an ae I⊢;dsimp only at an I⊢;obtain⟨e,h,ox⟩:=e.vM h ae I aM aN af;refine oD h 0 rfl (eN xx) λbD h _=>?_;have aD:∀b∈Bx,w0.heap.size<=b:=λb C=>zL hz (af b C);have ox:=ox.J0 h;have e:=e.J0 h;have h:=lM h (.refl _)
   all_goals
    apply dX<;>intro hq;have aF:e1≠0:=by rw[zT] at hq;exact zR.1 hq
    refine oD h 2 rfl (eN fD) λcd h _=>Ij h 2 rfl fD ?_;have e:=e.J0 h;exact aq (au aF) aF (e.qz.y0 λb C=>by simp[C]) e.fr e.sg.new;have bE:e1=0:=by rw[yD] at hq;exact yO.1 hq
    subst bE;have sx:=an rfl;refine Ij h 3 rfl (BT k v)<|Ij h 0 rfl xx ?_;have lx:oh xx N1:=(ox.node.rd (S:=[]) (λ_ _ h=>(nomatch h)) λ_ h=>nomatch h).lens;refine qA0 lx λah a3=>?_;obtain⟨e,h⟩:=e.cA h a3;have ox:=ox.q7 a3;apply dX<;>intro av;have aj:¬oU N1 k v:=by rw[zT] at av;exact zB av
    have ac:=aa N1 M1 al aj;rw[ac] at kk;have h:=oF h;have e:=e.J0 h;have ox:=ox.J0 h;have h:=lM h (.refl _);refine Ii h 1 rfl x.2.2.2<|Ij h 3 rfl (jC k v pb t)<|Ii h 1 rfl x.2.2.2<|ee.get e.y6 c rfl (x:=n.J9[c]) (zA ad) (y:=n.J9[c]) rfl<|Ij h 0 rfl xx ?_;have z1:=sx.J6;have z2:=sx.Q0;have z3:=sx.J9;have bF:eF (Zo FD (fk _++(B++Y)) F1) ah.drew xx N1:=ox.node.rd (λb C E=>by
     have hs:=e.tw.sep b (by simp[C]);rcases zD.1 E with E|E;rcases zD.1 E with E|E;exact hs.1 E;rcases zG.1 E with E|E;exact hs.2 E;rcases zD.1 E with E|E;exact ox.sep b E C;rcases zD.1 E with E|E;exact e.cK b E (by simp[C]);have:=aD b C;have:=hT.qw b E;omega;exact e.tw.yf b (by simp[C]) E) λb C=>.inl (tH (λb C=>by
     rw[zD,zD] at C⊢;rcases C with C|C|C;exact .inl C;exact .inr (by simp[C]);exact .inr (by simp[C])) b C)
    have e:=e.less (Y1:=Y) λb C=>zI _ C;refine uY e.tw bF oJ oJ oJ λF2 cf a5 bG bH=>?_;have aO:gE (dP k v M1 n.J9[c] N1).1.1:=uT e.tw.wf hu;obtain⟨e,h⟩:=e.next h a5 bG bH;generalize dP k v M1 n.J9[c] N1=st at kk e aO⊢;obtain⟨⟨a1,s1⟩,M2⟩:=st;dsimp only at kk e aO⊢;refine ik (h.cell 1)<|e.tY h (i:=c) ad rfl aO λB2 cg e h _=>Ij h 1 rfl x<|oD h 2 rfl (eN x) λbI h _=>Ij h 2 rfl x ?_;have e:=e.J0 h;exact kk x B2 F2 bI (λ_=>⟨(λh=>by dsimp only at h;rw[V] at h;cases h),λ_=>by dsimp only;rw[xF];omega,by dsimp only;omega,by dsimp only;omega,by dsimp only;rw[xF];omega⟩) e.tw.j7 (e.node.j6 λb C=>.inl (yc b C)) e.fr (λb C=>(e.cE b C).elim (λh=>nomatch h) id) e.sg.new;have aj:oU N1 k v:=by rw[yD] at av;exact zC av
    have ac:=aL N1 M1 al aj;have bJ:=ab N1 M1 al aj;rw[ac] at kk;have e:=e.sub (T1:=[J,r8,r3,r1]) λb C=>C;have ox:nT FD F1 ah [J,r8,r3,r1] (B++(Bx++Y)) xx N1 Bx:=ox;have ai:∀b∈B++(Bx++([J,r8,r3,r1]++Y)),b∈[J,r8,r3,r1]++(B++(Bx++Y)):=λb C=>by rw[zD,zD,zD] at C⊢;rcases C with C|C|C|C<;>simp[C]
    have bK:∀b∈Bx,b∉Y:=λb C E=>by have:=aD b C;have:=hT.qw b E;omega
    have a6:iR c+1=c\/c+1=iR c:=(by unfold iR;split<;>omega);have hs:iR c<n.J9.length:=(by unfold iR;split<;>omega);have aG:=λ{K':kz×Int->WP} (bL)=>qyJ (t:=t) (pb:=pb) (j:=j) (dbk:=dbk) (Y:=[J,r8,r3,r1]++Y) (K:=K') (e.tw.y0 ai) (e.node.j6 λb C=>.inl (tH ai b C)) (ox.node.j6 λb C=>.inl (tH ai b C)) (λb C E=>e.cK b C (zH _ E)) (λb C E=>(zD.1 E).elim (λE=>e.sep b E C) λE=>e.cK b C (zI _ E)) (λb C E=>(zD.1 E).elim (λE=>ox.sep b E C) (bK b C)) sn sx V a6 hs ad bJ ao bL;have a7:=λh0=>qtC (D:=D) (M:=M1) (k:=k) (v:=v) (nx:=N1) sn V a6 hs ad h0;have hS:∀b∈B++(Bx++F1),b∈F\/w0.heap.size<=b:=λb C=>by rcases zD.1 C with C|C;exact (e.cE b C).elim (λh=>nomatch h) .inr;rcases zD.1 C with C|C;exact .inr (aD b C);exact e.sg.new b C
    have bM:∀b∈[J,r8,r3,r1],b<ah.heap.size:=λb C=>e.tw.qw b (zH _ C);have a8:∀b∈[J,r8,r3,r1],b∉B++(Bx++F1):=λb C E=>by rcases zD.1 E with E|E;exact e.sep b C E;rcases zD.1 E with E|E;exact ox.sep b C E;exact e.tw.yf b (zH _ C) E
    generalize jF D k v M1 n (iR c) c N1=ev at kk a7 aG;have aw:∀ {z:Int},z=(iR c:Int)->(dL iB (dg r1) ah λa9=>dL ed (dg r8) ah λa'=>dL ed (dg J) ah λba=>
      cW 170 [fN iB a9,fN ed a',Value.int IntKind.i64 z,Value.int IntKind.i64 c,fN ed ba] [gU.agg ed,gU.one (Cell.int IntKind.i64)] ah λaH bb=>
      st (dg r3) (HL.mk ed aH.1) bb λaI=>dL ed (dg r3) aI λbc=>K (bc,aH.2) aI):=λhz=>by
     subst hz;refine Ij h 3 rfl (jC k v pb t)<|Ij h 1 rfl x<|Ij h 0 rfl xx<|aG λyn B' F' cj bd bf bg nB nF=>?_;have h:=qv h bg a8;refine oD h 2 rfl (eN yn) λbN h _=>Ij h 2 rfl yn ?_;obtain⟨bO,bP⟩:=qzU (T:=[J,r8,r3,r1]) bd bf (λb C E=>(nB b E).elim (e.sep b C) λh1=>by have:=bM b C;omega) h;exact kk yn B' F' bN a7 bO bP ((e.fr.j8 bg hS).j8 h.fr e.sg.own) (λb C=>(nB b C).elim (λh1=>(e.cE b h1).elim (λh=>nomatch h) id) λh1=>zL e.fr.size h1) λb C=>(nF b C).elim (hS b) λh1=>.inr (zL e.fr.size h1)
    apply cD<;>intro aP;have ax:0<c:=oJ;refine aw ?_;unfold iR;rw[iP ax,gi _ oJ];omega;have ax:¬0<c:=oJ;refine aw ?_;unfold iR;rw[iN ax,gi _ oJ];omega
end
end
section
abbrev RtC:=Iw
def sh (x:RtC):Array Ie:=#[.u x.1,.u x.2.1,.u x.2.2]
abbrev RT:If:=125
section
variable {S:Ik} {w:Ic}
def Fq{vb:Nat}{T':If}{h:Iu}{ks:Sl}(C:w.heap[vb]?=some (.cells #[fT ks] T' h))(E:vb∉S)(G:en S w ks key):jq S w ⟨pW vb,1,1⟩ [(ks,key)]:=
 ⟨⟨rfl,zM _,.inr ⟨vb,0,_,T',h,rfl,C,E,λi x u=>by
  cases i with
  | zero=>cases u;rfl
  | succ i=>simp at u⟩⟩,λp I=>by rw[zE.1 I];exact G⟩
def qAA{vb:Nat}{T':If}{C:Iu}{a b:Int}(E:w.heap[vb]?=some (.cells #[.u a,.u b] T' C))(G:vb∉S):ee iw 1 S w ⟨pW vb,2,2⟩ [a,b]:=
 ⟨rfl,zM _,.inr ⟨vb,0,_,T',C,rfl,E,G,λi x h=>by
  match i,h with
  | 0,h=>cases h;rfl
  | 1,h=>cases h;rfl
  | i+2,h=>simp at h⟩⟩
end
section
variable {dbk pb j:Nat} {FD Y F F' T:Ik} {D:dJ} {w0 w w':Ic} {M M':dV} {L L':Ip} {k v:Nat} {t:Int}
def Cg{b:Nat}(h:TW dbk pb FD D j w Y F M)(C:w.heap.size<=b):b∉Zo FD Y F:=λu=>by have:=h.sP b u;omega
set_option maxHeartbeats 1000000 in
def qvF{f:Nat}{ks vs:Sl}{val:Key}{K:Int->WP}(aw:eI key)(ax:eI val)(hT:TW dbk pb FD D j w0 Y F M)(hk:en (Zo FD Y F) w0 ks key)(hv:en (Zo FD Y F) w0 vs val)(C:(dW M t).1≠0->(gV D k v key val f M (dW M t).1).1.2≠-1)(u:∀F' w',TW dbk pb FD D j w' Y F' (jy D k v t key val f M).2->Fr F w0 w'->(∀b∈F',b∈F\/w0.heap.size<=b)->K (jy D k v t key val f M).1 w'): cW 96 [.agg (np (jC k v pb t)),ks.v,vs.v] di w0 K:=by
 refine qj6 ?_;have g:=Sg.start F w0;have h:=oE [] w0;obtain⟨u1,u2,u3⟩:=Cq hT.wf t;refine oB h λr1 w2 _ _ h=>Ii h 0 rfl (pW pb)<|Ii h 0 rfl t<|TW.J5 (hT.q7 h.fr) λw6 f6=>?_;have h:=h.q7 f6;unfold jy at u;generalize dW M t=J at u C u1 u2 u3⊢;refine oB h λr7 w8 _ _ h=>oD h 0 rfl (sh J) λw9 h _=>Ii h 0 rfl J.1 ?_;apply dX<;>intro hc;have hc:J.1=0:=yO.1 hc;rw[iP hc] at u;refine Ij h 1 rfl (jC k v pb t) ?_;have ai:=hT.cB h;have aP:=uh hk h;have aQ:=uh hv h;have g:=g.cA h (.refl [] _);have h:=lM h (.refl _);refine oB h λay bm bn az h=>oB h λaA aR bo aT h=>?_;have bj:=az.size;have ac:=az.trans aT;have ag:=ai.q7 ac;have aU:=Cg ai (b:=ay) oJ;have aV:=Cg ai (b:=aA) oJ;have aj:=Fq (h.at (i:=1) rfl) aU (aP.q7 ac);have aW:=Fq (h.at (i:=0) rfl) aV (aQ.q7 ac);have hx:eF _ aR (true,⟨pW ay,1,1⟩,⟨pW aA,1,1⟩,dH) (eh [(key,val)]):=⟨rfl,⟨λa ha=>by rw[zE.1 ha];exact aw,λa ha=>by rw[zE.1 ha];exact ax,λ_ h=>nomatch h⟩,⟨_,aj,rfl⟩,⟨_,aW,rfl⟩,.nil _ _ _ _⟩;refine uY ag hx (zO rfl) (zO rfl) (zO rfl) λF1 aY U aB aZ=>?_;have g:=g.next h aB aZ
 have h:=qv (h.sub (.cons _ (.cons _ (.refl _)))) aB λb hb=>ag.yf b (zH _ hb);have hu:gE (dP k v M 0 (eh [(key,val)])).1.1:=uT hT.wf uq;unfold kJ at u;generalize dP k v M 0 (eh [(key,val)])=st at u U hu⊢;obtain⟨⟨q,e⟩,M1⟩:=st;dsimp only at u U hu⊢;apply dX<;>intro I;have C:e≠0:=by rw[zT] at I;exact zR.1 I
 rw[iP C] at u;exact u F1 aY U.j7 g.pY g.new;have C:¬e≠0:=by rw[yD] at I;exact λh=>h (yO.1 I)
 rw[iN C] at u;exact Ii h 1 rfl (pW pb)<|Ii h 1 rfl t<|TW.qe U hu ⟨oM,oM⟩ ⟨oM,oM⟩ λa0 aC a1=>u F1 a0 aC.j7 (g.pY.j8 a1 g.new) g.new;have hc:J.1≠0:=zR.1 hc;rw[iN hc] at u;refine Ij h 1 rfl (jC k v pb t)<|Ii h 0 rfl J.1<|Hl aw ax f (hT.cB h) u1 (uh hk h) (uh hv h) (C hc) λgs F1 aD hG R al aE a2=>?_;have g:=g.next h aE a2
 have h:=(hT.cB h).own h aE;generalize gV D k v key val f M J.1=pn at u hG R al⊢;obtain⟨⟨G,e1⟩,M1⟩:=pn;dsimp only at hG R al⊢;unfold rN at u;dsimp only at u;refine oB h λaF bq _ _ h=>oD h 0 rfl (pK (tc G gs)) λa3 h _=>?_;apply dX<;>intro I;have C:e1≠0:=by rw[zT] at I;exact zR.1 I
 rw[iP C] at u;exact u F1 a3 (R.J0 h).j7 (g.fr h) g.new;have C:¬e1≠0:=by rw[yD] at I;exact λh=>h (yO.1 I)
 rw[iN C] at u;refine Ii h 0 rfl G.x5<|oD h 1 rfl (sh (G.x5,J.2.1,J.2.2)) λbt h _=>?_;have aG:gE (if G.J8 then wrap .u32 (J.2.1+1) else J.2.1):=by split;exact vE _;exact u2
 refine gP (λ_ w'=>dR [r7,r1] aD w' [(aF,.c (pK (tc G gs)) GR),(r7,.c (sh (G.x5,(if G.J8 then wrap .u32 (J.2.1+1) else J.2.1),J.2.2)) RT),(r1,.c (np (jC k v pb t)) WK)]) ?_ ?_;refine Ii h 0 rfl G.J8 ?_;apply dX<;>intro E;rw[iP E];refine Ii h 1 rfl J.2.1<|oD h 1 rfl (sh (G.x5,wrap .u32 (J.2.1+1),J.2.2)) λbu h _=>h;rw[iN (by rw[E];decide)];exact h;intro _ a4 h;generalize (if G.J8 then wrap .u32 (J.2.1+1) else J.2.1)=ab at u aG h;refine gP (λ_ w'=>∃(a c:Int) (F2 T:Ik) (M2:dV) (wa:Ic),Sg F w0 wa F2 T/\TW dbk pb FD D j wa (T++Y) F2 M2/\dR T wa w' [(aF,.c (pK (tc G gs)) GR),(r7,.c (sh (a,ab,c)) RT),(r1,.c (np (jC k v pb t)) WK)]/\gE a/\gE c/\
  ∀F' w',TW dbk pb FD D j w' Y F' (eY M2 t a ab c).2->Fr F w0 w'->(∀b∈F',b∈F\/w0.heap.size<=b)->K (eY M2 t a ab c).1 w') ?_ ?_
 refine Ii h 0 rfl G.x4 ?_;apply dX<;>intro E;have E:G.x4≠0:=by rw[zT] at E;exact zR.1 E
 rw[iP E] at u;refine Ij h 2 rfl (jC k v pb t)<|Ii h 0 rfl gs ?_;have V:=TW.J0 (T:=[r7,r1]) R h;have am:=pT (T:=[r7,r1]) al h;have g:Sg F w0 a4 F1 (fk _):=g.cA h (.refl [] _);have h:=lM h (.refl _);refine oB h λaH bv bx aI h=>Ii h 1 rfl G.x5<|Ii h 1 rfl G.x4<|oB h λaJ a5 bz a6 h=>?_;have bk:=aI.size;have aK:=aI.trans a6;have ah:=V.q7 aK;have a7:=Cg V (b:=aH) oJ;have a8:=Cg V (b:=aJ) oJ;have aj:=Fq (h.at (i:=1) rfl) a7 (am.q7 aK);have a9:=qAA (h.at (i:=0) rfl) a8;have hx:eF _ a5 (false,⟨pW aH,1,1⟩,dH,⟨pW aJ,2,2⟩) ⟨false,[G.key],[],[G.x5,G.x4]⟩:=⟨rfl,⟨λa ha=>by rw[zE.1 ha];exact hG.key,λ_ h=>(nomatch h),λa ha=>by simp only[zG,xW,or_false] at ha;rcases ha with rfl|rfl;exact hG.x5;exact hG.x4⟩,⟨_,aj,rfl⟩,⟨_,.nil _ _,rfl⟩,a9⟩;refine uY ah hx (zO rfl) (zO rfl) (zO rfl) λF2 aL aa aM a'=>?_;have g:=g.next h aM a'
 have h:=qv (h.sub (.cons _ (.cons _ (.refl _)))) aM λb hb=>ah.yf b (zH _ hb);have hu:gE (dP k v M1 0 ⟨false,[G.key],[],[G.x5,G.x4]⟩).1.1:=uT V.wf uq;unfold kJ at u;generalize dP k v M1 0 ⟨false,[G.key],[],[G.x5,G.x4]⟩=st at u aa hu⊢;obtain⟨⟨q,e⟩,M2⟩:=st;dsimp only at u aa hu⊢;apply dX<;>intro ad;have C:e≠0:=by rw[zT] at ad;exact zR.1 ad
 rw[iP C] at u;exact u F2 aL aa.j7 g.pY g.new;have C:¬e≠0:=by rw[yD] at ad;exact λh=>h (yO.1 ad)
 rw[iN C] at u;exact Ii h 1 rfl J.2.2<|oD h 1 rfl (sh (q,ab,J.2.2)) λbA h _=>oD h 1 rfl (sh (q,ab,wrap .u32 (J.2.2+1))) λbB h _=>⟨q,_,F2,_,M2,aL,⟨g.pY,g.new,λb hb=>g.own b (by simp at hb⊢;rcases hb with h|h|h<;>simp[h])⟩,aa,h,hu,vE _,u⟩;have E:¬G.x4≠0:=by rw[yD] at E;exact λh=>h (yO.1 E)
 rw[iN E] at u;exact⟨G.x5,J.2.2,F1,[r7,r1],M1,aD,g,R,h,hG.x5,u3,u⟩;rintro _ bC ⟨a,c,F2,T,M2,wa,g,ba,h,ha,bb,u⟩;exact Ii h 2 rfl (pW pb)<|Ii h 2 rfl t<|Ij h 1 rfl (a,ab,c)<|TW.qe (ba.J0 h) ha aG bb λbc aN bd=>u F2 bc aN.j7 ((g.fr h).j8 bd g.new) g.new
end
end
section
section
variable {dbk pb j:Nat} {FD Y F F' T:Ik} {D:dJ} {w0 w w':Ic} {M M':dV} {L L':Ip} {k v:Nat} {t:Int}
def nT.rd{x:kz}{n:dM}{B:Ik}(o:nT FD F w T (B++Y) x n B)(E:TW dbk pb FD D j w (T++(B++Y)) F M)(C:∀b∈B,b∉Y):eF (Zo FD (T++Y) F) w x n:=
 o.node.rd (λb h u=>by
  have G:=E.sep b (by simp[h]);simp only[Zo,zD,zG] at u;rcases u with (u|u|u|u)|u;exact G.1 u;exact G.2 u;exact o.sep b u h;exact C b h u;exact E.yf b (by simp[h]) u) λb h=>.inl (tH (λb h=>by
  rw[zD] at h;simp only[zD];rcases h with h|h;exact .inl h;exact .inr (.inr h)) b h)
def nT.next{x:kz}{n:dM}{B:Ik}(o:nT FD F w T R x n B)(f:Fr F w w')(h:∀b∈B,b∉F)(u:∀b∈F',b∈F\/w.heap.size<=b):nT FD F' w' T R x n B:=⟨o.node.q8 f h (λb C=>.inl (uX C)) (TW.uS u),o.sep⟩
def qxV{r:Iw}{N:dM}:mn k v t r ((N,0),M) = if N.Q4=true/\N.J6.length=0 then (if (fq M r.1).1≠0 then ((fq M r.1).1,(fq M r.1).2) else eY (fq M r.1).2 t 0 0 0) else if N.Q4=false/\N.J9.length=1 then (if (fq M r.1).1≠0 then ((fq M r.1).1,(fq M r.1).2) else eY (fq M r.1).2 t (N.J9.getD 0 0) (wrap .u32 (r.2.1-1)) (wrap .u32 (r.2.2-1))) else kJ t (dP k v M r.1 N) (wrap .u32 (r.2.1-1)) r.2.2:=by unfold mn;rw[iN λh=>h rfl]
set_option maxHeartbeats 1000000 in
def qv7{f:Nat}{ks:Sl}{K:Int->WP}(aG:eI key)(am:gY k v)(hT:TW dbk pb FD D j w0 Y F M)(hk:en (Zo FD Y F) w0 ks key)(U:mr D k v key f M (dW M t).1)(E:∀F' w',TW dbk pb FD D j w' Y F' (kU D k v t key f M).2->Fr F w0 w'->(∀b∈F',b∈F\/w0.heap.size<=b)->K (kU D k v t key f M).1 w'): cW 105 [.agg (np (jC k v pb t)),ks.v] di w0 K:=by
 refine qj7 ?_;have g:=Sg.start F w0;have h:=oE [] w0;obtain⟨u1,u2,u3⟩:=Cq hT.wf t;refine oB h λr1 w2 _ _ h=>Ii h 0 rfl (pW pb)<|Ii h 0 rfl t<|TW.J5 (hT.q7 h.fr) λw6 f6=>?_;have h:=h.q7 f6;unfold kU at E;generalize dW M t=G at E U u1 u2 u3⊢;refine oB h λr7 w8 _ _ h=>oD h 0 rfl (sh G) λw9 h _=>Ij h 1 rfl (jC k v pb t)<|Ii h 0 rfl G.1<|He aG am f (hT.cB h) u1 (uh hk h) U λx B F1 aq ah V aa ar ae aI=>?_;have aJ:=xj h;have a4:=h.fr.size;have g:=g.next h ar aI
 have h:=(hT.cB h).own h ar;generalize hU D k v key f M G.1=cn at E ah V aa⊢;obtain⟨⟨N,e1⟩,M1⟩:=cn;dsimp only at ah V aa⊢;have au:TW dbk pb FD D j aq ([r7,r1]++(B++Y)) F1 M1:=V.y0 λb u=>by rw[zD,zD] at u;simp only[zD];rcases u with u|u|u;exact .inr (.inl u);exact .inl u;exact .inr (.inr u)
 have o:nT FD F1 aq [r7,r1] (B++Y) x N B:=⟨aa.j6 λb u=>.inl (tH (λb u=>by rw[zD,zD] at u;simp only[zD];rcases u with u|u|u;exact .inr (.inl u);exact .inl u;exact .inr (.inr u)) b u),λb u hm=>by have:=aJ b u;have:=ae b hm;omega⟩;have aL:∀b∈B,b∉Y:=λb u hm=>by have:=hT.qw b hm;have:=ae b u;omega
 have I:∀ {T:Ik},∀b∈T++Y,b∈T++(B++Y):=λb u=>by rw[zD] at u;simp only[zD];rcases u with u|u;exact .inl u;exact .inr (.inr u)
 refine oB h λaM a6 _ _ h=>oD h 0 rfl (eN x) λaN h _=>?_;apply dX<;>intro J;have ab:e1≠0:=by rw[zT] at J;exact zR.1 J
 have e:mn k v t G ((N,e1),M1)=(e1,M1):=(by unfold mn;rw[iP ab]);rw[e] at E;exact E F1 aN ((TW.J0 (T:=[r7,r1]) au h).y0 λb u=>by simp[u]) (g.fr h) g.new;have aO:e1=0:=(by rw[yD] at J;exact yO.1 J);subst aO;rw[qxV] at E;have ac:x.1=N.Q4:=o.node.1;have av:oh x N:=(o.node.rd (S:=[]) (λ_ _ h=>(nomatch h)) λ_ h=>nomatch h).lens;have ai:gE (wrap .u32 (G.2.1-1)):=vE _;refine Ii h 1 rfl G.2.1<|oD h 1 rfl (sh (G.1,wrap .u32 (G.2.1-1),G.2.2)) λaw h _=>?_;generalize wrap .u32 (G.2.1-1)=ad at E ai h;have C:=TW.J0 (T:=[r7,r1]) au h;have o:=o.J0 h;have g:Sg F w0 aw F1 (fk _):=g.cA h (.refl [] _);have h:=lM h (.refl _);refine gP (λe w'=>∃(a b c:Int) (F2 T:Ik) (M2:dV) (wa:Ic),Sg F w0 wa F2 T/\TW dbk pb FD D j wa (T++Y) F2 M2/\dR T wa w' [(aM,.c (eN x) ND),(r7,.c (sh (a,b,c)) RT),(r1,.c (np (jC k v pb t)) WK)]/\gE a/\gE b/\gE c/\
  ∀F' w',TW dbk pb FD D j w' Y F' (if e≠0 then (e,M2) else eY M2 t a b c).2->Fr F w0 w'->(∀b∈F',b∈F\/w0.heap.size<=b)->K (if e≠0 then (e,M2) else eY M2 t a b c).1 w') ?_ ?_
 refine gP (λd w'=>d=decide (N.Q4=true/\N.J6.length=0)/\w'=aw) ?_ ?_;refine Ii h 0 rfl x.1 ?_;apply dX<;>intro J;rw[ac] at J;refine Ii h 0 rfl x.2.1 ⟨?_,rfl⟩;rw[av.J6,HR,yO,yM];exact⟨λh=>⟨J,oJ⟩,λh=>by rw[h.2];rfl⟩;rw[ac] at J;exact⟨(zU λh=>by rw[J] at h;exact absurd h.1 oM).symm,rfl⟩;rintro d aP ⟨rfl,rfl⟩;apply dX<;>intro hd;have hd:=zC hd;rw[iP hd] at E;refine Ii h 2 rfl (pW pb)<|Ii h 1 rfl G.1<|TW.drop (C.y0 I) λF2 aQ ax ay aR=>?_;have g:=g.next h ay aR
 have h:=TW.own (C.y0 I) h ay;exact oD h 1 rfl (sh (0,0,0)) λa7 h _=>⟨0,0,0,F2,_,_,aQ,g,ax,h,uq,uq,uq,E⟩;have hd:=zB hd;rw[iN hd] at E;refine gP (λd w'=>d=decide (N.Q4=false/\N.J9.length=1)/\w'=aP) ?_ ?_;refine Ii h 0 rfl x.1 ?_;apply dX<;>intro J;rw[ac,zT] at J;refine Ii h 0 rfl x.2.2.2 ⟨?_,rfl⟩;rw[av.J9,HR,yO,yM];exact⟨λh=>⟨J,oJ⟩,λh=>by rw[h.2];rfl⟩;rw[ac,yD] at J;exact⟨(zU λh=>by rw[J] at h;exact absurd h.1 oM).symm,rfl⟩;rintro d a8 ⟨rfl,rfl⟩;apply dX<;>intro R;have R:=zC R;rw[iP R] at E;have ak:0<N.J9.length:=oJ;rw[uj ak] at E;have aT:gE N.J9[0]:=o.node.2.1.2.2 _ (zW ak);refine Ii h 2 rfl (pW pb)<|Ii h 1 rfl G.1<|TW.drop C λF2 aU az al aA=>?_;have g:=g.next h al aA
 have o:=o.next al (λb u=>C.yf b (by simp[u])) aA;have h:=TW.own C h al;have h:=oF h;refine Ii h 0 rfl x.2.2.2 ?_;have oR:eF [] _ x N:=(o.J0 h).node.rd (S:=[]) (λ_ _ h=>(nomatch h)) λ_ h=>nomatch h;exact ee.get oR.2.2.2.2 0 rfl (x:=N.J9[0]) (zA ak) (y:=N.J9[0]) rfl<|Ii h 1 rfl G.2.2<|oD h 1 rfl (sh (N.J9[0],ad,G.2.2)) λa' h _=>oD h 1 rfl (sh (N.J9[0],ad,wrap .u32 (G.2.2-1))) λba h _=>⟨_,_,_,F2,_,_,aU,g,az.y0 I,h,aT,ai,vE _,E⟩;have R:=zB R;rw[iN R] at E;have sx:=ah rfl;have z1:=sx.J6;have z2:=sx.Q0;have z3:=sx.J9;refine Ij h 2 rfl (jC k v pb t)<|Ii h 1 rfl G.1<|Ij h 0 rfl x<|uY (C.y0 I) (o.rd C aL) oJ oJ oJ λF2 aW ag aB aX=>?_;have aC:gE (dP k v M1 G.1 N).1.1:=uT C.wf u1;have g:=g.next h aB aX
 have h:=TW.own (C.y0 I) h aB;unfold kJ at E;generalize dP k v M1 G.1 N=st at E ag aC⊢;obtain⟨⟨q,e2⟩,M2⟩:=st;exact oD h 1 rfl (sh (q,ad,G.2.2)) λbb h _=>⟨q,ad,G.2.2,F2,_,M2,aW,g,ag,h,aC,ai,u3,E⟩;rintro e aY ⟨a,b,c,F2,T,M2,wa,g,aD,h,ua,ub,uc,E⟩;apply dX<;>intro R;have ab:e≠0:=by rw[zT] at R;exact zR.1 R
 rw[iP ab] at E;exact E F2 aY (aD.J0 h).j7 (g.fr h) g.new;have ab:¬e≠0:=by rw[yD] at R;exact λh=>h (yO.1 R)
 rw[iN ab] at E;exact Ii h 2 rfl (pW pb)<|Ii h 2 rfl t<|Ij h 1 rfl (a,b,c)<|TW.qe (aD.J0 h) ua ub uc λaZ aE a0=>E F2 aZ aE.j7 ((g.fr h).j8 a0 g.new) g.new
end
end
end
section
open Go Go.Pt List
open Go.IntKind (wrap)
open Classical
variable {K:It->WP} {f:Nat} {key:Key} {ks:Sl}
def qxp{S:Type}{B:(S->WP)->S->WP}(I:Nat->S->WP)(E:∀f s w (X:S->WP),I f s w->(∀u C w',u<f->I u C w'->X C w')->B X s w):∀(f:Nat) {s:S} {w:Ic},I f s w->loop S B s w:=λf=>by
 induction f using Nat.strongRecOn with
 | ind f ih=>exact λ{s w} h=>Ae λX G=>E f s w X h λu C w' J R=>G _ _ (ih u J R)
noncomputable def lT (D:dJ) (k v:Nat) (key:Key) (M:dV):Nat->Int->Key×Int
 | 0,p=>if p=0 then ([],5) else ([],-1)
 | f+1,p=>if p=0 then ([],5)
  else if (dK D M k v p).2≠0 then ([],(dK D M k v p).2)
  else if (dK D M k v p).1.Q4 then
   if (dK D M k v p).1.J6[dO (dK D M k v p).1.J6 key]?=some key then ((dK D M k v p).1.Q0.getD (dO (dK D M k v p).1.J6 key) [],0) else ([],5)
  else lT D k v key M f ((dK D M k v p).1.J9.getD (eu (dK D M k v p).1.J6 key) 0)
section
variable {dbk pb j:Nat} {FD Y F F' T:Ik} {D:dJ} {w0 w w':Ic} {M M':dV} {k v:Nat} {t:Int}
def GP(af:eI key)(hs:rz t=((k:Int),(v:Int)))(aw:k≠0)(aZ:key.length=k)(hT:TW dbk pb FD D j w0 Y F M)(hk:en (Zo FD Y F) w0 ks key)(R:(lT D k v key M f (dW M t).1).2≠-1)(kk:∀s B w',fR w' s (lT D k v key M f (dW M t).1).1 B->(∀b∈B,w0.heap.size<=b)->Fr [] w0 w'->K (s,(lT D k v key M f (dW M t).1).2) w'): cW 47 [dG pb,.i t,ks.v] dm w0 K:=by
 refine qt1 ?_;have aQ:=hk.1;refine C0 (k:=k) (v:=v) hs (λh=>absurd h aw) (λ_ h=>absurd oJ h) λ_ _ w2 f2=>?_;have h:=(oE [] w0).q7 f2;refine oB h λr3 w4 _ _ h=>oD h 0 rfl (np (jC k v pb t)) λw5 h _=>HM rfl<|TW.J5 (hT.q7 h.fr) λw7 f7=>?_;have h:=h.q7 f7;have hu:=(Cq hT.wf t).1;generalize dW M t=rt at kk R hu⊢;generalize ah:lT D k v key M f rt.1=ai at kk R;refine gP (λ_ w'=>ai=([],5)/\Fr [] w0 w') ?_ ?_
 ·refine qxp (λf s w'=>lT D k v key M f s=ai/\gE s/\dR [] w0 w' [(r3,.c (np (jC k v pb t)) WK)]) ?_ f ⟨ah,hu,h⟩;rintro f s a4 X ⟨u,az,h⟩ hX;apply dX<;>intro hc
  ·have U:s≠0:=(by rw[zT] at hc;exact zR.1 hc);cases f with
   | zero=>
    unfold lT at u;rw[iN U] at u;rw[<- u] at R;exact absurd rfl R
   | succ f=>
   unfold lT at u;rw[iN U] at u;refine Ij h 0 rfl (jC k v pb t) ?_;rcases ab:dK D M k v s with ⟨n,e0⟩;rw[ab] at u;dsimp only at u;refine AB (k:=k) (v:=v) (hT.q7 h.fr) az λx B aA aT C aB aU=>?_;rw[ab] at C⊢;dsimp only at C⊢;have J:eF [] aA x n:=C.rd (λ_ _ h=>(nomatch h)) λ_ h=>nomatch h;have h:=h.q7 aB;have aV:=h.fr;refine oB h λaj aC a6 aD h=>?_;have J:eF [aj] aC x n:=(J.j6 (S':=[aj]) λb hb=>by rw[zE.1 hb];exact .inr oJ).q7 aD;refine oD h 0 rfl (eN x) λak h aF=>?_;have J:=J.q8 aF λb hb=>.inl hb;apply dX<;>intro E;have al:e0≠0:=by rw[zT] at E;exact zR.1 E
   rw[iP al] at u;subst u;exact kk dH [] ak (.nil _ _ _) (λ_ h=>nomatch h) h.fr;have aG:e0=0:=by rw[yD] at E;exact yO.1 E
   subst aG;rw[iN λh=>h rfl] at u;have hr:=AL ab;obtain⟨l1,l2,l3,l4,l5⟩:=uQ hr;have am:x.1=n.Q4:=J.1;refine Ii h 0 rfl x.1 ?_;apply dX<;>intro G;have I:n.Q4=false:=(by rw[am,zT] at G;exact G);rw[iN (by rw[I];decide)] at u;obtain⟨l6,l7,l8⟩:=l5 I;have aW:=zo n.J6 key;have fd:=(Fr.refl [] ak).drew;have h:=oF h;refine Ii h 0 rfl x.2.2.2<|Ij h 0 rfl x<|BD (J.q7 fd) (hk.q7 h.fr) af hr.2.2.1 oJ λaH an=>?_;have h:=h.q7 an;refine ik (h.cell 0) ?_;have ac:eu n.J6 key<n.J9.length:=oJ;refine ee.get ((J.q7 fd).q7 an).2.2.2.2 (eu n.J6 key) rfl (zA ac) (y:=n.J9[eu n.J6 key]) rfl ?_;rw[uj ac] at u;exact hX f _ aH (Nat.lt_succ_self f) ⟨u,J.2.1.2.2 _ (zW ac),h.sub (H0 _ _)⟩;have I:n.Q4=true:=(by rw[am,yD] at G;exact G);rw[iP I] at u;obtain⟨l6,l7⟩:=l4 I;refine Ij h 0 rfl x<|CO J (hk.q7 h.fr) af hr.2.2.1 oJ λba ao=>?_;have h:=h.q7 ao;apply cD<;>intro ad;have ap:=ad;rw[iP ap] at u;have bb:=(zP.1 ap).1;obtain⟨pv,aq,ae⟩:=(J.q7 ao).2.2.2.1;have V:dO n.J6 key<pv.length:=by
    have:=H9 List.length ae;rw[zK] at this;omega
   refine Ii h 0 rfl x.2.2.1<|jq.get aq (dO n.J6 key) rfl V ?_;have ar:n.Q0.getD (dO n.J6 key) []=pv[dO n.J6 key].2:=(by rw[<- ae,wW V]);rw[ar] at u;have aI:pv[dO n.J6 key].2.length<=1000000:=by have h1:=hr.2.1 pv[dO n.J6 key].2 (by rw[<- ae];exact zY (zW V));have h2:=qnN (k:=k) (v:=v) oJ;omega
   refine xw (aq.2 _ (zW V)) aI λs' B' aJ aK aL aM _ _=>?_;subst u;have aN:=h.fr.size;exact kk s' B' aJ aK (λc hc=>zL aN (aM c hc)) (h.fr.trans aL);have au:=ad;rw[iN au] at u;exact⟨u.symm,h.fr⟩
  have U:s=0:=(by rw[yD] at hc;exact yO.1 hc);refine⟨?_,h.fr⟩;rw[<- u];cases f<;>(unfold lT;rw[iP U])
 rintro _ aO ⟨rfl,aP⟩;exact kk dH [] aO (.nil _ _ _) (λ_ h=>nomatch h) aP
def Gj(h:eI key)(I:rz t=((k:Int),(v:Int)))(u:k≠0)(C:key.length=k)(J:TW dbk pb FD D j w0 Y F M)(R:en (Zo FD Y F) w0 ks key)(E:(lT D k v key M f (dW M t).1).2≠-1)(U:∀s w',(∀G:Ik,(∀b∈G,b<w0.heap.size)->en G w' s (lT D k v key M f (dW M t).1).1)->Fr [] w0 w'->K (s,(lT D k v key M f (dW M t).1).2) w'): cW 47 [dG pb,.i t,ks.v] dm w0 K:=
 GP h I u C J R E λs B w' b n f=>U s w' (λG V=>b.jz lc λc hc hm=>by have:=n c hc;have:=V c hm;omega) f
def quO{r h:Int}(u:0<=r)(C:0<=h/\h<=1000000)(E:2*h.toNat+1<=r.toNat):decide (r>wrap .i64 (2*wrap .i64 h))=true:=by rw[gi h oJ,gi (2*h) oJ];exact zZ oJ
def qzJ{vs:Sl}{val:Key}{K:Int->WP}(U:eI key)(V:eI val)(hs:rz t=((k:Int),(v:Int)))(aa:k≠0)(al:key.length=k)(ab:val.length=v)(hT:TW dbk pb FD D j w0 Y F M)(hk:en (Zo FD Y F) w0 ks key)(hv:en (Zo FD Y F) w0 vs val)(ac:0<=(dW M t).2.2/\(dW M t).2.2<=1000000)(ad:2*(dW M t).2.2.toNat+1<=M.Q1.length)(ae:(dW M t).1≠0->(gV D k v key val f M (dW M t).1).1.2≠-1)(kk:∀F' w',TW dbk pb FD D j w' Y F' (jy D k v t key val f M).2->Fr F w0 w'->(∀b∈F',b∈F\/w0.heap.size<=b)->K (jy D k v t key val f M).1 w'): cW 50 [dG pb,.i t,ks.v,vs.v] di w0 K:=by refine qt2 ?_;have ao:=hk.1;have af:=hv.1;have g:=Sg.start F w0;have h:=oE [] w0;refine oB h λr1 w2 _ _ h=>oB h λr3 w4 _ _ h=>Ii h 1 rfl ks<|C0 (k:=k) (v:=v) hs (λh=>absurd h aa) (λ_ h=>absurd oJ h) λ_ _ w7 f7=>?_;have h:=h.q7 f7;refine oB h λr8 w9 _ _ h=>oD h 0 rfl (np (jC k v pb t)) λag h _=>HM rfl<|Ii h 1 rfl vs<|Ii h 0 rfl (v:Int)<|HM (by rw[af,ab];simp)<|Ij h 0 rfl (jC k v pb t) ?_;have u:=hT.cB h;have E:=uh hk h;have G:=uh hv h;have g:Sg F w0 ag F (fk _):=g.cA h (.refl [] _);have h:=lM h (.refl _);refine qfd<|oB h λq1 av _ _ h=>?_;have h:=oF h;refine Ii h 0 rfl (pW pb)<|Ii h 0 rfl (pW pb)<|Ii h 0 rfl t<|TW.room (u.J0 h)<|ky (h.cell 0) (h.cell 0)<|TW.J5 (u.J0 h) λaw C=>?_;have I:=(u.J0 h).q7 C;have J:=(pT E h).q7 C;have R:=(pT G h).q7 C;have g:=g.cA h C;have h:=qv h C λ_ _ h=>nomatch h;exact HK (quO oJ ac oJ)<|rZ (lb:=[dG r8,dG r1,dG r3]) rfl oK<|qpQ<|Ij h 1 rfl (jC k v pb t)<|Ii h 3 rfl ks<|Ii h 2 rfl vs<|qvF U V I J R ae λF' w' ah f' n'=>kk F' w' ah.j7 (g.pY.j8 f' g.new) λb hb=>(n' b hb).elim (g.new b) λh1=>.inr (zL g.pY.size h1)
def qzz{f2:Nat}{K:Int->WP}(J:eI key)(R:gY k v)(hs:rz t=((k:Int),(v:Int)))(U:k≠0)(ac:key.length=k)(hT:TW dbk pb FD D j w0 Y F M)(hk:en (Zo FD Y F) w0 ks key)(ae:0<=(dW M t).2.2/\(dW M t).2.2<=1000000)(af:2*(dW M t).2.2.toNat+1<=M.Q1.length)(G:(lT D k v key M f2 (dW M t).1).2=0)(I:mr D k v key f M (dW M t).1)(kk:∀F' w',TW dbk pb FD D j w' Y F' (kU D k v t key f M).2->Fr F w0 w'->(∀b∈F',b∈F\/w0.heap.size<=b)->K (kU D k v t key f M).1 w'): cW 61 [dG pb,.i t,ks.v] di w0 K:=by refine qmJ ?_;have ak:=hk.1;have g:=Sg.start F w0;have h:=oE [] w0;refine oB h λr1 w2 _ _ h=>Ii h 0 rfl ks<|C0 (k:=k) (v:=v) hs (λh=>absurd h U) (λ_ h=>absurd oJ h) λ_ _ w7 f7=>?_;have h:=h.q7 f7;refine oB h λr8 w9 _ _ h=>oD h 0 rfl (np (jC k v pb t)) λao h _=>HM rfl<|Ii h 1 rfl ks<|Gj (f:=f2) J hs U ac (hT.cB h) (uh hk h) (by rw[G];decide) λs ap _ C=>?_;rw[G];have u:=(hT.cB h).q7 C;have V:=(uh hk h).q7 C;have g:=g.cA h C;have h:=qv h C λ_ _ h=>nomatch h;refine HM rfl<|Ij h 0 rfl (jC k v pb t)<|qfd<|oB h λq1 aq _ _ h=>?_;have h:=oF h;refine Ii h 0 rfl (pW pb)<|Ii h 0 rfl (pW pb)<|Ii h 0 rfl t<|TW.room (u.J0 h)<|ky (h.cell 0) (h.cell 0)<|TW.J5 (u.J0 h) λar E=>?_;have aa:=(u.J0 h).q7 E;have ab:=(pT V h).q7 E;have g:=g.cA h E;have h:=qv h E λ_ _ h=>nomatch h;exact HK (quO oJ ae oJ)<|rZ (lb:=[dG r8,dG r1]) rfl oK<|qpP<|Ij h 1 rfl (jC k v pb t)<|Ii h 2 rfl ks<|qv7 J R aa ab I λF' w' ag f' n'=>kk F' w' ag.j7 (g.pY.j8 f' g.new) λb hb=>(n' b hb).elim (g.new b) λh1=>.inr (zL g.pY.size h1)
end
end
section
open Go Go.Pt List
open Go.IntKind (wrap)
open Classical
variable {L:fP} {key:Key}
def jm (key:Key) (L:fP):Option Key:=(L.find? λx=>decide (x.1=key)).map (·.2)
def Fz{A B:fP}:jm key (A++B)=match jm key A with|some v=>some v|none=>jm key B:=by unfold jm;rw[List.find?_append];cases A.find? (λx=>decide (x.1=key))<;>rfl
def ya(h:∀x∈L,x.1≠key):jm key L=none:=by unfold jm;rw[List.find?_eq_none.2 λx u=>by simp[h x u]];rfl
def qqk(h:key∈dQ L):∃v,jm key L=some v:=by
 unfold jm;obtain⟨x,u,rfl⟩:=mem_map.1 h;cases e:L.find? (λy=>decide (y.1=x.1)) with
 | none=>exact absurd (List.find?_eq_none.1 e x u) oL
 | some y=>exact⟨y.2,rfl⟩
section
variable {D:dJ} {M M':dV} {k v:Nat} {key:Key}
def Has.get:∀ {h:Nat} {s:ia},Has D M k v h s->s.x5≠0->M.Wf->M.Q3=false->lT D k v key M (h+1) s.x5=match jm key s.y3 with|some x=>(x,0)|none=>([],5)
 | 0,s,hs,hp,hW,ho=>by
  obtain⟨h1,h2,h3,h4⟩:=hs;have hl:dK D M k v s.x5=(eh s.y3,0):=h3.load h4;have ac:fg s.y3:=h3.right.2.2.1;have al:(eh s.y3).J6=dQ s.y3:=rfl;unfold lT;rw[iN hp,hl];dsimp only;rw[iN λh=>h rfl,iP (show (eh s.y3).Q4=true from rfl),al];by_cases hm:(dQ s.y3)[dO (dQ s.y3) key]?=some key
  ·rw[iP hm];have hi:dO (dQ s.y3) key<s.y3.length:=by
    have:=(zP.1 hm).1;simpa using this
   have am:=zg (k:=key) ac;have ad:s.y3=s.y3.take (dO (dQ s.y3) key)++s.y3[dO (dQ s.y3) key]::s.y3.drop (dO (dQ s.y3) key+1):=by rw[getElem_cons_drop,xD]
   have I:s.y3[dO (dQ s.y3) key].1=key:=(by rw[zQ,zA hi] at hm;simpa using hm);have hg:jm key s.y3=some s.y3[dO (dQ s.y3) key].2:=by
    conv=>lhs;rw[ad]
    rw[Fz,ya λx u=>xz (am.1 x u)];unfold jm;rw[List.find?_cons_of_pos (by simp[I])];rfl
   rw[hg];show ((List.map (·.2) s.y3).getD _ [],(0:Int))=_;rw[yQ,zQ,zA hi];rfl
  rw[iN hm];have hn:key∉dQ s.y3:=λh=>hm ((wu ac).2 h);rw[ya λx u e=>hn (by rw[<- e];exact zY u)]
 | h+1,⟨p,n,L,P⟩,⟨es,h0,h1,h2,h3,h4,h5,h6,h7⟩,hp,hW,ho=>by
  dsimp only at h1 h2 h3 h5 hp;subst h1 h2 h3;have hl:dK D M k v p=(dN es,0):=h4.load h5;obtain⟨A,e,B,J,hA,I,an,R⟩:=uF (key:=key) h0 h6;have U:(dN es).J9.getD (eu (dN es).J6 key) 0=e.2.x5:=R;have ao:e∈es:=(by rw[J];simp);obtain⟨V,_⟩:=h7 e ao;have aC:=ud hW (V.J4 ho e.2.x5 V.mem);unfold lT;rw[iN hp,hl];dsimp only;rw[iN λh=>h rfl,iN (show ¬(dN es).Q4=true from λe=>nomatch e),U,V.get oJ hW ho];have G:=h6;rw[J] at G;have C:=G.mid;have E:es.flatMap (·.2.y3)=A.flatMap (·.2.y3)++(e.2.y3++B.flatMap (·.2.y3)):=(by rw[J,qt]);have ap:∀x∈A.flatMap (·.2.y3),x.1≠key:=λx u=>by obtain⟨a,ha,u⟩:=yJ.1 u;exact xz (rg (C.1 a ha x u) I)
  have aq:∀x∈B.flatMap (·.2.y3),x.1≠key:=λx u=>by obtain⟨b,hb,u⟩:=yJ.1 u;exact (xz (rg (an b hb) ((C.2 b hb).2.2 x u))).symm
  rw[E,Fz,ya ap,Fz,ya aq];cases jm key e.2.y3<;>rfl
def Has.Q6(hc:gY k v):∀(h:Nat) (M:dV) (s:ia),Has D M k v h s->M.Wf->M.Q3=false->s.y4.Nodup->key∈dQ s.y3->2*h<=M.Q1.length->mr D k v key (h+1) M s.x5
 | 0,M,s,hs,hW,ho,ae,J,hf=>λn hn hl=>by have af:dK D M k v s.x5=(eh s.y3,0):=hs.2.2.1.load hs.2.2.2;rw[af] at hn;cases hn;cases hl
 | h+1,M,⟨p,n,L,P⟩,⟨G,h0,h1,h2,h3,h4,h5,h6,h7⟩,hW,ho,ae,J,hf=>λn' hn hl=>by
  dsimp only at h1 h2 h3 h5 ae J hn;subst h1 h2 h3;have ax:dK D M k v p=(dN G,0):=h4.load h5;rw[ax] at hn;cases hn;obtain⟨A,e,B,E,hA,ay,az,ag⟩:=uF (key:=key) h0 h6;have ah:(dN G).J9.getD (eu (dN G).J6 key) 0=e.2.x5:=ag;have aA:eu (dN G).J6 key=A.length:=hA.symm;have aB:e∈G:=(by rw[E];simp);obtain⟨an,aC⟩:=h7 e aB;have ai:G.flatMap (·.2.y4)=A.flatMap (·.2.y4)++(e.2.y4++B.flatMap (·.2.y4)):=(by rw[E,qt]);have V:G.flatMap (·.2.y3)=A.flatMap (·.2.y3)++(e.2.y3++B.flatMap (·.2.y3)):=(by rw[E,qt]);have aa:(A.flatMap (·.2.y4)++(e.2.y4++B.flatMap (·.2.y4))).Nodup:=(by rw[<- ai];exact (nodup_cons.1 ae).2);have ab:e.2.y4.Nodup:=(yL.1 (yL.1 aa).2.1).1;have ac:=h6;rw[E] at ac;have R:=ac.mid;have U:key∈dQ e.2.y3:=by obtain⟨x,C,rfl⟩:=mem_map.1 J;rw[V] at C;rcases zD.1 C with C|C;obtain⟨a,ha,C⟩:=yJ.1 C;exact absurd (rg (R.1 a ha x C) ay) qS;rcases zD.1 C with C|C;exact zY C;obtain⟨b,I,C⟩:=yJ.1 C;exact absurd (rg (az b I) ((R.2 b I).2.2 x C)) qS
  obtain⟨N1,n1,M1,Re,a1,ec,aD,ao,st,a3,a4⟩:=DZ hc h M e.2 an hW ho ab U oJ;rw[ah];refine⟨an.Q6 hc h M e.2 hW ho ab U oJ,λN M2 ad aU ny aj=>?_⟩;rw[ec] at ad;cases ad;have aE:N1.Q4=decide (h=0):=by
   cases h with
   | zero=>rw[ao.1];rfl
   | succ h=>obtain⟨a5,_,h',_⟩:=ao;rw[h'];rfl
  have u:∀b,(b∈A\/b∈B)->(dN G).J9.getD (iR (eu (dN G).J6 key)) 0=b.2.x5->ny.Q4=N1.Q4:=λb I aF=>by
   rw[aF] at aj;have aG:b∈G:=by rw[E];rcases I with I|I<;>simp[I]
   obtain⟨ap,_⟩:=h7 b aG;have aq:Has D M1 k v h b.2:=ap.q8 λx C=>(st.rest x (ap.J4 ho x C) λhm=>by have ar:x∈e.2.y4:=(by rw[aD];exact zN _ hm);have hd:=yL.1 aa;have aH:=yL.1 hd.2.1;rcases I with I|I;exact hd.2.2 x (yJ.2 ⟨b,I,C⟩) x (zH _ ar) rfl;exact aH.2.2 x ar x (yJ.2 ⟨b,I,C⟩) rfl).1;obtain⟨N2,R2,af,_,_,au,_⟩:=aq.load;rw[af] at aj;cases aj;rw[au,aE]
  have h2:=h4.right.x9.1;rw[aA] at u;have aI:(dN G).J9=G.map (·.2.x5):=rfl;rw[aI] at u;by_cases hA0:A.length>0;have hs:iR A.length=A.length-1:=(by unfold iR;rw[iP hA0]);obtain⟨A',b,rfl⟩:∃A' b,A=A'++[b]:=⟨A.dropLast,A.getLast (length_pos_iff.1 hA0),(xZ _).symm⟩;refine u b (.inl oL) ?_;rw[hs,E];simp[yQ];have hs:iR A.length=A.length+1:=(by unfold iR;rw[iN hA0]);have aJ:A=[]:=HW oJ;subst aJ;cases B with
  | nil=>rw[E] at h2;simp at h2
  | cons b B=>
   refine u b (.inr oL) ?_;rw[hs,E];rfl
def fQ.get{t:Int}{L:fP}{P:Il}(C:fQ D M k v t L P)(E:M.Wf)(G:M.Q3=false):lT D k v key M (dW M t).2.2.toNat (dW M t).1=match jm key L with|some x=>(x,0)|none=>([],5):=by rcases C with ⟨e0,rfl,rfl⟩|⟨h,n,p,u,I,J⟩;rw[e0];rfl;rw[I];dsimp only;rw[zJ];exact J.get u E G
def fQ.Q6(E:gY k v){t:Int}{L:fP}{P:Il}(G:fQ D M k v t L P)(u:key∈dQ L)(I:M.Wf)(J:M.Q3=false)(R:P.Nodup)(C:2*(dW M t).2.2.toNat+1<=M.Q1.length):mr D k v key (dW M t).2.2.toNat M (dW M t).1:=by rcases G with ⟨e0,rfl,rfl⟩|⟨h,n,p,U,V,hs⟩;cases u;rw[V] at C⊢;dsimp only at C⊢;rw[zJ] at C⊢;exact hs.Q6 E h M _ I J R u oJ
def qtK{t:Int}{f:Nat}{val:Key}{M':dV}(h:jy D k v t key val f M=(0,M')):(dW M t).1≠0->(gV D k v key val f M (dW M t).1).1.2≠-1:=λC u=>by unfold jy at h;rw[iN C] at h;unfold rN at h;rw[iP (by rw[u];decide),u] at h;cases h
end
section
structure Gd (N:dV) (b:Nat) (M:dV):Prop where
 Q3:M.Q3=false
 j9:M.j9=N.j9
 Q5:M.Q5=N.Q5
 Q9:M.Q9=N.Q9
 x6:M.x6=N.x6
 eJ:N.j9.2.getD 0 0=(b:Int)/\2<=b
 Q1:∀ x∈M.Q1,x<(b:Int)
 J8:∀ x∈M.J8.map (·.1),x<(b:Int)
section
variable {α β:Type} {N:dV} {b c:Nat}
end
section
variable {N:dV} {b c k v:Nat} {D:dJ} {M M':dV}
def fQ.cC{D':dJ}{t:Int}{L:fP}{P:Il}(h:fQ D M k v t L P)(C:∀x∈P,dI D' M' x=dI D M x)(e:dW M' t=dW M t):fQ D' M' k v t L P:=by rcases h with ⟨E,G,I⟩|⟨h,n,p,J,u,R⟩;exact .inl ⟨e.trans E,G,I⟩;exact .inr ⟨h,n,p,J,e.trans u,R.cC C⟩
def fQ.low{t:Int}{P:Il}(h:fQ D M k v t L P):(dW M t).2.2.toNat<=L.length/\0<=(dW M t).2.2:=by
 rcases h with ⟨u,G,I⟩|⟨h,n,p,J,C,E⟩;rw[u];exact⟨yW _,Int.le_refl _⟩;have:=E.counts.1;rw[C];exact⟨by dsimp only at this⊢;omega,by dsimp only;omega⟩
end
end
section
def kv (t:Int):Iu:=((rz t).1.toNat,(rz t).2.toNat)
def vN{t:Nat}(u:t<8):rz t=(((kv t).1:Int),((kv t).2:Int))/\gY (kv t).1 (kv t).2/\1<=(kv t).1/\(kv t).1<=24/\1<=(kv t).2/\(kv t).2<=108:=by obtain⟨k,v,e,h⟩:=qAw (t:=t) ⟨oJ,oJ⟩;have:kv t=(k,v):=(by unfold kv;rw[e];rfl);rw[this];exact⟨e,h⟩
abbrev ka:=Nat->fP×Il
def oW (F:ka) (t:Nat) (x:fP×Il):ka:=λu=>if u=t then x else F u
def A1(F:ka)(t:Nat)(x:fP×Il):oW F t x t=x:=iP rfl
def yi{F:ka}{t u:Nat}{x:fP×Il}(h:u≠t):oW F t x u=F u:=iN h
structure yy (D:dJ) (M:dV) (F:ka):Prop where
 J2:∀ t:Nat,t<8->fQ D M (kv t).1 (kv t).2 t (F t).1 (F t).2
 nodup:∀ t:Nat,t<8->(F t).2.Nodup
 J3:∀ t u:Nat,t<8->u<8->t≠u->∀ x∈(F t).2,x∉(F u).2
 use:∀ x,dU M x->∃ t:Nat,t<8/\x∈(F t).2
section
variable {D D':dJ} {M M':dV} {F W:ka} {b q t:Nat}
def fQ.J4{k v:Nat}{t:Int}{L:fP}{P:Il}(u:M.Q3=false)(h:fQ D M k v t L P):∀x∈P,dU M x:=by rcases h with ⟨_,_,rfl⟩|⟨h,n,p,_,_,C⟩;exact λx E=>nomatch E;exact C.J4 u
def yy.next{L':fP}{P':Il}(h:yy D M F)(ho:M.Q3=false)(U:t<8)(hT:fQ D M' (kv t).1 (kv t).2 t L' P')(I:nh D M M' t (F t).2 P'):yy D M' (oW F t (L',P')):=by have J:∀u:Nat,u<8->u≠t->∀x∈(F u).2,dU M x/\x∉(F t).2:=λu G E x C=>⟨(h.J2 u G).J4 ho x C,h.J3 u t G U E x C⟩;have V:∀u:Nat,u<8->u≠t->∀x∈(F u).2,x∉P':=λu G E x C=>(I.step.rest x (J u G E x C).1 (J u G E x C).2).2.2;refine⟨λu G=>?_,λu G=>?_,λu z G hz E x C=>?_,λx C=>?_⟩;by_cases e:u=t;subst e;rw[A1];exact hT;rw[yi e];exact (h.J2 u G).cC (λx C=>(I.step.rest x (J u G e x C).1 (J u G e x C).2).1) (I.others u oJ);by_cases e:u=t;subst e;rw[A1];exact I.step.nodup;rw[yi e];exact h.nodup u G;by_cases e:u=t;subst e;rw[A1] at C;rw[yi E.symm];exact λhm=>V z hz E.symm x hm C;rw[yi e] at C;by_cases e2:z=t;subst e2;rw[A1];exact V u G e x C;rw[yi e2];exact h.J3 u z G hz E x C;rcases I.step.use x C with R|⟨R,h2⟩;exact⟨t,U,by rw[A1];exact R⟩;obtain⟨u,G,C⟩:=h.use x R;exact⟨u,G,by rw[yi λe=>h2 (by rw[<- e];exact C)];exact C⟩
def Calm.next{t:Int}{P P':Il}(h:Calm D M b q)(u:nh D M M' t P P'):Calm D M' b q:=
 ⟨h.quiet,h.Q7,h.size,by have:=u.step.j9;rw[<- h.blocks,<- this],h.b8,u.wf,u.step.z9 h.Q9,u.step.Q3,u.len,by rw[show M'.j9=M.j9 from u.step.j9];exact h.seq,by rw[show M'.x6=M.x6 from u.step.x6];exact h.x6⟩
def Cb (t:Int) (M:dV):dV:=ij M.j9 M.Q5 M.Q9 t false M.Q9
structure Wo (D:dJ) (M:dV) (b q:Nat) (F W:ka):Prop where
 J1:Calm D M b q
 J0:yy D M F
 was:yy D (Cb 0 M) W
 opens:pf D M.j9 M.Q5 M.Q9
 Q8:M.j9.2.length=27
 b4:8<=b/\b<=300
end
end
section
section
variable {D:dJ} {M:dV} {k v:Nat} {frm:Key}
abbrev kA:=dM×Int
noncomputable def iz (D:dJ) (k v:Nat) (M:dV) (pick:dM->Int):Nat->Int->Option (List kA)
 | 0,p=>none
 | f+1,p=>if (dK D M k v p).2≠0 then none
  else if (dK D M k v p).1.Q4 then some [((dK D M k v p).1,pick (dK D M k v p).1)]
  else (iz D k v M pick f ((dK D M k v p).1.J9.getD (pick (dK D M k v p).1).toNat 0)).map (((dK D M k v p).1,pick (dK D M k v p).1)::·)
def l9 (D:dJ) (M:dV) (k v:Nat) (frm:Key):Nat->List kA->fP->Prop
 | 0,E,T=>∃(u:fP) (i:Nat),E=[(eh u,(i:Int))]/\i<=u.length/\fg u/\T=u.drop i
 | h+1,E,T=>∃(C:List gJ) (i:Nat) (G:List kA) (T1:fP),E=(dN C,(i:Int))::G/\i<C.length/\(∀e∈C.drop (i+1),Has D M k v h e.2/\∀x∈e.2.y3,¬fK x.1 frm)/\l9 D M k v frm h G T1/\T=T1++(C.drop (i+1)).flatMap (·.2.y3)
def jN (n:dM) (frm:Key):Int:=if n.Q4 then dO n.J6 frm else eu n.J6 frm
noncomputable def mJ (frm:Key) (L:fP):fP:=L.filter λx=>decide (¬fK x.1 frm)
def E6(h:∀x∈L,¬fK x.1 frm):mJ frm L=L:=filter_eq_self.2 λx u=>zZ (h x u)
def qn7(h:∀x∈L,fK x.1 frm):mJ frm L=[]:=filter_eq_nil_iff.2 λx u=>by simpa using h x u
def Ez{A B:fP}:mJ frm (A++B)=mJ frm A++mJ frm B:=xB ..
def qps{a b:Key}(h:lO b a):¬fK a b:=h
def Fw:∀ {h:Nat} {s:ia},Has D M k v h s->∃fs,iz D k v M (λn=>jN n frm) (h+1) s.x5=some fs/\l9 D M k v frm h fs (mJ frm s.y3)
 | 0,s,hs=>by
  obtain⟨h1,h2,h3,h4⟩:=hs;have hl:dK D M k v s.x5=(eh s.y3,0):=h3.load h4;have ad:fg s.y3:=h3.right.2.2.1;have ae:=Gf (dQ s.y3) frm;rw[zK] at ae;have af:=zg (k:=frm) ad;unfold iz;rw[hl,iN λh=>h rfl,iP (show (eh s.y3).Q4=true from rfl)];refine⟨_,rfl,s.y3,dO (dQ s.y3) frm,?_,ae,ad,?_⟩;show [(eh s.y3,jN (eh s.y3) frm)]=_;rw[jN,iP (show (eh s.y3).Q4=true from rfl)];rfl
  ·conv=>lhs;rw[<- xD (dO (dQ s.y3) frm) s.y3]
   rw[Ez,qn7 af.1,xH,E6 λx G=>qps (af.2 x G)]
 | h+1,⟨p,n,L,P⟩,⟨u,h0,h1,h2,h3,h4,h5,h6,h7⟩=>by
  dsimp only at h1 h2 h3 h5;subst h1 h2 h3;have hl:dK D M k v p=(dN u,0):=h4.load h5;obtain⟨A,e,B,E,hA,am,ag,R⟩:=uF (key:=frm) h0 h6;have U:(dN u).J9.getD (eu (dN u).J6 frm) 0=e.2.x5:=R;have V:eu (dN u).J6 frm=A.length:=hA.symm;have an:e∈u:=(by rw[E];simp);obtain⟨ao,_⟩:=h7 e an;have J:=h6;rw[E] at J;have C:=J.mid;obtain⟨fs,e1,e2⟩:=Fw ao;have ah:jN (dN u) frm=(A.length:Int):=by rw[jN,iN (show ¬(dN u).Q4=true from λe=>nomatch e),V]
  unfold iz;rw[hl,iN λh=>h rfl,iN (show ¬(dN u).Q4=true from λe=>nomatch e)];show ∃fs,Option.map (((dN u),jN (dN u) frm)::·) (iz D k v M (λn=>jN n frm) (h+1) ((dN u).J9.getD (jN (dN u) frm).toNat 0))=some fs/\_;rw[ah,zJ,<- V,U,e1,V];have I:u.drop (A.length+1)=B:=(by rw[E];simp);refine⟨_,rfl,u,A.length,fs,_,rfl,by rw[E];simp,λb hb=>?_,e2,?_⟩;rw[I] at hb;exact⟨(h7 b (by rw[E];simp[hb])).1,λx G g=>(C.2 b hb).2.2 x G (pw g (ag b hb))⟩
  ·rw[I];show mJ frm (u.flatMap (·.2.y3))=_;conv=>lhs;rw[E]
   rw[yP,yG,Ez,Ez,qn7 λx G=>?_,xH,E6 (L:=B.flatMap _) λx G=>?_];obtain⟨b,hb,G⟩:=yJ.1 G;exact λg=>(C.2 b hb).2.2 x G (pw g (ag b hb));obtain⟨a,ha,G⟩:=yJ.1 G;exact rg (C.1 a ha x G) am
end
end
section
section
variable {D:dJ} {M:dV} {k v:Nat} {frm:Key}
noncomputable def iq (D:dJ) (k v:Nat) (M:dV) (pick:dM->Int) (step:Int->Int):Nat->List kA->Option (List kA)
 | 0,_=>none
 | _+1,[]=>none
 | h+1,(n,i)::C=>match iq D k v M pick step h C with
  | some u=>some ((n,i)::u)
  | none=>if 0<=step i/\step i<n.J9.length then (iz D k v M pick (h+1) (n.J9.getD (step i).toNat 0)).map ((n,step i)::·) else none
def kc:Nat->List kA->Prop
 | 0,C=>∃u:fP,C=[(eh u,(u.length:Int))]
 | _+1,[]=>False
 | h+1,_::E=>kc h E
def quJ:∀ {h:Nat} {G:List kA} {T:fP},l9 D M k v frm h G T->kc h G->(iq D k v M (λn=>jN n frm) (λi=>i+1) h G=none/\T=[])\/∃I,iq D k v M (λn=>jN n frm) (λi=>i+1) h G=some I/\l9 D M k v frm h I T
 | 0,G,T,⟨U,i,e,hi,hs,J⟩,⟨R,e'⟩=>by rw[e] at e';have e1:=(vA (vB e').1);have e2:dQ U=dQ R:=H9 dM.J6 e1.1;have e3:=H9 List.length e2;rw[zK,zK] at e3;have e4:=Int.ofNat.inj e1.2;exact .inl ⟨rfl,by rw[J];exact vD oJ⟩
 | h+1,G,T,⟨E,i,up,T1,e,hi,V,hu,J⟩,u=>by
  subst e;have u:kc h up:=u;rcases quJ hu u with ⟨h1,rfl⟩|⟨ab,h1,h2⟩;have ac:(dN E).J9.length=E.length:=(by show (E.map (·.2.x5)).length=_;rw[zK]);have ej:((i:Int)+1).toNat=i+1:=oJ;unfold iq;rw[h1];dsimp only;rw[ac,ej];by_cases hlt:i+1<E.length;rw[iP ⟨oJ,oJ⟩];have ad:(dN E).J9.getD (i+1) 0=E[i+1].2.x5:=by show (E.map (·.2.x5)).getD _ 0=_;rw[yQ,zQ,zA hlt];rfl
  have C:E.drop (i+1)=E[i+1]::E.drop (i+2):=zX hlt;obtain⟨q1,q2⟩:=V E[i+1] (by rw[C];exact HQ ..);obtain⟨ae,p1,p2⟩:=Fw (frm:=frm) q1;rw[E6 q2] at p2;rw[ad,p1];refine .inr ⟨_,rfl,E,i+1,ae,_,rfl,hlt,λe he=>V e (by rw[C];exact zN _ he),p2,?_⟩;rw[J,xH,C,yG];rw[iN];exact .inl ⟨rfl,by rw[J,vD oJ];rfl⟩;unfold iq;rw[h1];exact .inr ⟨_,rfl,E,i,ab,T1,rfl,hi,V,h2,J⟩
end
end
section
section
variable {D:dJ} {M:dV} {k v:Nat} {to:Key}
def ip (n:dM) (to:Key):Int:=if n.Q4 then (eu n.J6 to:Int)-1 else eu n.J6 to
def mh (D:dJ) (M:dV) (k v:Nat) (to:Key):Nat->List kA->fP->Prop
 | 0,E,T=>∃(u:fP) (i:Nat),E=[(eh u,(i:Int)-1)]/\i<=u.length/\fg u/\T=(u.take i).reverse
 | h+1,E,T=>∃(C:List gJ) (i:Nat) (G:List kA) (T1:fP),E=(dN C,(i:Int))::G/\i<C.length/\(∀e∈C.take i,Has D M k v h e.2/\∀x∈e.2.y3,¬fK to x.1)/\mh D M k v to h G T1/\T=T1++((C.take i).flatMap (·.2.y3)).reverse
noncomputable def ut (to:Key) (L:fP):fP:=L.filter λx=>decide (¬fK to x.1)
def GF(h:∀x∈L,¬fK to x.1):ut to L=L:=filter_eq_self.2 λx u=>zZ (h x u)
def qtg(h:∀x∈L,fK to x.1):ut to L=[]:=filter_eq_nil_iff.2 λx u=>by simpa using h x u
def Gi{A B:fP}:ut to (A++B)=ut to A++ut to B:=xB ..
def qqw{l:fP}{k:Key}(u:fg l):(∀x∈l.take (eu (dQ l) k),lO x.1 k)/\∀x∈l.drop (eu (dQ l) k),fK k x.1:=by refine⟨λx h=>qof (l:=dQ l) ?_,λx h=>qmo (l:=dQ l) u ?_⟩;rw[<- xO];exact zY h;rw[<- xP];exact zY h
def GL:∀ {h:Nat} {s:ia},Has D M k v h s->∃fs,iz D k v M (λn=>ip n to) (h+1) s.x5=some fs/\mh D M k v to h fs (ut to s.y3).reverse
 | 0,s,hs=>by
  obtain⟨h1,h2,h3,h4⟩:=hs;have hl:dK D M k v s.x5=(eh s.y3,0):=h3.load h4;have ae:fg s.y3:=h3.right.2.2.1;have af:=zo (dQ s.y3) to;rw[zK] at af;have ag:=qqw (k:=to) ae;unfold iz;rw[hl,iN λh=>h rfl,iP (show (eh s.y3).Q4=true from rfl)];refine⟨_,rfl,s.y3,eu (dQ s.y3) to,?_,af,ae,?_⟩;show [(eh s.y3,ip (eh s.y3) to)]=_;rw[ip,iP (show (eh s.y3).Q4=true from rfl)];rfl
  ·congr 1;conv=>lhs;rw[<- xD (eu (dQ s.y3) to) s.y3]
   rw[Gi,qtg ag.2,xG,GF λx E=>ag.1 x E]
 | h+1,⟨p,n,L,P⟩,⟨u,h0,h1,h2,h3,h4,h5,h6,h7⟩=>by
  dsimp only at h1 h2 h3 h5;subst h1 h2 h3;have hl:dK D M k v p=(dN u,0):=h4.load h5;obtain⟨A,e,B,C,hA,am,an,U⟩:=uF (key:=to) h0 h6;have V:(dN u).J9.getD (eu (dN u).J6 to) 0=e.2.x5:=U;have aa:eu (dN u).J6 to=A.length:=hA.symm;have ao:e∈u:=(by rw[C];simp);obtain⟨ap,_⟩:=h7 e ao;have J:=h6;rw[C] at J;have G:=J.mid;obtain⟨fs,e1,e2⟩:=GL ap;have ah:ip (dN u) to=(A.length:Int):=by rw[ip,iN (show ¬(dN u).Q4=true from λe=>nomatch e),aa]
  unfold iz;rw[hl,iN λh=>h rfl,iN (show ¬(dN u).Q4=true from λe=>nomatch e)];show ∃fs,Option.map (((dN u),ip (dN u) to)::·) (iz D k v M (λn=>ip n to) (h+1) ((dN u).J9.getD (ip (dN u) to).toNat 0))=some fs/\_;rw[ah,zJ,<- aa,V,e1,aa];have I:u.take A.length=A:=(by rw[C];simp);have R:∀a∈A,∀x∈a.2.y3,¬fK to x.1:=λa ha x E g=>am (pw g (G.1 a ha x E));refine⟨_,rfl,u,A.length,fs,_,rfl,by rw[C];simp,λb hb=>?_,e2,?_⟩;rw[I] at hb;exact⟨(h7 b (by rw[C];simp[hb])).1,R b hb⟩
  ·rw[I];show (ut to (u.flatMap (·.2.y3))).reverse=_;conv=>lhs;rw[C]
   rw[yP,yG,Gi,Gi,qtg (L:=B.flatMap _) λx E=>?_,xG,GF (L:=A.flatMap _) λx E=>?_,reverse_append];obtain⟨a,ha,E⟩:=yJ.1 E;exact R a ha x E;obtain⟨b,hb,E⟩:=yJ.1 E;exact rg (an b hb) ((G.2 b hb).2.2 x E)
end
end
section
section
variable {D:dJ} {M:dV} {k v:Nat} {to:Key}
def kj:Nat->List kA->Prop
 | 0,C=>∃u:fP,C=[(eh u,-1)]
 | _+1,[]=>False
 | h+1,_::E=>kj h E
def qqE:∀ {h:Nat} {I:List kA} {T:fP},mh D M k v to h I T->kj h I->(iq D k v M (λn=>ip n to) (λi=>i-1) h I=none/\T=[])\/∃J,iq D k v M (λn=>ip n to) (λi=>i-1) h I=some J/\mh D M k v to h J T
 | 0,I,T,⟨aj,i,e,hi,hs,R⟩,⟨ag,e'⟩=>by rw[e] at e';have e1:=(vA (vB e').1);have e4:(i:Int)-1=-1:=e1.2;have e5:i=0:=oJ;subst e5;exact .inl ⟨rfl,by rw[R];rfl⟩
 | h+1,I,T,⟨E,i,up,T1,e,hi,U,hu,R⟩,u=>by
  subst e;have u:kj h up:=u;rcases qqE hu u with ⟨V,rfl⟩|⟨aa,V,h2⟩;have ab:(dN E).J9.length=E.length:=(by show (E.map (·.2.x5)).length=_;rw[zK]);unfold iq;rw[V];dsimp only;rw[ab];cases i with
  | zero=>
   rw[iN];exact .inl ⟨rfl,by rw[R];rfl⟩
  | succ i=>
   have ej:(((i+1:Nat):Int)-1).toNat=i:=oJ;have ac:((i+1:Nat):Int)-1=(i:Int):=oJ;have G:i<E.length:=oJ;rw[ej,iP ⟨oJ,oJ⟩,ac];have ad:(dN E).J9.getD i 0=E[i].2.x5:=(by show (E.map (·.2.x5)).getD _ 0=_;rw[yQ,zQ,zA G];rfl);have C:E.take (i+1)=E.take i++[E[i]]:=yF G;obtain⟨q1,q2⟩:=U E[i] (by rw[C];exact zI _ (HQ ..));obtain⟨ae,p1,p2⟩:=GL (to:=to) q1;rw[GF q2] at p2;rw[ad,p1];refine .inr ⟨_,rfl,E,i,ae,_,rfl,G,λe he=>U e (by rw[C];exact zH _ he),p2,?_⟩;rw[R,xH,C,yP,reverse_append,yG,flatMap_nil,xG]
  unfold iq;rw[V];exact .inr ⟨_,rfl,E,i,aa,T1,rfl,hi,U,h2,R⟩
end
end
section
section
variable {D:dJ} {M:dV} {k v:Nat} {frm to:Key}
def quQ:∀ {h:Nat} {C:List kA} {T:fP},l9 D M k v frm h C T->kc h C\/∃(u:fP) (i:Nat) (lo:List kA) (hi:i<u.length) (T':fP),C=lo++[(eh u,(i:Int))]/\T=u[i]::T'/\l9 D M k v frm h (lo++[(eh u,(i:Int)+1)]) T'
 | 0,C,T,⟨u,i,e,hi,I,E⟩=>by by_cases hlt:i<u.length;exact .inr ⟨u,i,[],hlt,u.drop (i+1),e,by rw[E,zX hlt],u,i+1,rfl,hlt,I,rfl⟩;have:i=u.length:=oJ;subst this;exact .inl ⟨u,e⟩
 | h+1,C,T,⟨G,i,up,T1,e,hi,J,R,E⟩=>by subst e;rcases quQ R with U|⟨u,j,lo,V,T',e1,e2,e3⟩;exact .inl U;refine .inr ⟨u,j,(dN G,(i:Int))::lo,V,T'++(G.drop (i+1)).flatMap (·.2.y3),by rw[e1];rfl,by rw[E,e2];rfl,G,i,_,T',rfl,hi,J,e3,rfl⟩
def qq7:∀ {h:Nat} {C:List kA} {T:fP},mh D M k v to h C T->kj h C\/∃(u:fP) (i:Nat) (lo:List kA) (hi:i<u.length) (T':fP),C=lo++[(eh u,(i:Int))]/\T=u[i]::T'/\mh D M k v to h (lo++[(eh u,(i:Int)-1)]) T'
 | 0,C,T,⟨u,i,e,hi,J,G⟩=>by
  cases i with
  | zero=>exact .inl ⟨u,e⟩
  | succ i=>
   have E:i<u.length:=oJ;have e0:((i+1:Nat):Int)-1=(i:Int):=oJ;rw[e0] at e;exact .inr ⟨u,i,[],E,(u.take i).reverse,e,by rw[G,yF E,reverse_append];rfl,u,i,rfl,oJ,J,rfl⟩
 | h+1,C,T,⟨I,i,up,T1,e,hi,R,U,G⟩=>by subst e;rcases qq7 U with V|⟨u,j,lo,hj,T',e1,e2,e3⟩;exact .inl V;refine .inr ⟨u,j,(dN I,(i:Int))::lo,hj,T'++((I.take i).flatMap (·.2.y3)).reverse,by rw[e1];rfl,by rw[G,e2];rfl,I,i,_,T',rfl,hi,R,e3,rfl⟩
end
end
section
section
variable {D:dJ} {M:dV} {k v:Nat} {frm to:Key}
def qsl:∀ {h:Nat} {s:ia} {R:List kA},Has D M k v h s->(∀x∈s.y3,¬fK x.1 frm)->iz D k v M (λn=>jN n frm) (h+1) s.x5=some R->¬kc h R
 | 0,s,R,hs,u,C=>by have ad:=hs.ne;obtain⟨h1,h2,U,h4⟩:=hs;have hl:dK D M k v s.x5=(eh s.y3,0):=U.load h4;have ai:=zg (k:=frm) U.right.2.2.1;unfold iz at C;rw[hl,iN λh=>h rfl,iP (show (eh s.y3).Q4=true from rfl)] at C;have C:=yN C;rintro⟨G,e⟩;rw[<- C] at e;have e1:=(vA (vB e).1);have e2:dQ s.y3=dQ G:=H9 dM.J6 e1.1;have e3:=H9 List.length e2;rw[zK,zK] at e3;have e4:jN (eh s.y3) frm=(G.length:Int):=e1.2;rw[jN,iP (show (eh s.y3).Q4=true from rfl)] at e4;have e5:dO (dQ s.y3) frm=G.length:=Int.ofNat.inj e4;obtain⟨x,r,hx⟩:=exists_cons_of_ne_nil ad;refine u x (by rw[hx];exact HQ ..) (ai.1 x ?_);rw[e5,zS oJ,hx];exact HQ ..
 | h+1,⟨p,n,L,P⟩,R,⟨E,h0,h1,h2,U,h4,h5,h6,h7⟩,u,C=>by
  dsimp only at h1 h2 U h5 u C;subst h1 h2 U;have hl:dK D M k v p=(dN E,0):=h4.load h5;obtain⟨A,e,B,aj,hA,ay,az,I⟩:=uF (key:=frm) h0 h6;have J:(dN E).J9.getD (eu (dN E).J6 frm) 0=e.2.x5:=I;have V:eu (dN E).J6 frm=A.length:=hA.symm;have aa:e∈E:=(by rw[aj];simp);obtain⟨ak,_⟩:=h7 e aa;have ab:jN (dN E) frm=(A.length:Int):=by rw[jN,iN (show ¬(dN E).Q4=true from λe=>nomatch e),V]
  unfold iz at C;rw[hl,iN λh=>h rfl,iN (show ¬(dN E).Q4=true from λe=>nomatch e)] at C;have C:Option.map (((dN E),jN (dN E) frm)::·) (iz D k v M (λn=>jN n frm) (h+1) ((dN E).J9.getD (jN (dN E) frm).toNat 0))=some R:=C;rw[ab,zJ,<- V,J] at C;obtain⟨al,e1,rfl⟩:=yS.1 C;show ¬kc h al;exact qsl ak (λx hx=>u x (yJ.2 ⟨e,aa,hx⟩)) e1
end
end
section
section
variable {D:dJ} {M:dV} {k v:Nat} {frm to:Key}
def qn6:∀ {h:Nat} {s:ia} {J:List kA},Has D M k v h s->(∀x∈s.y3,¬fK to x.1)->iz D k v M (λn=>ip n to) (h+1) s.x5=some J->¬kj h J
 | 0,s,J,hs,u,C=>by
  have ac:=hs.ne;obtain⟨h1,h2,R,h4⟩:=hs;have hl:dK D M k v s.x5=(eh s.y3,0):=R.load h4;have ah:=qqw (k:=to) R.right.2.2.1;unfold iz at C;rw[hl,iN λh=>h rfl,iP (show (eh s.y3).Q4=true from rfl)] at C;have C:=yN C;rintro⟨ao,e⟩;rw[<- C] at e;have e1:=(vA (vB e).1);have e4:ip (eh s.y3) to=-1:=e1.2;rw[ip,iP (show (eh s.y3).Q4=true from rfl)] at e4;have e5:eu (dQ s.y3) to=0:=by have e6:((eu (dQ s.y3) to:Nat):Int)-1=-1:=e4;omega
  obtain⟨x,r,hx⟩:=exists_cons_of_ne_nil ac;refine u x (by rw[hx];exact HQ ..) (ah.2 x ?_);rw[e5,xE,hx];exact HQ ..
 | h+1,⟨p,n,L,P⟩,J,⟨E,h0,h1,h2,R,h4,h5,h6,h7⟩,u,C=>by
  dsimp only at h1 h2 R h5 u C;subst h1 h2 R;have hl:dK D M k v p=(dN E,0):=h4.load h5;obtain⟨A,e,B,ai,hA,aw,ax,G⟩:=uF (key:=to) h0 h6;have I:(dN E).J9.getD (eu (dN E).J6 to) 0=e.2.x5:=G;have U:eu (dN E).J6 to=A.length:=hA.symm;have V:e∈E:=(by rw[ai];simp);obtain⟨aj,_⟩:=h7 e V;have aa:ip (dN E) to=(A.length:Int):=by rw[ip,iN (show ¬(dN E).Q4=true from λe=>nomatch e),U]
  unfold iz at C;rw[hl,iN λh=>h rfl,iN (show ¬(dN E).Q4=true from λe=>nomatch e)] at C;have C:Option.map (((dN E),ip (dN E) to)::·) (iz D k v M (λn=>ip n to) (h+1) ((dN E).J9.getD (ip (dN E) to).toNat 0))=some J:=C;rw[aa,zJ,<- U,I] at C;obtain⟨ak,e1,rfl⟩:=yS.1 C;show ¬kj h ak;exact qn6 aj (λx hx=>u x (yJ.2 ⟨e,V,hx⟩)) e1
end
end
section
section
variable {D:dJ} {M:dV} {k v:Nat} {frm to:Key} {pick:dM->Int} {step:Int->Int}
def qjy:∀ {h:Nat} {R I:List kA} {T:fP},l9 D M k v frm h R T->kc h R->iq D k v M (λn=>jN n frm) (λi=>i+1) h R=some I->¬kc h I
 | 0,_,_,_,_,_,h=>nomatch h
 | h+1,R,I,T,⟨C,i,up,T1,e,hi,hd,hu,hT⟩,u,E=>by
  subst e;have u:kc h up:=u;unfold iq at E;cases e1:iq D k v M (λn=>jN n frm) (λi=>i+1) h up with
  | some U=>
   rw[e1] at E;cases E;show ¬kc h U;exact qjy hu u e1
  | none=>
   rw[e1] at E;dsimp only at E;split at E;rename_i G;have V:(dN C).J9.length=C.length:=(by show (C.map (·.2.x5)).length=_;rw[zK]);have ej:((i:Int)+1).toNat=i+1:=oJ;rw[V] at G;rw[ej] at E;have G:i+1<C.length:=oJ;have aa:(dN C).J9.getD (i+1) 0=C[i+1].2.x5:=by show (C.map (·.2.x5)).getD _ 0=_;rw[yQ,zQ,zA G];rfl
   have J:C.drop (i+1)=C[i+1]::C.drop (i+2):=zX G;obtain⟨q1,q2⟩:=hd C[i+1] (by rw[J];exact HQ ..);obtain⟨ab,e2,rfl⟩:=yS.1 E;show ¬kc h ab;exact qsl q1 q2 (by rw[<- aa];exact e2);cases E
def qg0:∀ {h:Nat} {R G:List kA} {T:fP},mh D M k v to h R T->kj h R->iq D k v M (λn=>ip n to) (λi=>i-1) h R=some G->¬kj h G
 | 0,_,_,_,_,_,h=>nomatch h
 | h+1,R,G,T,⟨E,i,up,T1,e,hi,hd,hu,hT⟩,u,C=>by
  subst e;have u:kj h up:=u;unfold iq at C;cases e1:iq D k v M (λn=>ip n to) (λi=>i-1) h up with
  | some U=>
   rw[e1] at C;cases C;show ¬kj h U;exact qg0 hu u e1
  | none=>
   rw[e1] at C;dsimp only at C;split at C;rename_i I;obtain⟨i,rfl⟩:∃j,i=j+1:=⟨i-1,oJ⟩;have ej:(((i+1:Nat):Int)-1).toNat=i:=oJ;rw[ej] at C;have I:i<E.length:=oJ;have V:(dN E).J9.getD i 0=E[i].2.x5:=by show (E.map (·.2.x5)).getD _ 0=_;rw[yQ,zQ,zA I];rfl
   have J:E.take (i+1)=E.take i++[E[i]]:=yF I;obtain⟨q1,q2⟩:=hd E[i] (by rw[J];exact zI _ (HQ ..));obtain⟨aa,e2,rfl⟩:=yS.1 C;show ¬kj h aa;exact qn6 q1 q2 (by rw[<- V];exact e2);cases C
def Path (D:dJ) (M:dV) (k v:Nat) (step:Int->Int):Nat->List kA->Prop
 | 0,E=>∃(u:fP) (i:Int),E=[(eh u,i)]/\-1<=i/\i<=u.length
 | h+1,E=>∃(C:List gJ) (i:Int) (G:List kA),E=(dN C,i)::G/\0<=i/\i<C.length/\(∀j:Nat,step i=j->∀I:j<C.length,Has D M k v h C[j].2)/\Path D M k v step h G
def l9.path:∀ {h:Nat} {u:List kA} {T:fP},l9 D M k v frm h u T->Path D M k v (λi=>i+1) h u
 | 0,u,T,⟨E,i,e,G,hs,I⟩=>⟨E,i,e,oJ,oJ⟩
 | h+1,u,T,⟨J,i,R,T1,e,G,U,V,I⟩=>⟨J,i,R,e,oJ,oJ,λj C hj=>by have C:(i:Int)+1=j:=C;have C:j=i+1:=oJ;subst C;exact (U _ (by rw[zX hj];exact HQ ..)).1,V.path⟩
def mh.path:∀ {h:Nat} {u:List kA} {T:fP},mh D M k v to h u T->Path D M k v (λi=>i-1) h u
 | 0,u,T,⟨E,i,e,G,hs,I⟩=>⟨E,_,e,oJ,oJ⟩
 | h+1,u,T,⟨J,i,R,T1,e,G,U,V,I⟩=>⟨J,i,R,e,oJ,oJ,λj C hj=>by have C:(i:Int)-1=j:=C;have C:i=j+1:=oJ;subst C;exact (U _ (by rw[yF hj];exact zI _ (HQ ..))).1,V.path⟩
def Path.len:∀ {h:Nat} {u:List kA},Path D M k v step h u->u.length=h+1
 | 0,_,⟨_,_,e,_⟩=>by rw[e];rfl
 | h+1,_,⟨_,_,E,e,_,_,_,C⟩=>by rw[e,yH,C.len]
def Path.drop:∀ {pre u:List kA} {h:Nat},Path D M k v step (pre.length+h) (pre++u)->Path D M k v step h u
 | [],_,_,h=>by rw[xJ,xR] at h;exact h
 | x::pre,u,n,h=>by have e:(x::pre).length+n=(pre.length+n)+1:=(by rw[yH];omega);rw[e] at h;obtain⟨E,i,G,e1,_,_,_,C⟩:=h;rw[(vB e1).2.symm] at C;exact C.drop
noncomputable def tC (D:dJ) (k v:Nat) (M:dV) (pick:dM->Int) (step:Int->Int) (h:Nat) (x:kA):Option (List kA):=
 if 0<=step x.2/\step x.2<x.1.J9.length then (iz D k v M pick (h+1) (x.1.J9.getD (step x.2).toNat 0)).map ((x.1,step x.2)::·) else none
def qvQ{h:Nat}{x:kA}{u:List kA}(e:iq D k v M pick step h u=none):iq D k v M pick step (h+1) (x::u)=tC D k v M pick step h x:=by obtain⟨n,i⟩:=x;unfold iq;rw[e];rfl
def qqD:∀ {pre u r:List kA} {h:Nat},iq D k v M pick step h u=some r->iq D k v M pick step (pre.length+h) (pre++u)=some (pre++r)
 | [],u,r,h,e=>by rw[xJ,xR];exact e
 | (n,i)::pre,u,r,h,e=>by have e1:((n,i)::pre).length+h=(pre.length+h)+1:=(by rw[yH];omega);rw[e1,xI];unfold iq;rw[qqD (pre:=pre) e];rfl
def qyP{h:Nat}{s:ia}(hs:Has D M k v (h+1) s):∃u:List gJ,dK D M k v s.x5=(dN u,0)/\∃hj:eu (dN u).J6 key<u.length,(dN u).J9.getD (eu (dN u).J6 key) 0=u[eu (dN u).J6 key].2.x5/\Has D M k v h u[eu (dN u).J6 key].2:=by obtain⟨p,n,L,P⟩:=s;obtain⟨u,h0,J,R,U,h4,V,h6,h7⟩:=hs;dsimp only at J R U V;subst J R U;refine⟨u,h4.load V,?_⟩;obtain⟨A,e,B,E,hA,ag,ah,G⟩:=uF (key:=key) h0 h6;have I:eu (dN u).J6 key=A.length:=hA.symm;have C:eu (dN u).J6 key<u.length:=(by rw[I,E];simp);refine⟨C,?_,(h7 _ (zW C)).1⟩;show (u.map (·.2.x5)).getD _ 0=_;rw[yQ,zQ,zA C];rfl
end
end
end
section
open Go Go.Pt List
open Go.IntKind (wrap)
open Classical
variable {K:IC->WP}
def qxq{w:Ic}{n:Nat}(Y:Ik)(I:∀b∈Y,b<w.heap.size)(hY:HG∉Y)(hv:Hv w)(h8:8<=n)(h4:n<=4096)(hk:∀dbk pb FD F D w',TW dbk pb FD D 5000 w' Y F (ki n)->Made D n->Fr [] w w'->(∀b∈FD++F,w.heap.size<=b)->K (pW dbk,pW pb) w'): cW 62 [.i n] dz w K:=by
 refine qhL<|qzA (λh=>oJ) λ_ _ dbk FD w1 d1 V n1=>?_;rw[zJ] at d1;obtain⟨D',e1,q1,s1,ac,o1,z1⟩:=qsk (qvP n) (qxw n) h8 h4;have J:=hv.q7 V;have hg:HG∉FD:=λhm=>by have:=n1 _ hm;have:=hv.lt;omega
 have ar:(mS n).Q6.length=n:=(by simp[mS]);refine gP (λb w'=>b=false/\∃F',DS dbk w1 FD w' F' D' (0+5000)) ?_ ?_;refine HM rfl (HM rfl ?_);refine qu8 d1 (lK.new h4) oM oJ J hg λw' F' d'=>?_;rw[e1] at d'⊢;exact⟨rfl,F',d'⟩;rintro b w2 ⟨rfl,F2,C⟩;refine HM rfl ?_;have E:∀b∈F2,w.heap.size<=b:=λb u=>by rcases C.nw b u with h|h;exact n1 b h;exact zL V.size h
 have R:=o1.open;have G:=(C.hv J hg).1;have U:w.heap.size<=w2.heap.size:=zL V.size C.fr.size;refine qwt (F2++HG::Y) (λb u=>?_) C.at_ C.lim.ok G (λh=>by rw[R] at h;cases h) λpb F M w3 hM hp f3 n3=>?_;rcases zD.1 u with u|u;exact C.at_.lt b u;rcases zG.1 u with rfl|u;exact G.lt;exact yC (I b u) U;rw[R] at hM;cases hM;refine HM rfl<|hk dbk pb F2 F D' w3 ⟨C.at_.q7 f3,C.lim,hp,G.q7 f3,qAf h8 h4,λb u=>⟨λhm=>?_,λe=>hY (e▸u)⟩⟩ ⟨q1,s1,ac,o1,e1,z1⟩ ((V.j8 C.fr λb u=>.inr (n1 b u)).j8 f3 oL) λb u=>?_
 have:=E b hm;have:=I b u;omega;rcases zD.1 u with u|u;exact E b u;exact zL U (n3 b u)
def AM (x:Key×Key):List Ie:=[.string (Ca x.1),.string (Ca x.2)]
def eU.none{α:Type}{enc:α->List Ie}{k:Nat}{w:Ic}{b:Nat}{T:If}(h:w.heap[b]?=some (.c #[] T)):eU enc k w ⟨pW b,0,0⟩ [] [b]:=
 .inr ⟨b,0,#[],T,rfl,rfl,rfl,h,rfl,zM _,oL,oL⟩
end
section
open Go Go.Pt List
open Go.IntKind (wrap)
open Classical
end
section
open Go Go.Pt List
open Go.IntKind (wrap)
open Classical
structure HiI (k v c:Nat) (t:Int) (w0 w:Ic) (s:Sl) (m:Nat) (dbk pb:Nat) (FD:Ik) (D:dJ) (F:Ik) (M:dV) (P:Il) (L:fP) (B:Ik):Prop where
 tw:TW dbk pb FD D 5000 w [] F M
 HB:xn D M k v c t L P
 ue:eU AM 2 w s L B
 len:L.length<=m
 fr:Fr [] w0 w
 new:∀ b∈FD++F,w0.heap.size<=b
 J3:∀ b∈B,b∉F
section
variable {k v c:Nat} {t:Int} {w0 w:Ic} {s:Sl} {m:Nat} {dbk pb:Nat} {FD F B:Ik} {D:dJ} {M:dV} {P:Il} {L:fP}
end
end
section
open Go Go.Pt List
open Go.IntKind (wrap)
open Classical
end
section
open Go Go.Pt List
open Go.IntKind (wrap)
open Classical
variable {B S:Ik} {K:Sl->WP} {L:Ip} {T:If} {a:HL iJ} {cs:Array Ie} {ids:List je} {l u:Il} {m r:Nat} {n:Int} {s t:Sl} {w w0:Ic} {x:je}
def Dj:∀ {k i:Nat} {n:Int},i<k->(bw k n)[i]?=some (n / 256^(k-1-i)%256)
 | k+1,i,n,h=>by rw[bw];by_cases hi:i<k;rw[yY (by rw[ll];exact hi),Dj hi,Int.ediv_ediv_of_nonneg oM,show k+1-1-i=(k-1-i)+1 by omega,Int.pow_succ,Int.mul_comm];have:i=k:=oJ;subst this;rw[yX (by rw[ll];exact zM _),ll,Nat.sub_self,show i+1-1-i=0 by omega,Int.pow_zero,Int.ediv_one];rfl
def Hs{i:Nat}(h:8*i<=m):wrap .u8 (Int.fdiv n (2^min (8*i) m))=n / 256^i%256:=by rw[Aq,xQ h,Int.fdiv_eq_ediv_of_nonneg _ (Int.le_of_lt (Int.pow_pos oM)),Int.pow_mul];rfl
def qnM{j:Nat}{x:Int}:dS (fS l) j [.b x]=fS (l.set j x):=by rw[dS,dS];apply Array.ext';rw[Array.toList_setIfInBounds];show (fS _).toList.set _ _=(fS _).toList;unfold fS;simp only[toList_toArray];rw[<- map_set]
def kI (w w':Ic) (s:Sl) (l:Il):Prop:=en (List.range w.heap.size) w' s l
section
variable {w w1 w2 w':Ic} {s:Sl} {l:Il} {S:Ik}
def kI.q7(h:kI w w' s l)(f:Fr [] w' w2):kI w w2 s l:=ee.q7 h f
def kI.to(h:kI w w' s l)(u:∀b∈S,b<w.heap.size):en S w' s l:=ee.j6 h λb C=>.inl (mem_range.2 (u b C))
def kI.up(h:kI w1 w' s l)(f:w.heap.size<=w1.heap.size):kI w w' s l:=h.to λb u=>yC (mem_range.1 u) f
def kI.rd(h:kI w w' s l):en [] w' s l:=h.to λ_ h=>nomatch h
def CT{b o n cap:Nat}{L:Il}{u:Iu}(I:w.heap.size<=b)(C:w'.heap[b]?=some (.cells (fS L) T u))(E:o+n<=L.length)(G:n<=cap)(e:(L.drop o).take n=l):kI w w' ⟨some (dg b o),n,cap⟩ l:=by rw[<- e];exact vR C E G λh=>by have:=mem_range.1 h;omega
def vV(h:fR w' s l B)(u:∀b∈B,w.heap.size<=b):kI w w' s l:=h.jz lc λb C h=>by have:=mem_range.1 h;have:=u b C;omega
def Ck{b o n:Nat}{a:Sl}{ys:Il}(h:en [] w ⟨some (dg b o),n,n⟩ l)(V:en [] w a ys)(hy:0<ys.length)(hl:l.length+ys.length<=1000000)(kk:∀s' B w',fR w' s' (l++ys) B->Fr [] w w'->(∀b∈B,w.heap.size<=b)->K s' w'): Pt.run dh ((Builtin.append_ #[101,101] 101 #[.slice (some (dg b o)) n n,a.v]).run prog w) K:=by
 obtain⟨i,hi,hz,E,G⟩:=uE;have I:=V.1;have C:n=l.length:=h.1;have hc:=h.cells lc rfl;refine quc (m:=a.len) (e:=5) (olds:=l.map (Value.int .u8)) (news:=ys.map (Value.int .u8)) oK hi hz E rfl (by rw[zK,C]) (λj u hj=>?_) ?_ oJ (by rw[G];omega) oJ λb' cs c w' eb J f R U ht=>?_;rw[<- rm] at hj;exact hc j u hj;have:=ui (P:=prog) (tx:=101) (e':=5) V lc (λx u hu=>by rw[zE.1 hu];rfl) oK;rw[rm] at this;exact this;refine kk _ [b'] w' (eU.one (e:=Value.int .u8) (λ_=>rfl) J (by rw[zF];omega) R U ?_) f λb J=>by rw[zE.1 J,eb];exact zM _
 rw[zF,<- C,<- I,ht,xM]
end
def qAJ{K:Io->WP}(u:∀w',Fr [] w w'->K (0,n) w'):cW 98 [.w n] [.agg df] w K:=by exact qwj<|oB (oE [] w) λr w1 e1 C h=>h.sz 0 rfl #[.w 0,.w n] λw2 h _=>Ij h 0 rfl (0,n)<|u w2 h.fr
def FW{a0 C:Int}(R:∀r w',kI w w' ⟨pW r,16,16⟩ (iH (a0,C))->Fr [] w w'->w'.heap[r]?=some (.c (fS (iH (a0,C))) 5)->w.heap.size<=r->K ⟨pW r,16,16⟩ w'): cW 97 [de a0 C] dh w K:=by
 refine qry<|oB (oE [] w) λU w1 e1 V h=>dR.mkN h rfl oM oM oM oM λr w2 e2 h=>?_;have I:w.heap.size<=r:=(by have:=V.size;omega);refine iX (λx w'=>∃j:Nat,∃l:Il,x=j/\j<=8/\l.length=16/\dR [] w w' [(r,.c (fS l) 5),(U,.c #[.w a0,.w C] 39)]/\∀i<j,l[i]?=(bw 8 a0)[i]?/\l[8+i]?=(bw 8 C)[i]?) (λx _=>8-x.toNat) ⟨0,zs 16,rfl,oM,rfl,h,λi h=>oJ⟩ ?_;rintro x w3 ⟨j,l,rfl,hj,hl,h,E⟩ X hX;apply cD<;>intro G;have u:j<8:=oJ;have e1:wrap .i64 (56-wrap .i64 (8*(j:Int)))=((8*(7-j):Nat):Int):=by rw[gi (8*(j:Int)) oJ,gi _ oJ];omega
 rw[e1,gi (8+(j:Int)) oJ,gi ((j:Int)+1) oJ,zJ];refine Ii h 1 rfl a0 (m8 oJ (ur oJ oJ ?_));rw[Hs (n:=a0) (i:=7-j) (m:=64) oJ];refine h.st' 0 rfl _ qnM rfl (by rw[yp];simp;omega) λw4 h _=>Ii h 1 rfl C (m8 oJ (ur oJ oJ ?_));rw[Hs (n:=C) (i:=7-j) (m:=64) oJ];refine h.st' 0 rfl _ qnM rfl (by rw[yp];simp;omega) λw5 h _=>hX _ _ ⟨j+1,_,rfl,u,by simpa using hl,h,λi ad=>?_⟩ oJ;rw[show (0+(j:Int).toNat*1)=j by omega,show (0+(8+(j:Int)).toNat*1)=8+j by omega];by_cases e:i=j;subst e;rw[Dj u,Dj u,show 8-1-i=7-i by omega];exact⟨by rw[List.getElem?_set_ne oJ,List.getElem?_set_self oJ],by rw[List.getElem?_set_self (by rw[xF];omega)]⟩;have:=E i oJ;exact⟨by rw[List.getElem?_set_ne oJ,List.getElem?_set_ne oJ];exact this.1,by rw[List.getElem?_set_ne oJ,List.getElem?_set_ne oJ];exact this.2⟩;have u:j=8:=oJ;subst u;have e:l=iH (a0,C):=by
  apply ext_getElem?;intro i;unfold iH;by_cases h8:i<8;rw[yY (by rw[ll];exact h8)];exact (E i h8).1;rw[yX (by rw[ll];omega),ll];by_cases h16:i<16;have:=(E (i-8) oJ).2;rwa[show 8+(i-8)=i by omega] at this;rw[yR oJ,yR (by rw[ll];omega)]
 subst e;have J:=h.at (i:=0) rfl;exact R r w3 (CT I J (by rw[mo];decide) oM (by rw[xE];exact zS (by rw[mo];decide))) h.fr J I
def vH{a0 u:Int}(E:∀r w',kI w w' ⟨pW r,16,16⟩ (iH (a0,u))->Fr [] w w'->K ⟨pW r,16,16⟩ w'): cW 55 [de a0 u] dh w K:=by exact qxi<|oB (oE [] w) λJ w1 e1 C h=>Ij h 0 rfl (a0,u)<|FW λr w2 G I _ _=>E r w2 (G.up C.size) (C.trans I)
def BK(u:∀r w',kI w w' ⟨some (dg r 8),8,8⟩ (bw 8 n)->Fr [] w w'->K ⟨some (dg r 8),8,8⟩ w'): cW 51 [.w n] dh w K:=by refine qsw<|qAJ λw1 h=>FW λr w2 I C E G=>Cv oM oM oM oM<|u r w2 (CT (zL h.size G) E (by rw[mo];decide) oM ?_) (h.trans C);rw[iH,drop_left' (ll _ _)];exact zS (by rw[ll];decide)
def DO{a0 u:Int}(E:∀s w',kI w w' s (kW (a0,u) n)->Fr [] w w'->K s w'): cW 38 [de a0 u,.w n] dh w K:=by refine qtL<|oB (oE [] w) λr1 w1 e1 f1 h=>Ij h 0 rfl (a0,u)<|qpk<|oB h λr2 w2 e2 f2 h=>Ij h 0 rfl (a0,u)<|rZ (lb:=[]) rfl oK (vH λr3 w3 G I=>?_);refine rZ (lb:=[]) rfl oK (BK λr4 w4 J C=>?_);refine Ck (G.q7 C).rd J.rd (by rw[ll];decide) (by rw[ll,mo];decide) λs B R U V n5=>?_;have f:=h.fr.trans (I.trans C);exact E s R (vV U λb hb=>zL f.size (n5 b hb)) (f.trans V)
def qt4{m:Int}(u:∀s w',kI w w' s (kQ n m)->Fr [] w w'->K s w'): cW 35 [.w n,.w m] dh w K:=by refine qvI<|qpj<|rZ (lb:=[]) rfl oK (BK λr3 w3 C E=>?_);refine rZ (lb:=[]) rfl oK (BK λr4 w4 G h=>?_);refine Ck (C.q7 h).rd G.rd (by rw[ll];decide) (by rw[ll,ll];decide) λs B I J R U=>?_;have f:=E.trans h;exact u s I (vV J λb V=>zL f.size (U b V)) (f.trans R)
def C9{j:Nat}(h:eI l)(u:j<l.length)(I:j<8):bits .or .u64 (wrap .u64 (og (l.take j)*2^8)) (wrap .u64 l[j])=og (l.take (j+1)):=by
 have J:=h l[j] (zW u);have R:=Dz (l:=l.take j) λy C=>h y (yU C);have E:(256:Int)^(l.take j).length<=256^7:=by
  have:((256^(l.take j).length:Nat):Int)<=((256^7:Nat):Int):=by
   have:=Nat.pow_le_pow_right (n:=256) oM (show (l.take j).length<=7 by rw[yK];omega);omega
  simpa using this
 have G:(256:Int)^7=72057594037927936:=oM;rw[G] at E;rw[yF u,qrY,ws l[j] oJ,ws _ oJ];rw[qqJ 8 oJ oJ oJ oJ oJ];omega
def qu7{K:Int->WP}(h:en S w s l)(J:eI l)(V:l.length<=8)(R:K (og l) w):cW 85 [s.v] dk w K:=by refine qri ?_;have G:=h.1;refine iX (λx w'=>w'=w/\∃i:Nat,x.2=i/\i<=l.length/\x.1=og (l.take i)) (λx _=>((l.length:Int)-x.2).toNat) ⟨rfl,0,rfl,oJ,rfl⟩ ?_;rintro⟨r,ii⟩ w' ⟨rfl,i,C,hi,I⟩ X U;simp only at C I;subst C I;apply cD<;>intro E;have u:i<l.length:=oJ;refine en.at h i rfl (zA u) ?_;rw[gi _ oJ,C9 J u oJ];exact U _ _ ⟨rfl,i+1,oL,oJ,rfl⟩ oN;have u:i=l.length:=oJ;subst u;rw[xY];exact R
section
abbrev BW:If:=39
abbrev jQ:je->List Ie:=λx=>[.w x.1,.w x.2]
def vO(x:je):(jQ x).length=2:=rfl
def qI{x:Int}(h:IntKind.u64.has x):nf x:=by have u:(0:Int)<=x/\x<=18446744073709551615:=h;exact⟨u.1,oJ⟩
def DL{w':Ic}{b:Nat}{o o':Obj}(h:dR S w0 w L)(i:Nat)(hi:L[i]?=some (b,o))(f:Fr [b] w w')(u:w'.heap[b]?=some o'):dR S w0 w' (L.set i (b,o')):=
 (h.gS (o':=o') i hi).q7 ⟨f.os,f.tape,f.output,by rw[tI];exact f.size,λj C _=>by
  rw[oV _ _ _ _ (eX (h.at hi))];split
  ·next e=>rw[e];exact u
  ·next e=>exact f.block j (by rwa[tI] at C) (oP e)⟩
def FL{b:Sl}{k:Nat}{E:Sl->WP}(h:fR w b l B)(hm:8*k<=m+8)(hl:l.length<=1000)(h8:k<=8)(kk:∀s B' w',fR w' s (l++bw k n) B'->Fr B w w'->(∀b∈B',b∈B\/w.heap.size<=b)->E s w'): loop (It) (λX t w3=>cond (decide (t.2>=0)) (gB (0<=wrap .i64 (8*t.2))<|Pt.new (.cells #[.b (wrap .u8 (Int.fdiv n (2^min (Int.toNat (wrap .i64 (8*t.2))) m)))] 5) w3 λr w5=>Pt.run dh ((Builtin.append_ #[101,101] 101 #[t.1.v,.slice (pW r) 1 1]).run prog w5) λs w7=>X (s,wrap .i64 (t.2-1)) w7) (E t.1 w3)) (b,wrap .i64 (k-1)) w:=by
 refine iX (λt w'=>∃j:Nat,∃B',t.2=(k:Int)-1-j/\j<=k/\fR w' t.1 (l++(bw k n).take j) B'/\Fr B w w'/\∀b∈B',b∈B\/w.heap.size<=b) (λt _=>(t.2+1).toNat) ⟨0,B,by dsimp only;rw[gi _ oJ];omega,yW _,by rw[take_zero,xG];exact h,.refl _ _,λ_ h=>.inl h⟩ ?_;rintro⟨s,x⟩ w1 ⟨j,B1,hx,hj,I,J,R⟩ X hX;dsimp only at hx I⊢;subst hx;apply dX<;>intro G;have G:=zC G;have C:j<k:=oJ;have e1:wrap .i64 (8*((k:Int)-1-j))=((8*(k-1-j):Nat):Int):=(by rw[gi _ oJ];omega);rw[e1,zJ,Hs oJ,gi _ oJ];obtain⟨i,hi,hz,U,V⟩:=uE;have ad:(l++(bw k n).take j).length<=1008:=(by rw[zF,yK];omega);refine m8 oJ (eU.push (e:=5) (x:=n / 256^(k-1-j)%256) I lc (λu hu=>by rw[zE.1 hu];rfl) oK hi hz U rfl rfl (by rw[V];omega) oJ λs2 B2 w2 b2 f2 n2=>?_);refine hX _ _ ⟨j+1,B2,by dsimp only;omega,C,?_,J.j8 f2 R,λb hb=>(n2 b hb).elim (R b) λh=>.inr (zL J.size h)⟩ oN;have:=Dj (n:=n) C;obtain⟨hb,e⟩:=zP.1 this;rw[yF hb,e,<- zV];exact b2;have G:=zB G;have C:j=k:=oJ;subst C;rw[zS (by rw[ll];exact zM _)] at I;exact kk _ B1 _ I J R
section
variable {w:Ic} {b s:Sl} {l:Il} {B:Ik} {n:Int} {K:Sl->WP}
def qAo(h:fR w b l B)(u:l.length<=1000)(C:∀s B' w',fR w' s (l++bw 2 n) B'->Fr B w w'->(∀b∈B',b∈B\/w.heap.size<=b)->K s w'):cW 135 [b.v,.int .u16 n,.i 2] dh w K:=
 qpC (FL h (k:=2) oM u oM C)
def qAp(h:fR w b l B)(C:l.length<=1000)(E:∀s B' w',fR w' s (l++bw 4 n) B'->Fr B w w'->(∀b∈B',b∈B\/w.heap.size<=b)->K s w'):cW 133 [b.v,.u n,.i 4] dh w K:=
 qpD (FL h (k:=4) oM C oM E)
def qAq(h:fR w b l B)(u:l.length<=1000)(C:∀s B' w',fR w' s (l++bw 8 n) B'->Fr B w w'->(∀b∈B',b∈B\/w.heap.size<=b)->K s w'):cW 134 [b.v,.w n,.i 8] dh w K:=
 qpE (FL h (k:=8) oM u oM C)
def CL:∀l:List je,(l.flatMap iH).length=16*l.length
 | []=>rfl
 | x::l=>by rw[yG,zF,mo,CL l,yH];omega
def qra{I:Sl->Il->WP}(hI:I b l w)(hf:∀s l w w',I s l w->Fr [] w w'->I s l w')(C:ee jQ 2 [] w t ids)(hl:ids.length<=5)(J:∀(i:Nat) s l' w1 (a:Sl) x (K:Sl->WP),i<ids.length->ids[i]?=some x->l'=l++(ids.take i).flatMap iH->I s l' w1->ee jQ 2 [] w1 t ids->en [] w1 a (iH x)->(∀R w2,I R (l'++iH x) w2->ee jQ 2 [] w2 t ids->K R w2)-> Pt.run dh ((Builtin.append_ #[101,101] 101 #[s.v,a.v]).run prog w1) K)(kk:∀s w',I s (l++ids.flatMap iH) w'->K s w'):cW 103 [b.v,t.v] dh w K:=by refine qoH ?_;have U:=C.1;refine iX (λq w'=>∃i:Nat,q.2=i/\i<=ids.length/\I q.1 (l++(ids.take i).flatMap iH) w'/\ee jQ 2 [] w' t ids) (λq _=>ids.length-q.2.toNat) ⟨0,rfl,yW _,by rw[take_zero,flatMap_nil,xG];exact hI,C⟩ ?_;rintro⟨s,x⟩ w1 ⟨i,V,hi,G,r1⟩ X hX;dsimp only at V G⊢;subst V;apply dX<;>intro E;have E:=zC E;have u:i<ids.length:=oJ;refine ee.rK (x:=ids[i]) (y:=ids[i]) r1 i rfl (zA u) rfl rfl<|oB (oE [] w1) λr w2 e2 f2 h=>h.sz 0 rfl #[.w ids[i].1,.w ids[i].2] λw3 h _=>Ij h 0 rfl (ids[i].1,ids[i].2)<|FW λr4 w4 h4 f4 _ _=>?_;have f:=h.fr.trans f4;refine J i _ _ _ ⟨pW r4,16,16⟩ ids[i] _ u (zA u) rfl (hf _ _ _ _ G f) (r1.q7 f) h4.rd λs5 w5 h5 r5=>?_;rw[gi _ oJ];refine hX _ _ ⟨i+1,rfl,u,?_,r5⟩ oN;rw[yF u,yP,<- zV,flatMap_singleton];exact h5;have E:=zB E;have u:i=ids.length:=oJ;subst u;rw[xY] at G;exact kk _ _ G
def qzq(u:ee jQ 2 [] w t ids)(V:ids.length<=5)(kk:∀s B' w',fR w' s (ids.flatMap iH) B'->Fr [] w w'->(∀b∈B',w.heap.size<=b)->K s w'): cW 103 [.slice none 0 0,t.v] dh w K:=by refine qra (b:=dH) (l:=[]) (I:=λs l w'=>∃B',fR w' s l B'/\Fr [] w w'/\∀b∈B',w.heap.size<=b) ⟨[],eU.nil _ _ _,.refl _ _,λ_ h=>nomatch h⟩ (λs l w1 w2 ⟨B',J,E,G⟩ f=>⟨B',J.q7 f,E.trans f,G⟩) u V (λi s l' w1 a x K hi _ R ⟨B1,J,E,G⟩ r1 ha k=>?_) λs w' ⟨B',b,f,n⟩=>kk s B' w' b f n;have:l'.length<=80:=(by rw[R,xH,CL,yK];omega);refine Ar J ha (by rw[mo];omega) λs2 B2 w2 b2 f2 n2=>?_;have C:Fr [] w w2:=E.j8 f2 λb U=>.inr (G b U);exact k s2 w2 ⟨B2,b2,C,λb U=>(n2 b U).elim (G b) (zL E.size)⟩ (u.q7 C)
end
def qBr{u:Nat}{C:Il}{K:Int->WP}(I:w.heap[r]?=some (.c #[s.v] T))(J:en S w s (l++C))(hS:r∈S)(hB:eI l)(hl:l.length=u)(h8:u<=8)(kk:∀V w',w'.heap[r]?=some (.c #[V.v] T)->en S w' V C->Fr [r] w w'->K (og l) w'):cW 120 [dG r,.i u] dk w K:=by subst hl;refine qhD<|fu (io I s rfl ?_);refine ee.part J 0 l.length rfl rfl (yW _) oL λs1 l1 r1 _=>?_;rw[xE,take_left' rfl] at r1;refine iX (λx w'=>w'=w/\∃i:Nat,x.2=i/\i<=l.length/\x.1=og (l.take i)) (λx _=>((l.length:Int)-x.2).toNat) ⟨rfl,0,rfl,oJ,rfl⟩ ?_;rintro⟨y,ii⟩ w' ⟨rfl,i,G,hi,hy⟩ X hX;simp only at G hy;subst G hy;apply cD<;>intro R;have E:i<l.length:=oJ;refine en.at r1 i rfl (zA E) ?_;rw[gi _ oJ,C9 hB E oJ];exact hX _ _ ⟨rfl,i+1,oL,oJ,rfl⟩ oN;have E:i=l.length:=oJ;subst E;rw[xY];refine fu (io I s rfl ?_);refine ee.part J l.length (l++C).length rfl (by rw[xV,J.1]) oL (zM _) λs2 l2 r2 _=>?_;rw[xY,drop_left' rfl] at r2;refine fu (qY I #[s2.v] rfl rfl (zM _) λw2 U f2=>?_);exact kk s2 w2 U (r2.q8 (f2.mono λb h _=>by rw[zE.1 h];exact hS) λb h=>.inl h) f2
def FC{h:Nat}{K:Int->WP}(G:w.heap[r]?=some (.c #[s.v] T))(I:en S w s (bw h n++u))(J:r∈S)(E:0<=n/\n<256^h)(R:h<=8)(U:∀C w',w'.heap[r]?=some (.c #[C.v] T)->en S w' C u->Fr [r] w w'->K n w'):cW 120 [dG r,.i h] dk w K:=
 qBr G I J (pA _ _) (ll _ _) R λC w' V h2 h3=>by rw[ve h E.1 E.2];exact U C w' V h2 h3
def qBF{K:Io->WP}(C:w.heap[r]?=some (.c #[s.v] T))(U:en S w s (iH x++u))(G:r∈S)(I:tL x)(V:∀J w',w'.heap[r]?=some (.c #[J.v] T)->en S w' J u->Fr [r] w w'->K x w'):cW 119 [dG r] [.agg df] w K:=by refine qjd<|oB (Ev C) λR w1 e1 f1 h=>?_;have E:en (R::S) w1 s (iH x++u):=ee.q8 (U.j6 (S':=R::S) λb C=>(zG.1 C).elim (λe=>.inr oJ) .inl) (Fr.mono f1 λb h _=>nomatch h) λb C=>.inl C;rw[iH,zV] at E;refine FC (h.at (i:=1) rfl) E (zN _ G) (by rw[p8];exact I.1) oM λs2 w2 b2 r2 f2=>?_;have h:=DL h 1 rfl f2 b2;refine FC (h.at (i:=1) rfl) r2 (zN _ G) (by rw[p8];exact I.2) oM λs3 w3 b3 r3 f3=>?_;have h:=DL h 1 rfl f3 b3;exact h.sz 0 rfl #[.w x.1,.w x.2] λw4 h f4=>Ij h 0 rfl x<|V s3 w4 (h.at (i:=1) rfl) (r3.q8 (f4.mono λb h _=>by rw[zE.1 h];exact HQ) λb C=>.inl (zN _ C)) h.fr
def uZ (m r:Nat):Array Ie:=((List.range m).map λi=>Value.pointer (some ⟨r,2*i,none⟩)).toArray
def quL{G:Ik}{r9 I R:Nat}{P9 T7 T5:If}{z:List Ie}{E:WP}(hm:ids.length=m)(h5:m<=5)(hz:2*m<=z.length)(h:dR S w0 w ((r9,.c (uZ m I) P9)::(I,.c z.toArray T7)::(R,.c #[s.v] T5)::L))(J:en G w s (ids.flatMap iH++u))(ad:R∈G)(ae:I∈G)(hW:∀x∈ids,tL x)(kk:∀U w',dR S w0 w' ((r9,.c (uZ m I) P9)::(I,.c (ids.flatMap jQ++z.drop (2*m)).toArray T7)::(R,.c #[U.v] T5)::L)->en G w' U u->E w'): loop Int (λX x w=>cond (decide (x<(m:Int))) (idx ⟨pW r9,m,m⟩ x 1 λa=>ld .ptr a w λp=>cW 119 [dG R] [.agg df] w λt w'=>nn p λa=>st a [.w t.1,.w t.2] w' λw2=>X (wrap .i64 (x+1)) w2) (E w)) 0 w:=by
 refine iX (λx w'=>∃i:Nat,∃U,x=i/\i<=m/\dR S w0 w' ((r9,.c (uZ m I) P9)::(I,.c ((ids.take i).flatMap jQ++z.drop (2*i)).toArray T7)::(R,.c #[U.v] T5)::L)/\en G w' U ((ids.drop i).flatMap iH++u)) (λx _=>m-x.toNat) ⟨0,s,rfl,yW _,h,J⟩ ?_;rintro x w1 ⟨i,s1,rfl,hi,h,J⟩ X hX;apply dX<;>intro V;have V:=zC V;have C:i<m:=oJ;refine ur oJ oJ ?_;rw[zJ,xS,xR];refine oA h 0 rfl (some ⟨I,2*i,none⟩) (by simp[uZ,C];rfl) ?_;rw[zX (by omega:i<ids.length),yG,zV] at J;refine qBF (h.at (i:=2) rfl) J ad (hW _ (zW _)) λs2 w2 b2 r2 f2=>?_;have h:=DL h 2 rfl f2 b2;have hA:((ids.take i).flatMap jQ).length=2*i:=(by rw[qx vO,yK];omega);have hZ:z.drop (2*i)=(z.drop (2*i)).take 2++z.drop (2*(i+1)):=(by rw[show 2*(i+1)=2*i+2 by omega,<- xC,xD]);have af:dS ((ids.take i).flatMap jQ++z.drop (2*i)).toArray (2*i) (jQ ids[i])=((ids.take i).flatMap jQ++jQ ids[i]++z.drop (2*(i+1))).toArray:=by rw[hZ,<- zV,<- hA];exact se (by rw[yK,yB,vO];omega)
 refine fu (h.st' 1 rfl _ af rfl (by simp[hA];omega) λw3 h f3=>?_);rw[gi _ oJ];refine hX _ _ ⟨i+1,s2,rfl,C,?_,r2.q8 (f3.mono λb h _=>by rw[zE.1 h];exact ae) λb hb=>.inl hb⟩ oJ;rw[yF (by omega:i<ids.length),yP,flatMap_singleton];exact h;have V:=zB V;have C:i=m:=oJ;subst C;rw[zS oJ] at h;rw[HU oJ] at J;exact kk s1 w1 h J
def tT{G:Ik}{I J u off:Nat}{R:Nat×Obj}{U T5:If}{v:Ie}{V:Int->Ie}{C:Il}{K:WP}(h:dR S w0 w (R::(I,.c cs U)::(J,.c #[s.v] T5)::L))(hr:en G w s (bw u n++C))(hG:J∈G/\I∈G)(hn:0<=n/\n<256^u)(hv:V n=v)(E:Array Ie)(kk:∀s' w',dR S w0 w' (R::(I,.c E U)::(J,.c #[s'.v] T5)::L)->en G w' s' C->K w')(hs:dS cs off [v]=E:=by rfl)(h1:v.oneCell'=true:=by rfl)(hl:off+1<=cs.size:=by exact zO rfl)(h8:u<=8:=by decide): cW 120 [dG J,.i u] dk w λx w'=>Pt.st (dg I off) [V x] w' K:=by refine FC (h.at (i:=2) rfl) hr hG.1 hn h8 λs2 w2 b2 r2 f2=>?_;have h:=DL h 2 rfl f2 b2;rw[hv];exact h.st' 1 rfl E hs (by simp[h1]) hl λw3 h f3=>kk s2 w3 h (r2.q8 (f3.mono λb h _=>by rw[zE.1 h];exact hG.2) λb hb=>.inl hb)
end
section
abbrev u2:List Cell:=df
def Bf (w0 w:Ic) (s:Sl) (l:Il) (n:Nat):Prop:=l.length=n/\∃B,fR w s l B/\Fr [] w0 w/\∀b∈B,w0.heap.size<=b
section
variable {w0 w w':Ic} {s b:Sl} {l:Il} {k:Nat} {n:Int} {K:Sl->WP}
def Bf.fr(h:Bf w0 w s l k):Fr [] w0 w:=h.2.elim λ_ h=>h.2.1
def Bf.len(h:Bf w0 w s l k):s.len=k:=h.1▸h.2.elim λ_ h=>h.1.len
def Bf.down(h:Bf w w' s l k)(f:Fr [] w0 w):Bf w0 w' s l k:=⟨h.1,h.2.elim λB q=>⟨B,q.1,f.trans q.2.1,λb u=>zL f.size (q.2.2 b u)⟩⟩
def Bf.new(h:Bf w0 w s l k):kI w0 w s l:=h.2.elim λ_ h=>vV h.1 h.2.2
def Bf.q7(h:Bf w0 w s l k)(f:Fr [] w w'):Bf w0 w' s l k:=h.2.elim λB q=>⟨h.1,B,q.1.q7 f,q.2.1.trans f,q.2.2⟩
def Bf.of{B':Ik}{l':Il}(h:Bf w0 w b l k)(G:fR w b l B)(C:∀x∈B,w0.heap.size<=x)(E:l'.length=m)(b':fR w' s (l++l') B')(f:Fr B w w')(n':∀x∈B',x∈B\/w.heap.size<=x):Bf w0 w' s (l++l') (k+m):=
 ⟨by rw[zF,h.1,E],B',b',h.fr.j8 f λx u=>.inr (C x u),λx u=>(n' x u).elim (C x) (zL h.fr.size)⟩
def Bf.uK(h:Bf w0 w b l k)(u:∀s w',Bf w0 w' s (l++bw 2 n) (k+2)->K s w')(C:k<=1000:=by decide):cW 135 [b.v,.int .u16 n,.i 2] dh w K:=by obtain⟨B,q,f,E⟩:=h.2;exact qAo q (by rw[h.1];exact C) λs B' w' b' G n'=>u s w' (h.of q E (ll _ _) b' G n')
def Bf.xg(h:Bf w0 w b l k)(C:∀s w',Bf w0 w' s (l++bw 4 n) (k+4)->K s w')(E:k<=1000:=by decide):cW 133 [b.v,.u n,.i 4] dh w K:=by obtain⟨B,q,f,G⟩:=h.2;exact qAp q (by rw[h.1];exact E) λs B' w' b' I n'=>C s w' (h.of q G (ll _ _) b' I n')
def Bf.tA(h:Bf w0 w b l k)(u:∀s w',Bf w0 w' s (l++bw 8 n) (k+8)->K s w')(C:k<=1000:=by decide):cW 134 [b.v,.w n,.i 8] dh w K:=by obtain⟨B,q,f,E⟩:=h.2;exact qAq q (by rw[h.1];exact C) λs B' w' b' G n'=>u s w' (h.of q E (ll _ _) b' G n')
def EF(u:w.heap[r]?=some (.c (ids.flatMap jQ).toArray T))(C:ids.length=m)(E:m<=5)(G:∀s w',Bf w w' s (ids.flatMap iH) (16*m)->K s w'): cW 103 [.slice none 0 0,.slice (pW r) m m] dh w K:=by subst C;have I:ee jQ 2 [] w ⟨pW r,ids.length,ids.length⟩ ids:=eU.jz vO (eU.fresh vO u rfl (zM _) (by rw[size_toArray,qx vO];exact zM _) (zS (by rw[qx vO];exact zM _))) λ_ _ h=>nomatch h;exact qzq I E λs B w' b f n=>G s w' ⟨CL _,B,b,f,n⟩
def ee.max{α:Type}{enc:α->List Ie}{k n:Nat}{w:Ic}{s:Sl}{l:List α}{hi:Int}{K:Sl->Prop}(h:ee enc k S w s l)(R:hi=n)(J:n<=l.length)(h0:0<n)(U:∀C,C.len=n->ee enc k S w C (l.take n)->K C):fB s none (some hi) (some hi) k K:=by obtain⟨h1,h2,E⟩:=h;subst R;unfold fB;refine⟨by simp;omega,U _ oL ⟨by simp;omega,oL,.inr ?_⟩⟩;rcases E with E|⟨V,o,cs,T,fr,ha,G,I,hc⟩;rw[E] at J;simp at J;omega;refine⟨V,o,cs,T,fr,?_,G,I,λi x u=>?_⟩;simp only[xV,xU,zJ];rw[iN oO,ha];simp[Addr.q9];rw[xA] at u;split at u;exact hc i x u;cases u
end
def Dr{x:Int}(h:IntKind.u64.has x):0<=x/\x<256^8:=by rw[p8];exact qI h
abbrev lu (x:je):Prop:=IntKind.u64.has x.1/\IntKind.u64.has x.2
def lu.ok(h:lu x):tL x:=⟨qI h.1,qI h.2⟩
def qBB{a b c d:je}(u:lu a)(C:lu b)(E:lu c)(G:lu d):∀x∈[a,b,c,d],tL x:=λx h=>by simp at h;rcases h with rfl|rfl|rfl|rfl;exact u.ok;exact C.ok;exact E.ok;exact G.ok
def qAO{a b c d e:je}(u:lu a)(C:lu b)(E:lu c)(G:lu d)(I:lu e):∀x∈[a,b,c,d,e],tL x:=λx J=>(zG.1 J).elim (λh=>by rw[h];exact u.ok) (qBB C E G I x)
def kr (a:HL iJ):je:=(a.1,a.2.1)
def pC:HL iJ->Il:=λ(_,_,h,u,C,E,G,I,J,R,t,l,k,f,n)=>iH (h,u)++(iH (C,E)++(iH (G,I)++(iH (J,R)++(bw 8 t++(bw 4 l++(bw 2 k++(bw 2 f++bw 8 n)))))))
def qb (a:HL iJ):Il:=iH (kr a)++pC a
def F9(a:HL iJ):(pC a).length=88:=by obtain⟨h,u,C,E,G,I,J,R,U,V,t,l,k,f,n⟩:=a;simp only[pC,zF,mo,ll]
def qrW(a:HL iJ):(qb a).length=104:=by rw[qb,zF,mo,F9]
def qww(kk:∀s w',Bf w w' s (qb a) 104->K s w'): cW 99 [HJ iJ a] dh w K:=by
 obtain⟨u,C,E,G,I,J,R,U,V,d1,t,l,k,f,n⟩:=a;refine qjb<|oB (oE [] w) λr1 w1 e1 f1 h=>Ij h 0 rfl (u,C) (Ij h 0 rfl (E,G) (Ij h 0 rfl (I,J) (Ij h 0 rfl (R,U) (Ij h 0 rfl (V,d1) ?_))));refine oB h λr8 w2 e2 f2 h=>EF (ids:=[(u,C),(E,G),(I,J),(R,U),(V,d1)]) (h.at (i:=0) rfl) rfl oM λs3 w3 q=>?_;have h3:=(h.q7 q.fr).drew;refine Ii h3 1 rfl t (Ii h3 1 rfl l ?_);refine (q.q7 (Fr.refl [] w3).drew).tA λs4 w4 q=>ik ((h.q7 q.fr).cell 1) (q.xg λs5 w5 q=>?_);have h5:=(h.q7 q.fr).drew;refine Ii h5 1 rfl k (Ii h5 1 rfl f (Ii h5 1 rfl n ?_));refine (q.q7 (Fr.refl [] w5).drew).uK λs6 w6 q=>ky ((h.q7 q.fr).cell 1) ((h.q7 q.fr).cell 1) (q.uK λs7 w7 q=>?_);refine ik ((h.q7 q.fr).cell 1) (q.tA λs8 w8 q=>?_);have e:[(u,C),(E,G),(I,J),(R,U),(V,d1)].flatMap iH++bw 8 t++bw 4 l++bw 2 k++bw 2 f++bw 8 n=qb (u,C,E,G,I,J,R,U,V,d1,t,l,k,f,n):=by simp only[yG,flatMap_nil,qb,kr,pC,zV,xG,xH]
 rw[e] at q;exact kk s8 w8 (q.down (f1.trans f2))
def qu1{K:Sl×Sl->WP}(G:∀s t w',kI w w' s (iH (kr a))->kI w w' t (pC a)->Fr [] w w'->K (s,t) w'): cW 52 [HJ iJ a] dr w K:=by refine qif<|oB (oE [] w) λU w1 e1 u h=>Ij h 0 rfl a<|qww λs w2 q=>?_;have V:=qrW a;have I:=q.len;refine ee.max (n:=16) q.new rfl oJ oM λJ _ C=>ee.part q.new 16 104 rfl (by rw[xV,I]) oM oJ λR _ E _=>?_;rw[qb,take_left' (mo _)] at C;rw[zS oJ,qb,drop_left' (mo _)] at E;exact G J R _ (kI.up C u.size) (kI.up E u.size) ((u.trans q.fr).drew)
def qwp{K:HL iJ×Bool->WP}(hr:en [] w s (qb a))(ha:jx iJ a)(kk:∀w',Fr [] w w'->K (a,true) w'): cW 100 [s.v] [.agg iJ,.one .bool] w K:=by
 refine qja ?_;have hl:=hr.1;rw[qrW] at hl;obtain⟨C,E,G,I,J,R,U,V,d0,d1,t,l,k,f,n⟩:=a;obtain⟨ad,ae,af,ag,ah,ai,aj,ak,al,am,ht,u,hk,hf,hn⟩:=ha;refine oB (oE [] w) λr1 w1 e1 f1 h=>HM (by rw[hl];rfl)<|oB h λr5 w2 e2 f2 h=>oB h λr7 w3 e3 f3 h=>oB h λr9 w4 e4 f4 h=>?_;have hG:en [r5,r7,r1] w4 s ([(C,E),(G,I),(J,R),(U,V),(d0,d1)].flatMap iH++(bw 8 t++(bw 4 l++(bw 2 k++(bw 2 f++(bw 8 n++[])))))):=by
  have:=ee.q7 (hr.j6 (S':=[r5,r7,r1]) λb hb=>.inr (by have:=f1.size;have:=f2.size;simp at hb;omega)) h.fr;simpa only[yG,flatMap_nil,qb,kr,pC,zV,xG,xH] using this
 refine quL (m:=5) (P9:=_) rfl oM oM h hG oL oL (qAO ⟨ad,ae⟩ ⟨af,ag⟩ ⟨ah,ai⟩ ⟨aj,ak⟩ ⟨al,am⟩) λs5 w5 h an=>?_;let A:Int->Int->Int->Int->Int->Array Ie:=λt l k f n=>(HL.mk iJ (C,E,G,I,J,R,U,V,d0,d1,t,l,k,f,n)).toArray;exact tT h an oL (Dr ht) rfl (A t 0 0 0 0) λs6 w6 h r6=>tT h r6 oL (zi u) (H9 _ (nD l (zi u))) (A t l 0 0 0) λs7 w7 h r7=>tT h r7 oL (v9 hk) (H9 _ (Dv k (v9 hk))) (A t l k 0 0) λs8 w8 h r8=>tT h r8 oL (v9 hf) (H9 _ (Dv f (v9 hf))) (A t l k f 0) λs9 w9 h r9=>tT h r9 oL (Dr hn) rfl (A t l k f n) λaJ aK h aL=>Ij h 1 rfl (C,E,G,I,J,R,U,V,d0,d1,t,l,k,f,n)<|h.st' 3 rfl _ (k7 rfl) rfl (zM _) λao h aM=>Ij h 3 rfl (C,E,G,I,J,R,U,V,d0,d1,t,l,k,f,n)<|kk ao h.fr
end
def qAL{m:Il}(E:w.heap[r]?=some (.c #[s.v,t.v] T))(G:en [] w s l)(I:en [] w t m)(U:l.length+m.length<=1000)(J:∀u w',en [] w' u (l++m)->Fr [] w w'->K u w'):cW 88 [.slice (pW r) 2 2] dh w K:=by have R:jq [] w ⟨pW r,2,2⟩ [(s,l),(t,m)]:=⟨eU.jz vQ (eU.fresh vQ E rfl (zM _) (zM _) rfl) (λ_ _ h=>nomatch h),λp C=>by rcases zG.1 C with rfl|C;exact G;rw[zE.1 C];exact I⟩;have e:(ga [(s,l),(t,m)]).flatten=l++m:=(by simp[ga]);refine qpU (s:=⟨pW r,2,2⟩) R (zO rfl) (by rw[e,zF];omega) λu B w' b f n=>J u w' ?_ f;rw[e] at b;exact b.jz lc λ_ _ h=>nomatch h
def qu4{K:HL iJ×Bool->WP}(C:en [] w s (iH (kr a)))(G:en [] w t (pC a))(I:jx iJ a)(J:∀w',Fr [] w w'->K (a,true) w'): cW 56 [s.v,t.v] [.agg iJ,.one .bool] w K:=by refine qig ?_;have E:=C.1;rw[mo] at E;refine oB (oE [] w) λr1 w1 e1 f1 h=>HM (by rw[E];rfl) (oB h λr5 w2 e2 f2 h=>?_);refine qAL (h.at (i:=0) rfl) (C.q7 h.fr) (G.q7 h.fr) (by rw[mo,F9];decide) λu w3 R U=>qwp R I λw4 V=>?_;have h:=h.q7 (U.trans V);exact h.st' 1 rfl _ (k7 rfl) rfl (zM _) λw5 h _=>Ij h 1 rfl a (J w5 h.fr)
def px (t:HL ls):je:=(t.1,t.2.1)
def po:HL ls->Il:=λ(_,_,h,u,C,E,G,I,J,R,t,o,l,k,f,n)=>iH (h,u)++(iH (C,E)++(iH (G,I)++(iH (J,R)++(bw 8 t++(bw 4 o++(bw 4 l++(bw 2 k++(bw 2 f++bw 8 n))))))))
def pu (a:HL ls):Il:=iH (px a)++po a
def wm(a:HL ls):(po a).length=92:=by obtain⟨h,u,C,E,G,I,J,R,U,V,t,o,l,k,f,n⟩:=a;simp only[po,zF,mo,ll]
def qtk(a:HL ls):(pu a).length=108:=by rw[pu,zF,mo,wm]
def qwy{a:HL ls}(kk:∀s w',Bf w w' s (pu a) 108->K s w'): cW 102 [HJ ls a] dh w K:=by
 obtain⟨u,C,E,G,I,J,R,U,V,d1,t,o,l,k,f,n⟩:=a;refine qih<|oB (oE [] w) λr1 w1 e1 f1 h=>Ij h 0 rfl (u,C) (Ij h 0 rfl (E,G) (Ij h 0 rfl (I,J) (Ij h 0 rfl (R,U) (Ij h 0 rfl (V,d1) ?_))));refine oB h λr8 w2 e2 f2 h=>EF (ids:=[(u,C),(E,G),(I,J),(R,U),(V,d1)]) (h.at (i:=0) rfl) rfl oM λs3 w3 q=>?_;have h3:=(h.q7 q.fr).drew;refine Ii h3 1 rfl t (Ii h3 1 rfl o (Ii h3 1 rfl l ?_));refine (q.q7 (Fr.refl [] w3).drew).tA λs4 w4 q=>ky ((h.q7 q.fr).cell 1) ((h.q7 q.fr).cell 1) (q.xg λs5 w5 q=>?_);refine ik ((h.q7 q.fr).cell 1) (q.xg λs5 w5 q=>?_);have h5:=(h.q7 q.fr).drew;refine Ii h5 1 rfl k (Ii h5 1 rfl f (Ii h5 1 rfl n ?_));refine (q.q7 (Fr.refl [] w5).drew).uK λs6 w6 q=>ky ((h.q7 q.fr).cell 1) ((h.q7 q.fr).cell 1) (q.uK λs7 w7 q=>?_);refine ik ((h.q7 q.fr).cell 1) (q.tA λs8 w8 q=>?_);have e:[(u,C),(E,G),(I,J),(R,U),(V,d1)].flatMap iH++bw 8 t++bw 4 o++bw 4 l++bw 2 k++bw 2 f++bw 8 n=pu (u,C,E,G,I,J,R,U,V,d1,t,o,l,k,f,n):=by simp only[yG,flatMap_nil,pu,px,po,zV,xG,xH]
 rw[e] at q;exact kk s8 w8 (q.down (f1.trans f2))
def qwq{a:HL ls}{K:HL ls×Bool->WP}(hr:en [] w s (pu a))(ha:jx ls a)(kk:∀w',Fr [] w w'->K (a,true) w'): cW 101 [s.v] [.agg ls,.one .bool] w K:=by
 refine qie ?_;have hl:=hr.1;rw[qtk] at hl;obtain⟨E,G,I,J,R,U,V,c1,d0,d1,t,o,l,k,f,n⟩:=a;obtain⟨ad,ae,af,ag,ah,ai,aj,ak,al,am,ht,ho,C,hk,hf,hn⟩:=ha;refine oB (oE [] w) λr1 w1 e1 f1 h=>HM (by rw[hl];rfl)<|oB h λr5 w2 e2 f2 h=>oB h λu w3 e3 f3 h=>oB h λr9 w4 e4 f4 h=>?_;have hG:en [r5,u,r1] w4 s ([(E,G),(I,J),(R,U),(V,c1),(d0,d1)].flatMap iH++(bw 8 t++(bw 4 o++(bw 4 l++(bw 2 k++(bw 2 f++(bw 8 n++[]))))))):=by
  have:=ee.q7 (hr.j6 (S':=[r5,u,r1]) λb hb=>.inr (by have:=f1.size;have:=f2.size;simp at hb;omega)) h.fr;simpa only[yG,flatMap_nil,pu,px,po,zV,xG,xH] using this
 refine quL (m:=5) (P9:=_) rfl oM oM h hG oL oL (qAO ⟨ad,ae⟩ ⟨af,ag⟩ ⟨ah,ai⟩ ⟨aj,ak⟩ ⟨al,am⟩) λs5 w5 h an=>?_;let A:Int->Int->Int->Int->Int->Int->Array Ie:=λt o l k f n=>(HL.mk ls (E,G,I,J,R,U,V,c1,d0,d1,t,o,l,k,f,n)).toArray;exact tT h an oL (Dr ht) rfl (A t 0 0 0 0 0) λs6 w6 h r6=>tT h r6 oL (zi ho) (H9 _ (nD o (zi ho))) (A t o 0 0 0 0) λs7 w7 h u=>tT h u oL (zi C) (H9 _ (nD l (zi C))) (A t o l 0 0 0) λs7 w7 h u=>tT h u oL (v9 hk) (H9 _ (Dv k (v9 hk))) (A t o l k 0 0) λs8 w8 h r8=>tT h r8 oL (v9 hf) (H9 _ (Dv f (v9 hf))) (A t o l k f 0) λs9 w9 h r9=>tT h r9 oL (Dr hn) rfl (A t o l k f n) λaL aM h aN=>Ij h 1 rfl (E,G,I,J,R,U,V,c1,d0,d1,t,o,l,k,f,n)<|h.st' 3 rfl _ (k7 rfl) rfl (zM _) λao h aO=>Ij h 3 rfl (E,G,I,J,R,U,V,c1,d0,d1,t,o,l,k,f,n) (kk ao h.fr)
def ee.uW{b n c o cap:Nat}{L:Il}(h:en S w ⟨pW b,n,c⟩ L)(E:o+m<=L.length)(G:m<=cap)(h0:0<m):en S w ⟨some (dg b o),m,cap⟩ ((L.drop o).take m):=by
 obtain⟨h1,h2,C⟩:=h;refine⟨by simp;omega,G,.inr ?_⟩;rcases C with C|⟨bl,o',I,T,J,R,U,V,hx⟩;subst C;simp at E;omega;cases R;refine⟨b,o,I,T,J,rfl,U,V,λi x u=>?_⟩;rw[xA] at u;split at u;rw[yZ] at u
 have:=hx (o+i) x u;rw[<- this];congr 2;omega;cases u
def qzN{C n c o:Nat}{ys:Il}{a:Sl}(R:w.heap[C]?=some (.c cs T))(h0:w0.heap.size<=C)(hn:n=l.length)(hc:n<=c)(U:c<=cs.size)(hl:cs.toList.take l.length=l.map (Value.int .u8))(f0:Fr [] w0 w)(ho:0<o/\o<n)(hr:en [] w a ys)(hy:l.length+ys.length<=1000)(kk:∀s' w',kI w0 w' s' (l.drop o++ys)->kI w0 w' ⟨pW C,o,o⟩ (l.take o)->Fr [C] w w'->K s' w'): Pt.run dh ((Builtin.append_ #[101,101] 101 #[.slice (some (dg C o)) (n-o) (c-o),a.v]).run prog w) K:=by
 obtain⟨i,hi,hz,G,ae⟩:=uE;subst hn;have af:=hr.1;have V:fR w ⟨pW C,l.length,c⟩ l [C]:=eU.one (e:=Value.int .u8) (λ_=>rfl) R rfl hc U hl;have hR:kI w0 w ⟨pW C,l.length,c⟩ l:=vV V λb h=>by rw[zE.1 h];exact h0
 have E:=ui (P:=prog) (tx:=101) (e':=5) hr lc (λx u hu=>by rw[zE.1 hu];rfl) oK;rw[rm] at E;have aa:en [] w ⟨some (dg C o),l.length-o,c-o⟩ (l.drop o):=by
  have:=ee.uW (o:=o) (m:=l.length-o) (cap:=c-o) hR.rd oJ oJ oJ;rwa[zS oL] at this
 by_cases hroom:l.length+ys.length<=c;have az:=E.newsLen;have hk:(l.length-o)+a.len<=c-o:=oJ;have e0:o+(l.length-o)*1=l.length:=oJ;refine uf ⟨_,_,_⟩ _ (run_append_room_src w 101 101 101 5 i oK hi C o (l.length-o) (c-o) _ a.len _ (by rw[G];exact E) hk (λj hj=>?_) λj hj=>?_) ?_;rw[G,e0,jp R];rw[zK] at hj;have:l.length+j<cs.size:=oJ;simp[this];simp[World.frozen?,R];rw[wJ R,G,e0];have I:(gS w C (.c (dS cs l.length (ys.map (Value.int .u8))) T)).heap[C]?=some (.c (dS cs l.length (ys.map (Value.int .u8))) T):=(by rw[oV _ _ _ _ (eX R),iP rfl]);have J:fR _ ⟨pW C,(l++ys).length,c⟩ (l++ys) [C]:=eU.one (e:=Value.int .u8) (λ_=>rfl) I rfl (by rw[zF];exact hroom) (by rw[mY];exact U) (by rw[pX _ _ _ oO,hl,xM,zF,HP oL];exact zS oL);have ac:kI w0 _ ⟨pW C,(l++ys).length,c⟩ (l++ys):=vV J λb h=>by rw[zE.1 h];exact h0
 refine kk _ _ ?_ ?_ (sD (eX R) _);have:=ee.uW (o:=o) (m:=l.length-o+a.len) (cap:=c-o) ac (by rw[zF];omega) hk oJ;rwa[HV oJ,zS oO] at this;have:=ee.uW (o:=0) (m:=o) (cap:=o) ac (by rw[zF];omega) (zM _) ho.1;rwa[xE,HP oJ] at this;have ag:=aa.cells lc rfl;refine quc (m:=a.len) (e:=5) (olds:=(l.drop o).map (Value.int .u8)) (news:=ys.map (Value.int .u8)) oK hi hz G rfl oL (λj u hj=>?_) E oJ (by rw[ae];omega) oJ λb' cs c' w' eb I f ah ad ht=>?_;rw[<- rm] at hj;exact ag j u hj;have ai:fR w' ⟨pW b',l.length-o+a.len,c'⟩ (l.drop o++ys) [b']:=eU.one (e:=Value.int .u8) (λ_=>rfl) I oO ah ad (by rw[zF,yB,<- af,ht,xM]);refine kk _ w' (vV ai λb h=>by rw[zE.1 h,eb];exact f0.size) ?_ (f.mono λ_ h _=>nomatch h);have:=ee.uW (o:=0) (m:=o) (cap:=o) (hR.q7 f) oJ (zM _) ho.1;rwa[xE] at this
def qrV{K:je×Bool->WP}(E:en [] w s (iH x))(C:tL x)(V:∀w',Fr [] w w'->K (x,true) w'): cW 42 [s.v] [.agg df,.one .bool] w K:=by refine qto ?_;have R:=E.1;rw[mo] at R;refine oB (oE [] w) λr1 w1 e1 f1 h=>HM (by rw[R];rfl) (oB h λr5 w2 e2 f2 h=>?_);have l0:=ll 8 x.1;have l1:=ll 8 x.2;refine iX (λq w'=>∃i:Nat,q=i/\i<=8/\dR [] w w' [(r5,.c #[.w (og ((bw 8 x.1).take i)),.w (og ((bw 8 x.2).take i))] BW),(r1,.c cY BW)]) (λq _=>8-q.toNat) ⟨0,rfl,oM,h⟩ ?_;rintro q w3 ⟨i,rfl,hi,h⟩ X hX;apply cD<;>intro G;have u:i<8:=oJ;have I:(iH x)[i]?=some ((bw 8 x.1)[i]' oJ):=(by rw[iH,yY oJ,zA oJ]);have J:(iH x)[8+i]?=some ((bw 8 x.2)[i]' oJ):=(by rw[iH,yX oJ,l0,vC,zA oJ]);rw[gi (8+(i:Int)) oJ,gi ((i:Int)+1) oJ];refine oA h.drew 0 rfl _ rfl (en.at (E.q7 h.drew.fr) i rfl I ?_);rw[C9 (pA _ _) oJ u];refine h.drew.sz 0 rfl #[.w (og ((bw 8 x.1).take (i+1))),.w (og ((bw 8 x.2).take i))] λU h _=>oA h.drew 0 rfl _ rfl (en.at (E.q7 h.drew.fr) (8+i) oJ J ?_);rw[C9 (pA _ _) oJ u];exact h.drew.sz 0 rfl #[.w (og ((bw 8 x.1).take (i+1))),.w (og ((bw 8 x.2).take (i+1)))] λw5 h _=>hX _ _ ⟨i+1,rfl,u,h⟩ oJ;have u:i=8:=oJ;subst u;rw[zS oJ,zS oJ,ve 8 C.1.1 (by rw[p8];exact C.1.2),ve 8 C.2.1 (by rw[p8];exact C.2.2)] at h;refine Ij h 0 rfl x (h.st' 1 rfl _ (k7 rfl) rfl (zM _) λU h _=>?_);exact Ij h 1 rfl x (V U h.fr)
def qAF{K:Int->WP}(h:en S w s (bw 8 n))(u:nf n)(C:K n w):cW 85 [s.v] dk w K:=
 qu7 h (pA _ _) (by rw[ll];decide) (by rw[ve 8 u.1 (by rw[p8];exact u.2)];exact C)
def qnF{m:Int}{K:Int×Int×Bool->WP}(h:en [] w s (kQ n m))(G:nf n)(I:nf m)(J:K (n,m,true) w.drew): cW 48 [s.v] dy w K:=by refine qrh ?_;have u:=h.1;rw[wZ] at u;refine HM (by rw[u];rfl) (ee.part h 0 8 rfl rfl oM (by rw[wZ];decide) λR _ C _=>ee.part h 8 16 rfl (by rw[xV,u]) oM (by rw[wZ];decide) λU _ E _=>?_);rw[kQ,xE,take_left' (ll _ _)] at C;rw[zS (by rw[wZ];decide),kQ,drop_left' (ll _ _)] at E;exact qAF C.drew G (qAF E.drew I J)
def FF{e i0 u:Int}{K:Sl×Sl->WP}(I:∀s t w',kI w w' s (kQ e n)->kI w w' t (iH (i0,u))->Fr [] w w'->K (s,t) w'): cW 60 [.agg #[.w e,.w n,.w i0,.w u]] dr w K:=by refine qlQ<|oB (oE [] w) λV w1 e1 C h=>Ii h.drew 0 rfl e (Ii h.drew 0 rfl n (Ij h.drew 0 rfl (i0,u) ?_));refine qt4 λs w2 J E=>ik ((h.drew.q7 E).cells 0) (vH λr3 R U G=>?_);have f:=C.drew.trans E;exact I s _ R ((J.up C.size).q7 G) (U.up f.size) (f.trans G)
def qu5{e:Int}{K:IB×Bool->WP}(C:en [] w s (kQ e n))(E:en [] w t (iH x))(G:nf e)(I:nf n)(J:tL x)(R:∀w',Fr [] w w'->K ((e,n,x.1,x.2),true) w'): cW 36 [s.v,t.v] [.agg [.w,.w,.w,.w],.one .bool] w K:=by refine qlS<|oB (oE [] w) λr1 w1 e1 u h=>qnF (C.q7 u) G I<|qrV (E.q7 u.drew) J λw2 U=>oB (h.drew.q7 U) λr7 w3 e3 f3 h=>h.sz 0 rfl #[.w x.1,.w x.2] λV h _=>vd false V (λM hM=>HM rfl hM) (HM rfl ?_);refine Ij h 0 rfl x (h.sz 1 rfl #[.w e,.w n,.w x.1,.w x.2] λw5 h _=>?_);exact Ij h 1 rfl (e,n,x.1,x.2) (R w5 h.fr)
abbrev Bu:If:=79
abbrev Kp:=HL ls×je
def pg (k:Kp):List Ie:=HL.mk ls k.1++jQ k.2
def sW (k:Kp):Il:=po k.1++iH k.2
def qd(k:Kp):(pg k).length=18:=rfl
def yw(k:Kp):(sW k).length=108:=by rw[sW,zF,wm,mo]
def v8:Kp:=((0,0,0,0,0,0,0,0,0,0,0,0,0,0,0,0),(0,0))
def A3:((prog.info? Bu).bind (·.zero)).map (λz=>z.cells.toList)=some (pg v8):=by kernel_rfl
def qyw{k:Kp}(w:Ic):(Instr.build Bu #[(0,HJ ls k.1),(1,.agg #[.w k.2.1,.w k.2.2])]).run prog w=.ok (.agg (pg k).toArray) w:=by obtain⟨z,u,h⟩:=yS.1 A3;exact qoL (P:=prog) (a:=HJ ls k.1) (b:=.agg #[.w k.2.1,.w k.2.2]) (o1:=16) (s0:=16) (s1:=2) u oK (λw=>oK) rfl rfl rfl (by rw[<- Ib,h];rfl) w
def qu3{k:Kp}{K:Sl×Sl->WP}(kk:∀s t w',kI w w' s (iH (px k.1))->kI w w' t (sW k)->Fr [] w w'->K (s,t) w'): cW 59 [.agg (pg k).toArray] dr w K:=by
 refine qhB<|oB (oE [] w) λr1 w1 e1 f1 h=>Ij h 0 rfl k.1 (qwy λs w2 q=>?_);have V:=qtk k.1;obtain⟨B,hb,f2,hB⟩:=q.2;obtain⟨u,cs,T,rfl,ha,G,hn,hc,J,ht⟩:=hb.ptr (by intro h;rw[h] at V;simp at V);obtain⟨sa,sn,sc⟩:=s;dsimp only at ha hn hc J;subst ha;have R:w1.heap.size<=u:=hB u (zE.2 rfl);rw[rm] at ht;unfold fB;refine⟨by simp;omega,by simp;omega,?_⟩;simp only[xV,xU];rw[iN oO,iN oL];simp only[Option.map_some,Addr.q9];have h:=(h.q7 f2).drew;refine Ij h 0 rfl k.2 (oB h λr9 w3 e3 f3 h=>?_);have E:ee jQ 2 [u] w3 ⟨pW r9,1,1⟩ [k.2]:=eU.jz vO (eU.fresh vO (h.at (i:=0) rfl) rfl (zM _) (zM _) rfl) λb hb h=>by have:=zE.1 hb;have:=zE.1 h;have:u<w2.drew.heap.size:=eX G;omega
 have ac:Fr [] w2 w3:=(Fr.refl [] w2).drew.trans f3;have hV:(pu k.1).drop 16=po k.1:=(by rw[pu,drop_left' (mo _)]);have hI:(pu k.1).take 16=iH (px k.1):=(by rw[pu,take_left' (mo _)]);have ad:po k.1≠sW k:=λe=>by have:=H9 List.length e;rw[wm,yw] at this;omega
 refine qra (b:=⟨some (dg u 16),sn-16,sc-16⟩) (l:=po k.1) (I:=λs l' w'=>(s=⟨some (dg u 16),sn-16,sc-16⟩/\l'=po k.1/\Fr [] w3 w')\/(l'=sW k/\kI w w' s (sW k)/\kI w w' ⟨pW u,16,16⟩ (iH (px k.1))/\Fr [] w w')) (.inl ⟨rfl,rfl,.refl _ _⟩) (λs l w' aD q f=>q.elim (λq=>.inl ⟨q.1,q.2.1,q.2.2.trans f⟩) λq=>.inr ⟨q.1,q.2.1.q7 f,q.2.2.1.q7 f,q.2.2.2.trans f⟩) (E.j6 λ_ h=>nomatch h) (zO rfl) (λi s l' w4 a x K' hi hx C q r4 ra k'=>?_) λs w4 q=>?_;have ag:i=0:=(by simp at hi;exact hi);subst ag;cases hx;rcases q with ⟨rfl,C,U⟩|⟨e,_⟩;have ah:w4.heap[u]?=some (.c cs T):=(by rw[(ac.trans U).block u (eX G) λh=>nomatch h];exact G);refine qzN (w0:=w) (o:=16) ah (zL f1.size R) hn hc J ht (h.fr.trans U) oJ ra (by rw[V,mo];decide) λs5 w5 h5 h6 f5=>?_;rw[hV] at h5;rw[hI] at h6;rw[C] at k';exact k' s5 w5 (.inr ⟨rfl,h5,h6,(h.fr.trans U).j8 f5 λb h=>.inr (by rw[zE.1 h];exact zL f1.size R)⟩) (((E.q7 U).q8 f5 λb h=>.inl h).j6 λ_ h=>nomatch h);rw[e] at C;exact absurd (oP C.symm) ad;rcases q with ⟨_,e,_⟩|⟨_,q1,q2,q3⟩
 have:=H9 List.length e;rw[zF,CL,wm] at this;simp at this;exact kk _ s w4 q2 q1 q3
def tj (k:Kp):Prop:=jx ls k.1/\lu k.2
def qu6{k:Kp}{K:List Ie×Bool->WP}(J:en [] w s (iH (px k.1)))(E:en [] w t (sW k))(R:tj k)(kk:∀w',Fr [] w w'->K (pg k,true) w'): cW 58 [s.v,t.v] dC w K:=by refine qhC ?_;have U:=J.1;rw[mo] at U;have C:=E.1;rw[yw] at C;have hz:=A3;refine oI (oE [] w) hz λr1 w1 e1 h=>vd false w1 (λM hM=>HM (by rw[U];rfl) (by rw[C];exact hM)) (HM rfl ?_);refine ee.part (E.q7 h.fr) 0 92 rfl rfl oM (by rw[yw];decide) λs2 _ V _=>?_;rw[xE,sW,take_left' (wm _)] at V;refine oB h λr3 w3 e3 f3 h=>qAL (h.at (i:=0) rfl) (J.q7 h.fr) (V.q7 f3) (by rw[mo,wm];decide) λu w4 hu f4=>qwq hu R.1 λw5 f5=>oB (h.q7 (f4.trans f5)) λr6 w6 e6 f6 h=>h.st' 0 rfl _ (k7 rfl) rfl (zM _) λw7 h _=>ee.part (E.q7 h.fr) 92 108 rfl (by rw[xV,C]) oM (by rw[yw];decide) λs8 _ h8 _=>?_;rw[zS (by rw[yw];decide),sW,drop_left' (wm _)] at h8;refine qrV h8 R.2.ok λw9 f9=>oB (h.q7 f9) λr9 aj ak al h=>h.st' 0 rfl _ (k7 rfl) rfl (zM _) λG h _=>Ij h 1 rfl k.1 (Ij h 0 rfl k.2 (qu (ts:=[gU.jX]) (pg k) (qyw G) (m8 (qd k) ?_)));exact h.st' 3 rfl _ (k7 rfl) rfl (zM _) λI h _=>nP (h.at (i:=3) rfl) (pg k) (qd k) rfl (kk I h.fr)
def sF:HL sQ->Il:=λ(h,u,C,E,G,I,J,R,n)=>iH (h,u)++(iH (C,E)++(iH (G,I)++iH (J,R)))
def mW (a:HL sQ):Int:=a.2.2.2.2.2.2.2.2
def rJ (a:HL sQ):Il:=sF a++bw 8 (mW a)
def CN(a:HL sQ):(sF a).length=64:=by obtain⟨h,u,C,E,G,I,J,R,n⟩:=a;simp only[sF,zF,mo]
def qys(a:HL sQ):(rJ a).length=72:=by rw[rJ,zF,CN,ll]
def qwx{a:HL sQ}(V:∀s w',Bf w w' s (rJ a) 72->K s w'): cW 146 [HJ sQ a] dh w K:=by
 obtain⟨u,C,E,G,I,J,R,U,n⟩:=a;refine qjc<|oB (oE [] w) λr1 w1 e1 f1 h=>?_;have h:=h.drew;refine Ij h 0 rfl (u,C) (Ij h 0 rfl (E,G) (Ij h 0 rfl (I,J) (Ij h 0 rfl (R,U) (Ii h 0 rfl n ?_))));refine oB h λr8 w2 e2 f2 h=>ik (h.cell 1)<|EF (ids:=[(u,C),(E,G),(I,J),(R,U)]) (h.at (i:=0) rfl) rfl oM λs3 w3 q=>ik ((h.q7 q.fr).cell 1) (q.tA λs4 w4 q=>?_);have e:[(u,C),(E,G),(I,J),(R,U)].flatMap iH++bw 8 n=rJ (u,C,E,G,I,J,R,U,n):=by simp only[yG,flatMap_nil,rJ,mW,sF,zV,xG,xH]
 rw[e] at q;exact V s4 w4 (q.down h.fr)
def rx:HL mt->Int:=λ(_,_,_,_,_,_,_,_,_,s)=>s
def lB:HL mt->HL sQ:=λ(h,u,C,E,G,I,J,R,n,_)=>(h,u,C,E,G,I,J,R,n)
def sJ (r:HL mt):Il:=rx r::sF (lB r)
def qzh(r:HL mt):(sJ r).length=65:=by rw[sJ,yH,CN]
def qu2{a0 G:Int}{r:HL mt}{K:Sl×Sl->WP}(kk:∀s t w',kI w w' s (kW (a0,G) (mW (lB r)))->kI w w' t (sJ r)->Fr [] w w'->K (s,t) w'): cW 111 [de a0 G,HJ mt r] dr w K:=by
 refine qlR<|oB (oE [] w) λr1 w1 e1 f1 h=>oB h λr3 w2 e2 f2 h=>Ij h 0 rfl (lB r) (qwx λs w3 q=>?_);have h:=(h.q7 q.fr).drew;have hq:=(q.new.q7 (Fr.refl [] w3).drew).rd;have hn:(mW (lB r))=r.2.2.2.2.2.2.2.2.1:=rfl;have hx:(rJ (lB r)).take 64=sF (lB r):=(by rw[rJ,take_left' (CN _)]);have ak:=qys (lB r);have al:=CN (lB r);simp only[Addr.q9];refine⟨?a,?b⟩;case' a=>refine Ij h 1 rfl (a0,G) (Ii h 0 rfl (mW (lB r)) (Ii h 0 rfl (rx r) (ee.part hq 0 64 rfl rfl oM oJ λs4 _ I _=>DO λJ w5 R u=>?_)))
 case' b=>refine Ij h 1 rfl (a0,G) (Ii h 0 rfl (mW (lB r)) (Ii h 0 rfl (rx r) (ee.part hq 0 64 rfl rfl oM oJ λs4 _ I _=>?_)))
 all_goals rw[xE,hx] at I
 case a=>
  have h:=h.q7 u;refine ik (h.cell 0) (oB h λr6 w6 e6 C h=>ky (h.cell 1) (h.cells 2) ?_);exact Ck (w:=w6) (l:=[rx r]) (vR (o:=0) (n:=1) (L:=[rx r]) (h.at (i:=0) rfl) (zM _) (zM _) λh=>nomatch h) ((I.q7 u).q7 C) oJ oO λU B7 w7 V E n7=>kk J U w7 ((R.q7 (C.trans E)).up (f1.trans (f2.trans q.fr)).size) (vV V λb hb=>zL h.fr.size (n7 b hb)) (h.fr.trans E)
 case b=>
  refine oB h λr6 w6 e6 C h=>ky (h.cell 1) (h.cells 2) (DO λJ w5 R u=>?_);have h:=h.q7 u;exact ik (h.cell 1)<|Ck (w:=w5) (l:=[rx r]) (vR (o:=0) (n:=1) (L:=[rx r]) (h.at (i:=0) rfl) (zM _) (zM _) λh=>nomatch h) ((I.q7 C).q7 u) oJ oO λU B7 w7 V E n7=>kk J U w7 ((R.q7 E).up ((f1.trans (f2.trans q.fr)).drew.trans C).size) (vV V λb hb=>zL h.fr.size (n7 b hb)) (h.fr.trans E)
def AI:HL mt:=(0,0,0,0,0,0,0,0,0,0)
section
section
variable {k v c:Nat} {t:Int} {w0 w:Ic} {s:Sl} {m:Nat} {dbk pb:Nat} {FD F B:Ik} {D:dJ} {M:dV} {P:Il} {L:fP}
end
def qzj{t:Int}{k v:Nat}(h:AC t)(C:rz t=((k:Int),(v:Int))):4<=(dY k v).1:=by
 obtain⟨E,G⟩:=h;have:t=0\/t=1\/t=2\/t=3\/t=4\/t=5\/t=6\/t=7:=oJ;rcases this with rfl|rfl|rfl|rfl|rfl|rfl|rfl|rfl<;>
  (obtain⟨e1,u⟩:=vA C;have e1:=Int.ofNat.inj e1;have u:=Int.ofNat.inj u;subst e1 u;decide)
end
end
section
open Go Go.Pt List
open Go.IntKind (wrap)
open Classical
end
section
open Go Go.Pt List
open Go.IntKind (wrap)
open Classical
def BH (frm to:Key) (x:Key×Key):Bool:=decide (cmpL x.1 frm>=0)&&decide (cmpL x.1 to<=0)
def lA (frm to:Key) (L:fP):fP:=L.filter (BH frm to)
end
section
set_option linter.unusedSectionVars false
open Go Go.Pt List
open Go.IntKind (wrap)
section
variable {α:Type} {kf vf:α->Key} {L:fP} {l:List α} {a:α} {k v:Key}
def gO {κ:Type} [DecidableEq κ] (kf:α->κ) (a:α):List α->List α
 | []=>[a]
 | x::r=>if kf x=kf a then a::r else x::gO kf a r
def qsT{κ:Type}[DecidableEq κ]{kf:α->κ}:∀ {l:List α} {i:Nat} (h:i<l.length),kf l[i]=kf a->(∀(j:Nat) (C:j<i),kf (l[j]' oJ)≠kf a)->gO kf a l=l.set i a
 | x::r,0,h,e,_=>iP e
 | x::r,i+1,h,e,u=>by have E:kf x≠kf a:=u 0 oJ;rw[gO,iN E,set_cons_succ,qsT (i:=i) (oP h) e λj C=>u (j+1) oJ]
def FQ{κ:Type}[DecidableEq κ]{kf:α->κ}:∀ {l:List α},(∀x∈l,kf x≠kf a)->gO kf a l=l++[a]
 | [],_=>rfl
 | x::r,h=>by rw[gO,iN (h x oL),FQ λy u=>h y (zN _ u),xI]
def EC{κ:Type}[DecidableEq κ]{kf:α->κ}{x:α}:∀ {l:List α},x∈gO kf a l->x=a\/x∈l
 | [],h=>.inl (zE.1 h)
 | y::r,h=>by unfold gO at h;split at h;exact (zG.1 h).imp id λh=>zN _ h;rcases zG.1 h with h|h;exact .inr (by rw[h];exact HQ);exact (EC h).imp id λh=>zN _ h
def uJ{κ:Type}[DecidableEq κ]{kf:α->κ}:∀ {l:List α},(gO kf a l).length<=l.length+1
 | []=>zM _
 | y::r=>by unfold gO;split;exact Nat.le_succ _;exact Nat.succ_le_succ uJ
def qoE{κ:Type}[DecidableEq κ]{kf:α->κ}{kg:α->Key}:∀ {l:List α},(∀x∈l,kf x=kf a↔kg x=kg a)->gO kf a l=gO kg a l
 | [],_=>rfl
 | y::r,h=>by have u:=h y HQ;have ih:=qoE (l:=r) λx C=>h x (zN _ C);unfold gO;by_cases e:kf y=kf a;rw[iP e,iP (u.1 e)];rw[iN e,iN λE=>e (u.2 E),ih]
def qqr:∀ {L:fP},k∉dQ L->(fJ k v L).Perm ((k,v)::L)
 | [],_=>.refl _
 | x::r,h=>by have h:=not_mem_of_not_mem_cons h |>λu=>And.intro (λe:k=x.1=>h (by rw[e];simp)) u;unfold fJ;split;exact .refl _;rw[iN h.1];exact (List.Perm.cons x (qqr h.2)).trans (List.Perm.swap _ _ _)
def qxv:∀ {l:List α} {a b:α},(l.map kf).Nodup->a∈l->b∈l->kf b=kf a->b=a
 | x::l,a,b,h,G,E,e=>by rw[xN,nodup_cons] at h;rcases zG.1 G with rfl|C;rcases zG.1 E with rfl|u;rfl;exact absurd (by rw[<- e];exact zY u) h.1;rcases zG.1 E with rfl|u;exact absurd (by rw[e];exact zY C) h.1;exact qxv h.2 C u e
structure kC (kf vf:α->Key) (L:fP) (l:List α):Prop where
 sort:fg L
 nodup:(l.map kf).Nodup
 perm:L.Perm (l.map λa=>(kf a,vf a))
def kC.len(h:kC kf vf L l):L.length=l.length:=by rw[h.perm.length_eq,zK]
def kC.J6(h:kC kf vf L l):k∈dQ L↔∃x∈l,kf x=k:=by rw[(h.perm.map (·.1)).mem_iff,map_map];simp
def kC.nil:kC kf vf [] []:=⟨.nil,.nil,.refl _⟩
def kC.put(h:kC kf vf L l)(a:α):kC kf vf (fJ (kf a) (vf a) L) (gO kf a l):=by
 by_cases hin:∃x∈l,kf x=kf a;obtain⟨x,C,e⟩:=hin;obtain⟨P,Q,rfl⟩:=append_of_mem C;have u:=h.nodup;have I:(kf a,vf x)∈L:=h.perm.mem_iff.2 (mem_map.2 ⟨x,C,by rw[e]⟩);obtain⟨A,B,rfl⟩:=append_of_mem I;have J:=h.sort;unfold fg fL dQ at J;rw[xM,xN,pairwise_append] at J;have V:∀y∈A,fK y.1 (kf a):=λy E=>J.2.2 _ (zY E) _ oL;rw[xM,xN,yL,nodup_cons] at u;have hP:gO kf a (P++x::Q)=P++a::Q:=by
  have G:∀y∈P,kf y≠kf a:=λy E R=>u.2.2 _ (zY E) _ oL (R.trans e.symm);clear C I h u J;induction P with
  | nil=>exact iP e
  | cons y P ih=>rw[xI,gO,iN (G y oL),ih λz U=>G z (zN _ U),xI]
 rw[En V,hP];refine⟨by have:=Dq (k:=kf a) (v:=vf a) h.sort;rw[En V] at this;exact this,?_,?_⟩;rw[xM,xN,yL,nodup_cons,<- e];exact u;have hp:=h.perm;rw[xM,xN] at hp;have h1:=(perm_middle.symm.trans hp).trans perm_middle;rw[e] at h1;have h2:=List.Perm.cons_inv h1;rw[xM,xN];exact (perm_middle.trans ((h2.cons _))).trans perm_middle.symm;have hn:∀x∈l,kf x≠kf a:=λx C e=>hin ⟨x,C,e⟩;have hk:kf a∉dQ L:=λI=>hin (h.J6.1 I);rw[FQ hn];refine⟨Dq h.sort,?_,?_⟩;rw[xM,yL];exact⟨h.nodup,oL,λx C y E e=>by obtain⟨z,U,rfl⟩:=mem_map.1 C;rw[map_singleton,zE] at E;exact hn z U (e.trans E)⟩;refine (qqr hk).trans ((h.perm.cons _).trans ?_);rw[xM];exact (HO _ _).symm
def kC.cut(h:kC kf vf L l)(k:Key):kC kf vf (gj k L) (l.filter λx=>decide (kf x≠k)):=by
 refine⟨qp8 h.sort,h.nodup.sublist (filter_sublist.map _),?_⟩;have:=h.perm.filter λx=>decide (x.1≠k);rw[filter_map] at this;exact this
def kC.get(h:kC kf vf L l)(k:Key):jm k L=(l.find? λx=>decide (kf x=k)).map vf:=by
 cases u:l.find? λx=>decide (kf x=k) with
 | none=>
  rw[List.find?_eq_none] at u;exact ya λx U e=>by obtain⟨a,C,rfl⟩:=mem_map.1 (h.perm.mem_iff.1 U);exact u a C (oP e)
 | some a=>
  have C:=mem_of_find?_eq_some u;have J:kf a=k:=(by simpa using List.find?_some u);have V:(k,vf a)∈L:=h.perm.mem_iff.2 (mem_map.2 ⟨a,C,by rw[J]⟩);obtain⟨v,E⟩:=qqk (zY V:k∈dQ L);rw[E];unfold jm at E;obtain⟨z,R,rfl⟩:=yS.1 E;have G:z.1=k:=(by simpa using List.find?_some R);obtain⟨b,hb,e⟩:=mem_map.1 (h.perm.mem_iff.1 (mem_of_find?_eq_some R));have I:b=a:=
   qxv h.nodup C hb (by rw[J,<- G,<- e])
  rw[<- e,I];rfl
end
structure nR (α κ:Type) where
 key:α->κ
 g:κ->Key
 val:α->Key
 ok:α->Prop
 vY:κ->Prop
 okk:∀ a,ok a->vY (key a)
 inj:∀ k k',vY k->vY k'->g k=g k'->k=k'
section
variable {α κ:Type} [DecidableEq κ] {K:nR α κ} {L:fP} {l:List α} {a:α} {k:κ}
def lw (K:nR α κ) (L:fP) (l:List α):Prop:=kC (λa=>K.g (K.key a)) K.val L l/\∀a∈l,K.ok a
def lw.nil:lw K [] []:=⟨.nil,λ_ h=>nomatch h⟩
def lw.len(h:lw K L l):L.length=l.length:=h.1.len
def lw.iff(h:lw K L l)(u:K.vY k)(C:a∈l):K.key a=k↔K.g (K.key a)=K.g k:=⟨λe=>by rw[e],K.inj _ _ (K.okk a (h.2 a C)) u⟩
def lw.put(h:lw K L l)(C:K.ok a):lw K (fJ (K.g (K.key a)) (K.val a) L) (gO K.key a l):=
 ⟨by rw[qoE (kg:=λa=>K.g (K.key a)) λx u=>h.iff (K.okk a C) u];exact h.1.put a,λx u=>(EC u).elim (λe=>by rw[e];exact C) (h.2 x)⟩
def lw.cut(h:lw K L l)(C:K.vY k):lw K (gj (K.g k) L) (l.filter λx=>decide (K.key x≠k)):=
 ⟨by rw[filter_congr (q:=λx=>decide (K.g (K.key x)≠K.g k)) λx u=>by rw[decide_eq_decide,ne_eq,ne_eq,h.iff C u]];exact h.1.cut _,λx u=>h.2 x (mem_filter.1 u).1⟩
def lw.find(h:lw K L l)(E:K.vY k):jm (K.g k) L=(l.find? λx=>decide (K.key x=k)).map K.val:=by
 rw[h.1.get];congr 1;have:∀u:List α,(∀x∈u,x∈l)->(u.find? λx=>decide (K.g (K.key x)=K.g k))=u.find? λx=>decide (K.key x=k):=by
  intro u;induction u with
  | nil=>intro _;rfl
  | cons x r ih=>
   intro C;rw[List.find?_cons,List.find?_cons,ih λy G=>C y (zN _ G),show decide (K.g (K.key x)=K.g k)=decide (K.key x=k) from decide_eq_decide.2 (h.iff E (C x HQ)).symm]
 exact this l λ_ h=>h
def lw.mem(h:lw K L l)(C:∃x∈l,K.key x=k):K.g k∈dQ L:=h.1.J6.2 (C.elim λx u=>⟨x,u.1,by rw[u.2]⟩)
def lw.ok(h:lw K L l){x:α}(u:(l.find? λx=>decide (K.key x=k))=some x):K.ok x/\K.key x=k:=⟨h.2 x (mem_of_find?_eq_some u),by simpa using List.find?_some u⟩
end
end
section
open Go Go.Pt List
open Go.IntKind (wrap)
open Classical
structure BG (D:dJ) (M:dV) (k v b q:Nat) (t:Int) (L:fP) (P:Il):Prop where
 J1:Calm D M b q
 J2:fQ D M k v t L P
 nodup:P.Nodup
 use:∀ x,dU M x->x∈P
 many:b-2<=M.Q9.length+90+eK b
section
variable {D D':dJ} {M M':dV} {k v b q:Nat} {t:Int} {L L':fP} {P P':Il}
end
def qw6{D:dJ}{n k v:Nat}{t:Int}(G:0<=t/\t<8)(C:8<=n)(I:n<=4096)(E:(ki n).Wf)(u:Made D n):BG D (ki n) k v n 1 t [] []:=by
 have h:=qq3 (D:=D) (k:=k) (v:=v) G C I E;have e:(ki n).j9.2.getD 0 0=n:=(by show wrap .u32 (n:Int)=_;exact nD _ oJ);refine⟨⟨u.quiet,u.Q7,u.size,e,C,E,h.Q9,h.Q3,h.len,⟨(by decide:(0:Int)<=1),(by decide:(1:Int)<=1)⟩,⟨(by decide:(0:Int)<=1),(by decide:(1:Int)<=1)⟩⟩,h.J2,.nil,h.use,?_⟩;have:=h.many;have:=qok (a:=n-2) (b:=n) oJ;omega
end
section
open Go Go.Pt List
open Go.IntKind (wrap)
open Classical
variable {D:dJ}
structure od (D:dJ) (M:dV) (c:Nat) (Q:Iu) (Fo:ka):Prop where
 J0:yy D M Fo
 J1:Calm D M Q.1 Q.2
 many:c<=M.Q9.length
def lp (M:dV):dV:={ M with Q1:=[],J7:=[],J8:=[],Q2:=[] }
def qwE{M M':dV}(h:lp M'=lp M):({ M' with Q1:=M.Q1,J7:=M.J7,J8:=M.J8,Q2:=M.Q2 }:dV)=M:=by cases M;cases M';unfold lp at h;cases h;rfl
def jH (F:ka):Nat:=(F 0).1.length+(F 1).1.length+(F 2).1.length+(F 3).1.length+(F 4).1.length+(F 5).1.length+(F 6).1.length+(F 7).1.length
def qzu{t:Nat}(h:t<8):t=0\/t=1\/t=2\/t=3\/t=4\/t=5\/t=6\/t=7:=by omega
def AP{F:ka}{t:Nat}(h:t<8):(F t).1.length<=jH F:=by unfold jH;rcases qzu h with rfl|rfl|rfl|rfl|rfl|rfl|rfl|rfl<;>omega
section
variable {D:dJ} {M:dV} {c t:Nat} {Q:Iu} {F:ka} {key val:Key}
def od.y4(h:od D M c Q F):((List.range 8).flatMap λu=>(F u).2).length<=jH F:=by
 have C:∀u,u<8->(F u).2.length<=(F u).1.length:=λu E=>(h.J0.J2 u E).cQ (qzj ⟨oJ,oJ⟩ (vN E).1);have e:(List.range 8)=[0,1,2,3,4,5,6,7]:=oM;rw[e];simp only[yG,flatMap_nil,zF,xJ];unfold jH;have:=C 0 oM;have:=C 1 oM;have:=C 2 oM;have:=C 3 oM;have:=C 4 oM;have:=C 5 oM;have:=C 6 oM;have:=C 7 oM;omega
def od.use(h:od D M c Q F):∀x,dU M x->x∈(List.range 8).flatMap λu=>(F u).2:=λx C=>by obtain⟨u,E,C⟩:=h.J0.use x C;exact yJ.2 ⟨u,mem_range.2 E,C⟩
def od.Q1(h:od D M c Q F):c<=M.Q1.length+jH F:=by have C:=h.J1.Q9.length_eq;rw[zF] at C;have G:=h.many;have I:(M.J8.map (·.1)).length<=((List.range 8).flatMap λu=>(F u).2).length:=List.Nodup.length_le_of_subset h.J1.wf.y8 λx E=>h.use x (.inl E);have J:=h.y4;omega
def od.room(h:od D M c Q F)(u:t<8)(C:3*jH F+1<=c):2*(dW M t).2.2.toNat+1<=M.Q1.length:=by
 have E:=h.Q1;have G:=(h.J0.J2 t u).low;have:=AP (F:=F) u;omega
def od.next{M':dV}{L':fP}{P':Il}(h:od D M c Q F)(C:t<8)(E:fQ D M' (kv t).1 (kv t).2 t L' P')(u:nh D M M' t (F t).2 P'):od D M' c Q (oW F t (L',P')):=
 ⟨h.J0.next h.J1.Q3 C E u,h.J1.next u,by have:M'.Q9=M.Q9:=u.step.Q9;rw[this];exact h.many⟩
def nh.base{M':dV}{P P':Il}{t:Int}(h:nh D M M' t P P')(u:M.Q3=false):lp M'=lp M:=by have C:=h.step.Q3;have E:=h.step.j9;have G:=h.step.Q5;have I:=h.step.Q9;have J:=h.step.x6;cases M;cases M';unfold lp;simp_all
def od.put(h:od D M c Q F)(u:t<8)(E:3*jH F+1<=c)(G:c<=100000)(I:key.length=(kv t).1/\eI key)(J:val.length=(kv t).2/\eI val): ∃M' P',jy D (kv t).1 (kv t).2 t key val (dW M t).2.2.toNat M=(0,M')/\od D M' c Q (oW F t (fJ key val (F t).1,P'))/\lp M'=lp M:=by
 have:=AP (F:=F) u;obtain⟨M',P',e,R,C,_⟩:=qxg (vN u).2.1 ⟨oJ,oJ⟩ I J (h.J0.J2 t u) h.J1.wf h.J1.Q3 h.J1.len (h.J0.nodup t u) oJ (h.room u E);exact⟨M',P',e,h.next u R C,C.base h.J1.Q3⟩
def od.cut(h:od D M c Q F)(u:t<8)(E:3*jH F+1<=c)(G:c<=100000)(I:key∈dQ (F t).1): ∃M' P',kU D (kv t).1 (kv t).2 t key (dW M t).2.2.toNat M=(0,M')/\od D M' c Q (oW F t (gj key (F t).1,P'))/\lp M'=lp M:=by
 have:=AP (F:=F) u;obtain⟨M',P',e,J,C,_⟩:=qxO (vN u).2.1 ⟨oJ,oJ⟩ (h.J0.J2 t u) I h.J1.wf h.J1.Q3 h.J1.len (h.J0.nodup t u) oJ (h.room u E);exact⟨M',P',e,h.next u J C,C.base h.J1.Q3⟩
def od.nO(h:od D M c Q F)(E:Q.2<=1000000)(R:c+eK Q.1+jH F+2<=Q.1)(U:eK Q.1+jH F<=c):∃D' M',gC D M=((D',M'),0)/\od D' M' c (Q.1,Q.2+1) F:=by have V:=h.Q1;obtain⟨D',M',e,G,u,C⟩:=qr3 h.J1 E h.use oJ;refine⟨D',M',e,⟨⟨λt I=>(h.J0.J2 t I).kept h.J1.Q3 u,h.J0.nodup,h.J0.J3,λx J=>h.J0.use x ((u.use x).1 J)⟩,G,?_⟩⟩;have h3:=h.y4;rcases C with rfl|C;exact h.many;omega
end
def od.made{n:Nat}(u:8<=n)(C:n<=4096)(E:(ki n).Wf)(R:Made D n):od D (ki n) ((n-2)-eK (n-2)) (n,1) (λ_=>([],[])):=by have G:∀t:Nat,t<8->xn D (ki n) (kv t).1 (kv t).2 ((n-2)-eK (n-2)) t [] []:=λt I=>qq3 ⟨oJ,oJ⟩ u C E;have J:=G 0 oM;have U:BG D (ki n) (kv 0).1 (kv 0).2 n 1 0 [] []:=qw6 ⟨oM,oM⟩ u C E R;exact⟨⟨λt I=>(G t I).J2,λ_ _=>.nil,λ_ _ _ _ _ _ h=>(nomatch h),λx h=>nomatch J.use x h⟩,U.J1,Nat.le_of_eq J.many.symm⟩
def TW.up{dbk pb j u:Nat}{FD Y F:Ik}{w:Ic}{M:dV}(h:TW dbk pb FD D j w Y F M)(C:j<=u):TW dbk pb FD D u w Y F M:=⟨h.cN,h.lim.mono C,h.x8,h.hv,h.wf,h.sep⟩
abbrev Aj:If:=100
abbrev pP (r:Nat):Ie:=dG r
structure nJ (w:Ic) (Y:Ik) (sb dbk pb:Nat) (FD F:Ik) (D:dJ) (M:dV) (c:Nat) (Q:Iu) (Fo:ka):Prop where
 tw:TW dbk pb FD D (5000*Q.2) w Y F M
 st:od D M c Q Fo
 cell:w.heap[sb]?=some (.c #[pP pb] Aj)
 out:sb∉F
section
variable {w w':Ic} {Q:Iu} {sb dbk pb c t:Nat} {Y FD F F':Ik} {D:dJ} {M M':dV} {Fo Fo':ka} {key val:Key} {ks vs:Sl}
def nJ.q7(h:nJ w Y sb dbk pb FD F D M c Q Fo)(f:Fr [] w w'):nJ w' Y sb dbk pb FD F D M c Q Fo:=⟨h.tw.q7 f,h.st,by rw[f.block sb (eX h.cell) λh=>nomatch h];exact h.cell,h.out⟩
def nJ.qO{K:Option Addr->Prop}(h:nJ w Y sb dbk pb FD F D M c Q Fo)(u:K (pW pb)):nn (pW sb) λa=>ld .ptr a w K:=fu (io h.cell (pW pb) rfl u)
def nJ.x6(h:nJ w Y sb dbk pb FD F D M c Q Fo)(u:TW dbk pb FD D (5000*Q.2) w' Y F' M')(C:od D M' c Q Fo')(f:Fr F w w')(n:∀b∈F',b∈F\/w.heap.size<=b):nJ w' Y sb dbk pb FD F' D M' c Q Fo':=
 ⟨u,C,by rw[f.block sb (eX h.cell) h.out];exact h.cell,λE=>(n sb E).elim h.out λG=>by have:=eX h.cell;omega⟩
def nJ.put{K:Int->WP}(h:nJ w Y sb dbk pb FD F D M c Q Fo)(u:t<8)(J:3*jH Fo+1<=c)(C:c<=100000)(E:key.length=(kv t).1/\eI key)(G:val.length=(kv t).2/\eI val)(U:en (Zo FD Y F) w ks key)(V:en (Zo FD Y F) w vs val)(kk:∀F' w' M' P',nJ w' Y sb dbk pb FD F' D M' c Q (oW Fo t (fJ key val (Fo t).1,P'))->lp M'=lp M->Fr F w w'->(∀b∈F',b∈F\/w.heap.size<=b)->K 0 w'): cW 50 [pP pb,.i t,ks.v,vs.v] di w K:=by
 obtain⟨M',P',e,hS,hB⟩:=h.st.put (key:=key) (val:=val) u J C E G;have hl:=(h.st.J0.J2 t u).low;have:=AP (F:=Fo) u;have I:=vN u;refine qzJ (f:=(dW M t).2.2.toNat) E.2 G.2 I.1 oJ E.1 G.1 h.tw U V ⟨hl.2,oJ⟩ (h.st.room u J) (qtK e) λF' w' R f n=>?_;rw[e] at R⊢;exact kk F' w' M' P' (h.x6 R hS f n) hB f n
def nJ.cut{K:Int->WP}(h:nJ w Y sb dbk pb FD F D M c Q Fo)(C:t<8)(I:3*jH Fo+1<=c)(J:c<=100000)(u:key∈dQ (Fo t).1)(U:en (Zo FD Y F) w ks key)(V:∀F' w' M' P',nJ w' Y sb dbk pb FD F' D M' c Q (oW Fo t (gj key (Fo t).1,P'))->lp M'=lp M->Fr F w w'->(∀b∈F',b∈F\/w.heap.size<=b)->K 0 w'): cW 61 [pP pb,.i t,ks.v] di w K:=by
 obtain⟨M',P',e,hS,hB⟩:=h.st.cut (key:=key) C I J u;have E:=h.st.J0.J2 t C;have hl:=E.low;have:=AP (F:=Fo) C;have G:=vN C;obtain⟨x,hx,rfl⟩:=mem_map.1 u;obtain⟨q1,q2,q3,q4⟩:=E.sort.2 x hx;obtain⟨y,hy⟩:=qqk u;have R:=E.get (key:=x.1) h.st.J1.wf h.st.J1.Q3;rw[hy] at R;refine qzz (f:=(dW M t).2.2.toNat) (f2:=(dW M t).2.2.toNat) q3 G.2.1 G.1 oJ q1 h.tw U ⟨hl.2,oJ⟩ (h.st.room C I) (by rw[R]) (E.Q6 G.2.1 u h.st.J1.wf h.st.J1.Q3 (h.st.J0.nodup t C) (h.st.room C I)) λF' w' E f n=>?_;rw[e] at E⊢;exact V F' w' M' P' (h.x6 E hS f n) hB f n
def nJ.get{K:It->WP}(h:nJ w Y sb dbk pb FD F D M c Q Fo)(G:t<8)(I:key.length=(kv t).1/\eI key)(rk:en (Zo FD Y F) w ks key)(J:∀s w' z e,(jm key (Fo t).1=some z/\e=0)\/(jm key (Fo t).1=none/\z=[]/\e=5)->en (Zo FD Y F) w' s z->(e=0->z.length=(kv t).2)->eI z->Fr [] w w'->K (s,e) w'): cW 47 [pP pb,.i t,ks.v] dm w K:=by
 have E:=vN G;have R:=h.st.J0.J2 t G;have U:=R.get (key:=key) h.st.J1.wf h.st.J1.Q3;refine Gj (f:=(dW M t).2.2.toNat) I.2 E.1 oJ I.1 h.tw rk ?_ λs w' u f=>?_;rw[U];cases jm key (Fo t).1 with
 | none=>exact (by decide:(5:Int)≠-1)
 | some y=>exact (by decide:(0:Int)≠-1)
 have u:=u _ h.tw.sP;rw[U] at u⊢;cases C:jm key (Fo t).1 with
 | none=>
  rw[C] at u;exact J s w' [] 5 (.inr ⟨C,rfl,rfl⟩) u (λh=>nomatch h) (λ_ h=>nomatch h) f
 | some y=>
  rw[C] at u;unfold jm at C;obtain⟨z,V,rfl⟩:=yS.1 C;have hm:=R.sort.2 z (mem_of_find?_eq_some V);exact J s w' _ 0 (.inl ⟨by unfold jm;rw[V];rfl,rfl⟩) u (λ_=>hm.2.1) hm.2.2.2 f
end
section
def quV{dbk pb j:Nat}{FD Y F:Ik}{w:Ic}{M:dV}{K:Int->WP}(h:TW dbk pb FD D j w Y F M)(hj:j<=900000)(ht:0<=M.x6/\M.x6<=1000000000)(G:HG∉FD)(kk:∀C F' w',TW dbk pb C (gC D M).1.1 (j+5000) w' Y F' (gC D M).1.2->Fr (FD++F) w w'->(∀b∈C++F',b∈FD++F\/w.heap.size<=b)->K (gC D M).2 w'): cW 72 [dG pb] di w K:=by
 have I:HG∈FD++HG::Y:=oL;have J:HG∉F:=h.x8.sep HG I;refine qts h.cN h.lim h.x8 (λb u=>zH _ u) h.wf oJ ht h.hv G λC F' w' d' l' p' R=>?_;have V:∀b∈C++F',b∈FD++F\/w.heap.size<=b:=R.2;refine kk C F' w' ⟨d',l',p'.tl λb u=>?_,h.hv.q8 R.1 λU=>(zD.1 U).elim G J,qwJ h.wf,λb u=>⟨λU=>?_,(h.sep b u).2⟩⟩ R.1 V;rcases zD.1 u with u|u;exact zH _ u;refine zI _ (zI _ u);rcases V b (zH _ U) with E|E;rcases zD.1 E with E|E;exact (h.sep b u).1 E;exact h.yf b u E;have:=h.qw b u;omega
structure Duo (w0 w:Ic) (O:Ik) (da pa:Nat) (Xa Fa:Ik) (Da:dJ) (ja:Nat) (Ma:dV) (db pb:Nat) (Xb Fb:Ik) (Db:dJ) (jb:Nat) (Mb:dV):Prop where
 a:TW da pa Xa Da ja w (Xb++(Fb++O)) Fa Ma
 b:TW db pb Xb Db jb w (Xa++(Fa++O)) Fb Mb
 Hy:∀ x∈Xa++Fa,w0.heap.size<=x
 Hz:∀ x∈Xb++Fb,w0.heap.size<=x
 Hx:∀ x∈O,w0.heap.size<=x
 hg:HG<w0.heap.size
 fr:Fr [] w0 w
section
variable {w0 w w':Ic} {O O':Ik} {da pa db pb:Nat} {Xa Fa Xb Fb Xa' Fa':Ik} {Da Db Da':dJ} {ja jb ja':Nat} {Ma Mb Ma':dV}
end
end
end
section
open Go Go.Pt List
open Go.IntKind (wrap)
abbrev Mv:=je×Int×je
abbrev Ln:=je×HL mt
def mX (m:Mv):je×Int:=(m.1,m.2.1)
def rf (x:Ln):je×Int:=(x.1,mW (lB x.2))
def kB (d:HL iI):Io:=(d.1,d.2.1)
def BM (d:HL iI):je:=(d.2.2.1,d.2.2.2)
def pV (k:Kp):je:=px k.1
def lu.inj{a b:je}(u:lu a)(C:lu b)(h:iH a=iH b):a=b:=EO u.ok C.ok h
abbrev uy (p:je×Int):Prop:=lu p.1/\IntKind.u64.has p.2
def uy.inj{a b:je×Int}(u:uy a)(C:uy b)(h:kW a.1 a.2=kW b.1 b.2):a=b:=by obtain⟨E,G⟩:=qxz u.1.ok C.1.ok (qI u.2) (qI C.2) h;exact Prod.ext E G
def T64.inj{a b:Io}(u:lu a)(C:lu b)(h:kQ a.1 a.2=kQ b.1 b.2):a=b:=EO u.ok C.ok h
def BZ:nR (HL iJ) je:=⟨kr,iH,pC,jx iJ,lu,λa h=>⟨h.1,h.2.1⟩,λ_ _=>lu.inj⟩
def BR:nR Kp je:=⟨pV,iH,sW,tj,lu,λa h=>⟨h.1.1,h.1.2.1⟩,λ_ _=>lu.inj⟩
def GC:nR (je×Int) je:=⟨λx=>x.1,iH,λx=>[x.2],λx=>lu x.1/\IntKind.u8.has x.2,lu,λa h=>h.1,λ_ _=>lu.inj⟩
def sM:nR (HL iI) (Io):=⟨kB,λp=>kQ p.1 p.2,λd=>iH (BM d),jx iI,lu,λa h=>⟨h.1,h.2.1⟩,λ_ _=>T64.inj⟩
def BV:nR Mv (je×Int):=⟨mX,λp=>kW p.1 p.2,λm=>iH m.2.2,λm=>uy (mX m)/\lu m.2.2,uy,λa h=>h.1,λ_ _=>uy.inj⟩
def Av:nR Ln (je×Int):=⟨rf,λp=>kW p.1 p.2,λx=>sJ x.2,λx=>lu x.1/\jx mt x.2,uy,λa h=>⟨h.1,h.2.2.2.2.2.2.2.2.2.1⟩,λ_ _=>uy.inj⟩
abbrev Gh:=Nat×dJ×dV
structure Bk where
 acc:List (HL iJ)
 jB:List Kp
 jT:List (je×Int)
 due:List (HL iI)
 k6:List Mv
 lg:List Mv
 jn:List Ln
 last:Option Int
 gn:Nat
 /-- The disk's blocks,the commits; what no operation turns but a nO. -/
 cm:Nat×Nat×Gh
def qC (o:Option Int):fP:=o.toList.map λn=>([1],bw 8 n)
structure Hb (T:Nat->fP) (b:Bk):Prop where
 acc:lw BZ (T 0) b.acc
 jB:lw BR (T 1) b.jB
 jT:lw GC (T 2) b.jT
 due:lw sM (T 3) b.due
 k6:lw BV (T 4) b.k6
 lg:lw BV (T 5) b.lg
 jn:lw Av (T 6) b.jn
 pI:T 7=qC b.last
def Bk.size (b:Bk):Nat:=b.acc.length+b.jB.length+b.jT.length+b.due.length+b.k6.length+b.lg.length+b.jn.length+b.last.toList.length
def Bk.kO (b:Bk) (a:HL iJ):Bk:={ b with acc:=gO kr a b.acc }
def Bk.kG (b:Bk) (k:Kp):Bk:={ b with jB:=gO pV k b.jB }
def Bk.mR (b:Bk) (m:Mv):Bk:={ b with k6:=gO mX m b.k6 }
def Bk.pc (b:Bk) (m:Mv):Bk:={ b with lg:=gO mX m b.lg }
def Bk.lG (b:Bk) (x:je×Int):Bk:={ b with jT:=gO (λx=>x.1) x b.jT }
def Bk.lY (b:Bk) (x:Ln):Bk:={ b with jn:=gO rf x b.jn }
def lP (a b:HL iI):Bool:=decide (a.1<b.1\/a.1=b.1/\a.2.1<b.2.1)
def jS (d:HL iI):List (HL iI)->List (HL iI)
 | []=>[d]
 | x::r=>if lP d x then d::x::r else x::jS d r
def gH (d:HL iI) (l:List (HL iI)):List (HL iI):=l.filter λx=>decide (kB x≠kB d)
def Bk.jh (b:Bk) (d:HL iI):Bk:={ b with due:=gH d b.due }
def Bk.i9 (b:Bk) (d:HL iI):Bk:={ b with due:=jS d (gH d b.due) }
def mK (b:Bk) (i:je):Option (HL iJ):=b.acc.find? λx=>decide (kr x=i)
def mD (b:Bk) (i:je):Option Kp:=b.jB.find? λx=>decide (pV x=i)
def ww (t:HL ls):Mv:=((t.2.2.1,t.2.2.2.1),t.2.2.2.2.2.2.2.2.2.2.2.2.2.2.2,px t)
def A8 (t:HL ls):Mv:=((t.2.2.2.2.1,t.2.2.2.2.2.1),t.2.2.2.2.2.2.2.2.2.2.2.2.2.2.2,px t)
def Bk.jo (b:Bk) (k:Kp):Bk:=((b.kG k).mR (ww k.1)).pc (A8 k.1)
def Bk.wP (b:Bk):Bk:={ b with cm:=(b.cm.1,b.cm.2.1+1,b.cm.2.2) }
def wX (q:Nat×Nat×Gh):Bk:=⟨[],[],[],[],[],[],[],none,0,q⟩
def Bk.gs (b:Bk) (g:Gh):Bk:={ b with cm:=(b.cm.1,b.cm.2.1,g) }
def Bk.jL (b:Bk) (n:Int):Bk:={ b with last:=some n }
def CV{d:HL iI}:∀ {l:List (HL iI)},(jS d l).Perm (d::l)
 | []=>.refl _
 | x::r=>by unfold jS;split;exact .refl _;exact (CV.cons x).trans (.swap _ _ _)
def lw.perm{α κ:Type}{K:nR α κ}{L:fP}{l l':List α}(h:lw K L l)(p:l.Perm l'):lw K L l':=
 ⟨⟨h.1.sort,(p.map _).nodup_iff.1 h.1.nodup,h.1.perm.trans (p.map _)⟩,λx u=>h.2 x (p.mem_iff.2 u)⟩
def qqR{α κ:Type}[DecidableEq κ]{kf:α->κ}{a:α}:∀ {l:List α},(l.map kf).Nodup->(gO kf a l).Perm (a::l.filter λx=>decide (kf x≠kf a))
 | [],_=>.refl _
 | x::r,h=>by rw[xN,nodup_cons] at h;unfold gO;by_cases e:kf x=kf a;rw[iP e,filter_cons,iN (by simp[e]),filter_eq_self.2 λy u=>by have:kf y≠kf a:=λC=>h.1 (by rw[e,<- C];exact zY u);simpa using this];rw[iN e,filter_cons,iP (oP e)];exact ((qqR h.2).cons x).trans (.swap _ _ _)
def lw.nodup{α κ:Type}{K:nR α κ}{L:fP}{l:List α}(h:lw K L l):(l.map K.key).Nodup:=by
 have:=h.1.nodup;rw[show (λa=>K.g (K.key a))=K.g∘K.key from rfl,<- map_map] at this;exact this.of_map _ λa b h e=>h (by rw[e])
def my (T:Nat->fP) (t:Nat) (L:fP):Nat->fP:=λu=>if u=t then L else T u
section
variable {T:Nat->fP} {b:Bk}
def Hb.kO(h:Hb T b){a:HL iJ}(u:jx iJ a):Hb (my T 0 (fJ (iH (kr a)) (pC a) (T 0))) (b.kO a):=⟨h.acc.put u,h.jB,h.jT,h.due,h.k6,h.lg,h.jn,h.pI⟩
def Hb.kG(h:Hb T b){a:Kp}(u:tj a):Hb (my T 1 (fJ (iH (pV a)) (sW a) (T 1))) (b.kG a):=⟨h.acc,h.jB.put u,h.jT,h.due,h.k6,h.lg,h.jn,h.pI⟩
def Hb.lG(h:Hb T b){a:je×Int}(u:lu a.1/\IntKind.u8.has a.2):Hb (my T 2 (fJ (iH a.1) [a.2] (T 2))) (b.lG a):=⟨h.acc,h.jB,h.jT.put u,h.due,h.k6,h.lg,h.jn,h.pI⟩
def Hb.mR(h:Hb T b){a:Mv}(u:uy (mX a)/\lu a.2.2):Hb (my T 4 (fJ (kW a.1 a.2.1) (iH a.2.2) (T 4))) (b.mR a):=⟨h.acc,h.jB,h.jT,h.due,h.k6.put u,h.lg,h.jn,h.pI⟩
def Hb.pc(h:Hb T b){a:Mv}(u:uy (mX a)/\lu a.2.2):Hb (my T 5 (fJ (kW a.1 a.2.1) (iH a.2.2) (T 5))) (b.pc a):=⟨h.acc,h.jB,h.jT,h.due,h.k6,h.lg.put u,h.jn,h.pI⟩
def Hb.lY(h:Hb T b){a:Ln}(u:lu a.1/\jx mt a.2):Hb (my T 6 (fJ (kW a.1 (mW (lB a.2))) (sJ a.2) (T 6))) (b.lY a):=⟨h.acc,h.jB,h.jT,h.due,h.k6,h.lg,lw.put (K:=Av) (a:=a) h.jn u,h.pI⟩
def Hb.jh(h:Hb T b){d:HL iI}(u:jx iI d):Hb (my T 3 (gj (kQ d.1 d.2.1) (T 3))) (b.jh d):=⟨h.acc,h.jB,h.jT,lw.cut (K:=sM) (k:=kB d) h.due ⟨u.1,u.2.1⟩,h.k6,h.lg,h.jn,h.pI⟩
def Hb.i9(h:Hb T b){d:HL iI}(u:jx iI d):Hb (my T 3 (fJ (kQ d.1 d.2.1) (iH (BM d)) (T 3))) (b.i9 d):=⟨h.acc,h.jB,h.jT,(lw.put (K:=sM) (a:=d) h.due u).perm ((qqR h.due.nodup).trans CV.symm),h.k6,h.lg,h.jn,h.pI⟩
def Hb.jL(h:Hb T b){n:Int}:Hb (my T 7 (fJ [1] (bw 8 n) (T 7))) (b.jL n):=⟨h.acc,h.jB,h.jT,h.due,h.k6,h.lg,h.jn,by
 show fJ [1] (bw 8 n) (T 7)=qC (some n);rw[h.pI];cases b.last with
 | none=>rfl
 | some x=>simp[qC,fJ,cmpL]⟩
def Hb.size(h:Hb T b):(T 0).length+(T 1).length+(T 2).length+(T 3).length+(T 4).length+(T 5).length+(T 6).length+(T 7).length=b.size:=by rw[h.acc.len,h.jB.len,h.jT.len,h.due.len,h.k6.len,h.lg.len,h.jn.len,h.pI,qC,zK];rfl
def qAN(q:Nat×Nat×Gh):Hb (λ_=>[]) ⟨[],[],[],[],[],[],[],none,0,q⟩:=⟨.nil,.nil,.nil,.nil,.nil,.nil,.nil,rfl⟩
end
end
section
open Go Go.Pt List
open Go.IntKind (wrap)
open Classical
variable {K:Int->WP} {L:Ip} {T:Ik} {u:Int} {wa:Ic}
structure mU (F:Ik) (w:Ic) (F':Ik) (w':Ic):Prop where
 fr:Fr F w w'
 new:∀ x∈F',x∈F\/w.heap.size<=x
section
variable {F F' F2:Ik} {w w' w2:Ic}
def mU.trans(h:mU F w F' w')(k:mU F' w' F2 w2):mU F w F2 w2:=⟨h.fr.j8 k.fr h.new,λx u=>(k.new x u).elim (h.new x) λC=>.inr (zL h.fr.size C)⟩
def mU.pre(f:Fr [] w w')(k:mU F w' F' w2):mU F w F' w2:=⟨(f.mono λ_ h _=>nomatch h).trans k.fr,λx u=>(k.new x u).imp id λh=>zL f.size h⟩
def mU.Q3{B:Ik}(h:mU F w F' w'):mU (B++F) w (B++F') w':=⟨h.fr.mono λ_ h _=>zI _ h,λx C=>(zD.1 C).elim (λu=>.inl (zH _ u)) λu=>(h.new x u).imp (zI _) id⟩
end
def qJ (w:Ic) (Y:Ik) (sb pb:Nat) (F:Ik) (c:Nat) (b:Bk):Prop:=∃dbk FD h D M Fo,F=FD++h/\nJ w Y sb dbk pb FD h D M c (b.cm.1,b.cm.2.1) Fo/\HG∉FD/\sb∉FD/\Hb (λt=>(Fo t).1) b/\c<=100000/\b.cm.2.1<=150/\b.cm.2.2=(pb,D,lp M)
def SB (w:Ic) (Y:Ik) (sb:Nat) (F:Ik) (c:Nat) (b:Bk):Prop:=∃pb,qJ w Y sb pb F c b
section
variable {w w' w1:Ic} {Y Y' F F':Ik} {sb c:Nat} {b b':Bk}
def SB.q7(h:SB w Y sb F c b)(f:Fr [] w w'):SB w' Y sb F c b:=by obtain⟨pb,dbk,FD,E,D,M,Fo,rfl,G,u,C,I,J,R⟩:=h;exact⟨pb,dbk,FD,E,D,M,Fo,rfl,G.q7 f,u,C,I,J,R⟩
def SB.y0(h:SB w Y sb F c b)(G:∀b∈Y',b∈Y):SB w Y' sb F c b:=by obtain⟨pb,dbk,FD,I,D,M,Fo,rfl,u,C,E,J,R,U⟩:=h;exact⟨pb,dbk,FD,I,D,M,Fo,rfl,⟨u.tw.y0 G,u.st,u.cell,u.out⟩,C,E,J,R,U⟩
def SB.yf(h:SB w Y sb F c b):∀b∈Y,b∉F:=by obtain⟨pb,dbk,FD,J,D,M,Fo,rfl,u,E,G,R,U,V⟩:=h;exact λb C I=>(zD.1 I).elim (λh=>(u.tw.sep b C).1 h) (u.tw.yf b C)
def SB.GW{L':Ip}(h:SB wa (fk L++Y) sb F c b)(G:sb∉fk L)(o:dR (fk L) wa w L'):SB w (fk L'++Y) sb F c b:=by obtain⟨pb,dbk,FD,I,D,M,Fo,rfl,u,C,E,J,R,U⟩:=h;exact⟨pb,dbk,FD,I,D,M,Fo,rfl,⟨u.tw.J0 o,u.st,o.pJ u.cell G,u.out⟩,C,E,J,R,U⟩
def SB.own(h:SB w (fk L++Y) sb F c b)(o:dR T wa w L)(s:mU F w F' w'):dR (fk L) w' w' L:=qv o s.fr λb u=>h.yf b (zH _ u)
def SB.lt(h:SB w Y sb F c b):sb<w.heap.size:=by obtain⟨pb,dbk,FD,G,D,M,Fo,rfl,u,C,E,I,J,R⟩:=h;exact eX u.cell
def qJ.qO{pb:Nat}{K:Addr->Option Addr->Prop}(h:qJ w1 Y sb pb F c b)(f:Fr [] w1 w)(u:K (dg sb) (pW pb)):nn (pW sb) λa=>ld .ptr a w (K a):=by
 obtain⟨dbk,FD,I,D,M,Fo,rfl,C,E,G,J,R,U⟩:=h;have:=(C.q7 f).cell;exact fu (io this (pW pb) rfl u)
def qJ.held{pb:Nat}(h:qJ w1 Y sb pb F c b)(f:Fr [] w1 w):w.cell? (dg sb)=some (dG pb):=by obtain⟨dbk,FD,G,D,M,Fo,rfl,u,C,E,I,J,R⟩:=h;rw[jp (u.q7 f).cell];rfl
def qJ.put{t pb:Nat}{g v:Key}{ks vs:Sl}{K:Int->WP}(h:qJ w1 Y sb pb F c b)(f:Fr [] w1 w)(hr:3*b.size+1<=c)(ht:t<8)(hk:g.length=(kv t).1/\eI g)(hv:v.length=(kv t).2/\eI v)(rk:kI w1 w ks g)(rv:kI w1 w vs v)(E:∀T,Hb T b->Hb (my T t (fJ g v (T t))) b')(kk:∀F' w',qJ w' Y sb pb F' c b'->mU F w1 F' w'->K 0 w')(C:b'.cm=b.cm:=by rfl):cW 50 [dG pb,.i t,ks.v,vs.v] di w K:=by
 obtain⟨dbk,FD,Fp,D,M,Fo,rfl,G,I,J,U,V,hj⟩:=h;have h1:=G.q7 f;refine h1.put ht (by have:=U.size;unfold jH;omega) V hk hv (rk.to G.tw.sP) (rv.to G.tw.sP) λF' w' M' P' R hB f2 n=>kk (FD++F') w' ⟨dbk,FD,F',D,M',_,rfl,by rw[C];exact R,I,J,?_,V,by rw[C,hB];exact hj⟩ (.pre f (mU.Q3 ⟨f2,n⟩));have e:(λu=>(oW Fo t (fJ g v (Fo t).1,P') u).1)=my (λu=>(Fo u).1) t (fJ g v (Fo t).1):=by funext u;unfold oW my;split<;>rfl
 rw[e];exact E _ U
def qJ.get{t pb:Nat}{g:Key}{ks:Sl}{α κ:Type}[DecidableEq κ]{T:nR α κ}{l:List α}{k:κ}{K:It->WP}(h:qJ w1 Y sb pb F c b)(J:Fr [] w1 w)(R:t<8)(U:g.length=(kv t).1/\eI g)(V:kI w1 w ks g)(hT:∀P,Hb P b->lw T (P t) l)(hg:g=T.g k)(G:T.vY k)(k0:∀s w',(l.find? λx=>decide (T.key x=k))=none->Fr [] w w'->K (s,5) w')(k1:∀s w' x,(l.find? λx=>decide (T.key x=k))=some x->T.ok x->T.key x=k->en [] w' s (T.val x)->Fr [] w w'->K (s,0) w'): cW 47 [dG pb,.i t,ks.v] dm w K:=by
 obtain⟨dbk,FD,Fp,D,M,Fo,rfl,I,ae,af,hb,hc,hj⟩:=h;subst hg;have h1:=I.q7 J;refine h1.get R U (V.to I.tw.sP) λs w' z e E hz _ _ f=>?_;have q:=hT _ hb;have u:=q.find G;rcases E with ⟨E,rfl⟩|⟨E,rfl,rfl⟩;rw[E] at u;cases C:l.find? λx=>decide (T.key x=k) with
 | none=>rw[C] at u;cases u
 | some x=>
  rw[C] at u;cases u
  have:=q.ok C;exact k1 s w' x C this.1 this.2 (hz.j6 λ_ h=>nomatch h) f
 rw[E] at u;cases C:l.find? λx=>decide (T.key x=k) with
 | none=>exact k0 s w' C f
 | some x=>rw[C] at u;cases u
def SB.put{t:Nat}{g v:Key}{ks vs:Sl}{K:Int->WP}(h:SB w1 Y sb F c b)(f:Fr [] w1 w)(E:3*b.size+1<=c)(G:t<8)(I:g.length=(kv t).1/\eI g)(J:v.length=(kv t).2/\eI v)(R:kI w1 w ks g)(U:kI w1 w vs v)(u:∀T,Hb T b->Hb (my T t (fJ g v (T t))) b')(V:∀F' w',SB w' Y sb F' c b'->mU F w1 F' w'->K 0 w')(C:b'.cm=b.cm:=by rfl):nn (pW sb) λa=>ld .ptr a w λp=>cW 50 [.p p,.i t,ks.v,vs.v] di w K:=
 h.elim λpb h=>h.qO f (h.put f E G I J R U u (λF' w' h=>V F' w' ⟨pb,h⟩) C)
def SB.get{t:Nat}{g:Key}{ks:Sl}{α κ:Type}[DecidableEq κ]{T:nR α κ}{l:List α}{k:κ}{K:It->WP}(h:SB w1 Y sb F c b)(C:Fr [] w1 w)(E:t<8)(G:g.length=(kv t).1/\eI g)(I:kI w1 w ks g)(J:∀P,Hb P b->lw T (P t) l)(R:g=T.g k)(u:T.vY k)(U:∀s w',(l.find? λx=>decide (T.key x=k))=none->Fr [] w w'->K (s,5) w')(V:∀s w' x,(l.find? λx=>decide (T.key x=k))=some x->T.ok x->T.key x=k->en [] w' s (T.val x)->Fr [] w w'->K (s,0) w'): nn (pW sb) λa=>ld .ptr a w λp=>cW 47 [.p p,.i t,ks.v] dm w K:=
 h.elim λpb h=>h.qO C (h.get C E G I J R u U V)
end
section
def qM:HL iJ:=(0,0,0,0,0,0,0,0,0,0,0,0,0,0,0)
def pG{a b:Il}(h:eI a)(u:eI b):eI (a++b):=λx C=>(zD.1 C).elim (h x) (u x)
def qyr(a:HL iJ):eI (pC a):=pG (oY _) (pG (oY _) (pG (oY _) (pG (oY _) (pG (pA _ _) (pG (pA _ _) (pG (pA _ _) (pG (pA _ _) (pA _ _))))))))
def qzn(a:HL ls):eI (po a):=pG (oY _) (pG (oY _) (pG (oY _) (pG (oY _) (pG (pA _ _) (pG (pA _ _) (pG (pA _ _) (pG (pA _ _) (pG (pA _ _) (pA _ _)))))))))
def qz8(k:Kp):eI (sW k):=pG (qzn _) (oY _)
def qzg{r:HL mt}(h:jx mt r):eI (sJ r):=λx u=>by rcases zG.1 u with rfl|u;exact qzx h.2.2.2.2.2.2.2.2.2;exact (pG (oY _) (pG (oY _) (pG (oY _) (oY _)))) x u
section
variable {w w' w1:Ic} {Y F:Ik} {sb c:Nat} {b b':Bk}
def SB.cut{t:Nat}{g:Key}{ks:Sl}{K:Int->WP}(h:SB w1 Y sb F c b)(f:Fr [] w1 w)(hr:3*b.size+1<=c)(ht:t<8)(rk:kI w1 w ks g)(E:∀T,Hb T b->g∈dQ (T t))(G:∀T,Hb T b->Hb (my T t (gj g (T t))) b')(kk:∀F' w',SB w' Y sb F' c b'->mU F w1 F' w'->K 0 w')(C:b'.cm=b.cm:=by rfl):nn (pW sb) λa=>ld .ptr a w λp=>cW 61 [.p p,.i t,ks.v] di w K:=by
 obtain⟨pb,dbk,FD,Fp,D,M,Fo,rfl,V,I,J,R,hc,hj⟩:=h;have h1:=V.q7 f;refine h1.qO (h1.cut ht (by have:=R.size;unfold jH;omega) hc (E _ R) (rk.to V.tw.sP) λF' w' M' P' U hB f2 n=>kk (FD++F') w' ⟨pb,dbk,FD,F',D,M',_,rfl,by rw[C];exact U,I,J,?_,hc,by rw[C,hB];exact hj⟩ (.pre f (mU.Q3 ⟨f2,n⟩)));have e:(λu=>(oW Fo t (gj g (Fo t).1,P') u).1)=my (λu=>(Fo u).1) t (gj g (Fo t).1):=by funext u;unfold oW my;split<;>rfl
 rw[e];exact G _ R
def qzK{i0:Int}{K:HL iJ×Bool->WP}(h:SB w Y sb F c b)(hi:lu (i0,u))(kk:∀w',Fr [] w w'->K ((mK b (i0,u)).getD qM,(mK b (i0,u)).isSome) w'): cW 22 [dG sb,de i0 u] [.agg iJ,.one .bool] w K:=by
 refine qhF<|oB (oE [] w) λr1 w1 _ f1 o=>oB o λr3 w2 _ f2 o=>Ij o 1 rfl (i0,u) (vH λr4 w3 hk f3=>?_);have E:∀(x:HL iJ) (U:Bool) (J:Ic),Fr [] w3 J->(x=(mK b (i0,u)).getD qM/\U=(mK b (i0,u)).isSome)->Pt.st (dg r3) (HL.mk pR x) J λC=>dL pR (dg r3) C λt=>K (t,U) C:=λx U J G e=>by rw[e.1,e.2];exact oG (o.q7 (f3.trans G)) 0 rfl _ (k7 rfl) rfl (zM _) λC o _=>oC o 0 rfl _ rfl (kk C o.fr)
 refine qoR<|oB (oE [] w3) λr5 J _ G o2=>SB.get (T:=BZ) (k:=(i0,u)) (l:=b.acc) (t:=0) h (o.fr.trans (f3.trans G)) oM ⟨mo _,oY _⟩ ((hk.q7 G).up o.fr.size) (λP q=>q.acc) rfl hi (λs C hn R=>?_) λs C x hx V he hv R=>?_;refine HK rfl (oB (o2.q7 R) λr6 w6 _ f6 o3=>Ij o3 0 rfl qM (o3.st' 1 rfl _ (k7 rfl) rfl (zM _) λw7 I f7=>Ij I 1 rfl qM ?_));exact E _ _ w7 I.fr ⟨by rw[show mK b (i0,u)=none from hn];rfl,by rw[show mK b (i0,u)=none from hn];rfl⟩;refine HM rfl (rZ (lb:=[]) rfl oK (qu4 ((hk.rd.q7 G).q7 R |>λq=>by rw[<- he] at q;exact q) hv V λw6 f6=>?_));exact oG ((o2.q7 R).q7 f6) 0 rfl _ (k7 rfl) rfl (zM _) λw7 I f7=>Ij I 0 rfl x<|E _ _ w7 I.fr ⟨by rw[show mK b (i0,u)=some x from hx];rfl,by rw[show mK b (i0,u)=some x from hx];rfl⟩
end
end
section
section
variable {w w' w1:Ic} {Y F:Ik} {sb c:Nat} {b b':Bk}
def G8{a:HL iJ}(h:SB w Y sb F c b)(C:3*b.size+1<=c)(E:jx iJ a)(G:∀F' w',SB w' Y sb F' c (b.kO a)->mU F w F' w'->K 0 w'): cW 20 [dG sb,HJ iJ a] di w K:=by refine qfU<|oB (oE [] w) λU w1 _ u o=>Ij o 0 rfl a (qu1 λs t w2 I J R=>?_);exact SB.put (t:=0) h (u.trans R) C oM ⟨mo _,oY _⟩ ⟨F9 _,qyr _⟩ (I.up u.size) (J.up u.size) (λT q=>q.kO E) G
def qzL{i0:Int}{K:List Ie×Bool->WP}(h:SB w Y sb F c b)(hi:lu (i0,u))(kk:∀w',Fr [] w w'->K (pg ((mD b (i0,u)).getD v8),(mD b (i0,u)).isSome) w'): cW 23 [dG sb,de i0 u] dC w K:=by
 refine qgG<|oB (oE [] w) λr1 w1 _ f1 o=>oI o A3 λr3 w2 _ o=>Ij o 1 rfl (i0,u) (vH λr4 w3 hk f3=>?_);have hz:=A3;have E:∀(x:Kp) (U:Bool) (J:Ic),Fr [] w3 J->(x=(mD b (i0,u)).getD v8/\U=(mD b (i0,u)).isSome)->gB ((pg x).length=18) (Pt.st (dg r3) (pg x) J λC=>gZ 18 (dg r3) C λt=>K (t,U) C):=λx U J f4 e=>by rw[e.1,e.2];refine m8 (qd _) (oG (o.q7 (f3.trans f4)) 0 rfl _ (k7 rfl) rfl (zM _) λC o _=>?_);exact nP (o.at (i:=0) rfl) _ (qd _) rfl (kk C o.fr)
 refine qoS<|oI (oE [] w3) hz λr5 J _ G=>SB.get (T:=BR) (k:=(i0,u)) (l:=b.jB) (t:=1) h (o.fr.trans (f3.trans G.fr)) oM ⟨mo _,oY _⟩ ((hk.q7 G.fr).up o.fr.size) (λP q=>q.jB) rfl hi (λs C hn R=>?_) λs C x hx V he hv R=>?_;refine HK rfl (oI (G.q7 R) hz λr6 w6 _ o3=>nP (o3.at (i:=0) rfl) _ (qd v8) rfl (m8 rfl (o3.st' 1 rfl _ (k7 rfl) rfl (zM _) λw7 I f7=>nP (I.at (i:=1) rfl) _ (qd v8) rfl ?_)));exact E _ _ w7 I.fr ⟨by rw[show mD b (i0,u)=none from hn];rfl,by rw[show mD b (i0,u)=none from hn];rfl⟩;refine HM rfl (rZ (lb:=[]) rfl oK (qu6 (by have q:=(hk.rd.q7 G.fr).q7 R;rw[<- he] at q;exact q) hv V λw6 f6=>?_));refine m8 (qd x) (oG ((G.q7 R).q7 f6) 0 rfl _ (k7 rfl) rfl (zM _) λw7 I f7=>nP (I.at (i:=0) rfl) _ (qd x) rfl ?_);exact E _ _ w7 I.fr ⟨by rw[show mD b (i0,u)=some x from hx];rfl,by rw[show mD b (i0,u)=some x from hx];rfl⟩
def qvk{i0 x:Int}(h:SB w Y sb F c b)(V:3*b.size+1<=c)(hi:lu (i0,u))(E:IntKind.u8.has x)(kk:∀F' w',SB w' Y sb F' c (b.lG ((i0,u),x))->mU F w F' w'->K 0 w'): cW 67 [dG sb,de i0 u,.b x] di w K:=by
 refine qgp ?_;obtain⟨pb,h⟩:=h;have hB:eI [x]:=λz hz=>by rw[zE.1 hz];exact qzx E
 have new:∀ {w2 G:Ic} {r:Nat},Fr [] w w2->r=w2.heap.size->G.heap[r]?=some (.c (fS [x]) 5)->kI w G ⟨pW r,1,1⟩ [x]:=λf e hb=>CT (by have:=f.size;omega) hb (zM _) (zM _) rfl;refine oB (oE [] w) λr1 w1 _ C o=>⟨h.qO C.drew (Ij o.drew 0 rfl (i0,u) (vH λr4 G I J=>ik (h.held (C.drew.trans J)) (oB (o.drew.q7 J) λr5 w4 R f4 o=>?_))),h.qO C.drew (Ij o.drew 0 rfl (i0,u) (oB o.drew λr5 w4 R f4 o=>?_))⟩;refine ky (o.cells 1) (h.held o.fr) (h.put (t:=2) o.fr V oM ⟨mo _,oY _⟩ ⟨rfl,hB⟩ ((I.q7 f4).up C.drew.size) (new (C.drew.trans J) R (o.at (i:=0) rfl)) (λT q=>q.lG (a:=((i0,u),x)) ⟨hi,E⟩) λF' w' h=>kk F' w' ⟨pb,h⟩);refine ky (o.cells 1) (h.held o.fr) (vH λr6 w5 I U=>ik (h.held (o.fr.trans U)) ?_);exact h.put (t:=2) (o.fr.trans U) V oM ⟨mo _,oY _⟩ ⟨rfl,hB⟩ (I.up o.fr.size) (new C.drew R ((o.q7 U).at (i:=0) rfl)) (λT q=>q.lG (a:=((i0,u),x)) ⟨hi,E⟩) λF' w' h=>kk F' w' ⟨pb,h⟩
def Cm{C d2 d3:Int}(h:SB w Y sb F c b)(G:3*b.size+1<=c)(I:jx iI (u,C,d2,d3))(J:∀F' w',SB w' Y sb F' c (b.i9 (u,C,d2,d3))->mU F w F' w'->K 0 w'): cW 26 [dG sb,.agg #[.w u,.w C,.w d2,.w d3]] di w K:=by refine qis<|oB (oE [] w) λr1 w1 _ E o=>Ij o 0 rfl (u,C,d2,d3) (FF λs t w2 R U V=>?_);exact SB.put (t:=3) h (E.trans V) G oM ⟨wZ _ _,Fu _ _⟩ ⟨mo _,oY _⟩ (R.up E.size) (U.up E.size) (λT q=>q.i9 I) J
def qvh{C d2 d3:Int}(h:SB w Y sb F c b)(I:3*b.size+1<=c)(J:jx iI (u,C,d2,d3))(E:(u,C,d2,d3)∈b.due)(R:∀F' w',SB w' Y sb F' c (b.jh (u,C,d2,d3))->mU F w F' w'->K 0 w'): cW 25 [dG sb,.agg #[.w u,.w C,.w d2,.w d3]] di w K:=by refine qdA<|oB (oE [] w) λr1 w1 _ G o=>Ij o 0 rfl (u,C,d2,d3) (FF λs t w2 U ht V=>?_);exact SB.cut (t:=3) h (G.trans V) I oM (U.up G.size) (λT q=>lw.mem (K:=sM) (k:=(u,C)) q.due ⟨_,E,rfl⟩) (λT q=>q.jh J) R
def qvj{a0:Int}{r:HL mt}(h:SB w Y sb F c b)(E:3*b.size+1<=c)(G:lu (a0,u))(C:jx mt r)(I:∀F' w',SB w' Y sb F' c (b.lY ((a0,u),r))->mU F w F' w'->K 0 w'): cW 71 [dG sb,de a0 u,HJ mt r] di w K:=by refine qit<|oB (oE [] w) λV w1 _ f1 o=>oB o λr3 w2 _ f2 o=>Ij o 1 rfl (a0,u) (Ij o 0 rfl r (qu2 λs t w3 J R U=>?_));exact SB.put (t:=6) h (o.fr.trans U) E oM ⟨EW _ _,Ej _ _⟩ ⟨qzh _,qzg C⟩ (J.up o.fr.size) (R.up o.fr.size) (λT q=>q.lY (a:=((a0,u),r)) ⟨G,C⟩) I
end
end
section
section
variable {w w' w1:Ic} {Y F F':Ik} {sb pb c:Nat} {b b':Bk}
def qJ.J0(h:qJ wa Y sb pb F c b)(o:dR [] wa w L):qJ w (fk L++Y) sb pb F c b:=by obtain⟨dbk,FD,G,D,M,Fo,rfl,u,C,E,I,J,R⟩:=h;exact⟨dbk,FD,G,D,M,Fo,rfl,⟨u.tw.cB o,u.st,o.pJ u.cell (λh=>nomatch h),u.out⟩,C,E,I,J,R⟩
def qJ.own(h:qJ w (fk L++Y) sb pb F c b)(o:dR T wa w L)(s:mU F w F' w'):dR (fk L) w' w' L:=qv o s.fr λb u=>SB.yf ⟨pb,h⟩ b (zH _ u)
def SB.count{t:Nat}(h:SB w1 Y sb F c b)(f:Fr [] w1 w)(E:t<8)(G:∀(T:Nat->fP) (x y:Int) w',Hb T b->Fr [] w w'->K (T t).length w'): nn (pW sb) λa=>ld .ptr a w λp=>cW 46 [.p p,.i t] [.agg [.u,.u,.u]] w λq w'=>K q.2.1 w':=by obtain⟨pb,h⟩:=h;refine h.qO f ?_;obtain⟨dbk,FD,Fp,D,M,Fo,rfl,C,I,J,R,hc,hj⟩:=h;refine TW.J5 (C.q7 f).tw λw' U=>?_;have V:=(qhk (C.st.J0.J2 t E)).2.2.1;rw[V];exact G _ 0 0 w' R U
def sU (b:Bk):Il:=[b.acc.length,b.jB.length,b.jT.length,b.due.length,b.k6.length,b.lg.length,b.jn.length,b.last.toList.length]
abbrev c8:List Cell:=[.u,.u,.u,.u,.u,.u,.u,.u]
def nQ (b:Bk):HL c8:=(b.acc.length,b.jB.length,b.jT.length,b.due.length,b.k6.length,b.lg.length,b.jn.length,b.last.toList.length)
def Hb.cnt{T:Nat->fP}(h:Hb T b){t:Nat}(u:t<8):(sU b)[t]?=some ((T t).length:Int):=by rcases qzu u with rfl|rfl|rfl|rfl|rfl|rfl|rfl|rfl;rw[h.acc.len];rfl;rw[h.jB.len];rfl;rw[h.jT.len];rfl;rw[h.due.len];rfl;rw[h.k6.len];rfl;rw[h.lg.len];rfl;rw[h.jn.len];rfl;rw[h.pI,qC,zK];rfl
def qnI{K:HL c8->WP}(h:SB w Y sb F c b)(kk:∀w',Fr [] w w'->K (nQ b) w'): cW 16 [dG sb] [.agg c8] w K:=by
 refine qir<|oB (oE [] w) λr1 w1 _ f1 o=>oB o λR w2 _ f2 o=>iX (λq w'=>∃i:Nat,q=i/\i<=8/\dR [] w w' [(R,.c (((sU b).take i).map (Value.int .u32)++(zs (8-i)).map (Value.int .u32)).toArray 64),(r1,.c ((zs 8).map (Value.int .u32)).toArray 64)]) (λq _=>8-q.toNat) ⟨0,rfl,oM,o⟩ ?_;rintro q w3 ⟨i,rfl,hi,o⟩ X hX;apply cD<;>intro E;have C:i<8:=oJ;refine SB.count (K:=λx w'=>gB (0<=(i:Int)/\(i:Int)<((8:Nat):Int)) (Pt.st (Addr.add (dg R) (Int.toNat i*1)) [.u x] w' λw2=>X (wrap .i64 (i+1)) w2)) h o.fr C λT _ _ U hb f4=>m8 ⟨oJ,oJ⟩ ?_;simp only[Addr.q9];have V:((sU b).take i).length=i:=(by rw[yK];exact xQ hi);have hx:=hb.cnt C;obtain⟨G,I⟩:=zP.1 hx;have J:dS (((sU b).take i).map (Value.int .u32)++(zs (8-i)).map (Value.int .u32)).toArray i [.u ((T i).length:Int)]=(((sU b).take (i+1)).map (Value.int .u32)++(zs (8-(i+1))).map (Value.int .u32)).toArray:=by
  have hz:(zs (8-i)).map (Value.int .u32)=[.u 0]++(zs (8-(i+1))).map (Value.int .u32):=(by rw[show 8-i=(8-(i+1))+1 by omega];rfl);rw[hz,<- zV,yF G,I,xM];have:=se (A:=((sU b).take i).map (Value.int .u32)) (X:=[.u 0]) (Y:=[.u ((T i).length:Int)]) (Z:=(zs (8-(i+1))).map (Value.int .u32)) rfl;rw[zK,V] at this;exact this
 rw[show 0+Int.toNat (i:Int)*1=i by omega,gi _ oJ];exact oG (o.q7 f4) 0 rfl _ J rfl (by rw[size_toArray,zF,zK,zK,V,ot];show i+1<=_;omega) λw5 o _=>hX _ _ ⟨i+1,rfl,C,o⟩ oJ;have C:i=8:=oJ;subst C;refine Ij o 0 rfl (nQ b) (o.st' 1 rfl _ (k7 rfl) rfl (zM _) λU o _=>?_);exact Ij o 1 rfl (nQ b) (kk U o.fr)
def qnJ{k:Kp}(h:SB w Y sb F c b)(hr:3*(b.size+3)+1<=c)(C:tj k)(kk:∀F' w',SB w' Y sb F' c (b.jo k)->mU F w F' w'->K 0 w'): cW 24 [dG sb,.agg (pg k).toArray] di w K:=by refine qfl ?_;obtain⟨pb,h⟩:=h;refine oB (oE [] w) λr1 w1 _ f1 o=>Ij o 0 rfl k.1 (oB o λr4 w2 _ f2 o=>o.st' 0 rfl _ (k7 rfl) rfl (zM _) λw3 o f3=>?_);refine nP (o.at (i:=1) rfl) (pg k) rfl rfl (qu3 λs t w4 hs ht f4=>?_);have J:=o.fr;have h:=h.J0 o;have p1:=uJ (kf:=pV) (a:=k) (l:=b.jB);have p2:=uJ (kf:=mX) (a:=ww k.1) (l:=b.k6);have z1:(b.kG k).size<=b.size+1:=(by unfold Bk.size Bk.kG;dsimp only;omega);have z2:((b.kG k).mR (ww k.1)).size<=b.size+2:=(by unfold Bk.size Bk.mR Bk.kG;dsimp only;omega);have hi:lu (px k.1):=⟨C.1.1,C.1.2.1⟩;have hn:IntKind.u64.has k.1.2.2.2.2.2.2.2.2.2.2.2.2.2.2.2:=C.1.2.2.2.2.2.2.2.2.2.2.2.2.2.2.2;refine h.qO f4 (h.put (t:=1) f4 oJ oM ⟨mo _,oY _⟩ ⟨yw _,qz8 _⟩ hs ht (λT q=>q.kG C) λF5 w5 G s5=>HM rfl ?_);have o5:=h.own o s5;have o:=o5.drew;have g:=(Fr.refl [] w5).drew;have R:lu (k.1.2.2.1,k.1.2.2.2.1):=⟨C.1.2.2.1,C.1.2.2.2.1⟩;have U:lu (k.1.2.2.2.2.1,k.1.2.2.2.2.2.1):=⟨C.1.2.2.2.2.1,C.1.2.2.2.2.2.1⟩;refine G.qO g (Ij o 0 rfl (k.1.2.2.1,k.1.2.2.2.1) (Ii o 0 rfl k.1.2.2.2.2.2.2.2.2.2.2.2.2.2.2.2 (Ij o 0 rfl (k.1.1,k.1.2.1) (DO λs6 w6 V u=>ky ((o.q7 u).cells 0) (G.held (g.trans u)) (vH λr7 w7 h7 E=>ik (G.held ((g.trans u).trans E)) ?_)))));refine G.put (t:=4) ((g.trans u).trans E) oJ oM ⟨EW _ _,Ej _ _⟩ ⟨mo _,oY _⟩ ((V.q7 E).up (zM _)) (h7.up u.size) (λT q=>q.mR (a:=ww k.1) ⟨⟨R,hn⟩,hi⟩) λF8 w8 I s8=>HM rfl ?_;have o:=(G.own o5 s8).drew;have g:=(Fr.refl [] w8).drew;refine I.qO g (Ij o 0 rfl (k.1.2.2.2.2.1,k.1.2.2.2.2.2.1) (Ii o 0 rfl k.1.2.2.2.2.2.2.2.2.2.2.2.2.2.2.2 (Ij o 0 rfl (k.1.1,k.1.2.1) (DO λs6 w9 V u=>ky ((o.q7 u).cells 0) (I.held (g.trans u)) (vH λr7 au h7 E=>ik (I.held ((g.trans u).trans E)) ?_)))));exact I.put (t:=5) ((g.trans u).trans E) oJ oM ⟨EW _ _,Ej _ _⟩ ⟨mo _,oY _⟩ ((V.q7 E).up (zM _)) (h7.up u.size) (λT q=>q.pc (a:=A8 k.1) ⟨⟨U,hn⟩,hi⟩) λab ac ad ae=>kk ab ac (SB.y0 ⟨pb,ad⟩ λ_ h=>zI _ h) (.pre J ((s5.trans s8).trans ae))
end
end
end
section
open Go Go.Pt List
open Go.IntKind (wrap)
open Classical
end
section
open Go Go.Pt List
open Go.IntKind (wrap)
open Classical
end
section
open Go Go.Pt List
open Go.IntKind (wrap)
open Classical
section
variable {w:Ic} {a b:je} {K:je×Bool->WP}
end
end
section
open Go Go.Pt List
open Go.IntKind (wrap)
open Classical
end
section
open Go Go.Pt List
open Go.IntKind (wrap)
open Classical
variable {K:Int->WP}
section
variable {w w' w1:Ic} {Y F F':Ik} {sb pb c:Nat} {b b':Bk}
end
section
section
variable {w w' w1:Ic} {Y F F':Ik} {sb c:Nat} {b:Bk} {ks vs:Sl}
def EJ:eI [1]:=λx h=>by rw[zE.1 h];exact⟨oM,oM⟩
def qJ.xc{pb:Nat}{K:It->WP}(h:qJ w1 Y sb pb F c b)(U:Fr [] w1 w)(J:kI w1 w ks [1])(V:∀s w',b.last=none->Fr [] w w'->K (s,5) w')(k1:∀s B w' n,b.last=some n->fR w' s (bw 8 n) B->(∀x∈B,w.heap.size<=x)->Fr [] w w'->K (s,0) w'): cW 47 [dG pb,.i 7,ks.v] dm w K:=by
 obtain⟨dbk,FD,Fp,D,M,Fo,rfl,I,ab,ac,hb,hc,hj⟩:=h;have C:=I.q7 U;have hT:=C.st.J0.J2 7 oM;have u:=hT.get (key:=[1]) C.st.J1.wf C.st.J1.Q3;have ht:(Fo 7).1=qC b.last:=hb.pI;have E:=vN (t:=7) oM;rw[ht] at u;cases G:b.last with
 | none=>
  rw[G] at u;have e:jm [1] (qC none)=none:=rfl;rw[e] at u;exact (GP (t:=((7:Nat):Int)) (f:=(dW M ((7:Nat):Int)).2.2.toNat) EJ E.1 oM rfl C.tw (J.to I.tw.sP) (by rw[u];decide) λs B w' _ _ f=>by rw[u];exact V s w' G f)
 | some n=>
  rw[G] at u;have e:jm [1] (qC (some n))=some (bw 8 n):=rfl;rw[e] at u;exact (GP (t:=((7:Nat):Int)) (f:=(dW M ((7:Nat):Int)).2.2.toNat) EJ E.1 oM rfl C.tw (J.to I.tw.sP) (by rw[u];exact (by decide:(0:Int)≠-1)) λs B w' R nB f=>by rw[u] at R⊢;exact k1 s B w' n G R nB f)
end
end
section
section
variable {w w' w1:Ic} {Y F F':Ik} {sb c:Nat} {b:Bk}
def Fc{r:Nat}{T:If}(h:w.heap.size<=r)(u:w'.heap[r]?=some (.c #[.b 1] T)):kI w w' ⟨pW r,1,1⟩ [1]:=CT (L:=[1]) h u oM oM rfl
def ql5{n:Int}(h:SB w Y sb F c b)(J:3*b.size+1<=c)(R:∀F' w',SB w' Y sb F' c (b.jL n)->mU F w F' w'->K 0 w'): cW 19 [dG sb,.w n] di w K:=by
 refine qhG ?_;obtain⟨pb,h⟩:=h;have g:=(Fr.refl [] w).drew;have C:∀ {r:Nat} {s:Sl} {w2:Ic},Fr [] w w2->kI w w2 ⟨pW r,1,1⟩ [1]->kI w w2 s (bw 8 n)->cW 50 [dG pb,.i 7,.slice (pW r) 1 1,s.v] di w2 K:=λ{r s w2} f U V=>
  h.put (t:=7) (ks:=⟨pW r,1,1⟩) f J oM ⟨rfl,EJ⟩ ⟨ll _ _,pA _ _⟩ U V (λT q=>q.jL) λF' w' h s=>R F' w' ⟨pb,h⟩ s
 refine⟨h.qO g (oB (oE [] w.drew) λr w1 e1 E o=>ik (h.held (g.trans E)) (BK λr2 w2 G u=>ik (h.held ((g.trans E).trans u)) (C ((g.trans E).trans u) (Fc (by rw[e1];exact zM _) ((o.q7 u).at (i:=0) rfl)) (G.up E.size)))),?_⟩;exact h.qO g (BK λr2 w2 G u=>ik (h.held (g.trans u)) (oB (oE [] w2) λr w3 e3 I o=>ik (h.held ((g.trans u).trans I)) (C ((g.trans u).trans I) (Fc (by rw[e3];exact u.size) (o.at (i:=0) rfl)) (G.q7 I))))
def EP(h:SB w Y sb F c b)(hn:∀n,b.last=some n->nf n)(kk:∀w',Fr [] w w'->K (b.last.getD 0) w'): cW 17 [dG sb] dk w K:=by
 refine qj3 ?_;obtain⟨pb,h⟩:=h;obtain⟨i,hi,hz,I,J⟩:=uE;refine h.qO (.refl _ _) (oB (oE [] w) λr1 w1 e1 G o=>h.xc (ks:=⟨pW r1,1,1⟩) G (Fc (by rw[e1];exact zM _) (o.at (i:=0) rfl)) (λs w2 C R=>HK rfl ?_) λs B w2 n C U nB R=>HM rfl ?_);have:=kk w2 (G.trans R);rwa[C] at this;have E:s.len=(bw 8 n).length:=U.len;have h8:(bw 8 n).length=8:=ll _ _;have hr:en [] w2 s (bw 8 n):=U.jz lc λ_ _ h=>nomatch h;have hs:=ui (P:=prog) (tx:=101) (e':=5) hr lc (λx u hu=>by rw[zE.1 hu];rfl) oK;refine eU.j1 (ys:=bw 8 n) (e:=5) U lc oK hi hz I rfl hs E (by rw[J];omega) oJ λs' B' w3 V f3 _ _=>qnF (n:=n) (m:=n) (V.jz lc λ_ _ h=>nomatch h) (hn n C) (hn n C) ?_;have ff:Fr [] w w3:=(G.trans R).j8 f3 λx hx=>.inr (zL G.size (nB x hx))
 have:=kk w3.drew ff.drew;rwa[C] at this
end
end
section
section
variable {w w':Ic} {Q:Iu} {sb dbk pb c t:Nat} {Y FD F F':Ik} {D:dJ} {M M':dV} {Fo Fo':ka} {b:Bk}
def nJ.nO{K:Int->WP}(h:nJ w Y sb dbk pb FD F D M c Q Fo)(hq:Q.2<=100)(R:c+eK Q.1+jH Fo+2<=Q.1)(U:eK Q.1+jH Fo<=c)(G:HG∉FD)(V:sb∉FD)(kk:∀u F' w' D' M',nJ w' Y sb dbk pb u F' D' M' c (Q.1,Q.2+1) Fo->HG∉u->sb∉u->Fr (FD++F) w w'->(∀b∈u++F',b∈FD++F\/w.heap.size<=b)->K 0 w'): cW 72 [pP pb] di w K:=by obtain⟨D',M',e,hS⟩:=h.st.nO oJ R U;have ht:=h.st.J1.x6;have hl:=eX h.cell;have ae:HG<w.heap.size:=h.tw.sP HG (by simp[Zo]);refine quV h.tw oJ ⟨ht.1,oJ⟩ G λu F' w' I f n=>?_;rw[e] at I⊢;have E:sb∉FD++F:=λC=>(zD.1 C).elim V h.out;have hF:HG∉FD++F:=λC=>(zD.1 C).elim G (h.tw.x8.sep HG oL);exact kk u F' w' D' M' ⟨I,hS,by rw[f.block sb hl E];exact h.cell,λC=>(n sb (zI _ C)).elim E λJ=>oJ⟩ (λC=>(n HG (zH _ C)).elim hF λJ=>oJ) (λC=>(n sb (zH _ C)).elim E λJ=>oJ) f n
def SB.nO{K:Int->WP}(h:SB w Y sb F c b)(hp:w.heap[sb]?=some (.c #[pP pb] Aj))(hq:b.cm.2.1<=100)(hc:c+eK b.cm.1+b.size+2<=b.cm.1)(hr:eK b.cm.1+b.size<=c)(kk:∀F' w' g,SB w' Y sb F' c (b.wP.gs g)->mU F w F' w'->K 0 w'):cW 72 [pP pb] di w K:=by
 obtain⟨E,dbk,FD,Fp,D,M,Fo,rfl,hS,G,I,u,J,hj⟩:=h;have e:pb=E:=by
  have:=hS.cell;rw[hp] at this;cases this;rfl
 subst e;have hs:=u.size;have hk:jH Fo=b.size:=(by unfold jH;exact hs);refine hS.nO (Q:=(b.cm.1,b.cm.2.1)) hq oN oN G I λC F' w' D' M' R U V f n=>kk (C++F') w' (pb,D',lp M') ⟨pb,dbk,C,F',D',M',Fo,rfl,R,U,V,⟨u.acc,u.jB,u.jT,u.due,u.k6,u.lg,u.jn,u.pI⟩,J,by show b.cm.2.1+1<=150;omega,rfl⟩ ⟨f,n⟩
end
end
section
section
variable {dbk pb j:Nat} {FD Y F:Ik} {D:dJ} {M:dV} {k v:Nat} {t:Int} {w0:Ic}
def qx7{ks:Sl}{key:Key}{f2:Nat}(E:eI key)(R:rz t=((k:Int),(v:Int)))(C:k≠0)(G:key.length=k)(V:TW dbk pb FD D j w0 Y F M)(U:en (Zo FD Y F) w0 ks key)(u:(lT D k v key M f2 (dW M t).1).2=5)(kk:∀w',Fr [] w0 w'->K 5 w'): cW 61 [dG pb,.i t,ks.v] di w0 K:=by refine qmJ ?_;have ab:=U.1;have h:=oE [] w0;refine oB h λr1 w2 _ _ h=>Ii h 0 rfl ks<|C0 (k:=k) (v:=v) R (λh=>absurd h C) (λ_ h=>absurd oJ h) λ_ _ w7 f7=>?_;have h:=h.q7 f7;refine oB h λr8 w9 _ _ h=>oD h 0 rfl (np (jC k v pb t)) λad h _=>HM rfl<|Ii h 1 rfl ks<|Gj (f:=f2) E R C G (V.cB h) (uh U h) (by rw[u];decide) λs I _ J=>?_;rw[u];exact HK rfl (kk I (h.fr.trans J))
end
section
variable {w w' w1:Ic} {Q:Iu} {sb dbk pb c t:Nat} {Y FD F F':Ik} {D:dJ} {M M':dV} {Fo Fo':ka} {key val:Key} {ks vs:Sl} {b b':Bk}
def nJ.t9(h:nJ w Y sb dbk pb FD F D M c Q Fo)(C:t<8)(E:key.length=(kv t).1/\eI key)(I:key∉dQ (Fo t).1)(J:en (Zo FD Y F) w ks key)(R:∀w',Fr [] w w'->K 5 w'):cW 61 [pP pb,.i t,ks.v] di w K:=by have u:=vN C;have U:=h.st.J0.J2 t C;have G:=U.get (key:=key) h.st.J1.wf h.st.J1.Q3;have V:jm key (Fo t).1=none:=ya λx hx e=>I (by rw[<- e];exact zY hx);rw[V] at G;exact qx7 (f2:=(dW M t).2.2.toNat) E.2 u.1 oJ E.1 h.tw J (by rw[G]) R
def SB.t9{t:Nat}{g:Key}{ks:Sl}{K:Int->WP}(h:SB w1 Y sb F c b)(f:Fr [] w1 w)(E:t<8)(G:g.length=(kv t).1/\eI g)(I:kI w1 w ks g)(J:∀T,Hb T b->g∉dQ (T t))(R:∀w',Fr [] w w'->K 5 w'):nn (pW sb) λa=>ld .ptr a w λp=>cW 61 [.p p,.i t,ks.v] di w K:=by obtain⟨pb,dbk,FD,Fp,D,M,Fo,rfl,u,U,V,hb,hc,hj⟩:=h;have C:=u.q7 f;exact C.qO (C.t9 E G (J _ hb) (I.to u.tw.sP) R)
def ql4{u C d2 d3:Int}(h:SB w Y sb F c b)(U:3*b.size+1<=c)(I:jx iI (u,C,d2,d3))  (V:(∃x∈b.due,kB x=(u,C))->∀F' w',SB w' Y sb F' c (b.jh (u,C,d2,d3))->mU F w F' w'->K 0 w')(k5:(∀x∈b.due,kB x≠(u,C))->∀w',Fr [] w w'->K 5 w'): cW 25 [dG sb,.agg #[.w u,.w C,.w d2,.w d3]] di w K:=by refine qdA<|oB (oE [] w) λr1 w1 _ E o=>Ij o 0 rfl (u,C,d2,d3) (FF λs t w2 R ht J=>?_);by_cases hin:∃x∈b.due,kB x=(u,C);exact SB.cut (t:=3) h (E.trans J) U oM (R.up E.size) (λT q=>lw.mem (K:=sM) (k:=(u,C)) q.due hin) (λT q=>q.jh I) (V hin);exact SB.t9 (t:=3) h (E.trans J) oM ⟨wZ _ _,Fu _ _⟩ (R.up E.size) (λT q hm=>by obtain⟨x,G,e⟩:=q.due.1.J6.1 hm;exact hin ⟨x,G,T64.inj (q.due.2 x G |>.1 |>λh=>⟨h,(q.due.2 x G).2.1⟩) ⟨I.1,I.2.1⟩ e⟩) λw' f=>k5 (λx G e=>hin ⟨x,G,e⟩) w' ((E.trans J).trans f)
def qtA{d:HL iI}(h:∀x∈b.due,kB x≠kB d):b.jh d=b:=by unfold Bk.jh gH;rw[filter_eq_self.2 λx u=>zZ (h x u)]
end
end
section
def tQ (w:Ic) (S:Ik) (kb c:Nat) (b:Bk):Prop:=∃pb D M Fo,nS w S kb pb M/\od D M c (b.cm.1,b.cm.2.1) Fo/\Hb (λt=>(Fo t).1) b/\b.cm.2.2=(pb,D,lp M)
section
variable {w w':Ic} {S S' Y F F':Ik} {sb kb c:Nat} {b b':Bk}
def tQ.q8(h:tQ w S kb c b)(f:Fr S w w')(u:∀x∈S',x∈S\/w.heap.size<=x):tQ w' S' kb c b:=by obtain⟨pb,D,M,Fo,C,q⟩:=h;exact⟨pb,D,M,Fo,C.q8 f u,q⟩
def tQ.q7(h:tQ w S kb c b)(f:Fr [] w w'):tQ w' S kb c b:=h.q8 (f.mono λ_ h _=>nomatch h) λ_ h=>.inl h
def tQ.stp(h:tQ w (HG::(Y++F)) kb c b)(s:mU F w F' w'):tQ w' (HG::(Y++F')) kb c b:=h.q8 (s.fr.mono λx u _=>by simp[u]) λx u=>by simp only[zG,zD] at u⊢;rcases u with h|h|h;exact .inl (.inl h);exact .inl (.inr (.inl h));exact (s.new x h).imp (λh=>.inr (.inr h)) id
def qym{K:Option Addr->WP}(h:SB w Y sb F c b)(G:∀kb w',tQ w' (HG::(Y++F)) kb c b->Fr [] w w'->K (pW kb) w'): cW 18 [dG sb] dt w K:=by refine qj4 ?_;obtain⟨pb,dbk,FD,Fp,D,M,Fo,rfl,u,I,J,R,hc,U⟩:=h;have hl:=u.tw.wf.all;refine u.qO (qyi u.tw.x8 oJ oJ (λC=>by rw[u.st.J1.Q3] at C;cases C) λ_ kb w1 V f1=>G kb w1 ⟨pb,D,M,Fo,V.q8 (.refl _ _) λx E=>.inl ?_,u.st,R,U.2⟩ f1);simp only[zG,zD] at E⊢;rcases E with h|h|h|h<;>simp[h]
def qyl(h:SB w Y sb F c b')(hm:tQ w S kb c b)(I:∀x∈HG::(Y++F),x∈S)(J:b'.cm=b.cm)(kk:∀F' w',SB w' Y sb F' c b->mU F w F' w'->K 0 w'): cW 21 [dG sb,dG kb] di w K:=by
 refine qj2 ?_;obtain⟨pb,dbk,FD,Fp,D,M,Fo,rfl,u,R,U,hb,hc,V⟩:=h;obtain⟨ao,D0,M0,aa,hM,E,ab,hg⟩:=hm;rw[J] at u V;have e:=V.2.symm.trans hg;injection e with e1 e;injection e with e2 e;subst e1;subst e2;have hl:=E.J1.wf.all;have ho:=u.st.J1.Q3;refine u.qO (qyb (S:=Zo FD Y Fp) (q:=M0) u.tw.x8 (λb hb=>hb) (λ_=>⟨kb,rfl,hM.q8 (.refl _ _) λx hx=>.inl (I x ?_),oJ,oJ⟩) (λG=>by rw[ho] at G;cases G) (λ_ G=>G.elim (λh2=>nomatch h2) λh2=>absurd (H9 dV.x6 e).symm h2) λ_ _ _ F2 w2 C f2 n2=>?_);simp only[zG,zD] at hx⊢;rcases hx with (h|h|h)|h<;>simp[h];rw[qwE e] at C;have hT:=u.tw.next (E.J1.Q3.trans ho.symm) E.J1.wf C f2;exact kk (FD++F2) w2 ⟨pb,dbk,FD,F2,D,M0,aa,rfl,u.x6 hT E f2 n2,R,U,ab,hc,V.1,hg⟩ (mU.Q3 ⟨f2,n2⟩)
end
end
end
section
open Go Go.Pt List
open Go.IntKind (wrap)
variable {K:Int->WP}
structure pz where
 pb:Nat
 k:Nat
 v:Nat
 frm:Sl
 to:Sl
 st:Sl
 f1:Ie
 f2:Ie
 f3:Ie
def pz.cells (x:pz):Array Ie:=#[.pointer (some ⟨x.pb,0,none⟩),.i x.k,.i x.v,x.frm.v,x.to.v,x.st.v,x.f1,x.f2,x.f3]
def mO (w:Ic) (cb:Nat) (x:pz):Prop:=∃T,w.heap[cb]?=some (.c x.cells T)
def mO.q8{S:Ik}{w w':Ic}{cb:Nat}{x:pz}(h:mO w cb x)(f:Fr S w w')(u:cb∉S):mO w' cb x:=by obtain⟨T,h⟩:=h;exact⟨T,by rw[f.block cb (eX h) u];exact h⟩
def mO.q7{w w':Ic}{cb:Nat}{x:pz}(h:mO w cb x)(f:Fr [] w w'):mO w' cb x:=h.q8 f λh=>nomatch h
def mO.frm{w:Ic}{cb:Nat}{x:pz}{K:Sl->Prop}(h:mO w cb x)(k:K x.frm):ld .slice (dg cb 3) w K:=by obtain⟨T,h⟩:=h;exact pB x.frm (jp h) k
def mO.to{w:Ic}{cb:Nat}{x:pz}{K:Sl->Prop}(h:mO w cb x)(k:K x.to):ld .slice (dg cb 4) w K:=by obtain⟨T,h⟩:=h;exact pB x.to (jp h) k
section
variable {w:Ic} {cb:Nat} {x:pz} {S:Ik} {y:kz} {n:dM} {frm to:Key}
def qBw{i:Int}(hi:-1000000<=i/\i<=1000000)(h:K (i+1) w):cW 76 [dG cb,.i i] di w K:=by refine qjO ?_;rw[IntWalk.i64_in _ oJ];exact h
def qzS{i:Int}(hi:-1000000<=i/\i<=1000000)(h:K (i-1) w):cW 79 [dG cb,.i i] di w K:=by refine qhQ ?_;rw[IntWalk.i64_in _ oJ];exact h
def qyq{ks:Sl}{key:Key}{K:Bool->WP}(h:mO w cb x)(u:en S w ks key)(C:en S w x.to to)(E:eI key)(G:eI to)(I:K (decide (cmpL key to>0)) w):cW 78 [dG cb,ks.v] dj w K:=by refine qhu<|fu (h.to ?_);exact Az u C E G I
def qyv{ks:Sl}{key:Key}{K:Bool->WP}(h:mO w cb x)(u:en S w ks key)(C:en S w x.frm frm)(E:eI key)(G:eI frm)(I:K (decide (cmpL key frm<0)) w):cW 81 [dG cb,ks.v] dj w K:=by refine qhv<|fu (h.frm ?_);exact Az u C E G I
def qyA(h:mO w cb x)(E:eF S w y n)(R:en S w x.frm frm)(U:eI frm)(V:fL n.J6)(hl:n.J6.length<=1000000)(kk:∀w',Fr [] w w'->K (jN n frm) w'):cW 77 [dG cb,.agg (eN y)] di w K:=by
 refine qiO<|oB (oE [] w) λr w1 e1 f1 ho=>Ii ho 0 rfl y.1 ?_;have hd:=oF ho;have u:=f1.trans (Fr.refl [] w1).drew;have hy:y.1=n.Q4:=E.1;apply dX<;>intro G;have C:n.Q4=false:=(by rw[<- hy];simpa using G);refine Ij hd 0 rfl y<|fu ((h.q7 u).frm ?_);refine BD (E.q7 u) (R.q7 u) U V hl λI J=>?_
 have:=kk I (u.trans J);rw[jN,iN (by rw[C];decide)] at this;exact this;have C:n.Q4=true:=(by rw[<- hy];simpa using G);refine Ij hd 0 rfl y<|fu ((h.q7 u).frm ?_);refine CO (E.q7 u) (R.q7 u) U V hl λI J=>?_;have:=kk I (u.trans J);rw[jN,iP C] at this;exact this
def qwL(h:mO w cb x)(G:eF S w y n)(U:en S w x.to to)(V:eI to)(hr:fL n.J6)(hl:n.J6.length<=1000000)(kk:∀w',Fr [] w w'->K (ip n to) w'):cW 80 [dG cb,.agg (eN y)] di w K:=by
 refine qhR<|oB (oE [] w) λr w1 e1 f1 ho=>?_;have I:=oF ho;have u:=f1.trans (Fr.refl [] w1).drew;have J:y.1=n.Q4:=G.1;refine Ij I 0 rfl y<|fu ((h.q7 u).to ?_);have af:=zo n.J6 to;refine BD (G.q7 u) (U.q7 u) V hr hl λw3 R=>?_;have C:=I.q7 R;refine Ii C 0 rfl y.1 ?_
 have:=kk w3 (u.trans R);apply dX<;>intro E;rw[ip,iP (by rw[<- J];exact E)] at this;rw[IntWalk.i64_in _ oJ];exact this;rw[ip,iN (by rw[<- J,E];decide)] at this;exact this
end
end
end Go.Proofs.YtpcmehldpoljfaaGreatDoor
