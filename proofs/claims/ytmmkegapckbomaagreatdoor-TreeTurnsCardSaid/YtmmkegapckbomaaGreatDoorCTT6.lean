/- Texts TeL, TeM, TeN, TeO, TrK, MaA, RfB, RfC, HiA, HiB, TrN, FormsU, CuA, TtA, TtB, TtC, TtD, TtE: contracts of the program's functions, one behind the other. Conditions: those that stand in each line. -/
import Derived.Test.YtmmkegapckbomaaGreatDoorCTT5
import Derived.Test.YtmmkegapckbomaaGreatDoorCTT4
import Derived.Test.YtmmkegapckbomaaGreatDoorCTT1
import Derived.Test.YtmmkegapckbomaaGreatDoorProg
import Derived.KernelRfl
import Derived.Test.YtmmkegapckbomaaGreatDoorCTT2
set_option linter.unusedVariables false
set_option linter.unusedSimpArgs false
section
namespace Go.Proofs.YtmmkegapckbomaaGreatDoor
open Go Go.Pt List
open Classical
attribute [local irreducible] ld ldA ldV fld fldA newZ st new idx idxS idxA slc slcS slcP mkS chk nn call callV inv run runQ runU join loop held ext rng undefer s2a nxt ent IntKind.wrap
section
variable {D:DiskM} {M M1:PgM} {k v f side c i:Nat} {key:Key} {p e0 e1:Int} {n nx N:NodeM}
theorem qe8{α:Type}{l:List α}{i:Nat}(h:i<l.length):(delAt l i).length+1=l.length:=by unfold delAt;rw[zF,yK,yB];omega
theorem qjz{l r:NodeM}(sn:ShapeN n)(u:n.leaf=false)(hi:i<n.keys.length)(h:(joinM k v M n i l r).1.2=0):ShapeN (joinM k v M n i l r).1.1:=by have E:=sn.inner u;obtain⟨_,_,G,A,I⟩:=sn;unfold joinM at h⊢;split;rename_i y;rw[if_pos y] at h;exact absurd h y;rename_i y;rw[if_neg y] at h;split;rename_i z;rw[if_pos z] at h;exact absurd h z;have C:=qe8 (l:=n.kids.set i (storeN k v M (n.kids.getD i 0) (joinN l r (n.keys.getD i []))).1.1) (i:=i+1) (by rw[xE];omega);have J:=qe8 hi;rw[xE] at C;exact⟨(fun h=>by rw[u] at h;cases h),fun _=>by dsimp only;omega,by dsimp only;omega,A,by dsimp only;omega⟩
theorem qi5{r:NodeM×NodeM×Key}(sn:ShapeN n)(u:n.leaf=false)(h:(bothM k v M n i r).1.2=0):ShapeN (bothM k v M n i r).1.1:=by have z:=sn.inner u;obtain⟨_,_,A,C,E⟩:=sn;unfold bothM at h⊢;split;rename_i y;rw[if_pos y] at h;exact absurd h y;exact⟨(fun h=>by rw[u] at h;cases h),fun _=>by dsimp only;rw[xE,xE,xE];exact z,by dsimp only;rw[xE];exact A,C,by dsimp only;rw[xE,xE];exact E⟩
theorem qo6(sn:ShapeN n)(u:n.leaf=false)(C:side+1=c\/c+1=side)(G:side<n.kids.length)(E:c<n.kids.length)(h:(evenM D k v M n side c nx).1.2=0):ShapeN (evenM D k v M n side c nx).1.1:=by have I:=sn.inner u;unfold evenM at h⊢;split;rename_i A;rw[if_pos A] at h;exact absurd h A;rename_i A;rw[if_neg A] at h;split;rename_i y;rw[if_pos y] at h;split;rename_i z;rw[if_pos z] at h;exact qjz sn u (by omega) h;rename_i z;rw[if_neg z] at h;exact qi5 sn u h;rename_i y;rw[if_neg y] at h;split;rename_i z;rw[if_pos z] at h;exact qjz sn u (by omega) h;rename_i z;rw[if_neg z] at h;exact qi5 sn u h
def sideOf (c:Nat):Nat:=if c>0 then c-1 else c+1
theorem qsS(h:loadN D M k v p=(n,e0))(u:e0≠0):cutN D k v key (f+1) M p=((zeroN,e0),M):=by unfold cutN;rw[h,if_pos u]
theorem qtA(h:loadN D M k v p=(n,0))(u:n.leaf=true)(y:n.keys[placeV n.keys key]?=some key):cutN D k v key (f+1) M p=(({ n with keys:=delAt n.keys (placeV n.keys key),vals:=delAt n.vals (placeV n.keys key) },0),M):=by unfold cutN;rw[h,if_neg (fun h=>h rfl),if_pos u,if_pos y]
theorem qrX(h:loadN D M k v p=(n,0))(u:n.leaf=true)(y:¬n.keys[placeV n.keys key]?=some key):cutN D k v key (f+1) M p=((zeroN,5),M):=by unfold cutN;rw[h,if_neg (fun h=>h rfl),if_pos u,if_neg y]
theorem qrI(h:loadN D M k v p=(n,0))(u:¬n.leaf=true)(y:cutN D k v key f M (n.kids.getD (kidV n.keys key) 0)=((N,e1),M1))(z:e1≠0):cutN D k v key (f+1) M p=((zeroN,e1),M1):=by unfold cutN;rw[h,if_neg (fun h=>h rfl),if_neg u];dsimp only;rw[y,if_pos z]
theorem qrT(h:loadN D M k v p=(n,0))(u:¬n.leaf=true)(y:cutN D k v key f M (n.kids.getD (kidV n.keys key) 0)=((N,0),M1))(z:¬lowN N k v):cutN D k v key (f+1) M p = (({ n with kids:=n.kids.set (kidV n.keys key) (storeN k v M1 (n.kids.getD (kidV n.keys key) 0) N).1.1 },(storeN k v M1 (n.kids.getD (kidV n.keys key) 0) N).1.2),(storeN k v M1 (n.kids.getD (kidV n.keys key) 0) N).2):=by unfold cutN;rw[h,if_neg (fun h=>h rfl),if_neg u];dsimp only;rw[y,if_neg (fun h=>h rfl),if_pos z]
theorem qry(h:loadN D M k v p=(n,0))(u:¬n.leaf=true)(y:cutN D k v key f M (n.kids.getD (kidV n.keys key) 0)=((N,0),M1))(z:lowN N k v):cutN D k v key (f+1) M p=evenM D k v M1 n (sideOf (kidV n.keys key)) (kidV n.keys key) N:=by unfold cutN sideOf;rw[h,if_neg (fun h=>h rfl),if_neg u];dsimp only;rw[y,if_neg (fun h=>h rfl),if_neg (fun h=>h z)];split<;>rfl
def cutSafe (D:DiskM) (k v:Nat) (key:Key):Nat->PgM->Int->Prop
 | 0,_,_=>False
 | f+1,M,p=>∀n,loadN D M k v p=(n,0)->n.leaf=false->cutSafe D k v key f M (n.kids.getD (kidV n.keys key) 0)/\
  ∀N M1,cutN D k v key f M (n.kids.getD (kidV n.keys key) 0)=((N,0),M1)->lowN N k v->∀ny,loadN D M1 k v (n.kids.getD (sideOf (kidV n.keys key)) 0)=(ny,0)->ny.leaf=N.leaf
end
section
variable {dbk pb j:Nat} {FD S S0 N0 Y Y1 F F' T B By:List Nat} {D:DiskM} {w0 wa w w' w7:World} {M M':PgM} {L:List (Nat×Obj)} {x xy:NdC} {n ny:NodeM} {k v:Nat} {t:Int}
theorem Ed.more2(e:Ed dbk pb FD D j S0 N0 w0 w (bks L) Y F M x n B)(h:Own T wa w L)(E:TW dbk pb FD D j w7 (By++(bks L++(B++Y))) F' M')(I:NodeB (Zo FD (By++(bks L++(B++Y))) F') w7 xy ny By)(f:Fr F w w7)(G:∀b∈F',b∈F\/w.heap.size<=b)(C:∀c∈By,w.heap.size<=c): Ed dbk pb FD D j S0 N0 w0 w7 (bks L) (By++Y) F' M' x n B/\Own (bks L) w7 w7 L/\Oth FD F' w7 (bks L) (B++(By++Y)) xy ny By:=by
 have y:∀b∈bks L++(B++(By++Y)),b∈By++(bks L++(B++Y)):=fun b u=>by simp only[zD] at u⊢;rcases u with u|u|u|u<;>simp[u]
 obtain⟨e1,z⟩:=e.next h (E.weakY fun b u=>zI _ u) f G
 refine⟨⟨e1.sg,E.weakY y,e.node.frame f (fun b u A=>e.tw.yf b (by simp[u]) A) (fun b u=>.inl (zoF u)) fun b u=>?_,e1.sep,e1.bnew,e1.nsub,fun b u A=>?_⟩,z,I.weak fun b u=>.inl (qbA y b u),fun b u A=>?_⟩;simp only[Zo,zD,zG] at u⊢;rcases u with (u|u|u|u|u|u)|u;simp[u];simp[u];simp[u];simp[u];exact .inr (C b u);simp[u];exact (G b u).imp (fun h=>.inr h) id;rcases zD.1 A with z|z
 have:=e.node.lt b u;have:=C b z;omega
 exact e.ysep b u z
 have:=qhJ h b u;have:=C b A;omega
theorem Ed.less(e:Ed dbk pb FD D j S0 N0 w0 w T Y F M x n B)(y:∀b∈Y1,b∈Y):Ed dbk pb FD D j S0 N0 w0 w T Y1 F M x n B:=by
 have z:∀b∈T++(B++Y1),b∈T++(B++Y):=fun b u=>by simp only[zD] at u⊢;rcases u with u|u|u;simp[u];simp[u];simp[y b u]
 exact⟨e.sg,e.tw.weakY z,e.node.weak fun b u=>.inl (qbA z b u),e.sep,e.bnew,e.nsub,fun b u h=>e.ysep b u (y b h)⟩
theorem qt8{L':List (Nat×Obj)}(z:TW dbk pb FD D j w (B++(T++Y)) F M)(A:NodeB (Zo FD (B++(T++Y)) F) w x n B)(C:∀b∈T,b∉B)(h:Own T w w' L'): TW dbk pb FD D j w' (B++Y) F M/\NodeB (Zo FD (B++Y) F) w' x n B:=by
 have y:∀b∈T++(B++Y),b∈B++(T++Y):=fun b u=>by rw[zD,zD] at u⊢;rcases u with u|u|u<;>simp[u]
 have o:Oth FD F w T (B++Y) x n B:=⟨A.weak fun b u=>.inl (qbA y b u),C⟩;exact⟨(TW.now (z.weakY y) h).drop0,(o.now h).node.weak fun b u=>.inl (qej b u)⟩
set_option maxHeartbeats 2000000 in
theorem qlr{ks:Sl}{key:Key}(ay:IsB key)(am:CapsOk k v):∀(f:Nat) {Y F:List Nat} {w0:World} {M:PgM} {p:Int} {K:NdC×Int->WP} (hT:TW dbk pb FD D j w0 Y F M) (hp:U32 p) (hk:RdB (Zo FD Y F) w0 ks key) (J:cutSafe D k v key f M p) (kk:∀yn B' F' w',((cutN D k v key f M p).1.2=0->ShapeN (cutN D k v key f M p).1.1)->TW dbk pb FD D j w' (B'++Y) F' (cutN D k v key f M p).2->NodeB (Zo FD (B'++Y) F') w' yn (cutN D k v key f M p).1.1 B'->Fr F w0 w'->(∀b∈B',w0.heap.size<=b)->(∀b∈F',b∈F\/w0.heap.size<=b)->K (yn,(cutN D k v key f M p).1.2) w'), cW 109 [.agg (wkV (wkX k v pb t)),.u p,ks.v] [.agg qab,.one .i] w0 K
 | 0,_,_,_,_,_,_,_,_,_,J,_=>J.elim
 | f+1,Y,F,w0,M,p,K,hT,hp,hk,J,kk=>by
  refine qjI ?_;unfold qgp;have h:=Own.start [] w0;have g:=Sg.start F w0;refine Own.new' h fun r1 w2 _ _ h=>?_;refine Own.new' h fun r3 w4 _ _ h=>?_;refine Own.ldA h 1 rfl (wkX k v pb t) rfl ?_;rcases Q:loadN D M k v p with ⟨n,e0⟩;refine qf4 (k:=k) (v:=v) (hT.now0 h) hp fun x B w7 bg aH f7 bh=>?_;rw[Q] at aH⊢;dsimp only at aH;obtain⟨e,h⟩:=Ed.load (N0:=[]) (fun _ h=>nomatch h) g h bg aH f7 bh fun b A=>yC (hT.ylt b A) h.fr.size;refine Own.new' h fun r8 w9 _ _ h=>?_;refine Own.sz h 0 rfl (ndV x) fun bP h _=>?_;have ao:∀ {e:Int} {M':PgM} {F':List Nat} {w'},cutN D k v key (f+1) M p=((zeroN,e),M')->e≠0->TW dbk pb FD D j w' Y F' M'->Fr F w0 w'->(∀b∈F',b∈F\/w0.heap.size<=b)->K (zeroX,e) w':=fun he bi bj fr hF=>by
   have:=kk zeroX [] _ _ (fun h=>by rw[he] at h;exact absurd h bi) (by rw[he];exact bj) (by rw[he];exact .zero _ _) fr (fun _ h=>nomatch h) hF
   rw[he] at this;exact this
  refine qaa (fun R=>?_) (fun R=>?_);have aC:e0≠0:=by rw[zT] at R;exact zR.1 R
  refine Own.sz h 1 rfl (ndV zeroX) fun bS h _=>?_;refine Own.ldA h 1 rfl zeroX rfl ?_;have e:=e.now h;exact ao (qsS Q aC) aC e.tw'.drop0 e.fr e.sg.new;have bk:e0=0:=by rw[yD] at R;exact yO.1 R
  subst bk;have hr:=qee Q;have sn:=qjk hr;obtain⟨l1,l2,l3,l4,l5⟩:=qd9 hr;have e:=e.now h;have h:=qan h (.refl _);have aS:x.1=n.leaf:=e.node.1;refine Own.ld h 0 rfl x.1 rfl ?_;refine qaa (fun R=>?_) (fun R=>?_);rw[aS] at R;obtain⟨l6,l7⟩:=l4 R;refine Own.ldA h 0 rfl x rfl ?_;refine qkg e.nodeR (e.rdb hk) ay hr.2.2.1 (by omega) fun bX bl=>?_;obtain⟨e,h⟩:=e.next0 h bl;have bY:=qmd n.keys key;refine qaa (fun U=>?_) (fun U=>?_);rw[zT] at U;have aT:=zB U;refine Own.sz h 1 rfl (ndV zeroX) fun bZ h _=>?_;refine Own.ldA h 1 rfl zeroX rfl ?_;have e:=e.now h;exact ao (qrX Q R aT) (by decide) e.tw'.drop0 e.fr e.sg.new;rw[yD] at U;have aU:=zC U;have aV:=(zP.1 aU).1;have aa:=qtA (f:=f) Q R aU;have ew:IntKind.wrap .i64 ((placeV n.keys key:Int)+1)=((placeV n.keys key+1:Nat):Int):=qbu (by omega);rw[aa] at kk;have h:=Own.drew h;refine Own.ld h 0 rfl x.2.1 rfl ?_;refine Own.ld h 0 rfl x.2.2.1 rfl ?_;have e:=e.now h;dsimp only;refine e.delK h (i:=placeV n.keys key) aV rfl ew (by omega) fun ai B1 b0 e h _=>?_;refine qai (h.cell 0 rfl rfl) ?_;refine e.delV h (i:=placeV n.keys key) (by dsimp only;omega) rfl ew (by dsimp only;omega) fun ap B2 b1 e h _=>?_;refine Own.sz h 0 rfl (ndV (x.1,ai,x.2.2.1,x.2.2.2)) fun b2 h _=>?_;refine Own.sz h 0 rfl (ndV (x.1,ai,ap,x.2.2.2)) fun b3 h _=>?_;refine Own.ldA h 0 rfl (x.1,ai,ap,x.2.2.2) rfl ?_;refine Own.sz h 1 rfl (ndV (x.1,ai,ap,x.2.2.2)) fun bn h _=>?_;refine Own.ldA h 1 rfl (x.1,ai,ap,x.2.2.2) rfl ?_;have e:=e.now h;have k1:=qe8 aV;have k2:=qe8 (l:=n.vals) (i:=placeV n.keys key) (by omega);exact kk (x.1,ai,ap,x.2.2.2) B2 F bn (fun _=>⟨fun _=>by dsimp only;omega,(fun h=>by dsimp only at h;rw[R] at h;cases h),by dsimp only;omega,by dsimp only;omega,by dsimp only;omega⟩) e.tw.drop0 (e.node.weak fun b A=>.inl (qej b A)) e.fr (fun b A=>(e.bnew b A).elim (fun h=>nomatch h) id) e.sg.new
  ·rw[aS] at R;have aI:¬n.leaf=true:=(by rw[R];decide);obtain⟨l6,l7,l8⟩:=l5 R;obtain⟨E,V⟩:=J n Q R;refine Own.ldA h 0 rfl x rfl ?_;refine qnv e.nodeR (e.rdb hk) ay hr.2.2.1 (by omega) fun b4 bo=>?_;obtain⟨e,h⟩:=e.next0 h bo;have bp:=qiC n.keys key;have aq:=fun N e1 M1 he=>qrI (key:=key) (f:=f) (N:=N) (e1:=e1) (M1:=M1) Q aI he;have U:=fun N M1 he=>qrT (key:=key) (f:=f) (N:=N) (M1:=M1) Q aI he;have aJ:=fun N M1 he=>qry (key:=key) (f:=f) (N:=N) (M1:=M1) Q aI he;generalize b5:kidV n.keys key=c at bp E V aq U aJ⊢;have ab:c<n.kids.length:=(by omega);have bq:n.kids.getD c 0=n.kids[c]:=qdp ab;rw[bq] at E V aq U aJ;have hu:U32 n.kids[c]:=e.node.2.1.2.2 _ (zW ab);rcases aj:cutN D k v key f M n.kids[c] with ⟨⟨N1,e1⟩,M1⟩;have aq:=aq N1 e1 M1 aj;refine⟨?a,?b⟩;case' a=>
    have h:=Own.drew h;have e:=e.now h;refine Own.ldA h 2 rfl (wkX k v pb t) rfl ?_;refine Own.ld h 0 rfl x.2.2.2 rfl ?_;refine Rds.getU e.kidsR c rfl ab fun bs hh=>?_;have hz:=e.fr.size;refine qlr ay am f e.tw hu (e.rdb hk) E fun xx Bx F1 bu al ac G aK ad aL=>?_;rw[aj] at al ac G⊢;dsimp only at al G⊢;obtain⟨e,h,ox⟩:=e.more2 h ac G aK aL ad;refine Own.new' h fun I bv _ _ h=>?_;refine qap (hh _ _ (e.now h).kidsR) (h.cell 1 rfl rfl) (h.cells 3 rfl rfl) ?_;refine Own.sz h 0 rfl (ndV xx) fun bw h _=>?_;have aB:∀b∈Bx,w0.heap.size<=b:=fun b A=>zL hz (ad b A);have ox:=ox.now h;have e:=e.now h;have h:=qan h (.refl _)
   case' b=>
    have h:=Own.drew h;have e:=e.now h;have h:=qan h (.refl _);refine Own.ldA h 2 rfl (wkX k v pb t) rfl ?_;refine Own.ld h 0 rfl x.2.2.2 rfl ?_;refine Rds.getU e.kidsR c rfl ab fun bs hh=>?_;refine Own.new' h fun I bv _ _ h=>?_;have e:=e.now h;refine qap (hh _ _ e.kidsR) (h.cell 1 rfl rfl) (h.cells 3 rfl rfl) ?_;have hz:=e.fr.size;refine qlr ay am f e.tw hu (e.rdb hk) E fun xx Bx F1 bu al ac G aK ad aL=>?_;rw[aj] at al ac G⊢;dsimp only at al G⊢;obtain⟨e,h,ox⟩:=e.more2 h ac G aK aL ad;refine Own.sz h 0 rfl (ndV xx) fun bw h _=>?_;have aB:∀b∈Bx,w0.heap.size<=b:=fun b A=>zL hz (ad b A);have ox:=ox.now h;have e:=e.now h;have h:=qan h (.refl _)
   all_goals
    refine qaa (fun hq=>?_) (fun hq=>?_);have aD:e1≠0:=by rw[zT] at hq;exact zR.1 hq
    refine Own.sz h 2 rfl (ndV zeroX) fun b6 h _=>?_;refine Own.ldA h 2 rfl zeroX rfl ?_;have e:=e.now h;exact ao (aq aD) aD (e.tw'.weakY fun b A=>by simp[A]) e.fr e.sg.new;have bx:e1=0:=by rw[yD] at hq;exact yO.1 hq
    subst bx;have sx:=al rfl;refine Own.ldA h 3 rfl (shX k v) rfl ?_;refine Own.ldA h 0 rfl xx rfl ?_;have lx:NodeL xx N1:=(ox.node.rd (S:=[]) (fun _ _ h=>(nomatch h)) fun _ h=>nomatch h).lens;refine quK lx fun af aZ=>?_;obtain⟨e,h⟩:=e.next0 h aZ;have ox:=ox.frame0 aZ;refine qaa (fun ar=>?_) (fun ar=>?_);have ah:¬lowN N1 k v:=by rw[zT] at ar;exact zB ar
    have aa:=U N1 M1 aj ah;rw[aa] at kk;have h:=Own.drew h;have e:=e.now h;have ox:=ox.now h;have h:=qan h (.refl _);refine Own.ld h 1 rfl x.2.2.2 rfl ?_;refine Own.ldA h 3 rfl (wkX k v pb t) rfl ?_;refine Own.ld h 1 rfl x.2.2.2 rfl ?_;refine Rds.get e.kidsR c rfl (x:=n.kids[c]) (zA ab) (y:=n.kids[c]) rfl ?_;refine Own.ldA h 0 rfl xx rfl ?_;have z1:=sx.keys;have z2:=sx.vals;have z3:=sx.kids;have bz:NodeR (Zo FD (bks _++(B++Y)) F1) af.drew xx N1:=ox.node.rd (fun b A C=>by
     have hs:=e.tw.sep b (by simp[A]);rcases zD.1 C with C|C;rcases zD.1 C with C|C;exact hs.1 C;rcases zG.1 C with C|C;exact hs.2 C;rcases zD.1 C with C|C;exact ox.sep b C A;rcases zD.1 C with C|C;exact e.ysep b C (by simp[A])
     have:=aB b A;have:=hT.ylt b C;omega
     exact e.tw.yf b (by simp[A]) C) fun b A=>.inl (qbA (fun b A=>by
     rw[zD,zD] at A⊢;rcases A with A|A|A;exact .inl A;exact .inr (by simp[A]);exact .inr (by simp[A])) b A)
    have e:=e.less (Y1:=Y) fun b A=>zI _ A;refine qbh e.tw bz (by omega) (by omega) (by omega) fun F2 b9 a2 bA bB=>?_;have aM:U32 (storeN k v M1 n.kids[c] N1).1.1:=qbk e.tw.wf hu;obtain⟨e,h⟩:=e.next h a2 bA bB
    generalize storeN k v M1 n.kids[c] N1=st at kk e aM⊢;obtain⟨⟨a1,s1⟩,M2⟩:=st;dsimp only at kk e aM⊢;refine qai (h.cell 1 rfl rfl) ?_;refine e.setI h (i:=c) ab rfl aM fun B2 b' e h _=>?_;refine Own.ldA h 1 rfl x rfl ?_;refine Own.sz h 2 rfl (ndV x) fun bC h _=>?_;refine Own.ldA h 2 rfl x rfl ?_;have e:=e.now h;exact kk x B2 F2 bC (fun _=>⟨(fun h=>by dsimp only at h;rw[R] at h;cases h),fun _=>by dsimp only;rw[xE];omega,by dsimp only;omega,by dsimp only;omega,by dsimp only;rw[xE];omega⟩) e.tw.drop0 (e.node.weak fun b A=>.inl (qej b A)) e.fr (fun b A=>(e.bnew b A).elim (fun h=>nomatch h) id) e.sg.new;have ah:lowN N1 k v:=by rw[yD] at ar;exact zC ar
    have aa:=aJ N1 M1 aj ah;have bD:=V N1 M1 aj ah;rw[aa] at kk;have e:=e.sub (T1:=[I,r8,r3,r1]) fun b A=>A;have ox:Oth FD F1 af [I,r8,r3,r1] (B++(Bx++Y)) xx N1 Bx:=ox;have ag:∀b∈B++(Bx++([I,r8,r3,r1]++Y)),b∈[I,r8,r3,r1]++(B++(Bx++Y)):=fun b A=>by rw[zD,zD,zD] at A⊢;rcases A with A|A|A|A<;>simp[A]
    have bE:∀b∈Bx,b∉Y:=fun b A C=>by have:=aB b A;have:=hT.ylt b C;omega
    have a3:sideOf c+1=c\/c+1=sideOf c:=(by unfold sideOf;split<;>omega);have hs:sideOf c<n.kids.length:=(by unfold sideOf;split<;>omega);have aE:=fun {K':NdC×Int->WP} (bF)=>qsY (t:=t) (pb:=pb) (j:=j) (dbk:=dbk) (Y:=[I,r8,r3,r1]++Y) (K:=K') (e.tw.weakY ag) (e.node.weak fun b A=>.inl (qbA ag b A)) (ox.node.weak fun b A=>.inl (qbA ag b A)) (fun b A C=>e.ysep b A (zH _ C)) (fun b A C=>(zD.1 C).elim (fun C=>e.sep b C A) fun C=>e.ysep b A (zI _ C)) (fun b A C=>(zD.1 C).elim (fun C=>ox.sep b C A) (bE b A)) sn sx R a3 hs ab bD am bF;have a4:=fun h0=>qo6 (D:=D) (M:=M1) (k:=k) (v:=v) (nx:=N1) sn R a3 hs ab h0;have hS:∀b∈B++(Bx++F1),b∈F\/w0.heap.size<=b:=fun b A=>by rcases zD.1 A with A|A;exact (e.bnew b A).elim (fun h=>nomatch h) .inr;rcases zD.1 A with A|A;exact .inr (aB b A);exact e.sg.new b A
    have bG:∀b∈[I,r8,r3,r1],b<af.heap.size:=fun b A=>e.tw.ylt b (zH _ A);have a5:∀b∈[I,r8,r3,r1],b∉B++(Bx++F1):=fun b A C=>by rcases zD.1 C with C|C;exact e.sep b A C;rcases zD.1 C with C|C;exact ox.sep b A C;exact e.tw.yf b (zH _ A) C
    generalize evenM D k v M1 n (sideOf c) c N1=ev at kk a4 aE;have au:∀ {z:Int},z=(sideOf c:Int)->(ldA qaj ⟨r1,0,none⟩ af fun a6=>ldA qab ⟨r8,0,none⟩ af fun a7=>ldA qab ⟨I,0,none⟩ af fun a8=>
      cW 143 [Value.agg (List.toArray (HL.mk qaj a6)),Value.agg (List.toArray (HL.mk qab a7)),Value.int IntKind.i64 z,Value.int IntKind.i64 c,Value.agg (List.toArray (HL.mk qab a8))] [Ty1.agg qab,Ty1.one (Cell.int IntKind.i64)] af fun aF a9=>
      st ⟨r3,0,none⟩ (HL.mk qab aF.1) a9 fun aG=>ldA qab ⟨r3,0,none⟩ aG fun a'=>K (a',aF.2) aG):=fun hz=>by
     subst hz;refine Own.ldA h 3 rfl (wkX k v pb t) rfl ?_;refine Own.ldA h 1 rfl x rfl ?_;refine Own.ldA h 0 rfl xx rfl ?_;refine aE fun yn B' F' cc ba bb bc nB nF=>?_;have h:=qaK h bc a5;refine Own.sz h 2 rfl (ndV yn) fun bH h _=>?_;refine Own.ldA h 2 rfl yn rfl ?_;obtain⟨bI,bJ⟩:=qt8 (T:=[I,r8,r3,r1]) ba bb (fun b A C=>(nB b C).elim (e.sep b A) fun h1=>by have:=bG b A;omega) h;exact kk yn B' F' bH a4 bI bJ ((e.fr.trans' bc hS).trans' h.fr e.sg.own) (fun b A=>(nB b A).elim (fun h1=>(e.bnew b h1).elim (fun h=>nomatch h) id) fun h1=>zL e.fr.size h1) fun b A=>(nF b A).elim (hS b) fun h1=>.inr (zL e.fr.size h1)
    refine qaa (fun aN=>?_) (fun aN=>?_);have av:0<c:=(by have:=zC aN;omega);refine au ?_;unfold sideOf;rw[if_pos av,wi' _ (by omega)];omega;have av:¬0<c:=(by have:=zB aN;omega);refine au ?_;unfold sideOf;rw[if_neg av,wi' _ (by omega)];omega
end
end Go.Proofs.YtmmkegapckbomaaGreatDoor
end
section
namespace Go.Proofs.YtmmkegapckbomaaGreatDoor
open Go Go.Pt List
open Go.IntKind (wrap)
open Classical
attribute [local irreducible] ld ldA ldV fld fldA newZ st new idx idxS idxA slc slcS slcP mkS chk nn call callV inv run runQ runU join loop held ext rng undefer s2a nxt ent IntKind.wrap
abbrev RtC:=Int×Int×Int
def rtV (x:RtC):Array Value:=#[.u x.1,.u x.2.1,.u x.2.2]
abbrev RT:TypeId:=39
section
variable {S:List Nat} {w:World}
theorem qlM{vb:Nat}{T':TypeId}{h:Nat×Nat}{ks:Sl}{key:Key}(y:w.heap[vb]?=some (.cells #[elSl ks] T' h))(z:vb∉S)(A:RdB S w ks key):RdK S w ⟨pW vb,1,1⟩ [(ks,key)]:=
 ⟨⟨rfl,zM _,.inr ⟨vb,0,_,T',h,rfl,y,z,fun i x u=>by
  cases i with
  | zero=>cases u;rfl
  | succ i=>simp at u⟩⟩,fun p C=>by rw[zE.1 C];exact A⟩
theorem quy{vb:Nat}{T':TypeId}{y:Nat×Nat}{a b:Int}(z:w.heap[vb]?=some (.cells #[.u a,.u b] T' y))(A:vb∉S):Rds encU 1 S w ⟨pW vb,2,2⟩ [a,b]:=
 ⟨rfl,zM _,.inr ⟨vb,0,_,T',y,rfl,z,A,fun i x h=>by
  match i,h with
  | 0,h=>cases h;rfl
  | 1,h=>cases h;rfl
  | i+2,h=>simp at h⟩⟩
end
section
variable {dbk pb j:Nat} {FD Y F F' T:List Nat} {D:DiskM} {w0 w w':World} {M M':PgM} {L L':List (Nat×Obj)} {k v:Nat} {t:Int}
theorem qk6{b:Nat}(h:TW dbk pb FD D j w Y F M)(y:w.heap.size<=b):b∉Zo FD Y F:=fun u=>by have:=h.zlt b u;omega
set_option maxHeartbeats 1000000 in
theorem qqL{f:Nat}{ks vs:Sl}{key val:Key}{K:Int->WP}(ar:IsB key)(au:IsB val)(hT:TW dbk pb FD D j w0 Y F M)(hk:RdB (Zo FD Y F) w0 ks key)(hv:RdB (Zo FD Y F) w0 vs val)(y:(rootM M t).1≠0->(putN D k v key val f M (rootM M t).1).1.2≠-1)(u:∀F' w',TW dbk pb FD D j w' Y F' (insertN D k v t key val f M).2->Fr F w0 w'->(∀b∈F',b∈F\/w0.heap.size<=b)->K (insertN D k v t key val f M).1 w'): cW 62 [.agg (wkV (wkX k v pb t)),ks.v,vs.v] [.one .i] w0 K:=by
 refine qhn ?_;unfold qd0;have g:=Sg.start F w0;have h:=Own.start [] w0;obtain⟨u1,u2,u3⟩:=qj9 hT.wf t;refine Own.new' h fun r1 w2 _ _ h=>?_;refine Own.ld h 0 rfl (pW pb) rfl ?_;refine Own.ld h 0 rfl t rfl ?_;refine TW.root (hT.frame0 h.fr) fun w6 f6=>?_;have h:=h.frame0 f6;unfold insertN at u;generalize rootM M t=E at u y u1 u2 u3⊢;refine Own.new' h fun r7 w8 _ _ h=>?_;refine Own.sz h 0 rfl (rtV E) fun w9 h _=>?_;refine Own.ld h 0 rfl E.1 rfl ?_;refine qaa (fun hc=>?_) (fun hc=>?_);have hc:E.1=0:=yO.1 hc;rw[if_pos hc] at u;refine Own.ldA h 1 rfl (wkX k v pb t) rfl ?_;have ae:=hT.now0 h;have aM:=qbM hk h;have aN:=qbM hv h;have g:=g.next0 h (.refl [] _);have h:=qan h (.refl _);refine Own.new' h fun av bj bk aw h=>?_;refine Own.new' h fun ax aO bl aP h=>?_;have bg:=aw.size;have U:=aw.trans aP;have ac:=ae.frame0 U;have aQ:=qk6 ae (b:=av) (by omega);have aR:=qk6 ae (b:=ax) (by omega);have af:=qlM (h.at (i:=1) rfl) aQ (aM.frame0 U);have aS:=qlM (h.at (i:=0) rfl) aR (aN.frame0 U);have hx:NodeR _ aO (true,⟨pW av,1,1⟩,⟨pW ax,1,1⟩,⟨none,0,0⟩) (lfOf [(key,val)]):=⟨rfl,⟨fun a ha=>by rw[zE.1 ha];exact ar,fun a ha=>by rw[zE.1 ha];exact au,fun _ h=>nomatch h⟩,⟨_,af,rfl⟩,⟨_,aS,rfl⟩,.nil _ _ _ _⟩;refine qbh ac hx (zO rfl) (zO rfl) (zO rfl) fun F1 aU I ay aV=>?_;have g:=g.next h ay aV
 have h:=qaK (h.sub (.cons _ (.cons _ (.refl _)))) ay fun b hb=>ac.yf b (zH _ hb);have hu:U32 (storeN k v M 0 (lfOf [(key,val)])).1.1:=qbk hT.wf qdv;unfold rootTo at u;generalize storeN k v M 0 (lfOf [(key,val)])=st at u I hu⊢;obtain⟨⟨q,e⟩,M1⟩:=st;dsimp only at u I hu⊢;refine qaa (fun C=>?_) (fun C=>?_);have y:e≠0:=by rw[zT] at C;exact zR.1 C
 rw[if_pos y] at u;exact u F1 aU I.drop0 g.tot g.new;have y:¬e≠0:=by rw[yD] at C;exact fun h=>h (yO.1 C)
 rw[if_neg y] at u;refine Own.ld h 1 rfl (pW pb) rfl ?_;refine Own.ld h 1 rfl t rfl ?_;refine TW.setRoot I hu ⟨by decide,by decide⟩ ⟨by decide,by decide⟩ fun aW az aX=>?_;exact u F1 aW az.drop0 (g.tot.trans' aX g.new) g.new;have hc:E.1≠0:=zR.1 hc;rw[if_neg hc] at u;refine Own.ldA h 1 rfl (wkX k v pb t) rfl ?_;refine Own.ld h 0 rfl E.1 rfl ?_;refine qlA ar au f (hT.now0 h) u1 (qbM hk h) (qbM hv h) (y hc) fun gs F1 aA hG G ah aB aY=>?_;have g:=g.next h aB aY
 have h:=(hT.now0 h).own h aB;generalize putN D k v key val f M E.1=pn at u hG G ah⊢;obtain⟨⟨A,e1⟩,M1⟩:=pn;dsimp only at hG G ah⊢;unfold growN at u;dsimp only at u;refine Own.new' h fun aC bn _ _ h=>?_;refine Own.sz h 0 rfl (grV (grX A gs)) fun aZ h _=>?_;refine qaa (fun C=>?_) (fun C=>?_);have y:e1≠0:=by rw[zT] at C;exact zR.1 C
 rw[if_pos y] at u;exact u F1 aZ (G.now h).drop0 (g.fr h) g.new;have y:¬e1≠0:=by rw[yD] at C;exact fun h=>h (yO.1 C)
 rw[if_neg y] at u;refine Own.ld h 0 rfl A.page rfl ?_;refine Own.sz h 1 rfl (rtV (A.page,E.2.1,E.2.2)) fun bo h _=>?_;have aD:U32 (if A.fresh then wrap .u32 (E.2.1+1) else E.2.1):=by split;exact qaP _;exact u2
 refine qaf (fun _ w'=>Own [r7,r1] aA w' [(aC,.cells (grV (grX A gs)) GR (0,0)),(r7,.cells (rtV (A.page,(if A.fresh then wrap .u32 (E.2.1+1) else E.2.1),E.2.2)) RT (0,0)),(r1,.cells (wkV (wkX k v pb t)) WK (0,0))]) ?_ ?_;refine Own.ld h 0 rfl A.fresh rfl ?_;refine qaa (fun z=>?_) (fun z=>?_);rw[if_pos z];refine Own.ld h 1 rfl E.2.1 rfl ?_;refine Own.sz h 1 rfl (rtV (A.page,wrap .u32 (E.2.1+1),E.2.2)) fun bp h _=>h;rw[if_neg (by rw[z];decide)];exact h;intro _ a0 h;generalize (if A.fresh then wrap .u32 (E.2.1+1) else E.2.1)=R at u aD h;refine qaf (fun _ w'=>∃(a c:Int) (F2 T:List Nat) (M2:PgM) (wa:World),Sg F w0 wa F2 T/\TW dbk pb FD D j wa (T++Y) F2 M2/\Own T wa w' [(aC,.cells (grV (grX A gs)) GR (0,0)),(r7,.cells (rtV (a,R,c)) RT (0,0)),(r1,.cells (wkV (wkX k v pb t)) WK (0,0))]/\U32 a/\U32 c/\
  ∀F' w',TW dbk pb FD D j w' Y F' (setRootM M2 t a R c).2->Fr F w0 w'->(∀b∈F',b∈F\/w0.heap.size<=b)->K (setRootM M2 t a R c).1 w') ?_ ?_
 refine Own.ld h 0 rfl A.other rfl ?_;refine qaa (fun z=>?_) (fun z=>?_);have z:A.other≠0:=by rw[zT] at z;exact zR.1 z
 rw[if_pos z] at u;refine Own.ldA h 2 rfl (wkX k v pb t) rfl ?_;refine Own.ld h 0 rfl gs rfl ?_;have J:=TW.now (T:=[r7,r1]) G h;have aj:=qaE (T:=[r7,r1]) ah h;have g:Sg F w0 a0 F1 (bks _):=g.next0 h (.refl [] _);have h:=qan h (.refl _);refine Own.new' h fun aE bq br aF h=>?_;refine Own.ld h 1 rfl A.page rfl ?_;refine Own.ld h 1 rfl A.other rfl ?_;refine Own.new' h fun aG a1 bs a2 h=>?_;have bh:=aF.size;have aH:=aF.trans a2;have ad:=J.frame0 aH;have a3:=qk6 J (b:=aE) (by omega);have a4:=qk6 J (b:=aG) (by omega);have af:=qlM (h.at (i:=1) rfl) a3 (aj.frame0 aH);have a5:=quy (h.at (i:=0) rfl) a4;have hx:NodeR _ a1 (false,⟨pW aE,1,1⟩,⟨none,0,0⟩,⟨pW aG,2,2⟩) ⟨false,[A.key],[],[A.page,A.other]⟩:=⟨rfl,⟨fun a ha=>by rw[zE.1 ha];exact hG.key,fun _ h=>(nomatch h),fun a ha=>by simp only[zG,xU,or_false] at ha;rcases ha with rfl|rfl;exact hG.page;exact hG.other⟩,⟨_,af,rfl⟩,⟨_,.nil _ _,rfl⟩,a5⟩;refine qbh ad hx (zO rfl) (zO rfl) (zO rfl) fun F2 aI Q aJ a6=>?_;have g:=g.next h aJ a6
 have h:=qaK (h.sub (.cons _ (.cons _ (.refl _)))) aJ fun b hb=>ad.yf b (zH _ hb);have hu:U32 (storeN k v M1 0 ⟨false,[A.key],[],[A.page,A.other]⟩).1.1:=qbk J.wf qdv;unfold rootTo at u;generalize storeN k v M1 0 ⟨false,[A.key],[],[A.page,A.other]⟩=st at u Q hu⊢;obtain⟨⟨q,e⟩,M2⟩:=st;dsimp only at u Q hu⊢;refine qaa (fun V=>?_) (fun V=>?_);have y:e≠0:=by rw[zT] at V;exact zR.1 V
 rw[if_pos y] at u;exact u F2 aI Q.drop0 g.tot g.new;have y:¬e≠0:=by rw[yD] at V;exact fun h=>h (yO.1 V)
 rw[if_neg y] at u;refine Own.ld h 1 rfl E.2.2 rfl ?_;refine Own.sz h 1 rfl (rtV (q,R,E.2.2)) fun bt h _=>?_;refine Own.sz h 1 rfl (rtV (q,R,wrap .u32 (E.2.2+1))) fun bu h _=>?_;exact⟨q,_,F2,_,M2,aI,⟨g.tot,g.new,fun b hb=>g.own b (by simp at hb⊢;rcases hb with h|h|h<;>simp[h])⟩,Q,h,hu,qaP _,u⟩;have z:¬A.other≠0:=by rw[yD] at z;exact fun h=>h (yO.1 z)
 rw[if_neg z] at u;exact⟨A.page,E.2.2,F1,[r7,r1],M1,aA,g,G,h,hG.page,u3,u⟩;rintro _ bv ⟨a,c,F2,T,M2,wa,g,a7,h,ha,a8,u⟩;refine Own.ld h 2 rfl (pW pb) rfl ?_;refine Own.ld h 2 rfl t rfl ?_;refine Own.ldA h 1 rfl (a,R,c) rfl ?_;refine TW.setRoot (a7.now h) ha aD a8 fun a9 aK a'=>?_;exact u F2 a9 aK.drop0 ((g.fr h).trans' a' g.new) g.new
end
section
section
variable {dbk pb j:Nat} {FD Y F F' T:List Nat} {D:DiskM} {w0 w w':World} {M M':PgM} {L L':List (Nat×Obj)} {k v:Nat} {t:Int}
theorem Oth.rd{x:NdC}{n:NodeM}{B:List Nat}(o:Oth FD F w T (B++Y) x n B)(z:TW dbk pb FD D j w (T++(B++Y)) F M)(y:∀b∈B,b∉Y):NodeR (Zo FD (T++Y) F) w x n:=
 o.node.rd (fun b h u=>by
  have A:=z.sep b (by simp[h]);simp only[Zo,zD,zG] at u;rcases u with (u|u|u|u)|u;exact A.1 u;exact A.2 u;exact o.sep b u h;exact y b h u;exact z.yf b (by simp[h]) u) fun b h=>.inl (qbA (fun b h=>by
  rw[zD] at h;simp only[zD];rcases h with h|h;exact .inl h;exact .inr (.inr h)) b h)
theorem Oth.next{R:List Nat}{x:NdC}{n:NodeM}{B:List Nat}(o:Oth FD F w T R x n B)(f:Fr F w w')(h:∀b∈B,b∉F)(u:∀b∈F',b∈F\/w.heap.size<=b):Oth FD F' w' T R x n B:=⟨o.node.frame f h (fun b y=>.inl (zoF y)) (TW.znew u),o.sep⟩
theorem qrQ{r:Int×Int×Int}{N:NodeM}:shrinkN k v t r ((N,0),M) = if N.leaf=true/\N.keys.length=0 then (if (dropV M r.1).1≠0 then ((dropV M r.1).1,(dropV M r.1).2) else setRootM (dropV M r.1).2 t 0 0 0) else if N.leaf=false/\N.kids.length=1 then (if (dropV M r.1).1≠0 then ((dropV M r.1).1,(dropV M r.1).2) else setRootM (dropV M r.1).2 t (N.kids.getD 0 0) (wrap .u32 (r.2.1-1)) (wrap .u32 (r.2.2-1))) else rootTo t (storeN k v M r.1 N) (wrap .u32 (r.2.1-1)) r.2.2:=by unfold shrinkN;rw[if_neg (fun h=>h rfl)]
set_option maxHeartbeats 1000000 in
theorem qqq{f:Nat}{ks:Sl}{key:Key}{K:Int->WP}(aE:IsB key)(ak:CapsOk k v)(hT:TW dbk pb FD D j w0 Y F M)(hk:RdB (Zo FD Y F) w0 ks key)(J:cutSafe D k v key f M (rootM M t).1)(A:∀F' w',TW dbk pb FD D j w' Y F' (removeN D k v t key f M).2->Fr F w0 w'->(∀b∈F',b∈F\/w0.heap.size<=b)->K (removeN D k v t key f M).1 w'): cW 66 [.agg (wkV (wkX k v pb t)),ks.v] [.one .i] w0 K:=by
 refine qhl ?_;unfold qd5;have g:=Sg.start F w0;have h:=Own.start [] w0;obtain⟨u1,u2,u3⟩:=qj9 hT.wf t;refine Own.new' h fun r1 w2 _ _ h=>?_;refine Own.ld h 0 rfl (pW pb) rfl ?_;refine Own.ld h 0 rfl t rfl ?_;refine TW.root (hT.frame0 h.fr) fun w6 f6=>?_;have h:=h.frame0 f6;unfold removeN at A;generalize rootM M t=C at A J u1 u2 u3⊢;refine Own.new' h fun r7 w8 _ _ h=>?_;refine Own.sz h 0 rfl (rtV C) fun w9 h _=>?_;refine Own.ldA h 1 rfl (wkX k v pb t) rfl ?_;refine Own.ld h 0 rfl C.1 rfl ?_;refine qlr aE ak f (hT.now0 h) u1 (qbM hk h) J fun x B F1 ao af Q R ap ac aG=>?_;have aH:=qhJ h;have a2:=h.fr.size;have g:=g.next h ap aG
 have h:=(hT.now0 h).own h ap;generalize cutN D k v key f M C.1=cn at A af Q R⊢;obtain⟨⟨N,e1⟩,M1⟩:=cn;dsimp only at af Q R⊢;have aq:TW dbk pb FD D j ao ([r7,r1]++(B++Y)) F1 M1:=Q.weakY fun b u=>by rw[zD,zD] at u;simp only[zD];rcases u with u|u|u;exact .inr (.inl u);exact .inl u;exact .inr (.inr u)
 have o:Oth FD F1 ao [r7,r1] (B++Y) x N B:=⟨R.weak fun b u=>.inl (qbA (fun b u=>by rw[zD,zD] at u;simp only[zD];rcases u with u|u|u;exact .inr (.inl u);exact .inl u;exact .inr (.inr u)) b u),fun b u hm=>by have:=aH b u;have:=ac b hm;omega⟩;have aJ:∀b∈B,b∉Y:=fun b u hm=>by have:=hT.ylt b hm;have:=ac b u;omega
 have E:∀ {T:List Nat},∀b∈T++Y,b∈T++(B++Y):=fun b u=>by rw[zD] at u;simp only[zD];rcases u with u|u;exact .inl u;exact .inr (.inr u)
 refine Own.new' h fun aK a4 _ _ h=>?_;refine Own.sz h 0 rfl (ndV x) fun aL h _=>?_;refine qaa (fun G=>?_) (fun G=>?_);have U:e1≠0:=by rw[zT] at G;exact zR.1 G
 have e:shrinkN k v t C ((N,e1),M1)=(e1,M1):=(by unfold shrinkN;rw[if_pos U]);rw[e] at A;exact A F1 aL ((TW.now (T:=[r7,r1]) aq h).weakY fun b u=>by simp[u]) (g.fr h) g.new;have aM:e1=0:=(by rw[yD] at G;exact yO.1 G);subst aM;rw[qrQ] at A;have aa:x.1=N.leaf:=o.node.1;have ar:NodeL x N:=(o.node.rd (S:=[]) (fun _ _ h=>(nomatch h)) fun _ h=>nomatch h).lens;have ag:U32 (wrap .u32 (C.2.1-1)):=qaP _;refine Own.ld h 1 rfl C.2.1 rfl ?_;refine Own.sz h 1 rfl (rtV (C.1,wrap .u32 (C.2.1-1),C.2.2)) fun au h _=>?_;generalize wrap .u32 (C.2.1-1)=ab at A ag h;have z:=TW.now (T:=[r7,r1]) aq h;have o:=o.now h;have g:Sg F w0 au F1 (bks _):=g.next0 h (.refl [] _);have h:=qan h (.refl _);refine qaf (fun e w'=>∃(a b c:Int) (V T:List Nat) (M2:PgM) (wa:World),Sg F w0 wa V T/\TW dbk pb FD D j wa (T++Y) V M2/\Own T wa w' [(aK,.cells (ndV x) ND (0,0)),(r7,.cells (rtV (a,b,c)) RT (0,0)),(r1,.cells (wkV (wkX k v pb t)) WK (0,0))]/\U32 a/\U32 b/\U32 c/\
  ∀F' w',TW dbk pb FD D j w' Y F' (if e≠0 then (e,M2) else setRootM M2 t a b c).2->Fr F w0 w'->(∀b∈F',b∈F\/w0.heap.size<=b)->K (if e≠0 then (e,M2) else setRootM M2 t a b c).1 w') ?_ ?_
 refine qaf (fun d w'=>d=decide (N.leaf=true/\N.keys.length=0)/\w'=au) ?_ ?_;refine Own.ld h 0 rfl x.1 rfl ?_;refine qaa (fun G=>?_) (fun G=>?_);rw[aa] at G;refine Own.ld h 0 rfl x.2.1 rfl ⟨?_,rfl⟩;rw[ar.keys,Bool.eq_iff_iff,yO,yM];exact⟨fun h=>⟨G,by omega⟩,fun h=>by rw[h.2];rfl⟩;rw[aa] at G;exact⟨(zU fun h=>by rw[G] at h;exact absurd h.1 (by decide)).symm,rfl⟩;rintro d aN ⟨rfl,rfl⟩;refine qaa (fun hd=>?_) (fun hd=>?_);have hd:=zC hd;rw[if_pos hd] at A;refine Own.ld h 2 rfl (pW pb) rfl ?_;refine Own.ld h 1 rfl C.1 rfl ?_;refine TW.drop (z.weakY E) fun V aO av aw aP=>?_;have g:=g.next h aw aP
 have h:=TW.own (z.weakY E) h aw;refine Own.sz h 1 rfl (rtV (0,0,0)) fun a5 h _=>?_;exact⟨0,0,0,V,_,_,aO,g,av,h,qdv,qdv,qdv,A⟩;have hd:=zB hd;rw[if_neg hd] at A;refine qaf (fun d w'=>d=decide (N.leaf=false/\N.kids.length=1)/\w'=aN) ?_ ?_;refine Own.ld h 0 rfl x.1 rfl ?_;refine qaa (fun G=>?_) (fun G=>?_);rw[aa,zT] at G;refine Own.ld h 0 rfl x.2.2.2 rfl ⟨?_,rfl⟩;rw[ar.kids,Bool.eq_iff_iff,yO,yM];exact⟨fun h=>⟨G,by omega⟩,fun h=>by rw[h.2];rfl⟩;rw[aa,yD] at G;exact⟨(zU fun h=>by rw[G] at h;exact absurd h.1 (by decide)).symm,rfl⟩;rintro d a6 ⟨rfl,rfl⟩;refine qaa (fun I=>?_) (fun I=>?_);have I:=zC I;rw[if_pos I] at A;have ai:0<N.kids.length:=(by omega);rw[qdp ai] at A;have aQ:U32 N.kids[0]:=o.node.2.1.2.2 _ (zW ai);refine Own.ld h 2 rfl (pW pb) rfl ?_;refine Own.ld h 1 rfl C.1 rfl ?_;refine TW.drop z fun V aR ax aj ay=>?_;have g:=g.next h aj ay
 have o:=o.next aj (fun b u=>z.yf b (by simp[u])) ay
 have h:=TW.own z h aj;have h:=Own.drew h;refine Own.ld h 0 rfl x.2.2.2 rfl ?_;have oR:NodeR [] _ x N:=(o.now h).node.rd (S:=[]) (fun _ _ h=>(nomatch h)) fun _ h=>nomatch h;refine Rds.get oR.2.2.2.2 0 rfl (x:=N.kids[0]) (zA ai) (y:=N.kids[0]) rfl ?_;refine Own.ld h 1 rfl C.2.2 rfl ?_;refine Own.sz h 1 rfl (rtV (N.kids[0],ab,C.2.2)) fun a8 h _=>?_;refine Own.sz h 1 rfl (rtV (N.kids[0],ab,wrap .u32 (C.2.2-1))) fun a9 h _=>?_;exact⟨_,_,_,V,_,_,aR,g,ax.weakY E,h,aQ,ag,qaP _,A⟩;have I:=zB I;rw[if_neg I] at A;have sx:=af rfl;have z1:=sx.keys;have z2:=sx.vals;have z3:=sx.kids;refine Own.ldA h 2 rfl (wkX k v pb t) rfl ?_;refine Own.ld h 1 rfl C.1 rfl ?_;refine Own.ldA h 0 rfl x rfl ?_;refine qbh (z.weakY E) (o.rd z aJ) (by omega) (by omega) (by omega) fun V aT ae az aU=>?_;have aA:U32 (storeN k v M1 C.1 N).1.1:=qbk z.wf u1;have g:=g.next h az aU
 have h:=TW.own (z.weakY E) h az;unfold rootTo at A;generalize storeN k v M1 C.1 N=st at A ae aA⊢;obtain⟨⟨q,e2⟩,M2⟩:=st;refine Own.sz h 1 rfl (rtV (q,ab,C.2.2)) fun a' h _=>?_;exact⟨q,ab,C.2.2,V,_,M2,aT,g,ae,h,aA,ag,u3,A⟩;rintro e aV ⟨a,b,c,V,T,M2,wa,g,aB,h,ua,ub,uc,A⟩;refine qaa (fun I=>?_) (fun I=>?_);have U:e≠0:=by rw[zT] at I;exact zR.1 I
 rw[if_pos U] at A;exact A V aV (aB.now h).drop0 (g.fr h) g.new;have U:¬e≠0:=by rw[yD] at I;exact fun h=>h (yO.1 I)
 rw[if_neg U] at A;refine Own.ld h 2 rfl (pW pb) rfl ?_;refine Own.ld h 2 rfl t rfl ?_;refine Own.ldA h 1 rfl (a,b,c) rfl ?_;refine TW.setRoot (aB.now h) ua ub uc fun aW aC aX=>?_;exact A V aW aC.drop0 ((g.fr h).trans' aX g.new) g.new
end
end
end Go.Proofs.YtmmkegapckbomaaGreatDoor
end
section
namespace Go.Proofs.YtmmkegapckbomaaGreatDoor
open Go Go.Pt List
open Classical
theorem qsl{S:Type}{B:(S->WP)->S->WP}(I:Nat->S->WP)(z:∀f s w (X:S->WP),I f s w->(∀u y w',u<f->I u y w'->X y w')->B X s w):∀(f:Nat) {s:S} {w:World},I f s w->loop S B s w:=fun f=>by
 induction f using Nat.strongRecOn with
 | ind f ih=>exact fun {s w} h=>qdE fun X A=>z f s w X h fun u y w' C E=>A _ _ (ih u C E)
attribute [local irreducible] ld ldA ldV fld fldA newZ st new idx idxS idxA slc slcS slcP mkS chk nn call callV inv run runQ runU join loop held ext rng undefer s2a nxt ent IntKind.wrap
noncomputable def getN (D:DiskM) (k v:Nat) (key:Key) (M:PgM):Nat->Int->Key×Int
 | 0,p=>if p=0 then ([],5) else ([],-1)
 | f+1,p=>if p=0 then ([],5)
  else if (loadN D M k v p).2≠0 then ([],(loadN D M k v p).2)
  else if (loadN D M k v p).1.leaf then
   if (loadN D M k v p).1.keys[placeV (loadN D M k v p).1.keys key]?=some key then ((loadN D M k v p).1.vals.getD (placeV (loadN D M k v p).1.keys key) [],0) else ([],5)
  else getN D k v key M f ((loadN D M k v p).1.kids.getD (kidV (loadN D M k v p).1.keys key) 0)
section
variable {dbk pb j:Nat} {FD Y F F' T:List Nat} {D:DiskM} {w0 w w':World} {M M':PgM} {k v:Nat} {t:Int}
theorem qpH{f:Nat}{ks:Sl}{key:Key}{K:Sl×Int->WP}(ad:IsB key)(hs:shp t=((k:Int),(v:Int)))(au:k≠0)(aV:key.length=k)(hT:TW dbk pb FD D j w0 Y F M)(hk:RdB (Zo FD Y F) w0 ks key)(J:(getN D k v key M f (rootM M t).1).2≠-1)(kk:∀s w',(∀G:List Nat,(∀b∈G,b<w0.heap.size)->RdB G w' s (getN D k v key M f (rootM M t).1).1)->Fr [] w0 w'->K (s,(getN D k v key M f (rootM M t).1).2) w'): cW 41 [.pointer (pW pb),.i t,ks.v] [.one .slice,.one .i] w0 K:=by
 refine qpg ?_;unfold qmO;have aN:=hk.1;refine qkc (k:=k) (v:=v) hs (fun h=>absurd h au) (fun _ h=>absurd (by omega) h) fun _ _ w2 f2=>?_;have h:=(Own.start [] w0).frame0 f2;refine Own.new' h fun r3 w4 _ _ h=>?_;refine Own.sz h 0 rfl (wkV (wkX k v pb t)) fun w5 h _=>?_;refine cond_false rfl ?_;refine TW.root (hT.frame0 h.fr) fun w7 f7=>?_;have h:=h.frame0 f7;have hu:=(qj9 hT.wf t).1;generalize rootM M t=rt at kk J hu⊢;generalize af:getN D k v key M f rt.1=ag at kk J;refine qaf (fun _ w'=>ag=([],5)/\Fr [] w0 w') ?_ ?_
 ·refine qsl (fun f s w'=>getN D k v key M f s=ag/\U32 s/\Own [] w0 w' [(r3,.cells (wkV (wkX k v pb t)) WK (0,0))]) ?_ f ⟨af,hu,h⟩;rintro f s a0 X ⟨u,ax,h⟩ hX;refine qaa (fun U=>?_) (fun U=>?_)
  ·have Q:s≠0:=(by rw[zT] at U;exact zR.1 U);cases f with
   | zero=>
    unfold getN at u;rw[if_neg Q] at u;rw[<- u] at J;exact absurd rfl J
   | succ f=>
   unfold getN at u;rw[if_neg Q] at u;refine Own.ldA h 0 rfl (wkX k v pb t) rfl ?_;rcases V:loadN D M k v s with ⟨n,e0⟩;rw[V] at u;dsimp only at u;refine qf4 (k:=k) (v:=v) (hT.frame0 h.fr) ax fun x B ay aP z az aQ=>?_;rw[V] at z⊢;dsimp only at z⊢;have I:NodeR [] ay x n:=z.rd (fun _ _ h=>(nomatch h)) fun _ h=>nomatch h;have h:=h.frame0 az;have aR:=h.fr;refine Own.new' h fun ah aA a2 aB h=>?_;have I:NodeR [ah] aA x n:=(I.weak (S':=[ah]) fun b hb=>by rw[zE.1 hb];exact .inr (by omega)).frame0 aB;refine Own.sz h 0 rfl (ndV x) fun ai h aD=>?_;have I:=I.frame aD fun b hb=>.inl hb;refine qaa (fun A=>?_) (fun A=>?_);have aj:e0≠0:=by rw[zT] at A;exact zR.1 A
   rw[if_pos aj] at u;subst u;exact kk ⟨none,0,0⟩ ai (fun _ _=>.nil _ _ _ _) h.fr;have aE:e0=0:=by rw[yD] at A;exact yO.1 A
   subst aE;rw[if_neg (fun h=>h rfl)] at u;have hr:=qee V;obtain⟨l1,l2,l3,l4,l5⟩:=qd9 hr;have ak:x.1=n.leaf:=I.1;refine Own.ld h 0 rfl x.1 rfl ?_;refine qaa (fun C=>?_) (fun C=>?_);have E:n.leaf=false:=(by rw[ak,zT] at C;exact C);rw[if_neg (by rw[E];decide)] at u;obtain⟨l6,l7,l8⟩:=l5 E;have aS:=qiC n.keys key;have fd:=(Fr.refl [] ai).drew;have h:=Own.drew h;refine Own.ld h 0 rfl x.2.2.2 rfl ?_;refine Own.ldA h 0 rfl x rfl ?_;refine qnv (I.frame0 fd) (hk.frame0 h.fr) ad hr.2.2.1 (by omega) fun aF al=>?_;have h:=h.frame0 al;refine qai (h.cell 0 rfl rfl) ?_;have aa:kidV n.keys key<n.kids.length:=(by omega);refine Rds.get ((I.frame0 fd).frame0 al).2.2.2.2 (kidV n.keys key) rfl (zA aa) (y:=n.kids[kidV n.keys key]) rfl ?_;rw[qdp aa] at u;exact hX f _ aF (Nat.lt_succ_self f) ⟨u,I.2.1.2.2 _ (zW aa),h.sub (sublist_cons_self _ _)⟩;have E:n.leaf=true:=(by rw[ak,yD] at C;exact C);rw[if_pos E] at u;obtain⟨l6,l7⟩:=l4 E;refine Own.ldA h 0 rfl x rfl ?_;refine qkg I (hk.frame0 h.fr) ad hr.2.2.1 (by omega) fun a7 am=>?_;have h:=h.frame0 am;refine qaa (fun ab=>?_) (fun ab=>?_);have an:=zC ab;rw[if_pos an] at u;have a8:=(zP.1 an).1;obtain⟨pv,ao,ac⟩:=(I.frame0 am).2.2.2.1;have R:placeV n.keys key<pv.length:=by
    have:=congrArg List.length ac
    rw[zK] at this;omega
   refine Own.ld h 0 rfl x.2.2.1 rfl ?_;refine RdK.get ao (placeV n.keys key) rfl R ?_;have ap:n.vals.getD (placeV n.keys key) []=pv[placeV n.keys key].2:=(by rw[<- ac,qda R]);rw[ap] at u;have aG:pv[placeV n.keys key].2.length<=1000000:=by have h1:=hr.2.1 pv[placeV n.keys key].2 (by rw[<- ac];exact zY (zW R));have h2:=qkT (k:=k) (v:=v) (by omega);omega
   refine qfN (ao.2 _ (zW R)) aG fun s' B' aH aI aJ aK _ _=>?_;subst u;have a':=h.fr.size;exact kk s' aH (fun G hG=>aI.rds qas fun c U hm=>by have:=aK c U;have:=hG c hm;omega) (h.fr.trans aJ);have aq:=zB ab;rw[if_neg aq] at u;exact⟨u.symm,h.fr⟩
  have Q:s=0:=(by rw[yD] at U;exact yO.1 U);refine⟨?_,h.fr⟩;rw[<- u];cases f<;>(unfold getN;rw[if_pos Q])
 rintro _ aL ⟨rfl,aM⟩;exact kk ⟨none,0,0⟩ aL (fun _ _=>.nil _ _ _ _) aM
theorem qpO{r h:Int}(u:0<=r)(y:0<=h/\h<=1000000)(z:2*h.toNat+1<=r.toNat):decide (r>IntKind.wrap .i64 (2*IntKind.wrap .i64 h))=true:=by rw[wi' h (by omega),wi' (2*h) (by omega)];exact zZ (by omega)
theorem qpA{ks vs:Sl}{key val:Key}{f:Nat}{K:Int->WP}(I:IsB key)(J:IsB val)(hs:shp t=((k:Int),(v:Int)))(Q:k≠0)(ah:key.length=k)(R:val.length=v)(hT:TW dbk pb FD D j w0 Y F M)(hk:RdB (Zo FD Y F) w0 ks key)(hv:RdB (Zo FD Y F) w0 vs val)(U:0<=(rootM M t).2.2/\(rootM M t).2.2<=1000000)(V:2*(rootM M t).2.2.toNat+1<=M.free.length)(aa:(rootM M t).1≠0->(putN D k v key val f M (rootM M t).1).1.2≠-1)(kk:∀F' w',TW dbk pb FD D j w' Y F' (insertN D k v t key val f M).2->Fr F w0 w'->(∀b∈F',b∈F\/w0.heap.size<=b)->K (insertN D k v t key val f M).1 w'): cW 17 [.pointer (pW pb),.i t,ks.v,vs.v] [.one .i] w0 K:=by refine qo8 ?_;unfold qmm;have ak:=hk.1;have ab:=hv.1;have g:=Sg.start F w0;have h:=Own.start [] w0;refine Own.new' h fun r1 w2 _ _ h=>?_;refine Own.new' h fun r3 w4 _ _ h=>?_;refine Own.ld h 1 rfl ks rfl ?_;refine qkc (k:=k) (v:=v) hs (fun h=>absurd h Q) (fun _ h=>absurd (by omega) h) fun _ _ w7 f7=>?_;have h:=h.frame0 f7;refine Own.new' h fun r8 w9 _ _ h=>?_;refine Own.sz h 0 rfl (wkV (wkX k v pb t)) fun ac h _=>?_;refine cond_false rfl ?_;refine Own.ld h 1 rfl vs rfl ?_;refine Own.ld h 0 rfl (v:Int) rfl ?_;refine cond_false (by rw[ab,R];simp) ?_;refine Own.ldA h 0 rfl (wkX k v pb t) rfl ?_;have u:=hT.now0 h;have z:=qbM hk h;have A:=qbM hv h;have g:Sg F w0 ac F (bks _):=g.next0 h (.refl [] _);have h:=qan h (.refl _);refine qdy ?_;unfold qcl;refine Own.new' h fun q1 ap _ _ h=>?_;have h:=Own.drew h;refine Own.ld h 0 rfl (pW pb) rfl ?_;refine Own.ld h 0 rfl (pW pb) rfl ?_;refine Own.ld h 0 rfl t rfl ?_;refine TW.room (u.now h) ?_;refine qam (h.cell 0 rfl rfl) (h.cell 0 rfl rfl) ?_;refine TW.root (u.now h) fun aq y=>?_;have C:=(u.now h).frame0 y;have E:=(qaE z h).frame0 y;have G:=(qaE A h).frame0 y;have g:=g.next0 h y;have h:=qaK h y fun _ _ h=>nomatch h;refine cond_true (qpO (by omega) U (by omega)) ?_;refine qbm (lb:=[.pointer (pW r8),.pointer (pW r1),.pointer (pW r3)]) rfl (by kernel_rfl) ?_;refine qlo ?_;unfold qhz;refine Own.ldA h 1 rfl (wkX k v pb t) rfl ?_;refine Own.ld h 3 rfl ks rfl ?_;refine Own.ld h 2 rfl vs rfl ?_;refine qqL I J C E G aa fun F' w' ad f' n'=>?_;exact kk F' w' ad.drop0 (g.tot.trans' f' g.new) fun b hb=>(n' b hb).elim (g.new b) fun h1=>.inr (zL g.tot.size h1)
theorem qtM{ks:Sl}{key:Key}{f f2:Nat}{K:Int->WP}(E:IsB key)(G:CapsOk k v)(hs:shp t=((k:Int),(v:Int)))(I:k≠0)(U:key.length=k)(hT:TW dbk pb FD D j w0 Y F M)(V:RdB (Zo FD Y F) w0 ks key)(aa:0<=(rootM M t).2.2/\(rootM M t).2.2<=1000000)(ab:2*(rootM M t).2.2.toNat+1<=M.free.length)(A:(getN D k v key M f2 (rootM M t).1).2=0)(C:cutSafe D k v key f M (rootM M t).1)(kk:∀F' w',TW dbk pb FD D j w' Y F' (removeN D k v t key f M).2->Fr F w0 w'->(∀b∈F',b∈F\/w0.heap.size<=b)->K (removeN D k v t key f M).1 w'): cW 21 [.pointer (pW pb),.i t,ks.v] [.one .i] w0 K:=by refine qpn ?_;unfold qmq;have ag:=V.1;have g:=Sg.start F w0;have h:=Own.start [] w0;refine Own.new' h fun r1 w2 _ _ h=>?_;refine Own.ld h 0 rfl ks rfl ?_;refine qkc (k:=k) (v:=v) hs (fun h=>absurd h I) (fun _ h=>absurd (by omega) h) fun _ _ w7 f7=>?_;have h:=h.frame0 f7;refine Own.new' h fun r8 w9 _ _ h=>?_;refine Own.sz h 0 rfl (wkV (wkX k v pb t)) fun ak h _=>?_;refine cond_false rfl ?_;refine Own.ld h 1 rfl ks rfl ?_;refine qpH (f:=f2) E hs I U (hT.now0 h) (qbM V h) (by rw[A];decide) fun s al _ y=>?_;rw[A];have u:=(hT.now0 h).frame0 y;have J:=(qbM V h).frame0 y;have g:=g.next0 h y;have h:=qaK h y fun _ _ h=>nomatch h;refine cond_false rfl ?_;refine Own.ldA h 0 rfl (wkX k v pb t) rfl ?_;refine qdy ?_;unfold qcl;refine Own.new' h fun q1 am _ _ h=>?_;have h:=Own.drew h;refine Own.ld h 0 rfl (pW pb) rfl ?_;refine Own.ld h 0 rfl (pW pb) rfl ?_;refine Own.ld h 0 rfl t rfl ?_;refine TW.room (u.now h) ?_;refine qam (h.cell 0 rfl rfl) (h.cell 0 rfl rfl) ?_;refine TW.root (u.now h) fun an z=>?_;have Q:=(u.now h).frame0 z;have R:=(qaE J h).frame0 z;have g:=g.next0 h z;have h:=qaK h z fun _ _ h=>nomatch h;refine cond_true (qpO (by omega) aa (by omega)) ?_;refine qbm (lb:=[.pointer (pW r8),.pointer (pW r1)]) rfl (by kernel_rfl) ?_;refine qlB ?_;unfold qip;refine Own.ldA h 1 rfl (wkX k v pb t) rfl ?_;refine Own.ld h 2 rfl ks rfl ?_;refine qqq E G Q R C fun F' w' ac f' n'=>?_;exact kk F' w' ac.drop0 (g.tot.trans' f' g.new) fun b hb=>(n' b hb).elim (g.new b) fun h1=>.inr (zL g.tot.size h1)
end
end Go.Proofs.YtmmkegapckbomaaGreatDoor
end
section
namespace Go.Proofs.YtmmkegapckbomaaGreatDoor
open Go Go.Pt List
open Classical
def getP (key:Key) (L:Prs):Option Key:=(L.find? fun x=>decide (x.1=key)).map (·.2)
theorem qkh{key:Key}{A B:Prs}:getP key (A++B)=match getP key A with|some v=>some v|none=>getP key B:=by unfold getP;rw[List.find?_append];cases A.find? (fun x=>decide (x.1=key))<;>rfl
theorem qdD{key:Key}{L:Prs}(h:∀x∈L,x.1≠key):getP key L=none:=by unfold getP;rw[List.find?_eq_none.2 fun x u=>by simp[h x u]];rfl
theorem qlY{key:Key}{L:Prs}(h:key∈keysP L):∃v,getP key L=some v:=by
 unfold getP;obtain⟨x,u,rfl⟩:=mem_map.1 h;cases e:L.find? (fun y=>decide (y.1=x.1)) with
 | none=>exact absurd (List.find?_eq_none.1 e x u) (by simp)
 | some y=>exact⟨y.2,rfl⟩
section
variable {D:DiskM} {M M':PgM} {k v:Nat} {key:Key}
theorem Has.get:∀ {h:Nat} {s:Seg},Has D M k v h s->s.page≠0->M.Wf->M.over=false->getN D k v key M (h+1) s.page=match getP key s.prs with|some x=>(x,0)|none=>([],5)
 | 0,s,hs,hp,hW,ho=>by
  obtain⟨h1,h2,R,h4⟩:=hs;have hl:loadN D M k v s.page=(lfOf s.prs,0):=R.load h4;have U:SortP s.prs:=R.right.2.2.1;have ah:(lfOf s.prs).keys=keysP s.prs:=rfl;unfold getN;rw[if_neg hp,hl];dsimp only;rw[if_neg (fun h=>h rfl),if_pos (show (lfOf s.prs).leaf=true from rfl),ah];by_cases hm:(keysP s.prs)[placeV (keysP s.prs) key]?=some key
  ·rw[if_pos hm];have hi:placeV (keysP s.prs) key<s.prs.length:=by
    have:=(zP.1 hm).1
    simpa using this
   have ai:=qdt (k:=key) U;have V:s.prs=s.prs.take (placeV (keysP s.prs) key)++s.prs[placeV (keysP s.prs) key]::s.prs.drop (placeV (keysP s.prs) key+1):=by rw[getElem_cons_drop,xC]
   have E:s.prs[placeV (keysP s.prs) key].1=key:=(by rw[zQ,zA hi] at hm;simpa using hm);have hg:getP key s.prs=some s.prs[placeV (keysP s.prs) key].2:=by
    conv=>lhs;rw[V]
    rw[qkh,qdD fun x u=>qeI (ai.1 x u)];unfold getP;rw[List.find?_cons_of_pos (by simp[E])];rfl
   rw[hg];show ((List.map (·.2) s.prs).getD _ [],(0:Int))=_;rw[yQ,zQ,zA hi];rfl
  rw[if_neg hm];have hn:key∉keysP s.prs:=fun h=>hm ((qb4 U).2 h);rw[qdD fun x u e=>hn (by rw[<- e];exact zY u)]
 | h+1,⟨p,n,L,P⟩,⟨Q,h0,h1,h2,R,h4,h5,h6,h7⟩,hp,hW,ho=>by
  dsimp only at h1 h2 R h5 hp;subst h1 h2 R;have hl:loadN D M k v p=(inOf Q,0):=h4.load h5;obtain⟨A,e,B,G,hA,E,aj,I⟩:=qgK (key:=key) h0 h6;have J:(inOf Q).kids.getD (kidV (inOf Q).keys key) 0=e.2.page:=I;have ak:e∈Q:=(by rw[G];simp);obtain⟨K,_⟩:=h7 e ak;have ay:=qbp hW (K.used ho e.2.page K.mem);unfold getN;rw[if_neg hp,hl];dsimp only;rw[if_neg (fun h=>h rfl),if_neg (show ¬(inOf Q).leaf=true from fun e=>nomatch e),J,K.get (by omega) hW ho];have C:=h6;rw[G] at C;have y:=C.mid;have z:Q.flatMap (·.2.prs)=A.flatMap (·.2.prs)++(e.2.prs++B.flatMap (·.2.prs)):=(by rw[G,qaD]);have al:∀x∈A.flatMap (·.2.prs),x.1≠key:=fun x u=>by obtain⟨a,ha,u⟩:=yJ.1 u;exact qeI (qbi (y.1 a ha x u) E)
  have am:∀x∈B.flatMap (·.2.prs),x.1≠key:=fun x u=>by obtain⟨b,hb,u⟩:=yJ.1 u;exact (qeI (qbi (aj b hb) ((y.2 b hb).2.2 x u))).symm
  rw[z,qkh,qdD al,qkh,qdD am];cases getP key e.2.prs<;>rfl
theorem Has.safe(hc:CapsOk k v):∀(h:Nat) (M:PgM) (s:Seg),Has D M k v h s->M.Wf->M.over=false->s.pages.Nodup->key∈keysP s.prs->2*h<=M.free.length->cutSafe D k v key (h+1) M s.page
 | 0,M,s,hs,hW,ho,aa,G,hf=>fun n hn hl=>by have ab:loadN D M k v s.page=(lfOf s.prs,0):=hs.2.2.1.load hs.2.2.2;rw[ab] at hn;cases hn;cases hl
 | h+1,M,⟨p,n,L,P⟩,⟨C,h0,h1,h2,h3,h4,h5,h6,h7⟩,hW,ho,aa,G,hf=>fun n' hn hl=>by
  dsimp only at h1 h2 h3 h5 aa G hn;subst h1 h2 h3;have ar:loadN D M k v p=(inOf C,0):=h4.load h5;rw[ar] at hn;cases hn;obtain⟨A,e,B,z,hA,au,av,ac⟩:=qgK (key:=key) h0 h6;have ad:(inOf C).kids.getD (kidV (inOf C).keys key) 0=e.2.page:=ac;have aw:kidV (inOf C).keys key=A.length:=hA.symm;have ax:e∈C:=(by rw[z];simp);obtain⟨aj,ay⟩:=h7 e ax;have ae:C.flatMap (·.2.pages)=A.flatMap (·.2.pages)++(e.2.pages++B.flatMap (·.2.pages)):=(by rw[z,qaD]);have K:C.flatMap (·.2.prs)=A.flatMap (·.2.prs)++(e.2.prs++B.flatMap (·.2.prs)):=(by rw[z,qaD]);have Q:(A.flatMap (·.2.pages)++(e.2.pages++B.flatMap (·.2.pages))).Nodup:=(by rw[<- ae];exact (nodup_cons.1 aa).2);have R:e.2.pages.Nodup:=(yL.1 (yL.1 Q).2.1).1;have U:=h6;rw[z] at U;have I:=U.mid;have J:key∈keysP e.2.prs:=by obtain⟨x,y,rfl⟩:=mem_map.1 G;rw[K] at y;rcases zD.1 y with y|y;obtain⟨a,ha,y⟩:=yJ.1 y;exact absurd (qbi (I.1 a ha x y) au) qaz;rcases zD.1 y with y|y;exact zY y;obtain⟨b,E,y⟩:=yJ.1 y;exact absurd (qbi (av b E) ((I.2 b E).2.2 x y)) qaz
  obtain⟨N1,n1,M1,Re,aW,ec,az,ak,st,aY,aZ⟩:=qls hc h M e.2 aj hW ho R J (by omega);rw[ad];refine⟨aj.safe hc h M e.2 hW ho R J (by omega),fun N M2 V aP ny af=>?_⟩;rw[ec] at V;cases V;have aA:N1.leaf=decide (h=0):=by
   cases h with
   | zero=>rw[ak.1];rfl
   | succ h=>obtain⟨a0,_,h',_⟩:=ak;rw[h'];rfl
  have u:∀b,(b∈A\/b∈B)->(inOf C).kids.getD (sideOf (kidV (inOf C).keys key)) 0=b.2.page->ny.leaf=N1.leaf:=fun b E aB=>by
   rw[aB] at af;have aC:b∈C:=by rw[z];rcases E with E|E<;>simp[E]
   obtain⟨al,_⟩:=h7 b aC;have am:Has D M1 k v h b.2:=al.frame fun x y=>(st.rest x (al.used ho x y) fun hm=>by have an:x∈e.2.pages:=(by rw[az];exact zN _ hm);have hd:=yL.1 Q;have aD:=yL.1 hd.2.1;rcases E with E|E;exact hd.2.2 x (yJ.2 ⟨b,E,y⟩) x (zH _ an) rfl;exact aD.2.2 x an x (yJ.2 ⟨b,E,y⟩) rfl).1;obtain⟨N2,R2,ab,_,_,ao,_⟩:=am.load;rw[ab] at af;cases af;rw[ao,aA]
  have h2:=h4.right.innerTwo.1;rw[aw] at u;have aE:(inOf C).kids=C.map (·.2.page):=rfl;rw[aE] at u;by_cases hA0:A.length>0;have hs:sideOf A.length=A.length-1:=(by unfold sideOf;rw[if_pos hA0]);obtain⟨A',b,rfl⟩:∃A' b,A=A'++[b]:=⟨A.dropLast,A.getLast (length_pos_iff.1 hA0),(dropLast_concat_getLast _).symm⟩;refine u b (.inl (by simp)) ?_;rw[hs,z];simp[yQ];have hs:sideOf A.length=A.length+1:=(by unfold sideOf;rw[if_neg hA0]);have aF:A=[]:=eq_nil_of_length_eq_zero (by omega);subst aF;cases B with
  | nil=>rw[z] at h2;simp at h2
  | cons b B=>
   refine u b (.inr (by simp)) ?_;rw[hs,z];rfl
theorem TreeIs.get{t:Int}{L:Prs}{P:List Int}(y:TreeIs D M k v t L P)(z:M.Wf)(A:M.over=false):getN D k v key M (rootM M t).2.2.toNat (rootM M t).1=match getP key L with|some x=>(x,0)|none=>([],5):=by rcases y with ⟨e0,rfl,rfl⟩|⟨h,n,p,u,C,E⟩;rw[e0];rfl;rw[C];dsimp only;rw[zJ];exact E.get u z A
theorem TreeIs.safe(z:CapsOk k v){t:Int}{L:Prs}{P:List Int}(A:TreeIs D M k v t L P)(u:key∈keysP L)(C:M.Wf)(E:M.over=false)(G:P.Nodup)(y:2*(rootM M t).2.2.toNat+1<=M.free.length):cutSafe D k v key (rootM M t).2.2.toNat M (rootM M t).1:=by rcases A with ⟨e0,rfl,rfl⟩|⟨h,n,p,I,J,K⟩;cases u;rw[J] at y⊢;dsimp only at y⊢;rw[zJ] at y⊢;exact K.safe z h M _ C E G u (by omega)
theorem qjf{t:Int}{f:Nat}{val:Key}{M':PgM}(h:insertN D k v t key val f M=(0,M')):(rootM M t).1≠0->(putN D k v key val f M (rootM M t).1).1.2≠-1:=fun y u=>by unfold insertN at h;rw[if_neg y] at h;unfold growN at h;rw[if_pos (by rw[u];decide),u] at h;cases h
end
end Go.Proofs.YtmmkegapckbomaaGreatDoor
end
section
namespace Go.Proofs.YtmmkegapckbomaaGreatDoor
open Go Go.Pt List
attribute [local irreducible] ld ldA ldV fld fldA newZ st new idx idxS idxA slc slcS slcP mkS chk nn call callV inv run runQ runU join loop held ext rng undefer s2a nxt ent IntKind.wrap
theorem qlW{w:World}{n:Nat}{K:Option Addr×Option Addr->WP}(Y:List Nat)(C:∀b∈Y,b<w.heap.size)(hY:HG∉Y)(hv:Hv w)(h8:8<=n)(Q:n<=4096)(hk:∀dbk pb FD F D w',TW dbk pb FD D 5000 w' Y F (madeM n)->Made D n->Fr [] w w'->(∀b∈FD++F,w.heap.size<=b)->K (pW dbk,pW pb) w'): cW 14 [.i n] [.one .ptr,.one .ptr] w K:=by
 refine qgj ?_;unfold qc3;refine qtY (fun h=>by omega) fun _ _ dbk FD w1 d1 J R=>?_;rw[zJ] at d1;obtain⟨D',e1,q1,s1,U,o1,z1⟩:=qnS (qq5 n) (qrG n) h8 Q;have E:=hv.frame0 J;have hg:HG∉FD:=fun V=>by have:=R _ V;have:=hv.lt;omega
 have ap:(newM n).safe.length=n:=(by simp[newM]);refine qaf (fun b w'=>b=false/\∃F',DS dbk w1 FD w' F' D' (0+5000)) ?_ ?_;refine cond_false rfl (cond_false rfl ?_);refine qqp d1 (Lim.new Q) (by decide) (by omega) E hg fun w' F' d'=>?_;rw[e1] at d'⊢;exact⟨rfl,F',d'⟩;rintro b w2 ⟨rfl,F2,y⟩;refine cond_false rfl ?_;have z:∀b∈F2,w.heap.size<=b:=fun b u=>by rcases y.nw b u with h|h;exact R b h;exact zL J.size h
 have G:=o1.open;have A:=(y.hv E hg).1;have I:w.heap.size<=w2.heap.size:=zL J.size y.fr.size;refine qsC (F2++HG::Y) (fun b u=>?_) y.at_ y.lim.ok A (fun h=>by rw[G] at h;cases h) fun pb F M w3 hM hp f3 n3=>?_;rcases zD.1 u with u|u;exact y.at_.lt b u;rcases zG.1 u with rfl|u;exact A.lt;exact yC (C b u) I;rw[G] at hM;cases hM;refine cond_false rfl ?_;refine hk dbk pb F2 F D' w3 ⟨y.at_.frame0 f3,y.lim,hp,A.frame0 f3,qub h8 Q,fun b u=>⟨fun V=>?_,fun e=>hY (e▸u)⟩⟩ ⟨q1,s1,U,o1,e1,z1⟩ ((J.trans' y.fr fun b u=>.inr (R b u)).trans' f3 (by simp)) fun b u=>?_
 have:=z b V
 have:=C b u
 omega;rcases zD.1 u with u|u;exact z b u;exact zL I (n3 b u)
end Go.Proofs.YtmmkegapckbomaaGreatDoor
end
section
namespace Go.Proofs.YtmmkegapckbomaaGreatDoor
open Go Go.Pt List
open Classical
attribute [local irreducible] ld ldA ldV fld fldA newZ st new idx idxS idxA slc slcS slcP mkS chk nn call callV inv run runQ runU join loop held ext rng undefer s2a nxt ent IntKind.wrap
theorem qqe{w:World}{s:Key}{n:Nat}{y:Int}{K:ByteArray->WP}(Q:IsB s)(hl:s.length<=1000000)(hn:n<=24)(R:0<=y/\y<256)(U:∀x w',x.length=n->IsB x->Fr [] w w'->K (strL x) w'): cW 16 [.string (strL s),.i n,.b y] [.one .str] w K:=by
 refine qeY ?_;unfold qcu;refine qeK (n:Int) w (fun M C=>cond_false (zU (by omega)) C) ?_;refine qeK (n:Int) w (fun M C=>cond_false (zU (by omega)) C) ?_;refine qah (fun x w'=>Fr [] w w'/\∃l,x=strL l/\IsB l/\l.length<=1000000+24) (fun x _=>n-x.size) ⟨.refl _ _,s,rfl,Q,by omega⟩ ?_;rintro x V ⟨G,l,rfl,I,aa⟩ X hX;rw[qaY];refine qaa (fun h=>?_) (fun h=>?_);have h:=zC h;have h1:=Own.start [] V;refine Own.new' h1 fun r w2 _ f2 h2=>?_;have E:RdB [] w2 ⟨pW r,1,1⟩ [y]:=by
  refine⟨rfl,zM _,.inr ⟨r,0,_,_,_,rfl,h2.at (i:=0) rfl,(fun h=>nomatch h),fun i x J=>?_⟩⟩;cases i with
  | zero=>cases J;rfl
  | succ i=>cases J
 have u:IsB [y]:=fun z A=>by rw[zE.1 A];exact R
 refine qoA (s:=⟨pW r,1,1⟩) (src:=23) (dst:=9) (e:=5) E u (by kernel_rfl) (by kernel_rfl) (by kernel_rfl) ?_;rw[qaY];refine qaW (by show ((_:Nat):Int)<=9223372036854775807;rw[xI];omega) ?_;rw[qn6];refine hX _ _ ⟨G.trans f2,l++[y],rfl,fun z A=>?_,by rw[zF,xI];omega⟩ (by rw[qaY,qaY,zF,xI];omega);rcases zD.1 A with h|h;exact I z h;exact u z h;have h:=zB h;refine qrv 0 n rfl rfl (yW _) (by omega) ?_;exact U _ _ (by rw[xD,yK];omega) (fun z A=>I z (yU A)) G
def encPr (x:Key×Key):List Value:=[.string (strL x.1),.string (strL x.2)]
theorem qij(x:Key×Key):(encPr x).length=2:=rfl
theorem qsA(x:Key×Key):∀u∈encPr x,u.oneCell'=true:=fun u h=>by rcases zG.1 h with rfl|h;rfl;rw[zE.1 h];rfl
end Go.Proofs.YtmmkegapckbomaaGreatDoor
end
section
namespace Go.Proofs.YtmmkegapckbomaaGreatDoor
open Go Go.Pt List
open Classical
attribute [local irreducible] ld ldA ldV fld fldA newZ st new idx idxS idxA slc slcS slcP mkS chk nn call callV inv run runQ runU join loop held ext rng undefer s2a nxt ent IntKind.wrap
end Go.Proofs.YtmmkegapckbomaaGreatDoor
end
section
namespace Go.Proofs.YtmmkegapckbomaaGreatDoor
open Go Go.Pt List
open Classical
attribute [local irreducible] ld ldA ldV fld fldA newZ st new idx idxS idxA slc slcS slcP mkS chk nn call callV inv run runQ runU join loop held ext rng undefer s2a nxt ent IntKind.wrap
theorem qob(n:Nat):IsB (zs n):=fun x h=>by rw[(mem_replicate.1 h).2];decide
structure HiI (k v c:Nat) (t:Int) (w0 w:World) (s:Sl) (m:Nat) (dbk pb:Nat) (FD:List Nat) (D:DiskM) (F:List Nat) (M:PgM) (P:List Int) (L:Prs) (B:List Nat):Prop where
 tw:TW dbk pb FD D 5000 w [] F M
 sole:Sole D M k v c t L P
 buf:Buf encPr 2 w s L B
 len:L.length<=m
 fr:Fr [] w0 w
 new:∀ b∈FD++F,w0.heap.size<=b
 apart:∀ b∈B,b∉F
theorem qtF{dbk pb j:Nat}{FD Y F:List Nat}{D:DiskM}{w:World}{M:PgM}(h:TW dbk pb FD D j w Y F M):∀b∈Zo FD Y F,b<w.heap.size:=fun b u=>by rcases zD.1 u with u|u;rcases zD.1 u with u|u;exact h.disk.lt b u;rcases zG.1 u with rfl|u;exact h.hv.lt;exact h.ylt b u;exact h.pager.lt b u
section
variable {k v c:Nat} {t:Int} {w0 w:World} {s:Sl} {m:Nat} {dbk pb:Nat} {FD F B:List Nat} {D:DiskM} {M:PgM} {P:List Int} {L:Prs}
end
theorem qsI{S:List Nat}{w:World}{v:Nat}{c:Int}{K:Sl->WP}(A:c=v)(R:v<=1000000)(C:∀b∈S,b<w.heap.size)(E:∀s w',RdB S w' s (zs v)->Fr [] w w'->(∀G:List Nat,(∀b∈G,b<w.heap.size)->RdB G w' s (zs v))->K s w'): mkS 5 [.b 0] 1 1 c c w K:=by
 subst A;refine Own.mkN (Own.start [] w) rfl (by omega) (Int.le_refl _) (by omega) (by omega) fun b w' e u=>?_;rw[zJ] at u⊢;have I:=u.at (i:=0) rfl;have h:∀G:List Nat,(∀b∈G,b<w.heap.size)->RdB G w' ⟨pW b,v,v⟩ (zs v):=fun G J=>by
  refine⟨by simp[zs],zM _,.inr ⟨b,0,_,_,_,rfl,I,fun Q=>by have:=J b Q;omega,fun i x z=>?_⟩⟩;have U:i<v:=(by have:=(zP.1 z).1;simpa[zs] using this);have y:x=0:=by
   have:=yE z
   exact (mem_replicate.1 this).2
  subst y;have e1:(List.replicate v [Value.int .u8 0]).flatten=List.replicate v (Value.int .u8 0):=(by simp);rw[e1];simp[drop_replicate,take_replicate];show List.replicate (min 1 (v-i)) _=_;rw[show min 1 (v-i)=1 by omega];rfl
 exact E _ w' (h S C) u.fr h
end Go.Proofs.YtmmkegapckbomaaGreatDoor
end
section
namespace Go.Proofs.YtmmkegapckbomaaGreatDoor
open Go Go.Pt List
open Classical
structure Grow (D:DiskM) (M:PgM) (k v b q:Nat) (t:Int) (L:Prs) (P:List Int):Prop where
 calm:Calm D M b q
 tree:TreeIs D M k v t L P
 nodup:P.Nodup
 use:∀ x,InUse M x->x∈P
 many:b-2<=M.named.length+90+needP b
section
variable {D D':DiskM} {M M':PgM} {k v b q:Nat} {t:Int} {L L':Prs} {P P':List Int}
theorem Has.high(A:4<=(capsV k v).1)(u:CapsOk k v){h:Nat}{s:Seg}(y:Has D M k v h s)(C:s.prs.length<=90):h<=5:=by
 cases h with
 | zero=>omega
 | succ h=>
  have E:=y.root_least u;have z:2^h<=((capsV k v).2 / 2)^h:=Nat.pow_le_pow_left (by have:=u.inner;omega) h;have G:2*2^h<=(capsV k v).1 / 2*((capsV k v).2 / 2)^h:=Nat.mul_le_mul (by omega) z;by_cases h5:h<=4;omega;have I:2^5<=2^h:=Nat.pow_le_pow_right (by decide) (by omega);have:(2:Nat)^5=32:=rfl;omega
theorem Grow.height(h:Grow D M k v b q t L P)(u:4<=(capsV k v).1)(y:CapsOk k v)(z:L.length<=90):0<=(rootM M t).2.2/\(rootM M t).2.2<=6:=by
 rcases h.tree with ⟨A,_,_⟩|⟨h,n,p,G,C,E⟩;rw[A];exact⟨Int.le_refl _,by decide⟩
 have:=E.high u y z
 rw[C];dsimp only;omega
theorem Grow.free(h:Grow D M k v b q t L P)(u:4<=(capsV k v).1):b-2<=M.free.length+L.length+90+needP b:=by have y:=h.calm.named.length_eq;rw[zF] at y;have A:(M.fresh.map (·.1)).length<=P.length:=List.Nodup.length_le_of_subset h.calm.wf.keysNodup fun x z=>h.use x (.inl z);have C:=h.tree.pages_le u;have E:=h.many;omega
theorem Grow.room(h:Grow D M k v b q t L P)(u:4<=(capsV k v).1)(y:CapsOk k v)(z:L.length<=90)(A:b=300):2*(rootM M t).2.2.toNat+1<=M.free.length:=by have C:=h.height u y z;have E:=h.free u;have G:needP 300=3:=rfl;subst A;omega
theorem Grow.next(h:Grow D M k v b q t L P)(z:TreeIs D M' k v t L' P')(u:RStep D M M' t P P'):Grow D M' k v b q t L' P' where
 calm:=⟨h.calm.quiet,h.calm.waits,h.calm.size,by have:=u.step.sup;rw[<- h.calm.blocks,<- this],h.calm.b8,u.wf,u.step.Named h.calm.named,u.step.over,u.len,by have:=u.step.sup;have:=h.calm.seq;rw[show M'.sup=M.sup from u.step.sup];exact this,by have:=h.calm.turn;rw[show M'.turn=M.turn from u.step.turn];exact this⟩
 tree:=z
 nodup:=u.step.nodup
 use:=fun x A=>(u.step.use x A).elim id fun y=>absurd (h.use x y.1) y.2
 many:=by have:=u.step.named;rw[show M'.named=M.named from this];exact h.many
theorem Grow.insert{key val:Key}(h:Grow D M k v b q t L P)(y:b=300)(u:CapsOk k v)(z:4<=(capsV k v).1)(A:0<=t/\t<8)(C:key.length=k/\IsB key)(E:val.length=v/\IsB val)(G:L.length<=90): ∃M' P',insertN D k v t key val (rootM M t).2.2.toNat M=(0,M')/\Grow D M' k v b q t (insP key val L) P':=by obtain⟨M',P',e,I,J,_⟩:=qmn u A C E h.tree h.calm.wf h.calm.over h.calm.len h.nodup (by omega) (h.room z u G y);exact⟨M',P',e,h.next I J⟩
theorem Grow.remove{key:Key}(h:Grow D M k v b q t L P)(y:b=300)(u:CapsOk k v)(z:4<=(capsV k v).1)(A:0<=t/\t<8)(C:key∈keysP L)(E:L.length<=90): ∃M' P',removeN D k v t key (rootM M t).2.2.toNat M=(0,M')/\Grow D M' k v b q t (cutP key L) P':=by obtain⟨M',P',e,G,I,_⟩:=qsg u A h.tree C h.calm.wf h.calm.over h.calm.len h.nodup (by omega) (h.room z u E y);exact⟨M',P',e,h.next G I⟩
theorem Grow.commit(h:Grow D M k v b q t L P)(A:b=300)(C:q<=1000000)(u:4<=(capsV k v).1)(I:L.length<=90): ∃D' M',commitM D M=((D',M'),0)/\Grow D' M' k v b (q+1) t L P:=by have J:=h.free u;have K:needP 300=3:=rfl;obtain⟨D',M',e,E,y,z⟩:=qn0 h.calm C h.use (by subst A;omega);refine⟨D',M',e,E,h.tree.kept h.calm.over y,h.nodup,fun x G=>h.use x ((y.use x).1 G),?_⟩;have Q:=h.tree.pages_le u;rcases z with rfl|z;exact h.many;omega
end
theorem qmk{D:DiskM}{n k v:Nat}{t:Int}(A:0<=t/\t<8)(y:8<=n)(C:n<=4096)(z:(madeM n).Wf)(u:Made D n):Grow D (madeM n) k v n 1 t [] []:=by
 have h:=qme (D:=D) (k:=k) (v:=v) A y C z;have e:(madeM n).sup.2.getD 0 0=n:=(by show IntKind.wrap .u32 (n:Int)=_;exact qaZ _ (by omega));refine⟨⟨u.quiet,u.waits,u.size,e,y,z,h.named,h.over,h.len,⟨(by decide:(0:Int)<=1),(by decide:(1:Int)<=1)⟩,⟨(by decide:(0:Int)<=1),(by decide:(1:Int)<=1)⟩⟩,h.tree,.nil,h.use,?_⟩
 have:=h.many
 have:=qkV (a:=n-2) (b:=n) (by omega)
 omega
end Go.Proofs.YtmmkegapckbomaaGreatDoor
end
section
set_option maxRecDepth 100000
namespace Go.Proofs.YtmmkegapckbomaaGreatDoor
open Go Go.Pt
end Go.Proofs.YtmmkegapckbomaaGreatDoor
end
section
namespace Go.Proofs.YtmmkegapckbomaaGreatDoor
open Go Go.Pt List
open Classical
attribute [local irreducible] ld ldA ldV fld fldA newZ st new idx idxS idxA slc slcS slcP mkS chk nn call callV inv run runQ runU join loop held ext rng undefer s2a nxt ent IntKind.wrap
section
variable {k v c:Nat} {t:Int} {w0 w:World} {s:Sl} {m:Nat} {dbk pb:Nat} {FD F B:List Nat} {D:DiskM} {M:PgM} {P:List Int} {L:Prs}
end
theorem qnT{t:Int}{k v:Nat}(h:good t)(y:shp t=((k:Int),(v:Int))):4<=(capsV k v).1:=by
 obtain⟨z,A⟩:=h;have:t=0\/t=1\/t=2\/t=3\/t=4\/t=5\/t=6\/t=7:=(by omega);rcases this with rfl|rfl|rfl|rfl|rfl|rfl|rfl|rfl<;>
  (obtain⟨e1,u⟩:=Prod.mk.inj y;have e1:=Int.ofNat.inj e1;have u:=Int.ofNat.inj u;subst e1 u;decide)
section
theorem qql{dbk pb j:Nat}{FD Y F:List Nat}{D:DiskM}{w:World}{M:PgM}{K:Int->WP}(h:TW dbk pb FD D j w Y F M)(hj:j<=900000)(Q:0<=M.turn/\M.turn<=1000000000)(A:HG∉FD)(R:∀y F' w',TW dbk pb y (commitM D M).1.1 (j+5000) w' Y F' (commitM D M).1.2->Fr (FD++F) w w'->(∀b∈y++F',b∈FD++F\/w.heap.size<=b)->K (commitM D M).2 w'): cW 39 [.pointer (pW pb)] [.one .i] w K:=by
 have C:HG∈FD++HG::Y:=(by simp);have E:HG∉F:=h.pager.sep HG C;refine qo1 h.disk h.lim h.pager (fun b u=>zH _ u) h.wf (by omega) Q h.hv A fun y F' w' U V p' G=>?_;have J:∀b∈y++F',b∈FD++F\/w.heap.size<=b:=G.2;refine R y F' w' ⟨U,V,p'.weakX fun b u=>?_,h.hv.frame G.1 (fun I=>(zD.1 I).elim A E),qrq h.wf,fun b u=>⟨fun I=>?_,(h.sep b u).2⟩⟩ G.1 J;rcases zD.1 u with u|u;exact zH _ u;refine zI _ (zI _ u);rcases J b (zH _ I) with z|z;rcases zD.1 z with z|z;exact (h.sep b u).1 z;exact h.yf b u z
 have:=h.ylt b u;omega
structure Duo (w0 w:World) (O:List Nat) (da pa:Nat) (Xa Fa:List Nat) (Da:DiskM) (ja:Nat) (Ma:PgM) (db pb:Nat) (Xb Fb:List Nat) (Db:DiskM) (jb:Nat) (Mb:PgM):Prop where
 a:TW da pa Xa Da ja w (Xb++(Fb++O)) Fa Ma
 b:TW db pb Xb Db jb w (Xa++(Fa++O)) Fb Mb
 newA:∀ x∈Xa++Fa,w0.heap.size<=x
 newB:∀ x∈Xb++Fb,w0.heap.size<=x
 newO:∀ x∈O,w0.heap.size<=x
 hg:HG<w0.heap.size
 fr:Fr [] w0 w
section
variable {w0 w w':World} {O O':List Nat} {da pa db pb:Nat} {Xa Fa Xb Fb Xa' Fa':List Nat} {Da Db Da':DiskM} {ja jb ja':Nat} {Ma Mb Ma':PgM}
theorem Duo.swap(h:Duo w0 w O da pa Xa Fa Da ja Ma db pb Xb Fb Db jb Mb):Duo w0 w O db pb Xb Fb Db jb Mb da pa Xa Fa Da ja Ma:=⟨h.b,h.a,h.newB,h.newA,h.newO,h.hg,h.fr⟩
theorem Duo.frame0(h:Duo w0 w O da pa Xa Fa Da ja Ma db pb Xb Fb Db jb Mb)(f:Fr [] w w'):Duo w0 w' O da pa Xa Fa Da ja Ma db pb Xb Fb Db jb Mb:=⟨h.a.frame0 f,h.b.frame0 f,h.newA,h.newB,h.newO,h.hg,h.fr.trans f⟩
theorem Duo.turn(h:Duo w0 w O da pa Xa Fa Da ja Ma db pb Xb Fb Db jb Mb)(z:TW da pa Xa' Da' ja' w' (Xb++(Fb++O)) Fa' Ma')(f:Fr (Xa++Fa) w w')(A:∀x∈Xa'++Fa',x∈Xa++Fa\/w.heap.size<=x):Duo w0 w' O da pa Xa' Fa' Da' ja' Ma' db pb Xb Fb Db jb Mb:=by have u:∀x∈Xa'++Fa',w0.heap.size<=x:=fun x u=>(A x u).elim (h.newA x) (zL h.fr.size);refine⟨z,h.b.frameY (f.mono fun x u _=>?_) (fun x u=>?_) fun x u=>?_,u,h.newB,h.newO,h.hg,h.fr.trans' f fun x u=>.inr (h.newA x u)⟩;rw[<- zV];exact zH _ u;rcases zD.1 u with y|y;exact z.disk.lt x y;rcases zD.1 y with y|y;exact z.pager.lt x y;exact z.ylt x (by simp[y]);rw[<- zV] at u⊢;rcases zD.1 u with y|y;exact (A x y).imp (fun h=>zH _ h) id;exact .inl (zI _ y)
theorem Duo.own(h:Duo w0 w O da pa Xa Fa Da ja Ma db pb Xb Fb Db jb Mb)(f:Fr O w w')(I:∀x∈O',x<w'.heap.size)(E:∀x∈O',x∈O\/w.heap.size<=x):Duo w0 w' O' da pa Xa Fa Da ja Ma db pb Xb Fb Db jb Mb:=by
 have G:∀ {d p:Nat} {X F z A:List Nat} {D:DiskM} {j:Nat} {M:PgM},TW d p X D j w (z++(A++O)) F M->TW d p X D j w' (z++(A++O')) F M:=fun {d p X F z A D j M} C=>by refine C.frameY (f.mono fun x y _=>by simp[y]) (fun x y=>?_) fun x y=>?_;rcases zD.1 y with u|u;exact yC (C.ylt x (by simp[u])) f.size;rcases zD.1 u with u|u;exact yC (C.ylt x (by simp[u])) f.size;exact I x u;rcases zD.1 y with u|u;exact .inl (by simp[u]);rcases zD.1 u with u|u;exact .inl (by simp[u]);exact (E x u).imp (fun h=>by simp[h]) id
 exact⟨G h.a,G h.b,h.newA,h.newB,fun x y=>(E x y).elim (h.newO x) (zL h.fr.size),h.hg,h.fr.trans' f fun x y=>.inr (h.newO x y)⟩
theorem Duo.olt(h:Duo w0 w O da pa Xa Fa Da ja Ma db pb Xb Fb Db jb Mb):∀x∈O,x<w.heap.size:=fun x u=>h.a.ylt x (by simp[u])
theorem Duo.apart(h:Duo w0 w O da pa Xa Fa Da ja Ma db pb Xb Fb Db jb Mb):∀x∈O,x∉Xa++Fa:=fun x y u=>by rcases zD.1 u with u|u;exact (h.a.sep x (by simp[y])).1 u;exact h.a.yf x (by simp[y]) u
theorem Duo.hgA(h:Duo w0 w O da pa Xa Fa Da ja Ma db pb Xb Fb Db jb Mb):HG∉Xa:=fun u=>by
 have:=h.newA HG (zH _ u)
 have:=h.hg
 omega
end
theorem qrO{w:World}{y o1:Int}{o2 o3:Sl}{z:Bool}{K:Int->WP}(h:0<=o1/\o1<8)(A:∀w',Fr [] w w'->K o1 w'):cW 45 [.agg #[.b y,.i o1,o2.v,o3.v,.bool z]] [.one .i] w K:=by refine qew ?_;unfold qcg;refine Own.new' (Own.start [] w) fun r C e1 E u=>?_;refine qaf (fun q w'=>q=true/\w'=C) ?_ ?_;refine Own.ld u 0 rfl o1 rfl ?_;refine cond_true (zZ (by omega)) ?_;refine Own.ld u 0 rfl o1 rfl ?_;exact⟨zZ (by omega),rfl⟩;rintro q w' ⟨rfl,rfl⟩;refine cond_true rfl ?_;refine Own.ld u 0 rfl o1 rfl ?_;exact A _ E
theorem qmQ:({ data:=#[0] }:ByteArray)=strL [0]:=rfl
theorem qgS{w:World}{I t:Int}{o2 o3:Sl}{C A:Key}{k v:Nat}{K:ByteArray×ByteArray->WP}(ht:0<=t/\t<8)(hs:shp t=((k:Int),(v:Int)))(hk:k<=24)(hv:v<=108)(h2:RdB [] w o2 C)(J:IsB C)(g2:C.length<=1000)(h3:RdB [] w o3 A)(Q:IsB A)(g3:A.length<=1000)(kk:∀x y w',x.length=k->IsB x->y.length=v->IsB y->Fr [] w w'->K (strL x,strL y) w'): cW 38 [.agg #[.b I,.i t,o2.v,o3.v,.bool false]] [.one .str,.one .str] w K:=by refine qef ?_;unfold qcb;refine Own.new' (Own.start [] w) fun r w1 e1 f1 h=>?_;refine Own.ldA h 0 rfl (I,t,o2,o3,false) rfl ?_;refine qrO ht fun R f2=>?_;have h:=h.frame0 f2;refine qr7 ?_;rw[hs];refine qaf (fun q w'=>q=(k:Int)/\w'=R) ?_ ?_;refine qaf (fun q w'=>q=false/\w'=R) ?_ ?_;refine Own.ld h 0 rfl false rfl ?_;exact cond_false rfl ⟨rfl,rfl⟩;rintro q w' ⟨rfl,rfl⟩;exact cond_false rfl ⟨rfl,rfl⟩;rintro q w' ⟨rfl,rfl⟩;refine Own.ld h 0 rfl o3 rfl ?_;refine qsz (S:=[]) (h3.frame0 h.fr) Q ?_;refine qah (fun x U=>U=w'/\∃l,x=strL l/\IsB l/\l.length<=2000) (fun x _=>v-x.size) ⟨rfl,A,rfl,Q,by omega⟩ ?_;rintro x U ⟨rfl,l,rfl,V,hl⟩ X hX;rw[qaY];refine qaa (fun u=>?_) (fun u=>?_);have u:=zC u;refine qaW (by rw[qmQ,qaY];show ((_:Nat):Int)<=9223372036854775807;rw[xI];omega) ?_;rw[qmQ,qn6];refine hX _ _ ⟨rfl,l++[0],rfl,fun z E=>?_,by rw[zF,xI];omega⟩ (by rw[qaY,qaY,zF,xI];omega);rcases zD.1 E with h|h;exact V z h;rw[zE.1 h];exact⟨by decide,by decide⟩;have u:=zB u;refine Own.ld h.drew 0 rfl o2 rfl ?_;refine qsz (S:=[]) (h2.frame0 h.drew.fr) J ?_;refine qrv 0 v rfl rfl (yW _) (by omega) ?_;refine qqe J (by omega) hk ⟨by decide,by decide⟩ fun x w4 hx G f4=>?_;exact kk x _ w4 hx G (by rw[xD,yK];omega) (fun z E=>V z (yU (by simpa using E))) (h.drew.fr.trans f4)
theorem qtC{w:World}{C t:Int}{o2 o3:Sl}{u z:Key}{k v:Nat}{K:ByteArray->WP}(E:0<=t/\t<8)(G:shp t=((k:Int),(v:Int)))(I:k<=24)(J:v<=108)(Q:RdB [] w o2 u)(R:IsB u)(U:u.length<=1000)(V:RdB [] w o3 z)(b3:IsB z)(g3:z.length<=1000)(kk:∀x w',x.length=k->IsB x->Fr [] w w'->K (strL x) w'): cW 40 [.agg #[.b C,.i t,o2.v,o3.v,.bool false]] [.one .str] w K:=by refine qeX ?_;unfold qcB;refine Own.new' (Own.start [] w) fun r w1 e1 A h=>?_;refine Own.ldA h 0 rfl (C,t,o2,o3,false) rfl ?_;refine qgS E G I J (Q.frame0 A) R U (V.frame0 A) b3 g3 fun x y w2 hx bx hy ag f2=>?_;exact kk x w2 hx bx (A.trans f2)
end
end Go.Proofs.YtmmkegapckbomaaGreatDoor
end
section
namespace Go.Pt
open Go
theorem Rds.getT{α:Type}{enc:α->List Value}{k:Nat}{S:List Nat}{w:World}{s:Sl}{l:List α}(h:Rds enc k S w s l)(n:Nat){i:Int}{x:α}{K:Addr->Prop}(hi:i=n)(z:l[n]?=some x)(A:∀b o u T y,w.heap[b]?=some (.cells u T y)->(u.toList.drop o).take k=enc x->K ⟨b,o,none⟩):idx s i k K:=by subst hi;obtain⟨I,b,o,C,_,u,T,y,E,G⟩:=h.at n z;refine qbN C ⟨by omega,by omega⟩ ?_;rw[zJ];exact A b _ u T y E G
theorem qfx{cs:Array Value}{o:Nat}{a b:Value}(h:(cs.toList.drop o).take 2=[a,b]):cs[o]?=some a/\cs[o+1]?=some b:=by have u:=congrArg (·[0]?) h;have y:=congrArg (·[1]?) h;simp only[xA,yZ] at u y;exact⟨by simpa using u,by simpa using y⟩
end Go.Pt
namespace Go.Proofs.YtmmkegapckbomaaGreatDoor
open Go Go.Pt List
open Classical
attribute [local irreducible] ld ldA ldV fld fldA newZ st new idx idxS idxA slc slcS slcP mkS chk nn call callV inv run runQ runU join loop held ext rng undefer s2a nxt ent IntKind.wrap
theorem BufB.rdT{S:List Nat}{w:World}{s:Sl}{l:List Int}{B:List Nat}(h:BufB w s l B)(u:∀b∈B,b∉S):RdB S w s l:=h.rds qas u
theorem Sole.putT{k v c:Nat}{t:Int}{w:World}{dbk pb:Nat}{FD F:List Nat}{D:DiskM}{M:PgM}{P:List Int}{L:Prs}{ks vs:Sl}{key val:Key}{K:Int->WP}(G:Sole D M k v c t L P)(E:TW dbk pb FD D 5000 w [] F M)(J:0<=t/\t<8)(Q:shp t=((k:Int),(v:Int)))(h:CapsOk k v)(u:4<=(capsV k v).1)(R:1<=k)(hm:3*L.length+1<=c)(U:L.length<=100000)(y:IsB key)(z:key.length=k)(A:IsB val)(C:val.length=v)(V:RdB (Zo FD [] F) w ks key)(hv:RdB (Zo FD [] F) w vs val)(kk:∀F' w' M' P',TW dbk pb FD D 5000 w' [] F' M'->Sole D M' k v c t (insP key val L) P'->Fr F w w'->(∀b∈F',b∈F\/w.heap.size<=b)->K 0 w'): cW 17 [.pointer (pW pb),.i t,ks.v,vs.v] [.one .i] w K:=by obtain⟨M',P',e,I⟩:=G.insert3 (key:=key) (val:=val) h u J ⟨z,y⟩ ⟨C,A⟩ (by omega) (by omega);obtain⟨r1,r2,r3,r4⟩:=qa3 G.tree;refine qpA (f:=(rootM M t).2.2.toNat) y A Q (by omega) z C E V hv ⟨r4,by omega⟩ (G.room3 u (by omega)) (qjf e) fun F' w' E f n=>?_;rw[e] at E⊢;exact kk F' w' M' P' E I f n
theorem qdh{k v x:Key}:∀ {l:Prs},x∈keysP (insP k v l)↔x=k\/x∈keysP l
 | []=>by simp[insP,keysP]
 | y::l=>by unfold insP;split;simp only[keysP,xK,zG];split;rename_i h;simp only[keysP,xK,zG,<- h];exact⟨fun u=>u.elim .inl fun z=>.inr (.inr z),fun u=>u.elim .inl fun z=>z⟩;have ih:=qdh (k:=k) (v:=v) (x:=x) (l:=l);unfold keysP at ih;simp only[keysP,xK,zG,ih];constructor;rintro (u|u|u);exact .inr (.inl u);exact .inl u;exact .inr (.inr u);rintro (u|u|u);exact .inr (.inl u);exact .inl u;exact .inr (.inr u)
theorem qrt{k x:Key}{l:Prs}:x∈keysP (cutP k l)↔x∈keysP l/\x≠k:=by
 unfold keysP;simp only[mem_map];constructor;rintro⟨y,h,rfl⟩
 have:=qeR.1 h
 exact⟨⟨y,this.1,rfl⟩,this.2⟩;rintro⟨⟨y,h,rfl⟩,u⟩;exact⟨y,qeR.2 ⟨h,u⟩,rfl⟩
section
variable {w0 w w':World} {O O':List Nat} {da pa db pb:Nat} {Xa Fa Xb Fb Xa' Fa':List Nat} {Da Db Da':DiskM} {ja jb ja':Nat} {Ma Mb Ma':PgM} {k v b q:Nat} {t:Int} {L:Prs} {P:List Int} {ks vs:Sl} {key val:Key}
theorem Duo.put{K:Int->WP}(h:Duo w0 w O da pa Xa Fa Da ja Ma db pb Xb Fb Db jb Mb)(g:Grow Da Ma k v b q t L P)(R:b=300)(V:0<=t/\t<8)(hs:shp t=((k:Int),(v:Int)))(u:CapsOk k v)(y:4<=(capsV k v).1)(ab:1<=k)(G:L.length<=90)(z:IsB key)(A:key.length=k)(C:IsB val)(E:val.length=v)(hk:RdB (Zo Xa (Xb++(Fb++O)) Fa) w ks key)(hv:RdB (Zo Xa (Xb++(Fb++O)) Fa) w vs val)(kk:∀Fa' w' Ma' P',Duo w0 w' O da pa Xa Fa' Da ja Ma' db pb Xb Fb Db jb Mb->Grow Da Ma' k v b q t (insP key val L) P'->Fr Fa w w'->(∀x∈Fa',x∈Fa\/w.heap.size<=x)->K 0 w'): cW 17 [.pointer (pW pa),.i t,ks.v,vs.v] [.one .i] w K:=by obtain⟨M',P',e,I⟩:=g.insert (key:=key) (val:=val) R u y V ⟨A,z⟩ ⟨E,C⟩ G;have hh:=g.height y u G;refine qpA (f:=(rootM Ma t).2.2.toNat) z C hs (by omega) A E h.a hk hv ⟨hh.1,by omega⟩ (g.room y u G R) (qjf e) fun F' w' U f n=>?_;rw[e] at U⊢;exact kk F' w' M' P' (h.turn U (f.mono fun x J _=>zI _ J) fun x J=>(zD.1 J).elim (fun Q=>.inl (zH _ Q)) fun Q=>(n x Q).imp (fun h2=>zI _ h2) id) I f n
theorem Duo.cut{K:Int->WP}(h:Duo w0 w O da pa Xa Fa Da ja Ma db pb Xb Fb Db jb Mb)(g:Grow Da Ma k v b q t L P)(G:b=300)(U:0<=t/\t<8)(V:shp t=((k:Int),(v:Int)))(u:CapsOk k v)(z:4<=(capsV k v).1)(aa:1<=k)(E:L.length<=90)(A:key∈keysP L)(hk:RdB (Zo Xa (Xb++(Fb++O)) Fa) w ks key)(kk:∀Fa' w' Ma' P',Duo w0 w' O da pa Xa Fa' Da ja Ma' db pb Xb Fb Db jb Mb->Grow Da Ma' k v b q t (cutP key L) P'->Fr Fa w w'->K 0 w'): cW 21 [.pointer (pW pa),.i t,ks.v] [.one .i] w K:=by obtain⟨M',P',e,I⟩:=g.remove (key:=key) G u z U A E;have hh:=g.height z u E;obtain⟨x,C,rfl⟩:=mem_map.1 A;obtain⟨q1,q2,q3,q4⟩:=g.tree.sort.2 x C;obtain⟨y,hy⟩:=qlY A;have Q:=g.tree.get (key:=x.1) g.calm.wf g.calm.over;rw[hy] at Q;refine qtM (f:=(rootM Ma t).2.2.toNat) (f2:=(rootM Ma t).2.2.toNat) q3 u V (by omega) q1 h.a hk ⟨hh.1,by omega⟩ (g.room z u E G) (by rw[Q]) (g.tree.safe u A g.calm.wf g.calm.over g.nodup (g.room z u E G)) fun F' w' R f n=>?_;rw[e] at R⊢;exact kk F' w' M' P' (h.turn R (f.mono fun x C _=>zI _ C) fun x C=>(zD.1 C).elim (fun J=>.inl (zH _ J)) fun J=>(n x J).imp (fun h2=>zI _ h2) id) I f
theorem Duo.get{K:Sl×Int->WP}(h:Duo w0 w O da pa Xa Fa Da ja Ma db pb Xb Fb Db jb Mb)(g:Grow Da Ma k v b q t L P)(J:shp t=((k:Int),(v:Int)))(Q:1<=k)(A:IsB key)(C:key.length=k)(R:RdB (Zo Xa (Xb++(Fb++O)) Fa) w ks key)(U:∀s e w',(key∈keysP L->e=0/\s.len=v)->(key∉keysP L->e=5)->Fr [] w w'->K (s,e) w'): cW 41 [.pointer (pW pa),.i t,ks.v] [.one .slice,.one .i] w K:=by
 have I:=g.tree.get (key:=key) g.calm.wf g.calm.over;refine qpH (f:=(rootM Ma t).2.2.toNat) A J (by omega) C h.a R ?_ fun s w' E f=>?_;rw[I];cases getP key L with
 | none=>exact (by decide:(5:Int)≠-1)
 | some y=>exact (by decide:(0:Int)≠-1)
 rw[I] at E⊢;refine U s _ w' (fun u=>?_) (fun u=>?_) f;obtain⟨y,G⟩:=qlY u;rw[G] at E⊢;have V:=(E [] fun b hb=>nomatch hb).1;refine⟨rfl,V.trans ?_⟩;unfold getP at G;obtain⟨z,hz,rfl⟩:=yS.1 G;exact (g.tree.sort.2 z (mem_of_find?_eq_some hz)).2.1;rw[qdD fun x hx e=>u (mem_map.2 ⟨x,hx,e⟩)]
theorem Duo.commit{K:Int->WP}(h:Duo w0 w O da pa Xa Fa Da ja Ma db pb Xb Fb Db jb Mb)(g:Grow Da Ma k v b q t L P)(A:b=300)(u:4<=(capsV k v).1)(C:L.length<=90)(R:q<=1000)(E:ja=5000*q)(G:q<=150)(I:∀Xa' Fa' w' Da' Ma',Duo w0 w' O da pa Xa' Fa' Da' (5000*(q+1)) Ma' db pb Xb Fb Db jb Mb->Grow Da' Ma' k v b (q+1) t L P->Fr (Xa++Fa) w w'->K 0 w'): cW 39 [.pointer (pW pa)] [.one .i] w K:=by obtain⟨D',M',e,y⟩:=g.commit A (by omega) u C;have J:=g.calm.turn;refine qql h.a (by omega) ⟨J.1,by omega⟩ h.hgA fun Q F' w' z f n=>?_;rw[e] at z⊢;subst E;exact I Q F' w' D' M' (h.turn (by rw[show 5000*(q+1)=5000*q+5000 by omega];exact z) f n) y f
end
def wc81 (p q:Option Addr):List Value:=[.pointer p,.pointer q]++List.replicate 16 (.slice none 0 0)
theorem qtQ{p q:Option Addr}{w:World}:(Instr.build 81 #[(0,.pointer p),(1,.pointer q)]).run Tryz.prog w=.ok (.agg (wc81 p q).toArray) w:=by kernel_rfl
end Go.Proofs.YtmmkegapckbomaaGreatDoor
end
section
namespace Go.Pt
open Go
theorem qtk{r:World->Result Value}{w:World}{K:List Value->Prop}(vs:List Value)(h:r w=.ok (.agg vs.toArray) w)(k:K vs):runQ [Ty1.raw] r w K:=⟨vs,h,k⟩
end Go.Pt
namespace Go.Proofs.YtmmkegapckbomaaGreatDoor
open Go Go.Pt List
open Go.IntKind (wrap)
open Classical
attribute [local irreducible] ld ldA ldV fld fldA newZ st new idx idxS idxA slc slcS slcP mkS chk nn call callV inv run runQ runU join loop held ext rng undefer s2a nxt ent IntKind.wrap
theorem ql0{w:World}{Y:List Nat}(u:∀b∈Y,b<w.heap.size)(E:HG∉Y)(G:Hv w){K:Option Addr->WP}(I:∀r dbk pb FD F D w' z T,TW dbk pb FD D 5000 w' (r::Y) F (madeM 300)->Made D 300->w'.heap[r]?=some (.cells z T (0,0))->z[1]?=some (.pointer (pW pb))->Fr [] w w'->(∀b∈FD++F,w.heap.size<=b)->w.heap.size<=r->r∉FD++F->K (pW r) w'): cW 37 [.i 300] [.one .ptr] w K:=by refine qfZ ?_;unfold qc5;refine qlW (n:=300) Y u E G (by decide) (by decide) fun dbk pb FD F D J y Q A R=>?_;refine qaf (fun q w'=>q=false/\w'=J) (cond_false rfl ⟨rfl,rfl⟩) ?_;rintro q w' ⟨rfl,rfl⟩;refine cond_false rfl ?_;refine qtk (wc81 (pW dbk) (pW pb)) qtQ ?_;refine Own.new' (Own.start [] w') fun r U V C h=>?_;refine I r dbk pb FD F D U _ _ (y.addY (B:=[r]) (C.mono fun _ h=>nomatch h) fun x hx=>by rw[zE.1 hx];exact⟨by omega,qac (h.at (i:=0) rfl)⟩) Q (h.at (i:=0) rfl) rfl (A.trans C) R (by rw[V];exact A.size) fun hm=>?_;have:r<w'.heap.size:=(zD.1 hm).elim (y.disk.lt r) (y.pager.lt r);omega
theorem qri{w:World}{v:Nat}{c:Int}{K:Sl->WP}(y:c=v)(C:v<=1000000)(z:∀s b w',BufB w' s (zs v) [b]->w.heap.size<=b->Fr [] w w'->K s w'):mkS 5 [.b 0] 1 1 c c w K:=by
 subst y;refine Own.mkN (Own.start [] w) rfl (by omega) (Int.le_refl _) (by omega) (by omega) fun b w' e h=>?_;rw[zJ] at h⊢;have e1:(List.replicate v [Value.int .u8 0]).flatten=List.replicate v (Value.int .u8 0):=(by simp);have u:=h.at (i:=0) rfl;rw[e1] at u;refine z _ b w' (.inr ⟨b,0,_,_,rfl,rfl,rfl,u,by simp[zs],zM _,by simp,?_⟩) (by omega) h.fr;have A:(zs v).flatMap encB=List.replicate v (Value.int .u8 0):=by unfold zs;rw[flatMap_replicate];show (List.replicate v [Value.int .u8 0]).flatten=_;exact e1
 rw[A];simp[zs]
def exK (i:Nat):Key:=(zs 16).set 3 (i:Int)
theorem quu{i j:Nat}(h:exK i=exK j):i=j:=by
 have:=congrArg (·[3]?) h
 simp only[exK,xT,zs,length_replicate] at this;have:(i:Int)=j:=(by simpa using this);omega
theorem TreeIs.one{D:DiskM}{M:PgM}{k v:Nat}{t:Int}{L:Prs}{P:List Int}(h:TreeIs D M k v t L P)(u:L.length=1):(rootM M t).2.2=1:=by
 rcases h with ⟨_,rfl,_⟩|⟨h,n,p,A,y,z⟩;cases u
 have:=z.counts
 dsimp only at this;rw[y];dsimp only;omega
theorem TreeIs.two{D:DiskM}{M:PgM}{t:Int}{L:Prs}{P:List Int}(A:CapsOk 16 88)(h:TreeIs D M 16 88 t L P)(C:L.length=5):(rootM M t).2.2=2:=by
 rcases h with ⟨_,rfl,_⟩|⟨h,n,p,G,E,u⟩;cases C;rw[E];dsimp only;have y:(capsV 16 88).1=4:=(by decide);match h,u with
 | 0,u=>
  have:=u.2.2.1.right
  exfalso;have z:(lfOf L).keys.length<=(capsV 16 88).1:=this.2.2.2.2.2.1;rw[y] at z;simp only[lfOf,zK] at z;omega
 | 1,_=>rfl
 | h+2,u=>
  have:=u.root_least A
  dsimp only at this;rw[y] at this;have I:2^(h+1)<=((capsV 16 88).2 / 2)^(h+1):=Nat.pow_le_pow_left (by have:=A.inner;omega) _;have J:2^1<=2^(h+1):=Nat.pow_le_pow_right (by decide) (by omega);have K:(2:Nat)^1=2:=rfl;have z:4 / 2*2<=4 / 2*((capsV 16 88).2 / 2)^(h+1):=Nat.mul_le_mul_left _ (by omega);omega
theorem qgu{w:World}{K:Bool->WP}(hv:Hv w)(kk:∀w',Fr [] w w'->K true w'):cW 36 [] [.one .bool] w K:=by
 refine qfF ?_;unfold qc0;refine qlW (n:=30) [] (fun b hb=>nomatch hb) (fun h=>nomatch h) hv (by decide) (by decide) fun dbk pb FD F D w1 A hM f1 n1=>?_;refine cond_false rfl ?_;have hs:shp 0=(((16:Nat):Int),((88:Nat):Int)):=rfl;obtain⟨k,v,G,C,_⟩:=qpG (t:=0) ⟨by decide,by decide⟩;rw[hs] at G;obtain⟨rfl,rfl⟩:k=16/\v=88:=⟨(Int.ofNat.inj (Prod.mk.inj G).1).symm,(Int.ofNat.inj (Prod.mk.inj G).2).symm⟩;have ak:=qnT (t:=0) ⟨by decide,by decide⟩ hs;have I:Sole D (madeM 30) 16 88 ((30-2)-needP (30-2)) 0 [] []:=qme ⟨by decide,by decide⟩ (by decide) (by decide) A.wf;have al:20<=(30-2)-needP (30-2):=(by decide);generalize (30-2)-needP (30-2)=c at I al;refine qah (fun q w'=>∃n:Nat,q=n/\n<=5/\∃F M P L,TW dbk pb FD D 5000 w' [] F M/\Sole D M 16 88 c 0 L P/\L.length=n/\(∀x∈keysP L,∃i,i<n/\x=exK i)/\Fr [] w w'/\∀b∈FD++F,w.heap.size<=b) (fun q _=>5-q.toNat) ⟨0,rfl,by decide,F,madeM 30,[],[],A,I,rfl,(fun x u=>nomatch u),f1,n1⟩ ?_;clear A I hM n1;rintro q w3 ⟨n,rfl,hn,F,M,P,L,A,hS,hl,ac,f3,n3⟩ X hX;refine qaa (fun E=>?_) (fun E=>?_);have E:=zC E;have J:n<5:=(by omega);refine qri (v:=16) rfl (by decide) fun s b w4 hb eb f4=>?_;refine Buf.idxAt (n:=3) hb rfl (by simp[zs]) fun b' hB=>?_;cases hB;refine Buf.stAt (e:=fun x=>Value.int .u8 x) (fun _=>rfl) (x:=wrap .u8 (n:Int)) hb (by simp[zs]) rfl rfl fun w5 ad f5=>?_;have e8:wrap .u8 (n:Int)=n:=(by rw[IntKind.wrap_u8];omega);rw[e8] at ad;have Q:Fr [] w3 w5:=f4.trans' f5 fun x u=>.inr (by rw[zE.1 u];exact eb);have ae:=A.frame0 Q;refine qsI (S:=Zo FD [] F) (v:=88) rfl (by decide) (qtF ae) fun vs w6 ap f6 _=>?_;have aq:RdB (Zo FD [] F) w6 s (exK n):=BufB.rdT (ad.frame0 f6) fun x u hm=>by
  rw[zE.1 u] at hm
  have:=qtF A _ hm
  omega
 have ar:IsB (exK n):=fun z hz=>by rcases mem_or_eq_of_mem_set hz with h|h;exact qob 16 z h;rw[h];exact⟨by omega,by omega⟩
 refine hS.putT (ae.frame0 f6) ⟨by decide,by decide⟩ hs C ak (by decide) (by omega) (by omega) ar (by simp[exK,zs]) (qob 88) (by simp[zs]) aq ap fun F7 w7 M7 P7 R U f7 n7=>?_;refine cond_false rfl ?_;have af:exK n∉keysP L:=fun hm=>by
  obtain⟨i,hi,e⟩:=ac _ hm
  have:=quu e
  omega
 have V:(insP (exK n) (zs 88) L).length=n+1:=(by rw[qaX af,hl]);have aa:=(qa3 U.tree).2.2.1;have au:∀w8,Fr [] w7 w8->X (wrap .i64 ((n:Int)+1)) w8:=fun w8 y=>by refine hX _ _ ⟨n+1,by rw[wi' _ (by omega)];rfl,J,F7,M7,P7,_,R.frame0 y,U,V,fun x u=>?_,(((f3.trans Q).trans f6).trans' f7 fun x u=>.inr (n3 x (zI _ u))).trans y,fun x u=>?_⟩ (by rw[wi' _ (by omega)];omega);rcases qdh.1 u with rfl|u;exact⟨n,Nat.lt_succ_self n,rfl⟩;obtain⟨i,hi,e⟩:=ac x u;exact⟨i,by omega,e⟩;rcases zD.1 u with u|u;exact n3 x (zH _ u);rcases n7 x u with h|h;exact n3 x (zI _ h);exact zL ((f3.trans Q).trans f6).size h
 refine qaf (fun q w'=>q=false/\Fr [] w7 w') ?_ ?_;refine qaa (fun E=>?_) (fun E=>⟨rfl,.refl _ _⟩);have h0:=eq_of_beq E;have av:n=0:=(by omega);subst av;refine R.root fun w8 y=>?_;refine cond_false (by rw[aa,V];rfl) ?_;refine (R.frame0 y).root fun w9 f9=>?_;exact⟨by rw[U.tree.one V];rfl,y.trans f9⟩;rintro q w8 ⟨rfl,y⟩;exact cond_false rfl (au w8 y);have E:=zB E;have J:n=5:=(by omega);have aa:=(qa3 hS.tree).2.2.1;refine A.root fun w8 y=>?_;refine cond_true (by rw[aa,hl,J];rfl) ?_;refine (A.frame0 y).root fun w9 f9=>?_;rw[hS.tree.two C (by omega)];exact kk _ ((f3.trans y).trans f9)
end Go.Proofs.YtmmkegapckbomaaGreatDoor
end
section
namespace Go.Proofs.YtmmkegapckbomaaGreatDoor
open Go Go.Pt List
open Classical
attribute [local irreducible] ld ldA ldV fld fldA newZ st new idx idxS idxA slc slcS slcP mkS chk nn call callV inv run runQ runU join loop held ext rng undefer s2a nxt ent IntKind.wrap
structure TurnS (w0 w:World) (B:List Nat) (s:Sl) (Ls:Prs) (k v:Nat) (tt:Int) (ra da pa:Nat) (Xa Fa:List Nat) (Da:DiskM) (qa:Nat) (Ma:PgM) (La:Prs) (Pa:List Int) (rb db pb:Nat) (Xb Fb:List Nat) (Db:DiskM) (qb:Nat) (Mb:PgM) (Lb:Prs) (Pb:List Int):Prop where
 duo:Duo w0 w (ra::rb::B) da pa Xa Fa Da (5000*qa) Ma db pb Xb Fb Db (5000*qb) Mb
 ga:Grow Da Ma k v 300 qa tt La Pa
 gb:Grow Db Mb k v 300 qb tt Lb Pb
 buf:Buf encPr 2 w s Ls B
 ca:∃ cs T,w.heap[ra]?=some (.cells cs T (0,0))/\cs[1]?=some (.pointer (pW pa))
 cb:∃ cs T,w.heap[rb]?=some (.cells cs T (0,0))/\cs[1]?=some (.pointer (pW pb))
 nra:ra∉B
 nrb:rb∉B
section
variable {w0 w w':World} {B:List Nat} {s:Sl} {Ls:Prs} {k v:Nat} {tt:Int} {ra da pa:Nat} {Xa Fa:List Nat} {Da:DiskM} {qa:Nat} {Ma:PgM} {La:Prs} {Pa:List Int} {rb db pb:Nat} {Xb Fb:List Nat} {Db:DiskM} {qb:Nat} {Mb:PgM} {Lb:Prs} {Pb:List Int} {ks vs:Sl} {key val:Key}
theorem TurnS.swap(h:TurnS w0 w B s Ls k v tt ra da pa Xa Fa Da qa Ma La Pa rb db pb Xb Fb Db qb Mb Lb Pb):TurnS w0 w B s Ls k v tt rb db pb Xb Fb Db qb Mb Lb Pb ra da pa Xa Fa Da qa Ma La Pa:=
 ⟨(h.duo.own (O':=rb::ra::B) (.refl _ _) (fun x u=>h.duo.olt x (by simp only[zG] at u⊢;rcases u with h|h|h<;>simp[h])) fun x u=>.inl (by simp only[zG] at u⊢;rcases u with h|h|h<;>simp[h])).swap,h.gb,h.ga,h.buf,h.cb,h.ca,h.nrb,h.nra⟩
theorem TurnS.keep{cs:Array Value}{S:List Nat}(f:Fr S w w'){r p:Nat}(h:∃cs T,w.heap[r]?=some (.cells cs T (0,0))/\cs[1]?=some (.pointer (pW p)))(y:r∉S):∃cs T,w'.heap[r]?=some (.cells cs T (0,0))/\cs[1]?=some (.pointer (pW p)):=by obtain⟨cs,T,u,z⟩:=h;exact⟨cs,T,by rw[f.block r (qac u) y];exact u,z⟩
theorem TurnS.frame0(h:TurnS w0 w B s Ls k v tt ra da pa Xa Fa Da qa Ma La Pa rb db pb Xb Fb Db qb Mb Lb Pb)(f:Fr [] w w'):TurnS w0 w' B s Ls k v tt ra da pa Xa Fa Da qa Ma La Pa rb db pb Xb Fb Db qb Mb Lb Pb:=
 ⟨h.duo.frame0 f,h.ga,h.gb,h.buf.frame0 f,TurnS.keep (cs:=#[]) f h.ca (fun h=>nomatch h),TurnS.keep (cs:=#[]) f h.cb (fun h=>nomatch h),h.nra,h.nrb⟩
theorem TurnS.turn{Xa' Fa':List Nat}{Da':DiskM}{u:Nat}{Ma':PgM}{y:Prs}{z:List Int}(h:TurnS w0 w B s Ls k v tt ra da pa Xa Fa Da qa Ma La Pa rb db pb Xb Fb Db qb Mb Lb Pb)(A:Duo w0 w' (ra::rb::B) da pa Xa' Fa' Da' (5000*u) Ma' db pb Xb Fb Db (5000*qb) Mb)(C:Grow Da' Ma' k v 300 u tt y z)(f:Fr (Xa++Fa) w w'):TurnS w0 w' B s Ls k v tt ra da pa Xa' Fa' Da' u Ma' y z rb db pb Xb Fb Db qb Mb Lb Pb:=
 ⟨A,C,h.gb,h.buf.frame f fun x E=>h.duo.apart x (by simp[E]),TurnS.keep (cs:=#[]) f h.ca (h.duo.apart ra (by simp)),TurnS.keep (cs:=#[]) f h.cb (h.duo.apart rb (by simp)),h.nra,h.nrb⟩
theorem TurnS.ldP{K:Addr->Option Addr->Prop}(h:TurnS w0 w B s Ls k v tt ra da pa Xa Fa Da qa Ma La Pa rb db pb Xb Fb Db qb Mb Lb Pb)(u:K ⟨ra,0,none⟩ (pW pa)):nn (pW ra) fun a=>ld .ptr ⟨a.block,a.off+1,none⟩ w (K a):=by obtain⟨A,T,y,z⟩:=h.ca;exact qae (qak y (pW pa) z u)
theorem TurnS.zlt(h:TurnS w0 w B s Ls k v tt ra da pa Xa Fa Da qa Ma La Pa rb db pb Xb Fb Db qb Mb Lb Pb):∀x∈Zo Xa (Xb++(Fb++(ra::rb::B))) Fa,x<w.heap.size:=h.duo.a.zlt
theorem TurnS.put{K:Int->WP}(h:TurnS w0 w B s Ls k v tt ra da pa Xa Fa Da qa Ma La Pa rb db pb Xb Fb Db qb Mb Lb Pb)(I:0<=tt/\tt<8)(J:shp tt=((k:Int),(v:Int)))(u:CapsOk k v)(y:4<=(capsV k v).1)(z:1<=k)(Q:La.length<=90)(A:IsB key)(C:key.length=k)(E:IsB val)(G:val.length=v)(R:RdB (Zo Xa (Xb++(Fb++(ra::rb::B))) Fa) w ks key)(U:RdB (Zo Xa (Xb++(Fb++(ra::rb::B))) Fa) w vs val)(V:∀Fa' w' Ma' P',TurnS w0 w' B s Ls k v tt ra da pa Xa Fa' Da qa Ma' (insP key val La) P' rb db pb Xb Fb Db qb Mb Lb Pb->Fr (Xa++Fa) w w'->(∀x∈Fa',x∈Fa\/w.heap.size<=x)->K 0 w'): cW 17 [.pointer (pW pa),.i tt,ks.v,vs.v] [.one .i] w K:=
 h.duo.put h.ga rfl I J u y z Q A C E G R U fun Fa' w' Ma' P' hd hg f n=>by have f:=f.mono fun x hx _=>zI Xa hx;exact V Fa' w' Ma' P' (h.turn hd hg f) f n
theorem TurnS.cut{K:Int->WP}(h:TurnS w0 w B s Ls k v tt ra da pa Xa Fa Da qa Ma La Pa rb db pb Xb Fb Db qb Mb Lb Pb)(C:0<=tt/\tt<8)(E:shp tt=((k:Int),(v:Int)))(u:CapsOk k v)(y:4<=(capsV k v).1)(z:1<=k)(G:La.length<=90)(A:key∈keysP La)(I:RdB (Zo Xa (Xb++(Fb++(ra::rb::B))) Fa) w ks key)(J:∀Fa' w' Ma' P',TurnS w0 w' B s Ls k v tt ra da pa Xa Fa' Da qa Ma' (cutP key La) P' rb db pb Xb Fb Db qb Mb Lb Pb->Fr (Xa++Fa) w w'->K 0 w'): cW 21 [.pointer (pW pa),.i tt,ks.v] [.one .i] w K:=
 h.duo.cut h.ga rfl C E u y z G A I fun Fa' w' Ma' P' Q R f=>by have f:=f.mono fun x U _=>zI Xa U;exact J Fa' w' Ma' P' (h.turn Q R f) f
theorem TurnS.get{K:Sl×Int->WP}(h:TurnS w0 w B s Ls k v tt ra da pa Xa Fa Da qa Ma La Pa rb db pb Xb Fb Db qb Mb Lb Pb)(C:shp tt=((k:Int),(v:Int)))(u:1<=k)(y:IsB key)(A:key.length=k)(E:RdB (Zo Xa (Xb++(Fb++(ra::rb::B))) Fa) w ks key)(G:∀z e w',(key∈keysP La->e=0/\z.len=v)->(key∉keysP La->e=5)->Fr [] w w'->K (z,e) w'): cW 41 [.pointer (pW pa),.i tt,ks.v] [.one .slice,.one .i] w K:=
 h.duo.get h.ga C u y A E G
theorem TurnS.commit{K:Int->WP}(h:TurnS w0 w B s Ls k v tt ra da pa Xa Fa Da qa Ma La Pa rb db pb Xb Fb Db qb Mb Lb Pb)(u:4<=(capsV k v).1)(y:La.length<=90)(z:qa<=150)(A:∀Xa' Fa' w' Da' Ma',TurnS w0 w' B s Ls k v tt ra da pa Xa' Fa' Da' (qa+1) Ma' La Pa rb db pb Xb Fb Db qb Mb Lb Pb->Fr (Xa++Fa) w w'->K 0 w'): cW 39 [.pointer (pW pa)] [.one .i] w K:=
 h.duo.commit h.ga rfl u y (by omega) rfl z fun Xa' Fa' w' Da' Ma' C E f=>A Xa' Fa' w' Da' Ma' (h.turn C E f) f
theorem quF:∃i,Tryz.prog.info? 83=some i/\i.zero=some (.agg #[.string ⟨#[]⟩,.string ⟨#[]⟩])/\i.size=2/\i.bytes=32:=qfU (by kernel_rfl)
theorem TurnS.push{x:Key×Key}{K:Sl->WP}(h:TurnS w0 w B s Ls k v tt ra da pa Xa Fa Da qa Ma La Pa rb db pb Xb Fb Db qb Mb Lb Pb)(hl:Ls.length<=1000000)(I:∀z B' w',TurnS w0 w' B' z (Ls++[x]) k v tt ra da pa Xa Fa Da qa Ma La Pa rb db pb Xb Fb Db qb Mb Lb Pb->K z w'): Pt.new (.cells #[.string (strL x.1),.string (strL x.2)] 83) w fun r J=>Pt.run [Ty1.one Cell.slice] ((Builtin.append_ #[74,74] 74 #[s.v,.slice (pW r) 1 1]).run Tryz.prog J) K:=by obtain⟨i,Q,R,A,C⟩:=quF;refine Buf.push (e:=83) (x:=x) h.buf qij (qsA x) (by kernel_rfl) Q R A rfl rfl (by rw[C];omega) (by omega) fun z B' w' G f n=>?_;have U:ra<w.heap.size:=h.duo.olt ra (by simp);have V:rb<w.heap.size:=h.duo.olt rb (by simp);refine I z B' w' ⟨h.duo.own (O':=ra::rb::B') (f.mono fun x u _=>by simp[u]) (fun x u=>?_) (fun x u=>?_),h.ga,h.gb,G,TurnS.keep (cs:=#[]) f h.ca h.nra,TurnS.keep (cs:=#[]) f h.cb h.nrb,fun E=>?_,fun E=>?_⟩;simp only[zG] at u;rcases u with rfl|rfl|u;exact yC U f.size;exact yC V f.size;exact G.lt x u;simp only[zG] at u⊢;rcases u with rfl|rfl|u;simp;simp;exact (n x u).imp (fun h=>by simp[h]) id;rcases n ra E with y|y;exact h.nra y;omega;rcases n rb E with y|y;exact h.nrb y;omega
end
theorem qbl{w:World}{l:Key}{K:Sl->WP}(h:IsB l)(k:∀s w',(∀G:List Nat,(∀b∈G,b<w.heap.size)->RdB G w' s l)->Fr [] w w'->K s w'):Pt.run [Ty1.one Cell.slice] ((convert 9 23 (.string (strL l))).run Tryz.prog w) K:=
 qrw (e:=5) h (by kernel_rfl) (by kernel_rfl) (by kernel_rfl) k
theorem qnr{A B:Prs}(u:SortP A)(h:∀x,x∈keysP A->x∈keysP B):A.length<=B.length:=by
 have y:(keysP A).Nodup:=List.Pairwise.imp (fun h=>qeI h) u
 have:=List.Nodup.length_le_of_subset y (fun x z=>h x z)
 rwa[zK,zK] at this
end Go.Proofs.YtmmkegapckbomaaGreatDoor
end
section
namespace Go.Proofs.YtmmkegapckbomaaGreatDoor
open Go Go.Pt List
open Go.IntKind (wrap)
open Classical
attribute [local irreducible] ld ldA ldV fld fldA newZ st new idx idxS idxA slc slcS slcP mkS chk nn call callV inv run runQ runU join loop held ext rng undefer s2a nxt ent IntKind.wrap
theorem qoo{w:World}{t:Int}{keys cut:Sl}{U:Kps}{cl:List Int}{K:Bool->WP}(bX:0<=t/\t<256)(hv:Hv w)(h1:RdK [] w keys U)(b1:∀p∈U,IsB p.2)(h2:RdB [] w cut cl)(b2:IsB cl)(kk:∀w',Fr [] w w'->K true w'): cW 8 [.b t,keys.v,cut.v] [.one .bool] w K:=by
 refine qdO ?_;unfold qb2 qa7;have Q:0<=wrap .i64 (Int.tmod t 8)/\wrap .i64 (Int.tmod t 8)<8:=by rw[Int.tmod_eq_emod_of_nonneg bX.1,wi' _ (by omega)];omega
 generalize wrap .i64 (Int.tmod t 8)=tt at Q⊢;obtain⟨k,v,hs,an,af,aw,cJ,ag⟩:=qpG (t:=tt) ⟨Q.1,by omega⟩;have ax:=qnT (t:=tt) ⟨Q.1,by omega⟩ hs;have cK:keys.len=U.length:=h1.len;have cL:cut.len=cl.length:=h2.1;refine qaf (fun q w'=>w'=w/\(q=false->keys.len<=80/\cut.len<=80)) ?_ ?_;refine qaa (fun I=>⟨rfl,fun h=>nomatch h⟩) (fun I=>⟨rfl,fun h=>?_⟩);have a:=zB I;have b:=zB h;omega;rintro q w' ⟨hw,hq⟩;subst hw;refine qaa (fun I=>qgu hv kk) (fun I=>?_);obtain⟨g1,g2⟩:=hq I;clear hq I;refine ql0 (Y:=[]) (fun b hb=>nomatch hb) (fun h=>nomatch h) hv fun ra da pa Xa Fa Da wa bZ Ta ay bn qa b0 fa na bp cO=>?_;have bq:=hv.frame0 fa;have a1:=qac qa;have a2:∀x∈Xa++(Fa++[ra]),x<wa.heap.size/\w'.heap.size<=x:=fun x u=>by rcases zD.1 u with u|u;exact⟨ay.disk.lt x u,na x (zH _ u)⟩;rcases zD.1 u with u|u;exact⟨ay.pager.lt x u,na x (zI _ u)⟩;rw[zE.1 u];exact⟨a1,bp⟩
 refine ql0 (Y:=Xa++(Fa++[ra])) (fun x u=>(a2 x u).1) (fun hm=>by have:=(a2 HG hm).2;have:=hv.lt;omega) bq fun rb db pb Xb Fb Db wb b3 Tb ap br qb b4 fb nb bs cQ=>?_;have bt:=qmk (D:=Da) (k:=k) (v:=v) Q (by decide) (by decide) ay.wf bn;have bu:=qmk (D:=Db) (k:=k) (v:=v) Q (by decide) (by decide) ap.wf br;have b5:=qac qb;have bv:TurnS w' wb [] ⟨none,0,0⟩ [] k v tt ra da pa Xa Fa Da 1 (madeM 300) [] [] rb db pb Xb Fb Db 1 (madeM 300) [] []:=by refine⟨⟨ay.frameY (fb.mono fun _ h=>nomatch h) (fun x u=>?_) (fun x u=>?_),ap.frameY (.refl _ _) (fun x u=>?_) (fun x u=>?_),na,fun x u=>zL fa.size (nb x u),fun x u=>?_,hv.lt,fa.trans fb⟩,bt,bu,.inl ⟨rfl,rfl,rfl⟩,⟨bZ,Ta,by rw[fb.block ra a1 (fun h=>nomatch h)];exact qa,b0⟩,⟨b3,Tb,qb,b4⟩,(fun h=>nomatch h),fun h=>nomatch h⟩;simp only[zD,zG,xU,or_false] at u;rcases u with u|u|rfl|rfl;exact ap.disk.lt x u;exact ap.pager.lt x u;exact yC a1 fb.size;exact b5;simp only[zD,zG,xU,or_false] at u⊢;rcases u with u|u|rfl|rfl;exact .inr (nb x (zH _ u));exact .inr (nb x (zI _ u));exact .inl rfl;exact .inr bs;refine ap.ylt x ?_;simp only[zD,zG,xU,or_false] at u⊢;rcases u with u|u|rfl|rfl<;>simp[*];refine .inl ?_;simp only[zD,zG,xU,or_false] at u⊢;rcases u with u|u|rfl|rfl<;>simp[*];simp only[zG,xU,or_false] at u;rcases u with rfl|rfl;exact bp;exact zL fa.size bs
 refine qaf (fun q w2=>q=false/\w2=wb) (cond_false rfl ⟨rfl,rfl⟩) ?_;rintro q w2 ⟨rfl,rfl⟩;refine cond_false rfl ?_;refine qah (fun s w3=>∃(n:Nat) (B:List Nat) (Ls:Prs) (Xa Fa:List Nat) (Da:DiskM) (q:Nat) (Ma:PgM) (La:Prs) (Pa:List Int),s.2=n/\n<=keys.len/\TurnS w' w3 B s.1 Ls k v tt ra da pa Xa Fa Da q Ma La Pa rb db pb Xb Fb Db 1 (madeM 300) [] []/\Ls.length=n/\PrsOk k v Ls/\q<=n+1/\La.length<=n/\∀x,x∈keysP La↔x∈keysP Ls) (fun s _=>keys.len-s.2.toNat) ⟨0,[],[],Xa,Fa,Da,1,madeM 300,[],[],rfl,yW _,bv,rfl,(fun x u=>nomatch u),zM _,zM _,fun x=>.rfl⟩ ?_;clear bv bt bu ay bn a2 ap br qa qb fa fb na nb bq;rintro⟨s,i⟩ w3 ⟨n,B,Ls,Xa,Fa,Da,q,Ma,La,Pa,rfl,hn,S,bw,a3,hq,aq,R⟩ X hX;dsimp only at S⊢;refine qaa (fun I=>?_) (fun I=>?_);have I:=zC I;have a4:n<U.length:=(by omega);refine (h1.frame0 S.duo.fr).get n rfl a4 ?_;refine qaa (fun az=>qgu (hv.frame0 S.duo.fr) fun w' f=>kk w' (S.duo.fr.trans f)) (fun az=>?_);have az:=zB az;have hr:=(h1.frame0 S.duo.fr).2 _ (zW a4);have cR:U[n].1.len=U[n].2.length:=hr.1;have hB:=b1 _ (zW a4);refine qgS Q hs aw ag hr hB (by omega) hr hB (by omega) fun x y V u bx hy a5 f4=>?_;have S4:=S.frame0 f4;refine qaf (fun b' w5=>b'=false/\∃(Xa Fa:List Nat) (Da:DiskM) (q:Nat) (Ma:PgM),TurnS w' w5 B s Ls k v tt ra da pa Xa Fa Da q Ma La Pa rb db pb Xb Fb Db 1 (madeM 300) [] []/\q<=n+2) ?_ ?_;refine S4.ldP ?_;refine S4.duo.a.root fun w5 f5=>?_;have S5:=S4.frame0 f5;refine qaa (fun hh=>?_) (fun hh=>⟨rfl,Xa,Fa,Da,q,Ma,S5,by omega⟩);refine qaa (fun h7=>?_) (fun h7=>⟨rfl,Xa,Fa,Da,q,Ma,S5,by omega⟩);refine S5.ldP ?_;refine S5.commit ax (by omega) (by omega) fun X' F' w6 D' M' S6 f6=>?_;exact⟨rfl,X',F',D',q+1,M',S6,by omega⟩;clear S S4 hq;rintro b' w5 ⟨rfl,Xa,Fa,Da,q,Ma,S,hq⟩;refine cond_false rfl ?_;refine S.ldP ?_;refine qbl bx fun ks w6 bz f6=>?_;refine qbl a5 fun vs w7 bA f7=>?_;have S7:=S.frame0 (f6.trans f7);refine S7.put Q hs an ax af (by omega) bx u a5 hy ((bz _ S.zlt).frame0 f7) (bA _ fun x u=>yC (S.zlt x u) f6.size) fun F8 w8 M8 P8 S8 f8 _=>?_;refine cond_false rfl ?_;refine S8.push (x:=(x,y)) (by omega) fun s9 B9 w9 S9=>?_;refine hX _ _ ⟨n+1,B9,Ls++[(x,y)],Xa,F8,Da,q,M8,insP x y La,P8,?_,by omega,S9,by rw[zF,xI,bw],fun z hz=>?_,hq,?_,fun z=>?_⟩ ?_;dsimp only;rw[wi' _ (by omega)];rfl;rcases zD.1 hz with hz|hz;exact a3 z hz;rw[zE.1 hz];exact⟨u,hy,bx,a5⟩;have a6:=S7.ga.tree.sort.1;by_cases hm:x∈keysP La;rw[qbB a6 hm];omega;rw[qaX hm];omega;rw[qdh,R z];simp only[keysP,xJ,zD,xK,map_nil,zE];exact Or.comm;dsimp only;rw[wi' _ (by omega)];omega
 ·have I:=zB I;have cd:s.len=Ls.length:=S.buf.len;clear hX X;have cZ:n=keys.len:=(by omega);have e0:wrap .i64 ((s.len:Int)-1)=(n:Int)-1:=(by rw[wi' _ (by omega),cd,bw]);rw[e0];refine qah (fun i V=>∃(m:Nat) (Fb:List Nat) (Mb:PgM) (Lb:Prs) (Pb:List Int),i=(m:Int)-1/\m<=n/\TurnS w' V B s Ls k v tt ra da pa Xa Fa Da q Ma La Pa rb db pb Xb Fb Db 1 Mb Lb Pb/\Lb.length+m<=n/\∀x,x∈keysP Lb↔x∈keysP (Ls.drop m)) (fun i _=>(i+1).toNat) ⟨n,Fb,madeM 300,[],[],rfl,zM _,S,by simp,fun x=>by rw[xY (by omega)]⟩ ?_;clear S;rintro i V ⟨m,Fb,Mb,Lb,Pb,rfl,hm,S,c0,aA⟩ X hX;refine qaa (fun I=>?_) (fun I=>?_);have I:=zC I;have E:m-1<Ls.length:=(by omega);have aN:(m:Int)-1=((m-1:Nat):Int):=(by omega);obtain⟨p1,p2,p3,p4⟩:=a3 _ (zW E);have aO:Rds encPr 2 [] V s Ls:=S.buf.rds qij fun b _=>by simp
  have go:∀(ks vs:Sl) (w7:World),Fr [] V w7->(∀G:List Nat,(∀b∈G,b<V.heap.size)->RdB G w7 ks Ls[m-1].1)->(∀G:List Nat,(∀b∈G,b<V.heap.size)->RdB G w7 vs Ls[m-1].2)->
    cW 17 [.pointer (pW pb),.i tt,ks.v,vs.v] [.one .i] w7 fun x6 u6=>cond (!x6==0) (K false u6) (X (wrap .i64 ((m:Int)-1-1)) u6):=by
   intro ks vs w7 f7 a7 a8;have S7:=(S.frame0 f7).swap;have hz:∀x∈Zo Xb (Xa++(Fa++(rb::ra::B))) Fb,x<V.heap.size:=S.swap.zlt;refine S7.put Q hs an ax af (by omega) p3 p1 p4 p2 (a7 _ hz) (a8 _ hz) fun F8 w8 M8 P8 S8 f8 _=>?_;refine cond_false rfl ?_;refine hX _ _ ⟨m-1,F8,M8,insP Ls[m-1].1 Ls[m-1].2 Lb,P8,?_,by omega,S8.swap,?_,fun z=>?_⟩ ?_;rw[wi' _ (by omega)];omega;have a6:=S.gb.tree.sort.1;by_cases J:Ls[m-1].1∈keysP Lb;rw[qbB a6 J];omega;rw[qaX J];omega;rw[qdh,aA z,zX E,show m-1+1=m by omega];simp only[keysP,xK,zG];rw[wi' _ (by omega)];omega
  have cb:=S.cb;obtain⟨bB,ce,aP,a9⟩:=cb;have ab:∀ {w7:World},Fr [] V w7->w7.cell? ⟨rb,0+1,none⟩=some (.pointer (pW pb)):=fun {w7} f=>by have:w7.heap[rb]?=some (.cells bB ce (0,0)):=(by rw[f.block rb (qac aP) (fun h=>nomatch h)];exact aP);exact (qag this).trans a9
  refine⟨?_,?_⟩;refine qae (qak (w:=V.drew) aP (pW pb) a9 ?_);refine Rds.getT aO (m-1) aN (zA E) fun c o cs T fr hb aB=>?_;refine qak (w:=V.drew) hb (strL Ls[m-1].1) (qfx aB).1 ?_;refine Rds.getT aO (m-1) aN (zA E) fun c2 o2 a' T2 ba ak ae=>?_;refine qak (w:=V.drew) ak (strL Ls[m-1].2) (qfx ae).2 ?_;refine qbl p3 fun ks w6 ch f6=>?_;have ac:Fr [] V w6:=(Fr.refl [] V).drew.trans f6;refine qam ?_ (ab ac) ?_;have:w6.heap[c2]?=some (.cells a' T2 ba):=(by rw[ac.block c2 (qac ak) (fun h=>nomatch h)];exact ak);exact (qag this).trans (qfx ae).2;refine qbl p4 fun vs w7 a8 f7=>?_;have al:=ac.trans f7;refine qam ?_ (ab al) ?_;have:w7.heap[c]?=some (.cells cs T fr):=(by rw[al.block c (qac hb) (fun h=>nomatch h)];exact hb);exact (qag this).trans (qfx aB).1;exact go ks vs w7 al (fun G hG=>(ch G hG).frame0 f7) fun G hG=>a8 G fun b hb=>yC (hG b hb) ac.size;refine qae (qak (w:=V.drew) aP (pW pb) a9 ?_);refine Rds.getT aO (m-1) aN (zA E) fun c o cs T fr hb aB=>?_;refine qak (w:=V.drew) hb (strL Ls[m-1].1) (qfx aB).1 ?_;refine Rds.getT aO (m-1) aN (zA E) fun c2 o2 a' T2 ba ak ae=>?_;refine qak (w:=V.drew) ak (strL Ls[m-1].2) (qfx ae).2 ?_;refine qbl p4 fun vs w6 ci f6=>?_;have ac:Fr [] V w6:=(Fr.refl [] V).drew.trans f6;refine qam ?_ (ab ac) ?_;have:w6.heap[c]?=some (.cells cs T fr):=(by rw[ac.block c (qac hb) (fun h=>nomatch h)];exact hb);exact (qag this).trans (qfx aB).1;refine qbl p3 fun ks w7 a7 f7=>?_;have al:=ac.trans f7;refine qam ?_ (ab al) ?_;have:w7.heap[c2]?=some (.cells a' T2 ba):=(by rw[al.block c2 (qac ak) (fun h=>nomatch h)];exact ak);exact (qag this).trans (qfx ae).2;exact go ks vs w7 al (fun G hG=>a7 G fun b hb=>yC (hG b hb) ac.size) fun G hG=>(ci G hG).frame0 f7
  ·have I:=zB I;have cj:m=0:=(by omega);subst cj;rw[xD] at aA;clear hX X;have aX:∀ {A C:Prs},SortP A->(∀x,x∈keysP A↔x∈keysP Ls)->(∀x,x∈keysP C↔x∈keysP Ls)->A.length<=C.length:=fun hA h1 h2=>qnr hA fun x u=>(h2 x).2 ((h1 x).1 u);refine qah (fun i w5=>∃(m:Nat) (Fa:List Nat) (Ma:PgM) (La:Prs) (Pa:List Int),i=m/\m<=cl.length/\TurnS w' w5 B s Ls k v tt ra da pa Xa Fa Da q Ma La Pa rb db pb Xb Fb Db 1 Mb Lb Pb/\La.length<=80/\∀x,x∈keysP La↔x∈keysP Ls) (fun i _=>cl.length-i.toNat) ⟨0,Fa,Ma,La,Pa,rfl,yW _,S,by omega,R⟩ ?_;clear S R aq;rintro i w5 ⟨m,Fa,Ma,La,Pa,rfl,hm,S,aq,R⟩ X hX;refine qaa (fun I=>?_) (fun I=>?_)
   ·have I:=zC I;refine qaf (fun _ w6=>∃(Fa:List Nat) (Ma:PgM) (La:Prs) (Pa:List Int),TurnS w' w6 B s Ls k v tt ra da pa Xa Fa Da q Ma La Pa rb db pb Xb Fb Db 1 Mb Lb Pb/\La.length<=80/\∀x,x∈keysP La↔x∈keysP Ls) ?_ ?_;rotate_left;rintro _ w6 ⟨Fa,Ma,La,Pa,S,aq,R⟩;exact hX _ _ ⟨m+1,Fa,Ma,La,Pa,by rw[wi' _ (by omega)];rfl,by omega,S,aq,R⟩ (by rw[wi' _ (by omega)];omega);have E:m<cl.length:=(by omega);refine Rds.get (h2.frame0 S.duo.fr) m rfl (zA E) (y:=cl[m]) rfl ?_;have bc:=b2 _ (zW E);have aQ:∀w,RdB [] w ⟨none,0,0⟩ []:=fun w=>Rds.nil _ _ _ _;have ao:IsB []:=fun z hz=>nomatch hz;refine qtC (o2:=⟨none,0,0⟩) (o3:=⟨none,0,0⟩) Q hs aw ag (aQ _) ao (by decide) (aQ _) ao (by decide) fun x w6 u bx f6=>?_;have S6:=S.frame0 f6;rw[qaY];refine qri (v:=k) (by rw[u]) (by omega) fun z b w7 hb eb f7=>?_;have c6:z.len=(zs k).length:=hb.len;have ck:(zs k).length=k:=(by simp[zs]);refine Buf.idxAt (n:=k-1) hb (by rw[wi' _ (by omega)];omega) (by omega) fun b' hB=>?_;cases hB;refine Buf.stAt (e:=fun x=>Value.int .u8 x) (fun _=>rfl) (x:=cl[m]) hb (by omega) rfl rfl fun w8 aR f8=>?_;have cm:Fr [] w6 w8:=f7.trans' f8 fun y hy=>.inr (by rw[zE.1 hy];exact eb);have S8:=S6.frame0 cm;obtain⟨key,aC⟩:∃key,key=(zs k).set (k-1) cl[m]:=⟨_,rfl⟩;rw[<- aC] at aR;have bD:IsB key:=fun z hz=>by rw[aC] at hz;rcases mem_or_eq_of_mem_set hz with h|h;exact qob k z h;rw[h];exact bc
    have aY:key.length=k:=(by rw[aC,xE];exact ck);have bE:RdB (Zo Xa (Xb++(Fb++(ra::rb::B))) Fa) w8 z key:=BufB.rdT aR fun y hy hm=>by
     have:=S6.zlt y hm
     rw[zE.1 hy] at this;omega
    refine S8.ldP ?_;refine S8.get hs af bD aY bE fun y e w9 cn cG f9=>?_;have S9:=S8.frame0 f9;refine qaa (fun he=>⟨Fa,Ma,La,Pa,S9,aq,R⟩) (fun he=>?_);have aZ:key∉keysP La:=fun h=>by have h0:=(cn h).1;dsimp only at he;rw[h0] at he;exact absurd he (by decide)
    refine qgS (o2:=⟨none,0,0⟩) (o3:=⟨none,0,0⟩) Q hs aw ag (aQ _) ao (by decide) (aQ _) ao (by decide) fun x2 y2 bF c9 c' co bG aD=>?_;have am:=S9.frame0 aD;refine qaf (fun b' w6=>b'=false/\∃(Fa:List Nat) (Ma:PgM) (La:Prs) (Pa:List Int),TurnS w' w6 B s Ls k v tt ra da pa Xa Fa Da q Ma La Pa rb db pb Xb Fb Db 1 Mb Lb Pb/\La.length<=80/\∀x,x∈keysP La↔x∈keysP Ls) ?_ ?_;rotate_left;rintro b' bf ⟨rfl,h⟩;exact cond_false rfl h;refine am.ldP ?_;refine qbl bG fun vs bf cp aS=>?_;have aE:=am.frame0 aS;have aF:=(f9.trans aD).trans aS;refine aE.put Q hs an ax af (by omega) bD aY bG co (bE.frame0 aF) (cp _ am.zlt) fun cq aT dc dd bH bg cr=>?_;refine cond_false rfl ?_;refine bH.ldP ?_;have de:b<bf.heap.size:=yC (aR.lt b (by simp)) aF.size;have bI:BufB aT z key [b]:=(aR.frame0 aF).frame bg fun y hy hm=>by
     rw[zE.1 hy] at hm
     have:=S6.zlt b (by rcases zD.1 hm with h|h;exact zH _ (zH _ h);exact zI _ h)
     omega
    have bJ:RdB (Zo Xa (Xb++(Fb++(ra::rb::B))) cq) aT z key:=BufB.rdT bI fun y hy hm=>by
     rw[zE.1 hy] at hm;rcases zD.1 hm with h|h
     have:=S6.zlt b (zH _ h)
     omega;rcases cr b h with h|h
     have:=S6.zlt b (zI _ h)
     omega;omega
    refine bH.cut Q hs an ax af (by rw[qaX aZ];omega) (qdh.2 (.inl rfl)) bJ fun ct bh cu cv bK df=>?_;have J:∀x,x∈keysP (cutP key (insP key y2 La))↔x∈keysP La:=fun x=>by rw[qrt,qdh];exact⟨fun h=>h.1.resolve_left h.2,fun h=>⟨.inr h,fun e=>aZ (e▸h)⟩⟩
    exact⟨rfl,ct,cu,_,cv,bK,zL (qnr bK.ga.tree.sort.1 fun x u=>(J x).1 u) aq,fun x=>(J x).trans (R x)⟩
   clear hX X;refine qah (fun i w6=>∃m:Nat,i=m/\m<=Ls.length/\TurnS w' w6 B s Ls k v tt ra da pa Xa Fa Da q Ma La Pa rb db pb Xb Fb Db 1 Mb Lb Pb) (fun i _=>Ls.length-i.toNat) ⟨0,rfl,yW _,S⟩ ?_;clear S;rintro i w6 ⟨m,rfl,hm,S⟩ X hX;refine qaa (fun I=>?_) (fun I=>?_);have I:=zC I;have E:m<Ls.length:=(by omega);obtain⟨p1,p2,p3,p4⟩:=a3 _ (zW E);refine Rds.getA (x:=Ls[m]) (y:=(strL Ls[m].1,strL Ls[m].2)) (S:=[]) (S.buf.rds qij fun b _=>by simp) m rfl (zA E) rfl rfl ?_;refine Own.new' (Own.start [] w6) fun r w7 e7 f7 ho=>?_;refine Own.st' ho 0 rfl #[.string (strL Ls[m].1),.string (strL Ls[m].2)] rfl rfl (zO rfl) fun w8 ho f8=>?_;have ho:=ho.drew;have S8:=S.frame0 ho.fr;refine S8.ldP ?_;refine Own.ld ho 0 rfl (strL Ls[m].1) rfl ?_;refine qbl p3 fun ks w9 cw f9=>?_;have S9:=S8.frame0 f9;refine qai ?_ ?_;obtain⟨cs,T,h1,h2⟩:=S9.ca;exact (qag h1).trans h2;refine S9.get hs af p3 p1 (cw _ S8.zlt) fun za ea bF bL _ aD=>?_;have am:=(S9.frame0 aD).frame0 (Fr.refl [] bF).drew;have ho:=(ho.frame0 (f9.trans aD)).drew;refine am.swap.ldP ?_;refine Own.ld ho 0 rfl (strL Ls[m].1) rfl ?_;refine qbl p3 fun dg bf bM aS=>?_;have aE:=am.frame0 aS;refine qai ?_ ?_;obtain⟨cs,T,h1,h2⟩:=aE.cb;exact (qag h1).trans h2;refine aE.swap.get hs af p3 p1 (bM _ am.swap.zlt) fun zb eb aT bN _ bg=>?_;have J:Ls[m].1∈keysP Ls:=zY (zW E);obtain⟨cx,la⟩:=bL ((R _).2 J);obtain⟨cy,lb⟩:=bN ((aA _).2 J);subst cx cy;refine qaf (fun b' bh=>b'=false/\bh=aT) ?_ ?_;refine cond_false rfl (cond_false rfl ⟨?_,rfl⟩);dsimp only;rw[la,lb,beq_self_eq_true];rfl;rintro b' bh ⟨rfl,rfl⟩;refine cond_false rfl ?_;exact hX _ _ ⟨m+1,by rw[wi' _ (by omega)];rfl,E,aE.frame0 bg⟩ (by rw[wi' _ (by omega)];omega);have S6:=S.frame0 (Fr.refl [] w6).drew;refine qgu (hv.frame0 S6.duo.fr) fun w7 f7=>?_;refine cond_true rfl ?_;have S7:=S6.frame0 f7;refine S7.ldP ?_;refine S7.swap.ldP ?_;refine S7.duo.a.root fun w8 f8=>?_;have S8:=S7.frame0 f8;refine qai ?_ ?_;obtain⟨cs,T,h1,h2⟩:=S8.cb;exact (qag h1).trans h2;refine S8.duo.b.root fun w9 f9=>?_;have e1:=(qa3 S.ga.tree).2.2.1;have e2:=(qa3 S.gb.tree).2.2.1;have e3:La.length=Lb.length:=Nat.le_antisymm (aX S.ga.tree.sort.1 R aA) (aX S.gb.tree.sort.1 aA R);rw[e1,e2,e3,beq_self_eq_true];exact kk _ (S8.duo.fr.trans f9)
end Go.Proofs.YtmmkegapckbomaaGreatDoor
end
