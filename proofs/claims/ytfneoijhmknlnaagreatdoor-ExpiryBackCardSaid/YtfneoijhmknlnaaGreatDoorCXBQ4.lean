/- Conditions: those that stand in each line. -/
import Derived.Test.YtfneoijhmknlnaaGreatDoorCXBQ3
import Derived.Test.YtfneoijhmknlnaaGreatDoorTie
import Derived.Test.YtfneoijhmknlnaaGreatDoorCXBQ1
import Derived.LaidMore
import Derived.MakeChecks
import Derived.OpenShut
import Derived.ProofKit
import Derived.Test.YtfneoijhmknlnaaGreatDoorCXBQ2
import Derived.Lib.Bytealg
import Derived.Lib.BytesEntry
import Derived.Laws.IdiomStrings
import Derived.Laws.BytesString
set_option linter.unusedVariables false
set_option linter.unusedSimpArgs false
set_option linter.defProp false
namespace Go.Proofs.YtfneoijhmknlnaaGreatDoor
open Go Go.Pt
attribute [local irreducible] ld dK ic nK jx eT st new idx jK jF fV jI jl mp gK nn call dW inv run fl jf join loop held ext kW eU m8 nQ nT IntKind.wrap
open Go.Proofs.Tryz (prog)
section
open Go Go.Pt List
open Go.IntKind (wrap)
variable {D:dM} {F:List Nat} {K:Sl×Int->WP} {Z:List Value} {w:World}
def gL (s:List mz) (x:Int×mz):List mz:=s.set x.1.toNat x.2
def Ce(l:List (Int×mz)):∀s:List mz,(l.foldl gL s).length=s.length:=by
 induction l with
 | nil=>intro s;rfl
 | cons x l ih=>intro s;rw[foldl_cons,ih,gL,xG]
def ij (D:dM):dM×Int:=
 if D.down then (D,7) else if (jq D).2 then ((jq D).1,7) else ({ (jq D).1 with Q3:=D.Q4.foldl gL D.Q3,Q4:=[] },0)
def Cz(D:dM):(jq D).1.Q3=D.Q3/\(jq D).1.Q4=D.Q4:=by unfold jq;split;exact⟨rfl,rfl⟩;split<;>exact⟨rfl,rfl⟩
def qrv{db:Nat}{K:Int->WP}(h:fu w db F D)(hD:D.Ok)(hk:∀F' w',fu w' db F' (ij D).1->Fr F w w'->(∀b∈F',b∈F)->K (ij D).2 w'): cW 139 [dH db] de w K:=by
 refine qlV ?_;have af:=h.mem;have aH:=hD.y6;refine iQ (fun b w'=>(D.down=true/\b=true/\w'=w)\/(D.down=false/\b=(jq D).2/\fu w' db F (jq D).1/\Fr [db] w w')) ?_ ?_;obtain⟨sb,C,hc⟩:=h.cell;refine gI (jM hc D.down rfl ?_);exact eH (fun Q=>.inl ⟨Q,rfl,rfl⟩) fun Q=>qwp h oJ fun w1 h1 f1=>.inr ⟨Q,rfl,h1,f1⟩;rintro b w1 (⟨Q,rfl,rfl⟩|⟨Q,rfl,h1,f1⟩);refine cond_true rfl ?_
 have:=hk F w1 (by rw[ij,if_pos Q];exact h) (.refl _ _) (fun b hb=>hb)
 rw[ij,if_pos Q] at this;exact this;have fF:Fr F w w1:=f1.mono (fun i E _=>by simp at E;subst E;exact af);apply eH<;>intro ha
 have:=hk F w1 (by rw[ij,if_neg (by simp[Q]),if_pos ha];exact h1) fF (fun b hb=>hb)
 rw[ij,if_neg (by simp[Q]),if_pos ha] at this;exact this;have av:ij D=({ (jq D).1 with Q3:=D.Q4.foldl gL D.Q3,Q4:=[] },0):=(by rw[ij,if_neg (by simp[Q]),if_neg (by simp[ha])]);rw[av] at hk;obtain⟨U,ai⟩:=Cz D;generalize (jq D).1=D1 at h1 U ai hk;obtain⟨sb,T,C,B,hF,hn,hc,ak,G⟩:=h1;rw[U] at ak;rw[ai] at G;have ab:sb≠db:=fun e=>by rw[e] at hn;simp at hn
 have hB:∀b∈B,b∉[sb]:=fun b hb he=>by simp at he;subst he;simp at hn;exact hn.2.1 hb
 have aJ:=G.len;have aw:=hD.Q4;have ax:=hD.Q3;refine gI (jM hc C rfl ?_);refine jT (fun x w'=>∃i:Nat,x=i/\i<=D.Q4.length/\w'.heap[sb]?=some (.cells (((D.Q4.take i).foldl gL D.Q3).flatMap jC).toArray T (0,0))/\Fr [sb] w1 w') (fun x _=>((D.Q4.length:Int)-x).toNat)
  ⟨0,rfl,oJ,ak,.refl _ _⟩ ?_
 rintro x w2 ⟨i,rfl,E,I,f2⟩ X hX;have ac:w2.heap[db]?=some (.cells (jW D1 sb C) DT (0,0)):=(by rw[f2.block db (fJ hc) (by simpa using fun e=>ab e.symm)];exact hc);apply cD<;>intro J;have O:i<D.Q4.length:=oJ;have ay:dX mC 513 [] w2 C D.Q4:=(G.q8 f2 hB).kF vP oL;have al:=zA O;have aL:=hD.at_ D.Q4[i] (zX O);refine ay.iK vP i rfl al<|dR.tA (oE [] w2) oK (vP _) (Hx _) fun r R er ho=>?_;have az:R.heap[sb]?=some (.cells (((D.Q4.take i).foldl gL D.Q3).flatMap jC).toArray T (0,0)):=(by rw[ho.fr.block sb (fJ I) oL];exact I);have ad:R.heap[db]?=some (.cells (jW D1 sb C) DT (0,0)):=(by rw[ho.fr.block db (fJ ac) oL];exact ac);refine gI (jM (w:=R.drew) ad ⟨pW sb,D1.Q3.length,D1.Q3.length⟩ rfl ?_);have am:=ho.at (i:=0) rfl;refine jM (w:=R.drew) am D.Q4[i].1 rfl<|nH (n:=512) (w:=R.drew) am (jC D.Q4[i].2) (tX _) (by rw[show (mC D.Q4[i]).toArray.toList.drop 1=jC D.Q4[i].2 from rfl,zS (by rw[tX];exact zM _)]) ?_;have u:=Ce (D.Q4.take i) D.Q3;refine qa oJ (by rw[U];omega)<|me (tX _) ?_;have V:0+Int.toNat D.Q4[i].1*512+(jC D.Q4[i].2).length<=(((D.Q4.take i).foldl gL D.Q3).flatMap jC).toArray.size:=by rw[size_toArray,qZ tX,tX,u];omega
 refine tk (w:=R.drew) az (((((D.Q4.take i).foldl gL D.Q3).set D.Q4[i].1.toNat D.Q4[i].2).flatMap jC).toArray) (by rw[xS];exact qtM tX ((D.Q4.take i).foldl gL D.Q3) D.Q4[i].1.toNat D.Q4[i].2 (by rw[u];omega)) (qrQ _) V fun w4 aA f4=>?_;rw[gd _ oJ];refine hX _ _ ⟨i+1,oL,oJ,?_,?_⟩ oJ;rw[yG O,foldl_append];exact aA;have aB:Fr [sb] w2 R.drew:=ho.fr.drew.mono (fun i E _=>by cases E);exact f2.trans (aB.trans f4);have O:i=D.Q4.length:=oJ;subst O;rw[xZ] at I;refine gI ?_;have u:=Ce D.Q4 D.Q3;refine tk ac (jW { D1 with Q3:=D.Q4.foldl gL D.Q3,Q4:=[] } sb dI) (by simp[dT,jW,u,U]) rfl (zO rfl) fun R ad f3=>?_;have aC:Fr F w R:=(fF.trans (f2.mono (fun i E _=>by simp at E;subst E;rw[hF];simp))).trans (f3.mono (fun i E _=>by simp at E;subst E;exact af));refine hk [db,sb] R ⟨sb,T,dI,[],rfl,by simpa using fun e=>ab e.symm,ad,?_,.nil _ _ _⟩ aC (fun b hb=>by rw[hF];simp at hb;rcases hb with rfl|rfl<;>simp);rw[f3.block sb (fJ I) (oP ab)];exact I
def js (n:Int):List (Int×mz)->Option mz
 | []=>none
 | x::r=>match js n r with|some b=>some b|none=>if x.1=n then some x.2 else none
def qqo{n:Int}:∀(l:List (Int×mz)) (i:Nat) (h:i<l.length),js n (l.drop (i+1))=none->l[i].1=n->js n l=some l[i].2
 | x::l,0,h,u,C=>by simp only[xS,drop_succ_cons,xF] at u;simp only[getElem_cons_zero] at C⊢;simp[js,u,C]
 | x::l,i+1,h,u,C=>by
  have:=qqo l i (oP h) (oP u) (oP C)
  simp only[js,this,getElem_cons_succ]
def qvA{n:Int}:∀(l:List (Int×mz)) (i:Nat) (h:i<l.length),js n (l.drop (i+1))=none->l[i].1≠n->js n (l.drop i)=none:=by intro l i h C u;rw[zY h,js,C];simp[u]
def eK (D:dM) (n:Int):List Int×Int:=
 if D.down then ([],7) else if n<0\/n>=D.Q3.length then ([],4) else
 match js n D.Q4 with|some b=>(b.1,0)|none=>((D.Q3.getD n.toNat .zero).1,0)
def qsR{b o n:Nat}{h:Nat}{K:Sl->Prop}(u:0<n)(k:K ⟨some (dc b o),n,n⟩):jl (dc b o) n none none none h K:=by unfold jl;refine⟨oL,?_⟩;simp only[xW,zJ,Int.toNat_zero,Nat.sub_zero,Nat.zero_mul];rw[iN,Fm];exact k
def qrR{S:List Nat}{b o:Nat}{cs:Array Value}{T:TypeId}{h:Nat×Nat}{x:mz}(G:w.heap[b]?=some (.cells cs T h))(I:(cs.toList.drop o).take 512=jC x)(J:b∉S):eF S w ⟨some (dc b o),512,512⟩ x.1:=by
 refine⟨x.2.symm,zM _,.inr ⟨b,o,cs,T,h,rfl,G,J,fun i v u=>?_⟩⟩;have C:=(zP.1 u).1;rw[x.2] at C;rw[xT];have E:(jC x)[i]?=some (.b v):=(by rw[jC,zQ,u];rfl);rw[<- I,xB,if_pos C,xA] at E;apply ext_getElem?;intro j;rw[xB,xA];match j with
 | 0=>simpa using E
 | j+1=>simp
def qtb{s:Sl}{K:Value->WP}(u:∀rb w',(∀S w0 L,dR S w0 w L->dR S w0 w' ((rb,.cells #[s.v] 260 (0,0))::L))->K (.func (.func 226) #[] #[dH rb]) w'): cW 195 [s.v] dv w K:=by exact qk9<|Pt.Fa (u _ _ fun S w0 L h=>h.alloc _)
def qto(l:List mz)(i:Nat)(x:mz)(h:l[i]?=some x):((l.flatMap jC++Z).drop (i*512)).take 512=jC x:=by have C:=(zP.1 h).1;have u:(l.flatMap jC).length=l.length*512:=qZ tX l;rw[drop_append_of_le_length (by rw[u];omega),take_append_of_le_length (by rw[yC,u];omega)];exact Hk tX l i x h
def qwa{db c:Nat}{n:Int}(h:yj w db F D c Z)(hD:D.Ok)(hk:∀s' B w',gF w' s' (eK D n).1 B->Fr [] w w'->(∀b∈B,w.heap.size<=b)->K (s',(eK D n).2) w'): cW 167 [dH db,.i n] dg w K:=by
 refine qlU<|oB (oE [] w) fun r1 w1 e1 f1 G=>oB G fun r3 w2 e2 f2 G=>oB G fun r5 w3 e3 f3 G=>?_;obtain⟨sb,T,aa,B,hF,hn,hc,aw,aj⟩:=h;have ag:∀ {w':World},Fr [] w w'->w'.heap[db]?=some (.cells (tH D sb c aa) DT (0,0)):=fun f=>by rw[f.block db (fJ hc) oL];exact hc
 have ax:∀ {w':World},Fr [] w w'->w'.heap[sb]?=some (.cells (D.Q3.flatMap jC++Z).toArray T (0,0)):=fun f=>by rw[f.block sb (fJ aw) oL];exact aw
 have ay:∀ {e:Int} {w':World} {L'},eK D n=([],e)->dR [] w w' L'->L'[1]?=some (r3,.cells #[.slice none 0 0] 96 (0,0))->L'[0]?=some (r5,.cells #[.i e] 39 (0,0))->ld Cell.slice (dc r3) w' fun s=>ld .i (dc r5) w' fun x=>K (s,x) w':=by
  intro e w' L' he G h1 h0;refine oA G 1 h1 dI rfl<|oA G 0 h0 e rfl ?_
  have:=hk dI [] w' (by rw[he];exact .nil _ _ _) G.fr oL
  rw[he] at this;exact this
 refine gI (jM (ag G.fr) D.down rfl ?_);apply eH<;>intro hd;exact oH G 1 rfl _ rfl rfl rfl fun w4 G _=>oH G 0 rfl _ rfl rfl rfl fun w5 G _=>ay (by rw[eK,if_pos hd]) G rfl rfl;refine iQ (fun b w'=>b=decide (n<0\/n>=D.Q3.length)/\w'=w3.drew) ?_ ?_;refine oA G.drew 2 rfl n rfl<|eH (fun hc=>?_) (fun aO=>?_);exact⟨by rw[yA (Or.inl (zC hc))],rfl⟩;refine oA G.drew 2 rfl n rfl<|gI (jM (ag G.drew.fr) ⟨pW sb,D.Q3.length,c⟩ rfl ⟨?_,rfl⟩)
 have:=zB aO
 by_cases h2:n>=D.Q3.length<;>simp[this,h2];rintro b w4 ⟨rfl,rfl⟩;apply cD<;>intro hr;exact oH G.drew 1 rfl _ rfl rfl rfl fun w4 G _=>oH G 0 rfl _ rfl rfl rfl fun w5 G _=>ay (by rw[eK,if_neg (oP hd),if_pos (hr)]) G rfl rfl;have aQ:=hr;have aR:0<=n:=oJ;have aT:n<D.Q3.length:=oJ;have aU:=hD.Q4;have aV:=hD.Q3;have aW:=aj.len;have aC:eK D n=match js n D.Q4 with|some b=>(b.1,0)|none=>((D.Q3.getD n.toNat .zero).1,0):=by rw[eK,if_neg (oP hd),if_neg aQ]
 refine gI (jM (ag G.drew.fr) aa rfl ?_);refine qtb fun rb w5 aX=>?_;have aY:=aX _ _ _ G.drew;refine dR.kW (lb:=[dH rb]) aY rfl oK fun Dm l R Bz J E E0 w6 el eD bg aG hy=>qiu<|oA aG 2 rfl aa rfl ?_;rw[gd _ oJ];have aH:∀ {bl:mz} {s7:Sl} {Bf:List Nat} {ab wz:World} {ah:List (Nat×Obj)},eK D n=(bl.1,0)->dR [] w ab ah->gF ab s7 bl.1 Bf->(∀b∈Bf,w.heap.size<=b)->(∀b∈Bf,b∉ah.map (·.1))->Fr (ah.map (·.1)) ab wz->K (s7,0) wz:=by
  intro bl s7 Bf ab wz ah he a0 ad O Q fz
  have:=hk s7 Bf wz (by rw[he];exact ad.q8 fz Q) (a0.back fz) O
  rw[he] at this;exact this
 refine jT (fun x w'=>∃i:Nat,x=(i:Int)-1/\i<=D.Q4.length/\js n (D.Q4.drop i)=none/\dR [] w w' [(l,R),(Dm,.deferred (some [])),(rb,.cells #[aa.v] 260 (0,0)),(r5,.cells #[.i 0] 39 (0,0)),(r3,.cells #[.slice none 0 0] 96 (0,0)),(r1,.cells #[.i n] 3 (0,0))]) (fun x _=>(x+1).toNat)
  ⟨D.Q4.length,by rw[aW],zM _,by rw[drop_length];rfl,aG⟩ ?_
 rintro x w7 ⟨i,rfl,hi,ai,ac⟩ X hX;apply cD<;>intro am;have bj:=am;obtain⟨i,rfl⟩:∃k,i=k+1:=⟨i-1,oJ⟩;have an:i<D.Q4.length:=oJ;refine oA ac 2 rfl aa rfl ?_;have a1:dX mC 513 [] w7 aa D.Q4:=(aj.q7 ac.fr).kF vP oL;refine a1.iK vP i oJ (zA an)<|hy ((((i+1:Nat):Int)-1),mC D.Q4[i]) w7 _ (ac.at (i:=0) rfl) ?_;dsimp only;refine dR.tA ac oK (vP _) (Hx _) fun r w8 er I=>⟨I.at (i:=1) rfl,?_⟩;have U:=I.i8 (o':=Bz) 1 rfl;refine oA U 0 rfl D.Q4[i].1 rfl<|oA U 6 rfl n rfl ?_;apply eH<;>intro hm;have ap:D.Q4[i].1=n:=(oP hm);have aq:=qqo D.Q4 i an ai ap;have ae:eK D n=(D.Q4[i].2.1,0):=(by rw[aC,aq]);refine qsR oM ?_;have ar:eF [] (Pt.i8 w8 l Bz) ⟨some (dc r 1),512,512⟩ D.Q4[i].2.1:=
  qrR (x:=D.Q4[i].2) (U.at (i:=0) rfl) (by rw[show (mC D.Q4[i]).toArray.toList.drop 1=jC D.Q4[i].2 from rfl,zS (by rw[tX];exact zM _)]) oL
 refine AX (s:=⟨some (dc r 1),512,512⟩) ar (by rw[D.Q4[i].2.2];decide) fun s7 Bf ab ad au af _ _=>?_;have V:=U.q7 au;have u:=V.lX;have O:∀b∈Bf,w.heap.size<=b:=fun b hb=>by have h1:(Pt.i8 w8 l Bz).heap.size<=b:=af b hb;have:=U.fr.size;omega
 have Q:∀b∈Bf,b∉[r,l,Dm,rb,r5,r3,r1]:=fun b hb hm=>by
  have h1:(Pt.i8 w8 l Bz).heap.size<=b:=af b hb;have h2:∀p∈[r,l,Dm,rb,r5,r3,r1],p<(Pt.i8 w8 l Bz).heap.size:=fun p hp=>by have C:=fun (k:Nat) (q:Nat×Obj) (hq:_[k]?=some q)=>fJ (U.at (i:=k) hq);simp only[zG,xX,or_false] at hp;rcases hp with rfl|rfl|rfl|rfl|rfl|rfl|rfl;exact C 0 _ rfl;exact C 1 _ rfl;exact C 2 _ rfl;exact C 3 _ rfl;exact C 4 _ rfl;exact C 5 _ rfl;exact C 6 _ rfl
  have:=h2 b hm
  omega
 refine oH u 5 rfl _ rfl rfl rfl fun a3 u _=>oH u 4 rfl _ rfl rfl rfl fun a4 u _=>⟨u.at (i:=1) rfl,?_⟩;have u:=u.i8 (o':=J 0) 1 rfl;refine cond_true rfl<|.inr ⟨0,_,rfl,u.at (i:=1) rfl,?_⟩;have u:=u.i8 (o':=E 0) 1 rfl;exact dR.eU u 2 rfl fun a5 u=>oA u 5 rfl s7 rfl<|oA u 4 rfl 0 rfl<|aH ae V ad O Q u.fr;have ap:D.Q4[i].1≠n:=(oP hm);refine⟨U.at (i:=1) rfl,?_⟩;have a6:=U.i8 (o':=R) 1 rfl;refine cond_false rfl ?_;rw[gd _ oJ];refine hX _ _ ⟨i,oJ,oJ,qvA D.Q4 i an ai ap,a6.sub (sublist_cons_self _ _)⟩ oJ;have C:=am;obtain rfl:i=0:=by omega
 rw[xF] at ai;refine .inl ⟨ac.at (i:=0) rfl,?_⟩;have I:=(ac.i8 (o':=E0) 0 rfl).drew;have ae:eK D n=((D.Q3.getD n.toNat .zero).1,0):=(by rw[aC,ai]);have aJ:n.toNat<D.Q3.length:=oJ;have a7:D.Q3[n.toNat]?=some (D.Q3.getD n.toNat .zero):=(by rw[yR,zA aJ];rfl);refine gI (jM (ag I.fr) ⟨pW sb,D.Q3.length,c⟩ rfl ?_);refine oA I 5 rfl n rfl<|qa aR aT<|qsR oM ?_;have ar:eF [] (Pt.i8 w7 l E0).drew ⟨some ⟨sb,0+n.toNat*512,none⟩,512,512⟩ (D.Q3.getD n.toNat .zero).1:=
  qrR (ax I.fr) (by rw[xS];exact qto D.Q3 n.toNat _ a7) oL
 refine AX (s:=⟨some ⟨sb,0+n.toNat*512,none⟩,512,512⟩) ar (by rw[(D.Q3.getD n.toNat .zero).2];decide) fun s7 Bf ab ad au af _ _=>?_;have V:=I.q7 au;have u:=V.lX;have O:∀b∈Bf,w.heap.size<=b:=fun b hb=>by have h1:(Pt.i8 w7 l E0).drew.heap.size<=b:=af b hb;have:=I.fr.size;omega
 have Q:∀b∈Bf,b∉[l,Dm,rb,r5,r3,r1]:=fun b hb hm=>by
  have h1:(Pt.i8 w7 l E0).drew.heap.size<=b:=af b hb;have h2:∀p∈[l,Dm,rb,r5,r3,r1],p<(Pt.i8 w7 l E0).drew.heap.size:=fun p hp=>by have C:=fun (k:Nat) (q:Nat×Obj) (hq:_[k]?=some q)=>fJ (I.at (i:=k) hq);simp only[zG,xX,or_false] at hp;rcases hp with rfl|rfl|rfl|rfl|rfl|rfl;exact C 0 _ rfl;exact C 1 _ rfl;exact C 2 _ rfl;exact C 3 _ rfl;exact C 4 _ rfl;exact C 5 _ rfl
  have:=h2 b hm
  omega
 exact oH u 4 rfl _ rfl rfl rfl fun a3 u _=>oH u 3 rfl _ rfl rfl rfl fun a4 u _=>dR.eU u 1 rfl fun a5 u=>oA u 4 rfl s7 rfl<|oA u 3 rfl 0 rfl<|aH ae V ad O Q u.fr
def EA{db:Nat}{n:Int}(h:fu w db F D)(C:D.Ok)(E:∀u B w',gF w' u (eK D n).1 B->Fr [] w w'->(∀b∈B,w.heap.size<=b)->K (u,(eK D n).2) w'): cW 167 [dH db,.i n] dg w K:=qwa h.z C E
end
section
open Go Go.Pt List
open Go.IntKind (wrap)
open Classical
variable {k v:Nat}
def bw:Nat->Int->List Int
 | 0,_=>[]
 | k+1,n=>bw k (n / 256)++[n%256]
def lF:∀(k:Nat) (n:Int),(bw k n).length=k
 | 0,_=>rfl
 | k+1,n=>by rw[bw,zF,lF k];rfl
def qE:∀(k:Nat) (n:Int),eS (bw k n)
 | 0,_=>fun _ h=>nomatch h
 | k+1,n=>fun x u=>(zD.1 u).elim (qE k _ x) fun h=>by rw[zE.1 h];omega
def FM(l:List Int)(x:Int):kC (l++[x])=kC l*256+x:=by unfold kC;rw[foldl_append];rfl
def uH:∀(k:Nat) {n:Int},0<=n->n<256^k->kC (bw k n)=n
 | 0,n,u,h=>by have:n<1:=h;show (0:Int)=n;omega
 | k+1,n,u,h=>by rw[Int.pow_succ] at h;rw[bw,FM,uH k oJ oJ];omega
def Eb{a b:Int}(u:0<=a/\a<256^k)(C:0<=b/\b<256^k)(h:bw k a=bw k b):a=b:=by rw[<- uH k u.1 u.2,h,uH k C.1 C.2]
def qn6(l:List Int):∀(r:Int),l.foldl (fun r x=>r*256+x) r=r*256^l.length+kC l:=by
 unfold kC;induction l with
 | nil=>intro r;simp
 | cons x l ih=>
  intro r;rw[foldl_cons,foldl_cons,ih,ih (0*256+x),yI,Int.pow_succ];have:(r*256+x)*256^l.length=r*(256^l.length*256)+x*256^l.length:=(by rw[Int.add_mul,Int.mul_assoc,Int.mul_comm 256]);rw[this];simp;omega
def AL(x:Int)(l:List Int):kC (x::l)=x*256^l.length+kC l:=by
 have:=qn6 l (0*256+x)
 rw[show (0*256+x)=x by omega] at this;unfold kC;rw[foldl_cons,show (0*256+x:Int)=x by omega,this];rfl
def wP:∀ {l:List Int},eS l->0<=kC l/\kC l<256^l.length
 | [],_=>⟨oM,oM⟩
 | x::l,h=>by have ih:=wP fun y u=>h y (zN x u);have C:=h x oL;rw[AL,yI,Int.pow_succ];generalize (256:Int)^l.length=c at ih;have E:x*c<=255*c:=Int.mul_le_mul_of_nonneg_right oJ oJ;have G:0<=x*c:=Int.mul_nonneg oJ oJ;omega
def qt9:∀ {a b:List Int},eS a->eS b->a.length=b.length->(cmpL a b<0↔kC a<kC b)
 | [],[],_,_,_=>by show (0:Int)<0↔_;exact .rfl
 | [],_::_,_,_,h=>by simp at h
 | _::_,[],_,_,h=>by simp at h
 | x::a,y::b,E,G,h=>by have C:a.length=b.length:=(oP h);have ih:=qt9 (fun z u=>E z (zN _ u)) (fun z u=>G z (zN _ u)) C;have I:=wP fun z u=>E z (zN _ u);have pb:=wP fun z u=>G z (zN _ u);rw[AL,AL,C];rw[C] at I;generalize (256:Int)^b.length=c at I pb;unfold cmpL;by_cases h1:x<y;rw[if_pos h1];have:(x+1)*c<=y*c:=Int.mul_le_mul_of_nonneg_right oJ oJ;rw[Int.add_mul,Int.one_mul] at this;exact⟨fun _=>oJ,fun _=>oM⟩;rw[if_neg h1];by_cases h2:y<x;rw[if_pos h2];have:(y+1)*c<=x*c:=Int.mul_le_mul_of_nonneg_right oJ oJ;rw[Int.add_mul,Int.one_mul] at this;exact⟨fun h=>absurd h oM,fun h=>oJ⟩;rw[if_neg h2,ih];have:x=y:=oJ;subst this;omega
def qt8:∀ {a b c d:List Int},a.length=b.length->cmpL (a++c) (b++d)=if a=b then cmpL c d else cmpL a b
 | [],[],_,_,_=>by rw[if_pos rfl];rfl
 | [],_::_,_,_,h=>by simp at h
 | _::_,[],_,_,h=>by simp at h
 | x::a,y::b,c,d,h=>by have ih:=qt8 (a:=a) (b:=b) (c:=c) (d:=d) (oP h);rw[show cmpL (x::a++c) (y::b++d)=if x<y then -1 else if y<x then 1 else cmpL (a++c) (b++d) from rfl,show cmpL (x::a) (y::b)=if x<y then -1 else if y<x then 1 else cmpL a b from rfl];by_cases h1:x<y;rw[if_pos h1,if_pos h1,if_neg (fun e=>by have:=(vC e).1;omega)];rw[if_neg h1,if_neg h1];by_cases h2:y<x;rw[if_pos h2,if_pos h2,if_neg (fun e=>by have:=(vC e).1;omega)];have:x=y:=oJ;subst this;rw[if_neg h2,if_neg h2,ih];by_cases e:a=b;rw[if_pos e,if_pos (by rw[e])];rw[if_neg e,if_neg (fun h=>e (vC h).2)]
def uA(n:Int)(h:0<=n/\n<65536):wrap .u16 n=n:=by unfold wrap;have:(IntKind.u16.signed)=false:=rfl;simp only[this,Bool.false_and,Bool.false_eq_true,if_false];exact Int.emod_eq_of_lt h.1 h.2
abbrev gp:=Int×Int
def my (a:gp):Prop:=mu a.1/\mu a.2
def iA (a:gp):List Int:=bw 8 a.1++bw 8 a.2
def lW(a:gp):(iA a).length=16:=by rw[iA,zF,lF,lF]
def oQ(a:gp):eS (iA a):=fun x h=>(zD.1 h).elim (qE _ _ x) (qE _ _ x)
def p8:(256:Int)^8=18446744073709551616:=by decide
def FL{a b:gp}(u:my a)(C:my b)(h:iA a=iA b):a=b:=by obtain⟨E,G⟩:=append_inj h (by rw[lF,lF]);exact Prod.ext (Eb (by rw[p8];exact u.1) (by rw[p8];exact C.1) E) (Eb (by rw[p8];exact u.2) (by rw[p8];exact C.2) G)
def lG (a:gp) (n:Int):List Int:=iA a++bw 8 n
def lr (n m:Int):List Int:=bw 8 n++bw 8 m
def HB(a:gp)(n:Int):(lG a n).length=24:=by rw[lG,zF,lW,lF]
def Az(n m:Int):(lr n m).length=16:=by rw[lr,zF,lF,lF]
def GI(a:gp)(n:Int):eS (lG a n):=fun x h=>(zD.1 h).elim (oQ _ x) (qE _ _ x)
def qs5(n m:Int):eS (lr n m):=oQ (n,m)
def qxk{a b:gp}{n m:Int}(u:my a)(C:my b)(E:mu n)(G:mu m)(h:lG a n=lG b m):a=b/\n=m:=by obtain⟨I,J⟩:=append_inj h (by rw[lW,lW]);exact⟨FL u C I,Eb (by rw[p8];exact E) (by rw[p8];exact G) J⟩
def qwr{n m:Int}(h:mu n)(u:mu m):cmpL (bw 8 n) (bw 8 m)<0↔n<m:=by rw[qt9 (qE _ _) (qE _ _) (by rw[lF,lF]),uH 8 h.1 (by rw[p8];exact h.2),uH 8 u.1 (by rw[p8];exact u.2)]
def qyl{a b:Int}(h:eS [a,b]):be (iK [a,b]) 2=[a,b]/\iK [a,b]=a*256+b:=by
 have u:=h a oL;have C:=h b oL;have e:iK [a,b]=a*256+b:=by rw[EQ h (zO rfl)];show ((0*256+a)*256+b)=_;omega
 refine⟨?_,e⟩;rw[e,be2 oJ];congr 1;omega;congr 1;omega
structure dN where
 Q1:Bool
 J3:List Key
 J7:List Key
 J6:List Int
variable {n:dN}
def iY:dN:=⟨false,[],[],[]⟩
def dY (k v:Nat):Nat×Nat:=if k<1\/k>24\/v>108 then (0,0) else (498 / (k+v),(498+k) / (4+k))
def fZ (n:dN) (k v:Nat):Prop:=
 (∀a∈n.J3,a.length=k)/\(∀a∈n.J7,a.length=v)/\gg n.J3/\
 if n.Q1 then n.J6=[]/\1<=n.J3.length/\n.J3.length<=(dY k v).1/\n.J7.length=n.J3.length
 else (∀x∈n.J6,2<=x)/\n.J7=[]/\2<=n.J6.length/\n.J6.length<=(dY k v).2/\n.J3.length+1=n.J6.length
def k9 (J3 J7:List Key):List Int:=(J3.zip J7).flatMap fun x=>x.1++x.2
def gO (n:dN):List Int:=if n.Q1 then be n.J3.length 2++k9 n.J3 n.J7 else be n.J6.length 2++n.J6.flatMap (fun x=>be x 4)++n.J3.flatten
def jh (n:dN):Int:=if n.Q1 then 3 else 4
noncomputable def eX (n:dN) (k v:Nat):Int×List Int×Int:=if fZ n k v then (jh n,gO n,0) else (0,[],1)
def jm (k v:Nat):Nat->List Int->List Key×List Key
 | 0,_=>([],[])
 | c+1,b=>(b.take k::(jm k v c (b.drop (k+v))).1,(b.drop k).take v::(jm k v c (b.drop (k+v))).2)
def y7:Nat->List Int->List Int
 | 0,_=>[]
 | c+1,b=>iK (b.take 4)::y7 c (b.drop 4)
def lI (k:Nat):Nat->List Int->List Key
 | 0,_=>[]
 | c+1,b=>b.take k::lI k c (b.drop k)
def fY (b:List Int):Nat:=(b.getD 0 0*256+b.getD 1 0).toNat
def nh (k v:Nat) (b:List Int):dN:=⟨true,(jm k v (fY b) (b.drop 2)).1,(jm k v (fY b) (b.drop 2)).2,[]⟩
def lL (k:Nat) (b:List Int):dN:=⟨false,lI k (fY b-1) ((b.drop 2).drop (fY b*4)),[],y7 (fY b) (b.drop 2)⟩
noncomputable def i7 (kind:Int) (b:List Int) (k v:Nat):dN×Int:=
 if (dY k v).1=0\/b.length<2\/b.length>500 then (iY,2)
 else if kind=3/\(b.drop 2).length=fY b*(k+v)/\fZ (nh k v b) k v then (nh k v b,0)
 else if kind=4/\1<=fY b/\(b.drop 2).length=fY b*4+(fY b-1)*k/\fZ (lL k b) k v then (lL k b,0)
 else (iY,2)
def qsH{kind:Int}{b:List Int}(h:(i7 kind b k v).2=0):fZ (i7 kind b k v).1 k v:=by unfold i7 at h⊢;split at h;cases h;rename_i E;rw[if_neg E];split at h;rename_i u;rw[if_pos u];exact u.2.2;rename_i u;rw[if_neg u];split at h;rename_i C;rw[if_pos C];exact C.2.2.2;cases h
def HQ{k v:Nat}:∀ {J3 J7:List Key},(∀a∈J3,a.length=k)->(∀a∈J7,a.length=v)->J3.length=J7.length->(k9 J3 J7).length=J3.length*(k+v)
 | [],[],_,_,_=>by simp[k9]
 | a::r,b::s,C,E,G=>by
  have:=HQ (J3:=r) (J7:=s) (fun x u=>C x (zN _ u)) (fun x u=>E x (zN _ u)) (oP G)
  unfold k9 at this⊢;rw[zip_cons_cons,yH,zF,zF,C a oL,E b oL,this,yI,xU];omega
 | [],_::_,_,_,h=>by simp at h
 | _::_,[],_,_,h=>by simp at h
def quu{k v:Nat}:∀ {J3 J7:List Key},(∀a∈J3,a.length=k)->(∀a∈J7,a.length=v)->J3.length=J7.length->jm k v J3.length (k9 J3 J7)=(J3,J7)
 | [],[],_,_,_=>rfl
 | a::r,b::s,C,E,O=>by have ih:=quu (k:=k) (v:=v) (J3:=r) (J7:=s) (fun x u=>C x (zN _ u)) (fun x u=>E x (zN _ u)) (oP O);have G:=C a oL;have I:=E b oL;have e:k9 (a::r) (b::s)=a++(b++k9 r s):=(by unfold k9;rw[zip_cons_cons,yH,zV]);rw[yI,jm,e];have e1:(a++(b++k9 r s)).take k=a:=(by rw[<- G,take_left'];rfl);have J:(a++(b++k9 r s)).drop k=b++k9 r s:=(by rw[<- G,drop_left'];rfl);have Q:(a++(b++k9 r s)).drop (k+v)=k9 r s:=(by rw[<- xD,J,<- I,drop_left'];rfl);have R:(b++k9 r s).take v=b:=(by rw[<- I,take_left'];rfl);rw[Q,ih,e1,J,R]
 | [],_::_,_,_,h=>by simp at h
 | _::_,[],_,_,h=>by simp at h
def qur{r:List Int}:∀ {l:List Int},(∀x∈l,0<=x/\x<4294967296)->y7 l.length (l.flatMap (fun x=>be x 4)++r)=l
 | [],_=>rfl
 | a::l,h=>by have ih:=qur (r:=r) (l:=l) fun x C=>h x (zN _ C);have u:=kZ a 4;rw[yI,y7,yH,zV];generalize l.flatMap (fun x=>be x 4)++r=R at ih⊢;have e1:(be a 4++R).take 4=be a 4:=take_left' u;have E:(be a 4++R).drop 4=R:=drop_left' u;rw[e1,E,ih,Ga (h a oL)]
def quq{k:Nat}:∀ {l:List Key},(∀a∈l,a.length=k)->lI k l.length l.flatten=l
 | [],_=>rfl
 | a::l,h=>by have ih:=quq (k:=k) (l:=l) fun x C=>h x (zN _ C);have u:=h a oL;rw[yI,lI,flatten_cons];have e1:(a++l.flatten).take k=a:=(by rw[<- u];exact take_left);have E:(a++l.flatten).drop k=l.flatten:=(by rw[<- u];exact drop_left);rw[e1,E,ih]
def Ia(l:List Int):(l.flatMap fun x=>be x 4).length=l.length*4:=by
 induction l with
 | nil=>rfl
 | cons a l ih=>rw[yH,zF,ih,kZ,yI];omega
def Gr{k:Nat}:∀ {l:List Key},(∀a∈l,a.length=k)->l.flatten.length=l.length*k
 | [],_=>by simp
 | a::l,h=>by rw[flatten_cons,zF,Gr fun x u=>h x (zN _ u),h a oL,yI,xU];omega
def qpY{n:Nat}(h:n<65536)(r:List Int):fY (be (n:Int) 2++r)=n:=by
 have E:=kZ (n:Int) 2;obtain⟨a,b,e⟩:∃a b,be (n:Int) 2=[a,b]:=by
  match be (n:Int) 2,E with
  | [a,b],_=>exact⟨a,b,rfl⟩
 have u:=tV (n:Int) 2;have C:=qr7 (n:=(n:Int)) ⟨oJ,oJ⟩;rw[e] at u C
 have:=(qyl u).2
 rw[C] at this;unfold fY;rw[e];show (a*256+b).toNat=n;omega
def qub{n:Int}{r:List Int}:(be n 2++r).drop 2=r:=by
 have:=drop_left (l₁:=be n 2) (l₂:=r)
 rw[kZ] at this;exact this
def qmn(a b:Nat):a / b*b<=a:=Nat.div_mul_le_self a b
def qwq{c:Nat}(h:c<=(dY k v).1):c*(k+v)<=498:=by unfold dY at h;split at h;rw[show c=0 from Nat.le_zero.1 h];omega;exact zL (Nat.mul_le_mul_right _ h) (qmn _ _)
def qvj{c:Nat}(h:c<=(dY k v).2):c*4+(c-1)*k<=498:=by
 unfold dY at h;split at h;rw[show c=0 from Nat.le_zero.1 h];omega;have u:c*(4+k)<=498+k:=zL (Nat.mul_le_mul_right _ h) (qmn _ _);cases c with
 | zero=>omega
 | succ c=>
  rw[Nat.add_sub_cancel];rw[xU,Nat.mul_add] at u;rw[xU];omega
def Ch:(dY k v).1<=498/\(dY k v).2<=498:=by unfold dY;split;exact⟨oM,oM⟩;exact⟨Nat.div_le_self _ _,Nat.div_le_of_le_mul (by have:(498+k)<=(4+k)*498:=(by rw[xU];omega);exact this)⟩
def DN(h:fZ n k v):2<=(gO n).length/\(gO n).length<=500:=by
 obtain⟨C,G,I,u⟩:=h;unfold gO;cases E:n.Q1 with
 | true=>
  rw[E,if_pos rfl] at u;rw[if_pos rfl,zF,kZ,HQ C G u.2.2.2.symm]
  have:=qwq u.2.2.1
  omega
 | false=>
  rw[E,if_neg oM] at u;rw[if_neg oM,zF,zF,kZ,Ia,Gr C]
  have:=qvj u.2.2.2.1
  have e:n.J3.length=n.J6.length-1:=oJ;rw[e];omega
def qsp:(⟨n.Q1,n.J3,n.J7,n.J6⟩:dN)=n:=rfl
def qvS(h:fZ n k v)(hk:∀x∈n.J6,x<4294967296):i7 (jh n) (gO n) k v=(n,0):=by
 have R:=DN h;have U:=h;obtain⟨O,V,h3,G⟩:=h;have ad:=(Ch (k:=k) (v:=v));unfold i7;cases E:n.Q1 with
 | true=>
  rw[E,if_pos rfl] at G;have u:fY (gO n)=n.J3.length:=(by unfold gO;rw[E,if_pos rfl];exact qpY oJ _);have C:(gO n).drop 2=k9 n.J3 n.J7:=(by unfold gO;rw[E,if_pos rfl];exact qub);have I:nh k v (gO n)=n:=by unfold nh;rw[u,C,quu O V G.2.2.2.symm];rw[<- qsp (n:=n),E,G.1]
  rw[iN,if_pos ⟨by unfold jh;rw[E];rfl,by rw[u,C,HQ O V G.2.2.2.symm],by rw[I];exact U⟩,I]
 | false=>
  rw[E,if_neg oM] at G;have hb:gO n=be n.J6.length 2++(n.J6.flatMap (fun x=>be x 4)++n.J3.flatten):=(by unfold gO;rw[E,if_neg oM,zV]);have u:fY (gO n)=n.J6.length:=(by rw[hb];exact qpY oJ _);have C:(gO n).drop 2=n.J6.flatMap (fun x=>be x 4)++n.J3.flatten:=(by rw[hb];exact qub);have J:n.J3.length=n.J6.length-1:=oJ;have I:lL k (gO n)=n:=by unfold lL;have e:(n.J6.flatMap (fun x=>be x 4)++n.J3.flatten).drop (n.J6.length*4)=n.J3.flatten:=(by rw[<- Ia];exact drop_left);rw[u,C,qur fun x hx=>⟨by have:=G.1 x hx;omega,hk x hx⟩,e,<- J,quq O];rw[<- qsp (n:=n),E,G.2.1]
  have ae:1<=(dY k v).1:=(by have Q:=G.2.2.2.1;have h6:=G.2.2.1;unfold dY at Q⊢;by_cases hc:k<1\/k>24\/v>108;rw[if_pos hc] at Q;have h8:n.J6.length<=0:=Q;omega;rw[if_neg hc];have h7:k+v<=498:=oJ;exact (Nat.le_div_iff_mul_le (show 0<k+v by omega)).2 (by rw[Nat.one_mul];exact h7));rw[iN,if_neg (fun h=>by unfold jh at h;rw[E] at h;exact absurd h.1 oM),if_pos ⟨by unfold jh;rw[E];rfl,by rw[u];omega,by rw[u,C,zF,Ia,Gr O,J],by rw[I];exact U⟩,I]
def eS.flat{l:List Key}(h:∀a∈l,eS a):eS l.flatten:=fun x u=>by obtain⟨a,C,u⟩:=mem_flatten.1 u;exact h a C x u
def qpW(u:∀a∈n.J3,eS a)(E:∀a∈n.J7,eS a):eS (gO n):=by unfold gO;split;refine (tV _ _).append fun x h=>?_;obtain⟨y,G,h⟩:=yK.1 h;have C:=of_mem_zip (a:=y.1) (b:=y.2) G;rcases zD.1 h with h|h;exact u _ C.1 x h;exact E _ C.2 x h;refine ((tV _ _).append fun x h=>?_).append (eS.flat u);obtain⟨y,_,h⟩:=yK.1 h;exact tV _ _ x h
end
section
open Go.ChangeShapes Go.WideShapes Go.ChangeAt Go.RowKit Go.Pt
def qBs:ownKnob prog.godebug=none:=by kernel_rfl
def qw7:laidOutB prog=true:=by kernel_rfl
abbrev ss:List (String×DataW Unit):=[("cashbook/crc.halves",Rows.laid_cashbook_crc_halves)]
def quj:prog.globalNamed "cashbook/crc.halves"=some HG:=by kernel_rfl
def qz1:(prog.globals[HG]?).map (·.type)=some 376:=by kernel_rfl
def qz2:prog.underlying 376=some (.array 16 44):=by kernel_rfl
def qyH:prog.underlying 44=some (.int .u32):=by kernel_rfl
set_option maxRecDepth 100000 in
def qyx(h:Os)(args:Array Value):laidMetH prog ss ((World.doorLaid prog 4000 h).forCall (fun _ _=>0) ⟨#[],args,[]⟩).memory:=
 laidMetH_of_parts3 (fuel:=8) (laidMet_of_run' 8 oK oK) oK oK
def qvt{W:World}(h:laidMetH prog ss W):Hv W:=by
 rw[MakeChecks.laidMetH_plain _ _ _ oK] at h;obtain⟨ps,⟨g0,t0,cs0,f0,p0,q0,hg0,ht0,hv0,hd0,_,_⟩,_,_⟩:=h;obtain rfl:=yO (quj.symm.trans hg0);obtain rfl:=yO (qz1.symm.trans ht0);obtain⟨xs,m1,rfl,hx1,hlen,hn3,hel⟩:=DataW.trod_array qz2 hd0;simp only[Prod.mk.injEq] at hx1;have hx:=hx1.1;unfold Rows.laid_cashbook_crc_halves at hx;rw[DataW.agg.injEq] at hx;have c31:prog.cellsOf 44=1:=oK;have hcl:prog.cellsOf 376=16:=oK;have hb:∃T fr,W.heap[HG]?=some (.cells cs0 T fr):=by unfold World.var? at hv0;rw[quj,Option.bind_some] at hv0;split at hv0;rename_i cs T fr hb;cases hv0;exact⟨T,fr,hb⟩;cases hv0
 obtain⟨T,fr,hb⟩:=hb;have key:∀(i:Nat) (n:Int),(xs.map (·.1))[i]?=some (DataW.lit (.int .u32 n))->cs0.toList[i]?=some (.int .u32 n):=by
  intro i n hi;rw[zQ] at hi;obtain⟨y,hy,hyn⟩:=yT.1 hi;have hil:i<xs.length:=(zP.1 hy).1;have h1:=hel i oJ;rw[c31] at h1;rw[hy] at h1;obtain⟨k,e1,e2,_⟩:=DataW.trod_int qyH h1;rw[e2] at hyn;have hk:k=n:=(oP hyn);subst hk
  have:=congrArg (·[0]?) e1
  simpa using this
 refine⟨T,fr,?_⟩;rw[hb];refine congrArg (fun c=>some (Obj.cells c T fr)) ?_;apply Array.ext';apply List.ext_getElem?;intro i;have hsz:cs0.toList.length=16:=hlen.trans hcl;have hx':xs.map (·.1)=lw.map (fun n=>DataW.lit (.int .u32 n)):=hx.symm;by_cases hi:i<lw.length;have h1:=key i lw[i] (by rw[hx',zQ,zA hi];rfl);rw[h1];show _=(lw.map (Value.int .u32))[i]?;rw[zQ,zA hi];rfl;have h16:lw.length=16:=rfl;rw[yS oJ];exact (yS (by rw[zK];omega)).symm
def qzv{x:Int}(h:IntKind.u8.has x):0<=x/\x<256:=by have u:(0:Int)<=x/\x<=255:=h;omega
def vi{x:Int}(h:IntKind.u16.has x):0<=x/\x<65536:=by have u:(0:Int)<=x/\x<=65535:=h;omega
def yp{x:Int}(h:IntKind.u32.has x):0<=x/\x<4294967296:=by have u:(0:Int)<=x/\x<=4294967295:=h;omega
end
section
open Go Go.Pt List
open Go.IntKind (wrap)
variable {a:gp}
def qzL(x i:Nat):x&&& 2^i=if x / 2^i%2=1 then 2^i else 0:=by apply Nat.eq_of_testBit_eq;intro j;rw[Nat.testBit_and,Nat.testBit_two_pow];by_cases h:x / 2^i%2=1;rw[if_pos h,Nat.testBit_two_pow];by_cases e:i=j;subst e;simp[Nat.testBit_eq_decide_div_mod_eq,h];simp[e];rw[if_neg h,Nat.zero_testBit];by_cases e:i=j;subst e;simp[Nat.testBit_eq_decide_div_mod_eq,h];simp[e]
def hasB (x k:Int):Bool:=decide (x / k%2=1)
def mJ (x k:Int):Int:=if hasB x k then x-k else x
def C8(n:Nat)(h:n<65536):(BitVec.ofInt 16 (n:Int)).toNat=n:=by rw[BitVec.ofInt_natCast,BitVec.toNat_ofNat];exact Nat.mod_eq_of_lt h
def Dx{x:Int}(i:Nat)(C:0<=x/\x<65536)(hi:i<16):bits .and .u16 x ((2^i:Nat):Int)=if hasB x ((2^i:Nat):Int) then ((2^i:Nat):Int) else 0:=by
 obtain⟨n,rfl⟩:∃n:Nat,x=n:=⟨x.toNat,oJ⟩;have u:2^i<65536:=Nat.pow_lt_pow_right oM hi;show wrap .u16 ((BitVec.ofInt 16 (n:Int)&&& BitVec.ofInt 16 ((2^i:Nat):Int)).toNat:Nat)=_;rw[BitVec.toNat_and,C8 n oJ,C8 _ u,qzL];have e:hasB (n:Int) ((2^i:Nat):Int)=decide (n / 2^i%2=1):=by unfold hasB;rw[decide_eq_decide,<- Int.natCast_ediv];omega
 rw[e];by_cases h:n / 2^i%2=1;rw[if_pos h,if_pos (yA h),uA _ ⟨Int.natCast_nonneg _,Int.ofNat_lt.2 u⟩];rw[if_neg h,if_neg (oP h),uA _ oJ];rfl
def qt0{x:Int}(i:Nat)(I:0<=x/\x<65536)(hi:i<16):bits .andNot .u16 x ((2^i:Nat):Int)=mJ x ((2^i:Nat):Int):=by
 have C:=Dx i I hi;obtain⟨n,rfl⟩:∃n:Nat,x=n:=⟨x.toNat,oJ⟩;have Q:2^i<65536:=Nat.pow_lt_pow_right oM hi;have J:n<65536:=oJ;have e1:bits .andNot .u16 (n:Int) ((2^i:Nat):Int)=wrap .u16 ((BitVec.ofInt 16 (n:Int)&&& ~~~ BitVec.ofInt 16 ((2^i:Nat):Int)).toNat:Nat):=rfl;have E:bits .and .u16 (n:Int) ((2^i:Nat):Int)=wrap .u16 ((BitVec.ofInt 16 (n:Int)&&& BitVec.ofInt 16 ((2^i:Nat):Int)).toNat:Nat):=rfl;have u:=C8 n J;generalize BitVec.ofInt 16 (n:Int)=X at e1 E u;generalize BitVec.ofInt 16 ((2^i:Nat):Int)=Y at e1 E;have O:(X&&& ~~~ Y)+(X&&& Y)=X:=by rw[BitVec.add_eq_or_of_and_eq_zero _ _ (by ext k hk;simp;cases X[k]<;>cases Y[k]<;>simp)];ext k hk;simp;cases X[k]<;>cases Y[k]<;>rfl
 have R:(X&&& ~~~ Y).toNat<=n:=(by rw[BitVec.toNat_and,<- u];exact Nat.and_le_left);have U:(X&&& Y).toNat<=n:=(by rw[BitVec.toNat_and,<- u];exact Nat.and_le_left);have G:=congrArg BitVec.toNat O;rw[BitVec.toNat_add,u] at G;rw[e1,uA _ oJ];rw[E,uA _ oJ] at C;unfold mJ;have:(2:Nat)^16=65536:=rfl;split
 ·next h=>rw[if_pos h] at C;omega
 ·next h=>rw[if_neg h] at C;omega
def wv (a:gp):Int:=a.1*18446744073709551616+a.2
def rV (n:Int):gp:=(n / 18446744073709551616,n%18446744073709551616)
def lN (a b:gp):Option gp:=if wv a+wv b<18446744073709551616*18446744073709551616 then some (rV (wv a+wv b)) else none
def pO (a b:gp):Option gp:=if wv b<=wv a then some (rV (wv a-wv b)) else none
def qxY(h:my a):rV (wv a)=a:=by obtain⟨x,y⟩:=a;have u:=h.2;unfold rV wv;dsimp only at u⊢;exact Prod.ext oN oN
def qx0{n:Int}(h:0<=n/\n<18446744073709551616*18446744073709551616):wv (rV n)=n/\my (rV n):=by unfold wv rV my mu;dsimp only;omega
def uF(h:my a):0<=wv a/\wv a<18446744073709551616*18446744073709551616:=by have u:=h.1;have C:=h.2;unfold wv;omega
def qxZ{b:gp}(u:my a)(C:my b)(h:wv a=wv b):a=b:=by rw[<- qxY u,h,qxY C]
def Dw{b c:gp}(u:my a)(C:my b)(h:lN a b=some c):wv c=wv a+wv b/\my c:=by unfold lN at h;split at h;cases h;have E:=uF u;have G:=uF C;exact qx0 ⟨oJ,by assumption⟩;cases h
def DB{b c:gp}(u:my a)(C:my b)(h:pO a b=some c):wv c=wv a-wv b/\my c:=by unfold pO at h;split at h;cases h;have E:=uF u;have G:=uF C;exact qx0 ⟨oJ,oJ⟩;cases h
end
section
open Go Go.Pt Go.Sort List
section
variable {w:World} {X:List Nat} {pb:Nat} {db:Option Addr} {F:List Nat} {M:eQ}
end
end
section
open Go Go.Pt List
open Go.IntKind (wrap)
variable {D:dM} {F1 FD S X:List Nat} {J9 body l l' numbers y5:List Int} {K:Int->WP} {M:eQ} {Q0:Bool} {Q9 n:Int} {a r:dM×Int} {db:Option Addr} {dbk k:Nat} {f:dM->dM×Int} {j7 s:p6} {m:Option Nat} {offs:Array (Nat×Nat)} {parts:List (Nat×Value)} {sl sn:Sl} {w w1:World} {wk:List Value}
def uu{A X Y Z:List Value}(h:X.length=Y.length):dT (A++X++Z).toArray A.length Y=(A++Y++Z).toArray:=by apply Array.ext';rw[qY _ _ _ (by rw[size_toArray];simp only[zF];omega)];exact Gv A X Y Z h
def vt{cells:Array Value}{i o s:Nat}{v:Value}{u:List (Nat×Value)}(h:offs[i]?=some (o,s))(C:v.cells.size=s)(G:o+s<=cells.size): Instr.fill (offs[·]?) cells ((i,v)::u)=Instr.fill (offs[·]?) (dT cells o v.cells.toList) u:=by have E:=EX o v.cells cells;simp only[Instr.fill,h];rw[if_neg (by simp[C];omega),E]
def HX{P:Program}{t:TypeId}{z:Value}{cs:Array Value}(u:(P.info? t).bind (·.zero)=some z)(C:P.underlying t=some (.struct (fieldsOf P t)))(h:∀w,((fieldsOf P t).mapM fun f=>do pure (f.offset,<- sizeOf f.type):Sem (Array (Nat×Nat))).run P w=.ok offs w)(E:Instr.fill (offs[·]?) z.cells parts=some cs)(w:World):(Instr.build t parts.toArray).run P w=.ok (.agg cs) w:=by simp only[Instr.build,Sem.run_bind,wF u,Result.andThen_ok,run_underlying C,h,E,Sem.run_pure]
abbrev HS:TypeId:=242
def kr (x y:Option Addr) (m:Option Nat) (J9:List Int):List Value:=[.pointer x,.pointer y,.map m]++J9.map (Value.int .u32)
def BU{x y:Option Addr}(h:J9.length=24):(kr x y m J9).length=27:=by simp[kr,h]
def qBw:(prog.info? HS).bind (·.zero)=some (.agg (kr none none none (zs 24)).toArray):=by kernel_rfl
def qvi{x y:Option Addr}(h:J9.length=24)(w:World): (Instr.build HS #[(0,.pointer x),(1,.pointer y),(2,.map m),(3,.agg (J9.map (Value.int .u32)).toArray)]).run prog w=.ok (.agg (kr x y m J9).toArray) w:=by refine HX (parts:=[(0,.pointer x),(1,.pointer y),(2,.map m),(3,.agg (J9.map (Value.int .u32)).toArray)]) (offs:=#[(0,1),(1,1),(2,1),(3,24)]) qBw oK (fun w=>oK) ?_ w;have u:(Value.agg (J9.map (Value.int .u32)).toArray).cells.size=24:=(by show (J9.map (Value.int .u32)).toArray.size=24;simp[h]);rw[vt (o:=0) (s:=1) rfl rfl (zO rfl),vt (o:=1) (s:=1) rfl rfl (zO rfl),vt (o:=2) (s:=1) rfl rfl (zO rfl),vt (o:=3) (s:=24) rfl u (zO rfl)];show some _=_;congr 1;exact uu (A:=[.pointer x,.pointer y,.map m]) (X:=(zs 24).map (Value.int .u32)) (Z:=[]) (Y:=J9.map (Value.int .u32)) (by simp[h,qL]) |>.trans (by rw[xH];rfl)
def gr (db:Option Addr) (j7:p6) (sl sn:Sl) (Q9:Int) (Q0:Bool) (wk:List Value):Array Value:=
 ((Value.pointer db::fR j7.1 j7.2)++([sl.v,sn.v,.i Q9,.bool Q0]:List Value)++wk).toArray
def qtD{fb defb mb:Nat}: gr db j7 sl sn Q9 Q0 (kr (pW fb) (pW defb) (some mb) J9)=gx db j7 sl sn Q9 Q0 fb defb mb J9:=by simp[gr,gx,nU,kr]
section
variable {db:Option Addr} {j7:p6} {sl sn:Sl} {Q9:Int} {Q0:Bool} {wk:List Value}
def DA(h:j7.2.length=27):(gr db j7 sl sn Q9 Q0 wk).size=33+wk.length:=by rw[gr,size_toArray,zF,zF,tt h];rfl
def xm(u:j7.2.length=27)(j:Nat)(h:j<4):(gr db j7 sl sn Q9 Q0 wk)[29+j]?=([sl.v,sn.v,.i Q9,.bool Q0]:List Value)[j]?:=by rw[gr,List.getElem?_toArray,zV,yY (by rw[tt u];omega),tt u,vD,yZ (by exact h)]
def qBu:(gr db j7 sl sn Q9 Q0 wk)[0]?=some (.pointer db):=rfl
def Ep(C:j7.2.length=27)(n:Nat)(h:n<27):(gr db j7 sl sn Q9 Q0 wk)[n+2]?=some (.u (j7.2.getD n 0)):=by
 rw[gr,List.getElem?_toArray,zV,yZ (by rw[tt C];omega),List.getElem?_cons_succ]
 have:=CS (q:=j7.1) (t:=j7.2) n oJ
 rw[List.getElem?_toArray] at this;exact this
def qqI(h:j7.2.length=27):((gr db j7 sl sn Q9 Q0 wk).toList.drop 5).take 24=(j7.2.drop 3).map (Value.int .u32):=by have u:((j7.2.drop 3).map (Value.int .u32)).length=24:=(by rw[zK,yC,h]);have e:(gr db j7 sl sn Q9 Q0 wk).toList.drop 5=(j7.2.drop 3).map (Value.int .u32)++([sl.v,sn.v,.i Q9,.bool Q0]++wk):=(by show List.drop 3 ((j7.2.map (Value.int .u32))++[_,_,_,_]++wk)=_;rw[zV,drop_append_of_le_length (by rw[zK,h];decide),xQ]);rw[e,take_append_of_le_length (Nat.le_of_eq u.symm),zS (Nat.le_of_eq u)]
def qy4(C:j7.2.length=27){u:Int}:dT (gr db j7 sl sn Q9 Q0 wk) 31 [.i u]=gr db j7 sl sn u Q0 wk:=by
 have h:((Value.pointer db::fR j7.1 j7.2)++([sl.v,sn.v]:List Value)).length=31:=by rw[zF,tt C];rfl
 have:=uu (A:=(Value.pointer db::fR j7.1 j7.2)++([sl.v,sn.v]:List Value)) (X:=[.i Q9]) (Y:=[.i u]) (Z:=.bool Q0::wk) rfl
 rw[h] at this;simpa[gr] using this
def qy5(C:j7.2.length=27){u:List Value}(E:wk.length=u.length):dT (gr db j7 sl sn Q9 Q0 wk) 33 u=gr db j7 sl sn Q9 Q0 u:=by
 have h:((Value.pointer db::fR j7.1 j7.2)++([sl.v,sn.v,.i Q9,.bool Q0]:List Value)).length=33:=by rw[zF,tt C];rfl
 have:=uu (A:=(Value.pointer db::fR j7.1 j7.2)++([sl.v,sn.v,.i Q9,.bool Q0]:List Value)) (X:=wk) (Y:=u) (Z:=[]) E
 rw[h,xH,xH] at this;exact this
end
def jX (l:List Int):List Int:=l.foldl (fun a n=>ins n a) []
def qul(n:Int):∀l:List Int,(ins n l).length<=l.length+1
 | []=>by simp[ins]
 | a::l=>by
  have:=qul n l
  simp only[ins];split;simp;split;simp;simp only[yI];omega
def qts{i:Nat}(h:i<l.length):jX (l.take (i+1))=ins l[i] (jX (l.take i)):=by rw[jX,yG h,foldl_append];rfl
def qvu(l:List Int):(jX l).length<=l.length:=by
 unfold jX;have:∀(l a:List Int),(l.foldl (fun a n=>ins n a) a).length<=a.length+l.length:=by
  intro l;induction l with
  | nil=>intro a;simp
  | cons x l ih=>
   intro a;have h:=ih (ins x a);have u:=qul x a;rw[foldl_cons,yI];omega
 simpa using this l []
def qph(l:List Int):∀a:List Int,a.Pairwise (· < ·)->(l.foldl (fun a n=>ins n a) a).Pairwise (· < ·):=by
 induction l with
 | nil=>intro a h;exact h
 | cons x l ih=>intro a h;exact ih _ (BS h)
def qr2(l:List Int):∀a:List Int,(a++l).Nodup->(l.foldl (fun a n=>ins n a) a).Perm (a++l):=by
 induction l with
 | nil=>intro a h;rw[xH];exact .refl _
 | cons x l ih=>
  intro a h;have C:x∉a:=fun E=>by rw[yM] at h;exact h.2.2 x E x oL rfl
  have G:=A3 C;have u:(ins x a++l).Perm (a++x::l):=(G.append_right l).trans (perm_middle.symm);exact (ih (ins x a) (u.nodup_iff.2 h)).trans u
def qq6(l:List Int):(jX l).Pairwise (· < ·):=qph l [] .nil
def qtr(h:l.Nodup):(jX l).Perm l:=by
 have:=qr2 l [] (oP h)
 simpa[jX] using this
def qzq(h:l.Pairwise (· < ·)):l.Pairwise (·<=·):=h.imp Int.le_of_lt
def Ds(h:l.Pairwise (· < ·)):l.Nodup:=h.imp (fun h=>Int.ne_of_lt h)
def qpl(h:l'.Perm l)(u:l'.Pairwise (·<=·))(C:l.Nodup):l'=jX l:=
 qid (h.trans (qtr C).symm) u (qzq (qq6 l))
def qwX(h:l.Pairwise (· < ·)):jX l=l:=(qpl (.refl _) (qzq h) (Ds h)).symm
def Co{x y:Int}:∀ {l:List Int},y∈ins x l↔y=x\/y∈l
 | []=>by simp[ins]
 | a::l=>by
  have:=Co (x:=x) (y:=y) (l:=l)
  simp only[ins];split;simp;split;rename_i h;subst h;simp;simp only[zG,this];constructor;rintro (h|h|h);exact .inr (.inl h);exact .inl h;exact .inr (.inr h);rintro (h|h|h);exact .inr (.inl h);exact .inl h;exact .inr (.inr h)
def andThen (r:dM×Int) (f:dM->dM×Int):dM×Int:=if r.2=0 then f r.1 else r
def jY:List (Int×List Int)->dM->dM×Int
 | [],D=>(D,0)
 | x::r,D=>andThen (ft D x.1 x.2) (jY r)
def iE (D:dM) (numbers y5:List Int):dM×Int:=
 if (gS numbers y5).2≠0 then (D,(gS numbers y5).2)
 else andThen (jY ((y5.zip (gS numbers y5).1).map fun x=>(x.1,fE x.1 2 x.2)) D) ij
def i4 (s:p6):Int×List Int:=(Int.tmod s.1 2,fE (wrap .u32 (Int.tmod s.1 2)) 1 (gZ s.1 s.2))
def qf (D:dM) (s:p6):dM×Int:=andThen (ft D (i4 s).1 (i4 s).2) ij
def fX (n:Nat):List Int:=(List.range (n-2)).map fun (i:Nat)=>(i:Int)+2
def lf (n:Nat):p6:=(1,[wrap .u32 n,2,wrap .u32 ((fX n).length-gG (fX n).length:Int)]++zs 24)
def mc (D:dM):dM×Int:=
 andThen (ft D 0 (zs 512)) fun D=>andThen (ft D 1 (zs 512)) fun D=>andThen (ij D) fun D=>
 andThen (iE D ((fX D.Q3.length).drop (gG (fX D.Q3.length).length)) ((fX D.Q3.length).take (gG (fX D.Q3.length).length))) fun D=>qf D (lf D.Q3.length)
def mL (D:dM) (u:Int):Nat->Int->List Int->List Int->Option (List Int×List Int)
 | 0,_,_,_=>none
 | f+1,a,h,Q6=>
  if a=0 then some (h,Q6) else
  if a<2\/a>=u\/a∈h then none else
  if (eK D a).2≠0 then none else
  if (fw a (eK D a).1).2.2≠0\/(fw a (eK D a).1).1≠2 then none else
  if (iS (fw a (eK D a).1).2.1).2.2≠0 then none else
  mL D u f (iS (fw a (eK D a).1).2.1).1 (h++[a]) (Q6++(iS (fw a (eK D a).1).2.1).2.1)
def k8 (h:Int) (u:List Int):Int->List Int->Bool
 | _,[]=>true
 | C,n::r=>!(decide (n<=C)||decide (n>=h)||decide (n∈u))&&k8 h u n r
def pJ (D:dM) (s:p6):Option (List Int×List Int):=
 match mL D (s.2.getD 0 0) ((s.2.getD 0 0).toNat+1) (s.2.getD 1 0) [] [] with
 | none=>none
 | some x=>if k8 (s.2.getD 0 0) x.1 0 x.2=true/\(x.2.length:Int)=s.2.getD 2 0 then some x else none
def kP (j7:p6) (h Q6:List Int) (Q9:Int) (Q0:Bool) (u:List Int):eQ:=⟨j7,h,Q6,Q9,Q0,u,[],[],j7.2.drop 3⟩
def nm (D:dM):Option eQ×Int:=
 if (eK D 0).2≠0 then (none,(eK D 0).2) else
 if (eK D 1).2≠0 then (none,(eK D 1).2) else
 if (iC (eK D 0).1 (eK D 1).1).2≠0 then (none,(iC (eK D 0).1 (eK D 1).1).2) else
 if (iC (eK D 0).1 (eK D 1).1).1.2.getD 0 0≠D.Q3.length then (none,2) else
 match pJ D (iC (eK D 0).1 (eK D 1).1).1 with
 | none=>(none,2)
 | some x=>(some (kP (iC (eK D 0).1 (eK D 1).1).1 x.1 x.2 1 false x.2),0)
def pd (pb:Nat) (x y:Option Addr) (mb:Nat) (vs:List Value) (K:Unit->WP) (w:World):Prop:=
 fl [iJ.oc] (fun (w':Go.World)=>(Instr.build HS (#[(0,Value.pointer x),(1,Value.pointer y),(2,Value.map (some mb)),(3,Value.agg (List.toArray vs))])).run prog w') w<|
 fun (u:List Value)=>
 nn (pW pb)<|
 fun (E:Addr)=>
 gK (List.length u=27)<|
 st ({ block:=E.block,off:=E.off+33 }) u w<|
 fun (G:World)=>
 nn (pW pb)<|
 fun (I:Addr)=>
 ld Cell.slice ({ block:=I.block,off:=I.off+30 }) G<|
 fun (J:Sl)=>
 loop (Int) (fun (Q:Int->WP) (C:Int) (h:World)=>
  cond (decide (C<(↑J.len:Int)))
   (idx J C 1<|
   fun (R:Addr)=>
   ld (Cell.int IntKind.u32) R h<|
   fun (U:Int)=>
   nn (pW pb)<|
   fun (O:Addr)=>
   ld Cell.ptr ({ block:=O.block,off:=O.off+33 }) h<|
   fun (V:Option Addr)=>
   cW 180 ([Value.pointer V,Value.int IntKind.u32 U]) ([iJ.one Cell.bool]) h<|
   fun (ab:Bool) (aa:World)=>
   Q (wrap IntKind.i64 (C+1)) aa)
   (K () h)) 0 G
def qvf{w3:World}{pb fb defb mb:Nat}{C Q6:List Int}{F2:List Nat}{K:Unit->WP}(V:j7.2.length=27)(hw:wk.length=27)(hX:∀b∈X,b<w.heap.size/\b≠pb)(J:Rd (X++[pb]) w sl C)(G:Rd (X++[pb]) w sn Q6)(hn:Q6.length<=100000)(ho:dR [pb] w w3 [(pb,.cells (gr db j7 sl sn Q9 Q0 wk) tJ (0,0))])(h1:iz w3 fb F1 [])(h2:iz w3 defb F2 [])(h3:jP kX w3 mb [])(n1:∀b∈F1,w.heap.size<=b)(n2:∀b∈F2,w.heap.size<=b)(n3:w.heap.size<=mb)(aC:pb<w.heap.size)(ae:mb∉F1)(af:mb∉F2)(ag:∀b∈F1,b∉F2)(hk:∀F' w',fP w' X pb db F' (kP j7 C Q6 Q9 Q0 (jX Q6))->Fr [pb] w w'->(∀b∈F',b=pb\/w.heap.size<=b)->K () w'): pd pb (pW fb) (pW defb) mb ((j7.2.drop 3).map (Value.int .u32)) K w3:=by
 have E:(j7.2.drop 3).length=24:=(by rw[yC,V]);unfold pd;refine sI (ts:=[iJ.oc]) (kr (pW fb) (pW defb) (some mb) (j7.2.drop 3)) (qvi E w3)<|gI<|me (BU E) ?_;have aa:(kr (pW fb) (pW defb) (some mb) (j7.2.drop 3)).all Value.oneCell'=true:=by rw[all_eq_true];intro v hv;simp only[kr,zD,zG,mem_map,xX,or_false] at hv;rcases hv with (rfl|rfl|rfl)|⟨x,_,rfl⟩<;>rfl
 refine oG ho 0 rfl (gx db j7 sl sn Q9 Q0 fb defb mb (j7.2.drop 3)) (by rw[<- qtD];exact qy5 V (by rw[hw,BU E])) aa (by rw[DA V,BU E,hw];exact zO rfl) fun w4 O f4=>?_;have R:∀b∈F1,b≠pb:=fun b u e=>by have:=n1 b u;omega
 have U:∀b∈F2,b≠pb:=fun b u e=>by have:=n2 b u;omega
 have hS:∀b∈pb::mb::(F1++F2),b∈[pb]\/w.heap.size<=b:=fun b u=>by simp only[zG,zD] at u;rcases u with rfl|rfl|u|u;exact .inl oL;exact .inr n3;exact .inr (n1 b u);exact .inr (n2 b u)
 have hx:pu w4 X pb db (kP j7 C Q6 Q9 Q0 []) fb defb mb sl sn F1 F2 []:={
  cell:=O.at (i:=0) rfl
  J8:=h1.q8 f4 fun b u=>by simpa using R b u
  J4:=h2.q8 f4 fun b u=>by simpa using U b u
  map:=h3.q8 f4 oO
  J5:=rfl
  rows:=by have hf:Fr (X++[pb]) w w4:=O.fr.mono fun b u _=>zI _ u;exact⟨J.q8 hf (AJ hS),G.q8 hf (AJ hS),fun e he=>by cases he⟩
  qM:=fun b u=>yD (hX b u).1 O.fr.size
  nM:=GP (fun b u=>(hX b u).1) (fun b u=>by simpa using (hX b u).2) hS
  sep:=⟨oJ,fun b u=>⟨R b u,fun e=>ae (e▸u),ag b u⟩,fun b u=>⟨U b u,fun e=>af (e▸u)⟩⟩
  Q5:=V
  x4:=E }
 refine gI (jM hx.cell sn (qyY V) ?_);have aF:=G.1;refine jT (fun x w'=>∃(i:Nat) (Q:List Nat),x=i/\i<=Q6.length/\pu w' X pb db (kP j7 C Q6 Q9 Q0 (jX (Q6.take i))) fb defb mb sl sn Q F2 []/\Fr [pb] w w'/\∀b∈Q,w.heap.size<=b) (fun x _=>((Q6.length:Int)-x).toNat)
  ⟨0,F1,rfl,oJ,hx,O.fr,n1⟩ ?_
 rintro x w5 ⟨i,Q,rfl,hi,I,f5,n5⟩ Z hZ;apply cD<;>intro hc;have ab:i<Q6.length:=oJ;refine Rd.at I.rows.Q6 i rfl (zA ab)<|gI (jM I.cell (pW fb) (CC V) ?_);have am:=qvu (Q6.take i);rw[yL] at am;refine GY I.J8 (by show (jX (Q6.take i)).length<=_;omega) fun ac w6 an f6 n6=>?_;have ao:=I.rr f6 an n6;rw[gd _ oJ];refine hZ _ _ ⟨i+1,ac,oL,oJ,?_,f5.j6 f6 (fun b u=>.inr (n5 b u)),fun b u=>?_⟩ oJ;rw[qts ab];exact ao;rcases n6 b u with h|h;exact n5 b h;exact zL f5.size h;have:i=Q6.length:=oJ;subst this;rw[xZ] at I;refine hk _ w5 ⟨fb,defb,mb,sl,sn,Q,F2,[],rfl,I⟩ f5 fun b u=>?_;simp only[zG,zD] at u;rcases u with rfl|rfl|u|u;exact .inl rfl;exact .inr n3;exact .inr (n5 b u);exact .inr (n2 b u)
def qwe{pb:Nat}{Q2 Q6:List Int}{K:Unit->WP}(hc:w.heap[pb]?=some (.cells (gr db j7 sl sn Q9 Q0 wk) tJ (0,0)))(hs:j7.2.length=27)(hw:wk.length=27)(ht:0<=Q9/\Q9<=1000000000)(hX:∀b∈X,b<w.heap.size/\b≠pb)(hlists:Rd (X++[pb]) w sl Q2)(hnamed:Rd (X++[pb]) w sn Q6)(hn:Q6.length<=100000)(hk:∀F' w',fP w' X pb db F' (kP j7 Q2 Q6 (Q9+1) Q0 (jX Q6))->Fr [pb] w w'->(∀b∈F',b=pb\/w.heap.size<=b)->K () w'): cW 146 [dH pb] [] w K:=by
 have hpb:=fJ hc;have ho:dR [pb] w w [(pb,.cells (gr db j7 sl sn Q9 Q0 wk) tJ (0,0))]:=⟨by simpa using hc,oL,.refl _ _,oL⟩;refine qjd (p:=pW pb)<|gI (oA (c:=.i) ho 0 rfl Q9 (xm hs 2 oM) ?_);rw[gd _ oJ];refine gI (oG ho 0 rfl (gr db j7 sl sn (Q9+1) Q0 wk) (qy4 hs) rfl (by rw[DA hs,hw];exact zO rfl) fun w1 ho f1=>?_);have hrl:((j7.2.drop 3).map (Value.int .u32)).length=24:=(by rw[zK,yC,hs]);have hcA:∀ {w':World},w'.heap[pb]?=some (.cells (gr db j7 sl sn (Q9+1) Q0 wk) tJ (0,0))->jE w' (dc pb 5) 0 ((j7.2.drop 3).map (Value.int .u32)):=fun h=>uS h _ 5 0 (by rw[hrl];exact qqI hs);have tail:=fun {w3:World} {fb defb mb:Nat} {F1 F2:List Nat}=>qvf (w:=w) (w3:=w3) (X:=X) (pb:=pb) (fb:=fb) (defb:=defb) (mb:=mb) (F1:=F1) (F2:=F2) hs hw hX hlists hnamed hn (K:=K) (Q9:=Q9+1) (Q0:=Q0) (wk:=wk) (db:=db);have hs1:=f1.size;have ho':=ho.drew;generalize w1.drew=wd at ho';have hld:∀ {K':List Value->Prop},K' ((j7.2.drop 3).map (Value.int .u32))->ic 24 (dc pb 5) wd K':=fun k=>nH (ho'.at (i:=0) rfl) _ hrl (qqI hs) k;have hsd:w.heap.size<=wd.heap.size:=ho'.fr.size;have fin:∀ {w3:World} {fb defb mb:Nat} {F1 F2:List Nat},Fr [] wd w3->iz w3 fb F1 []->iz w3 defb F2 []->jP kX w3 mb []->(∀b∈F1,wd.heap.size<=b)->(∀b∈F2,wd.heap.size<=b)->wd.heap.size<=mb->mb∉F1->mb∉F2->(∀b∈F1,b∉F2)->
   pd pb (pW fb) (pW defb) mb ((j7.2.drop 3).map (Value.int .u32)) K w3:=fun f p1 p2 p3 n1 n2 n3 s1 s2 s3=>
  tail (ho'.q7 f) p1 p2 p3 (fun b hb=>zL hsd (n1 b hb)) (fun b hb=>zL hsd (n2 b hb)) (zL hsd n3) hpb s1 s2 s3 hk
 refine⟨?_,?_,?_⟩;refine gI ?_;simp only[Addr.q9];refine hld<|BE fun fb F1 w2 p1 f2 n1=>iM (hcA ((ho'.q7 f2).at (i:=0) rfl))<|BE fun defb F2 w3 p2 f3 n2=>iM (hcA ((ho'.q7 (f2.trans f3)).at (i:=0) rfl))<|oB (ho'.q7 (f2.trans f3)) fun mb w4 e4 f4 ho4=>iM (hcA (ho4.at (i:=1) rfl))<|fin ((f2.trans f3).trans f4) (p1.q8 (f3.trans f4) oL) (p2.q8 f4 oL) (.empty (ho4.at (i:=0) rfl)) n1 (fun b hb=>zL f2.size (n2 b hb)) (by rw[e4];exact (f2.trans f3).size) (fun hm=>?_) (fun hm=>?_) (fun b hb hb2=>?_)
 have:=(p1.q8 f3 oL).lt mb hm;omega
 have:=p2.lt mb hm;omega
 have:=p1.lt b hb;have:=n2 b hb2;omega
 refine gI ?_;simp only[Addr.q9];refine hld<|BE fun fb F1 w2 p1 f2 n1=>iM (hcA ((ho'.q7 f2).at (i:=0) rfl))<|oB (ho'.q7 f2) fun mb w3 e3 f3 ho3=>iM (hcA (ho3.at (i:=1) rfl))<|BE fun defb F2 w4 p2 f4 n2=>?_;have ho4:=ho3.q7 f4;refine iM (hcA (ho4.at (i:=1) rfl)) ?_;have hmb:=fJ (ho3.at (i:=0) rfl);refine fin ((f2.trans f3).trans f4) (p1.q8 (f3.trans f4) oL) p2 (.empty (ho4.at (i:=0) rfl)) n1 (fun b hb=>zL (f2.trans f3).size (n2 b hb)) (by rw[e3];exact f2.size) (fun hm=>?_) (fun hm=>?_) (fun b hb hb2=>?_)
 have:=p1.lt mb hm;omega
 have:=n2 mb hm;omega
 have:=(p1.q8 f3 oL).lt b hb;have:=n2 b hb2;omega
 refine gI ?_;simp only[Addr.q9];refine hld<|oB ho' fun mb w2 e2 f2 ho2=>iM (hcA (ho2.at (i:=1) rfl)) ?_;have hmb:=fJ (ho2.at (i:=0) rfl);refine BE fun fb F1 w3 p1 f3 n1=>?_;have ho3:=ho2.q7 f3;refine iM (hcA (ho3.at (i:=1) rfl))<|BE fun defb F2 w4 p2 f4 n2=>?_;have ho4:=ho3.q7 f4;refine iM (hcA (ho4.at (i:=1) rfl))<|fin ((f2.trans f3).trans f4) (p1.q8 f4 oL) p2 (.empty (ho4.at (i:=0) rfl)) (fun b hb=>zL f2.size (n1 b hb)) (fun b hb=>zL (f2.trans f3).size (n2 b hb)) (by rw[e2];exact zM _) (fun hm=>?_) (fun hm=>?_) (fun b hb hb2=>?_)
 have:=n1 mb hm;omega
 have:=n2 mb hm;have:=f3.size;omega
 have:=p1.lt b hb;have:=n2 b hb2;omega
def view (D:dM) (n:Int):List Int:=match js n D.Q4 with|some b=>b.1|none=>(D.Q3.getD n.toNat .zero).1
def dM.size (D:dM):Int:=D.Q3.length
def Fs(h:D.down=false)(u:0<=n/\n<D.size):eK D n=(view D n,0):=by have C:n<(D.Q3.length:Int):=u.2;rw[eK,if_neg (by rw[h];decide),iN,view];cases js n D.Q4<;>rfl
def qkK(n:Int):∀(l:List (Int×mz)) (x:Int×mz),js n (l++[x])=if x.1=n then some x.2 else js n l
 | [],x=>rfl
 | y::l,x=>by simp only[xJ,js];rw[qkK n l x];by_cases h:x.1=n;simp[h];simp[h]
def qsi(n:Nat):∀(l:List (Int×mz)) (s:List mz),(∀x∈l,0<=x.1/\x.1<s.length)->(l.foldl gL s).getD n .zero=match js n l with|some b=>b|none=>s.getD n .zero
 | [],s,_=>rfl
 | x::l,s,h=>by
  have C:=h x oL;rw[foldl_cons,qsi n l (gL s x) (fun y u=>by rw[gL,xG];exact h y (zN _ u)),js];cases js (n:Int) l with
  | some b=>rfl
  | none=>
   dsimp only;by_cases he:x.1=n;rw[if_pos he,gL,yR];have:x.1.toNat=n:=oJ;rw[this,List.getElem?_set_self oJ];rfl;rw[if_neg he,gL,yR,List.getElem?_set_ne oJ,yR]
structure fj (D:dM):Prop where
 down:D.down=false
 y6:D.y6=-1
 at_:∀ x∈D.Q4,0<=x.1/\x.1<D.Q3.length
def fj.act(h:fj D):jq D=(D,false):=by rw[jq,if_neg (by rw[h.y6];decide),if_neg (by rw[h.y6];decide)]
def fj.write(h:fj D)(E:0<=n/\n<D.size)(C:l.length=512): ∃D',ft D n l=(D',0)/\fj D'/\D'.size=D.size/\∀m,view D' m=if m=n then l else view D m:=by have I:n<(D.Q3.length:Int):=E.2;have G:fj (pT D n ⟨l,C⟩):=⟨h.down,h.y6,fun x u=>by rcases zD.1 u with u|u;exact h.at_ x u;simp at u;subst u;exact⟨E.1,I⟩⟩;refine⟨pT D n ⟨l,C⟩,?_,G,rfl,fun m=>?_⟩;rw[ft,if_neg (by rw[h.down];decide),iN,dif_pos C,G.act];rfl;rw[view,pT];dsimp only;rw[qkK];by_cases hm:m=n;rw[if_pos hm,if_pos hm.symm];rw[if_neg hm,if_neg (fun e=>hm e.symm),view]
def fj.sync(h:fj D):∃D',ij D=(D',0)/\fj D'/\D'.size=D.size/\D'.Q4=[]/\∀m,0<=m->view D' m=view D m:=by refine⟨{ D with Q3:=D.Q4.foldl gL D.Q3,Q4:=[] },?_,⟨h.down,h.y6,fun x u=>by cases u⟩,?_,rfl,fun m C=>?_⟩;rw[ij,if_neg (by rw[h.down];decide),h.act];rfl;show ((D.Q4.foldl gL D.Q3).length:Int)=_;rw[Ce];rfl;obtain⟨k,rfl⟩:∃k:Nat,m=k:=⟨m.toNat,oJ⟩;show ((D.Q4.foldl gL D.Q3).getD (k:Int).toNat .zero).1=_;rw[zJ,qsi k _ _ h.at_,view,zJ];cases js (k:Int) D.Q4<;>rfl
def fj.writes:∀ {l:List (Int×List Int)} {D:dM},fj D->(∀x∈l,(0<=x.1/\x.1<D.size)/\x.2.length=512)->(l.map (·.1)).Nodup-> ∃D',jY l D=(D',0)/\fj D'/\D'.size=D.size/\(∀x∈l,view D' x.1=x.2)/\∀m,m∉l.map (·.1)->view D' m=view D m
 | [],D,h,_,_=>⟨D,rfl,h,rfl,(fun x u=>by cases u),fun m _=>rfl⟩
 | y::l,D,h,I,C=>by obtain⟨Q,E⟩:=I y oL;obtain⟨D1,e1,R,J,O⟩:=h.write Q E;rw[xO,nodup_cons] at C;obtain⟨U,V,q2,s2,v2,u2⟩:=fj.writes (l:=l) R (fun x u=>by rw[J];exact I x (zN _ u)) C.2;refine⟨U,?_,q2,s2.trans J,fun x u=>?_,fun m G=>?_⟩;rw[jY,e1];exact V;rcases zG.1 u with rfl|u;rw[u2 _ C.1,O,if_pos rfl];exact v2 x u;rw[xO,zG,not_or] at G;rw[u2 m G.2,O,if_neg G.1]
def chunk (numbers:List Int) (i:Nat):List Int:=(numbers.drop (123*i)).take 123
def rC (D:dM) (numbers y5:List Int):Prop:=∀(i:Nat) p,y5[i]?=some p->view D p=fE p 2 (jD (y5.getD (i+1) 0) (chunk numbers i))
def qnO(numbers y5:List Int)(k i:Nat):(ir numbers y5 k)[i]?=if i<k then some (jD (y5.getD (i+1) 0) (chunk numbers i)) else none:=by rw[ir,zQ];by_cases h:i<k;rw[if_pos h,List.getElem?_range h];rfl;rw[if_neg h,yS (oP h)];rfl
def qmi(numbers y5:List Int)(k:Nat):(ir numbers y5 k).length=k:=by simp[ir]
def FJ(numbers:List Int)(i:Nat):(chunk numbers i).length<=123:=by rw[chunk,yL];omega
structure nP (n:Int) (numbers y5:List Int):Prop where
 cV:numbers.Pairwise (· < ·)
 oq:∀ x∈numbers,2<=x/\x<n
 ur:∀ x∈y5,2<=x/\x<n
 nodup:y5.Nodup
 J0:∀ x∈y5,x∉numbers
 room:numbers.length<=123*y5.length
def HI:∀(l:List Int) (a:Int),jg a l=true↔(∀x∈l,a<x)/\l.Pairwise (· < ·)
 | [],a=>by simp[jg]
 | x::l,a=>by rw[jg,yB,yN,HI l x,yJ];constructor;rintro⟨h,u,C⟩;refine⟨fun y E=>?_,u,C⟩;rcases zG.1 E with rfl|E;exact h;exact Int.lt_trans h (u y E);rintro⟨h,u,C⟩;exact⟨h x oL,u,C⟩
def nP.y8(h:nP n numbers y5):gS numbers y5=(ir numbers y5 y5.length,0):=by
 have u:jg 1 numbers=true:=(HI _ _).2 ⟨fun x C=>by have:=h.oq x C;omega,h.cV⟩;rw[gS,if_neg (by rw[u];have:=h.room;simp;omega),if_neg];rintro⟨p,E,G⟩
 have:=h.ur p E
 omega
def qmE{α β:Type}{x:α×β}:∀ {l:List α} {r:List β},x∈l.zip r->∃i:Nat,l[i]?=some x.1/\r[i]?=some x.2
 | [],_,h=>by simp at h
 | _::_,[],h=>by simp at h
 | a::l,b::r,h=>by rw[zip_cons_cons,zG] at h;rcases h with rfl|h;exact⟨0,rfl,rfl⟩;obtain⟨i,u,C⟩:=qmE h;exact⟨i+1,by simpa using u,by simpa using C⟩
def quO{α β:Type}:∀ {l:List α} {r:List β},l.length=r.length->(l.zip r).map (·.1)=l
 | [],[],_=>rfl
 | a::l,b::r,h=>by rw[zip_cons_cons,xO,quO (oP h)]
def fj.spread(h:fj D)(G:nP D.size numbers y5): ∃D',iE D numbers y5=(D',0)/\fj D'/\D'.size=D.size/\D'.Q4=[]/\rC D' numbers y5/\∀m,0<=m->m∉y5->view D' m=view D m:=by
 have O:((y5.zip (ir numbers y5 y5.length)).map fun x=>(x.1,fE x.1 2 x.2)).map (·.1)=y5:=(by rw[map_map];exact quO (by rw[qmi]));obtain⟨D1,e1,U,V,v1,Q⟩:=h.writes (l:=(y5.zip (ir numbers y5 y5.length)).map fun x=>(x.1,fE x.1 2 x.2)) (fun x hx=>by
  obtain⟨y,hy,rfl⟩:=mem_map.1 hx;obtain⟨i,h1,u⟩:=qmE hy;rw[qnO] at u;have C:=G.ur _ (yF h1);refine⟨⟨by show 0<=y.1;omega,C.2⟩,CQ ?_⟩;by_cases I:i<y5.length;rw[if_pos I] at u;have u:=yO u;rw[<- u,ED]
  have:=FJ numbers i
  omega;rw[if_neg I] at u;cases u) (by rw[O];exact G.nodup)
 rw[O] at Q;obtain⟨D2,e2,q2,s2,w2,R⟩:=U.sync;refine⟨D2,?_,q2,s2.trans V,w2,fun i p C=>?_,fun m hm J=>by rw[R m hm,Q m J]⟩;rw[iE,G.y8,if_neg oL];show andThen _ _=_;rw[e1];exact e2;have I:=(zP.1 C).1;have E:(p,fE p 2 (jD (y5.getD (i+1) 0) (chunk numbers i)))∈(y5.zip (ir numbers y5 y5.length)).map fun x=>(x.1,fE x.1 2 x.2):=by refine mem_map.2 ⟨(p,jD (y5.getD (i+1) 0) (chunk numbers i)),?_,rfl⟩;refine yF (i:=i) ?_;rw[List.getElem?_zip_eq_some];exact⟨C,by rw[qnO,if_pos I]⟩
 have aj:=G.ur _ (yF C);rw[R p oJ];exact v1 _ E
def qmu(numbers:List Int):∀k,(List.range k).flatMap (chunk numbers)=numbers.take (123*k)
 | 0=>by simp
 | k+1=>by rw[range_succ,yQ,qmu numbers k,flatMap_singleton,chunk,Nat.mul_succ,<- xE (123*k) (numbers.take (123*k+123))];congr 1;rw[take_take,xR oJ];rw[drop_take,vD]
def quN{D:dM}{numbers y5:List Int}{n:Int}(hd:D.down=false)(hs:D.size=n)(hn:n<=4096)(I:nP n numbers y5)(hl:rC D numbers y5): ∀(k i f:Nat),i+k=y5.length->k<f->mL D n f (y5.getD i 0) (y5.take i) ((List.range i).flatMap (chunk numbers))=some (y5,numbers)
 | 0,i,f+1,hi,hf=>by have:y5.getD i 0=0:=(by rw[yR,yS oJ];rfl);have hr:=I.room;have U:i=y5.length:=oJ;subst U;rw[this,mL,if_pos rfl,qmu,xZ,zS hr]
 | k+1,i,f+1,hi,hf=>by
  have u:i<y5.length:=oJ;have hp:y5.getD i 0=y5[i]:=(by rw[yR,zA u];rfl);have hr:=I.ur _ (zX u);have O:y5[i]∉y5.take i:=fun hm=>by
   obtain⟨j,hj,he⟩:=getElem_of_mem hm;rw[getElem_take] at he;rw[yL] at hj
   have:=pairwise_iff_getElem.1 I.nodup j i oJ u oJ
   exact this he
  have hv:=hl i _ (zA u);have C:=Fs hd (n:=y5[i]) (by rw[hs];omega);rw[hv] at C;have V:=FJ numbers i;have J:=qmN (number:=y5[i]) (kind:=2) (body:=jD (y5.getD (i+1) 0) (chunk numbers i)) oJ (by rw[ED];omega);have Q:∀x∈chunk numbers i,x∈numbers:=fun x R=>yU (yV R);have E:iy (y5.getD (i+1) 0)/\y5.getD (i+1) 0≠1:=by
   rw[yR];cases h:y5[i+1]? with
   | none=>exact⟨⟨oM,oM⟩,oM⟩
   | some p=>
    have:=I.ur p (yF h)
    constructor;constructor<;>(simp;omega);simp;omega
  have G:=qsx E.1 E.2 (c:=chunk numbers i) (fun x R=>by have:=I.oq x (Q x R);constructor<;>omega)
   ((HI _ _).2 ⟨fun x R=>by have:=I.oq x (Q x R);omega,I.cV.sublist ((take_sublist _ _).trans (drop_sublist _ _))⟩) V
  rw[hp,mL,iN,if_neg (by intro h;rcases h with h|h|h;omega;omega;exact O h),C,J,if_neg oL,if_neg oL,G,if_neg oL]
  have:=quN hd hs hn I hl k (i+1) f oJ oJ
  rw[yG u,range_succ,yQ,flatMap_singleton] at this;exact this
def FF(n:Int)(h:List Int):∀(l:List Int) (a:Int),k8 n h a l=true↔(∀x∈l,a<x/\x<n/\x∉h)/\l.Pairwise (· < ·)
 | [],a=>by simp[k8]
 | x::l,a=>by
  rw[k8,yB,FF n h l x,yJ];simp only[zT,Bool.or_eq_false_iff,decide_eq_false_iff_not,Int.not_le,Int.not_lt,ge_iff_le];constructor;rintro⟨⟨⟨C,E⟩,G⟩,I,J⟩;refine⟨fun y u=>?_,fun y u=>(I y u).1,J⟩;rcases zG.1 u with rfl|u;exact⟨C,E,G⟩
  have:=I y u;exact⟨oJ,this.2⟩
  rintro⟨C,E,G⟩
  have:=C x oL
  exact⟨⟨⟨this.1,this.2.1⟩,this.2.2⟩,fun y u=>⟨E y u,(C y (zN _ u)).2⟩,G⟩
def GH:∀(n:Nat) (l:List Nat),l.Nodup->(∀x∈l,x<n)->l.length<=n
 | 0,l,_,h=>by cases l with
  | nil=>simp
  | cons a l=>exact absurd (h a oL) oJ
 | n+1,l,C,h=>by
  by_cases hm:n∈l;have G:=GH n (l.erase n) (C.erase n) (fun x u=>by
   have E:=(C.mem_erase_iff).1 u
   have:=h x E.2
   have:=E.1
   omega)
  have:=length_erase_of_mem hm
  have:=length_pos_of_mem hm
  omega
  have:=GH n l C (fun x u=>by
   have:=h x u
   have:x≠n:=fun e=>hm (e▸u);omega)
  omega
def DE(E:l.Nodup)(h:∀x∈l,2<=x/\x<n):(l.length:Int)<=n-2\/l=[]:=by
 by_cases h0:l=[];exact .inr h0;left;obtain⟨a,G⟩:=exists_mem_of_ne_nil l h0;have J:=h a G
 have:=GH (n-2).toNat (l.map fun x=>(x-2).toNat) (by
  refine pairwise_map.2 (E.imp_of_mem fun {x y} u C I=>?_)
  have:=h x u
  have:=h y C
  omega) (fun x u=>by
  obtain⟨y,C,rfl⟩:=mem_map.1 u
  have:=h y C
  omega)
 rw[zK] at this;omega
structure qg (D:dM) (s:p6) (y5 numbers:List Int):Prop where
 down:D.down=false
 size:8<=D.size/\D.size<=4096
 uU:iC (view D 0) (view D 1)=(s,0)
 blocks:s.2.getD 0 0=D.size
 list:s.2.getD 1 0=y5.headD 0
 J8:s.2.getD 2 0=numbers.length
 ok:nP D.size numbers y5
 listed:rC D numbers y5
def qg.load(h:qg D s y5 numbers):pJ D s=some (y5,numbers):=by
 have E:mL D D.size (D.size.toNat+1) (y5.headD 0) [] []=some (y5,numbers):=by
  have:=quN h.down rfl h.size.2 h.ok h.listed y5.length 0 (D.size.toNat+1) oJ (by
   have:=DE h.ok.nodup h.ok.ur
   have I:=h.size;rcases this with C|C;omega;rw[C];simp)
  have e:y5.headD 0=y5.getD 0 0:=(by cases y5<;>rfl);rw[e];exact this
 rw[pJ,h.blocks,h.list,E];dsimp only;rw[if_pos];exact⟨(FF _ _ _ _).2 ⟨fun x u=>⟨by have:=h.ok.oq x u;omega,(h.ok.oq x u).2,fun G=>h.ok.J0 x G u⟩,h.ok.cV⟩,h.J8.symm⟩
def qg.open(h:qg D s y5 numbers):nm D=(some (kP s y5 numbers 1 false numbers),0):=by have u:=Fs h.down (n:=0) ⟨oM,by have:=h.size;omega⟩;have r1:=Fs h.down (n:=1) ⟨oM,by have:=h.size;omega⟩;have C:s.2.getD 0 0=(D.Q3.length:Int):=h.blocks;rw[nm,u,r1,h.uU,if_neg oL,if_neg oL,if_neg oL,if_neg (by rw[C];simp),h.load]
def vo{α:Type}{enc:α->List Value}{P:Program}{s:Sl}{l:List α}{tx e':TypeId}(h:dX enc k S w s l)(C:∀x,(enc x).length=k)(E:∀x,∀u∈enc x,u.oneCell'=true)(I:P.underlying tx=some (.slice e')): Src P k tx s.v s.len (l.flatMap enc) w:=by
 obtain⟨a,len,cap⟩:=s;have G:=h.1;simp only at G;cases a with
 | none=>
  have:l=[]:=by rcases h.2.2 with h|⟨b,o,R,T,U,J,_⟩;exact h;cases J
  subst this;simp at G;subst G;exact .ofNil w I cap
 | some a=>
  refine .ofSlice w I a len cap _ (by rw[qZ C,G]) (h.cells C rfl) fun u O=>?_;obtain⟨x,_,Q⟩:=yK.1 O;exact E x u Q
def qAF{s src:Sl}{ys:List Int}{B:List Nat}{K:Sl->WP}(h:ru w s l B)(J:Rd S w src ys)(hl:l.length+ys.length<=1000000)(Q:∀E B' w',ru w' E (l++ys) B'->Fr B w w'->(∀b∈B',b∈B\/w.heap.size<=b)->K E w'): Pt.run dd ((Builtin.append_ #[174,174] 174 #[s.v,src.v]).run prog w) K:=by obtain⟨i,R,U,G,I⟩:=Ac;have C:=J.1;refine eZ.j0 (e:=44) h ug oK R U G rfl (vo (e':=44) J ug (fun x u O=>by simp at O;subst O;rfl) oK) C (by rw[I];omega) oJ fun E B' w' b' V n' _=>Q E B' w' b' V n'
def wV(h:D.Ok)(n:Int):eS (eK D n).1/\(eK D n).1.length<=512:=by
 have I:eS (zs 512):=eS.zs 512;unfold eK;split;exact⟨(fun x C=>by cases C),oL⟩;split;exact⟨(fun x C=>by cases C),oL⟩;split;rename_i b J;refine⟨?_,Nat.le_of_eq b.2⟩;have:∀l:List (Int×mz),(∀x∈l,eS x.2.1)->js n l=some b->eS b.1:=by
  intro l;induction l with
  | nil=>intro _ h;cases h
  | cons x l ih=>
   intro G u;rw[js] at u;cases E:js n l with
   | some c=>rw[E] at u;exact ih (fun y O=>G y (zN _ O)) (by rw[E];exact u)
   | none=>
    rw[E] at u;dsimp only at u;split at u;cases u;exact G x oL;cases u
 exact this _ h.pq J;refine⟨?_,Nat.le_of_eq (D.Q3.getD n.toNat .zero).2⟩;rw[yR];cases Q:D.Q3[n.toNat]? with
 | none=>exact I
 | some b=>exact h.px b (yF Q)
def qqx(h:eS l)(n:Int):eS (fw n l).2.1/\(fw n l).2.1.length<=l.length:=by
 have u:eS ([]:List Int):=fun x C=>by cases C
 unfold fw;split;exact⟨u,oL⟩;split;exact⟨u,oL⟩;split;exact⟨u,oL⟩;split;exact⟨u,oL⟩;split;exact⟨u,oL⟩;refine⟨(h.take _).drop _,?_⟩;rw[yC,yL];omega
abbrev MIT:TypeId:=307
def qA0:prog.underlying MIT=some (.map 44 3):=by kernel_rfl
def qBI:∀w,(zeroValue 3).run prog w=.ok (.i 0) w:=fun w=>by kernel_rfl
def lU (l:List Int):List (Int×Value):=l.map fun n=>(n,.i 1)
def FX(n:Int):∀l:List Int,(n∈l->∃i,look n (lU l)=some (i,.i 1))/\(n∉l->look n (lU l)=none)
 | []=>⟨(fun h=>by cases h),fun _=>rfl⟩
 | a::l=>by
  obtain⟨G,I⟩:=FX n l;simp only[lU,xO,look];by_cases h:n=a;rw[if_pos h];exact⟨fun _=>⟨0,rfl⟩,fun J=>absurd (by rw[h];simp) J⟩;rw[if_neg h];refine⟨fun u=>?_,fun u=>?_⟩;rcases zG.1 u with e|u;exact absurd e h;obtain⟨i,E⟩:=G u;unfold lU at E;exact⟨i+1,by rw[E];rfl⟩
  have:=I (fun C=>u (zN _ C))
  unfold lU at this;rw[this];rfl
def qsc{r:Nat}{C:List Int}{K:Int->Prop}(h:jP kX w r (lU C))(k:∀x:Int,decide (x>0)=decide (n∈C)->K x): fl [iJ.one .i] (fun w'=>(Instr.lookup MIT (.map (some r)) (.u n) false).run prog w') w K:=by
 have:=HD (P:=prog) qA0 qBI wL h.at n
 rw[A7] at this;obtain⟨E,G⟩:=FX n C;by_cases hn:n∈C;obtain⟨i,I⟩:=E hn;rw[I] at this;exact sI (ts:=[iJ.one .i]) (1:Int) this (k 1 (by simp[hn]));rw[G hn] at this;exact sI (ts:=[iJ.one .i]) (0:Int) this (k 0 (by simp[hn]))
def qxv{u:Sl}(C:j7.2.length=27):dT (gr db j7 sl sn Q9 Q0 wk) 29 [u.v]=gr db j7 u sn Q9 Q0 wk:=by
 have h:=tt (db:=db) C
 have:=uu (A:=(Value.pointer db::fR j7.1 j7.2)) (X:=[sl.v]) (Y:=[u.v]) (Z:=sn.v::.i Q9::.bool Q0::wk) rfl
 rw[h] at this;simpa[gr] using this
def qxw{u:Sl}(C:j7.2.length=27):dT (gr db j7 sl sn Q9 Q0 wk) 30 [u.v]=gr db j7 sl u Q9 Q0 wk:=by
 have h:((Value.pointer db::fR j7.1 j7.2)++([sl.v]:List Value)).length=30:=by rw[zF,tt C];rfl
 have:=uu (A:=(Value.pointer db::fR j7.1 j7.2)++([sl.v]:List Value)) (X:=[sn.v]) (Y:=[u.v]) (Z:=.i Q9::.bool Q0::wk) rfl
 rw[h] at this;simpa[gr] using this
def qkw:iy (fO l):=by unfold fO pN;exact Eg _ _ _
def qvJ(l:List Int):iy (iS l).1:=by unfold iS;split;constructor<;>decide;split;constructor<;>decide;split;exact qkw;constructor<;>decide
def qvK(l:List Int):(iS l).2.1.length<=123:=by unfold iS;split;simp;split;simp;rename_i h;split;simp only[kS,zK,length_range];omega;simp
structure Ge (w:World) (FD:List Nat) (pb r:Nat) (db:Option Addr) (j7:p6) (Q9:Int) (Q0:Bool) (wk:List Value) (a:Int) (Q2 Q6:List Int) (w':World) (sl sn:Sl) (B1 B2:List Nat):Prop where
 own:dR [pb] w w' [(pb,.cells (gr db j7 sl sn Q9 Q0 wk) tJ (0,0))]
 b1:ru w' sl Q2 B1
 b2:ru w' sn Q6 B2
 map:jP kX w' r (lU Q2)
 n1:∀ b∈B1,w.heap.size<=b/\b≠r/\b∉B2
 n2:∀ b∈B2,w.heap.size<=b/\b≠r
 nr:w.heap.size<=r
 at_:iy a
 nodup:Q2.Nodup
 range:∀ x∈Q2,2<=x/\x<j7.2.getD 0 0
 len:Q6.length<=123*Q2.length
def qx5{pb:Nat}{K:Bool->WP}(hc:w.heap[pb]?=some (.cells (gr (pW dbk) j7 dI dI Q9 Q0 wk) tJ (0,0)))(O:j7.2.length=27)(hw:wk.length=27)(hd:fu w dbk FD D)(hD:D.Ok)(hv:Hv w)(a9:pb∉FD)(a':pb≠HG)(bR:j7.2.getD 0 0<=4096)(ba:iy (j7.2.getD 1 0))(bS:iy (j7.2.getD 2 0))(R:pJ D j7=none->∀w',Fr [pb] w w'->K false w')(hk:∀sl sn u Q6 w',pJ D j7=some (u,Q6)->dR [pb] w w' [(pb,.cells (gr (pW dbk) j7 sl sn Q9 Q0 wk) tJ (0,0))]->(∀G:List Nat,(∀b∈G,b<w.heap.size)->Rd G w' sl u/\Rd G w' sn Q6)->K true w'): cW 145 [dH pb] df w K:=by
 have bH:=fJ hc;have ho:dR [pb] w w [(pb,.cells (gr (pW dbk) j7 dI dI Q9 Q0 wk) tJ (0,0))]:=⟨by simpa using hc,oL,.refl _ _,oL⟩;refine qj4<|oB ho fun r w1 e1 f1 aa=>?_;have am:jP kX w1 r (lU []):=.empty (aa.at (i:=0) rfl);have aa:=aa.sub (L':=[(pb,_)]) (List.Sublist.cons _ (List.Sublist.refl _));refine gI (oA aa 0 rfl (j7.2.getD 1 0) (Ep O 1 oM) ?_);have aD:∀ {w':World},Fr [pb] w w'->fu w' dbk FD D:=fun f=>hd.q8 f fun b E=>by simp only[zE];rintro rfl;exact a9 E
 have half:∀ {w':World},Fr [pb] w w'->Hv w':=fun f=>hv.q8 f (by simpa using fun e=>a' e.symm);generalize bb:(j7.2.getD 0 0).toNat+1=F0;have I:pJ D j7=match mL D (j7.2.getD 0 0) F0 (j7.2.getD 1 0) [] [] with|none=>none|some x=>if k8 (j7.2.getD 0 0) x.1 0 x.2=true/\(x.2.length:Int)=j7.2.getD 2 0 then some x else none:=by rw[<- bb];rfl
 refine jT (fun a w'=>∃u Q6 sl sn B1 B2 f,Ge w FD pb r (pW dbk) j7 Q9 Q0 wk a u Q6 w' sl sn B1 B2/\f+u.length=F0/\mL D (j7.2.getD 0 0) f a u Q6=mL D (j7.2.getD 0 0) F0 (j7.2.getD 1 0) [] [])
  (fun a w'=>match w'.heap[r]? with|some (.map es _)=>F0-es.size|_=>0) ⟨[],[],dI,dI,[],[],F0,⟨aa,.nil _ _ _,.nil _ _ _,am,oL,oL,by rw[e1];exact zM _,ba,.nil,oL,oL⟩,rfl,rfl⟩ ?_
 rintro a w2 ⟨u,Q6,sl,sn,B1,B2,f,H,hf,C⟩ X hX;have bI:u.length<F0:=by rcases DE H.nodup H.range with h|h;omega;rw[h];simp;omega
 obtain⟨f,rfl⟩:∃g,f=g+1:=⟨f-1,oJ⟩;have aE:=H.own.fr;apply eH<;>intro an;have ao:a≠0:=(oP an);rw[mL,if_neg ao] at C;refine iQ (fun b w'=>b=decide (a<2\/a>=j7.2.getD 0 0\/a∈u)/\w'=w2) ?_ ?_;refine eH (fun h=>⟨by rw[yA (Or.inl (zC h))],rfl⟩) (fun h=>?_);have h1:=zB h;refine gI (oA H.own 0 rfl (j7.2.getD 0 0) (Ep O 0 oM) ?_);refine eH (fun h=>⟨by rw[yA (Or.inr (Or.inl (zC h)))],rfl⟩) (fun h=>?_);have U:=zB h;refine qsc H.map fun x hx=>⟨?_,rfl⟩;rw[hx];refine decide_eq_decide.2 ⟨fun h=>.inr (.inr h),fun h=>?_⟩;rcases h with h|h|h;exact absurd h h1;exact absurd h U;exact h;rintro b w3 ⟨rfl,rfl⟩;apply eH<;>intro h;have h:=zC h;rw[if_pos h] at C;exact R (by rw[I,<- C]) w3 aE;have ag:=zB h;rw[if_neg ag] at C;have bf:2<=a:=oJ;have bg:a<j7.2.getD 0 0:=oJ;have aF:a∉u:=fun h=>ag (.inr (.inr h));obtain⟨o,hr,hm⟩:=FE (v:=.i 1) qA0 H.map a;refine Ev _ hr ?_;have ap:iv a (.i 1) (lU u)=lU (u++[a]):=by rw[iv,(FX a u).2 aF];simp[lU]
 rw[ap] at hm;have aG:=H.map.lt;have fm:Fr [r] w3 (i8 w3 r o):=zq aG o;have aH:r≠pb:=(by have:=H.nr;omega);have ac:=H.own.q8 fm (fun b E=>by simp only[zE] at E;subst E;exact .inr H.nr) (fun p hp=>by simp at hp;subst hp;simpa using fun e=>aH e.symm);have aq:=H.b1.q8 fm (fun b E=>by simpa using (H.n1 b E).2.1);have aI:=H.b2.q8 fm (fun b E=>by simpa using (H.n2 b E).2);generalize i8 w3 r o=w4 at hm fm ac aq aI;refine gI (oA ac 0 rfl (pW dbk) qBu ?_);rw[gd a oJ];refine EA (aD ac.fr) hD fun s5 B5 w5 b5 f5 n5=>?_;have ar:=ac.q7 f5;apply eH<;>intro h;have h:(eK D a).2≠0:=(oP h);rw[if_pos h] at C;exact R (by rw[I,<- C]) w5 ar.fr;have h:¬(eK D a).2≠0:=(oP h);rw[if_neg h] at C;refine Hd (b5.kF lZ (S:=[]) oL) (half ar.fr) (wV hD a).1 (by have:=(wV hD a).2;omega) fun s6 B6 w6 b6 f6 n6=>?_;have aK:=ar.q7 f6;refine iQ (fun b w'=>b=decide ((fw a (eK D a).1).2.2≠0\/(fw a (eK D a).1).1≠2)/\w'=w6) ?_ ?_;apply eH<;>intro h;have h:(fw a (eK D a).1).2.2≠0:=(oP h);exact⟨by rw[yA (Or.inl h)],rfl⟩;have h:(fw a (eK D a).1).2.2=0:=(oP h);refine⟨?_,rfl⟩;by_cases U:(fw a (eK D a).1).1=2<;>simp[h,U];rintro b bj ⟨rfl,rfl⟩;apply eH<;>intro h;have h:=zC h;rw[if_pos h] at C;exact R (by rw[I,<- C]) bj aK.fr;have h:=zB h;rw[if_neg h] at C;have aL:=qqx (wV hD a).1 a;refine qwb (b6.kF lZ (S:=[]) oL) aL.1 (by have:=aL.2;have:=(wV hD a).2;omega) fun s7 B7 w7 b7 f7 n7=>?_;have aM:=aK.q7 f7;apply eH<;>intro h;have h:(iS (fw a (eK D a).1).2.1).2.2≠0:=(oP h);rw[if_pos h] at C;exact R (by rw[I,<- C]) w7 aM.fr;have h:¬(iS (fw a (eK D a).1).2.1).2.2≠0:=(oP h);rw[if_neg h] at C;have bk:=qvK (fw a (eK D a).1).2.1;have aN:=qvJ (fw a (eK D a).1).2.1;generalize iS (fw a (eK D a).1).2.1=pv at C b7 bk aN;have bl:=(f5.trans f6).trans f7;have bm:=H.len;have bn:u.length<=4096:=oJ;have J:=aM.drew;have ad:Fr [] w4 w7.drew:=bl.drew;have au:=aq.q7 ad;have av:=aI.q7 ad;have aO:=hm.q8 ad oL;have aP:=b7.q7 ((Fr.refl [] w7).drew);have l7:∀b∈B7,w4.heap.size<=b:=fun b E=>zL (f5.trans f6).size (n7 b E);have cc:r<w4.heap.size:=hm.lt;generalize w7.drew=wd at J ad au av aO aP;refine gI (oA J 0 rfl sl (xm O 0 oM) ?_);refine gI (oA J 0 rfl sn (xm O 1 oM) ?_);refine oB J fun rn w8 e8 f8 ae=>ka (ae.cell 1 rfl (xm O 1 oM)) (ae.cell 1 rfl (xm O 0 oM)) ?_;have aT:Rd [] w8 ⟨pW rn,1,1⟩ [a]:=by
  refine⟨rfl,zM _,.inr ⟨rn,0,_,_,_,rfl,ae.at (i:=0) rfl,oL,fun i x hx=>?_⟩⟩;match i with
  | 0=>simp at hx;subst hx;rfl
  | i+1=>simp at hx
 refine qAF (s:=sl) (src:=⟨pW rn,1,1⟩) (au.q7 f8) aT oO fun s9 B9 w9 b9 f9 n9=>?_;have cd:∀b∈B1,b<wd.heap.size:=fun b E=>au.lt b E;have bu:∀b∈B2,b<wd.heap.size:=fun b E=>av.lt b E;have bv:wd.heap.size<=w8.heap.size:=f8.size;have ce:w4.heap.size<=wd.heap.size:=ad.size;have cf:w.heap.size<=w4.heap.size:=ac.fr.size;have aV:=(ae.sub (L':=[(pb,_)]) (List.Sublist.cons _ (List.Sublist.refl _))).q8 f9 (fun b E=>.inr (H.n1 b E).1) (fun p hp E=>by simp at hp;subst hp;have:=(H.n1 _ E).1;dsimp only at this;omega);refine iM (aV.cell 0 rfl (xm O 1 oM)) ?_;have bx:=(av.q7 f8).q8 f9 (fun b E aw=>(H.n1 b aw).2.2 E);have bz:Rd [] w9 s7 pv.2.1:=((aP.q7 f8).q8 f9 (fun b E aw=>by have:=l7 b E;have:=aq.lt b aw;omega)).kF ug oL;refine qAF bx bz oJ fun aW ax cg bA ay aX=>?_;have bN:wd.heap.size<=w9.heap.size:=zL bv f9.size;have aY:=aV.q8 ay (fun b E=>.inr (H.n2 b E).1) (fun p hp E=>by simp at hp;subst hp;have:=(H.n2 _ E).1;dsimp only at this;omega);have V:∀b∈B9,w.heap.size<=b/\b≠r/\b∉B2/\b<w9.heap.size:=fun b E=>by refine⟨?_,?_,?_,b9.lt b E⟩;rcases n9 b E with h|h;exact (H.n1 b h).1;omega;rcases n9 b E with h|h;exact (H.n1 b h).2.1;omega;rcases n9 b E with h|h;exact (H.n1 b h).2.2;intro U;have:=bu b U;omega
 have ai:∀b∈ax,w.heap.size<=b/\b≠r:=fun b E=>by rcases aX b E with h|h;exact H.n2 b h;constructor<;>omega
 have aZ:=b9.q8 ay (fun b E U=>(V b E).2.2.1 U);have bB:∀b∈B9,b∉ax:=fun b E bC=>by
  rcases aX b bC with h|h;exact (V b E).2.2.1 h
  have:=(V b E).2.2.2;omega
 refine gI (oG aY 0 rfl (gr (pW dbk) j7 s9 sn Q9 Q0 wk) (qxv O) rfl (by rw[DA O,hw];exact zO rfl) fun ch a0 bD=>?_);refine gI (oG a0 0 rfl (gr (pW dbk) j7 s9 aW Q9 Q0 wk) (qxw O) rfl (by rw[DA O,hw];exact zO rfl) fun ci a1 bE=>?_);have Q:=bD.trans bE;have az:∀b,w.heap.size<=b->b∉[pb]:=fun b E=>by simp;omega
 have aj:=(((aO.q8 f8 oL).q8 f9 (fun h=>(H.n1 r h).2.1 rfl)).q8 ay (fun h=>(H.n2 r h).2 rfl)).q8 Q (az r H.nr);refine hX _ _ ⟨u++[a],Q6++pv.2.1,s9,aW,B9,ax,f,⟨a1,aZ.q8 Q (fun b E=>az b (V b E).1),bA.q8 Q (fun b E=>az b (ai b E).1),aj,fun b E=>⟨(V b E).1,(V b E).2.1,bB b E⟩,ai,H.nr,aN,?_,?_,?_⟩,?_,C⟩ ?_;rw[yM];exact⟨H.nodup,oL,fun x hx y hy=>by simp at hy;subst hy;exact fun e=>aF (e▸hx)⟩;intro x hx;rcases zD.1 hx with h|h;exact H.range x h;simp at h;subst h;exact⟨bf,bg⟩;rw[zF,zF];have:[a].length=1:=rfl;omega;rw[zF];have:[a].length=1:=rfl;omega;have key:∀ {w':World} {l:List Int},jP kX w' r (lU l)->(match w'.heap[r]? with|some (.map es _)=>F0-es.size|_=>0)=F0-l.length:=by
  rintro w' l ⟨es,c,h1,U,_⟩;rw[h1]
  have:=congrArg List.length U
  simp[lU] at this;simp[this]
 rw[key aj,key H.map,zF];have:[a].length=1:=rfl;omega;have ao:a=0:=(oP an);subst ao;rw[mL,if_pos rfl] at C;rw[<- C] at I;dsimp only at I;refine gI (oA H.own 0 rfl sn (xm O 1 oM) ?_);have rn:Rd [] w2 sn Q6:=H.b2.kF ug oL;have cj:=rn.1;have bm:=H.len;have bn:u.length<=4096:=oJ;refine jT (fun x w'=>w'=w2/\∃i:Nat,x.2=i/\i<=Q6.length/\k8 (j7.2.getD 0 0) u x.1 (Q6.drop i)=k8 (j7.2.getD 0 0) u 0 Q6) (fun x _=>((Q6.length:Int)-x.2).toNat) ⟨rfl,0,rfl,oJ,rfl⟩ ?_;rintro⟨a2,ii⟩ w' ⟨rfl,i,a3,hi,hn⟩ Z hZ;simp only at a3 hn;subst a3;apply cD<;>intro hc;have a4:i<Q6.length:=(by have:=hc;dsimp only at this;omega);refine Rd.at rn i rfl (zA a4) ?_;rw[zY a4,k8] at hn;refine iQ (fun b w3=>b=(decide (Q6[i]<=a2)||decide (Q6[i]>=j7.2.getD 0 0)||decide (Q6[i]∈u))/\w3=w') ?_ ?_;refine eH (fun h=>⟨by rw[h];rfl,rfl⟩) fun h=>gI (oA H.own 0 rfl (j7.2.getD 0 0) (Ep O 0 oM) ?_);refine eH (fun U=>⟨by rw[h,U];rfl,rfl⟩) fun U=>qsc H.map fun x hx=>⟨?_,rfl⟩;rw[hx,h,U];rfl;rintro b w3 ⟨rfl,rfl⟩;apply eH<;>intro h;rw[h] at hn;refine R ?_ w3 aE;rw[I,if_neg];rw[<- hn];simp;rw[h] at hn;rw[gd _ oN];exact hZ _ _ ⟨rfl,i+1,oL,oJ,by simpa using hn⟩ oN;have:i=Q6.length:=(by have:=hc;dsimp only at this;omega);subst this;rw[drop_length] at hn;have bF:k8 (j7.2.getD 0 0) u 0 Q6=true:=hn.symm;have J:=H.own.drew;refine gI (oA J 0 rfl sn (xm O 1 oM) ?_);refine gI (oA J 0 rfl (j7.2.getD 2 0) (Ep O 2 oM) ?_);rw[gd _ oJ];by_cases hfree:(Q6.length:Int)=j7.2.getD 2 0;rw[if_pos ⟨bF,hfree⟩] at I;have e:((sn.len:Int)==j7.2.getD 2 0)=true:=(by rw[yP];omega);rw[e];refine hk sl sn u Q6 _ I J fun G hG=>?_;have al:∀b,w.heap.size<=b->b∉G:=fun b E h=>by have:=hG b h;omega
 exact⟨(H.b1.q7 ((Fr.refl [] w').drew)).kF ug fun b E=>al b (H.n1 b E).1,(H.b2.q7 ((Fr.refl [] w').drew)).kF ug fun b E=>al b (H.n2 b E).1⟩;have e:((sn.len:Int)==j7.2.getD 2 0)=false:=(by rw[zR];omega);rw[e];exact R (by rw[I,if_neg (fun h=>hfree h.2)]) _ J.fr
def qmk{s:Sl}(h:eF S w s l):(Extern.Bytes.bytesOf (.slice s.a s.len s.cap)).run prog w=.ok ⟨(Lib.bytesOf l).toArray⟩ w:=by
 have hlen:=h.1;cases ha:s.a with
 | none=>
  have hl0:l=[]:=by rcases h.2.2 with h3|⟨b,o,cs,T,fr,ha',_⟩;exact h3;rw[ha] at ha';cases ha'
  subst hl0;rfl
 | some a=>
  have hc:=h.cells lZ ha
  have:=Lib.run_loadBytesX (P:=prog) w l a .empty (fun j x hj=>hc j (.int .u8 x) (by rw[sR,zQ,hj];rfl))
  rw[hlen];show (Extern.Bytes.loadBytes a l.length .empty).run prog w=_;rw[this];have e:(#[]:Array UInt8)++(Lib.bytesOf l).toArray=(Lib.bytesOf l).toArray:=oL;exact congrArg (fun d=>Result.ok (ByteArray.mk d) w) e
def qgJ:∀ {a b:List Int},eS a->eS b->Lib.compareBytes (Lib.bytesOf a) (Lib.bytesOf b)=cmpL a b
 | [],[],_,_=>rfl
 | [],y::b,_,_=>rfl
 | x::a,[],_,_=>rfl
 | x::a,y::b,I,J=>by
  have C:=I x oL;have E:=J y oL;have ih:=qgJ (a:=a) (b:=b) (fun z G=>I z (zN _ G)) (fun z G=>J z (zN _ G));have e:∀ {u v:Int},(0<=u/\u<256)->(0<=v/\v<256)->(u.toNat.toUInt8<v.toNat.toUInt8↔u<v):=fun {u v} O Q=>by rw[UInt8.lt_iff_toNat_lt];simp;omega
  show (if x.toNat.toUInt8<y.toNat.toUInt8 then (-1:Int) else if y.toNat.toUInt8<x.toNat.toUInt8 then 1 else Lib.compareBytes (Lib.bytesOf a) (Lib.bytesOf b))=cmpL (x::a) (y::b);rw[cmpL,ih];by_cases h1:x<y;rw[if_pos ((e C E).2 h1),if_pos h1];rw[if_neg (fun h=>h1 ((e C E).1 h)),if_neg h1];by_cases h2:y<x;rw[if_pos ((e E C).2 h2),if_pos h2];rw[if_neg (fun h=>h2 ((e E C).1 h)),if_neg h2]
def qth{S':List Nat}{s u:Sl}(h:eF S w s l)(E:eF S' w u l')(G:eS l)(C:eS l'): (Extern.BytealgCompare.compare #[s.v,u.v]).run prog w=.ok (.i (cmpL l l')) w:=by show Sem.run prog (do pure (goInt (Extern.BytealgCompare.cmp (<- Extern.Bytes.bytesOf s.v) (<- Extern.Bytes.bytesOf u.v)))) w=_;have e:=qgJ G C;simp only[Sem.run_bind,qmk h,Result.andThen_ok,qmk E,Lib.cmp_eq];rw[e];rfl
def CP{S':List Nat}{s C:Sl}(h:eF S w s l)(E:eF S' w C l')(G:eS l)(u:eS l')(I:K (cmpL l l') w): cW 131 [s.v,C.v] de w K:=by exact qvy<|qm9<|CM (e:=Extern.BytealgCompare.compare) Tryz.func204 oK oK oK oK (cmpL l l') w (qth h E G u) I
def gT (s:Sl):List Value:=[s.v]
def xa(s:Sl):(gT s).length=1:=rfl
def qwJ(s:Sl):∀u∈gT s,u.oneCell'=true:=fun u h=>by rw[zE.1 h];rfl
abbrev qy:=List (Sl×Key)
abbrev i3 (ps:qy):List Sl:=ps.map (·.1)
abbrev gM (ps:qy):List Key:=ps.map (·.2)
def jO (S:List Nat) (w:World) (s:Sl) (ps:qy):Prop:=dX gT 1 S w s (i3 ps)/\∀p∈ps,eF S w p.1 p.2
def jO.q8{S S':List Nat}{w w':World}{s:Sl}{ps:qy}(h:jO S w s ps)(f:Fr S w w')(u:∀b∈S',b∈S\/w.heap.size<=b):jO S' w' s ps:=⟨h.1.q8 f u,fun p C=>(h.2 p C).q8 f u⟩
def jO.q7{S:List Nat}{w w':World}{s:Sl}{ps:qy}(h:jO S w s ps)(f:Fr [] w w'):jO S w' s ps:=⟨h.1.q7 f,fun p u=>(h.2 p u).q7 f⟩
def jO.len{S:List Nat}{w:World}{s:Sl}{ps:qy}(h:jO S w s ps):s.len=ps.length:=by rw[h.1.1,zK]
def jO.nil(S:List Nat)(w:World):jO S w dI []:=⟨.nil _ _ _ _,fun p h=>nomatch h⟩
def jO.get{S:List Nat}{w:World}{s:Sl}{ps:qy}(h:jO S w s ps)(n:Nat){i:Int}{K:Sl->Prop}(hi:i=n)(u:n<ps.length)(C:K ps[n].1):idx s i 1 fun a=>ld .slice a w K:=
 dX.get h.1 n hi (x:=ps[n].1) (by rw[zQ,zA u];rfl) (y:=ps[n].1) rfl C
def andThen_ok:andThen (D,0) f=f D:=if_pos rfl
structure nz (s:p6):Prop where
 seq:0<=s.1/\s.1<4611686018427387904
 len:s.2.length=27
 u32:∀ x∈s.2,iy x
def nz.place(h:nz s):Int.tmod s.1 2=s.1%2:=Int.tmod_eq_emod_of_nonneg h.seq.1
def nz.i4{s:p6}(h:nz s):i4 s=(s.1%2,fE (s.1%2) 1 (gZ s.1 s.2)):=by rw[Go.Proofs.YtfneoijhmknlnaaGreatDoor.i4,h.place,pa _ oJ]
def nz.read(h:nz s):fy (s.1%2) (fE (s.1%2) 1 (gZ s.1 s.2))=(s,0):=by
 have:=h.seq
 exact qtH (by constructor<;>omega) h.len h.u32 h.place
def nz.vO(h:nz s)(p:Int):(fE p 1 (gZ s.1 s.2)).length=512:=CQ (by rw[AH h.len];decide)
def fj.Al(h:fj D)(C:nz s)(hz:8<=D.size): ∃D',qf D s=(D',0)/\fj D'/\D'.size=D.size/\D'.Q4=[]/\view D' (s.1%2)=fE (s.1%2) 1 (gZ s.1 s.2)/\∀m,0<=m->m≠s.1%2->view D' m=view D m:=by obtain⟨D1,e1,I,J,E⟩:=h.write (n:=s.1%2) (l:=fE (s.1%2) 1 (gZ s.1 s.2)) oJ (C.vO _);obtain⟨O,Q,R,U,w2,G⟩:=I.sync;refine⟨O,?_,R,U.trans J,w2,by rw[G _ oJ,E,if_pos rfl],fun m V u=>by rw[G m V,E,if_neg u]⟩;rw[qf,C.i4];show andThen (ft D (s.1%2) _) ij=_;rw[e1];exact Q
def qtI{p:Int}:(fy p (zs 512)).2≠0:=by have u:(fw p (zs 512)).1=0:=(by unfold fw;split<;>(try rfl);split<;>(try rfl);split<;>(try rfl);split<;>(try rfl);split<;>rfl);unfold fy;generalize fw p (zs 512)=o at u⊢;by_cases h:o.2.2≠0;rw[if_pos h];exact h;have C:o.1≠1\/o.2.1.length≠116:=.inl (by rw[u];decide);rw[if_neg h,if_pos C];exact (by decide:(2:Int)≠0)
def qtZ{n i:Nat}(h:i<n-2):(fX n)[i]?=some ((i:Int)+2):=by rw[fX,zQ,List.getElem?_range h];rfl
def EJ(n:Nat):(fX n).length=n-2:=by simp[fX]
def Eu{n:Nat}{x:Int}:x∈fX n↔2<=x/\x<n:=by rw[fX,mem_map];constructor;rintro⟨i,h,rfl⟩;rw[mem_range] at h;omega;rintro⟨u,C⟩;exact⟨(x-2).toNat,by rw[mem_range];omega,oJ⟩
def GL(n:Nat):(fX n).Pairwise (· < ·):=by rw[fX,pairwise_map];exact pairwise_lt_range.imp (fun h=>oJ)
def qol{n:Nat}:n<=124*gG n:=by
 unfold gG;split;omega
 have:=Nat.div_add_mod (n-1) 124
 have:=Nat.mod_lt (n-1) (show 0<124 by decide)
 omega
def FN{n:Nat}:gG n<=n:=by
 unfold gG;split;omega
 have:=Nat.div_le_self (n-1) 124
 omega
def qn5{n:Nat}:nP n ((fX n).drop (gG (fX n).length)) ((fX n).take (gG (fX n).length)) where
 cV:=(GL n).sublist (drop_sublist _ _)
 oq:=fun x u=>Eu.1 (yU u)
 ur:=fun x u=>Eu.1 (yV u)
 nodup:=(Ds (GL n)).sublist (take_sublist _ _)
 J0:=fun x u C=>by have h:=Ds (GL n);rw[<- xE (gG (fX n).length) (fX n),yM] at h;exact h.2.2 x u x C rfl
 room:=by have G:=qol (n:=(fX n).length);have E:=FN (n:=(fX n).length);rw[yC,yL,xR E];omega
def Ig{n:Nat}(u:8<=n)(C:n<=4096):nz (lf n) where
 seq:=⟨(by decide:(0:Int)<=1),(by decide:(1:Int)<4611686018427387904)⟩
 len:=rfl
 u32:=fun x h=>by
  simp only[lf,zD,zG,xX,or_false] at h;rcases h with (rfl|rfl|rfl)|h;exact zz _;exact⟨oM,oM⟩;exact zz _
  have:=eq_of_mem_replicate h
  subst this;exact⟨oM,oM⟩
def qr4{n:Nat}(h:fj D)(hn:D.size=n)(h8:8<=n)(h4:n<=4096): ∃D',mc D=(D',0)/\fj D'/\D'.size=n/\D'.Q4=[]/\qg D' (lf n) ((fX n).take (gG (fX n).length)) ((fX n).drop (gG (fX n).length))/\view D' 0=zs 512:=by
 have ak:D.Q3.length=n:=(by have:(D.Q3.length:Int)=n:=hn;omega);obtain⟨D1,e1,q1,s1,v1⟩:=h.write (n:=0) (l:=zs 512) oJ (qL _);obtain⟨D2,e2,q2,s2,v2⟩:=q1.write (n:=1) (l:=zs 512) oJ (qL _);obtain⟨J,e3,q3,s3,w3,v3⟩:=q2.sync;have C:J.size=n:=oJ;have O:J.Q3.length=n:=(by have:(J.Q3.length:Int)=n:=C;omega);have u:=qn5 (n:=n);rw[<- C] at u;obtain⟨Q,e4,q4,s4,w4,l4,v4⟩:=q3.spread u;have R:Q.size=n:=oJ;have U:Q.Q3.length=n:=(by have:(Q.Q3.length:Int)=n:=R;omega);obtain⟨V,e5,q5,s5,w5,p5,v5⟩:=q4.Al (Ig h8 h4) oJ;have E:(lf n).1%2=1:=rfl;rw[E] at p5 v5;have G:=u.ur;have z0:view V 0=zs 512:=(by rw[v5 0 oM oM,v4 0 oM (fun hm=>by have:=G 0 hm;omega),v3 0 oM,v2,if_neg oM,v1,if_pos rfl]);refine⟨V,?_,q5,oJ,w5,?_,z0⟩;rw[mc,e1,andThen_ok,e2,andThen_ok,e3,andThen_ok,O,e4,andThen_ok,U,e5];have aC:1<=gG (fX n).length:=by
  have:=qol (n:=(fX n).length)
  rw[EJ] at this⊢;omega
 refine { down:=q5.down,size:=by omega,uU:=?_,blocks:=?_,list:=?_,J8:=?_,ok:=by rw[show V.size=J.size by omega];exact u,listed:=fun i p hp=>?_ };have hr:=(Ig h8 h4).read;rw[E] at hr;rw[z0,p5,iC,hr,if_neg oL,if_pos (.inl qtI)];show wrap .u32 (n:Int)=_;rw[pa _ oJ];omega;have:(fX n).take (gG (fX n).length)=2::((fX n).take (gG (fX n).length)).drop 1:=by
  have I:(fX n)[0]?=some 2:=(by rw[qtZ oJ];rfl);obtain⟨k,hk⟩:∃k,gG (fX n).length=k+1:=⟨gG (fX n).length-1,oJ⟩;rw[hk];cases hA:fX n with
  | nil=>rw[hA] at I;cases I
  | cons a r=>rw[hA] at I;simp at I;subst I;rfl
 rw[this];rfl;show wrap .u32 _=_
 have:=FN (n:=(fX n).length)
 rw[yC,pa _ (by rw[EJ] at *;omega)];omega
 have:=G p (yF hp)
 rw[v5 p oJ oJ];exact l4 i p hp
def qvH(n:Nat):fj (nS n):=⟨rfl,rfl,fun x h=>by cases h⟩
def qxh(n:Nat):(nS n).size=n:=by show ((List.replicate n mz.zero).length:Int)=n;simp
def iD (D:dM):p6×Int:=
 if (eK D 0).2≠0 then (jv,(eK D 0).2) else if (eK D 1).2≠0 then (jv,(eK D 1).2) else iC (eK D 0).1 (eK D 1).1
def qty(D:dM):(iD D).1.2.length=27:=by unfold iD;split;rfl;split;rfl;exact qmF _ _
def qu3{K:List Value×Int->WP}(h:fu w dbk FD D)(I:D.Ok)(R:Hv w)(O:∀w',Fr [] w w'->K (fR (iD D).1.1 (iD D).1.2,(iD D).2) w'): cW 144 [dH dbk] dA w K:=by
 refine qoz<|oI (oE [] w) wq fun r w1 e1 C=>EA (h.q7 C.fr) I fun s2 B2 w2 U V n2=>?_;have C:=C.q7 V;apply eH<;>intro u;have u:(eK D 0).2≠0:=(oP u);refine AY<|vq C 0 rfl rfl rfl fun J E=>?_
 have:=O J E
 rw[iD,if_pos u] at this;exact this;have G:¬(eK D 0).2≠0:=(oP u);refine EA (h.q7 C.fr) I fun s3 B3 J b3 E n3=>?_;have C:=C.q7 E;apply eH<;>intro u;have u:(eK D 1).2≠0:=(oP u);refine AY<|vq C 0 rfl rfl rfl fun J E=>?_
 have:=O J E
 rw[iD,if_neg G,if_pos u] at this;exact this;have Q:¬(eK D 1).2≠0:=(oP u);have i0:=wV I 0;have i1:=wV I 1;refine qu9 ((U.q7 E).kF lZ (S:=[]) oL) (b3.kF lZ (S:=[]) oL) (R.q7 C.fr) i0.1 i1.1 oJ oJ fun w4 f4=>vq (C.q7 f4) 0 rfl rfl (qmF _ _) fun w5 f5=>?_
 have:=O w5 f5
 rw[iD,if_neg G,if_neg Q] at this;exact this
def qst(D:dM):nm D=if (iD D).2≠0 then (none,(iD D).2) else if (iD D).1.2.getD 0 0≠D.Q3.length then (none,2) else match pJ D (iD D).1 with|none=>(none,2)|some x=>(some (kP (iD D).1 x.1 x.2 1 false x.2),0):=by unfold nm iD;by_cases h0:(eK D 0).2≠0;rw[if_pos h0,if_pos h0];exact (if_pos h0).symm;rw[if_neg h0,if_neg h0];by_cases h1:(eK D 1).2≠0;rw[if_pos h1,if_pos h1];exact (if_pos h1).symm;rw[if_neg h1,if_neg h1]<;>rfl
def pgZ:(prog.info? tJ).bind (·.zero)=some (.agg (gr none jv dI dI 0 false (kr none none none (zs 24)))):=by kernel_rfl
def qyp{d:Option Addr}{q:Int}{t:List Int}(h:t.length=27)(w:World): (Instr.build tJ #[(0,.pointer d),(1,.agg (fR q t).toArray)]).run prog w=.ok (.agg (gr d (q,t) dI dI 0 false (kr none none none (zs 24)))) w:=by
 refine HX (parts:=[(0,.pointer d),(1,.agg (fR q t).toArray)]) (offs:=#[(0,1),(1,28),(29,1),(30,1),(31,1),(32,1),(33,27)]) pgZ oK (fun w=>oK) ?_ w;have u:(Value.agg (fR q t).toArray).cells.size=28:=Gl h;rw[vt (o:=0) (s:=1) rfl rfl (zO rfl),vt (o:=1) (s:=28) rfl u (zO rfl)];show some _=_;congr 1;have C:dT (Value.agg (gr none jv dI dI 0 false (kr none none none (zs 24)))).cells 0 (Value.pointer d).cells.toList=gr d jv dI dI 0 false (kr none none none (zs 24)):=rfl;rw[C]
 have:=uu (A:=[Value.pointer d]) (X:=fR 0 (zs 27)) (Y:=fR q t) (Z:=[.slice none 0 0,.slice none 0 0,.i 0,.bool false]++kr none none none (zs 24)) (by rw[sP h];rfl)
 refine Eq.trans ?_ (this.trans ?_);show dT (gr d jv dI dI 0 false (kr none none none (zs 24))) 1 (fR q t)=_;congr 1;simp[gr]
def qoK(place:Int)(l:List Int):∀x∈(fy place l).1.2,iy x:=by
 have h:∀x∈jv.2,iy x:=fun x u=>by
  have:=eq_of_mem_replicate (show x∈List.replicate 27 (0:Int) from u)
  subst this;exact⟨oM,oM⟩
 unfold fy;split;exact h;split;exact h;split;exact h;intro x u;obtain⟨i,_,rfl⟩:=mem_map.1 u;exact qkw
def qtz(D:dM):∀x∈(iD D).1.2,iy x:=by
 have h:∀x∈jv.2,iy x:=fun x u=>by
  have:=eq_of_mem_replicate (show x∈List.replicate 27 (0:Int) from u)
  subst this;exact⟨oM,oM⟩
 unfold iD;split;exact h;split;exact h;unfold iC;split;exact h;split;exact qoK _ _;exact qoK _ _
def qyE(h:∀x∈l,iy x)(n:Nat):iy (l.getD n 0):=by
 rw[yR];cases u:l[n]? with
 | none=>exact⟨oM,oM⟩
 | some x=>exact h x (yF u)
def qwf{K:Option Addr×Int->WP}(X:List Nat)(aq:∀b∈X,b<w.heap.size)(h:fu w dbk FD D)(hD:D.Ok)(hv:Hv w)(aj:(nm D).1=none->∀w',Fr [] w w'->K (none,(nm D).2) w')(hk:∀pb F M w',nm D=(some M,0)->fP w' X pb (pW dbk) F M->Fr [] w w'->(∀b∈F,w.heap.size<=b)->K (pW pb,0) w'): cW 98 [dH dbk] dE w K:=by
 refine qre<|qu3 h hD hv fun w1 f1=>?_;have O:=qty D;have hu:=qyE (qtz D);have C:=qst D;generalize hs:iD D=sm at O hu C;obtain⟨j7,e⟩:=sm;simp only at O hu C;refine oI ((oE [] w).q7 f1) wq fun r w2 e2 ho=>C6 ho 0 rfl rfl O fun w3 ho=>?_;apply eH<;>intro Q;have Q:e≠0:=(oP Q);rw[if_pos Q] at C
 have:=aj (by rw[C]) w3 ho.fr
 rw[C] at this;exact this;have av:¬e≠0:=(oP Q);rw[if_neg av] at C;refine Ap (ho.at (i:=0) rfl) O<|sI (ts:=[iJ.oc]) (gr (pW dbk) (j7.1,j7.2) dI dI 0 false (kr none none none (zs 24))).toList (qyp O w3)<|oB ho fun pb R e4 f4 ah=>?_;have J:=ah.fr;have ak:=h.q7 J;have al:∀b∈FD,b<R.heap.size/\b≠pb:=fun b E=>by
  have h1:=h.lt b E
  have:=J.size
  have:=ho.fr.size
  constructor<;>omega
 have ai:∀b∈X,b<R.heap.size/\b≠pb:=fun b E=>by
  have h1:=aq b E
  have:=J.size
  have:=ho.fr.size
  constructor<;>omega
 have ax:=hD.Q3;have U:R.heap[pb]?=some (.cells (gr (pW dbk) j7 dI dI 0 false (kr none none none (zs 24))) tJ (0,0)):=ah.at (i:=0) rfl;have af:R.heap[r]?=some (.cells (fR j7.1 j7.2).toArray 238 (0,0)):=ah.at (i:=1) rfl;have ab:w.heap.size<=pb:=(by have:=ho.fr.size;omega);have ay:pb≠HG:=(by have:=hv.lt;omega);refine iQ (fun b w'=>(b=true/\(nm D).1=none/\(nm D).2=2/\Fr [] w w')\/(b=false/\∃sl sn G Q6,nm D=(some (kP j7 G Q6 1 false Q6),0)/\dR [pb] R w' [(pb,.cells (gr (pW dbk) j7 sl sn 0 false (kr none none none (zs 24))) tJ (0,0))]/\Rd (X++[pb]) w' sl G/\Rd (X++[pb]) w' sn Q6/\Q6.Pairwise (· < ·)/\Q6.length<=100000)) ?_ ?_;refine jM (w:=R.drew) (c:=.u) af (j7.2.getD 0 0) (CS 0 oJ)<|Fq (ak.q7 (Fr.refl [] R).drew)<|iM (by show _=_;rw[kj (w:=R.drew) af];exact CS 0 oJ) ?_;rw[pa (D.Q3.length:Int) oJ];apply eH<;>intro Q;have Q:j7.2.getD 0 0≠(D.Q3.length:Int):=by intro h;rw[h] at Q;simp at Q
 rw[if_pos Q] at C;exact .inl ⟨rfl,by rw[C],by rw[C],J.drew⟩;have Q:j7.2.getD 0 0=(D.Q3.length:Int):=by by_cases h:j7.2.getD 0 0=(D.Q3.length:Int);exact h;rw[show ((j7.2.getD 0 0==(D.Q3.length:Int))=false) by rw[zR];exact h] at Q;cases Q
 rw[if_neg (by rw[Q];simp)] at C;have ac:Fr [] R R.drew:=(Fr.refl [] R).drew;refine qx5 (pb:=pb) (D:=D) (j7:=j7) (FD:=FD) (w:=R.drew) U O (BU (by rfl)) (ak.q7 ac) hD ((hv.q7 J).q7 ac) (fun E=>(al pb E).2 rfl) ay oJ (hu 1) (hu 2) (fun hl w5 f5=>?_) (fun sl sn G Q6 w5 hl I am=>?_);rw[hl] at C;refine .inl ⟨rfl,by rw[C],by rw[C],(J.trans ac).j6 f5 fun b E=>by simp at E;subst E;exact .inr ab⟩;rw[hl] at C;have V:k8 (j7.2.getD 0 0) G 0 Q6=true:=by unfold pJ at hl;split at hl;cases hl;rename_i x hx;split at hl;rename_i hh;cases hl;exact hh.1;cases hl
 have V:=(FF _ _ _ _).1 V;have aa:Q6.length<=100000:=by
  have:=DE (n:=j7.2.getD 0 0+1) (l:=Q6.map (·+1)) (by
   rw[List.Nodup,pairwise_map];exact V.2.imp (fun h=>oJ)) (fun x hx=>by
   obtain⟨y,hy,rfl⟩:=mem_map.1 hx
   have:=V.1 y hy
   omega)
  rcases this with h|h;rw[zK] at h;omega
  have:=congrArg List.length h;simp at this;simp[this]
 have ag:∀b∈X++[pb],b<R.drew.heap.size:=fun b E=>by rcases zD.1 E with E|E;exact (ai b E).1;rw[zE.1 E];exact fJ U
 refine .inr ⟨rfl,sl,sn,G,Q6,C,⟨I.i9,I.nodup,(ac.mono (fun b E=>by cases E)).trans I.fr,I.own⟩,(am _ ag).1,(am _ ag).2,V.2,aa⟩;rintro b w5 (⟨rfl,h1,h2,f5⟩|⟨rfl,sl,sn,G,Q6,aA,I,r1,r2,hp,aa⟩);refine cond_true rfl ?_
 have:=aj h1 w5 f5
 rw[h2] at this;exact this;refine cond_false rfl ?_;have hX:∀b∈X,b<w5.heap.size/\b≠pb:=fun b E=>⟨yD (ai b E).1 I.fr.size,(ai b E).2⟩;refine qwe (X:=X) (I.at (i:=0) rfl) O (BU (by rfl)) oM hX r1 r2 aa fun F w6 an f6 n6=>?_;rw[qwX hp] at an;refine hk pb F _ w6 aA an ((J.j6 I.fr fun b E=>by simp at E;subst E;exact .inr ab).j6 f6 fun b E=>by simp at E;subst E;exact .inr ab) fun b E=>?_;rcases n6 b E with h|h;rw[h];exact ab;exact zL (zL J.size I.fr.size) h
structure mH (D:dM) (k:Nat):Prop where
 ok:D.Ok
 Q4:D.Q4.length<=k
 writes:D.writes<=k
def qtY(h:D.Ok):(jq D).1.Ok/\(jq D).1.writes=D.writes:=by have u:=h.y6;unfold jq;split;exact⟨⟨h.at_,u,h.Q3,h.Q4,h.writes,h.px,h.pq⟩,rfl⟩;split;exact⟨⟨h.at_,⟨by show -1<=D.y6-1;omega,by show D.y6-1<=_;omega⟩,h.Q3,h.Q4,h.writes,h.px,h.pq⟩,rfl⟩;exact⟨h,rfl⟩
def mH.mono{u:Nat}(h:mH D k)(C:k<=u):mH D u:=⟨h.ok,zL h.Q4 C,by have:=h.writes;omega⟩
def mH.write(h:mH D k)(O:k<1000000)(E:eS l):mH (ft D n l).1 (k+1):=by
 unfold ft;split;exact h.mono oJ;split;exact h.mono oJ;split;rename_i Q R C;have G:(pT D n ⟨l,C⟩).Ok:={
  at_:=fun x u=>by rcases zD.1 u with u|u;exact h.ok.at_ x u;simp at u;subst u;show 0<=n/\n<(D.Q3.length:Int);omega
  y6:=h.ok.y6
  Q3:=h.ok.Q3
  Q4:=by show (D.Q4++[_]).length<=_;have:=h.Q4;simp;omega
  writes:=⟨by show 0<=D.writes+1;have:=h.ok.writes;omega,by show D.writes+1<=_;have:=h.writes;omega⟩
  px:=h.ok.px
  pq:=fun x u=>by rcases zD.1 u with u|u;exact h.ok.pq x u;simp at u;subst u;exact E }
 obtain⟨I,J⟩:=qtY G;refine⟨I,?_,?_⟩;show (jq (pT D n ⟨l,C⟩)).1.Q4.length<=k+1;rw[(Cz _).2];show (D.Q4++[_]).length<=_
 have:=h.Q4
 simp;omega;show (jq (pT D n ⟨l,C⟩)).1.writes<=((k+1:Nat):Int);rw[J];show D.writes+1<=_
 have:=h.writes
 omega;exact h.mono oJ
def qut:∀(l:List (Int×mz)) (s:List mz),(∀x∈l,eS x.2.1)->(∀b∈s,eS b.1)->∀b∈l.foldl gL s,eS b.1
 | [],s,_,h=>h
 | x::l,s,C,h=>qut l (gL s x) (fun y E=>C y (zN _ E)) fun b u=>by rcases mem_or_eq_of_mem_set u with u|rfl;exact h b u;exact C x oL
def mH.sync(h:mH D k):mH (ij D).1 k:=by obtain⟨u,E⟩:=qtY h.ok;unfold ij;split;exact h;split;exact⟨u,by show (jq D).1.Q4.length<=k;rw[(Cz D).2];exact h.Q4,by show (jq D).1.writes<=_;rw[E];exact h.writes⟩;refine⟨⟨(fun x C=>by cases C),u.y6,?_,oL,u.writes,?_,(fun x C=>by cases C)⟩,oL,by show (jq D).1.writes<=_;rw[E];exact h.writes⟩;show (D.Q4.foldl gL D.Q3).length<=4096;rw[Ce];exact h.ok.Q3;exact qut _ _ h.ok.pq h.ok.px
def mH.then{u:Nat}(h:mH r.1 k)(C:k<=u)(E:∀D,mH D k->mH (f D).1 u):mH (andThen r f).1 u:=by unfold andThen;split;exact E _ h;exact h.mono C
def mH.tM:∀ {l:List (Int×List Int)} {D:dM} {k:Nat},mH D k->k+l.length<=1000000->(∀x∈l,eS x.2)->mH (jY l D).1 (k+l.length)
 | [],D,k,h,_,_=>h
 | x::l,D,k,h,C,u=>by
  rw[yI] at C⊢;refine mH.then (k:=k+1) (h.write oJ (u x oL)) oJ fun D' E=>?_
  have:=mH.tM (l:=l) E oJ (fun y G=>u y (zN _ G))
  rw[Nat.add_right_comm] at this;exact this
def HY:(ft D n l).1.Q3.length=D.Q3.length:=by unfold ft;split;rfl;split;rfl;split;show (jq _).1.Q3.length=_;rw[(Cz _).1];rfl;rfl
def qqN:(ij D).1.Q3.length=D.Q3.length:=by unfold ij;split;rfl;split;show (jq _).1.Q3.length=_;rw[(Cz _).1];show (D.Q4.foldl gL D.Q3).length=_;rw[Ce]
def qqO{n:Nat}(h:r.1.Q3.length=n)(u:∀D:dM,D.Q3.length=n->(f D).1.Q3.length=n):(andThen r f).1.Q3.length=n:=by unfold andThen;split;exact u _ h;exact h
def qmU:∀ {l:List (Int×List Int)} {D:dM},(jY l D).1.Q3.length=D.Q3.length
 | [],D=>rfl
 | x::l,D=>qqO HY fun D' h=>by rw[qmU,h]
def qtL{a b:List Int}:(iE D a b).1.Q3.length=D.Q3.length:=by unfold iE;split;rfl;exact qqO qmU fun D' h=>by rw[qqN,h]
def qtN:∀x∈(y5.zip (gS numbers y5).1).map fun x=>(x.1,fE x.1 2 x.2),eS x.2:=by intro x u;obtain⟨y,h,rfl⟩:=mem_map.1 u;refine GE oM ?_;have h:=(of_mem_zip h).2;unfold gS at h;split at h;cases h;split at h;cases h;obtain⟨i,_,C⟩:=mem_map.1 h;rw[<- C];exact qpX _ _
def qo4{α β:Type}(a:List α)(b:List β):(a.zip b).length<=a.length:=by rw[length_zip];exact Nat.min_le_left _ _
def mH.spread(h:mH D k)(E:k+y5.length<=1000000):mH (iE D numbers y5).1 (k+y5.length):=by
 unfold iE;split;exact h.mono oJ;have u:=qo4 y5 (gS numbers y5).1;refine mH.then (k:=k+y5.length) ?_ (zM _) fun D' C=>C.sync
 refine (mH.tM h (by rw[zK];omega) qtN).mono ?_;rw[zK];omega
def qv5(s:p6):eS (i4 s).2:=GE oM (qv4 _ _)
def qro{numbers y5:List Int}{i:Nat}{bs:List (List Int)}(h:i<y5.length)(u:i<bs.length):(y5.zip bs).drop i=(y5[i],bs[i])::(y5.zip bs).drop (i+1):=by rw[zY (by rw[length_zip];omega)];simp
def qu5{sp:Sl}(h:fu w dbk FD D)(hD:mH D k)(aP:k+y5.length<=1000000)(hv:Hv w)(hg:HG∉FD)(hn:Rd FD w sn numbers)(hp:Rd FD w sp y5)(au:numbers.length<=100000)(av:y5.length<=100000)(aw:∀x∈y5,iy x)(hk:∀F' w',fu w' dbk F' (iE D numbers y5).1->Fr FD w w'->(∀b∈F',b∈FD\/w.heap.size<=b)->K (iE D numbers y5).2 w'): cW 142 [dH dbk,sn.v,sp.v] de w K:=by
 refine qoA<|quR (G:=FD) hn hp au av h.lt fun s1 B1 w1 b1 f1 n1=>?_;apply eH<;>intro C;have C:(gS numbers y5).2≠0:=by simpa using C
 have:=hk FD w1 (by rw[iE,if_pos C];exact h.q7 f1) (f1.mono fun b u=>by cases u) (fun b u=>.inl u)
 rw[iE,if_pos C] at this;exact this;have E:¬(gS numbers y5).2≠0:=(oP C);rw[iE,if_neg E] at hk;have O:(gS numbers y5).1.length=y5.length/\∀b∈(gS numbers y5).1,b.length<=500/\eS b:=by
  unfold gS at E⊢;split;rename_i h1;rw[if_pos h1] at E;exact absurd oM E;rename_i h1;rw[if_neg h1] at E;split;rename_i h1;rw[if_pos h1] at E;exact absurd oM E;refine⟨qmi _ _ _,fun b u=>?_⟩;obtain⟨i,_,rfl⟩:=mem_map.1 u;rw[ED]
  have:=FJ numbers i
  unfold chunk at this;exact⟨oJ,qpX _ _⟩
 generalize (gS numbers y5).1=bs at hk O b1;obtain⟨J,q1,q2,q3⟩:=b1;have aW:=q1.len;have aL:=O.1;have aX:=hp.1;refine jT (fun x w'=>∃(i j:Nat) (F':List Nat) (D':dM),x=i/\i<=y5.length/\fu w' dbk F' D'/\mH D' (k+i)/\Fr FD w w'/\Fr FD w1 w'/\(∀b∈F',b∈FD\/w1.heap.size<=b)/\
   andThen (jY ((y5.zip bs).map fun x=>(x.1,fE x.1 2 x.2)) D) ij=andThen (jY (((y5.zip bs).drop i).map fun x=>(x.1,fE x.1 2 x.2)) D') ij) (fun x _=>((y5.length:Int)-x).toNat)
  ⟨0,0,FD,D,rfl,oJ,h.q7 f1,hD,f1.mono (fun b u=>by cases u),.refl _ _,fun b u=>.inl u,rfl⟩ ?_
 rintro x w2 ⟨i,j,F',D',rfl,hi,ag,ab,f2,Q,n2,he⟩ X hX;have ax:=hv.q8 f2 hg;have aZ:=f1.size;apply eH<;>intro C;have R:i<y5.length:=(by have:=zC C;dsimp only at this;omega);have U:i<bs.length:=oJ;have ai:i<J.length:=oJ;have ay:dX uL 1 FD w1 s1 J:=q1.kF qrS (fun b u hm=>by have:=h.lt b hm;have:=n1 b u;omega);have aj:dX uL 1 FD w2 s1 J:=ay.q8 Q (fun b u=>.inl u);have ak:Rd FD w2 sp y5:=hp.q8 f2 (fun b u=>.inl u);refine dX.get (y:=J[i]) aj i rfl (zA ai) rfl<|Rd.at ak i rfl (zA R) ?_;have al:eF FD w1 J[i] bs[i]:=(q3 i _ _ (zA ai) (zA U)).j4 fun b u=>.inl (zH _ u);have ac:eF FD w2 J[i] bs[i]:=al.q8 Q (fun b u=>.inl u);have az:=(O.2 _ (zX U)).1;have a1:=aw _ (zX R);refine quG ac ax oJ (fun h=>oJ) fun _ b3 T3 w3 c3 f3 n3=>Rd.at (ak.q7 f3) i rfl (zA R) ?_;rw[gd y5[i] oJ];have V:=CQ (number:=y5[i]) (kind:=2) az;refine qpT (S:=[]) (ag.q7 f3) ab.ok (zo (o:=0) (n:=512) c3 (by rw[V];exact zM _) (zM _) oL) fun F4 w4 d4 f4 n4=>?_;rw[xF,zS (by rw[V];exact zM _)] at d4⊢;have I:∀b∈F',b∈FD\/w.heap.size<=b:=fun b u=>by rcases n2 b u with h|h;exact .inl h;exact .inr oJ
 have a4:w2.heap.size<=w3.heap.size:=f3.size;have a5:=Q.size;have am:Fr FD w w4:=(f2.j6 f3 oL).j6 f4 I;have aE:Fr FD w1 w4:=(Q.j6 f3 oL).j6 f4 n2;have an:∀b∈F4,b∈FD\/w1.heap.size<=b:=fun b u=>by rcases n4 b u with h|h;exact n2 b h;exact .inr oJ
 rw[qro R U (numbers:=numbers),xO,jY] at he;apply eH<;>intro C;have C:(ft D' y5[i] (fE y5[i] 2 bs[i])).2≠0:=(oP C);have aF:andThen (jY ((y5.zip bs).map fun x=>(x.1,fE x.1 2 x.2)) D) ij=ft D' y5[i] (fE y5[i] 2 bs[i]):=by rw[he];show andThen (andThen (ft D' y5[i] (fE y5[i] 2 bs[i])) _) ij=_;rw[show ∀f,andThen (ft D' y5[i] (fE y5[i] 2 bs[i])) f=ft D' y5[i] (fE y5[i] 2 bs[i]) from fun f=>if_neg C];exact if_neg C
 rw[aF] at hk;exact hk F4 w4 d4 am (fun b u=>by rcases an b u with h|h;exact .inl h;exact .inr oJ);have C:(ft D' y5[i] (fE y5[i] 2 bs[i])).2=0:=(oP C);rw[gd _ oJ];refine hX _ _ ⟨i+1,0,F4,(ft D' y5[i] (fE y5[i] 2 bs[i])).1,oL,oJ,d4,?_,am,aE,an,?_⟩ oJ
 have:=ab.write (n:=y5[i]) (l:=fE y5[i] 2 bs[i]) oJ (GE oM (O.2 _ (zX U)).2)
 rw[Nat.add_assoc] at this;exact this;rw[he];show andThen (andThen (ft D' y5[i] (fE y5[i] 2 bs[i])) _) ij=_;rw[show ∀f,andThen (ft D' y5[i] (fE y5[i] 2 bs[i])) f=f (ft D' y5[i] (fE y5[i] 2 bs[i])).1 from fun f=>if_pos C];have:i=y5.length:=(by have:=zB C;dsimp only at this;omega);subst this;have aG:(y5.zip bs).drop y5.length=[]:=vE (qo4 _ _);rw[aG] at he;have aH:andThen (jY ((y5.zip bs).map fun x=>(x.1,fE x.1 2 x.2)) D) ij=ij D':=he;rw[aH] at hk;refine qrv ag ab.ok fun F3 w3 d3 f3 n3=>?_;have I:∀b∈F',b∈FD\/w.heap.size<=b:=fun b u=>by rcases n2 b u with h|h;exact .inl h;exact .inr oJ
 exact hk F3 w3 d3 (f2.j6 f3 I) fun b u=>I b (n3 b u)
section
structure DS (dbk:Nat) (w:World) (FD:List Nat) (w':World) (F':List Nat) (D':dM) (k:Nat):Prop where
 at_:fu w' dbk F' D'
 lim:mH D' k
 fr:Fr FD w w'
 nw:∀ b∈F',b∈FD\/w.heap.size<=b
variable {dbk:Nat}
def DS.refl{w:World}{FD:List Nat}{D:dM}{k:Nat}(h:fu w dbk FD D)(u:mH D k):DS dbk w FD w FD D k:=⟨h,u,.refl _ _,fun b C=>.inl C⟩
def DS.trans{w2:World}{F2:List Nat}{E C:dM}{G k2:Nat}(h:DS dbk w FD w1 F1 E G)(g:DS dbk w1 F1 w2 F2 C k2):DS dbk w FD w2 F2 C k2:=
 ⟨g.at_,g.lim,h.fr.j6 g.fr h.nw,fun b I=>by rcases g.nw b I with u|u;exact h.nw b u;exact .inr (zL h.fr.size u)⟩
def DS.q7{w w1 w2:World}{FD F1:List Nat}{u:dM}{C:Nat}(h:DS dbk w FD w1 F1 u C)(f:Fr [] w1 w2):DS dbk w FD w2 F1 u C:=
 ⟨h.at_.q7 f,h.lim,h.fr.j6 f oL,h.nw⟩
def DS.hv{G:dM}{I:Nat}(h:DS dbk w FD w1 F1 G I)(u:Hv w)(C:HG∉FD):Hv w1/\HG∉F1:=
 ⟨u.q8 h.fr C,fun J=>by
  rcases h.nw _ J with E|E;exact C E
  have:=u.lt;omega⟩
def DS.uk{u:dM}{C k2:Nat}(h:DS dbk w FD w1 F1 u C)(E:C<=k2):DS dbk w FD w1 F1 u k2:=⟨h.at_,h.lim.mono E,h.fr,h.nw⟩
def GB{s:Sl}(h:DS dbk w FD w1 F1 D k)(E:k<1000000)(G:eF S w1 s l)(I:eS l)(J:∀w2 F2,DS dbk w FD w2 F2 (ft D n l).1 (k+1)->Fr F1 w1 w2->(∀b∈F2,b∈F1\/w1.heap.size<=b)->K (ft D n l).2 w2): cW 138 [dH dbk,.i n,s.v] de w1 K:=by exact qpT h.at_ h.lim.ok G fun F2 w2 O u C=>J w2 F2 (h.trans ⟨O,h.lim.write E I,u,C⟩) u C
def qru(h:DS dbk w FD w1 F1 D k)(G:∀w2 F2,DS dbk w FD w2 F2 (ij D).1 k->Fr F1 w1 w2->(∀b∈F2,b∈F1\/w1.heap.size<=b)->K (ij D).2 w2): cW 139 [dH dbk] de w1 K:=by exact qrv h.at_ h.lim.ok fun F2 w2 I C E=>G w2 F2 (h.trans ⟨I,h.lim.sync,C,fun b u=>.inl (E b u)⟩) C (fun b u=>.inl (E b u))
def qx9(h:DS dbk w FD w1 F1 D k)(hk:k<1000000)(hv:Hv w1)(Q:s.2.length=27)(hq:0<=s.1)(I:∀w2 F2,DS dbk w FD w2 F2 (qf D s).1 (k+1)->Fr F1 w1 w2->(∀b∈F2,b∈F1\/w1.heap.size<=b)->K (qf D s).2 w2): cW 143 [dH dbk,.agg (fR s.1 s.2).toArray] de w1 K:=by
 refine qrf<|oB (oE [] w1) fun r w2 e2 f2 J=>?_;have V:(fR s.1 s.2).toArray[0]?=some (.int .u64 s.1):=rfl;refine oA J.drew 0 rfl s.1 V<|Ap (J.drew.at (i:=0) rfl) Q<|qwn (hv.q7 J.drew.fr) Q fun b T w3 c3 f3 n3=>?_;have u:=J.drew.q7 f3;refine iM (u.cell 0 rfl V) ?_;have ht:=Int.tmod_eq_emod_of_nonneg (b:=2) hq;rw[gd (Int.tmod s.1 2) oJ];have C:(fE (wrap .u32 (Int.tmod s.1 2)) 1 (gZ s.1 s.2)).length=512:=CQ (by rw[AH Q];decide);have R:eF [] w3 ⟨pW b,512,512⟩ (i4 s).2:=by
  have:=zo (S:=[]) (o:=0) (n:=512) (cap:=512) c3 (by rw[C];exact zM _) (zM _) oL
  rw[xF,zS (Nat.le_of_eq C)] at this;exact this
 show cW 138 [dH dbk,.i (i4 s).1,_] _ _ _;refine GB (h.q7 u.fr) hk R (qv5 s) fun w4 F4 O f4 n4=>?_;have al:=u.fr.size;apply eH<;>intro E;have E:(ft D (i4 s).1 (i4 s).2).2≠0:=(oP E);have e:qf D s=ft D (i4 s).1 (i4 s).2:=if_neg E;rw[e] at I;exact I w4 F4 O ((u.fr.mono fun b G=>by cases G).trans f4) fun b G=>by rcases n4 b G with h|h;exact .inl h;exact .inr oJ
 have E:(ft D (i4 s).1 (i4 s).2).2=0:=(oP E);have e:qf D s=ij (ft D (i4 s).1 (i4 s).2).1:=if_pos E;rw[e] at I;refine qru O fun w5 F5 U f5 n5=>?_;have g4:DS dbk w1 F1 w4 F4 (ft D (i4 s).1 (i4 s).2).1 (k+1):=⟨O.at_,O.lim,(u.fr.mono (T:=F1) fun b G=>by cases G).trans f4,fun b G=>by rcases n4 b G with h|h;exact .inl h;exact .inr oJ⟩;have g5:=g4.trans ⟨U.at_,U.lim,f5,n5⟩;exact I w5 F5 U g5.fr g5.nw
def qu4{I:Sl}(h:DS dbk w FD w1 F1 D k)(u:k+y5.length<=1000000)(Q:Hv w1)(R:HG∉F1)(U:Rd F1 w1 sn numbers)(V:Rd F1 w1 I y5)(C:numbers.length<=100000)(E:y5.length<=100000)(G:∀x∈y5,iy x)(kk:∀w2 F2,DS dbk w FD w2 F2 (iE D numbers y5).1 (k+y5.length)->Fr F1 w1 w2->(∀b∈F2,b∈F1\/w1.heap.size<=b)->K (iE D numbers y5).2 w2): cW 142 [dH dbk,sn.v,I.v] de w1 K:=by exact qu5 h.at_ h.lim u Q R U V C E G fun F2 w2 d2 J O=>kk w2 F2 (h.trans ⟨d2,h.lim.spread u,J,O⟩) J O
def DF(h:a.2≠0):andThen a f=a:=if_neg h
def DH(h:a.2=0):andThen a f=f a.1:=if_pos h
def qvh{a b c:Int}(w:World):(Instr.build 238 #[(0,.int .u64 1),(1,.u a),(2,.u b),(3,.u c)]).run prog w=.ok (.agg (fR 1 ([a,b,c]++zs 24)).toArray) w:=by obtain⟨z,E,h⟩:=yT.1 wq;have C:z.cells=(fR 0 (zs 27)).toArray:=(by rw[<- h]);refine HX (parts:=[(0,.int .u64 1),(1,.u a),(2,.u b),(3,.u c)]) (offs:=#[(0,1),(1,1),(2,1),(3,1),(4,24)]) E oK (fun w=>oK) ?_ w;rw[C,vt (o:=0) (s:=1) rfl rfl (zO rfl),vt (o:=1) (s:=1) rfl rfl (zO rfl),vt (o:=2) (s:=1) rfl rfl (zO rfl),vt (o:=3) (s:=1) rfl rfl (zO rfl)];rfl
def qu2(h:fu w dbk FD D)(hl:mH D k)(hk:k<=900000)(h8:2<=D.Q3.length)(hv:Hv w)(hg:HG∉FD)(C:∀w' F',DS dbk w FD w' F' (mc D).1 (k+5000)->K (mc D).2 w'): cW 97 [dH dbk] de w K:=by
 refine qoy ?_;have aj:=hl.ok.Q3;have h0:=DS.refl h hl;have G:(zs 512).length=512:=qL _;have Q:∀ {S0:List Nat} {w0 w':World} {L:List (Nat×Obj)} {b:Nat} {T:TypeId},dR S0 w0 w' ((b,.cells (List.replicate (512:Int).toNat (Value.int .u8 0)).toArray T (0,0))::L)->eF [] w' ⟨pW b,(512:Int).toNat,(512:Int).toNat⟩ (zs 512):=fun ho=>by
  have E:=ho.at (i:=0) rfl;rw[qta] at E
  have:=zo (S:=[]) (o:=0) (n:=512) (cap:=512) E (by rw[show (512:Int).toNat=512 from rfl,G];exact zM _) (zM _) oL
  rw[xF,zS (by rw[show (512:Int).toNat=512 from rfl,G];exact zM _)] at this;exact this
 refine xp fun X hX=>cond_true rfl<|dR.Hg (oE [] w) oM oM oM oM fun b1 w1 e1 R=>GB (h0.q7 R.fr) oJ (Q R) (eS.zs 512) fun w2 F2 d2 f2 n2=>?_;apply eH<;>intro u;have u:(ft D 0 (zs 512)).2≠0:=(oP u);have e:mc D=ft D 0 (zs 512):=DF u;rw[e] at C;exact C w2 F2 (d2.uk oJ);have am:(ft D 0 (zs 512)).2=0:=(oP u);rw[mc,DH am] at C;have an:=HY (D:=D) (n:=0) (l:=zs 512);generalize (ft D 0 (zs 512)).1=D2 at d2 C an;rw[gd (0+1) oM];refine hX _ _ (qqq 1 rfl fun X hX=>?_);refine cond_true rfl<|dR.Hg (oE [] w2) oM oM oM oM fun b3 w3 e3 U=>GB (d2.q7 U.fr) oJ (Q U) (eS.zs 512) fun w4 F4 d4 f4 n4=>?_;apply eH<;>intro u;have u:(ft D2 1 (zs 512)).2≠0:=(oP u);rw[DF u] at C;exact C w4 F4 (d4.uk oJ);have ap:(ft D2 1 (zs 512)).2=0:=(oP u);rw[DH ap] at C;have aq:=HY (D:=D2) (n:=1) (l:=zs 512);generalize (ft D2 1 (zs 512)).1=D4 at d4 C aq;rw[gd (1+1) oM];refine hX _ _ (qqq 2 rfl fun X hX=>?_);refine cond_false rfl<|qru d4 fun w5 F5 V f5 n5=>?_;apply eH<;>intro u;have u:(ij D4).2≠0:=(oP u);rw[DF u] at C;exact C w5 F5 (V.uk oJ);have av:(ij D4).2=0:=(oP u);rw[DH av] at C;have aw:=qqN (D:=D4);generalize (ij D4).1=D5 at V C aw;have ax:D5.Q3.length=D.Q3.length:=oJ;have al:=EJ D.Q3.length;obtain⟨ay,az⟩:=V.hv hv hg;refine jT (fun x w'=>∃(i:Nat) (B:List Nat),x.2=((i+2:Nat):Int)/\i<=D.Q3.length-2/\ru w' x.1 ((fX D.Q3.length).take i) B/\Fr [] w5 w'/\∀b∈B,w5.heap.size<=b) (fun x _=>((D.Q3.length:Int)-x.2).toNat)
  ⟨0,[],rfl,oJ,.nil _ _ _,.refl _ _,oL⟩ ?_
 rintro⟨s,x⟩ w6 ⟨i,B,hx,hi,E,f6,n6⟩ Y hY;simp only at hx E;subst hx;have d6:=V.q7 f6;refine Fq d6.at_ ?_;dsimp only;apply eH<;>intro u;have aB:i<D.Q3.length-2:=(by have:=zC u;omega);rw[pa ((i+2:Nat):Int) oJ];refine qzu E (by rw[yL];omega) fun s7 B7 w7 b7 f7 n7=>?_;rw[gd _ oJ];refine hY _ _ ⟨i+1,B7,by simp;omega,oJ,?_,f6.j6 f7 (fun b E=>.inr (n6 b E)),fun b E=>?_⟩ oN;have e:(fX D.Q3.length).take (i+1)=(fX D.Q3.length).take i++[((i+2:Nat):Int)]:=by rw[yG oJ];congr 2;have h1:=qtZ aB;have h2:=zA (l:=fX D.Q3.length) (i:=i) oJ;rw[h2] at h1;rw[yO h1];simp
 rw[e];exact b7;rcases n7 b E with h|h;exact n6 b h;exact zL f6.size h;have aC:i=D.Q3.length-2:=(by have:=zB u;omega);subst aC;rw[zS oJ] at E;have aD:=E.len;rw[aD];refine qx1 oJ ?_;have ab:=FN (n:=(fX D.Q3.length).length);have ac:∀b∈B,b∉F5:=fun b E hm=>by have:=n6 b E;have:=V.at_.lt b hm;omega
 have I:Rd F5 w6.drew s (fX D.Q3.length):=(E.q7 (Fr.refl [] w6).drew).kF ug ac;refine dX.part (k:=1) I (gG (fX D.Q3.length).length) (fX D.Q3.length).length rfl (by show (s.len:Int)=_;omega) ab (zM _) fun sn a2 rn _=>dX.part (k:=1) I 0 (gG (fX D.Q3.length).length) rfl rfl oJ ab fun sp a3 rp _=>?_;rw[xZ] at rn;rw[xF] at rp;have aE:=d6.q7 (Fr.refl [] w6).drew;have aF:=(ay.q7 f6).q7 (Fr.refl [] w6).drew;rw[ax] at C;refine qu4 aE (by rw[yL];omega) aF az rn rp (by rw[yC];omega) (by rw[yL];omega) (fun x hx=>by
  have:=Eu.1 (yV hx)
  constructor<;>omega) fun w7 F7 J f7 n7=>?_
 have J:=J.uk (k2:=k+2+4096) (by rw[yL];omega);apply eH<;>intro u;have u:(iE D5 ((fX D.Q3.length).drop (gG (fX D.Q3.length).length)) ((fX D.Q3.length).take (gG (fX D.Q3.length).length))).2≠0:=(oP u);rw[DF u] at C;exact C w7 F7 (J.uk oJ);have aG:(iE D5 ((fX D.Q3.length).drop (gG (fX D.Q3.length).length)) ((fX D.Q3.length).take (gG (fX D.Q3.length).length))).2=0:=(oP u);rw[DH aG] at C;have aH:=qtL (D:=D5) (a:=(fX D.Q3.length).drop (gG (fX D.Q3.length).length)) (b:=(fX D.Q3.length).take (gG (fX D.Q3.length).length));generalize (iE D5 ((fX D.Q3.length).drop (gG (fX D.Q3.length).length)) ((fX D.Q3.length).take (gG (fX D.Q3.length).length))).1=D7 at J C aH;have aI:D7.Q3.length=D.Q3.length:=oJ;refine Fq J.at_ ?_;rw[aI] at C⊢;have O:wrap .i64 (((fX D.Q3.length).length:Int)-(gG (fX D.Q3.length).length:Int))=((fX D.Q3.length).length:Int)-(gG (fX D.Q3.length).length:Int):=gd _ oJ;rw[O];exact sI (ts:=[iJ.oc]) (fR (lf D.Q3.length).1 (lf D.Q3.length).2) (qvh w7)<|qx9 (s:=lf D.Q3.length) J oJ (J.hv hv hg).1 rfl (by show (0:Int)<=1;decide) fun w8 F8 d8 f8 n8=>C w8 F8 (d8.uk oJ)
end
section
structure eQ.Wf (M:eQ):Prop where
 n4:M.j7.2.getD 0 0<=4096
 u32:∀ x∈M.j7.2,iy x
 J9:∀ x∈M.J9,iy x
 cM:M.Q6.Pairwise (· < ·)
 Q6:∀ x∈M.Q6,2<=x/\x<M.j7.2.getD 0 0
 cT:M.J8.Pairwise (· < ·)
 sd:M.J4.Pairwise (· < ·)
 nodup:(M.J8++(M.J4++(M.Q2++M.J5.map (·.1)))).Nodup
 range:∀ x∈M.J8++(M.J4++(M.Q2++M.J5.map (·.1))),2<=x/\x<M.j7.2.getD 0 0
 body:∀ e∈M.J5,(0<=e.2.1/\e.2.1<256)/\e.2.2.length<=500/\eS e.2.2
def small(u:l.Nodup)(h:∀x∈l,2<=x/\x<n)(C:n<=4096):l.length<=4096:=by rcases DE u h with h|h;omega;rw[h];simp
def eQ.Wf.all(M:eQ)(h:M.Wf):M.J8.length+M.J4.length+M.Q2.length+M.J5.length<=4096:=by
 have:=small h.nodup h.range h.n4
 simp only[zF,zK] at this;omega
section
variable {w:World} {X:List Nat} {pb:Nat} {db:Option Addr} {F:List Nat} {M:eQ}
def dX.xw{α:Type}{enc:α->List Value}{w:World}{s:Sl}{l:List α}(h:dX enc k S w s l){hi:Int}(b:Nat){K:Sl->Prop}(C:hi=b)(hb:b<=l.length)(J:∀I,dX enc k S w I (l.take b)->K I):fV s none (some hi) (some hi) k K:=by
 subst C;obtain⟨h1,h2,E⟩:=h;unfold fV;refine⟨by simp;omega,J _ ?_⟩;simp only[xW,xV,Int.toNat_zero,zJ,Nat.zero_mul,Nat.sub_zero];have e:(if b=0 then s.a else s.a.map (·.add 0))=s.a:=by
  split;rfl;cases s.a with
  | none=>rfl
  | some a=>simp[Fm]
 rw[e];refine⟨by rw[yL];dsimp only;omega,zM _,?_⟩;rcases E with E|⟨O,o,Q,T,R,U,G,V,hc⟩;left;rw[E];simp;refine .inr ⟨O,o,Q,T,R,U,G,V,fun i x u=>?_⟩;rw[xB] at u;split at u;exact hc i x u;cases u
def fP.qM{w:World}{X:List Nat}{pb:Nat}{db:Option Addr}{F:List Nat}{M:eQ}(h:fP w X pb db F M):∀b∈X,b<w.heap.size:=by obtain⟨fb,defb,mb,sl,sn,C,F2,E,rfl,u⟩:=h;exact u.qM
end
end
structure Du (D D':dM) (M:eQ) (y5 Q6:List Int) (next:p6):Prop where
 down:D'.down=false
 Q4:D'.Q4=[]
 listed:rC D' Q6 y5
 Ik:view D' (next.1%2)=fE (next.1%2) 1 (gZ next.1 next.2)
 J5:∀ e∈M.J5,view D' e.1=fE e.1 e.2.1 e.2.2
 rest:∀ m,0<=m->m∉M.J5.map (·.1)->m∉y5->m≠next.1%2->view D' m=view D m
def eQ.Wf.y9(h:M.Wf):(M.J5.map (·.1)).Nodup:=h.nodup.sublist (((sublist_append_right _ _).trans (sublist_append_right _ _)).trans (sublist_append_right _ _))
def eQ.all (M:eQ):List Int:=M.J8++(M.J4++(M.Q2++M.J5.map (·.1)))
def qym{t:Int}{ov:Bool}(h:nP (s.2.getD 0 0) numbers y5)(E:s.2.getD 0 0<=4096)(C:∀x∈s.2,iy x):(kP s y5 numbers t ov numbers).Wf where
 n4:=E
 u32:=C
 J9:=fun x u=>C x (yU u)
 cM:=h.cV
 Q6:=h.oq
 cT:=h.cV
 sd:=.nil
 nodup:=by show (numbers++([]++(y5++[]))).Nodup;rw[xI,xH,yM];exact⟨Ds h.cV,h.nodup,fun x u y G e=>h.J0 y G (e▸u)⟩
 range:=fun x u=>by have u:x∈numbers++([]++(y5++[])):=u;rw[xI,xH,zD] at u;rcases u with u|u;exact h.oq x u;exact h.ur x u
 body:=fun e I=>by cases I
def qsP{β:Type}{v:β}{l:List (Int×β)}(h:n∉l.map (·.1)):iv n v l=l++[(n,v)]:=by rw[iv,yb.2 h]
def qqL{β:Type}{v:β}{l:List (Int×β)}(h:n∈l.map (·.1)):(iv n v l).map (·.1)=l.map (·.1):=by
 unfold iv;cases C:look n l with
 | none=>exact absurd h (yb.1 C)
 | some q=>
  dsimp only;rw[map_set];apply ext_getElem?;intro j;rw[List.getElem?_set];by_cases hj:q.1=j;subst hj;have E:=(uX C).1;obtain⟨u,G⟩:=zP.1 E;simp[u,G];rw[if_neg hj]
def qp3{β:Type}{l:List (Int×β)}(h:n∈l.map (·.1)):(l.map (·.1)).Perm (n::(jQ n l).map (·.1)):=by
 unfold jQ;cases E:look n l with
 | none=>exact absurd h (yb.1 E)
 | some q=>
  dsimp only;have G:=(uX E).1;obtain⟨u,I⟩:=zP.1 G;rw[wn];have J:(l.map (·.1))[q.1]'(oP u)=n:=(by simp[I]);have C:q.1<(l.map (·.1)).length:=(oP u);have O:l.map (·.1)=(l.map (·.1)).take q.1++n::(l.map (·.1)).drop (q.1+1):=by rw[<- J,<- zY C,xE]
  rw[eraseIdx_eq_take_drop_succ];conv=>lhs;rw[O]
  exact perm_middle
def qzk:gU M n=true↔(2<=n/\n<M.j7.2.getD 0 0)/\n∉M.all:=by unfold gU eQ.all;simp only[yB,zT,Bool.or_eq_false_iff,decide_eq_false_iff_not,Option.isNone_iff_eq_none,yb,zD,not_or];constructor;rintro⟨⟨⟨⟨⟨G,I⟩,h⟩,u⟩,C⟩,E⟩;exact⟨⟨oJ,oJ⟩,u,C,h,E⟩;rintro⟨⟨G,I⟩,h,u,C,E⟩;exact⟨⟨⟨⟨⟨oJ,oJ⟩,C⟩,h⟩,u⟩,E⟩
def qxe{r:List Int}{v:Int×List Int}(u:M.J8=n::r)(E:M.Wf):(r++(M.J4++(M.Q2++(iv n v M.J5).map (·.1)))).Perm M.all:=by
 have h:n∉M.J5.map (·.1):=fun G=>by have C:=E.nodup;rw[u,xJ,nodup_cons] at C;exact C.1 (zI _ (zI _ (zI _ G)))
 rw[qsP h,xN,eQ.all,u];show (r++(M.J4++(M.Q2++(M.J5.map (·.1)++[n])))).Perm (n::(r++(M.J4++(M.Q2++M.J5.map (·.1)))));rw[<- zV M.Q2,<- zV M.J4,<- zV r];exact perm_append_singleton n _
def HF{M':eQ}(h:M.Wf)(u:M'.j7=M.j7)(C:M'.Q6=M.Q6)(G:∀x∈M'.J9,iy x)(E:M'.all.Perm M.all)(I:M'.J8.Pairwise (· < ·))(J:M'.J4.Pairwise (· < ·))(O:∀e∈M'.J5,(0<=e.2.1/\e.2.1<256)/\e.2.2.length<=500/\eS e.2.2):M'.Wf where
 n4:=by rw[u];exact h.n4
 u32:=by rw[u];exact h.u32
 J9:=G
 cM:=by rw[C];exact h.cM
 Q6:=by rw[C,u];exact h.Q6
 cT:=I
 sd:=J
 nodup:=E.nodup_iff.2 h.nodup
 range:=fun x Q=>by rw[u];exact h.range x (E.mem_iff.1 Q)
 body:=O
def quw{kind:Int}(u:M.Wf)(G:0<=kind/\kind<256)(I:eS body):(gJ M kind body).2.Wf/\(gJ M kind body).2.all.Perm M.all:=by
 unfold gJ;split;exact⟨u,.refl _⟩;split;exact⟨u,.refl _⟩;rename_i O;split;exact⟨u,.refl _⟩;rename_i n r C;have E:=qxe (v:=(kind,body)) C u;refine⟨HF u rfl rfl u.J9 E ?_ u.sd fun e J=>?_,E⟩
 have:=u.cT
 rw[C,yJ] at this;exact this.2;rcases E4 J with h|h;exact u.body e h;rw[h];exact⟨G,by show body.length<=500;omega,I⟩
def qxt{kind:Int}(u:M.Wf)(E:0<=kind/\kind<256)(G:eS body):(jJ M n kind body).2.Wf/\(jJ M n kind body).2.all.Perm M.all:=by
 unfold jJ;split;exact⟨u,.refl _⟩;split;exact⟨u,.refl _⟩;rename_i q I;split;exact⟨u,.refl _⟩;rename_i Q;have J:n∈M.J5.map (·.1):=mem_map.2 ⟨_,(uX I).2,rfl⟩;have C:({ M with J5:=iv n (kind,body) M.J5 }:eQ).all=M.all:=by show M.J8++(M.J4++(M.Q2++(iv n (kind,body) M.J5).map (·.1)))=_;rw[qqL J];rfl
 refine⟨HF u rfl rfl u.J9 (by rw[C]) u.cT u.sd fun e O=>?_,by rw[C]⟩;rcases E4 O with h|h;exact u.body e h;rw[h];exact⟨E,by show body.length<=500;omega,G⟩
def quc(u:M.Wf):(fL M n).2.Wf:=by
 unfold fL;split;exact u;split;rename_i q J;have O:n∈M.J5.map (·.1):=mem_map.2 ⟨_,(uX J).2,rfl⟩;have Q:=u.nodup;have G:n∉M.J8:=fun h=>by rw[yM] at Q;exact Q.2.2 n h n (zI _ (zI _ O)) rfl
 have E:({ M with J5:=jQ n M.J5,J8:=ins n M.J8 }:eQ).all.Perm M.all:=by
  show (ins n M.J8++(M.J4++(M.Q2++(jQ n M.J5).map (·.1)))).Perm (M.J8++(M.J4++(M.Q2++M.J5.map (·.1))));refine ((A3 G).append_right _).trans ?_;have R:=qp3 O;have U:(M.J4++(M.Q2++M.J5.map (·.1))).Perm (n::(M.J4++(M.Q2++(jQ n M.J5).map (·.1)))):=by refine ((R.append_left M.Q2).append_left M.J4).trans ?_;rw[<- zV,<- zV];exact perm_middle
  exact (perm_middle.symm.trans (U.symm.append_left M.J8))
 exact HF u rfl rfl u.J9 E (BS u.cT) u.sd fun e V=>u.body e (qsl V);rename_i J;split;rename_i C;have C:=qzk.1 C;have I:n∉M.J4:=fun h=>C.2 (zI _ (zH _ h));have E:({ M with J4:=ins n M.J4 }:eQ).all.Perm (n::M.all):=by show (M.J8++(ins n M.J4++(M.Q2++M.J5.map (·.1)))).Perm (n::(M.J8++(M.J4++(M.Q2++M.J5.map (·.1)))));exact (((A3 I).append_right _).append_left M.J8).trans perm_middle
 refine { n4:=u.n4,u32:=u.u32,J9:=u.J9,cM:=u.cM,Q6:=u.Q6,cT:=u.cT,sd:=BS u.sd,nodup:=E.nodup_iff.2 (nodup_cons.2 ⟨C.2,u.nodup⟩),range:=fun x hx=>?_,body:=u.body };rcases zG.1 (E.mem_iff.1 hx) with rfl|h;exact C.1;exact u.range x h;exact u
section
section
variable {db:Option Addr} {j7:p6} {sl sn:Sl} {Q9:Int} {Q0:Bool} {fb defb mb:Nat} {J9:List Int} {wk:List Value}
def qyZ(u:j7.2.length=27)(C:J9.length=24):((gx db j7 sl sn Q9 Q0 fb defb mb J9).toList.drop 36).take 24=J9.map (Value.int .u32):=by have h:((Value.pointer db::fR j7.1 j7.2)++nU sl sn Q9 Q0 fb defb mb).length=36:=(by rw[zF,tt u];rfl);show (((Value.pointer db::fR j7.1 j7.2)++nU sl sn Q9 Q0 fb defb mb++J9.map (Value.int .u32)).drop 36).take 24=_;rw[<- h,drop_append_of_le_length (zM _),drop_length,xI,zS (by rw[zK,C];exact zM _)]
end
def sD (dbk:Nat) (M:eQ):Option Addr:=if M.Q0 then none else pW dbk
structure In (w:World) (dbk pb:Nat) (FD F:List Nat) (D:dM) (M:eQ) (k:Nat):Prop where
 cO:fu w dbk FD D
 lim:mH D k
 x5:fP w FD pb (sD dbk M) F M
end
def fv (M:eQ) (t h r1 u:Int):Int×eQ:=
 if M.Q0 then (7,M) else if t<0\/t>7 then (4,M) else (0,{ M with J9:=M.J9.take (3*t.toNat)++[h,r1,u]++M.J9.drop (3*t.toNat+3) })
def dJ (D:dM) (M:eQ) (n:Int):Int×List Int×Int:=
 if M.Q0 then (0,[],7) else match look n M.J5 with
 | some q=>(q.2.1,q.2.2,0)
 | none=>if gU M n=false then (0,[],10) else if (eK D n).2≠0 then (0,[],(eK D n).2) else fw n (eK D n).1
def qic(u:D.Ok)(C:∀e∈M.J5,eS e.2.2)(n:Int):eS (dJ D M n).2.1:=by have h:eS ([]:List Int):=fun x E=>nomatch E;unfold dJ;split;exact h;split;rename_i q G;exact C _ (uX G).2;split;exact h;split;exact h;exact (qqx (wV u n).1 n).1
def eQ.x7 (M:eQ):Prop:=(M.J8++M.J5.map (·.1)).Perm M.Q6
def qte(s:p6)(y5 numbers:List Int)(t:Int)(ov:Bool):(kP s y5 numbers t ov numbers).x7:=by show (numbers++[]).Perm numbers;rw[xH]
def qvD{kd:Int}(G:M.Wf)(h:M.x7):(gJ M kd l).2.x7:=by
 unfold gJ;split;exact h;split;exact h;split;exact h;rename_i n r C;have u:n∉M.J5.map (·.1):=fun I=>by have E:=G.nodup;rw[C,xJ,nodup_cons] at E;exact E.1 (zI _ (zI _ (zI _ I)))
 show (r++(iv n (kd,l) M.J5).map (·.1)).Perm M.Q6;rw[qsP u,xN,<- zV];refine (perm_append_singleton n _).trans ?_
 have:=h
 rw[eQ.x7,C] at this;exact this
def qxr{kd:Int}(h:M.x7):(jJ M n kd l).2.x7:=by unfold jJ;split;exact h;split;exact h;rename_i q u;split;exact h;have C:n∈M.J5.map (·.1):=mem_map.2 ⟨_,(uX u).2,rfl⟩;show (M.J8++(iv n (kd,l) M.J5).map (·.1)).Perm M.Q6;rw[qqL C];exact h
def qvo(G:M.Wf)(h:M.x7):(fL M n).2.x7:=by
 unfold fL;split;exact h;split;rename_i q I;have C:n∈M.J5.map (·.1):=mem_map.2 ⟨_,(uX I).2,rfl⟩;have E:=G.nodup;have u:n∉M.J8:=fun h=>by rw[yM] at E;exact E.2.2 n h n (zI _ (zI _ C)) rfl
 show (ins n M.J8++(jQ n M.J5).map (·.1)).Perm M.Q6;refine (((A3 u).append_right _).trans ?_).trans h;exact perm_middle.symm.trans ((qp3 C).symm.append_left M.J8);split;exact h;exact h
def eQ.x7.mem(h:M.x7)(x:Int):x∈M.Q6↔x∈M.J8\/x∈M.J5.map (·.1):=by rw[<- h.mem_iff,zD]
def Di (l:List Int):ByteArray:=⟨(Lib.bytesOf l).toArray⟩
end
section
open Go Go.Pt List
open Go.IntKind (wrap)
open Classical
variable {D:dM} {L L2:gu} {M:eQ} {N Nl Nr:dN} {R R1 R2 b:List Int} {h n1 n2:Nat} {kd n p q:Int} {key m:Key} {r:Int×List Int}
def ip {β:Type} (n:Int) (l:List (Int×β)):Option β:=(look n l).map (·.2)
def yi{β:Type}(n:Int)(p:Int×β)(r:List (Int×β)):ip n (p::r)=if n=p.1 then some p.2 else ip n r:=by unfold ip;rw[look];split;rfl;cases look n r<;>rfl
def qxJ{β:Type}(n:Int)(v:β)(p:Int×β)(r:List (Int×β)):iv n v (p::r)=if n=p.1 then (n,v)::r else p::iv n v r:=by by_cases h:n=p.1;rw[if_pos h];unfold iv;rw[look,if_pos h];rfl;rw[if_neg h];unfold iv;rw[look,if_neg h];cases look n r<;>rfl
def qwB{β:Type}(n:Int)(p:Int×β)(r:List (Int×β)):jQ n (p::r)=if n=p.1 then r else p::jQ n r:=by by_cases h:n=p.1;rw[if_pos h];unfold jQ;rw[look,if_pos h];rfl;rw[if_neg h];unfold jQ;rw[look,if_neg h];cases look n r<;>rfl
def Id{β:Type}(n q:Int)(v:β):∀l:List (Int×β),ip q (iv n v l)=if q=n then some v else ip q l
 | []=>by show ip q [(n,v)]=_;rw[yi]
 | p::r=>by rw[qxJ];by_cases h:n=p.1;rw[if_pos h,yi,yi,<- h];by_cases h2:q=n;rw[if_pos h2,if_pos h2];rw[if_neg h2,if_neg h2,if_neg h2];rw[if_neg h,yi,Id n q v r,yi];by_cases h2:q=p.1;rw[if_pos h2,if_neg (fun e=>h (by rw[<- e,h2])),if_pos h2];rw[if_neg h2,if_neg h2]
def GZ{β:Type}{l:List (Int×β)}:ip n l=none↔n∉l.map (·.1):=by unfold ip;rw[Option.map_eq_none_iff,yb]
def qqp{β:Type}(n q:Int):∀l:List (Int×β),(l.map (·.1)).Nodup->ip q (jQ n l)=if q=n then none else ip q l
 | [],_=>by show ip q []=_;split<;>rfl
 | p::r,C=>by have u:=nodup_cons.1 (show (p.1::r.map (·.1)).Nodup from C);rw[qwB];by_cases h:n=p.1;rw[if_pos h,yi];by_cases h2:q=n;rw[if_pos h2,h2,h];exact GZ.2 u.1;rw[if_neg h2,if_neg (fun e=>h2 (by rw[e,h]))];rw[if_neg h,yi,qqp n q r u.2,yi];by_cases h2:q=p.1;rw[if_pos h2,if_neg (fun e=>h (by rw[<- e,h2])),if_pos h2];rw[if_neg h2,if_neg h2]
def qw0(n:Int):∀l:List Int,l.length<=(ins n l).length
 | []=>yX _
 | a::l=>by
  have:=qw0 n l
  simp only[ins];split;simp;split;exact zM _;simp only[yI];omega
def tl:gU M n=true↔2<=n/\n<M.j7.2.getD 0 0/\n∉M.Q2/\n∉M.J8/\n∉M.J4/\ip n M.J5=none:=by unfold gU ip;rw[Option.map_eq_none_iff];simp only[yB,zT,Bool.or_eq_false_iff,decide_eq_false_iff_not,Option.isNone_iff_eq_none];constructor;rintro⟨⟨⟨⟨⟨G,I⟩,h⟩,u⟩,C⟩,E⟩;exact⟨oJ,oJ,h,u,C,E⟩;rintro⟨G,I,h,u,C,E⟩;exact⟨⟨⟨⟨⟨oJ,oJ⟩,h⟩,u⟩,C⟩,E⟩
def dZ (M:eQ) (x:Int):Prop:=x∈M.J5.map (·.1)\/gU M x=true
def cK{x:Int}:x∈M.J5.map (·.1)↔∃q,ip x M.J5=some q:=by
 constructor;intro h;cases e:ip x M.J5 with
 | none=>exact absurd h (GZ.1 e)
 | some q=>exact⟨q,rfl⟩
 rintro⟨q,e⟩;exact Classical.byContradiction fun h=>by rw[GZ.2 h] at e;cases e
def Dl(h:M.Q0=false)(n:Int):dJ D M n=match ip n M.J5 with
  | some q=>(q.1,q.2,0)
  | none=>if gU M n=false then (0,[],10) else if (eK D n).2≠0 then (0,[],(eK D n).2) else fw n (eK D n).1:=by
 unfold dJ ip;rw[if_neg (by rw[h];decide)];cases look n M.J5<;>rfl
def Hc(u:M.Q0=false)(h:(dJ D M n).2.2=0):dZ M n:=by
 rw[Dl u] at h;cases e:ip n M.J5 with
 | some q=>exact .inl (cK.2 ⟨q,e⟩)
 | none=>
  rw[e] at h;dsimp only at h;split at h;cases h;rename_i C;exact .inr (oP C)
def qxy(M:eQ)(u:M.Q0=false){q:Int×List Int}(h:ip n M.J5=some q):dJ D M n=(q.1,q.2,0):=by rw[Dl u,h]
def Ex(M':eQ)(u:M.Q0=false)(h:M'.Q0=false)(C:ip n M'.J5=ip n M.J5)(E:gU M' n=gU M n):dJ D M' n=dJ D M n:=by rw[Dl u,Dl h,C,E]
def DP(M':eQ)(h:ip n M'.J5=ip n M.J5)(u:gU M' n=gU M n):dZ M' n↔dZ M n:=by unfold dZ;rw[cK,cK,h,u]
def Cr(u:M.Wf){x:Int}(h:dZ M x):2<=x/\x<M.j7.2.getD 0 0:=by rcases h with h|h;exact u.range x (by simp only[zD];exact .inr (.inr (.inr h)));exact⟨(tl.1 h).1,(tl.1 h).2.1⟩
structure mR (D:dM) (M M':eQ) (q p:Int) (r:Option (Int×List Int)):Prop where
 wf:M'.Wf
 Q0:M'.Q0=false
 J9:M'.J9=M.J9
 j7:M'.j7=M.j7
 Q2:M'.Q2=M.Q2
 Q6:M'.Q6=M.Q6
 x7:M.x7->M'.x7
 Q9:M'.Q9=M.Q9
 rest:∀ x,x≠q->x≠p->dJ D M' x=dJ D M x
 use:∀ x,x≠q->x≠p->(dZ M' x↔dZ M x)
 pU:∀ x,gU M' x=true->gU M x=true
 wrote:∀ y,r=some y->dJ D M' q=(y.1,y.2,0)/\dZ M' q
 left:p≠q->¬ dZ M' p
section
variable {D:dM} {M:eQ}
def qtv{E:List Int}(O:M.Wf)(I:M.Q0=false)(hk:0<=kd/\kd<256)(hB:eS b)(hl:b.length<=500)(J:M.J8=n::E): ∃M',gJ M kd b=((n,0),M')/\mR D M M' n n (some (kd,b))/\¬dZ M n/\M'.J8=E/\M'.J4=M.J4:=by
 have e:gJ M kd b=((n,0),{ M with J8:=E,J5:=iv n (kd,b) M.J5 }):=(by rw[gJ,if_neg (by rw[I];decide),iN,J]);have hw:=(quw (kind:=kd) (body:=b) O hk hB).1;rw[e] at hw;have Q:(n::(E++(M.J4++(M.Q2++M.J5.map (·.1))))).Nodup:=(by have:=O.nodup;rw[J] at this;exact this);have R:=nodup_cons.1 Q;have U:n∉M.J5.map (·.1):=fun h=>R.1 (by simp only[zD];exact .inr (.inr (.inr h)));have V:¬dZ M n:=fun h=>by rcases h with h|h;exact U h;exact (tl.1 h).2.2.2.1 (by rw[J];simp)
 have u:∀x,ip x (iv n (kd,b) M.J5)=if x=n then some (kd,b) else ip x M.J5:=fun x=>Id n x _ _
 have G:∀x,x≠n->gU { M with J8:=E,J5:=iv n (kd,b) M.J5 } x=gU M x:=fun x C=>by rw[Bool.eq_iff_iff,tl,tl];dsimp only;rw[u,if_neg C,J,zG];constructor;rintro⟨h1,h2,h3,h4,h5⟩;exact⟨h1,h2,h3,fun h=>h.elim C h4,h5⟩;rintro⟨h1,h2,h3,h4,h5⟩;exact⟨h1,h2,h3,fun h=>h4 (.inr h),h5⟩
 refine⟨_,e,⟨hw,I,rfl,rfl,rfl,rfl,fun h=>?_,rfl,fun x C _=>Ex { M with J8:=E,J5:=iv n (kd,b) M.J5 } I I (by dsimp only;rw[u,if_neg C]) (G x C),fun x C _=>DP { M with J8:=E,J5:=iv n (kd,b) M.J5 } (by dsimp only;rw[u,if_neg C]) (G x C),fun x C=>?_,fun y hy=>?_,fun h=>absurd rfl h⟩,V,rfl,rfl⟩
 have:=qvD (kd:=kd) (l:=b) O h
 rw[e] at this;exact this;by_cases hxn:x=n
 have:=(tl.1 C).2.2.2.2.2
 dsimp only at this;rw[u,if_pos hxn] at this;cases this;rw[G x hxn] at C;exact C;cases hy;refine⟨?_,.inl (cK.2 ⟨(kd,b),by dsimp only;rw[u,if_pos rfl]⟩)⟩;exact qxy { M with J8:=E,J5:=iv n (kd,b) M.J5 } I (by dsimp only;rw[u,if_pos rfl])
def qvP(O:M.Wf)(G:M.Q0=false)(Q:0<=kd/\kd<256)(R:eS b)(hl:b.length<=500)(U:n∈M.J5.map (·.1)): ∃M',jJ M n kd b=(0,M')/\mR D M M' n n (some (kd,b))/\M'.J8=M.J8/\M'.J4=M.J4:=by
 obtain⟨v,I⟩:=cK.1 U;have e:jJ M n kd b=(0,{ M with J5:=iv n (kd,b) M.J5 }):=by unfold ip at I;obtain⟨q,V,_⟩:=yT.1 I;rw[jJ,if_neg (by rw[G];decide),V];dsimp only;rw[iN]
 have J:=(qxt (n:=n) (kind:=kd) (body:=b) O Q R).1;rw[e] at J;have u:∀x,ip x (iv n (kd,b) M.J5)=if x=n then some (kd,b) else ip x M.J5:=fun x=>Id n x _ _
 have E:∀x,gU { M with J5:=iv n (kd,b) M.J5 } x=gU M x:=fun x=>by rw[Bool.eq_iff_iff,tl,tl];dsimp only;rw[u];by_cases C:x=n;rw[if_pos C,C,I];simp;rw[if_neg C]
 refine⟨_,e,⟨J,G,rfl,rfl,rfl,rfl,fun h=>?_,rfl,fun x C _=>Ex { M with J5:=iv n (kd,b) M.J5 } G G (by dsimp only;rw[u,if_neg C]) (E x),fun x C _=>DP { M with J5:=iv n (kd,b) M.J5 } (by dsimp only;rw[u,if_neg C]) (E x),fun x C=>by rw[E x] at C;exact C,fun y hy=>?_,fun h=>absurd rfl h⟩,rfl,rfl⟩
 have:=qxr (n:=n) (kd:=kd) (l:=b) h
 rw[e] at this;exact this;cases hy;refine⟨?_,.inl (cK.2 ⟨(kd,b),by dsimp only;rw[u,if_pos rfl]⟩)⟩;exact qxy { M with J5:=iv n (kd,b) M.J5 } G (by dsimp only;rw[u,if_pos rfl])
def qxs(h:M.Q0=false)(u:n∉M.J5.map (·.1)):jJ M n kd b=(10,M):=by rw[jJ,if_neg (by rw[h];decide),yb.2 u]
def qmo(hW:M.Wf)(R:M.Q0=false)(hu:dZ M n)(J:n≠q): ∃M',fL M n=(0,M')/\mR D M M' q n none/\(dJ D M' q=dJ D M q)/\(dZ M' q↔dZ M q)/\M.J8.length<=M'.J8.length:=by
 have hw:=quc (n:=n) hW;by_cases hf:n∈M.J5.map (·.1);obtain⟨v,hv⟩:=cK.1 hf;have ag:(M.J5.map (·.1)).Nodup:=hW.y9;have e:fL M n=(0,{ M with J5:=jQ n M.J5,J8:=ins n M.J8 }):=by unfold ip at hv;obtain⟨y,O,_⟩:=yT.1 hv;rw[fL,if_neg (by rw[R];decide),O]
 rw[e] at hw;have Q:∀x,ip x (jQ n M.J5)=if x=n then none else ip x M.J5:=fun x=>qqp n x _ ag
 have E:∀x,x≠n->gU { M with J5:=jQ n M.J5,J8:=ins n M.J8 } x=gU M x:=fun x u=>by rw[Bool.eq_iff_iff,tl,tl];dsimp only;rw[Q,if_neg u,Co];constructor;rintro⟨U,V,h3,h4,h5⟩;exact⟨U,V,h3,fun h=>h4 (.inr h),h5⟩;rintro⟨U,V,h3,h4,h5⟩;exact⟨U,V,h3,fun h=>h.elim u h4,h5⟩
 have G:¬dZ { M with J5:=jQ n M.J5,J8:=ins n M.J8 } n:=fun h=>by rcases h with h|h;obtain⟨y,O⟩:=cK.1 h;dsimp only at O;rw[Q,if_pos rfl] at O;cases O;exact (tl.1 h).2.2.2.1 (Co.2 (.inl rfl))
 have I:∀x,x≠n->dJ D { M with J5:=jQ n M.J5,J8:=ins n M.J8 } x=dJ D M x:=fun x u=>Ex { M with J5:=jQ n M.J5,J8:=ins n M.J8 } R R (by dsimp only;rw[Q,if_neg u]) (E x u);have C:∀x,x≠n->(dZ { M with J5:=jQ n M.J5,J8:=ins n M.J8 } x↔dZ M x):=fun x u=>DP { M with J5:=jQ n M.J5,J8:=ins n M.J8 } (by dsimp only;rw[Q,if_neg u]) (E x u);refine⟨_,e,⟨hw,R,rfl,rfl,rfl,rfl,fun h=>?_,rfl,fun x _ u=>I x u,fun x _ u=>C x u,fun x u=>?_,fun y O=>(nomatch O),fun _=>G⟩,I q fun e=>J e.symm,C q fun e=>J e.symm,?_⟩
 have:=qvo (n:=n) hW h
 rw[e] at this;exact this;by_cases hxn:x=n;subst hxn;exact absurd (.inr u) G;rw[E x hxn] at u;exact u;exact qw0 n M.J8;have ad:gU M n=true:=hu.resolve_left hf;have e:fL M n=(0,{ M with J4:=ins n M.J4 }):=by rw[fL,if_neg (by rw[R];decide),yb.2 hf];dsimp only;rw[if_pos ad]
 rw[e] at hw;have E:∀x,x≠n->gU { M with J4:=ins n M.J4 } x=gU M x:=fun x u=>by rw[Bool.eq_iff_iff,tl,tl];dsimp only;rw[Co];constructor;rintro⟨U,V,h3,h4,h5,h6⟩;exact⟨U,V,h3,h4,fun h=>h5 (.inr h),h6⟩;rintro⟨U,V,h3,h4,h5,h6⟩;exact⟨U,V,h3,h4,fun h=>h.elim u h5,h6⟩
 have G:¬dZ { M with J4:=ins n M.J4 } n:=fun h=>by rcases h with h|h;exact hf h;exact (tl.1 h).2.2.2.2.1 (Co.2 (.inl rfl))
 have I:∀x,x≠n->dJ D { M with J4:=ins n M.J4 } x=dJ D M x:=fun x u=>Ex { M with J4:=ins n M.J4 } R R rfl (E x u);have C:∀x,x≠n->(dZ { M with J4:=ins n M.J4 } x↔dZ M x):=fun x u=>DP { M with J4:=ins n M.J4 } rfl (E x u);refine⟨_,e,⟨hw,R,rfl,rfl,rfl,rfl,fun h=>?_,rfl,fun x _ u=>I x u,fun x _ u=>C x u,fun x u=>?_,fun y O=>(nomatch O),fun _=>G⟩,I q fun e=>J e.symm,C q fun e=>J e.symm,zM _⟩;exact h;by_cases hxn:x=n;subst hxn;exact absurd (.inr u) G;rw[E x hxn] at u;exact u
end
noncomputable def dL (D:dM) (M:eQ) (k v:Nat) (p:Int):dN×Int:=
 if (dJ D M p).2.2≠0 then (iY,(dJ D M p).2.2) else i7 (dJ D M p).1 (dJ D M p).2.1 k v
noncomputable def dS (k v:Nat) (M:eQ) (p:Int) (n:dN):(Int×Int)×eQ:=
 if (eX n k v).2.2≠0 then ((0,2),M)
 else if p≠0/\(jJ M p (eX n k v).1 (eX n k v).2.1).1≠10 then ((p,(jJ M p (eX n k v).1 (eX n k v).2.1).1),(jJ M p (eX n k v).1 (eX n k v).2.1).2)
 else if (gJ M (eX n k v).1 (eX n k v).2.1).1.2=0/\p≠0 then (((gJ M (eX n k v).1 (eX n k v).2.1).1.1,(fL (gJ M (eX n k v).1 (eX n k v).2.1).2 p).1),(fL (gJ M (eX n k v).1 (eX n k v).2.1).2 p).2)
 else gJ M (eX n k v).1 (eX n k v).2.1
structure iU (n:dN) (k v:Nat):Prop where
 right:fZ n k v
 J3:∀ a∈n.J3,eS a
 J7:∀ a∈n.J7,eS a
 J6:∀ x∈n.J6,x<4294967296
def iU.load{k v:Nat}{n:dN}(h:iU n k v)(u:dJ D M p=(jh n,gO n,0)):dL D M k v p=(n,0):=by unfold dL;rw[u];exact (if_neg (fun h=>h rfl)).trans (qvS h.right h.J6)
def qsV{k v:Nat}{n:dN}(hW:M.Wf)(ho:M.Q0=false)(hn:iU n k v)(U:p=0\/dZ M p)(hf:M.J8≠[]): ∃q M',dS k v M p n=((q,0),M')/\mR D M M' q (if p=0 then q else p) (some (jh n,gO n))/\(q=p\/¬dZ M q)/\M.J8.length<=M'.J8.length+1/\(p∈M.J5.map (·.1)->q=p/\M'.J8=M.J8):=by
 have hw:eX n k v=(jh n,gO n,0):=(by unfold eX;rw[if_pos hn.right]);have hB:=qpW hn.J3 hn.J7;have hl:=(DN hn.right).2;have hk:0<=jh n/\jh n<256:=(by unfold jh;split<;>exact⟨oM,oM⟩);unfold dS;rw[hw];dsimp only;rw[if_neg (fun h=>h rfl)];obtain⟨q,fr,I⟩:∃q fr,M.J8=q::fr:=by
  cases e:M.J8 with
  | nil=>exact absurd e hf
  | cons q fr=>exact⟨q,fr,rfl⟩
 obtain⟨M1,e1,u,J,V,_⟩:=qtv (D:=D) hW ho hk hB hl I;rcases U with rfl|U;rw[if_neg (fun h=>h.1 rfl),if_neg (fun h=>h.2 rfl),e1];refine⟨q,M1,rfl,by rw[if_pos rfl];exact u,.inr J,by rw[I,V];exact zM _,fun h=>?_⟩
 have:=(Cr hW (.inl h)).1
 omega;have E:p≠0:=(by have:=(Cr hW U).1;omega);by_cases hfp:p∈M.J5.map (·.1);obtain⟨M2,e2,C,O,_⟩:=qvP (D:=D) hW ho hk hB hl hfp;rw[e2,if_pos ⟨E,(show (0:Int)≠10 by decide)⟩];exact⟨p,M2,rfl,by rw[if_neg E];exact C,.inl rfl,by rw[O];omega,fun _=>⟨rfl,O⟩⟩;rw[qxs ho hfp,if_neg (fun h=>h.2 rfl),e1,if_pos ⟨rfl,E⟩];have Q:p≠q:=fun e=>J (e▸U);have ag:dZ M1 p:=(u.use p Q Q).2 U;obtain⟨M2,e2,C,ah,ai,O⟩:=qmo (D:=D) u.wf u.Q0 ag Q;dsimp only;rw[e2];refine⟨q,M2,rfl,?_,.inr J,by rw[I,yI,<- V];omega,fun h=>absurd h hfp⟩;rw[if_neg E];exact⟨C.wf,C.Q0,C.J9.trans u.J9,C.j7.trans u.j7,C.Q2.trans u.Q2,C.Q6.trans u.Q6,fun h=>C.x7 (u.x7 h),C.Q9.trans u.Q9,fun x G R=>(C.rest x G R).trans (u.rest x G G),fun x G R=>(C.use x G R).trans (u.use x G G),fun x G=>u.pU x (C.pU x G),fun y hy=>by
  have:=u.wrote y hy
  exact⟨ah.trans this.1,ai.2 this.2⟩,fun h=>C.left h⟩
section
structure Grown where
 Q8:Int
 J5:Bool
 key:Key
 Q7:Int
def pI:Grown:=⟨0,false,[],0⟩
def ga {α:Type} (l:List α) (i:Nat) (x:α):List α:=l.take i++[x]++l.drop i
def fe (n:dN) (k v:Nat):Nat×Nat:=if n.Q1 then (n.J3.length,(dY k v).1) else (n.J6.length,(dY k v).2)
def ef (n:dN) (mid:Nat):dN×dN×Key:=
 if n.Q1 then ({ n with J3:=n.J3.take mid,J7:=n.J7.take mid },{ n with J3:=n.J3.drop mid,J7:=n.J7.drop mid },n.J3.getD mid [])
 else ({ n with J6:=n.J6.take mid,J3:=n.J3.take (mid-1) },{ n with J6:=n.J6.drop mid,J3:=n.J3.drop mid },n.J3.getD (mid-1) [])
noncomputable def gH (k v:Nat) (M:eQ) (p:Int) (n:dN) (J5:Bool):(Grown×Int)×eQ:=
 if (fe n k v).1>(fe n k v).2 then
  if (dS k v M 0 (ef n ((fe n k v).1 / 2)).2.1).1.2≠0 then ((pI,(dS k v M 0 (ef n ((fe n k v).1 / 2)).2.1).1.2),(dS k v M 0 (ef n ((fe n k v).1 / 2)).2.1).2)
  else ((⟨(dS k v (dS k v M 0 (ef n ((fe n k v).1 / 2)).2.1).2 p (ef n ((fe n k v).1 / 2)).1).1.1,J5,(ef n ((fe n k v).1 / 2)).2.2,(dS k v M 0 (ef n ((fe n k v).1 / 2)).2.1).1.1⟩,
    (dS k v (dS k v M 0 (ef n ((fe n k v).1 / 2)).2.1).2 p (ef n ((fe n k v).1 / 2)).1).1.2),
    (dS k v (dS k v M 0 (ef n ((fe n k v).1 / 2)).2.1).2 p (ef n ((fe n k v).1 / 2)).1).2)
 else ((⟨(dS k v M p n).1.1,J5,[],0⟩,(dS k v M p n).1.2),(dS k v M p n).2)
def gX (n:dN) (c:Nat) (g:Grown):dN:=
 if g.Q7≠0 then { n with J6:=ga (n.J6.set c g.Q8) (c+1) g.Q7,J3:=ga n.J3 c g.key } else { n with J6:=n.J6.set c g.Q8 }
noncomputable def iF (D:dM) (k v:Nat) (key val:Key):Nat->eQ->Int->(Grown×Int)×eQ
 | 0,M,_=>((pI,-1),M)
 | f+1,M,p=>
  if (dL D M k v p).2≠0 then ((pI,(dL D M k v p).2),M)
  else if (dL D M k v p).1.Q1 then
   if (dL D M k v p).1.J3[dP (dL D M k v p).1.J3 key]?=some key then gH k v M p { (dL D M k v p).1 with J7:=(dL D M k v p).1.J7.set (dP (dL D M k v p).1.J3 key) val } false
   else gH k v M p { (dL D M k v p).1 with J3:=ga (dL D M k v p).1.J3 (dP (dL D M k v p).1.J3 key) key,J7:=ga (dL D M k v p).1.J7 (dP (dL D M k v p).1.J3 key) val } true
  else if (iF D k v key val f M ((dL D M k v p).1.J6.getD (eA (dL D M k v p).1.J3 key) 0)).1.2≠0 then
   ((pI,(iF D k v key val f M ((dL D M k v p).1.J6.getD (eA (dL D M k v p).1.J3 key) 0)).1.2),(iF D k v key val f M ((dL D M k v p).1.J6.getD (eA (dL D M k v p).1.J3 key) 0)).2)
  else if (iF D k v key val f M ((dL D M k v p).1.J6.getD (eA (dL D M k v p).1.J3 key) 0)).1.1.Q8=(dL D M k v p).1.J6.getD (eA (dL D M k v p).1.J3 key) 0/\(iF D k v key val f M ((dL D M k v p).1.J6.getD (eA (dL D M k v p).1.J3 key) 0)).1.1.Q7=0 then
   ((⟨p,(iF D k v key val f M ((dL D M k v p).1.J6.getD (eA (dL D M k v p).1.J3 key) 0)).1.1.J5,[],0⟩,0),(iF D k v key val f M ((dL D M k v p).1.J6.getD (eA (dL D M k v p).1.J3 key) 0)).2)
  else gH k v (iF D k v key val f M ((dL D M k v p).1.J6.getD (eA (dL D M k v p).1.J3 key) 0)).2 p (gX (dL D M k v p).1 (eA (dL D M k v p).1.J3 key) (iF D k v key val f M ((dL D M k v p).1.J6.getD (eA (dL D M k v p).1.J3 key) 0)).1.1) (iF D k v key val f M ((dL D M k v p).1.J6.getD (eA (dL D M k v p).1.J3 key) 0)).1.1.J5
structure iO where
 Q8:Int
 size:Nat
 x9:gu
 y5:List Int
abbrev io:=Key×iO
def eh (L:gu):dN:=⟨true,L.map (·.1),L.map (·.2),[]⟩
def dO (es:List io):dN:=⟨false,(es.map (·.1)).tail,[],es.map (·.2.Q8)⟩
structure gh (es:List io):Prop where
 pair:es.Pairwise fun a b=>gf a.1 b.1/\∀ x∈a.2.x9,gf x.1 b.1
 low:∀ e∈es,∀ x∈e.2.x9,mt e.1 x.1
def minOf (k v:Nat) (h:Nat):Nat:=if h=0 then (dY k v).1 / 2 else (dY k v).2 / 2
def Has (D:dM) (M:eQ) (k v:Nat):Nat->iO->Prop
 | 0,s=>s.y5=[s.Q8]/\s.size=s.x9.length/\iU (eh s.x9) k v/\dJ D M s.Q8=(3,gO (eh s.x9),0)
 | h+1,s=>∃u:List io,(u.map (·.1)).head?=some []/\s.size=u.length/\s.x9=u.flatMap (·.2.x9)/\s.y5=s.Q8::u.flatMap (·.2.y5)/\iU (dO u) k v/\dJ D M s.Q8=(4,gO (dO u),0)/\gh u/\
   ∀e∈u,Has D M k v h e.2/\minOf k v h<=e.2.size
def Cw(x:Key):mt [] x:=by unfold mt gf;cases x<;>simp[cmpL]
def qmM{x:Key}:¬gf x []:=Cw x
section
variable {D:dM} {M M':eQ} {k v:Nat}
def Has.mem:∀ {h:Nat} {s:iO},Has D M k v h s->s.Q8∈s.y5
 | 0,s,u=>by rw[u.1];simp
 | h+1,s,⟨E,_,_,_,C,_⟩=>by rw[C];simp
def Has.q8:∀ {h:Nat} {s:iO},Has D M k v h s->(∀x∈s.y5,dJ D M' x=dJ D M x)->Has D M' k v h s
 | 0,s,⟨C,G,u,I⟩,E=>⟨C,G,u,by rw[E s.Q8 (by rw[C];simp)];exact I⟩
 | h+1,s,⟨Q,R,C,G,u,I,U,V,O⟩,E=>⟨Q,R,C,G,u,I,by rw[E s.Q8 (by rw[u];simp)];exact U,V,fun e J=>⟨(O e J).1.q8 fun x hx=>E x (by rw[u];exact zN _ (yK.2 ⟨e,J,hx⟩)),(O e J).2⟩⟩
def Has.read:∀ {h:Nat} {s:iO},Has D M k v h s->∀x∈s.y5,(dJ D M x).2.2=0
 | 0,s,⟨C,I,E,G⟩,x,u=>by rw[C] at u;rw[zE.1 u,G]
 | h+1,s,⟨R,U,C,I,E,G,J,V,O⟩,x,u=>by rw[E] at u;rcases zG.1 u with rfl|u;rw[J];obtain⟨e,Q,u⟩:=yK.1 u;exact (O e Q).1.read x u
def Has.J1(u:M.Q0=false){s:iO}(C:Has D M k v h s):∀x∈s.y5,dZ M x:=fun x E=>Hc u (C.read x E)
def fZ.Ak(h:fZ (eh L) k v):L≠[]:=fun e=>by
 have:=h.2.2.2
 rw[if_pos (show (eh L).Q1=true from rfl)] at this;have u:=this.2.1;rw[e] at u;exact absurd u oM
def fZ.x6{es:List io}(h:fZ (dO es) k v):2<=es.length/\es.length<=(dY k v).2:=by
 have:=h.2.2.2
 rw[if_neg (show ¬(dO es).Q1=true from fun e=>nomatch e)] at this;have u:=this.2.2.1;have C:=this.2.2.2.1;have e:(dO es).J6.length=es.length:=(by show (es.map _).length=_;rw[zK]);rw[e] at u C;exact⟨u,C⟩
def Has.ne:∀ {h:Nat} {s:iO},Has D M k v h s->s.x9≠[]
 | 0,s,⟨G,u,C,E⟩=>C.right.Ak
 | h+1,s,⟨I,O,G,u,C,E,Q,R,J⟩=>fun e=>by
  have:=E.right.x6
  cases I with
  | nil=>simp at this
  | cons a r=>
   rw[u,yH] at e;exact (J a oL).1.ne (append_eq_nil_iff.1 e).1
def gh.mid{A B:List io}{e:io}(h:gh (A++e::B)):(∀a∈A,∀x∈a.2.x9,gf x.1 e.1)/\(∀b∈B,gf e.1 b.1/\(∀x∈e.2.x9,gf x.1 b.1)/\∀y∈b.2.x9,mt b.1 y.1):=by
 have u:=pairwise_append.1 h.pair;refine⟨fun a E x G=>(u.2.2 a E e oL).2 x G,fun b C=>?_⟩
 have:=(yJ.1 u.2.1).1 b C
 exact⟨this.1,this.2,h.low b (by simp[C])⟩
def gh.sort:∀ {es:List io},gh es->(∀e∈es,fH e.2.x9)->fH (es.flatMap (·.2.x9))
 | [],_,_=>.nil
 | e::es,h,E=>by rw[yH,fH.uC];have G:=yJ.1 h.pair;refine⟨E e oL,gh.sort ⟨G.2,fun e u=>h.low e (zN _ u)⟩ fun e u=>E e (zN _ u),fun x J y C=>?_⟩;obtain⟨b,I,C⟩:=yK.1 C;exact sQ ((G.1 b I).2 x J) (h.low b (zN _ I) y C)
def Has.sort:∀ {h:Nat} {s:iO},Has D M k v h s->fH s.x9
 | 0,s,⟨E,u,C,G⟩=>C.right.2.2.1
 | h+1,s,⟨Q,R,E,u,C,G,U,I,J⟩=>by rw[u];exact I.sort fun e O=>(J e O).1.sort
def mO (k v:Nat) (L:gu):Prop:=∀x∈L,x.1.length=k/\x.2.length=v/\eS x.1/\eS x.2
def Has.ya:∀ {h:Nat} {s:iO},Has D M k v h s->mO k v s.x9
 | 0,s,⟨G,E,C,I⟩=>fun x u=>⟨C.right.1 x.1 (zZ u),C.right.2.1 x.2 (zZ u),C.J3 x.1 (zZ u),C.J7 x.2 (zZ u)⟩
 | h+1,s,⟨Q,R,G,E,C,I,U,V,J⟩=>fun x u=>by rw[E] at u;obtain⟨e,O,u⟩:=yK.1 u;exact (J e O).1.ya x u
def Cv(C:mO k v L)(E:fH L)(G:1<=L.length)(I:L.length<=(dY k v).1):iU (eh L) k v:=by refine⟨⟨fun a u=>?_,fun a u=>?_,E,?_⟩,fun a u=>?_,fun a u=>?_,fun x h=>nomatch h⟩;obtain⟨x,h,rfl⟩:=mem_map.1 u;exact (C x h).1;obtain⟨x,h,rfl⟩:=mem_map.1 u;exact (C x h).2.1;rw[if_pos (show (eh L).Q1=true from rfl)];refine⟨rfl,?_,?_,?_⟩;show 1<=(L.map _).length;rw[zK];exact G;show (L.map _).length<=_;rw[zK];exact I;show (L.map _).length=(L.map _).length;rw[zK,zK];obtain⟨x,h,rfl⟩:=mem_map.1 u;exact (C x h).2.2.1;obtain⟨x,h,rfl⟩:=mem_map.1 u;exact (C x h).2.2.2
def qz4{es:List io}(E:∀a∈(es.map (·.1)).tail,a.length=k/\eS a)(I:gg (es.map (·.1)).tail)(J:2<=es.length)(O:es.length<=(dY k v).2)(G:∀e∈es,2<=e.2.Q8/\e.2.Q8<4294967296):iU (dO es) k v:=by refine⟨⟨fun a h=>(E a h).1,fun a h=>(nomatch h),I,?_⟩,fun a h=>(E a h).2,fun a h=>(nomatch h),fun x u=>?_⟩;rw[if_neg (show ¬(dO es).Q1=true from fun e=>nomatch e)];have e1:(dO es).J6.length=es.length:=(by show (es.map _).length=_;rw[zK]);have Q:(dO es).J3.length=es.length-1:=(by show ((es.map _).tail).length=_;rw[length_tail,zK]);refine⟨fun x u=>?_,rfl,by rw[e1];exact J,by rw[e1];exact O,by rw[e1,Q];omega⟩;obtain⟨e,C,rfl⟩:=mem_map.1 u;exact (G e C).1;obtain⟨e,C,rfl⟩:=mem_map.1 u;exact (G e C).2
def gh.rising{es:List io}(h:gh es):gg (es.map (·.1)).tail:=by have u:(es.map (·.1)).Pairwise gf:=pairwise_map.2 (h.pair.imp fun h=>h.1);exact List.Pairwise.sublist (tail_sublist _) u
structure Step (D:dM) (M M':eQ) (P P':List Int):Prop where
 wf:M'.Wf
 Q0:M'.Q0=false
 J9:M'.J9=M.J9
 j7:M'.j7=M.j7
 Q2:M'.Q2=M.Q2
 Q6:M'.Q6=M.Q6
 x7:M.x7->M'.x7
 Q9:M'.Q9=M.Q9
 rest:∀ x,dZ M x->x∉P->dJ D M' x=dJ D M x/\dZ M' x/\x∉P'
 use:∀ x,dZ M' x->x∈P'\/(dZ M x/\x∉P)
 has:∀ x∈P',dZ M' x
 new:∀ x∈P',x∈P\/¬ dZ M x
 nodup:P'.Nodup
 pU:∀ x,gU M' x=true->gU M x=true
def Step.refl(C:M.Wf)(E:M.Q0=false){P:List Int}(G:∀x∈P,dZ M x)(I:P.Nodup):Step D M M P P:=
 ⟨C,E,rfl,rfl,rfl,rfl,id,rfl,fun x u J=>⟨rfl,u,J⟩,fun x u=>by by_cases h:x∈P;exact .inl h;exact .inr ⟨u,h⟩,G,fun x u=>.inl u,I,fun x u=>u⟩
def Step.perm{P P' Q I:List Int}(h:Step D M M' P P')(G:P.Perm Q)(u:P'.Perm I):Step D M M' Q I:=
 ⟨h.wf,h.Q0,h.J9,h.j7,h.Q2,h.Q6,h.x7,h.Q9,fun x C J=>by obtain⟨O,R,U⟩:=h.rest x C (fun E=>J (G.mem_iff.1 E));exact⟨O,R,fun E=>U (u.mem_iff.2 E)⟩,fun x C=>(h.use x C).imp (fun h=>u.mem_iff.1 h) fun h=>⟨h.1,fun E=>h.2 (G.mem_iff.2 E)⟩,fun x C=>h.has x (u.mem_iff.2 C),fun x C=>(h.new x (u.mem_iff.2 C)).imp (fun h=>G.mem_iff.1 h) id,u.nodup_iff.1 h.nodup,h.pU⟩
def Step.beside{P P' Z:List Int}(h:Step D M M' P P')(O:∀x∈Z,dZ M x)(R:(Z++P).Nodup):Step D M M' (Z++P) (Z++P'):=by have Q:=yM.1 R;have E:∀x∈Z,x∉P:=fun x u I=>Q.2.2 x u x I rfl;refine⟨h.wf,h.Q0,h.J9,h.j7,h.Q2,h.Q6,h.x7,h.Q9,fun x u I=>?_,fun x u=>?_,fun x u=>?_,fun x u=>?_,?_,h.pU⟩;obtain⟨G,J,U⟩:=h.rest x u (fun C=>I (zI _ C));exact⟨G,J,fun C=>(zD.1 C).elim (fun C=>I (zH _ C)) U⟩;rcases h.use x u with G|⟨G,J⟩;exact .inl (zI _ G);by_cases hz:x∈Z;exact .inl (zH _ hz);exact .inr ⟨G,fun C=>(zD.1 C).elim hz J⟩;rcases zD.1 u with u|u;exact (h.rest x (O x u) (E x u)).2.1;exact h.has x u;rcases zD.1 u with u|u;exact .inl (zH _ u);exact (h.new x u).imp (fun h=>zI _ h) id;rw[yM];exact⟨Q.1,h.nodup,fun x u y V e=>(h.rest x (O x u) (E x u)).2.2 (e▸V)⟩
def Step.trans{M1:eQ}{P Q R:List Int}(h:Step D M M1 P Q)(g:Step D M1 M' Q R):Step D M M' P R:=
 ⟨g.wf,g.Q0,g.J9.trans h.J9,g.j7.trans h.j7,g.Q2.trans h.Q2,g.Q6.trans h.Q6,fun x=>g.x7 (h.x7 x),g.Q9.trans h.Q9,fun x C I=>by
  obtain⟨u,E,G⟩:=h.rest x C I;obtain⟨J,O,U⟩:=g.rest x E G;exact⟨J.trans u,O,U⟩,fun x C=>by
  rcases g.use x C with u|⟨u,E⟩;exact .inl u;exact (h.use x u).elim (fun G=>absurd G E) .inr,g.has,fun x C=>by
  rcases g.new x C with u|u;exact h.new x u;by_cases hP:x∈P;exact .inl hP;by_cases hu:dZ M x;exact absurd (h.rest x hu hP).2.1 u;exact .inr hu,g.nodup,fun x C=>h.pU x (g.pU x C)⟩
def mR.step(J:M.Q0=false)(h:mR D M M' q p (some r))(O:dZ M p)(E:q=p\/¬dZ M q):Step D M M' [p] [q]:=by
 have I:=h.wrote r rfl;refine⟨h.wf,h.Q0,h.J9,h.j7,h.Q2,h.Q6,h.x7,h.Q9,fun x G u=>?_,fun x G=>?_,fun x G=>?_,fun x G=>?_,oL,h.pU⟩;have u:x≠p:=(oP u);have C:x≠q:=fun e=>by rcases E with E|E;exact u (e.trans E);exact E (e▸G)
 exact⟨h.rest x C u,(h.use x C u).2 G,by simpa using C⟩;by_cases C:x=q;exact .inl (by simp[C]);by_cases u:x=p;subst u;exact absurd G (h.left (fun e=>C e));exact .inr ⟨(h.use x C u).1 G,by simpa using u⟩;rw[zE.1 G];exact I.2;rw[zE.1 G];rcases E with E|E;exact .inl (by simp[E]);exact .inr E
def mR.J5(I:M.Q0=false)(h:mR D M M' q q (some r))(E:¬dZ M q):Step D M M' [] [q]:=by have G:=h.wrote r rfl;refine⟨h.wf,h.Q0,h.J9,h.j7,h.Q2,h.Q6,h.x7,h.Q9,fun x C _=>?_,fun x C=>?_,fun x C=>?_,fun x C=>?_,oL,h.pU⟩;have u:x≠q:=fun e=>E (e▸C);exact⟨h.rest x u u,(h.use x u u).2 C,by simpa using u⟩;by_cases u:x=q;exact .inl (by simp[u]);exact .inr ⟨(h.use x u u).1 C,oL⟩;rw[zE.1 C];exact G.2;rw[zE.1 C];exact .inr E
end
end
section
section
variable {D:dM} {M M':eQ} {k v:Nat}
def GV{n:dN}(C:M.Wf)(E:M.Q0=false)(G:iU n k v)(h:dZ M p)(I:M.J8≠[]): ∃q M',dS k v M p n=((q,0),M')/\Step D M M' [p] [q]/\dJ D M' q=(jh n,gO n,0)/\M.J8.length<=M'.J8.length+1/\(p∈M.J5.map (·.1)->q=p/\M'.J8=M.J8):=by obtain⟨q,M',e,t,J,O,Q⟩:=qsV (D:=D) C E G (.inr h) I;have u:p≠0:=(by have:=(Cr C h).1;omega);rw[if_neg u] at t;exact⟨q,M',e,t.step E h J,(t.wrote _ rfl).1,O,Q⟩
def Gm{n:dN}(E:M.Wf)(u:M.Q0=false)(G:iU n k v)(I:M.J8≠[]): ∃q M',dS k v M 0 n=((q,0),M')/\Step D M M' [] [q]/\dJ D M' q=(jh n,gO n,0)/\M.J8.length<=M'.J8.length+1/\q≠0:=by obtain⟨q,M',e,t,J,O,_⟩:=qsV (D:=D) E u G (.inl rfl) I;rw[if_pos rfl] at t;have C:=t.wrote _ rfl;have Q:=(Cr t.wf C.2).1;have h:¬dZ M q:=J.resolve_left oJ;exact⟨q,M',e,t.J5 u h,C.1,O,oJ⟩
def qmV{n:dN}{J5:Bool}(h:M.Wf)(u:M.Q0=false)(C:iU n k v)(O:(fe n k v).1<=(fe n k v).2)(E:dZ M p)(G:M.J8≠[]): ∃q M',gH k v M p n J5=((⟨q,J5,[],0⟩,0),M')/\Step D M M' [p] [q]/\dJ D M' q=(jh n,gO n,0)/\M.J8.length<=M'.J8.length+1:=by obtain⟨q,M',e,st,I,J,_⟩:=GV (D:=D) h u C E G;refine⟨q,M',?_,st,I,J⟩;unfold gH;rw[iN,e]
def qqP{n:dN}{J5:Bool}{mid:Nat}(hW:M.Wf)(ho:M.Q0=false)(C:(fe n k v).1 / 2=mid)(h1:iU (ef n mid).1 k v)(h2:iU (ef n mid).2.1 k v)(hs:(fe n k v).1>(fe n k v).2)(hp:dZ M p)(hf:2<=M.J8.length): ∃q o M',gH k v M p n J5=((⟨q,J5,(ef n mid).2.2,o⟩,0),M')/\o≠0/\Step D M M' [p] [q,o]/\dJ D M' q=(jh (ef n mid).1,gO (ef n mid).1,0)/\dJ D M' o=(jh (ef n mid).2.1,gO (ef n mid).2.1,0)/\M.J8.length<=M'.J8.length+2:=by
 subst C;obtain⟨o,M1,e1,u,O,E,Q⟩:=Gm (D:=D) hW ho h2 (fun e=>by rw[e] at hf;exact absurd hf oM);have s1:=u.beside (Z:=[p]) (fun x R=>by rw[zE.1 R];exact hp) oL;have U:dZ M1 p:=s1.has p oL;obtain⟨q,M2,e2,G,V,ak,_⟩:=GV (D:=D) u.wf u.Q0 h1 U (fun e=>by rw[e] at E;simp at E;omega);have I:o≠p:=fun e=>by rcases u.new o oL with h|h;cases h;exact h (e▸hp)
 have J:dZ M1 o:=u.has o oL;have s2:=G.beside (Z:=[o]) (fun x R=>by rw[zE.1 R];exact J) (oP I);refine⟨q,o,M2,?_,Q,(s1.perm (.refl _) (List.Perm.swap _ _ _)).trans (s2.perm (.refl _) (List.Perm.swap _ _ _)),V,?_,oJ⟩;unfold gH;rw[if_pos hs,e1];dsimp only;rw[if_neg (fun h=>h rfl),e2];rw[(G.rest o J (oP I)).1];exact O
def qAX{val:Key}{i:Nat}(h:(dU L)[i]?=some key):(⟨(eh L).Q1,dU L,(eh L).J7.set i val,(eh L).J6⟩:dN)=eh (L.set i (key,val)):=by
 unfold eh;rw[map_set,map_set];have:(L.map (·.1)).set i key=L.map (·.1):=by obtain⟨u,C⟩:=zP.1 h;rw[<- C];exact set_getElem_self u
 rw[this]
def qAe{val:Key}{i:Nat}:(⟨(eh L).Q1,ga (dU L) i key,ga (eh L).J7 i val,(eh L).J6⟩:dN)=eh (L.take i++[(key,val)]++L.drop i):=by unfold eh ga;simp only[xN,xP,xQ,xO,map_nil]
def qw8{mid:Nat}(h:mid<L.length):ef (eh L) mid=(eh (L.take mid),eh (L.drop mid),L[mid].1):=by unfold ef;rw[if_pos (show (eh L).Q1=true from rfl)];unfold eh;simp only[xP,xQ,Prod.mk.injEq,true_and];rw[yR,zQ,zA h];rfl
def EC:fe (eh L) k v=(L.length,(dY k v).1):=by unfold fe;rw[if_pos (show (eh L).Q1=true from rfl)];show ((L.map _).length,_)=_;rw[zK]
def mO.sub{L':gu}(h:mO k v L)(u:∀x∈L',x∈L):mO k v L':=fun x C=>h x (u x C)
def fH.take{L:gu}(h:fH L)(n:Nat):fH (L.take n):=by unfold fH dU;rw[xP];exact gg.take h n
def fH.drop{L:gu}(h:fH L)(n:Nat):fH (L.drop n):=by unfold fH dU;rw[xQ];exact gg.drop h n
def CY(h:iU (eh L) k v)(u:dJ D M q=(3,gO (eh L),0)):Has D M k v 0 ⟨q,L.length,L,[q]⟩:=⟨rfl,rfl,h,u⟩
structure wQ (D:dM) (M:eQ) (k v:Nat) (h:Nat) (s:iO) (key val:Key) (g:Grown) (M':eQ):Prop where
 J5:g.J5=decide (key∉dU s.x9)
 J8:M.J8.length<=M'.J8.length+2*(h+1)
 Ek:(g.Q7=0/\∃ n P,Has D M' k v h ⟨g.Q8,n,gj key val s.x9,P⟩/\Step D M M' s.y5 P/\s.size<=n)\/
  (g.Q7≠0/\∃ n1 L1 P1 n2 L2 P2,Has D M' k v h ⟨g.Q8,n1,L1,P1⟩/\Has D M' k v h ⟨g.Q7,n2,L2,P2⟩/\L1++L2=gj key val s.x9/\(∀ x∈L1,gf x.1 g.key)/\(∀ y∈L2,mt g.key y.1)/\g.key.length=k/\eS g.key/\minOf k v h<=n1/\minOf k v h<=n2/\Step D M M' s.y5 (P1++P2))
structure iG (k v:Nat):Prop where
 Q1:2<=(dY k v).1
 inner:4<=(dY k v).2
def qsD{L':gu}{val:Key}{J5:Bool}(hc:iG k v)(hW:M.Wf)(ho:M.Q0=false)(hp:dZ M p)(V:2<=M.J8.length)(Q:mO k v L')(R:fH L')(h1:1<=L'.length)(h2:L'.length<=(dY k v).1+1)(h3:L.length<=L'.length)(he:L'=gj key val L)(C:J5=decide (key∉dU L)): ∃g M',gH k v M p (eh L') J5=((g,0),M')/\wQ D M k v 0 ⟨p,L.length,L,[p]⟩ key val g M':=by by_cases hb:L'.length<=(dY k v).1;have hn:=Cv Q R h1 hb;obtain⟨q,M',e,st,hr,hl⟩:=qmV (D:=D) (J5:=J5) hW ho hn (by rw[EC];exact hb) hp (fun e=>by rw[e] at V;exact absurd V oM);refine⟨_,M',e,C,by show M.J8.length<=M'.J8.length+2;omega,.inl ⟨rfl,L'.length,[q],?_,st,h3⟩⟩;rw[<- he];exact CY hn hr;have ah:L'.length=(dY k v).1+1:=oJ;have ar:=hc.Q1;have h:L'.length / 2<L'.length:=oJ;have hh:=qw8 h;have n1:iU (eh (L'.take (L'.length / 2))) k v:=Cv (Q.sub fun x E=>yV E) (R.take _) (by rw[yL];omega) (by rw[yL];omega);have n2:iU (eh (L'.drop (L'.length / 2))) k v:=Cv (Q.sub fun x E=>yU E) (R.drop _) (by rw[yC];omega) (by rw[yC];omega);obtain⟨q,o,M',e,ab,st,G,I,hl⟩:=qqP (D:=D) (k:=k) (v:=v) (p:=p) (J5:=J5) (mid:=L'.length / 2) (n:=eh L') hW ho (by rw[EC]) (by rw[hh];exact n1) (by rw[hh];exact n2) (by rw[EC];show L'.length>_;omega) hp V;rw[hh] at e G I;have J:L'=L'.take (L'.length / 2)++L'.drop (L'.length / 2):=(xE _ _).symm;have hd:=zY h;have u:=R;rw[J] at u;have u:=fH.uC.1 u;have O:=Q _ (zX h);refine⟨⟨q,J5,L'[L'.length / 2].1,o⟩,M',e,C,by show M.J8.length<=M'.J8.length+2;omega,.inr ⟨ab,(L'.take (L'.length / 2)).length,_,[q],(L'.drop (L'.length / 2)).length,_,[o],CY n1 G,CY n2 I,by rw[<- J];exact he,fun x E=>u.2.2 x E _ (by rw[hd];exact mem_cons_self),fun y U=>?_,O.1,O.2.2.1,?_,?_,st⟩⟩;have h5:=u.2.1;rw[hd] at U h5;rcases zG.1 U with rfl|U;exact sq;exact uq (zi (x:=L'[L'.length / 2].1) (r:=dU _) h5 y.1 (zZ U));rw[yL];show (dY k v).1 / 2<=_;omega;rw[yC];show (dY k v).1 / 2<=_;omega
def ww{es:List io}(u:(es.map (·.1)).head?=some [])(O:gh es):∃A e B,es=A++e::B/\A.length=eA ((es.map (·.1)).tail) key/\mt e.1 key/\(∀b∈B,gf key b.1)/\(es.map (·.2.Q8)).getD (eA ((es.map (·.1)).tail) key) 0=e.2.Q8:=by
 have Q:=O.rising;have C:=AC ((es.map (·.1)).tail) key;have E:es≠[]:=fun e=>by rw[e] at u;cases u
 have I:0<es.length:=length_pos_iff.2 E;have h:eA ((es.map (·.1)).tail) key<es.length:=(by rw[length_tail,zK] at C;omega);generalize J:eA ((es.map (·.1)).tail) key=c at h;have G:es=es.take c++es[c]::es.drop (c+1):=(by rw[<- zY h,xE]);refine⟨es.take c,es[c],es.drop (c+1),G,by rw[yL];omega,?_,fun b R=>?_,?_⟩;cases c with
 | zero=>
  have:es[0].1=[]:=by
   cases es with
   | nil=>cases u
   | cons a r=>simpa using u
  rw[this];exact Cw _
 | succ c=>
  refine qoh (l:=(es.map (·.1)).tail) (k:=key) ?_;rw[J];have U:(es.map (·.1)).tail[c]?=some es[c+1].1:=(by rw[List.getElem?_tail,zQ,zA h];rfl);refine yF (i:=c) ?_;rw[xB,iP];exact U
 refine qmC (l:=(es.map (·.1)).tail) Q ?_;rw[J];have:(es.map (·.1)).tail.drop c=(es.drop (c+1)).map (·.1):=(by rw[<- drop_one,xD,xQ,Nat.add_comm]);rw[this];exact zZ R;rw[yR,zQ,zA h];rfl
def rT{α:Type}{f:io->List α}{A B:List io}{e:io}:(A++e::B).flatMap f=A.flatMap f++(f e++B.flatMap f):=by rw[yQ,yH]
def gh.put{A B:List io}{e:io}{s:iO}(h:gh (A++e::B))(I:mt e.1 key)(J:∀b∈B,gf key b.1)(Q:∀x∈s.x9,x.1=key\/x∈e.2.x9):gh (A++(e.1,s)::B):=by have G:=pairwise_append.1 h.pair;have O:=yJ.1 G.2.1;refine⟨pairwise_append.2 ⟨G.1,yJ.2 ⟨fun b u=>⟨(O.1 b u).1,fun x E=>?_⟩,O.2⟩,fun a R b u=>?_⟩,fun b u x E=>?_⟩;rcases Q x E with C|C;rw[C];exact J b u;exact (O.1 b u).2 x C;rcases zG.1 u with rfl|u;exact G.2.2 a R e oL;exact G.2.2 a R b (by simp[u]);rcases zD.1 u with u|u;exact h.low b (by simp[u]) x E;rcases zG.1 u with rfl|u;rcases Q x E with C|C;rw[C];exact I;exact h.low e oL x C;exact h.low b (by simp[u]) x E
def gh.zt{A B:List io}{lo:Key}{s s1 s2:iO}(h:gh (A++(lo,s)::B))(G:s.x9=s1.x9++s2.x9)(h1:∀x∈s1.x9,gf x.1 m)(h2:∀y∈s2.x9,mt m y.1)(I:s1.x9≠[])(J:s2.x9≠[]):gh (A++(lo,s1)::(m,s2)::B):=by have V:=pairwise_append.1 h.pair;have O:=yJ.1 V.2.1;have Q:=h.low (lo,s) oL;obtain⟨x1,R⟩:=exists_mem_of_ne_nil _ I;obtain⟨y1,U⟩:=exists_mem_of_ne_nil _ J;have hm:gf lo m:=C0 (Q x1 (by show x1∈s.x9;rw[G];exact zH _ R)) (h1 x1 R);have ad:∀b∈B,gf m b.1:=fun b u=>C0 (h2 y1 U) ((O.1 b u).2 y1 (by show y1∈s.x9;rw[G];exact zI _ U));refine⟨pairwise_append.2 ⟨V.1,yJ.2 ⟨fun b u=>?_,yJ.2 ⟨fun b u=>⟨ad b u,fun x C=>(O.1 b u).2 x (by show x∈s.x9;rw[G];exact zI _ C)⟩,O.2⟩⟩,fun a ha b u=>?_⟩,fun b u x C=>?_⟩;rcases zG.1 u with rfl|u;exact⟨hm,fun x C=>h1 x C⟩;exact⟨(O.1 b u).1,fun x C=>(O.1 b u).2 x (by show x∈s.x9;rw[G];exact zH _ C)⟩;have E:=V.2.2 a ha (lo,s) oL;rcases zG.1 u with rfl|u;exact E;rcases zG.1 u with rfl|u;exact⟨qu E.1 hm,fun x C=>qu (E.2 x C) hm⟩;exact V.2.2 a ha b (by simp[u]);rcases zD.1 u with u|u;exact h.low b (by simp[u]) x C;rcases zG.1 u with rfl|u;exact Q x (by show x∈s.x9;rw[G];exact zH _ C);rcases zG.1 u with rfl|u;exact h2 x C;exact h.low b (by simp[u]) x C
def E6{es:List io}:fe (dO es) k v=(es.length,(dY k v).2):=by unfold fe;rw[if_neg (show ¬(dO es).Q1=true from fun e=>nomatch e)];show ((es.map _).length,_)=_;rw[zK]
def ky:List io->List io
 | []=>[]
 | e::r=>([],e.2)::r
def qyK(es:List io):dO (ky es)=dO es:=by cases es<;>rfl
def qwT{es:List io}{mid:Nat}(E:1<=mid)(h:mid<es.length):ef (dO es) mid=(dO (es.take mid),dO (ky (es.drop mid)),es[mid].1):=by
 unfold ef;rw[if_neg (show ¬(dO es).Q1=true from fun e=>nomatch e),qyK];unfold dO;have e1:(es.map (·.1)).tail.take (mid-1)=((es.take mid).map (·.1)).tail:=by rw[<- drop_one,<- drop_one,xP,drop_take]
 have u:(es.map (·.1)).tail.drop mid=((es.drop mid).map (·.1)).tail:=(by rw[<- drop_one,<- drop_one,xQ,xD,xD,Nat.add_comm]);have C:(es.map (·.1)).tail.getD (mid-1) []=es[mid].1:=(by rw[yR,List.getElem?_tail,zQ,show mid-1+1=mid by omega,zA h];rfl);dsimp only;rw[e1,u,C];simp only[xP,xQ]
def gh.take{es:List io}(h:gh es)(n:Nat):gh (es.take n):=⟨List.Pairwise.sublist (take_sublist n es) h.pair,fun e u=>h.low e (yV u)⟩
def gh.drop{es:List io}(h:gh es)(n:Nat):gh (es.drop n):=⟨List.Pairwise.sublist (drop_sublist n es) h.pair,fun e u=>h.low e (yU u)⟩
def gh.ky{es:List io}(h:gh es):gh (ky es):=by
 cases es with
 | nil=>exact h
 | cons e r=>
  have C:=yJ.1 h.pair;refine⟨yJ.2 ⟨fun b u=>⟨?_,(C.1 b u).2⟩,C.2⟩,fun b u x G=>?_⟩
  have:=(C.1 b u).1
  cases E:b.1 with
  | nil=>rw[E] at this;exact absurd this qmM
  | cons y l=>show cmpL [] (y::l)<0;simp[cmpL]
  rcases zG.1 u with rfl|u;exact Cw _;exact h.low b (zN _ u) x G
def qoO{α:Type}{f:iO->List α}(es:List io):(ky es).flatMap (fun e=>f e.2)=es.flatMap fun e=>f e.2:=by cases es<;>rfl
def qqK{P:iO->Prop}{es:List io}(h:∀e∈es,P e.2):∀e∈ky es,P e.2:=by
 cases es with
 | nil=>exact h
 | cons a r=>
  intro e u;rcases zG.1 u with rfl|u;exact h a oL;exact h e (zN _ u)
def qvT{es:List io}(h:es≠[]):((ky es).map (·.1)).head?=some []:=by cases es with|nil=>exact absurd rfl h|cons a r=>rfl
def qxC(es:List io):(ky es).length=es.length:=by cases es<;>rfl
def gV (k:Nat) (es:List io):Prop:=∀e∈es.tail,e.1.length=k/\eS e.1
def gV.tail{es:List io}(h:gV k es):∀a∈(es.map (·.1)).tail,a.length=k/\eS a:=fun a u=>by rw[<- map_tail] at u;obtain⟨e,C,rfl⟩:=mem_map.1 u;exact h e C
def gV.of{es:List io}(h:iU (dO es) k v):gV k es:=fun e u=>by have:e.1∈(dO es).J3:=(by show e.1∈(es.map (·.1)).tail;rw[<- map_tail];exact zZ u);exact⟨h.right.1 _ this,h.J3 _ this⟩
def vg(u:M.Wf){x:Int}(h:dZ M x):2<=x/\x<4294967296:=by have C:=Cr u h;have E:=u.n4;omega
def Be{es:List io}(u:(es.map (·.1)).head?=some [])(C:iU (dO es) k v)(E:dJ D M q=(4,gO (dO es),0))(G:gh es)(I:∀e∈es,Has D M k v h e.2/\minOf k v h<=e.2.size): Has D M k v (h+1) ⟨q,es.length,es.flatMap (·.2.x9),q::es.flatMap (·.2.y5)⟩:=⟨es,u,rfl,rfl,rfl,C,E,G,I⟩
def qyJ{A B:List io}{e:io}{s1 s2:iO}(O:((A++e::B).map (·.1)).head?=some []){g:Grown}(u:g.Q8=s1.Q8)(C:g.Q7=s2.Q8)(E:g.key=m)(G:g.Q7≠0):gX (dO (A++e::B)) A.length g=dO (A++(e.1,s1)::(m,s2)::B):=by
 unfold gX;rw[if_pos G,u,C,E];unfold dO ga;dsimp only;congr 1;cases A with
 | nil=>simp
 | cons a A=>
  have:(A.map (·.1)++e.1::B.map (·.1)).take (A.length+1)=A.map (·.1)++[e.1]:=(by rw[show A.map (·.1)++e.1::B.map (·.1)=(A.map (·.1)++[e.1])++B.map (·.1) by simp];exact take_left' oL);have I:(A.map (·.1)++e.1::B.map (·.1)).drop (A.length+1)=B.map (·.1):=(by rw[show A.map (·.1)++e.1::B.map (·.1)=(A.map (·.1)++[e.1])++B.map (·.1) by simp];exact drop_left' oL);simp only[xN,xO,xJ,tail_cons,yI];rw[this,I];simp
 have J:(A.map (·.2.Q8)).length=A.length:=zK _;have h:(A.map (·.2.Q8)++e.2.Q8::B.map (·.2.Q8)).set A.length s1.Q8=(A.map (·.2.Q8)++[s1.Q8])++B.map (·.2.Q8):=(by rw[set_append_right _ _ oJ,J,Nat.sub_self];simp);simp only[xN,xO];rw[h,take_left' oL,drop_left' oL];simp
def qwS{A B:List io}{e:io}{s1:iO}{g:Grown}(u:g.Q8=s1.Q8)(C:g.Q7=0):gX (dO (A++e::B)) A.length g=dO (A++(e.1,s1)::B):=by unfold gX;rw[if_neg (fun h=>h C),u];unfold dO;dsimp only;have E:(A.map (·.2.Q8)).length=A.length:=zK _;congr 1;simp;simp only[xN,xO];rw[set_append_right _ _ oJ,E,Nat.sub_self];rfl
def Dz{α:Type}{a x b z:List α}:(a++(x++b)).Perm ((a++b)++x):=by rw[zV];exact List.Perm.append_left a perm_append_comm
def Step.node{M1 G:eQ}{a x y:List Int}{Q:List Int}(I:∀z∈p::(a++(x++b)),dZ M z)(J:(p::(a++(x++b))).Nodup)(O:Step D M M1 x y)(R:Step D M1 G [p] Q):Step D M G (p::(a++(x++b))) (Q++(a++(y++b))):=by have h:(p::(a++(x++b))).Perm ((p::(a++b))++x):=(by rw[xJ];exact (Dz (z:=a)).cons p);have C:=(O.beside (Z:=p::(a++b)) (fun z E=>I z (h.mem_iff.2 (zH _ E))) (h.nodup_iff.1 J));have u:((p::(a++b))++y).Perm ((a++(y++b))++[p]):=(by refine List.Perm.trans ?_ perm_append_comm;rw[xJ];exact ((Dz (z:=a)).symm).cons p);have U:=R.beside (Z:=a++(y++b)) (fun z E=>C.has z (u.mem_iff.2 (zH _ E))) (u.nodup_iff.1 C.nodup);exact ((C.perm (h.symm) u).trans U).perm (.refl _) perm_append_comm
def qmx{es:List io}{J5:Bool}(R:M.Wf)(I:M.Q0=false)(U:(es.map (·.1)).head?=some [])(J:iU (dO es) k v)(u:es.length<=(dY k v).2)(V:gh es)(E:∀e∈es,Has D M k v h e.2/\minOf k v h<=e.2.size)(hu:dZ M p)(G:p∉es.flatMap (·.2.y5))(O:1<=M.J8.length): ∃q M',gH k v M p (dO es) J5=((⟨q,J5,[],0⟩,0),M')/\Step D M M' [p] [q]/\Has D M' k v (h+1) ⟨q,es.length,es.flatMap (·.2.x9),q::es.flatMap (·.2.y5)⟩/\M.J8.length<=M'.J8.length+1:=by obtain⟨q,M',e,st,hr,hl⟩:=qmV (D:=D) (J5:=J5) R I J (by rw[E6];exact u) hu (fun e=>by rw[e] at O;exact absurd O oM);refine⟨q,M',e,st,Be U J hr V fun b C=>⟨(E b C).1.q8 fun x Q=>?_,(E b C).2⟩,hl⟩;exact (st.rest x ((E b C).1.J1 I x Q) (fun hm=>G (yK.2 ⟨b,C,by rw[<- zE.1 hm];exact Q⟩))).1
def A4{es:List io}(E:M.Wf)(G:M.Q0=false)(I:gV k es)(J:gh es)(O:2<=es.length)(Q:es.length<=(dY k v).2)(u:∀e∈es,Has D M k v h e.2):iU (dO es) k v:=
 qz4 I.tail J.rising O Q fun e C=>vg E ((u e C).J1 G e.2.Q8 (u e C).mem)
def qvU{es:List io}(h:gV k es):gV k (ky es):=by cases es<;>exact h
def qwV{es:List io}{J5:Bool}(hc:iG k v)(hW:M.Wf)(ho:M.Q0=false)(h0:(es.map (·.1)).head?=some [])(hk:gV k es)(az:es.length=(dY k v).2+1)(hs:gh es)(O:∀e∈es,Has D M k v h e.2/\minOf k v h<=e.2.size)(hu:dZ M p)(am:p∉es.flatMap (·.2.y5))(hf:2<=M.J8.length): ∃q o m M' Q L1 P1 R L2 P2,gH k v M p (dO es) J5=((⟨q,J5,m,o⟩,0),M')/\o≠0/\Step D M M' [p] [q,o]/\Has D M' k v (h+1) ⟨q,Q,L1,q::P1⟩/\Has D M' k v (h+1) ⟨o,R,L2,o::P2⟩/\L1++L2=es.flatMap (·.2.x9)/\P1++P2=es.flatMap (·.2.y5)/\(∀x∈L1,gf x.1 m)/\(∀y∈L2,mt m y.1)/\m.length=k/\eS m/\minOf k v (h+1)<=Q/\minOf k v (h+1)<=R/\M.J8.length<=M'.J8.length+2:=by
 have aH:=hc.inner;have C:es.length / 2<es.length:=oJ;have hh:=qwT (es:=es) (mid:=es.length / 2) oJ C;have lt:(es.take (es.length / 2)).length=es.length / 2:=(by rw[yL];omega);have ld:(ky (es.drop (es.length / 2))).length=es.length-es.length / 2:=(by rw[qxC,yC]);have E:∀e∈es.take (es.length / 2),Has D M k v h e.2/\minOf k v h<=e.2.size:=fun e u=>O e (yV u);have aq:∀e∈ky (es.drop (es.length / 2)),Has D M k v h e.2/\minOf k v h<=e.2.size:=qqK (P:=fun s=>Has D M k v h s/\minOf k v h<=s.size) fun e u=>O e (yU u);have U:=hs.take (es.length / 2);have V:=(hs.drop (es.length / 2)).ky;have ar:gV k (es.take (es.length / 2)):=fun e u=>by refine hk e ?_;rw[<- drop_one,drop_take] at u;rw[<- drop_one];exact yV u
 have au:gV k (ky (es.drop (es.length / 2))):=qvU fun e u=>by refine hk e ?_;rw[<- drop_one,xD,show es.length / 2+1=1+es.length / 2 by omega,<- xD] at u;rw[<- drop_one];exact yU u
 have Q:=A4 hW ho ar U oJ oJ fun e u=>(E e u).1;have R:=A4 hW ho au V oJ oJ fun e u=>(aq e u).1;have G:es.take (es.length / 2)++es.drop (es.length / 2)=es:=xE _ _;have hd:=zY C;obtain⟨q,o,M',e,aw,st,aa,ab,hl⟩:=qqP (D:=D) (k:=k) (v:=v) (p:=p) (J5:=J5) (mid:=es.length / 2) (n:=dO es) hW ho (by rw[E6]) (by rw[hh];exact Q) (by rw[hh];exact R) (by rw[E6];show es.length>_;omega) hu hf;rw[hh] at e aa ab;have fr:∀b∈es,∀x∈b.2.y5,dJ D M' x=dJ D M x:=fun b I x J=>
  (st.rest x ((O b I).1.J1 ho x J) (fun hm=>am (yK.2 ⟨b,I,by rw[<- zE.1 hm];exact J⟩))).1
 have f1:∀e∈es.take (es.length / 2),Has D M' k v h e.2/\minOf k v h<=e.2.size:=fun e u=>⟨(E e u).1.q8 (fr e (yV u)),(E e u).2⟩;have f2:∀e∈ky (es.drop (es.length / 2)),Has D M' k v h e.2/\minOf k v h<=e.2.size:=qqK (P:=fun s=>Has D M' k v h s/\minOf k v h<=s.size) fun e u=>⟨(O e (yU u)).1.q8 (fr e (yU u)),(O e (yU u)).2⟩;have ax:((es.take (es.length / 2)).map (·.1)).head?=some []:=by
  rw[xP];cases ad:es.map (·.1) with
  | nil=>rw[ad] at h0;cases h0
  | cons a r=>
   rw[ad] at h0;rw[show es.length / 2=(es.length / 2-1)+1 by omega,take_succ_cons];exact h0
 have ay:((ky (es.drop (es.length / 2))).map (·.1)).head?=some []:=qvT (by rw[hd];exact cons_ne_nil _ _);have ae:=hs;rw[<- G,hd] at ae;have hm:=ae.mid;have af:=hk es[es.length / 2] (by rw[<- drop_one];exact yF (i:=es.length / 2-1) (by rw[xA,show 1+(es.length / 2-1)=es.length / 2 by omega,zA C]));have ep:(ky (es.drop (es.length / 2))).flatMap (·.2.x9)=(es.drop (es.length / 2)).flatMap (·.2.x9):=qoO (f:=iO.x9) _;have eg:(ky (es.drop (es.length / 2))).flatMap (·.2.y5)=(es.drop (es.length / 2)).flatMap (·.2.y5):=qoO (f:=iO.y5) _;have H2:=Be ay R ab V f2;refine⟨q,o,es[es.length / 2].1,M',_,_,_,_,_,_,e,aw,st,Be ax Q aa U f1,H2,?_,?_,fun x J=>?_,fun y hy=>?_,af.1,af.2,?_,?_,hl⟩;rw[ep,<- yQ,G];rw[eg,<- yQ,G];obtain⟨a,ha,J⟩:=yK.1 J;exact hm.1 a ha x J;rw[ep,hd] at hy;obtain⟨b,I,hy⟩:=yK.1 hy;rcases zG.1 I with rfl|I;exact hs.low _ (zX C) y hy;exact BC (uq (hm.2 b I).1) ((hm.2 b I).2.2 y hy);show (dY k v).2 / 2<=_;omega;show (dY k v).2 / 2<=_;omega
def Ib{A B:List io}{e:io}{s:iO}(h:gV k (A++e::B)):gV k (A++(e.1,s)::B):=by
 cases A with
 | nil=>exact h
 | cons a A=>
  intro b u;rcases zD.1 (show b∈A++(e.1,s)::B from u) with u|u;exact h b (show b∈A++e::B from zH _ u);rcases zG.1 u with rfl|u;exact h e (show e∈A++e::B from zI _ mem_cons_self);exact h b (show b∈A++e::B from zI _ (zN _ u))
def qsh{A B:List io}{e:io}{s1 s2:iO}(h:gV k (A++e::B))(G:m.length=k/\eS m):gV k (A++(e.1,s1)::(m,s2)::B):=by
 have E:∀b∈(m,s2)::B,(∀c∈B,c.1.length=k/\eS c.1)->b.1.length=k/\eS b.1:=fun b u I=>(zG.1 u).elim (fun e=>by rw[e];exact G) (I b);cases A with
 | nil=>exact fun b u=>E b u fun c C=>h c C
 | cons a A=>
  intro b u;rcases zD.1 (show b∈A++(e.1,s1)::(m,s2)::B from u) with u|u;exact h b (show b∈A++e::B from zH _ u);rcases zG.1 u with rfl|u;exact h e (show e∈A++e::B from zI _ mem_cons_self);exact E b u fun c C=>h c (show c∈A++e::B from zI _ (zN _ C))
def quK(hc:iG k v){key val:Key}(hk:key.length=k/\eS key)(hv:val.length=v/\eS val):∀(h:Nat) (M:eQ) (s:iO),Has D M k v h s->M.Wf->M.Q0=false->s.y5.Nodup->s.size<=1000->2*(h+1)<=M.J8.length-> ∃g M',iF D k v key val (h+1) M s.Q8=((g,0),M')/\wQ D M k v h s key val g M'
 | 0,M,⟨p,n,L,P⟩,⟨h1,h2,h3,h4⟩,hW,ho,aR,_,hf=>by
  dsimp only at h1 h2 h3 h4;subst h1 h2;have hp:dZ M p:=Hc ho (by rw[h4]);have hl:dL D M k v p=(eh L,0):=h3.load h4;have hs:fH L:=h3.right.2.2.1;have hL:mO k v L:=fun x E=>⟨h3.right.1 x.1 (zZ E),h3.right.2.1 x.2 (zZ E),h3.J3 x.1 (zZ E),h3.J7 x.2 (zZ E)⟩;have I:=h3.right.2.2.2;rw[if_pos (show (eh L).Q1=true from rfl)] at I;have a2:1<=L.length/\L.length<=(dY k v).1:=by have e:(eh L).J3.length=L.length:=zK _;rw[e] at I;exact⟨I.2.1,I.2.2.1⟩
  have aT:(eh L).J3=dU L:=rfl;have ai:=qvv (v:=val) (k:=key) hs;have ay:mO k v (gj key val L):=fun x E=>(Ci E).elim (fun e=>by rw[e];exact⟨hk.1,hv.1,hk.2,hv.2⟩) (hL x);have az:=Es (k:=key) (v:=val) hs;unfold iF;rw[hl];dsimp only;rw[if_neg (fun h=>h rfl),if_pos (show (eh L).Q1=true from rfl),aT];by_cases O:(dU L)[dP (dU L) key]?=some key;rw[if_pos O,qAX O];rw[if_pos O] at ai;have aj:=DC (v:=val) hs ((Ag hs).1 O);rw[ai] at ay az aj;exact qsD hc hW ho hp oJ ay az oJ oJ oJ ai.symm (by rw[zU (fun h=>h ((Ag hs).1 O))]);rw[if_neg O,qAe];rw[if_neg O] at ai;have a3:key∉dU L:=fun h=>O ((Ag hs).2 h);have aj:=E3 (v:=val) a3;rw[ai] at ay az aj;exact qsD hc hW ho hp oJ ay az oJ oJ oJ ai.symm (by rw[yA a3])
 | h+1,M,⟨p,n,L,P⟩,⟨J,h0,h1,h2,h3,h4,h5,h6,h7⟩,hW,ho,aR,h8,hf=>by
  dsimp only at h1 h2 h3 h5 aR h8;subst h1 h2 h3;have hp:dZ M p:=Hc ho (by rw[h5]);have hl:dL D M k v p=(dO J,0):=h4.load h5;have bS:=h4.right.x6;obtain⟨A,e,B,G,hA,aU,aV,aW⟩:=ww (key:=key) h0 h6;have aX:(dO J).J6.getD (eA (dO J).J3 key) 0=e.2.Q8:=aW;have bC:eA (dO J).J3 key=A.length:=hA.symm;have bD:e∈J:=(by rw[G];simp);obtain⟨aB,an⟩:=h7 e bD;have ab:∀z∈p::J.flatMap (·.2.y5),dZ M z:=fun z hz=>(zG.1 hz).elim (fun e=>by rw[e];exact hp) fun hz=>by obtain⟨b,u,hz⟩:=yK.1 hz;exact (h7 b u).1.J1 ho z hz
  have ae:J.flatMap (·.2.y5)=A.flatMap (·.2.y5)++(e.2.y5++B.flatMap (·.2.y5)):=(by rw[G,rT]);have ac:J.flatMap (·.2.x9)=A.flatMap (·.2.x9)++(e.2.x9++B.flatMap (·.2.x9)):=(by rw[G,rT]);have R:=aR;have ag:=ab;rw[ae] at R ag;have bE:e.2.size<=1000:=by
   have:=Ch (k:=k) (v:=v)
   cases h with
   | zero=>
    have h9:=aB.2.2.1.right.2.2.2;rw[if_pos (show (eh e.2.x9).Q1=true from rfl)] at h9;have bF:=h9.2.2.1;have e1:(eh e.2.x9).J3.length=e.2.x9.length:=zK _;rw[e1] at bF;rw[aB.2.1];omega
   | succ h=>
    obtain⟨bZ,_,g1,_,_,g4,_⟩:=aB
    have:=g4.right.x6
    rw[g1];omega
  have a4:e.2.y5.Nodup:=(yM.1 (yM.1 (nodup_cons.1 R).2).2.1).1;obtain⟨g,M1,eg,ok⟩:=quK hc hk hv h M e.2 aB hW ho a4 bE oJ;have bH:=ok.J8;have ah:=h6;rw[G] at ah;have ao:=ah.mid;have a5:∀x∈A.flatMap (·.2.x9),gf x.1 key:=fun x E=>by obtain⟨a,ha,E⟩:=yK.1 E;exact sQ (ao.1 a ha x E) aU
  have a6:∀x∈B.flatMap (·.2.x9),gf key x.1:=fun x E=>by obtain⟨b,u,E⟩:=yK.1 E;exact sQ (aV b u) ((ao.2 b u).2.2 x E)
  have aL:gj key val (J.flatMap (·.2.x9))=A.flatMap (·.2.x9)++(gj key val e.2.x9++B.flatMap (·.2.x9)):=(by rw[ac,BX a5,qmy a6]);have aC:g.J5=decide (key∉dU (J.flatMap (·.2.x9))):=by rw[ok.J5];refine decide_eq_decide.2 (not_congr ⟨fun O=>?_,fun O=>?_⟩);obtain⟨x,E,rfl⟩:=mem_map.1 O;exact zZ (by rw[ac];exact zI _ (zH _ E));obtain⟨x,E,rfl⟩:=mem_map.1 O;rw[ac] at E;rcases zD.1 E with E|E;exact absurd (a5 x E) sq;rcases zD.1 E with E|E;exact zZ E;exact absurd (a6 x E) sq
  have ap:p∉e.2.y5:=fun O=>(nodup_cons.1 R).1 (zI _ (zH _ O));have a7:∀b,b∈A\/b∈B->∀z∈b.2.y5,z∉e.2.y5:=fun b u z hz O=>by have h9:=yM.1 (nodup_cons.1 R).2;rcases u with u|u;exact h9.2.2 z (yK.2 ⟨b,u,hz⟩) z (zH _ O) rfl;exact (yM.1 h9.2.1).2.2 z O z (yK.2 ⟨b,u,hz⟩) rfl
  have ad:=gV.of h4;have a8:∀ {MM:eQ} {Q:List Int},Step D M MM e.2.y5 Q->p∉A.flatMap (·.2.y5)++(Q++B.flatMap (·.2.y5)):=fun st O=>by have h9:=(nodup_cons.1 R).1;rcases zD.1 O with O|O;exact h9 (zH _ O);rcases zD.1 O with O|O;exact (st.rest p hp ap).2.2 O;exact h9 (zI _ (zI _ O))
  unfold iF;rw[hl];dsimp only;rw[if_neg (fun h=>h rfl),if_neg (show ¬(dO J).Q1=true from fun e=>nomatch e),aX,eg];dsimp only;rw[if_neg (fun h=>h rfl),bC];have aa:∀ {MM:eQ},(∀x∈p::J.flatMap (·.2.y5),x∉e.2.y5->dJ D MM x=dJ D M x)->∀b,b∈A\/b∈B->Has D MM k v h b.2/\minOf k v h<=b.2.size:=fun hr b u=>by
   have aY:b∈J:=by rw[G];rcases u with u|u<;>simp[u]
   exact⟨(h7 b aY).1.q8 fun x E=>hr x (zN _ (yK.2 ⟨b,aY,E⟩)) (a7 b u x E),(h7 b aY).2⟩
  rcases ok.Ek with ⟨aD,n',P',aM,st,aN⟩|⟨aD,n1,L1,P1,n2,L2,P2,a9,a',aO,ba,bb,bc,bd,bI,bJ,st⟩;have U:((A++(e.1,(⟨g.Q8,n',gj key val e.2.x9,P'⟩:iO))::B).map (·.1)).head?=some []:=by rw[G] at h0;rw[xN,xO] at h0⊢;exact h0
  have V:gh (A++(e.1,(⟨g.Q8,n',gj key val e.2.x9,P'⟩:iO))::B):=ah.put aU aV fun x E=>(Ci E).imp (fun e=>by rw[e]) id;have C:∀x∈p::J.flatMap (·.2.y5),x∉e.2.y5->dJ D M1 x=dJ D M x:=fun x E aZ=>(st.rest x (ab x E) aZ).1;have I:(A++(e.1,(⟨g.Q8,n',gj key val e.2.x9,P'⟩:iO))::B).length=J.length:=(by rw[G];simp);have ar:(A++(e.1,(⟨g.Q8,n',gj key val e.2.x9,P'⟩:iO))::B).flatMap (·.2.x9)=gj key val (J.flatMap (·.2.x9)):=(by rw[rT,aL]);have af:(A++(e.1,(⟨g.Q8,n',gj key val e.2.x9,P'⟩:iO))::B).flatMap (·.2.y5)=A.flatMap (·.2.y5)++(P'++B.flatMap (·.2.y5)):=(by rw[rT]);by_cases hsame:g.Q8=e.2.Q8/\g.Q7=0;rw[if_pos hsame];have bf:dO (A++(e.1,(⟨g.Q8,n',gj key val e.2.x9,P'⟩:iO))::B)=dO J:=(by rw[G];unfold dO;simp[hsame.1]);have bK:dJ D M1 p=(4,gO (dO (A++(e.1,(⟨g.Q8,n',gj key val e.2.x9,P'⟩:iO))::B)),0):=(by rw[C p oL ap,h5,bf]);refine⟨_,M1,rfl,aC,oJ,.inl ⟨rfl,J.length,p::(A.flatMap (·.2.y5)++(P'++B.flatMap (·.2.y5))),?_,?_,zM _⟩⟩
  have:=Be U (by rw[bf];exact h4) bK V (h:=h) fun b u=>?_
  rw[I,ar,af] at this;exact this;rcases zD.1 u with u|u;exact aa C b (.inl u);rcases zG.1 u with rfl|u;exact⟨aM,zL an aN⟩;exact aa C b (.inr u);show Step D M M1 (p::J.flatMap (·.2.y5)) _;rw[ae];have h9:=Step.node (p:=p) ag R st (Step.refl (D:=D) st.wf st.Q0 (P:=[p]) (fun x E=>by rw[zE.1 E];exact (st.rest p hp ap).2.1) oL);exact h9;rw[if_neg hsame,G,qwS (s1:=⟨g.Q8,n',gj key val e.2.x9,P'⟩) rfl aD];have ak:∀b∈A++(e.1,(⟨g.Q8,n',gj key val e.2.x9,P'⟩:iO))::B,Has D M1 k v h b.2/\minOf k v h<=b.2.size:=fun b u=>by rcases zD.1 u with u|u;exact aa C b (.inl u);rcases zG.1 u with rfl|u;exact⟨aM,zL an aN⟩;exact aa C b (.inr u)
  have aG:gV k (A++(e.1,(⟨g.Q8,n',gj key val e.2.x9,P'⟩:iO))::B):=Ib (by rw[<- G];exact ad);have hN:=A4 st.wf st.Q0 aG V oJ oJ fun b u=>(ak b u).1;obtain⟨q,M2,e2,au,H2,aj⟩:=qmx (J5:=g.J5) st.wf st.Q0 U hN oJ V ak (st.rest p hp ap).2.1 (by rw[af];exact a8 st) oJ;refine⟨_,M2,e2,by rw[<- G];exact aC,oJ,.inl ⟨rfl,J.length,q::(A.flatMap (·.2.y5)++(P'++B.flatMap (·.2.y5))),?_,?_,Nat.le_of_eq (by rw[G])⟩⟩;rw[I,ar,af] at H2;rw[<- G];exact H2;show Step D M M2 (p::(A++e::B).flatMap (·.2.y5)) _;rw[rT];exact Step.node (p:=p) ag R st au;have bi:L1≠[]:=a9.ne;have bj:L2≠[]:=a'.ne;rw[if_neg (fun h=>aD h.2)];have V:gh (A++(e.1,(⟨g.Q8,n1,L1,P1⟩:iO))::(g.key,⟨g.Q7,n2,L2,P2⟩)::B):=
   (ah.put (s:=⟨0,0,gj key val e.2.x9,[]⟩) aU aV fun x E=>(Ci E).imp (fun e=>by rw[e]) id).zt aO.symm ba bb bi bj
  have U:((A++(e.1,(⟨g.Q8,n1,L1,P1⟩:iO))::(g.key,⟨g.Q7,n2,L2,P2⟩)::B).map (·.1)).head?=some []:=by
   rw[G] at h0;rw[xN,xO] at h0⊢;cases A with
   | nil=>exact h0
   | cons a A=>exact h0
  have C:∀x∈p::J.flatMap (·.2.y5),x∉e.2.y5->dJ D M1 x=dJ D M x:=fun x E aZ=>(st.rest x (ab x E) aZ).1;have I:(A++(e.1,(⟨g.Q8,n1,L1,P1⟩:iO))::(g.key,⟨g.Q7,n2,L2,P2⟩)::B).length=J.length+1:=(by rw[G];simp;omega);have ar:(A++(e.1,(⟨g.Q8,n1,L1,P1⟩:iO))::(g.key,⟨g.Q7,n2,L2,P2⟩)::B).flatMap (·.2.x9)=gj key val (J.flatMap (·.2.x9)):=(by rw[rT,yH,aL,<- aO,zV]);have af:(A++(e.1,(⟨g.Q8,n1,L1,P1⟩:iO))::(g.key,⟨g.Q7,n2,L2,P2⟩)::B).flatMap (·.2.y5)=A.flatMap (·.2.y5)++((P1++P2)++B.flatMap (·.2.y5)):=(by rw[rT,yH,zV P1]);have ak:∀b∈A++(e.1,(⟨g.Q8,n1,L1,P1⟩:iO))::(g.key,⟨g.Q7,n2,L2,P2⟩)::B,Has D M1 k v h b.2/\minOf k v h<=b.2.size:=fun b u=>by rcases zD.1 u with u|u;exact aa C b (.inl u);rcases zG.1 u with rfl|u;exact⟨a9,bI⟩;rcases zG.1 u with rfl|u;exact⟨a',bJ⟩;exact aa C b (.inr u)
  have aG:gV k (A++(e.1,(⟨g.Q8,n1,L1,P1⟩:iO))::(g.key,⟨g.Q7,n2,L2,P2⟩)::B):=qsh (by rw[<- G];exact ad) ⟨bc,bd⟩;have bk:p∉(A++(e.1,(⟨g.Q8,n1,L1,P1⟩:iO))::(g.key,⟨g.Q7,n2,L2,P2⟩)::B).flatMap (·.2.y5):=(by rw[af];exact a8 st);have bl:=(st.rest p hp ap).2.1;have bM:gX (dO J) A.length g=dO (A++(e.1,(⟨g.Q8,n1,L1,P1⟩:iO))::(g.key,⟨g.Q7,n2,L2,P2⟩)::B):=(by rw[G];exact qyJ (by rw[<- G];exact h0) rfl rfl rfl aD);rw[bM];have bm:∀ {M2:eQ} {Q:List Int},Step D M1 M2 [p] Q->Step D M M2 (p::J.flatMap (·.2.y5)) (Q++(A.flatMap (·.2.y5)++((P1++P2)++B.flatMap (·.2.y5)))):=fun h2=>by rw[ae];exact Step.node (p:=p) ag R st h2
  by_cases u:J.length+1<=(dY k v).2;have hN:=A4 st.wf st.Q0 aG V oJ oJ fun b u=>(ak b u).1;obtain⟨q,M2,e2,au,H2,aj⟩:=qmx (J5:=g.J5) st.wf st.Q0 U hN oJ V ak bl bk oJ;rw[I,ar,af] at H2;exact⟨_,M2,e2,aC,oJ,.inl ⟨rfl,_,_,H2,bm au,by show J.length<=J.length+1;omega⟩⟩;obtain⟨q,o,m,M2,n3,L3,P3,n4,L4,P4,e2,bN,au,H3,H4,hL,hP,bO,a2,bn,bo,bP,bQ,aj⟩:=qwV (J5:=g.J5) hc st.wf st.Q0 U aG oJ V ak bl bk oJ;rw[ar] at hL;rw[af] at hP;refine⟨_,M2,e2,aC,oJ,.inr ⟨bN,_,_,_,_,_,_,H3,H4,hL,bO,a2,bn,bo,bP,bQ,?_⟩⟩
  have:=bm au
  rw[<- hP] at this;refine this.perm (.refl _) ?_;show (q::o::(P3++P4)).Perm (q::(P3++o::P4));exact (perm_middle.symm).cons q
end
end
section
def iw {α:Type} (l:List α) (i:Nat):List α:=l.take i++l.drop (i+1)
def pS (n:dN) (k v:Nat):Prop:=(fe n k v).1<(fe n k v).2 / 2
def jp (n:dN) (k v:Nat):Prop:=(fe n k v).1>(fe n k v).2 / 2
def jr (l r:dN) (key:Key):dN×dN×Key:=
 if l.Q1 then
  ({ l with J3:=l.J3.take (l.J3.length-1),J7:=l.J7.take (l.J3.length-1) },
  { r with J3:=l.J3.getD (l.J3.length-1) []::r.J3,J7:=l.J7.getD (l.J3.length-1) []::r.J7 },l.J3.getD (l.J3.length-1) [])
 else
  ({ l with J3:=l.J3.take (l.J3.length-1),J6:=l.J6.take (l.J3.length-1+1) },
  { r with J3:=key::r.J3,J6:=l.J6.getD (l.J3.length-1+1) 0::r.J6 },l.J3.getD (l.J3.length-1) [])
def takeN (l r:dN) (key:Key):dN×dN×Key:=
 if l.Q1 then
  ({ l with J3:=l.J3++[r.J3.getD 0 []],J7:=l.J7++[r.J7.getD 0 []] },{ r with J3:=r.J3.drop 1,J7:=r.J7.drop 1 },(r.J3.drop 1).getD 0 [])
 else
  ({ l with J3:=l.J3++[key],J6:=l.J6++[r.J6.getD 0 0] },{ r with J3:=r.J3.drop 1,J6:=r.J6.drop 1 },r.J3.getD 0 [])
def lq (l r:dN) (key:Key):dN:=⟨l.Q1,(if l.Q1 then l.J3 else l.J3++[key])++r.J3,l.J7++r.J7,l.J6++r.J6⟩
noncomputable def mh (k v:Nat) (M:eQ) (n:dN) (i:Nat) (l r:dN):(dN×Int)×eQ:=
 if (dS k v M (n.J6.getD i 0) (lq l r (n.J3.getD i []))).1.2≠0 then ((iY,(dS k v M (n.J6.getD i 0) (lq l r (n.J3.getD i []))).1.2),(dS k v M (n.J6.getD i 0) (lq l r (n.J3.getD i []))).2)
 else if (fL (dS k v M (n.J6.getD i 0) (lq l r (n.J3.getD i []))).2 (n.J6.getD (i+1) 0)).1≠0 then ((iY,(fL (dS k v M (n.J6.getD i 0) (lq l r (n.J3.getD i []))).2 (n.J6.getD (i+1) 0)).1),(fL (dS k v M (n.J6.getD i 0) (lq l r (n.J3.getD i []))).2 (n.J6.getD (i+1) 0)).2)
 else (({ n with J6:=iw (n.J6.set i (dS k v M (n.J6.getD i 0) (lq l r (n.J3.getD i []))).1.1) (i+1),J3:=iw n.J3 i },0),(fL (dS k v M (n.J6.getD i 0) (lq l r (n.J3.getD i []))).2 (n.J6.getD (i+1) 0)).2)
noncomputable def oi (k v:Nat) (M:eQ) (n:dN) (i:Nat) (r:dN×dN×Key):(dN×Int)×eQ:=
 if (dS k v M (n.J6.getD i 0) r.1).1.2≠0 then ((iY,(dS k v M (n.J6.getD i 0) r.1).1.2),(dS k v M (n.J6.getD i 0) r.1).2)
 else (({ n with J3:=n.J3.set i r.2.2,J6:=(n.J6.set i (dS k v M (n.J6.getD i 0) r.1).1.1).set (i+1) (dS k v (dS k v M (n.J6.getD i 0) r.1).2 (n.J6.getD (i+1) 0) r.2.1).1.1 },(dS k v (dS k v M (n.J6.getD i 0) r.1).2 (n.J6.getD (i+1) 0) r.2.1).1.2),(dS k v (dS k v M (n.J6.getD i 0) r.1).2 (n.J6.getD (i+1) 0) r.2.1).2)
noncomputable def kx (D:dM) (k v:Nat) (M:eQ) (n:dN) (side c:Nat) (x:dN):(dN×Int)×eQ:=
 if (dL D M k v (n.J6.getD side 0)).2≠0 then ((iY,(dL D M k v (n.J6.getD side 0)).2),M)
 else if side<c then
  if ¬jp (dL D M k v (n.J6.getD side 0)).1 k v then mh k v M n side (dL D M k v (n.J6.getD side 0)).1 x
  else oi k v M n side (jr (dL D M k v (n.J6.getD side 0)).1 x (n.J3.getD side []))
 else
  if ¬jp (dL D M k v (n.J6.getD side 0)).1 k v then mh k v M n c x (dL D M k v (n.J6.getD side 0)).1
  else oi k v M n c (takeN x (dL D M k v (n.J6.getD side 0)).1 (n.J3.getD c []))
noncomputable def iL (D:dM) (k v:Nat) (key:Key):Nat->eQ->Int->(dN×Int)×eQ
 | 0,M,_=>((iY,-1),M)
 | f+1,M,p=>
  if (dL D M k v p).2≠0 then ((iY,(dL D M k v p).2),M)
  else if (dL D M k v p).1.Q1 then
   if (dL D M k v p).1.J3[dP (dL D M k v p).1.J3 key]?=some key then (({ (dL D M k v p).1 with J3:=iw (dL D M k v p).1.J3 (dP (dL D M k v p).1.J3 key),J7:=iw (dL D M k v p).1.J7 (dP (dL D M k v p).1.J3 key) },0),M)
   else ((iY,5),M)
  else if (iL D k v key f M ((dL D M k v p).1.J6.getD (eA (dL D M k v p).1.J3 key) 0)).1.2≠0 then
   ((iY,(iL D k v key f M ((dL D M k v p).1.J6.getD (eA (dL D M k v p).1.J3 key) 0)).1.2),(iL D k v key f M ((dL D M k v p).1.J6.getD (eA (dL D M k v p).1.J3 key) 0)).2)
  else if ¬pS (iL D k v key f M ((dL D M k v p).1.J6.getD (eA (dL D M k v p).1.J3 key) 0)).1.1 k v then
   (({ (dL D M k v p).1 with J6:=(dL D M k v p).1.J6.set (eA (dL D M k v p).1.J3 key) (dS k v (iL D k v key f M ((dL D M k v p).1.J6.getD (eA (dL D M k v p).1.J3 key) 0)).2 ((dL D M k v p).1.J6.getD (eA (dL D M k v p).1.J3 key) 0) (iL D k v key f M ((dL D M k v p).1.J6.getD (eA (dL D M k v p).1.J3 key) 0)).1.1).1.1 },
    (dS k v (iL D k v key f M ((dL D M k v p).1.J6.getD (eA (dL D M k v p).1.J3 key) 0)).2 ((dL D M k v p).1.J6.getD (eA (dL D M k v p).1.J3 key) 0) (iL D k v key f M ((dL D M k v p).1.J6.getD (eA (dL D M k v p).1.J3 key) 0)).1.1).1.2),
    (dS k v (iL D k v key f M ((dL D M k v p).1.J6.getD (eA (dL D M k v p).1.J3 key) 0)).2 ((dL D M k v p).1.J6.getD (eA (dL D M k v p).1.J3 key) 0) (iL D k v key f M ((dL D M k v p).1.J6.getD (eA (dL D M k v p).1.J3 key) 0)).1.1).2)
  else if eA (dL D M k v p).1.J3 key>0 then
   kx D k v (iL D k v key f M ((dL D M k v p).1.J6.getD (eA (dL D M k v p).1.J3 key) 0)).2 (dL D M k v p).1 (eA (dL D M k v p).1.J3 key-1) (eA (dL D M k v p).1.J3 key) (iL D k v key f M ((dL D M k v p).1.J6.getD (eA (dL D M k v p).1.J3 key) 0)).1.1
  else kx D k v (iL D k v key f M ((dL D M k v p).1.J6.getD (eA (dL D M k v p).1.J3 key) 0)).2 (dL D M k v p).1 (eA (dL D M k v p).1.J3 key+1) (eA (dL D M k v p).1.J3 key) (iL D k v key f M ((dL D M k v p).1.J6.getD (eA (dL D M k v p).1.J3 key) 0)).1.1
section
variable {D:dM} {M M':eQ} {k v:Nat}
def jH (D:dM) (M:eQ) (k v:Nat):Nat->dN->Nat->gu->List Int->Prop
 | 0,N,n,L,R=>N=eh L/\n=L.length/\R=[]/\mO k v L/\fH L/\n<=(dY k v).1
 | h+1,N,n,L,R=>∃u:List io,(u.map (·.1)).head?=some []/\N=dO u/\n=u.length/\L=u.flatMap (·.2.x9)/\R=u.flatMap (·.2.y5)/\gV k u/\gh u/\n<=(dY k v).2/\∀e∈u,Has D M k v h e.2/\minOf k v h<=e.2.size
def oneOf (h:Nat):Nat:=if h=0 then 1 else 2
def jH.size{n:Nat}(u:jH D M k v h N n L R):fe N k v=(n,if h=0 then (dY k v).1 else (dY k v).2):=by
 cases h with
 | zero=>
  obtain⟨rfl,rfl,_⟩:=u;exact EC
 | succ h=>
  obtain⟨C,_,rfl,rfl,_⟩:=u;exact E6
def jH.J1{h:Nat}{N:dN}{n:Nat}{L:gu}{R:List Int}(E:M.Q0=false)(C:jH D M k v h N n L R):∀x∈R,dZ M x:=by
 cases h with
 | zero=>obtain⟨_,_,rfl,_⟩:=C;exact fun x u=>nomatch u
 | succ h=>
  obtain⟨J,_,_,_,_,rfl,_,_,_,G⟩:=C;intro x u;obtain⟨e,I,u⟩:=yK.1 u;exact (G e I).1.J1 E x u
def jH.q8{h:Nat}{N:dN}{n:Nat}{L:gu}{R:List Int}(C:jH D M k v h N n L R)(G:∀x∈R,dJ D M' x=dJ D M x):jH D M' k v h N n L R:=by
 cases h with
 | zero=>exact C
 | succ h=>
  obtain⟨I,J,O,Q,U,rfl,V,h7,h8,E⟩:=C;exact⟨I,J,O,Q,U,rfl,V,h7,h8,fun e u=>⟨(E e u).1.q8 fun x hx=>G x (yK.2 ⟨e,u,hx⟩),(E e u).2⟩⟩
def jH.ok{n:Nat}(E:M.Wf)(G:M.Q0=false)(u:jH D M k v h N n L R)(C:oneOf h<=n):iU N k v:=by
 cases h with
 | zero=>
  obtain⟨rfl,rfl,_,I,J,O⟩:=u;exact Cv I J C O
 | succ h=>
  obtain⟨es,h2,rfl,rfl,h4,rfl,Q,U,V,he⟩:=u;exact A4 E G Q U C V fun e hm=>(he e hm).1
def jH.stored{n:Nat}(G:M.Wf)(I:M.Q0=false)(C:jH D M k v h N n L R)(J:oneOf h<=n)(E:dJ D M q=(jh N,gO N,0)):Has D M k v h ⟨q,n,L,q::R⟩:=by
 have u:=C.ok G I J;cases h with
 | zero=>
  obtain⟨rfl,rfl,rfl,V,hs,hl⟩:=C;exact CY u E
 | succ h=>
  obtain⟨es,O,rfl,rfl,rfl,rfl,h6,Q,h8,U⟩:=C;exact Be O u E Q U
def Has.load{h:Nat}{s:iO}(Q:Has D M k v h s):∃N R,dL D M k v s.Q8=(N,0)/\jH D M k v h N s.size s.x9 R/\s.y5=s.Q8::R/\N.Q1=decide (h=0)/\oneOf h<=s.size:=by
 cases h with
 | zero=>
  obtain⟨G,I,C,J⟩:=Q;have u:=C.right.2.2.2;rw[if_pos (show (eh s.x9).Q1=true from rfl)] at u;have e:(eh s.x9).J3.length=s.x9.length:=zK _;rw[e] at u;exact⟨eh s.x9,[],C.load J,⟨rfl,I,rfl,fun x O=>⟨C.right.1 x.1 (zZ O),C.right.2.1 x.2 (zZ O),C.J3 x.1 (zZ O),C.J7 x.2 (zZ O)⟩,C.right.2.2.1,by rw[I];exact u.2.2.1⟩,G,rfl,by rw[I];exact u.2.1⟩
 | succ h=>
  obtain⟨U,V,G,I,C,J,h5,h6,h7⟩:=Q;have E:=J.right.x6;exact⟨dO U,_,J.load h5,⟨U,V,rfl,G,I,rfl,gV.of J,h6,by rw[G];exact E.2,h7⟩,C,rfl,by rw[G];exact E.1⟩
def jH.store{n:Nat}(G:M.Wf)(u:M.Q0=false)(C:jH D M k v h N n L R)(I:oneOf h<=n)(Q:dZ M p)(E:p∉R)(J:1<=M.J8.length): ∃q M',dS k v M p N=((q,0),M')/\Step D M M' [p] [q]/\Has D M' k v h ⟨q,n,L,q::R⟩/\M.J8.length<=M'.J8.length+1:=by obtain⟨q,M',e,st,U,V,_⟩:=GV (D:=D) G u (C.ok G u I) Q (fun e=>by rw[e] at J;exact absurd J oM);exact⟨q,M',e,st,(C.q8 fun x O=>(st.rest x (C.J1 u x O) (fun hm=>E (by rw[<- zE.1 hm];exact O))).1).stored st.wf st.Q0 I U,V⟩
def qAc{h u:gu}{z:Key×Key}:jr (eh (h++[z])) (eh u) key=(eh h,eh (z::u),z.1):=by unfold jr;rw[if_pos (show (eh _).Q1=true from rfl)];unfold eh;simp
def qAf{h u:gu}{z y:Key×Key}:takeN (eh h) (eh (z::y::u)) key=(eh (h++[z]),eh (y::u),y.1):=by unfold takeN;rw[if_pos (show (eh _).Q1=true from rfl)];unfold eh;simp
def qAd{h u:gu}:lq (eh h) (eh u) key=eh (h++u):=by unfold lq;unfold eh;simp
def qz5{a z b:io}{h u:List io}:jr (dO (a::h++[z])) (dO (b::u)) key=(dO (a::h),dO (([],z.2)::(key,b.2)::u),z.1):=by unfold jr;rw[if_neg (show ¬(dO _).Q1=true from fun e=>nomatch e)];unfold dO;simp
def qz7{h u:List io}{a z y:io}:takeN (dO (a::h)) (dO (z::y::u)) key=(dO (a::h++[(key,z.2)]),dO (([],y.2)::u),y.1):=by unfold takeN;rw[if_neg (show ¬(dO _).Q1=true from fun e=>nomatch e)];unfold dO;simp
def qz6{h u:List io}{a b:io}:lq (dO (a::h)) (dO (b::u)) key=dO (a::h++(key,b.2)::u):=by unfold lq;unfold dO;simp
def gh.uC{a b:List io}(u:gh a)(C:gh b)(h:∀x∈a,∀y∈b,gf x.1 y.1/\∀z∈x.2.x9,gf z.1 y.1):gh (a++b):=
 ⟨pairwise_append.2 ⟨u.pair,C.pair,fun x E y G=>h x E y G⟩,fun e I=>(zD.1 I).elim (u.low e) (C.low e)⟩
def gh.sub{a b:List io}(h:gh b)(u:a.Sublist b):gh a:=⟨h.pair.sublist u,fun e C=>h.low e (u.subset C)⟩
def FB{e:io}(h:∀x∈e.2.x9,mt e.1 x.1):gh [e]:=⟨pairwise_singleton _ _,fun a u=>by rw[zE.1 u];exact h⟩
def qus{a b:Key}(h:gf a b):gf [] b:=by
 cases b with
 | nil=>exact absurd h qmM
 | cons y l=>show cmpL [] (y::l)<0;simp[cmpL]
def gh.head{x:io}{r:List io}(h:gh (x::r))(E:∀b∈r,gf m b.1)(G:∀y∈x.2.x9,mt m y.1):gh ((m,x.2)::r):=by have C:=yJ.1 h.pair;exact⟨yJ.2 ⟨fun b u=>⟨E b u,(C.1 b u).2⟩,C.2⟩,fun b u=>(zG.1 u).elim (fun e=>by rw[e];exact G) fun u=>h.low b (zN _ u)⟩
def G7{x:io}{r:List io}(C:gh (x::r))(E:Has D M k v h x.2)(G:∀y∈x.2.x9,mt m y.1):∀b∈r,gf m b.1:=fun b I=>by obtain⟨y,u⟩:=exists_mem_of_ne_nil _ E.ne;exact C0 (G y u) (((yJ.1 C.pair).1 b I).2 y u)
structure uM (D:dM) (M:eQ) (k v:Nat) (h:Nat) (r:dN×dN×Key) (L:gu) (P:List Int):Prop where
 Ek:∃ n1 L1 R1 n2 L2 R2,jH D M k v h r.1 n1 L1 R1/\jH D M k v h r.2.1 n2 L2 R2/\L1++L2=L/\R1++R2=P/\(∀ x∈L1,gf x.1 r.2.2)/\(∀ y∈L2,mt r.2.2 y.1)/\r.2.2.length=k/\eS r.2.2/\minOf k v h<=n1/\minOf k v h<=n2/\L1≠[]/\L2≠[]
def iG.min(u:iG k v)(h:Nat):oneOf h<=minOf k v h/\1<=minOf k v h:=by have C:=u.Q1;have E:=u.inner;unfold oneOf minOf;split<;>omega
def qzY{es:List io}(C:∀e∈es,Has D M k v h e.2/\minOf k v h<=e.2.size)(u:es≠[]):es.flatMap (·.2.x9)≠[]:=by
 cases es with
 | nil=>exact absurd rfl u
 | cons a r=>intro e;rw[yH] at e;exact (C a oL).1.ne (append_eq_nil_iff.1 e).1
def qz0(E:iG k v){U:gu}(hl:jH D M k v h Nl n1 U R1)(hr:jH D M k v h Nr n2 L2 R2)(V:minOf k v h<n1)(h2:n2+1=minOf k v h)(h3:∀x∈U,gf x.1 key)(h4:∀y∈L2,mt key y.1)(hk:key.length=k/\eS key): uM D M k v h (jr Nl Nr key) (U++L2) (R1++R2):=by
 have ar:=E.min h;cases h with
 | zero=>
  obtain⟨rfl,rfl,rfl,ai,J,O⟩:=hl;obtain⟨rfl,rfl,rfl,au,Q,aj⟩:=hr;have ak:U≠[]:=fun e=>by rw[e] at V;simp at V
  obtain⟨L,z,rfl⟩:∃L z,U=L++[z]:=⟨U.dropLast,U.getLast ak,(vA ak).symm⟩;rw[qAc];have hz:=ai z oL;have al:=fH.uC.1 J;rw[zF] at V O;have av:fH (z::L2):=by refine yJ.2 ⟨fun a ha=>?_,Q⟩;obtain⟨y,C,rfl⟩:=mem_map.1 ha;exact sQ (h3 z oL) (h4 y C)
  have aw:minOf k v 0=(dY k v).1 / 2:=rfl;refine⟨L.length,L,[],L2.length+1,z::L2,[],⟨rfl,rfl,rfl,ai.sub fun x I=>zH _ I,al.1,?_⟩,⟨rfl,rfl,rfl,fun x I=>(zG.1 I).elim (fun e=>by rw[e];exact hz) (au x),av,oJ⟩,oL,rfl,fun x I=>al.2.2 x I z oL,fun y C=>?_,hz.1,hz.2.2.1,?_,oJ,?_,oL⟩;simp at O;omega;rcases zG.1 C with rfl|C;exact sq;exact uq (sQ (h3 z oL) (h4 y C));simp at V;omega;intro e;rw[e] at V;simp at V;omega
 | succ h=>
  obtain⟨ab,ax,rfl,rfl,rfl,rfl,am,J,O,ac⟩:=hl;obtain⟨u,ay,rfl,rfl,rfl,rfl,az,Q,aj,ad⟩:=hr;obtain⟨a,G,z,rfl⟩:∃a G z,ab=a::G++[z]:=by
   have:2<=ab.length:=(by have:=ar.1;unfold oneOf at this;rw[iN] at this;omega);match ab,this with
   | a::b::r,_=>exact⟨a,(b::r).dropLast,(b::r).getLast oL,by rw[xJ,vA]⟩
  obtain⟨b,u,rfl⟩:∃b G,u=b::G:=by
   cases u with
   | nil=>cases ay
   | cons b r=>exact⟨b,r,rfl⟩
  rw[qz5];have hz:=ac z oL;have an:=am z (show z∈G++[z] by simp);have ao:=gh.mid (A:=a::G) (e:=z) (B:=[]) J;have R:gf z.1 key:=by obtain⟨x,I⟩:=exists_mem_of_ne_nil _ hz.1.ne;exact C0 (J.low z oL x I) (h3 x (yK.2 ⟨z,oL,I⟩))
  have ap:∀y∈b.2.x9,mt key y.1:=fun y C=>h4 y (by rw[yH];exact zH _ C);have ae:∀c∈u,gf key c.1:=G7 Q (ad b oL).1 ap;have af:gh (([],z.2)::(key,b.2)::u):=by refine gh.uC (a:=[([],z.2)]) (FB fun x _=>Cw _) (Q.head ae ap) fun x I y C=>?_;rw[zE.1 I];rcases zG.1 C with rfl|C;exact⟨qus R,fun w hw=>h3 w (yK.2 ⟨z,oL,hw⟩)⟩;exact⟨qus (ae y C),fun w hw=>qu (h3 w (yK.2 ⟨z,oL,hw⟩)) (ae y C)⟩
  have aw:minOf k v (h+1)=(dY k v).2 / 2:=rfl;simp only[zF,yI,xK] at V h2 O aj;have aB:(a::G++[z]).flatMap (·.2.x9)=(a::G).flatMap (·.2.x9)++z.2.x9:=(by simp[yQ]);have aC:(a::G++[z]).flatMap (·.2.y5)=(a::G).flatMap (·.2.y5)++z.2.y5:=(by simp[yQ]);refine⟨G.length+1,(a::G).flatMap (·.2.x9),(a::G).flatMap (·.2.y5),u.length+2,z.2.x9++(b.2.x9++u.flatMap (·.2.x9)),z.2.y5++(b.2.y5++u.flatMap (·.2.y5)),⟨a::G,ax,rfl,rfl,rfl,rfl,fun c E=>am c (show c∈G++[z] from zH _ E),J.sub (sublist_append_left _ _),oJ,fun c E=>ac c (zH _ E)⟩,⟨([],z.2)::(key,b.2)::u,rfl,rfl,rfl,rfl,rfl,fun c E=>(zG.1 E).elim (fun e=>by rw[e];exact hk) (az c),af,oJ,fun c E=>?_⟩,?_,?_,fun x I=>?_,fun y C=>?_,an.1,an.2,oJ,oJ,?_,?_⟩;rcases zG.1 E with rfl|E;exact hz;rcases zG.1 E with rfl|E;exact ad b oL;exact ad c (by simp[E]);rw[aB];simp only[yH,zV];rw[aC];simp only[yH,zV];obtain⟨c,E,I⟩:=yK.1 I;exact ao.1 c E x I;rcases zD.1 C with C|C;exact J.low z oL y C;exact BC (uq R) (h4 y (by rw[yH];exact C));exact qzY (fun c E=>ac c (zH _ E)) oL;intro e;exact hz.1.ne (append_eq_nil_iff.1 e).1
def qw5{es:List io}(E:gh es)(G:∀e∈es,Has D M k v h e.2/\minOf k v h<=e.2.size)(I:∀x∈es.flatMap (·.2.x9),gf x.1 key):∀e∈es,gf e.1 key:=fun e u=>by obtain⟨x,C⟩:=exists_mem_of_ne_nil _ (G e u).1.ne;exact C0 (E.low e u x C) (I x (yK.2 ⟨e,u,C⟩))
def qAx(hc:iG k v){L1:gu}(hl:jH D M k v h Nl n1 L1 R1)(hr:jH D M k v h Nr n2 L2 R2)(h1:n1+1=minOf k v h)(h2:minOf k v h<n2)(h3:∀x∈L1,gf x.1 key)(h4:∀y∈L2,mt key y.1)(hk:key.length=k/\eS key): uM D M k v h (takeN Nl Nr key) (L1++L2) (R1++R2):=by
 have hmn:=hc.min h;cases h with
 | zero=>
  obtain⟨rfl,rfl,rfl,hL1,hs1,hb1⟩:=hl;obtain⟨rfl,rfl,rfl,hL2,hs2,hb2⟩:=hr;obtain⟨z,y,L,rfl⟩:∃z y L,L2=z::y::L:=by
   match L2,h2 with
   | [],h=>simp at h
   | [_],h=>simp at h;omega
   | z::y::L,_=>exact⟨z,y,L,rfl⟩
  rw[qAf];have hz:=hL2 z oL;have hy:=hL2 y oL;have hcs:=yJ.1 (show (z.1::dU (y::L)).Pairwise gf from hs2);simp only[yI] at h2 hb2;have hml:minOf k v 0=(dY k v).1 / 2:=rfl;have hzy:gf z.1 y.1:=hcs.1 y.1 oL;refine⟨L1.length+1,L1++[z],[],L.length+1,y::L,[],⟨rfl,oL,rfl,fun x hx=>(zD.1 hx).elim (hL1 x) fun hx=>by rw[zE.1 hx];exact hz,?_,oJ⟩,⟨rfl,oL,rfl,fun x hx=>hL2 x (zN _ hx),hcs.2,oJ⟩,oL,rfl,fun x hx=>?_,fun w hw=>?_,hy.1,hy.2.2.1,oJ,oJ,oL,oL⟩;exact fH.uC.2 ⟨hs1,pairwise_singleton _ _,fun x hx w hw=>by rw[zE.1 hw];exact sQ (h3 x hx) (h4 z oL)⟩;rcases zD.1 hx with hx|hx;exact qu (sQ (h3 x hx) (h4 z oL)) hzy;rw[zE.1 hx];exact hzy;rcases zG.1 hw with rfl|hw;exact sq;exact uq ((yJ.1 (show (y.1::dU L).Pairwise gf from hcs.2)).1 w.1 (zZ hw))
 | succ h=>
  obtain⟨es1,hh1,rfl,rfl,rfl,rfl,hk1,hs1,hb1,hp1⟩:=hl;obtain⟨es2,hh2,rfl,rfl,rfl,rfl,hk2,hs2,hb2,hp2⟩:=hr;obtain⟨a,es,rfl⟩:∃a es,es1=a::es:=by
   cases es1 with
   | nil=>cases hh1
   | cons b r=>exact⟨b,r,rfl⟩
  obtain⟨z,y,es2,rfl⟩:∃z y es,es2=z::y::es:=by
   have h9:=hmn.2;match es2,h2 with
   | [],h=>simp at h
   | [_],h=>simp at h;omega
   | z::y::L,_=>exact⟨z,y,L,rfl⟩
  rw[qz7];have hz:=hp2 z oL;have hyk:=hk2 y (show y∈y::es2 by simp);have hz4:∀w∈z.2.x9,mt key w.1:=fun w hw=>h4 w (by rw[yH];exact zH _ hw);have hky:gf key y.1:=G7 hs2 hz.1 hz4 y oL;have hcs:=yJ.1 hs2.pair;have hcy:=yJ.1 hcs.2;have hsl:gh (a::es++[(key,z.2)]):=gh.uC hs1 (FB hz4) fun x hx w hw=>by rw[zE.1 hw];exact⟨qw5 hs1 hp1 h3 x hx,fun q hq=>h3 q (yK.2 ⟨x,hx,hq⟩)⟩
  have hsr:gh (([],y.2)::es2):=gh.ky (es:=y::es2) (hs2.sub (sublist_cons_self _ _));have hml:minOf k v (h+1)=(dY k v).2 / 2:=rfl;simp only[yI] at h1 h2 hb1 hb2;refine⟨es.length+2,(a::es).flatMap (·.2.x9)++z.2.x9,(a::es).flatMap (·.2.y5)++z.2.y5,es2.length+1,y.2.x9++es2.flatMap (·.2.x9),y.2.y5++es2.flatMap (·.2.y5),⟨a::es++[(key,z.2)],hh1,rfl,oL,by simp[yQ],by simp[yQ],fun c hc=>?_,hsl,oJ,fun c hc=>?_⟩,⟨([],y.2)::es2,rfl,rfl,rfl,rfl,rfl,fun c hc=>hk2 c (show c∈y::es2 from zN _ hc),hsr,oJ,fun c hc=>?_⟩,?_,?_,fun x hx=>?_,fun w hw=>?_,hyk.1,hyk.2,oJ,oJ,?_,?_⟩;rcases zD.1 (show c∈es++[(key,z.2)] from hc) with hc|hc;exact hk1 c hc;rw[zE.1 hc];exact hk;rcases zD.1 hc with hc|hc;exact hp1 c hc;rw[zE.1 hc];exact hz;rcases zG.1 hc with rfl|hc;exact hp2 y oL;exact hp2 c (by simp[hc]);simp only[yH,zV];simp only[yH,zV];rcases zD.1 hx with hx|hx;exact qu (h3 x hx) hky;exact (hcs.1 y oL).2 x hx;rcases zD.1 hw with hw|hw;exact hs2.low y oL w hw;obtain⟨c,hc,hw⟩:=yK.1 hw;exact BC (uq (hcy.1 c hc).1) (hs2.low c (by simp[hc]) w hw);intro e;exact hz.1.ne (append_eq_nil_iff.1 e).2;intro e;exact (hp2 y oL).1.ne (append_eq_nil_iff.1 e).1
def qz8{L1:gu}(hl:jH D M k v h Nl n1 L1 R1)(hr:jH D M k v h Nr n2 L2 R2)(h1:n1+n2<=(if h=0 then (dY k v).1 else (dY k v).2))(h3:∀x∈L1,gf x.1 key)(h4:∀y∈L2,mt key y.1)(hk:key.length=k/\eS key): jH D M k v h (lq Nl Nr key) (n1+n2) (L1++L2) (R1++R2):=by
 cases h with
 | zero=>
  obtain⟨rfl,rfl,rfl,ah,E,ai⟩:=hl;obtain⟨rfl,rfl,rfl,aj,G,ak⟩:=hr;rw[qAd];exact⟨rfl,oL,rfl,fun x Q=>(zD.1 Q).elim (ah x) (aj x),fH.uC.2 ⟨E,G,fun x Q y I=>sQ (h3 x Q) (h4 y I)⟩,h1⟩
 | succ h=>
  obtain⟨U,V,rfl,rfl,rfl,rfl,al,E,ai,aa⟩:=hl;obtain⟨C,am,rfl,rfl,rfl,rfl,an,G,ak,J⟩:=hr;obtain⟨a,R,rfl⟩:∃a R,U=a::R:=by
   cases U with
   | nil=>cases V
   | cons b r=>exact⟨b,r,rfl⟩
  obtain⟨b,C,rfl⟩:∃b R,C=b::R:=by
   cases C with
   | nil=>cases am
   | cons b r=>exact⟨b,r,rfl⟩
  rw[qz6];have ab:∀y∈b.2.x9,mt key y.1:=fun y I=>h4 y (by rw[yH];exact zH _ I);have O:=G7 G (J b oL).1 ab;refine⟨a::R++(key,b.2)::C,V,rfl,by simp;omega,by simp[yQ],by simp[yQ],fun c u=>?_,gh.uC E (G.head O ab) fun x Q y I=>?_,by simpa using h1,fun c u=>?_⟩;rcases zD.1 (show c∈R++(key,b.2)::C from u) with u|u;exact al c u;rcases zG.1 u with rfl|u;exact hk;exact an c u;have ac:=qw5 E aa h3 x Q;have ad:∀w∈x.2.x9,gf w.1 key:=fun w hw=>h3 w (yK.2 ⟨x,Q,hw⟩);rcases zG.1 I with rfl|I;exact⟨ac,ad⟩;exact⟨qu ac (O y I),fun w hw=>qu (ad w hw) (O y I)⟩;rcases zD.1 u with u|u;exact aa c u;rcases zG.1 u with rfl|u;exact J b oL;exact J c (by simp[u])
end
end
section
section
variable {D:dM} {M M':eQ} {k v:Nat}
def Step.part{M1:eQ}{a x y:List Int}(C:∀z∈a++(x++b),dZ M z)(E:(a++(x++b)).Nodup)(h:Step D M M1 x y):Step D M M1 (a++(x++b)) (a++(y++b)):=by have u:(a++(x++b)).Perm ((a++b)++x):=Dz (z:=a);exact ((h.beside (Z:=a++b) (fun z G=>C z (u.mem_iff.2 (zH _ G))) (u.nodup_iff.1 E)).perm u.symm (Dz (z:=a)).symm)
def Step.kid{M1 u:eQ}{h Q:List Int}(C:∀z∈p::R,dZ M z)(E:(p::R).Nodup)(G:Step D M M1 R h)(I:Step D M1 u [p] Q):Step D M u (p::R) (Q++h):=by
 have:=Step.node (D:=D) (p:=p) (a:=[]) (b:=[]) (x:=R) (y:=h) (Q:=Q) (oP C) (oP E) G I
 simpa using this
def G3{A B:List io}{e1 h:io}:((A++e1::h::B).map (·.1)).tail.getD A.length []=h.1:=by
 cases A with
 | nil=>rfl
 | cons a A=>simp
def A2{A B:List io}{e1 h:io}:((A++e1::h::B).map (·.2.Q8)).getD A.length 0=e1.2.Q8/\((A++e1::h::B).map (·.2.Q8)).getD (A.length+1) 0=h.2.Q8:=by constructor;simp;simp
def qAt{A B:List io}{e1 h:io}{s1 s2:iO}:(⟨false,((A++e1::h::B).map (·.1)).tail.set A.length m,[],(((A++e1::h::B).map (·.2.Q8)).set A.length s1.Q8).set (A.length+1) s2.Q8⟩:dN)=dO (A++(e1.1,s1)::(m,s2)::B):=by
 unfold dO;congr 1;cases A with
 | nil=>rfl
 | cons a A=>simp[set_append_right]
 simp[set_append_right]
def qzT{A B:List io}{e1 C:io}{s:iO}:(⟨false,iw ((A++e1::C::B).map (·.1)).tail A.length,[],iw (((A++e1::C::B).map (·.2.Q8)).set A.length s.Q8) (A.length+1)⟩:dN)=dO (A++(e1.1,s)::B):=by
 have G:(A.map (·.2.Q8)).length=A.length:=zK _;unfold dO iw;congr 1;cases A with
 | nil=>rfl
 | cons a A=>
  have u:((a::A++e1::C::B).map (·.1)).tail=(A.map (·.1)++[e1.1])++(C.1::B.map (·.1)):=oL;have E:((a::A++(e1.1,s)::B).map (·.1)).tail=(A.map (·.1)++[e1.1])++B.map (·.1):=oL;have h:(A.map (·.1)++[e1.1]).length=(a::A).length:=oL;rw[u,E,take_left' h,<- h,drop_length_add_append];rfl
 have u:((A++e1::C::B).map (·.2.Q8)).set A.length s.Q8=(A.map (·.2.Q8)++[s.Q8])++(C.2.Q8::B.map (·.2.Q8)):=(by rw[xN,set_append_right _ _ oJ,G,Nat.sub_self];simp);have h:(A.map (·.2.Q8)++[s.Q8]).length=A.length+1:=oL;rw[u,take_left' h,<- h,drop_length_add_append];simp
def qAs{A B:List io}{e:io}{s:iO}:(⟨false,((A++e::B).map (·.1)).tail,[],((A++e::B).map (·.2.Q8)).set A.length s.Q8⟩:dN)=dO (A++(e.1,s)::B):=by
 have h:(A.map (·.2.Q8)).length=A.length:=zK _;unfold dO;congr 1;cases A with
 | nil=>rfl
 | cons a A=>simp
 rw[xN,set_append_right _ _ oJ,h,Nat.sub_self];simp
structure t5 (D:dM) (M:eQ) (k v:Nat) (h:Nat) (A B:List io) (e1 e2:io) (Nl Nr:dN) (n1 n2:Nat) (L1 L2:gu) (R1 R2:List Int):Prop where
 wf:M.Wf
 Q0:M.Q0=false
 head:((A++e1::e2::B).map (·.1)).head?=some []
 J3:gV k (A++e1::e2::B)
 sep:gh (A++(e1.1,⟨0,0,L1,[]⟩)::(e2.1,⟨0,0,L2,[]⟩)::B)
 len:A.length+B.length+2<=(dY k v).2
 rest:∀ b,b∈A\/b∈B->Has D M k v h b.2/\minOf k v h<=b.2.size
 left:jH D M k v h Nl n1 L1 R1
 right:jH D M k v h Nr n2 L2 R2
 use:∀ x∈A.flatMap (·.2.y5)++(((e1.2.Q8::R1)++(e2.2.Q8::R2))++B.flatMap (·.2.y5)),dZ M x
 nodup:(A.flatMap (·.2.y5)++(((e1.2.Q8::R1)++(e2.2.Q8::R2))++B.flatMap (·.2.y5))).Nodup
def t5.yw{A B:List io}{e1 u:io}{G I:dN}{E C:gu}{J O:List Int}(H:t5 D M k v h A B e1 u G I n1 n2 E C J O):(∀x∈E,gf x.1 u.1)/\(∀y∈C,mt u.1 y.1)/\u.1.length=k/\eS u.1:=by have Q:=pairwise_append.1 H.sep.pair;have R:=yJ.1 Q.2.1;have U:=H.J3 u (by cases A<;>simp);exact⟨(R.1 (u.1,⟨0,0,C,[]⟩) oL).2,H.sep.low (u.1,⟨0,0,C,[]⟩) oL,U⟩
def qt5(hc:iG k v){A B:List io}{e1 E:io}{L1:gu}(H:t5 D M k v h A B e1 E Nl Nr n1 n2 L1 L2 R1 R2){r:dN×dN×Key}(hr:uM D M k v h r (L1++L2) (R1++R2))(hf:2<=M.J8.length): ∃N M' R,oi k v M (dO (A++e1::E::B)) A.length r=((N,0),M')/\jH D M' k v (h+1) N (A.length+B.length+2) (A.flatMap (·.2.x9)++((L1++L2)++B.flatMap (·.2.x9))) R/\ Step D M M' (A.flatMap (·.2.y5)++(((e1.2.Q8::R1)++(E.2.Q8::R2))++B.flatMap (·.2.y5))) R/\M.J8.length<=M'.J8.length+2:=by
 obtain⟨m1,K1,I,m2,K2,J,aL,aM,eL,eR,aN,aO,aP,aQ,aR,aT,az,aA⟩:=hr.Ek;have bf:=hc.min h;have ab:=H.use;have aq:=H.nodup;have pm:(((e1.2.Q8::R1)++(E.2.Q8::R2))).Perm (e1.2.Q8::E.2.Q8::(R1++R2)):=by rw[xJ];exact (perm_middle).cons _
 rw[<- eR] at pm;have U:∀x,x∈e1.2.Q8::E.2.Q8::(I++J)->x∈A.flatMap (·.2.y5)++(((e1.2.Q8::R1)++(E.2.Q8::R2))++B.flatMap (·.2.y5)):=fun x C=>zI _ (zH _ (pm.mem_iff.2 C));have ah:(e1.2.Q8::E.2.Q8::(I++J)).Nodup:=pm.nodup_iff.1 (yM.1 (yM.1 aq).2.1).1;have V:=nodup_cons.1 ah;have ai:=nodup_cons.1 V.2;have aU:=ab _ (U e1.2.Q8 oL);have aC:=ab _ (U E.2.Q8 oL);obtain⟨G,M1,s1,ac,H1,bh⟩:=aL.store H.wf H.Q0 oJ aU (fun hm=>V.1 (zN _ (zH _ hm))) oJ;have O:∀x,dZ M x->x≠e1.2.Q8->dJ D M1 x=dJ D M x/\dZ M1 x/\x≠G:=fun x C ar=>by
  have:=ac.rest x C (oP ar)
  exact⟨this.1,this.2.1,by simpa using this.2.2⟩
 have ad:E.2.Q8≠e1.2.Q8:=fun e=>V.1 (by rw[e];simp);have aW:jH D M1 k v h r.2.1 m2 K2 J:=aM.q8 fun x C=>(O x (ab x (U x (by simp[C]))) (fun e=>V.1 (by rw[<- e];simp[C]))).1;obtain⟨Q,M2,s2,aD,H2,bk⟩:=aW.store ac.wf ac.Q0 oJ (O _ aC ad).2.1 (fun hm=>ai.1 (zI _ hm)) oJ;have ae:∀x,dZ M1 x->x≠E.2.Q8->dJ D M2 x=dJ D M1 x/\dZ M2 x/\x≠Q:=fun x C ar=>by
  have:=aD.rest x C (oP ar)
  exact⟨this.1,this.2.1,by simpa using this.2.2⟩
 have aj:∀x∈G::I,dZ M1 x/\x≠E.2.Q8:=fun x C=>by refine⟨H1.J1 ac.Q0 x C,fun e=>?_⟩;rcases zG.1 C with e'|C;rcases ac.new G oL with h9|h9;exact ad (by rw[<- e,e',zE.1 h9]);exact h9 (by rw[<- e',e];exact aC);exact ai.1 (zH _ (e▸C))
 have aX:Has D M2 k v h ⟨G,m1,K1,G::I⟩:=H1.q8 fun x C=>(ae x (aj x C).1 (aj x C).2).1;have aY:∀b,b∈A\/b∈B->∀x∈b.2.y5,dZ M x/\x≠e1.2.Q8/\x≠E.2.Q8:=fun b u x C=>by
  have hd:=yM.1 aq;have aZ:=yM.1 hd.2.1;have aE:∀z,z=e1.2.Q8\/z=E.2.Q8->z∈(e1.2.Q8::R1)++(E.2.Q8::R2):=fun z hz=>pm.mem_iff.2 (by rcases hz with rfl|rfl<;>simp);have key:∀z,z=e1.2.Q8\/z=E.2.Q8->x≠z:=fun z hz e=>by rcases u with u|u;exact hd.2.2 x (yK.2 ⟨b,u,C⟩) z (zH _ (aE z hz)) e;exact aZ.2.2 z (aE z hz) x (yK.2 ⟨b,u,C⟩) e.symm
  refine⟨ab x ?_,key _ (.inl rfl),key _ (.inr rfl)⟩;rcases u with u|u;exact zH _ (yK.2 ⟨b,u,C⟩);exact zI _ (zI _ (yK.2 ⟨b,u,C⟩))
 have af:∀b,b∈A\/b∈B->Has D M2 k v h b.2/\minOf k v h<=b.2.size:=fun b u=>⟨(H.rest b u).1.q8 fun x C=>by have h9:=aY b u x C;have h8:=O x h9.1 h9.2.1;exact ((ae x h8.2.1 h9.2.2).1).trans h8.1,(H.rest b u).2⟩;have hL:K1++K2=L1++L2:=eL;have aF:gh (A++(e1.1,(⟨G,m1,K1,G::I⟩:iO))::(r.2.2,⟨Q,m2,K2,Q::J⟩)::B):=by
  have hS:=H.sep;have hp:=pairwise_append.1 hS.pair;have ag:=yJ.1 hp.2.1;have aH:=yJ.1 ag.2;have hj:gh (A++(e1.1,(⟨0,0,L1++L2,[]⟩:iO))::B):=by refine⟨pairwise_append.2 ⟨hp.1,yJ.2 ⟨fun b u=>⟨(ag.1 b (by simp[u])).1,fun x C=>?_⟩,aH.2⟩,fun a ha b u=>?_⟩,fun b u x C=>?_⟩;rcases zD.1 C with C|C;exact (ag.1 b (by simp[u])).2 x C;exact (aH.1 b u).2 x C;rcases zG.1 u with rfl|u;exact hp.2.2 a ha (e1.1,⟨0,0,L1,[]⟩) oL;exact hp.2.2 a ha b (by simp[u]);rcases zD.1 u with u|u;exact hS.low b (by simp[u]) x C;rcases zG.1 u with rfl|u;rcases zD.1 C with C|C;exact hS.low (e1.1,⟨0,0,L1,[]⟩) oL x C;have h9:=hS.low (E.1,⟨0,0,L2,[]⟩) oL x C;exact BC (uq (ag.1 (E.1,⟨0,0,L2,[]⟩) oL).1) h9;exact hS.low b (by simp[u]) x C
  exact hj.zt hL.symm aN aO az aA
 have au:gV k (A++(e1.1,(⟨G,m1,K1,G::I⟩:iO))::(r.2.2,⟨Q,m2,K2,Q::J⟩)::B):=by
  have h9:gV k (A++e1::B):=fun b u=>H.J3 b (by
   cases A with
   | nil=>exact zN _ u
   | cons a A=>
    rcases zD.1 (show b∈A++e1::B from u) with u|u;exact zH (e1::E::B) u;exact zI A ((zG.1 u).elim (fun e=>by rw[e];simp) fun u=>by simp[u]))
  exact qsh h9 ⟨aP,aQ⟩
 have av:((A++(e1.1,(⟨G,m1,K1,G::I⟩:iO))::(r.2.2,⟨Q,m2,K2,Q::J⟩)::B).map (·.1)).head?=some []:=by
  have h9:=H.head;cases A with
  | nil=>exact h9
  | cons a A=>exact h9
 refine⟨dO (A++(e1.1,(⟨G,m1,K1,G::I⟩:iO))::(r.2.2,⟨Q,m2,K2,Q::J⟩)::B),M2,_,?_,⟨_,av,rfl,by simp;omega,?_,rfl,au,aF,H.len,fun b u=>?_⟩,?_,oJ⟩;have a0:(dO (A++e1::E::B)).J6.getD A.length 0=e1.2.Q8:=A2.1;have a1:(dO (A++e1::E::B)).J6.getD (A.length+1) 0=E.2.Q8:=A2.2;unfold oi;rw[a0,a1,s1];dsimp only;rw[if_neg (fun h=>h rfl),s2];exact congrArg (fun N=>((N,(0:Int)),M2)) (qAt (s1:=⟨G,m1,K1,G::I⟩) (s2:=⟨Q,m2,K2,Q::J⟩));rw[rT,yH,<- hL,zV];rcases zD.1 u with u|u;exact af b (.inl u);rcases zG.1 u with rfl|u;exact⟨aX,aR⟩;rcases zG.1 u with rfl|u;exact⟨H2,aT⟩;exact af b (.inr u);have t1:Step D M M1 (e1.2.Q8::E.2.Q8::(I++J)) ([G]++E.2.Q8::(I++J)):=by
  have:=ac.beside (Z:=E.2.Q8::(I++J)) (fun x C=>ab x (U x (zN _ C))) (by have p9:(e1.2.Q8::E.2.Q8::(I++J)).Perm ((E.2.Q8::(I++J))++[e1.2.Q8]):=(perm_append_singleton _ _).symm;exact p9.nodup_iff.1 ah)
  exact this.perm (perm_append_singleton _ _) perm_append_comm
 have aI:∀x∈[G]++(I++J),dZ M1 x:=fun x C=>t1.has x (by rcases zD.1 C with C|C;exact zH _ C;exact zI _ (zN _ C));have p8:([G]++E.2.Q8::(I++J)).Perm (([G]++(I++J))++[E.2.Q8]):=(by exact perm_middle.trans<|(perm_append_singleton _ _).symm);have t2:=aD.beside (Z:=[G]++(I++J)) aI (p8.nodup_iff.1 t1.nodup);have t3:=(t1.perm (.refl _) p8).trans t2;have p7:(([G]++(I++J))++[Q]).Perm ((G::I)++(Q::J)):=(by show (G::((I++J)++[Q])).Perm (G::(I++Q::J));refine List.Perm.cons _ ((perm_append_singleton _ _).trans ?_);exact perm_middle.symm);have t4:=Step.part (D:=D) (a:=A.flatMap (·.2.y5)) (b:=B.flatMap (·.2.y5)) ab aq (t3.perm pm.symm p7);rw[rT,yH];refine t4.perm (.refl _) ?_;rw[zV]
end
end
section
section
variable {D:dM} {M M':eQ} {k v:Nat}
def qp5(E:M.Wf)(G:M.Q0=false)(I:dZ M n):∃M',fL M n=(0,M')/\Step D M M' [n] []/\M.J8.length<=M'.J8.length:=by
 obtain⟨M',e,t,J,O,Q⟩:=qmo (D:=D) (q:=n+1) E G I oJ;have C:∀x,x≠n->dJ D M' x=dJ D M x/\(dZ M' x↔dZ M x):=fun x u=>by by_cases hq':x=n+1;rw[hq'];exact⟨J,O⟩;exact⟨t.rest x hq' u,t.use x hq' u⟩
 refine⟨M',e,⟨t.wf,t.Q0,t.J9,t.j7,t.Q2,t.Q6,t.x7,t.Q9,fun x u h=>?_,fun x u=>?_,fun x u=>(nomatch u),fun x u=>(nomatch u),.nil,t.pU⟩,Q⟩;have h:x≠n:=(oP h);exact⟨(C x h).1,(C x h).2.2 u,oL⟩;by_cases h:x=n;subst h;exact absurd u (t.left oJ);exact .inr ⟨(C x h).2.1 u,by simpa using h⟩
def qqj(hc:iG k v){A B:List io}{e1 E:io}{L1:gu}{G I:List Int}(H:t5 D M k v h A B e1 E Nl Nr n1 n2 L1 L2 G I)(h1:n1+n2<=(if h=0 then (dY k v).1 else (dY k v).2))(h2:minOf k v h<=n1+n2)(hf:1<=M.J8.length): ∃N M' R,mh k v M (dO (A++e1::E::B)) A.length Nl Nr=((N,0),M')/\jH D M' k v (h+1) N (A.length+B.length+1) (A.flatMap (·.2.x9)++((L1++L2)++B.flatMap (·.2.x9))) R/\ Step D M M' (A.flatMap (·.2.y5)++(((e1.2.Q8::G)++(E.2.Q8::I))++B.flatMap (·.2.y5))) R/\M.J8.length<=M'.J8.length+1:=by
 obtain⟨az,aA,aB,aC⟩:=H.yw;have hJ:=qz8 H.left H.right h1 az aA ⟨aB,aC⟩;have aZ:=hc.min h;have O:=H.use;have ai:=H.nodup;have pm:(((e1.2.Q8::G)++(E.2.Q8::I))).Perm (e1.2.Q8::E.2.Q8::(G++I)):=by rw[xJ];exact (perm_middle).cons _
 have Q:∀x,x∈e1.2.Q8::E.2.Q8::(G++I)->x∈A.flatMap (·.2.y5)++(((e1.2.Q8::G)++(E.2.Q8::I))++B.flatMap (·.2.y5)):=fun x C=>zI _ (zH _ (pm.mem_iff.2 C));have ah:(e1.2.Q8::E.2.Q8::(G++I)).Nodup:=pm.nodup_iff.1 (yM.1 (yM.1 ai).2.1).1;have U:=nodup_cons.1 ah;have an:=nodup_cons.1 U.2;have aD:=O _ (Q e1.2.Q8 oL);have ao:=O _ (Q E.2.Q8 oL);obtain⟨q,M1,s1,V,H1,a1⟩:=hJ.store H.wf H.Q0 oJ aD (fun hm=>U.1 (zN _ hm)) hf;have aa:E.2.Q8≠e1.2.Q8:=fun e=>U.1 (by rw[e];simp);have J:∀x,dZ M x->x≠e1.2.Q8->dJ D M1 x=dJ D M x/\dZ M1 x/\x≠q:=fun x C aj=>by
  have:=V.rest x C (oP aj)
  exact⟨this.1,this.2.1,by simpa using this.2.2⟩
 obtain⟨M2,s2,ap,a4⟩:=qp5 (D:=D) V.wf V.Q0 (J _ ao aa).2.1;have ab:∀x,dZ M1 x->x≠E.2.Q8->dJ D M2 x=dJ D M1 x/\dZ M2 x:=fun x C aj=>by
  have:=ap.rest x C (oP aj)
  exact⟨this.1,this.2.1⟩
 have aE:Has D M2 k v h ⟨q,n1+n2,L1++L2,q::(G++I)⟩:=H1.q8 fun x C=>(ab x (H1.J1 V.Q0 x C) (fun e=>by rcases zG.1 C with e'|C;exact (J _ ao aa).2.2 (by rw[<- e,e']);exact an.1 (e▸C))).1;have aF:∀b,b∈A\/b∈B->∀x∈b.2.y5,dZ M x/\x≠e1.2.Q8/\x≠E.2.Q8:=fun b u x C=>by
  have hd:=yM.1 ai;have aG:=yM.1 hd.2.1;have aq:∀z,z=e1.2.Q8\/z=E.2.Q8->z∈(e1.2.Q8::G)++(E.2.Q8::I):=fun z hz=>pm.mem_iff.2 (by rcases hz with rfl|rfl<;>simp);have key:∀z,z=e1.2.Q8\/z=E.2.Q8->x≠z:=fun z hz e=>by rcases u with u|u;exact hd.2.2 x (yK.2 ⟨b,u,C⟩) z (zH _ (aq z hz)) e;exact aG.2.2 z (aq z hz) x (yK.2 ⟨b,u,C⟩) e.symm
  refine⟨O x ?_,key _ (.inl rfl),key _ (.inr rfl)⟩;rcases u with u|u;exact zH _ (yK.2 ⟨b,u,C⟩);exact zI _ (zI _ (yK.2 ⟨b,u,C⟩))
 have ac:∀b,b∈A\/b∈B->Has D M2 k v h b.2/\minOf k v h<=b.2.size:=fun b u=>⟨(H.rest b u).1.q8 fun x C=>by have h9:=aF b u x C;have h8:=J x h9.1 h9.2.1;exact ((ab x h8.2.1 h9.2.2).1).trans h8.1,(H.rest b u).2⟩;have hS:=H.sep;have hp:=pairwise_append.1 hS.pair;have ag:=yJ.1 hp.2.1;have au:=yJ.1 ag.2;have av:gh (A++(e1.1,(⟨q,n1+n2,L1++L2,q::(G++I)⟩:iO))::B):=by refine⟨pairwise_append.2 ⟨hp.1,yJ.2 ⟨fun b u=>⟨(ag.1 b (by simp[u])).1,fun x C=>?_⟩,au.2⟩,fun a ha b u=>?_⟩,fun b u x C=>?_⟩;rcases zD.1 C with C|C;exact (ag.1 b (by simp[u])).2 x C;exact (au.1 b u).2 x C;rcases zG.1 u with rfl|u;exact hp.2.2 a ha (e1.1,⟨0,0,L1,[]⟩) oL;exact hp.2.2 a ha b (by simp[u]);rcases zD.1 u with u|u;exact hS.low b (by simp[u]) x C;rcases zG.1 u with rfl|u;rcases zD.1 C with C|C;exact hS.low (e1.1,⟨0,0,L1,[]⟩) oL x C;have h9:=hS.low (E.1,⟨0,0,L2,[]⟩) oL x C;exact BC (uq (ag.1 (E.1,⟨0,0,L2,[]⟩) oL).1) h9;exact hS.low b (by simp[u]) x C
 have ak:gV k (A++(e1.1,(⟨q,n1+n2,L1++L2,q::(G++I)⟩:iO))::B):=by
  have h9:gV k (A++e1::B):=fun b u=>H.J3 b (by
   cases A with
   | nil=>exact zN _ u
   | cons a A=>
    rcases zD.1 (show b∈A++e1::B from u) with u|u;exact zH (e1::E::B) u;exact zI A ((zG.1 u).elim (fun e=>by rw[e];simp) fun u=>by simp[u]))
  exact Ib h9
 have al:((A++(e1.1,(⟨q,n1+n2,L1++L2,q::(G++I)⟩:iO))::B).map (·.1)).head?=some []:=by
  have h9:=H.head;cases A with
  | nil=>exact h9
  | cons a A=>exact h9
 have aR:=H.len;refine⟨dO (A++(e1.1,(⟨q,n1+n2,L1++L2,q::(G++I)⟩:iO))::B),M2,_,?_,⟨_,al,rfl,by simp;omega,by rw[rT],rfl,ak,av,oJ,fun b u=>?_⟩,?_,oJ⟩;have aH:(dO (A++e1::E::B)).J6.getD A.length 0=e1.2.Q8:=A2.1;have aI:(dO (A++e1::E::B)).J6.getD (A.length+1) 0=E.2.Q8:=A2.2;have aJ:(dO (A++e1::E::B)).J3.getD A.length []=E.1:=G3;unfold mh;rw[aH,aI,aJ,s1];dsimp only;rw[if_neg (fun h=>h rfl),s2];dsimp only;rw[if_neg (fun h=>h rfl)];exact congrArg (fun N=>((N,(0:Int)),M2)) (qzT (s:=⟨q,n1+n2,L1++L2,q::(G++I)⟩));rcases zD.1 u with u|u;exact ac b (.inl u);rcases zG.1 u with rfl|u;exact⟨aE,h2⟩;exact ac b (.inr u);have t1:Step D M M1 (e1.2.Q8::E.2.Q8::(G++I)) ([q]++E.2.Q8::(G++I)):=by
  have:=V.beside (Z:=E.2.Q8::(G++I)) (fun x C=>O x (Q x (zN _ C))) (by have p9:(e1.2.Q8::E.2.Q8::(G++I)).Perm ((E.2.Q8::(G++I))++[e1.2.Q8]):=(perm_append_singleton _ _).symm;exact p9.nodup_iff.1 ah)
  exact this.perm (perm_append_singleton _ _) perm_append_comm
 have p8:([q]++E.2.Q8::(G++I)).Perm (([q]++(G++I))++[E.2.Q8]):=(by exact perm_middle.trans<|(perm_append_singleton _ _).symm);have t2:=ap.beside (Z:=[q]++(G++I)) (fun x C=>t1.has x (by rcases zD.1 C with C|C;exact zH _ C;exact zI _ (zN _ C))) (p8.nodup_iff.1 t1.nodup);have t3:=(t1.perm (.refl _) p8).trans t2;rw[xH] at t3;have t4:=Step.part (D:=D) (a:=A.flatMap (·.2.y5)) (b:=B.flatMap (·.2.y5)) O ai (t3.perm pm.symm (.refl _));rw[rT];exact t4
def gh.swap{A B:List io}{e:io}{s:iO}(h:gh (A++e::B))(u:∀x∈s.x9,x∈e.2.x9):gh (A++(e.1,s)::B):=
 h.put (key:=e.1) sq (fun b C=>(h.mid.2 b C).1) fun x E=>.inr (u x E)
def G5(hc:iG k v){key:Key}:∀(h:Nat) (M:eQ) (s:iO),Has D M k v h s->M.Wf->M.Q0=false->s.y5.Nodup->key∈dU s.x9->2*h<=M.J8.length-> ∃N n M' R R',iL D k v key (h+1) M s.Q8=((N,0),M')/\s.y5=s.Q8::R/\jH D M' k v h N n (gR key s.x9) R'/\Step D M M' R R'/\s.size<=n+1/\M.J8.length<=M'.J8.length+2*h
 | 0,M,s,hs,hW,ho,aK,ak,hf=>by
  obtain⟨N,R,hl,hN,hp,bT,_⟩:=hs.load;have bU:=hN;obtain⟨rfl,hn,rfl,hL,aL,bb⟩:=hN;have al:=qnZ aL ak;have hm:=(Ag aL).2 ak;have hi:dP (dU s.x9) key<s.x9.length:=by
   have:=(zP.1 hm).1
   simpa using this
  have bK:(gR key s.x9).length+1=s.x9.length:=(by rw[al,zF,yL,yC];omega);refine⟨eh (gR key s.x9),(gR key s.x9).length,M,[],[],?_,hp,⟨rfl,rfl,rfl,fun x u=>hL x (Fg.1 u).1,qp1 aL,oJ⟩,Step.refl hW ho (fun x u=>nomatch u) .nil,oJ,oJ⟩;unfold iL;rw[hl];dsimp only;rw[if_neg (fun h=>h rfl),if_pos (show (eh s.x9).Q1=true from rfl),if_pos (show (eh s.x9).J3[dP (eh s.x9).J3 key]?=some key from hm)];refine congrArg (fun N=>((N,(0:Int)),M)) ?_;rw[al];unfold eh iw;simp only[xN,xP,xQ]
 | h+1,M,⟨p,n,L,P⟩,⟨es,h0,h1,h2,h3,h4,h5,h6,h7⟩,hW,ho,aK,ak,hf=>by
  dsimp only at h1 h2 h3 h5 aK ak;subst h1 h2 h3;have hl:dL D M k v p=(dO es,0):=h4.load h5;have am:=h4.right.x6;obtain⟨A,e,B,V,hA,bu,bv,aN⟩:=ww (key:=key) h0 h6;have aO:(dO es).J6.getD (eA (dO es).J3 key) 0=e.2.Q8:=aN;have bx:eA (dO es).J3 key=A.length:=hA.symm;have bz:e∈es:=(by rw[V];simp);obtain⟨bA,bB⟩:=h7 e bz;have ah:es.flatMap (·.2.y5)=A.flatMap (·.2.y5)++(e.2.y5++B.flatMap (·.2.y5)):=(by rw[V,rT]);have au:es.flatMap (·.2.x9)=A.flatMap (·.2.x9)++(e.2.x9++B.flatMap (·.2.x9)):=(by rw[V,rT]);have ax:∀z∈A.flatMap (·.2.y5)++(e.2.y5++B.flatMap (·.2.y5)),dZ M z:=fun z hz=>by rw[<- ah] at hz;obtain⟨b,E,hz⟩:=yK.1 hz;exact (h7 b E).1.J1 ho z hz
  have ag:(A.flatMap (·.2.y5)++(e.2.y5++B.flatMap (·.2.y5))).Nodup:=(by rw[<- ah];exact (nodup_cons.1 aK).2);have an:e.2.y5.Nodup:=(yM.1 (yM.1 ag).2.1).1;have av:=h6;rw[V] at av;have ay:=av.mid;have bd:∀x∈A.flatMap (·.2.x9),gf x.1 key:=fun x u=>by obtain⟨a,ha,u⟩:=yK.1 u;exact sQ (ay.1 a ha x u) bu
  have bf:∀x∈B.flatMap (·.2.x9),gf key x.1:=fun x u=>by obtain⟨b,E,u⟩:=yK.1 u;exact sQ (bv b E) ((ay.2 b E).2.2 x u)
  have al:gR key (es.flatMap (·.2.x9))=A.flatMap (·.2.x9)++(gR key e.2.x9++B.flatMap (·.2.x9)):=(by rw[au,qnY bd,qmm bf]);have aP:key∈dU e.2.x9:=by obtain⟨x,u,rfl⟩:=mem_map.1 ak;rw[au] at u;rcases zD.1 u with u|u;exact absurd (bd x u) sq;rcases zD.1 u with u|u;exact zZ u;exact absurd (bf x u) sq
  obtain⟨N1,n1,M1,Re,J,ec,aQ,ao,st,bZ,b0⟩:=G5 hc h M e.2 bA hW ho an aP oJ;rw[aQ] at ax ag an;have aa:=gV.of h4;have aI:e.2.Q8∉Re:=(nodup_cons.1 an).1;have aR:dZ M e.2.Q8:=ax _ oL;have bD:Step D M M1 (e.2.Q8::Re) (e.2.Q8::J):=st.beside (Z:=[e.2.Q8]) (fun x u=>by rw[zE.1 u];exact aR) (oP an);have aT:=Step.part ax ag bD;have bg:dZ M1 e.2.Q8:=(st.rest _ aR aI).2.1;have aU:e.2.Q8∉J:=(st.rest _ aR aI).2.2;have G:∀b,b∈A\/b∈B->Has D M1 k v h b.2/\minOf k v h<=b.2.size:=fun b E=>by
   have aV:b∈es:=by rw[V];rcases E with E|E<;>simp[E]
   refine⟨(h7 b aV).1.q8 fun x u=>?_,(h7 b aV).2⟩;have hd:=yM.1 ag;refine (st.rest x ((h7 b aV).1.J1 ho x u) fun hm=>?_).1;rcases E with E|E;exact hd.2.2 x (yK.2 ⟨b,E,u⟩) x (zH _ (zN _ hm)) rfl;exact (yM.1 hd.2.1).2.2 x (zN _ hm) x (yK.2 ⟨b,E,u⟩) rfl
  have bb:n1<=(if h=0 then (dY k v).1 else (dY k v).2):=by
   cases h with
   | zero=>exact ao.2.2.2.2.2
   | succ h=>obtain⟨_,_,_,_,_,_,_,_,h9,_⟩:=ao;exact h9
  have b1:=hc.min h;have aq:minOf k v h=(if h=0 then (dY k v).1 else (dY k v).2) / 2:=(by unfold minOf;split<;>rfl);have az:gh (A++(e.1,(⟨0,0,gR key e.2.x9,[]⟩:iO))::B):=av.swap fun x u=>(Fg.1 u).1;have C:es.length=A.length+B.length+1:=(by rw[V];simp;omega);have aD:∀ {N:dN} {M2:eQ} {n R':_},jH D M2 k v (h+1) N n (A.flatMap (·.2.x9)++(gR key e.2.x9++B.flatMap (·.2.x9))) R'->jH D M2 k v (h+1) N n (gR key (es.flatMap (·.2.x9))) R':=fun h9=>by rw[al];exact h9
  have aw:∀ {M2:eQ} {R':List Int},Step D M1 M2 (A.flatMap (·.2.y5)++((e.2.Q8::J)++B.flatMap (·.2.y5))) R'->Step D M M2 (es.flatMap (·.2.y5)) R':=fun h9=>by rw[ah,aQ];exact aT.trans h9
  have aJ:pS N1 k v↔n1<minOf k v h:=(by unfold pS;rw[ao.size,aq]);unfold iL;rw[hl];dsimp only;rw[if_neg (fun h=>h rfl),if_neg (show ¬(dO es).Q1=true from fun e=>nomatch e),aO,ec];dsimp only;rw[if_neg (fun h=>h rfl),bx];by_cases hlw:pS N1 k v;rw[if_neg (fun h=>h hlw)];have b2:=aJ.1 hlw;have bi:n1+1=minOf k v h:=oJ;by_cases hA0:A.length>0;rw[if_pos hA0];obtain⟨A',f,rfl⟩:∃A' f,A=A'++[f]:=(by have bj:A≠[]:=length_pos_iff.1 hA0;exact⟨A.dropLast,A.getLast bj,(vA bj).symm⟩);have bE:(A'++[f]).length-1=A'.length:=oL;rw[bE];have aA:=G f (.inl oL);obtain⟨Ny,Ry,aX,ar,aY,_,_⟩:=aA.1.load;have I:es=A'++f::e::B:=(by rw[V];simp);have bF:(A'++[f]).flatMap (·.2.y5)=A'.flatMap (·.2.y5)++f.2.y5:=(by simp[yQ]);have bl:(A'++[f]).flatMap (·.2.x9)=A'.flatMap (·.2.x9)++f.2.x9:=(by simp[yQ]);have ab:(A'++[f]).flatMap (·.2.y5)++((e.2.Q8::J)++B.flatMap (·.2.y5))=A'.flatMap (·.2.y5)++(((f.2.Q8::Ry)++(e.2.Q8::J))++B.flatMap (·.2.y5)):=(by rw[bF,aY];simp only[zV]);have ap:(A'++[f]).flatMap (·.2.x9)++(gR key e.2.x9++B.flatMap (·.2.x9))=A'.flatMap (·.2.x9)++((f.2.x9++gR key e.2.x9)++B.flatMap (·.2.x9)):=(by rw[bl];simp only[zV]);have aB:gh (A'++(f.1,(⟨0,0,f.2.x9,[]⟩:iO))::(e.1,⟨0,0,gR key e.2.x9,[]⟩)::B):=(by have h9:gh (A'++f::((e.1,(⟨0,0,gR key e.2.x9,[]⟩:iO))::B)):=(oP az);exact h9.swap (s:=⟨0,0,f.2.x9,[]⟩) fun x u=>u);have ac:=aT;rw[ab] at ac;have Hn:t5 D M1 k v h A' B f e Ny N1 f.2.size n1 f.2.x9 (gR key e.2.x9) Ry J:=
   ⟨st.wf,st.Q0,by rw[<- I];exact h0,by rw[<- I];exact aa,aB,by have:=am.2;rw[C] at this;simp at this;omega,fun b E=>G b (E.imp (fun E=>by simp[E]) id),ar,ao,ac.has,ac.nodup⟩
  have a0:(dO es).J6.getD A'.length 0=f.2.Q8:=(by rw[I];exact A2.1);have O:jp Ny k v↔minOf k v h<f.2.size:=(by unfold jp;rw[ar.size,aq]);unfold kx;rw[a0,aX];dsimp only;rw[if_neg (fun h=>h rfl),if_pos (show A'.length<(A'++[f]).length by simp),I];by_cases hsq:jp Ny k v;rw[if_neg (fun h=>h hsq)];obtain⟨a1,a2,a3,a4⟩:=Hn.yw;have a5:(dO (A'++f::e::B)).J3.getD A'.length []=e.1:=G3;rw[a5];obtain⟨N,M2,R,e2,ad,U,aF⟩:=qt5 hc Hn (qz0 hc ar ao (O.1 hsq) bi a1 a2 ⟨a3,a4⟩) oJ;rw[<- ap] at ad;rw[<- ab] at U;rw[<- I];exact⟨N,_,M2,_,R,by rw[I];exact e2,rfl,aD ad,aw U,by rw[C];simp;omega,oJ⟩;rw[if_pos hsq];have bG:f.2.size<=minOf k v h:=Nat.le_of_not_lt fun h9=>hsq (O.2 h9);have a6:=aA.2;obtain⟨N,M2,R,e2,ad,U,aF⟩:=qqj hc Hn oJ oJ oJ;rw[<- ap] at ad;rw[<- ab] at U;rw[<- I];exact⟨N,_,M2,_,R,by rw[I];exact e2,rfl,aD ad,aw U,by rw[C];simp;omega,oJ⟩;rw[if_neg hA0];obtain rfl:A=[]:=eq_nil_of_length_eq_zero oJ;obtain⟨f,B',rfl⟩:∃f B',B=f::B':=by
   cases B with
   | nil=>rw[C] at am;simp at am
   | cons f B'=>exact⟨f,B',rfl⟩
  have aA:=G f (.inr oL);obtain⟨Ny,Ry,aX,ar,aY,_,_⟩:=aA.1.load;have I:es=[]++e::f::B':=V;have ab:([]:List io).flatMap (·.2.y5)++((e.2.Q8::J)++(f::B').flatMap (·.2.y5))=([]:List io).flatMap (·.2.y5)++(((e.2.Q8::J)++(f.2.Q8::Ry))++B'.flatMap (·.2.y5)):=by rw[yH,aY];simp only[zV]
  have ap:([]:List io).flatMap (·.2.x9)++(gR key e.2.x9++(f::B').flatMap (·.2.x9))=([]:List io).flatMap (·.2.x9)++((gR key e.2.x9++f.2.x9)++B'.flatMap (·.2.x9)):=(by rw[yH];simp only[zV]);have aB:gh ([]++(e.1,(⟨0,0,gR key e.2.x9,[]⟩:iO))::(f.1,⟨0,0,f.2.x9,[]⟩)::B'):=(by have h9:gh ([(e.1,(⟨0,0,gR key e.2.x9,[]⟩:iO))]++f::B'):=az;exact h9.swap (s:=⟨0,0,f.2.x9,[]⟩) fun x u=>u);have ac:=aT;rw[ab] at ac;have Hn:t5 D M1 k v h [] B' e f N1 Ny n1 f.2.size (gR key e.2.x9) f.2.x9 J Ry:=
   ⟨st.wf,st.Q0,by rw[<- I];exact h0,by rw[<- I];exact aa,aB,by have:=am.2;rw[C] at this;simp at this⊢;omega,fun b E=>G b (E.imp id fun E=>by simp[E]),ao,ar,ac.has,ac.nodup⟩
  have a0:(dO es).J6.getD (([]:List io).length+1) 0=f.2.Q8:=(by rw[I];exact A2.2);have O:jp Ny k v↔minOf k v h<f.2.size:=(by unfold jp;rw[ar.size,aq]);unfold kx;rw[a0,aX];dsimp only;rw[if_neg (fun h=>h rfl),if_neg (show ¬([]:List io).length+1<([]:List io).length by simp),I];by_cases hsq:jp Ny k v;rw[if_neg (fun h=>h hsq)];obtain⟨a1,a2,a3,a4⟩:=Hn.yw;have a5:(dO ([]++e::f::B')).J3.getD ([]:List io).length []=f.1:=G3 (A:=[]) (B:=B') (e1:=e);rw[a5];obtain⟨N,M2,R,e2,ad,U,aF⟩:=qt5 hc Hn (qAx hc ao ar bi (O.1 hsq) a1 a2 ⟨a3,a4⟩) oJ;rw[<- ap] at ad;rw[<- ab] at U;rw[<- I];exact⟨N,_,M2,_,R,by rw[I];exact e2,rfl,aD ad,aw U,by rw[C];simp,oJ⟩;rw[if_pos hsq];have bG:f.2.size<=minOf k v h:=Nat.le_of_not_lt fun h9=>hsq (O.2 h9);have a6:=aA.2;obtain⟨N,M2,R,e2,ad,U,aF⟩:=qqj hc Hn oJ oJ oJ;rw[<- ap] at ad;rw[<- ab] at U;rw[<- I];exact⟨N,_,M2,_,R,by rw[I];exact e2,rfl,aD ad,aw U,by rw[C];simp,oJ⟩;rw[if_pos hlw];have a6:minOf k v h<=n1:=Nat.le_of_not_lt fun h9=>hlw (aJ.2 h9);obtain⟨q,M2,e2,U,H2,aF⟩:=ao.store st.wf st.Q0 oJ bg aU oJ;rw[e2];have bH:Step D M M2 (e.2.Q8::Re) (q::J):=Step.kid (Q:=[q]) (fun z hz=>ax z (zI _ (zH _ hz))) an st U;have bI:=Step.part ax ag bH;have a7:gh (A++(e.1,(⟨q,n1,gR key e.2.x9,q::J⟩:iO))::B):=av.swap fun x u=>(Fg.1 u).1;have a8:((A++(e.1,(⟨q,n1,gR key e.2.x9,q::J⟩:iO))::B).map (·.1)).head?=some []:=(by rw[V] at h0;rw[xN,xO] at h0⊢;exact h0);refine⟨dO (A++(e.1,(⟨q,n1,gR key e.2.x9,q::J⟩:iO))::B),es.length,M2,_,A.flatMap (·.2.y5)++((q::J)++B.flatMap (·.2.y5)),?_,rfl,⟨_,a8,rfl,by rw[V];simp,by rw[rT,al],by rw[rT],Ib (by rw[<- V];exact aa),a7,am.2,fun b E=>?_⟩,by rw[ah,aQ];exact bI,by show es.length<=es.length+1;omega,oJ⟩;rw[V];exact congrArg (fun N=>((N,(0:Int)),M2)) (qAs (s:=⟨q,n1,gR key e.2.x9,q::J⟩));have bm:∀b,b∈A\/b∈B->Has D M2 k v h b.2/\minOf k v h<=b.2.size:=fun b E=>by have h9:=G b E;refine⟨h9.1.q8 fun x u=>(U.rest x (h9.1.J1 st.Q0 x u) fun hm=>?_).1,h9.2⟩;have hd:=yM.1 ag;have bn:=zE.1 hm;rcases E with E|E;exact hd.2.2 x (yK.2 ⟨b,E,u⟩) x (by rw[bn];simp) rfl;exact (yM.1 hd.2.1).2.2 x (by rw[bn];simp) x (yK.2 ⟨b,E,u⟩) rfl
  rcases zD.1 E with E|E;exact bm b (.inl E);rcases zG.1 E with rfl|E;exact⟨H2,a6⟩;exact bm b (.inr E)
end
end
end
section
open Go Go.Pt List
open Go.IntKind (wrap)
variable {l:List Key}
def Gy{α:Type}{p:α->Bool}:∀ {l:List α} {r:Nat},r<=l.length->(∀(i:Nat) a,i<r->l[i]?=some a->p a=true)->(∀a,l[r]?=some a->p a=false)->(l.takeWhile p).length=r
 | [],r,h,_,_=>by simp at h;simp[h]
 | x::l,0,h,_,u=>by
  have:=u x rfl
  rw[takeWhile_cons,this];rfl
 | x::l,r+1,h,E,u=>by
  have G:=E 0 x (Nat.succ_pos r) rfl
  have:=Gy (p:=p) (l:=l) (r:=r) (oP h) (fun i a I C=>E (i+1) a oJ (oP C)) (fun a C=>u a (oP C))
  rw[takeWhile_cons,G];simp[this]
def qz9{k:Key}{r:Nat}(C:r<=l.length)(E:∀(i:Nat) a,i<r->l[i]?=some a->mt a k)(G:∀a,l[r]?=some a->gf k a):eA l k=r:=
 Gy C (fun i a I u=>yA (E i a I u)) fun a u=>zU fun h=>h (G a u)
def qxn{k:Key}{r:Nat}(u:r<=l.length)(C:∀(i:Nat) a,i<r->l[i]?=some a->gf a k)(E:∀a,l[r]?=some a->mt k a):dP l k=r:=
 Gy u (fun i a G h=>yA (C i a G h)) fun a h=>zU (E a h)
def H6(h:gg l){i j:Nat}{a b:Key}(u:i<j)(C:l[i]?=some a)(E:l[j]?=some b):gf a b:=by obtain⟨G,rfl⟩:=zP.1 C;obtain⟨I,rfl⟩:=zP.1 E;exact pairwise_iff_getElem.1 h i j G I u
abbrev kV:=Bool×Sl×Sl×Sl
def eV (x:kV):Array Value:=#[.bool x.1,x.2.1.v,x.2.2.1.v,x.2.2.2.v]
def fU:kV:=(false,dI,dI,dI)
def NB (n:dN):Prop:=(∀a∈n.J3,eS a)/\(∀a∈n.J7,eS a)/\∀x∈n.J6,iy x
def eO (S:List Nat) (w:World) (x:kV) (n:dN):Prop:=
 x.1=n.Q1/\NB n/\(∃pk,jO S w x.2.1 pk/\gM pk=n.J3)/\(∃pv,jO S w x.2.2.1 pv/\gM pv=n.J7)/\dX jc 1 S w x.2.2.2 n.J6
def jw (Z:List Nat) (w:World) (s:Sl) (l:List Key) (B:List Nat):Prop:=∃pk:qy,eZ gT 1 w s (i3 pk) B/\gM pk=l/\∀p∈pk,eF Z w p.1 p.2
def fI (Z:List Nat) (w:World) (x:kV) (n:dN) (B:List Nat):Prop:=
 x.1=n.Q1/\NB n/\∃Bk h u,B=Bk++(h++u)/\B.Nodup/\jw Z w x.2.1 n.J3 Bk/\jw Z w x.2.2.1 n.J7 h/\eZ jc 1 w x.2.2.2 n.J6 u
def jw.nil(Z:List Nat)(w:World):jw Z w dI [] []:=⟨[],.nil _ _ _,rfl,fun p h=>nomatch h⟩
def fI.zero(Z:List Nat)(w:World):fI Z w fU iY []:=⟨rfl,⟨fun _ h=>(nomatch h),fun _ h=>(nomatch h),fun _ h=>(nomatch h)⟩,[],[],[],rfl,nodup_nil,.nil _ _,.nil _ _,.nil _ _ _⟩
section
variable {Z Z' S:List Nat} {w w':World} {s:Sl} {l:List Key} {B:List Nat} {x:kV} {n:dN}
def jw.lt(h:jw Z w s l B):∀b∈B,b<w.heap.size:=by obtain⟨pk,u,rfl,_⟩:=h;exact u.lt
def jw.q8(h:jw Z w s l B)(f:Fr S w w')(u:∀b∈B,b∉S)(C:∀b∈S,b∈Z\/w.heap.size<=b)(E:∀b∈Z',b∈Z\/w.heap.size<=b):jw Z' w' s l B:=by obtain⟨pk,G,I,J⟩:=h;exact⟨pk,G.q8 f u,I,fun p O=>(J p O).q8 (f.mono fun i Q R=>(C i Q).elim id fun h=>absurd R oJ) E⟩
def jw.q7(h:jw Z w s l B)(f:Fr [] w w'):jw Z w' s l B:=h.q8 f (fun _ _ h=>nomatch h) (fun _ h=>nomatch h) fun _ h=>.inl h
def fI.lt(h:fI Z w x n B):∀b∈B,b<w.heap.size:=by obtain⟨_,_,Bk,I,J,rfl,_,C,E,G⟩:=h;intro b u;rcases zD.1 u with u|u;exact C.lt b u;rcases zD.1 u with u|u;exact E.lt b u;exact G.lt b u
def fI.q8(h:fI Z w x n B)(f:Fr S w w')(C:∀b∈B,b∉S)(E:∀b∈S,b∈Z\/w.heap.size<=b)(G:∀b∈Z',b∈Z\/w.heap.size<=b):fI Z' w' x n B:=by obtain⟨I,u,Bk,J,O,rfl,Q,R,U,V⟩:=h;exact⟨I,u,Bk,J,O,rfl,Q,R.q8 f (fun b u=>C b (by simp[u])) E G,U.q8 f (fun b u=>C b (by simp[u])) E G,V.q8 f fun b u=>C b (by simp[u])⟩
def fI.q7(h:fI Z w x n B)(f:Fr [] w w'):fI Z w' x n B:=h.q8 f (fun _ _ h=>nomatch h) (fun _ h=>nomatch h) fun _ h=>.inl h
def fI.j4(h:fI Z w x n B)(u:∀b∈Z',b∈Z\/w.heap.size<=b):fI Z' w x n B:=h.q8 (.refl [] _) (fun _ _ h=>nomatch h) (fun _ h=>nomatch h) u
def jw.rd(h:jw Z w s l B)(u:∀b∈B,b∉S)(C:∀b∈S,b∈Z\/w.heap.size<=b):∃pk,jO S w s pk/\gM pk=l:=by obtain⟨pk,E,G,I⟩:=h;exact⟨pk,⟨E.kF xa u,fun p J=>(I p J).q8 (.refl _ _) C⟩,G⟩
def fI.rd(h:fI Z w x n B)(C:∀b∈B,b∉S)(E:∀b∈S,b∈Z\/w.heap.size<=b):eO S w x n:=by obtain⟨G,u,Bk,Q,R,rfl,U,I,J,O⟩:=h;exact⟨G,u,I.rd (fun b u=>C b (by simp[u])) E,J.rd (fun b u=>C b (by simp[u])) E,O.kF (fun _=>rfl) fun b u=>C b (by simp[u])⟩
def eO.q8{S':List Nat}(h:eO S w x n)(f:Fr S w w')(u:∀b∈S',b∈S\/w.heap.size<=b):eO S' w' x n:=by obtain⟨C,E,⟨pk,G,I⟩,⟨pv,J,O⟩,Q⟩:=h;exact⟨C,E,⟨pk,G.q8 f u,I⟩,⟨pv,J.q8 f u,O⟩,Q.q8 f u⟩
def eO.q7(h:eO S w x n)(f:Fr [] w w'):eO S w' x n:=h.q8 (f.mono fun b u=>nomatch u) fun b u=>.inl u
def eO.j4{S':List Nat}(h:eO S w x n)(u:∀b∈S',b∈S\/w.heap.size<=b):eO S' w x n:=h.q8 (.refl _ _) u
end
def qk4:∀ {l:List Key},(∀(i:Nat) a b,l[i]?=some a->l[i+1]?=some b->gf a b)->gg l
 | [],_=>.nil
 | [x],_=>pairwise_singleton _ _
 | x::y::r,h=>by have ih:gg (y::r):=qk4 fun i a b u E=>h (i+1) a b (oP u) (oP E);have C:gf x y:=h 0 x y rfl rfl;refine yJ.2 ⟨fun a u=>?_,ih⟩;rcases zG.1 u with rfl|u;exact C;exact qu C (zi ih a u)
def E5{α:Type}{l:List α}{i:Nat}{x y:α}(h:y∈ga l i x):y=x\/y∈l:=by unfold ga at h;simp only[zD,zE] at h;rcases h with (h|h)|h;exact .inr (yV h);exact .inl h;exact .inr (yU h)
def FZ{k v:Nat}:∀(c:Nat) {b:List Int},eS b->(∀a∈(jm k v c b).1,eS a)/\∀a∈(jm k v c b).2,eS a
 | 0,_,_=>⟨fun _ h=>(nomatch h),fun _ h=>(nomatch h)⟩
 | c+1,b,h=>by have ih:=FZ (k:=k) (v:=v) c (b:=b.drop (k+v)) (h.drop _);refine⟨fun a u=>?_,fun a u=>?_⟩;rcases zG.1 u with rfl|u;exact h.take _;exact ih.1 a u;rcases zG.1 u with rfl|u;exact (h.drop _).take _;exact ih.2 a u
def qql{k:Nat}:∀(c:Nat) {b:List Int},eS b->∀a∈lI k c b,eS a
 | 0,_,_=>fun _ h=>(nomatch h)
 | c+1,b,h=>fun a u=>by rcases zG.1 u with rfl|u;exact h.take _;exact qql c (h.drop _) a u
end
end Go.Proofs.YtfneoijhmknlnaaGreatDoor
