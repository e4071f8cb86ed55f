/- Conditions: those that stand in each line. -/
import Derived.Test.YtpcmehldpoljfaaGreatDoorCSMQ3
import Derived.Test.YtpcmehldpoljfaaGreatDoorCSMQ2
import Derived.Test.YtpcmehldpoljfaaGreatDoorCSMQ1
import Derived.Lib.Bytealg
import Derived.Lib.BytesEntry
import Derived.Laws.IdiomStrings
import Derived.Laws.BytesString
set_option linter.unusedVariables false
set_option linter.unusedSimpArgs false
set_option linter.defProp false
namespace Go.Proofs.YtpcmehldpoljfaaGreatDoor
open Go Go.Pt
attribute [local irreducible] ld dK iF mK iY fq st new idx i3 ji fy jk iL lN gU nn call dU inv run eX iD join loop held ext jQ eu mr ma mv IntKind.wrap
open Go.Proofs.Tryz (prog)
section
open Go Go.Pt List
open Go.IntKind (wrap)
variable {D:dI} {F F1 FD S X:List Nat} {K:Int->WP} {M:dZ} {Q2 Q5 Q9 body l l' numbers y5:List Int} {Q3:Bool} {a r:dI×Int} {db:Option Addr} {dbk k pb:Nat} {f:dI->dI×Int} {j9 next s:nJ} {n x6:Int} {sl sn:Sl} {w w1:World} {wk:List Value}
def gE (l:List Int):List Int:=l.foldl (fun a n=>ins n a) []
def qtE(n:Int):∀l:List Int,(ins n l).length<=l.length+1
 | []=>by simp[ins]
 | a::l=>by
  have:=qtE n l
  simp only[ins];split;simp;split;simp;simp only[yI];omega
def qsQ{i:Nat}(h:i<l.length):gE (l.take (i+1))=ins l[i] (gE (l.take i)):=by rw[gE,yG h,foldl_append];rfl
def qnq(l:List Int):(gE l).length<=l.length:=by
 unfold gE;have:∀(l a:List Int),(l.foldl (fun a n=>ins n a) a).length<=a.length+l.length:=by
  intro l;induction l with
  | nil=>intro a;simp
  | cons x l ih=>
   intro a;have h:=ih (ins x a);have u:=qtE x a;rw[foldl_cons,yI];omega
 simpa using this l []
def qor(l:List Int):∀a:List Int,a.Pairwise (· < ·)->(l.foldl (fun a n=>ins n a) a).Pairwise (· < ·):=by
 induction l with
 | nil=>intro a h;exact h
 | cons x l ih=>intro a h;exact ih _ (BS h)
def qrm(l:List Int):∀a:List Int,(a++l).Nodup->(l.foldl (fun a n=>ins n a) a).Perm (a++l):=by
 induction l with
 | nil=>intro a h;rw[xH];exact .refl _
 | cons x l ih=>
  intro a h;have E:x∉a:=fun G=>by rw[yM] at h;exact h.2.2 x G x oL rfl
  have I:=zy E;have u:(ins x a++l).Perm (a++x::l):=(I.append_right l).trans (perm_middle.symm);exact (ih (ins x a) (u.nodup_iff.2 h)).trans u
def AO(l:List Int):(gE l).Pairwise (· < ·):=qor l [] .nil
def EB(h:l.Nodup):(gE l).Perm l:=by
 have:=qrm l [] (oP h)
 simpa[gE] using this
def qyy(h:l.Pairwise (· < ·)):l.Pairwise (·<=·):=h.imp Int.le_of_lt
def xm(h:l.Pairwise (· < ·)):l.Nodup:=h.imp (fun h=>Int.ne_of_lt h)
def G9(h:l'.Perm l)(u:l'.Pairwise (·<=·))(E:l.Nodup):l'=gE l:=
 Fe (h.trans (EB E).symm) u (qyy (AO l))
def qpu(h:l.Pairwise (· < ·)):gE l=l:=(G9 (.refl _) (qyy h) (xm h)).symm
def zd{x y:Int}:∀ {l:List Int},y∈ins x l↔y=x\/y∈l
 | []=>by simp[ins]
 | a::l=>by
  have:=zd (x:=x) (y:=y) (l:=l)
  simp only[ins];split;simp;split;rename_i h;subst h;simp;simp only[zG,this];constructor;rintro (h|h|h);exact .inr (.inl h);exact .inl h;exact .inr (.inr h);rintro (h|h|h);exact .inr (.inl h);exact .inl h;exact .inr (.inr h)
def xh{y:Int}:y∈gE l↔y∈l:=by
 have:∀(l a:List Int),y∈l.foldl (fun a n=>ins n a) a↔y∈a\/y∈l:=by
  intro l;induction l with
  | nil=>intro a;simp
  | cons x l ih=>
   intro a;rw[foldl_cons,ih,zd,zG];constructor;rintro ((h|h)|h);exact .inr (.inl h);exact .inl h;exact .inr (.inr h);rintro (h|h|h);exact .inl (.inr h);exact .inl (.inl h);exact .inr h
 rw[gE,this];simp
def andThen (r:dI×Int) (f:dI->dI×Int):dI×Int:=if r.2=0 then f r.1 else r
def fH:List (Int×List Int)->dI->dI×Int
 | [],D=>(D,0)
 | x::r,D=>andThen (en D x.1 x.2) (fH r)
def fk (D:dI) (numbers y5:List Int):dI×Int:=
 if (gu numbers y5).2≠0 then (D,(gu numbers y5).2)
 else andThen (fH ((y5.zip (gu numbers y5).1).map fun x=>(x.1,eC x.1 2 x.2)) D) fY
def gH (s:nJ):Int×List Int:=(Int.tmod s.1 2,eC (wrap .u32 (Int.tmod s.1 2)) 1 (gy s.1 s.2))
def jE (D:dI) (s:nJ):dI×Int:=andThen (en D (gH s).1 (gH s).2) fY
def fB (n:Nat):List Int:=(List.range (n-2)).map fun (i:Nat)=>(i:Int)+2
def kC (n:Nat):nJ:=(1,[wrap .u32 n,2,wrap .u32 ((fB n).length-eJ (fB n).length:Int)]++zs 24)
def lz (D:dI):dI×Int:=
 andThen (en D 0 (zs 512)) fun D=>andThen (en D 1 (zs 512)) fun D=>andThen (fY D) fun D=>
 andThen (fk D ((fB D.Q6.length).drop (eJ (fB D.Q6.length).length)) ((fB D.Q6.length).take (eJ (fB D.Q6.length).length))) fun D=>jE D (kC D.Q6.length)
def md (D:dI) (u:Int):Nat->Int->List Int->List Int->Option (List Int×List Int)
 | 0,_,_,_=>none
 | f+1,a,h,Q9=>
  if a=0 then some (h,Q9) else
  if a<2\/a>=u\/a∈h then none else
  if (eA D a).2≠0 then none else
  if (eU a (eA D a).1).2.2≠0\/(eU a (eA D a).1).1≠2 then none else
  if (ik (eU a (eA D a).1).2.1).2.2≠0 then none else
  md D u f (ik (eU a (eA D a).1).2.1).1 (h++[a]) (Q9++(ik (eU a (eA D a).1).2.1).2.1)
def kz (h:Int) (Q5:List Int):Int->List Int->Bool
 | _,[]=>true
 | u,n::r=>!(decide (n<=u)||decide (n>=h)||decide (n∈Q5))&&kz h Q5 n r
def ol (D:dI) (s:nJ):Option (List Int×List Int):=
 match md D (s.2.getD 0 0) ((s.2.getD 0 0).toNat+1) (s.2.getD 1 0) [] [] with
 | none=>none
 | some x=>if kz (s.2.getD 0 0) x.1 0 x.2=true/\(x.2.length:Int)=s.2.getD 2 0 then some x else none
def iq (j9:nJ) (Q5 Q9:List Int) (x6:Int) (Q3:Bool) (h:List Int):dZ:=⟨j9,Q5,Q9,x6,Q3,h,[],[],j9.2.drop 3⟩
def mQ (D:dI):Option dZ×Int:=
 if (eA D 0).2≠0 then (none,(eA D 0).2) else
 if (eA D 1).2≠0 then (none,(eA D 1).2) else
 if (gS (eA D 0).1 (eA D 1).1).2≠0 then (none,(gS (eA D 0).1 (eA D 1).1).2) else
 if (gS (eA D 0).1 (eA D 1).1).1.2.getD 0 0≠D.Q6.length then (none,2) else
 match ol D (gS (eA D 0).1 (eA D 1).1).1 with
 | none=>(none,2)
 | some x=>(some (iq (gS (eA D 0).1 (eA D 1).1).1 x.1 x.2 1 false x.2),0)
def jA (M:dZ):Option (List Int×List Int):=
 if eJ (M.Q1.length+(M.J7++M.Q5).length)>M.Q1.length then none
 else some (M.Q1.take (eJ (M.Q1.length+(M.J7++M.Q5).length)),gE ((M.J7++M.Q5)++M.Q1.drop (eJ (M.Q1.length+(M.J7++M.Q5).length))))
def jY (J8:List (Int×Int×List Int)) (n:Int):Int×List Int:=match look n J8 with|some q=>q.2|none=>(0,[])
def kI (J8:List (Int×Int×List Int)):List (Int×List Int):=(gE (J8.map (·.1))).map fun n=>(n,eC n (jY J8 n).1 (jY J8 n).2)
def gJ (D:dI) (J8:List (Int×Int×List Int)) (y5 Q9:List Int) (next:nJ):dI×Int:=
 andThen (fH (kI J8) D) fun D=>andThen (fk D Q9 y5) fun D=>jE D next
def fP (M:dZ) (y5 Q9:List Int):nJ:=(wrap .u64 (M.j9.1+1),[M.j9.2.getD 0 0,y5.headD 0,wrap .u32 Q9.length]++M.Q2)
def tY:dZ:=iq gC [] [] 1 true []
def gG (D:dI) (M:dZ):(dI×dZ)×Int:=
 if M.Q3 then ((D,M),7) else
 if M.J8=[]/\M.J7=[]/\M.Q2=M.j9.2.drop 3 then ((D,M),0) else
 match jA M with
 | none=>((D,M),6)
 | some x=>
  if (gJ D M.J8 x.1 x.2 (fP M x.1 x.2)).2≠0 then (((gJ D M.J8 x.1 x.2 (fP M x.1 x.2)).1,tY),(gJ D M.J8 x.1 x.2 (fP M x.1 x.2)).2)
  else (((gJ D M.J8 x.1 x.2 (fP M x.1 x.2)).1,iq (fP M x.1 x.2) x.1 x.2 (M.x6+1) false x.2),0)
def nK (pb:Nat) (x y:Option Addr) (mb:Nat) (vs:List Value) (K:Unit->WP) (w:World):Prop:=
 eX [gX.k7] (fun (w':Go.World)=>(Instr.build GT (#[(0,Value.pointer x),(1,Value.pointer y),(2,Value.map (some mb)),(3,Value.agg (List.toArray vs))])).run prog w') w<|
 fun (u:List Value)=>
 nn (pW pb)<|
 fun (G:Addr)=>
 gU (List.length u=27)<|
 st ({ block:=G.block,off:=G.off+33 }) u w<|
 fun (I:World)=>
 nn (pW pb)<|
 fun (J:Addr)=>
 ld Cell.slice ({ block:=J.block,off:=J.off+30 }) I<|
 fun (R:Sl)=>
 loop (Int) (fun (V:Int->WP) (E:Int) (h:World)=>
  cond (decide (E<(↑R.len:Int)))
   (idx R E 1<|
   fun (aa:Addr)=>
   ld (Cell.int IntKind.u32) aa h<|
   fun (ab:Int)=>
   nn (pW pb)<|
   fun (U:Addr)=>
   ld Cell.ptr ({ block:=U.block,off:=U.off+33 }) h<|
   fun (ac:Option Addr)=>
   cW 152 ([Value.pointer ac,Value.int IntKind.u32 ab]) ([gX.one Cell.bool]) h<|
   fun (ae:Bool) (ad:World)=>
   V (wrap IntKind.i64 (E+1)) ad)
   (K () h)) 0 I
def qux{w3:World}{fb defb mb:Nat}{F2:List Nat}{K:Unit->WP}(hs:j9.2.length=27)(hw:wk.length=27)(hX:∀b∈X,b<w.heap.size/\b≠pb)(J:Rd (X++[pb]) w sl Q5)(G:Rd (X++[pb]) w sn Q9)(hn:Q9.length<=100000)(ho:dQ [pb] w w3 [(pb,.cells (fj db j9 sl sn x6 Q3 wk) rP (0,0))])(h1:gO w3 fb F1 [])(h2:gO w3 defb F2 [])(h3:jc jt w3 mb [])(n1:∀b∈F1,w.heap.size<=b)(n2:∀b∈F2,w.heap.size<=b)(n3:w.heap.size<=mb)(aE:pb<w.heap.size)(ag:mb∉F1)(ah:mb∉F2)(ai:∀b∈F1,b∉F2)(hk:∀F' w',eF w' X pb db F' (iq j9 Q5 Q9 x6 Q3 (gE Q9))->Fr [pb] w w'->(∀b∈F',b=pb\/w.heap.size<=b)->K () w'): nK pb (pW fb) (pW defb) mb ((j9.2.drop 3).map (Value.int .u32)) K w3:=by
 have E:(j9.2.drop 3).length=24:=(by rw[yC,hs]);unfold nK;refine ru (ts:=[gX.k7]) (ia (pW fb) (pW defb) (some mb) (j9.2.drop 3)) (quC E w3)<|fG<|pD (wR E) ?_;have ac:(ia (pW fb) (pW defb) (some mb) (j9.2.drop 3)).all Value.oneCell'=true:=by rw[all_eq_true];intro v hv;simp only[ia,zD,zG,mem_map,xX,or_false] at hv;rcases hv with (rfl|rfl|rfl)|⟨x,_,rfl⟩<;>rfl
 refine oG ho 0 rfl (fO db j9 sl sn x6 Q3 fb defb mb (j9.2.drop 3)) (by rw[<- FO];exact qyc hs (by rw[hw,wR E])) ac (by rw[ut hs,wR E,hw];exact zO rfl) fun w4 R f4=>?_;have V:∀b∈F1,b≠pb:=fun b u e=>by have:=n1 b u;omega
 have aa:∀b∈F2,b≠pb:=fun b u e=>by have:=n2 b u;omega
 have hS:∀b∈pb::mb::(F1++F2),b∈[pb]\/w.heap.size<=b:=fun b u=>by simp only[zG,zD] at u;rcases u with rfl|rfl|u|u;exact .inl oL;exact .inr n3;exact .inr (n1 b u);exact .inr (n2 b u)
 have hx:nS w4 X pb db (iq j9 Q5 Q9 x6 Q3 []) fb defb mb sl sn F1 F2 []:={
  cell:=R.at (i:=0) rfl
  Q1:=h1.q8 f4 fun b u=>by simpa using V b u
  J7:=h2.q8 f4 fun b u=>by simpa using aa b u
  map:=h3.q8 f4 oO
  J8:=rfl
  rows:=by have hf:Fr (X++[pb]) w w4:=R.fr.mono fun b u _=>zI _ u;exact⟨J.q8 hf (Aa hS),G.q8 hf (Aa hS),fun e he=>by cases he⟩
  ow:=fun b u=>yD (hX b u).1 R.fr.size
  mC:=GS (fun b u=>(hX b u).1) (fun b u=>by simpa using (hX b u).2) hS
  sep:=⟨oJ,fun b u=>⟨V b u,fun e=>ag (e▸u),ai b u⟩,fun b u=>⟨aa b u,fun e=>ah (e▸u)⟩⟩
  Q8:=hs
  x7:=E }
 refine fG (iI hx.cell sn (qx5 hs) ?_);have aH:=G.1;refine je (fun x w'=>∃(i:Nat) (U:List Nat),x=i/\i<=Q9.length/\nS w' X pb db (iq j9 Q5 Q9 x6 Q3 (gE (Q9.take i))) fb defb mb sl sn U F2 []/\Fr [pb] w w'/\∀b∈U,w.heap.size<=b) (fun x _=>((Q9.length:Int)-x).toNat)
  ⟨0,F1,rfl,oJ,hx,R.fr,n1⟩ ?_
 rintro x w5 ⟨i,U,rfl,hi,I,f5,n5⟩ Z hZ;apply cD<;>intro hc;have ad:i<Q9.length:=oJ;refine Rd.at I.rows.Q9 i rfl (zA ad)<|fG (iI I.cell (pW fb) (xz hs) ?_);have ao:=qnq (Q9.take i);rw[yL] at ao;refine FR I.Q1 (by show (gE (Q9.take i)).length<=_;omega) fun ae w6 ap f6 n6=>?_;have aq:=I.qb f6 ap n6;rw[gq _ oJ];refine hZ _ _ ⟨i+1,ae,oL,oJ,?_,f5.j8 f6 (fun b u=>.inr (n5 b u)),fun b u=>?_⟩ oJ;rw[qsQ ad];exact aq;rcases n6 b u with h|h;exact n5 b h;exact zL f5.size h;have:i=Q9.length:=oJ;subst this;rw[xZ] at I;refine hk _ w5 ⟨fb,defb,mb,sl,sn,U,F2,[],rfl,I⟩ f5 fun b u=>?_;simp only[zG,zD] at u;rcases u with rfl|rfl|u|u;exact .inl rfl;exact .inr n3;exact .inr (n5 b u);exact .inr (n2 b u)
def Fs{K:Unit->WP}(hc:w.heap[pb]?=some (.cells (fj db j9 sl sn x6 Q3 wk) rP (0,0)))(hs:j9.2.length=27)(hw:wk.length=27)(ht:0<=x6/\x6<=1000000000)(hX:∀b∈X,b<w.heap.size/\b≠pb)(hlists:Rd (X++[pb]) w sl Q5)(hnamed:Rd (X++[pb]) w sn Q9)(hn:Q9.length<=100000)(hk:∀F' w',eF w' X pb db F' (iq j9 Q5 Q9 (x6+1) Q3 (gE Q9))->Fr [pb] w w'->(∀b∈F',b=pb\/w.heap.size<=b)->K () w'): cW 115 [dF pb] [] w K:=by
 have hpb:=eV hc;have ho:dQ [pb] w w [(pb,.cells (fj db j9 sl sn x6 Q3 wk) rP (0,0))]:=⟨by simpa using hc,oL,.refl _ _,oL⟩;refine qiC (p:=pW pb)<|fG (oA (c:=.i) ho 0 rfl x6 (wm hs 2 oM) ?_);rw[gq _ oJ];refine fG (oG ho 0 rfl (fj db j9 sl sn (x6+1) Q3 wk) (qyb hs) rfl (by rw[ut hs,hw];exact zO rfl) fun w1 ho f1=>?_);have hrl:((j9.2.drop 3).map (Value.int .u32)).length=24:=(by rw[zK,yC,hs]);have hcA:∀ {w':World},w'.heap[pb]?=some (.cells (fj db j9 sl sn (x6+1) Q3 wk) rP (0,0))->jm w' (dh pb 5) 0 ((j9.2.drop 3).map (Value.int .u32)):=fun h=>vR h _ 5 0 (by rw[hrl];exact FF hs);have tail:=fun {w3:World} {fb defb mb:Nat} {F1 F2:List Nat}=>qux (w:=w) (w3:=w3) (X:=X) (pb:=pb) (fb:=fb) (defb:=defb) (mb:=mb) (F1:=F1) (F2:=F2) hs hw hX hlists hnamed hn (K:=K) (x6:=x6+1) (Q3:=Q3) (wk:=wk) (db:=db);have hs1:=f1.size;have ho':=ho.drew;generalize w1.drew=wd at ho';have hld:∀ {K':List Value->Prop},K' ((j9.2.drop 3).map (Value.int .u32))->iF 24 (dh pb 5) wd K':=fun k=>qC (ho'.at (i:=0) rfl) _ hrl (FF hs) k;have hsd:w.heap.size<=wd.heap.size:=ho'.fr.size;have fin:∀ {w3:World} {fb defb mb:Nat} {F1 F2:List Nat},Fr [] wd w3->gO w3 fb F1 []->gO w3 defb F2 []->jc jt w3 mb []->(∀b∈F1,wd.heap.size<=b)->(∀b∈F2,wd.heap.size<=b)->wd.heap.size<=mb->mb∉F1->mb∉F2->(∀b∈F1,b∉F2)->
   nK pb (pW fb) (pW defb) mb ((j9.2.drop 3).map (Value.int .u32)) K w3:=fun f p1 p2 p3 n1 n2 n3 s1 s2 s3=>
  tail (ho'.q7 f) p1 p2 p3 (fun b hb=>zL hsd (n1 b hb)) (fun b hb=>zL hsd (n2 b hb)) (zL hsd n3) hpb s1 s2 s3 hk
 refine⟨?_,?_,?_⟩;refine fG ?_;simp only[Addr.q9];refine hld<|xq fun fb F1 w2 p1 f2 n1=>ig (hcA ((ho'.q7 f2).at (i:=0) rfl))<|xq fun defb F2 w3 p2 f3 n2=>ig (hcA ((ho'.q7 (f2.trans f3)).at (i:=0) rfl))<|oB (ho'.q7 (f2.trans f3)) fun mb w4 e4 f4 ho4=>ig (hcA (ho4.at (i:=1) rfl))<|fin ((f2.trans f3).trans f4) (p1.q8 (f3.trans f4) oL) (p2.q8 f4 oL) (.empty (ho4.at (i:=0) rfl)) n1 (fun b hb=>zL f2.size (n2 b hb)) (by rw[e4];exact (f2.trans f3).size) (fun hm=>?_) (fun hm=>?_) (fun b hb hb2=>?_)
 have:=(p1.q8 f3 oL).lt mb hm;omega
 have:=p2.lt mb hm;omega
 have:=p1.lt b hb;have:=n2 b hb2;omega
 refine fG ?_;simp only[Addr.q9];refine hld<|xq fun fb F1 w2 p1 f2 n1=>ig (hcA ((ho'.q7 f2).at (i:=0) rfl))<|oB (ho'.q7 f2) fun mb w3 e3 f3 ho3=>ig (hcA (ho3.at (i:=1) rfl))<|xq fun defb F2 w4 p2 f4 n2=>?_;have ho4:=ho3.q7 f4;refine ig (hcA (ho4.at (i:=1) rfl)) ?_;have hmb:=eV (ho3.at (i:=0) rfl);refine fin ((f2.trans f3).trans f4) (p1.q8 (f3.trans f4) oL) p2 (.empty (ho4.at (i:=0) rfl)) n1 (fun b hb=>zL (f2.trans f3).size (n2 b hb)) (by rw[e3];exact f2.size) (fun hm=>?_) (fun hm=>?_) (fun b hb hb2=>?_)
 have:=p1.lt mb hm;omega
 have:=n2 mb hm;omega
 have:=(p1.q8 f3 oL).lt b hb;have:=n2 b hb2;omega
 refine fG ?_;simp only[Addr.q9];refine hld<|oB ho' fun mb w2 e2 f2 ho2=>ig (hcA (ho2.at (i:=1) rfl)) ?_;have hmb:=eV (ho2.at (i:=0) rfl);refine xq fun fb F1 w3 p1 f3 n1=>?_;have ho3:=ho2.q7 f3;refine ig (hcA (ho3.at (i:=1) rfl))<|xq fun defb F2 w4 p2 f4 n2=>?_;have ho4:=ho3.q7 f4;refine ig (hcA (ho4.at (i:=1) rfl))<|fin ((f2.trans f3).trans f4) (p1.q8 f4 oL) p2 (.empty (ho4.at (i:=0) rfl)) (fun b hb=>zL f2.size (n1 b hb)) (fun b hb=>zL (f2.trans f3).size (n2 b hb)) (by rw[e2];exact zM _) (fun hm=>?_) (fun hm=>?_) (fun b hb hb2=>?_)
 have:=n1 mb hm;omega
 have:=n2 mb hm;have:=f3.size;omega
 have:=p1.lt b hb;have:=n2 b hb2;omega
def view (D:dI) (n:Int):List Int:=match iJ n D.Q7 with|some b=>b.1|none=>(D.Q6.getD n.toNat .zero).1
def dI.size (D:dI):Int:=D.Q6.length
def Cr(h:D.down=false)(u:0<=n/\n<D.size):eA D n=(view D n,0):=by have E:n<(D.Q6.length:Int):=u.2;rw[eA,if_neg (by rw[h];decide),iN,view];cases iJ n D.Q7<;>rfl
def Ev(n:Int):∀(l:List (Int×lS)) (x:Int×lS),iJ n (l++[x])=if x.1=n then some x.2 else iJ n l
 | [],x=>rfl
 | y::l,x=>by simp only[xJ,iJ];rw[Ev n l x];by_cases h:x.1=n;simp[h];simp[h]
def FL(n:Nat):∀(l:List (Int×lS)) (s:List lS),(∀x∈l,0<=x.1/\x.1<s.length)->(l.foldl fZ s).getD n .zero=match iJ n l with|some b=>b|none=>s.getD n .zero
 | [],s,_=>rfl
 | x::l,s,h=>by
  have E:=h x oL;rw[foldl_cons,FL n l (fZ s x) (fun y u=>by rw[fZ,xG];exact h y (zN _ u)),iJ];cases iJ (n:Int) l with
  | some b=>rfl
  | none=>
   dsimp only;by_cases he:x.1=n;rw[if_pos he,fZ,yR];have:x.1.toNat=n:=oJ;rw[this,List.getElem?_set_self oJ];rfl;rw[if_neg he,fZ,yR,List.getElem?_set_ne oJ,yR]
structure eO (D:dI):Prop where
 down:D.down=false
 y6:D.y6=-1
 at_:∀ x∈D.Q7,0<=x.1/\x.1<D.Q6.length
def eO.act(h:eO D):gV D=(D,false):=by rw[gV,if_neg (by rw[h.y6];decide),if_neg (by rw[h.y6];decide)]
def eO.write(h:eO D)(G:0<=n/\n<D.size)(E:l.length=512): ∃D',en D n l=(D',0)/\eO D'/\D'.size=D.size/\∀m,view D' m=if m=n then l else view D m:=by have J:n<(D.Q6.length:Int):=G.2;have I:eO (lE D n ⟨l,E⟩):=⟨h.down,h.y6,fun x u=>by rcases zD.1 u with u|u;exact h.at_ x u;simp at u;subst u;exact⟨G.1,J⟩⟩;refine⟨lE D n ⟨l,E⟩,?_,I,rfl,fun m=>?_⟩;rw[en,if_neg (by rw[h.down];decide),iN,dif_pos E,I.act];rfl;rw[view,lE];dsimp only;rw[Ev];by_cases hm:m=n;rw[if_pos hm,if_pos hm.symm];rw[if_neg hm,if_neg (fun e=>hm e.symm),view]
def eO.sync(h:eO D):∃D',fY D=(D',0)/\eO D'/\D'.size=D.size/\D'.Q7=[]/\∀m,0<=m->view D' m=view D m:=by refine⟨{ D with Q6:=D.Q7.foldl fZ D.Q6,Q7:=[] },?_,⟨h.down,h.y6,fun x u=>by cases u⟩,?_,rfl,fun m E=>?_⟩;rw[fY,if_neg (by rw[h.down];decide),h.act];rfl;show ((D.Q7.foldl fZ D.Q6).length:Int)=_;rw[BK];rfl;obtain⟨k,rfl⟩:∃k:Nat,m=k:=⟨m.toNat,oJ⟩;show ((D.Q7.foldl fZ D.Q6).getD (k:Int).toNat .zero).1=_;rw[zJ,FL k _ _ h.at_,view,zJ];cases iJ (k:Int) D.Q7<;>rfl
def eO.writes:∀ {l:List (Int×List Int)} {D:dI},eO D->(∀x∈l,(0<=x.1/\x.1<D.size)/\x.2.length=512)->(l.map (·.1)).Nodup-> ∃D',fH l D=(D',0)/\eO D'/\D'.size=D.size/\(∀x∈l,view D' x.1=x.2)/\∀m,m∉l.map (·.1)->view D' m=view D m
 | [],D,h,_,_=>⟨D,rfl,h,rfl,(fun x u=>by cases u),fun m _=>rfl⟩
 | y::l,D,h,J,E=>by obtain⟨V,G⟩:=J y oL;obtain⟨D1,e1,q1,R,U⟩:=h.write V G;rw[xO,nodup_cons] at E;obtain⟨D2,e2,q2,s2,v2,u2⟩:=eO.writes (l:=l) q1 (fun x u=>by rw[R];exact J x (zN _ u)) E.2;refine⟨D2,?_,q2,s2.trans R,fun x u=>?_,fun m I=>?_⟩;rw[fH,e1];exact e2;rcases zG.1 u with rfl|u;rw[u2 _ E.1,U,if_pos rfl];exact v2 x u;rw[xO,zG,not_or] at I;rw[u2 m I.2,U,if_neg I.1]
def chunk (numbers:List Int) (i:Nat):List Int:=(numbers.drop (123*i)).take 123
def pp (D:dI) (numbers y5:List Int):Prop:=∀(i:Nat) p,y5[i]?=some p->view D p=eC p 2 (iQ (y5.getD (i+1) 0) (chunk numbers i))
def FB(numbers y5:List Int)(k i:Nat):(gw numbers y5 k)[i]?=if i<k then some (iQ (y5.getD (i+1) 0) (chunk numbers i)) else none:=by rw[gw,zQ];by_cases h:i<k;rw[if_pos h,List.getElem?_range h];rfl;rw[if_neg h,yS (oP h)];rfl
def FE(numbers y5:List Int)(k:Nat):(gw numbers y5 k).length=k:=by simp[gw]
def Fl(numbers:List Int)(i:Nat):(chunk numbers i).length<=123:=by rw[chunk,yL];omega
structure lA (n:Int) (numbers y5:List Int):Prop where
 cX:numbers.Pairwise (· < ·)
 nD:∀ x∈numbers,2<=x/\x<n
 rA:∀ x∈y5,2<=x/\x<n
 nodup:y5.Nodup
 J3:∀ x∈y5,x∉numbers
 room:numbers.length<=123*y5.length
def Fk:∀(l:List Int) (a:Int),iG a l=true↔(∀x∈l,a<x)/\l.Pairwise (· < ·)
 | [],a=>by simp[iG]
 | x::l,a=>by rw[iG,yB,yN,Fk l x,yJ];constructor;rintro⟨h,u,E⟩;refine⟨fun y G=>?_,u,E⟩;rcases zG.1 G with rfl|G;exact h;exact Int.lt_trans h (u y G);rintro⟨h,u,E⟩;exact⟨h x oL,u,E⟩
def lA.y8(h:lA n numbers y5):gu numbers y5=(gw numbers y5 y5.length,0):=by
 have u:iG 1 numbers=true:=(Fk _ _).2 ⟨fun x E=>by have:=h.nD x E;omega,h.cX⟩;rw[gu,if_neg (by rw[u];have:=h.room;simp;omega),if_neg];rintro⟨p,G,I⟩
 have:=h.rA p G
 omega
def qlI{α β:Type}{x:α×β}:∀ {l:List α} {r:List β},x∈l.zip r->∃i:Nat,l[i]?=some x.1/\r[i]?=some x.2
 | [],_,h=>by simp at h
 | _::_,[],h=>by simp at h
 | a::l,b::r,h=>by rw[zip_cons_cons,zG] at h;rcases h with rfl|h;exact⟨0,rfl,rfl⟩;obtain⟨i,u,E⟩:=qlI h;exact⟨i+1,by simpa using u,by simpa using E⟩
def Fq{α β:Type}:∀ {l:List α} {r:List β},l.length=r.length->(l.zip r).map (·.1)=l
 | [],[],_=>rfl
 | a::l,b::r,h=>by rw[zip_cons_cons,xO,Fq (oP h)]
def eO.spread(h:eO D)(I:lA D.size numbers y5): ∃D',fk D numbers y5=(D',0)/\eO D'/\D'.size=D.size/\D'.Q7=[]/\pp D' numbers y5/\∀m,0<=m->m∉y5->view D' m=view D m:=by
 have U:((y5.zip (gw numbers y5 y5.length)).map fun x=>(x.1,eC x.1 2 x.2)).map (·.1)=y5:=(by rw[map_map];exact Fq (by rw[FE]));obtain⟨D1,e1,q1,s1,v1,V⟩:=h.writes (l:=(y5.zip (gw numbers y5 y5.length)).map fun x=>(x.1,eC x.1 2 x.2)) (fun x hx=>by
  obtain⟨y,hy,rfl⟩:=mem_map.1 hx;obtain⟨i,h1,u⟩:=qlI hy;rw[FB] at u;have E:=I.rA _ (yF h1);refine⟨⟨by show 0<=y.1;omega,E.2⟩,wU ?_⟩;by_cases J:i<y5.length;rw[if_pos J] at u;have u:=yO u;rw[<- u,C4]
  have:=Fl numbers i
  omega;rw[if_neg J] at u;cases u) (by rw[U];exact I.nodup)
 rw[U] at V;obtain⟨D2,e2,q2,s2,w2,v2⟩:=q1.sync;refine⟨D2,?_,q2,s2.trans s1,w2,fun i p E=>?_,fun m hm R=>by rw[v2 m hm,V m R]⟩;rw[fk,I.y8,if_neg oL];show andThen _ _=_;rw[e1];exact e2;have J:=(zP.1 E).1;have G:(p,eC p 2 (iQ (y5.getD (i+1) 0) (chunk numbers i)))∈(y5.zip (gw numbers y5 y5.length)).map fun x=>(x.1,eC x.1 2 x.2):=by refine mem_map.2 ⟨(p,iQ (y5.getD (i+1) 0) (chunk numbers i)),?_,rfl⟩;refine yF (i:=i) ?_;rw[List.getElem?_zip_eq_some];exact⟨E,by rw[FB,if_pos J]⟩
 have am:=I.rA _ (yF E);rw[v2 p oJ];exact v1 _ G
def qlz(numbers:List Int):∀k,(List.range k).flatMap (chunk numbers)=numbers.take (123*k)
 | 0=>by simp
 | k+1=>by rw[range_succ,yQ,qlz numbers k,flatMap_singleton,chunk,Nat.mul_succ,<- xE (123*k) (numbers.take (123*k+123))];congr 1;rw[take_take,xR oJ];rw[drop_take,vD]
def qt3{D:dI}{numbers y5:List Int}{n:Int}(hd:D.down=false)(hs:D.size=n)(hn:n<=4096)(J:lA n numbers y5)(hl:pp D numbers y5): ∀(k i f:Nat),i+k=y5.length->k<f->md D n f (y5.getD i 0) (y5.take i) ((List.range i).flatMap (chunk numbers))=some (y5,numbers)
 | 0,i,f+1,hi,hf=>by have:y5.getD i 0=0:=(by rw[yR,yS oJ];rfl);have hr:=J.room;have ab:i=y5.length:=oJ;subst ab;rw[this,md,if_pos rfl,qlz,xZ,zS hr]
 | k+1,i,f+1,hi,hf=>by
  have u:i<y5.length:=oJ;have hp:y5.getD i 0=y5[i]:=(by rw[yR,zA u];rfl);have hr:=J.rA _ (zX u);have U:y5[i]∉y5.take i:=fun hm=>by
   obtain⟨j,hj,he⟩:=getElem_of_mem hm;rw[getElem_take] at he;rw[yL] at hj
   have:=pairwise_iff_getElem.1 J.nodup j i oJ u oJ
   exact this he
  have hv:=hl i _ (zA u);have E:=Cr hd (n:=y5[i]) (by rw[hs];omega);rw[hv] at E;have ac:=Fl numbers i;have R:=GD (number:=y5[i]) (kind:=2) (body:=iQ (y5.getD (i+1) 0) (chunk numbers i)) oJ (by rw[C4];omega);have V:∀x∈chunk numbers i,x∈numbers:=fun x hx=>yU (yV hx);have G:gI (y5.getD (i+1) 0)/\y5.getD (i+1) 0≠1:=by
   rw[yR];cases h:y5[i+1]? with
   | none=>exact⟨⟨oM,oM⟩,oM⟩
   | some p=>
    have:=J.rA p (yF h)
    constructor;constructor<;>(simp;omega);simp;omega
  have I:=qrU G.1 G.2 (c:=chunk numbers i) (fun x hx=>by have:=J.nD x (V x hx);constructor<;>omega)
   ((Fk _ _).2 ⟨fun x hx=>by have:=J.nD x (V x hx);omega,J.cX.sublist ((take_sublist _ _).trans (drop_sublist _ _))⟩) ac
  rw[hp,md,iN,if_neg (by intro h;rcases h with h|h|h;omega;omega;exact U h),E,R,if_neg oL,if_neg oL,I,if_neg oL]
  have:=qt3 hd hs hn J hl k (i+1) f oJ oJ
  rw[yG u,range_succ,yQ,flatMap_singleton] at this;exact this
def EG(n:Int)(Q5:List Int):∀(l:List Int) (a:Int),kz n Q5 a l=true↔(∀x∈l,a<x/\x<n/\x∉Q5)/\l.Pairwise (· < ·)
 | [],a=>by simp[kz]
 | x::l,a=>by
  rw[kz,yB,EG n Q5 l x,yJ];simp only[zT,Bool.or_eq_false_iff,decide_eq_false_iff_not,Int.not_le,Int.not_lt,ge_iff_le];constructor;rintro⟨⟨⟨u,E⟩,G⟩,I,J⟩;refine⟨fun y h=>?_,fun y h=>(I y h).1,J⟩;rcases zG.1 h with rfl|h;exact⟨u,E,G⟩
  have:=I y h;exact⟨oJ,this.2⟩
  rintro⟨u,E,G⟩
  have:=u x oL
  exact⟨⟨⟨this.1,this.2.1⟩,this.2.2⟩,fun y h=>⟨E y h,(u y (zN _ h)).2⟩,G⟩
def Ea:∀(n:Nat) (l:List Nat),l.Nodup->(∀x∈l,x<n)->l.length<=n
 | 0,l,_,h=>by cases l with
  | nil=>simp
  | cons a l=>exact absurd (h a oL) oJ
 | n+1,l,E,h=>by
  by_cases hm:n∈l;have I:=Ea n (l.erase n) (E.erase n) (fun x u=>by
   have G:=(E.mem_erase_iff).1 u
   have:=h x G.2
   have:=G.1
   omega)
  have:=length_erase_of_mem hm
  have:=length_pos_of_mem hm
  omega
  have:=Ea n l E (fun x u=>by
   have:=h x u
   have:x≠n:=fun e=>hm (e▸u);omega)
  omega
def C9(G:l.Nodup)(h:∀x∈l,2<=x/\x<n):(l.length:Int)<=n-2\/l=[]:=by
 by_cases h0:l=[];exact .inr h0;left;obtain⟨a,I⟩:=exists_mem_of_ne_nil l h0;have R:=h a I
 have:=Ea (n-2).toNat (l.map fun x=>(x-2).toNat) (by
  refine pairwise_map.2 (G.imp_of_mem fun {x y} u E J=>?_)
  have:=h x u
  have:=h y E
  omega) (fun x u=>by
  obtain⟨y,E,rfl⟩:=mem_map.1 u
  have:=h y E
  omega)
 rw[zK] at this;omega
structure ph (D:dI) (s:nJ) (y5 numbers:List Int):Prop where
 down:D.down=false
 size:8<=D.size/\D.size<=4096
 tO:gS (view D 0) (view D 1)=(s,0)
 blocks:s.2.getD 0 0=D.size
 list:s.2.getD 1 0=y5.headD 0
 Q1:s.2.getD 2 0=numbers.length
 ok:lA D.size numbers y5
 listed:pp D numbers y5
def ph.load(h:ph D s y5 numbers):ol D s=some (y5,numbers):=by
 have G:md D D.size (D.size.toNat+1) (y5.headD 0) [] []=some (y5,numbers):=by
  have:=qt3 h.down rfl h.size.2 h.ok h.listed y5.length 0 (D.size.toNat+1) oJ (by
   have:=C9 h.ok.nodup h.ok.rA
   have J:=h.size;rcases this with E|E;omega;rw[E];simp)
  have e:y5.headD 0=y5.getD 0 0:=(by cases y5<;>rfl);rw[e];exact this
 rw[ol,h.blocks,h.list,G];dsimp only;rw[if_pos];exact⟨(EG _ _ _ _).2 ⟨fun x u=>⟨by have:=h.ok.nD x u;omega,(h.ok.nD x u).2,fun I=>h.ok.J3 x I u⟩,h.ok.cX⟩,h.Q1.symm⟩
def ph.open(h:ph D s y5 numbers):mQ D=(some (iq s y5 numbers 1 false numbers),0):=by have u:=Cr h.down (n:=0) ⟨oM,by have:=h.size;omega⟩;have E:=Cr h.down (n:=1) ⟨oM,by have:=h.size;omega⟩;have G:s.2.getD 0 0=(D.Q6.length:Int):=h.blocks;rw[mQ,u,E,h.tO,if_neg oL,if_neg oL,if_neg oL,if_neg (by rw[G];simp),h.load]
def uk{α:Type}{enc:α->List Value}{P:Program}{s:Sl}{l:List α}{tx e':TypeId}(h:ed enc k S w s l)(E:∀x,(enc x).length=k)(G:∀x,∀u∈enc x,u.oneCell'=true)(J:P.underlying tx=some (.slice e')): Src P k tx s.v s.len (l.flatMap enc) w:=by
 obtain⟨a,len,cap⟩:=s;have I:=h.1;simp only at I;cases a with
 | none=>
  have:l=[]:=by rcases h.2.2 with h|⟨b,o,cs,T,fr,R,_⟩;exact h;cases R
  subst this;simp at I;subst I;exact .ofNil w J cap
 | some a=>
  refine .ofSlice w J a len cap _ (by rw[qs E,I]) (h.cells E rfl) fun u U=>?_;obtain⟨x,_,V⟩:=yK.1 U;exact G x u V
def CZ{s src:Sl}{ys:List Int}{B:List Nat}{K:Sl->WP}(h:lc w s l B)(R:Rd S w src ys)(hl:l.length+ys.length<=1000000)(V:∀G B' w',lc w' G (l++ys) B'->Fr B w w'->(∀b∈B',b∈B\/w.heap.size<=b)->K G w'): Pt.run di ((Builtin.append_ #[172,172] 172 #[s.v,src.v]).run prog w) K:=by obtain⟨i,hi,hz,I,J⟩:=vU;have E:=R.1;refine eP.j1 (e:=63) h qZ oK hi hz I rfl (uk (e':=63) R qZ (fun x u U=>by simp at U;subst U;rfl) oK) E (by rw[J];omega) oJ fun G B' w' b' f' n' _=>V G B' w' b' f' n'
def v8(h:D.Ok)(n:Int):eH (eA D n).1/\(eA D n).1.length<=512:=by
 have J:eH (zs 512):=eH.zs 512;unfold eA;split;exact⟨(fun x E=>by cases E),oL⟩;split;exact⟨(fun x E=>by cases E),oL⟩;split;rename_i b R;refine⟨?_,Nat.le_of_eq b.2⟩;have:∀l:List (Int×lS),(∀x∈l,eH x.2.1)->iJ n l=some b->eH b.1:=by
  intro l;induction l with
  | nil=>intro _ h;cases h
  | cons x l ih=>
   intro I u;rw[iJ] at u;cases G:iJ n l with
   | some c=>rw[G] at u;exact ih (fun y U=>I y (zN _ U)) (by rw[G];exact u)
   | none=>
    rw[G] at u;dsimp only at u;split at u;cases u;exact I x oL;cases u
 exact this _ h.nR R;refine⟨?_,Nat.le_of_eq (D.Q6.getD n.toNat .zero).2⟩;rw[yR];cases V:D.Q6[n.toNat]? with
 | none=>exact J
 | some b=>exact h.nU b (yF V)
def qpN(h:eH l)(n:Int):eH (eU n l).2.1/\(eU n l).2.1.length<=l.length:=by
 have u:eH ([]:List Int):=fun x E=>by cases E
 unfold eU;split;exact⟨u,oL⟩;split;exact⟨u,oL⟩;split;exact⟨u,oL⟩;split;exact⟨u,oL⟩;split;exact⟨u,oL⟩;refine⟨(h.take _).drop _,?_⟩;rw[yC,yL];omega
abbrev MIT:TypeId:=271
def qz5:prog.underlying MIT=some (.map 63 3):=by kernel_rfl
def qAB:∀w,(zeroValue 3).run prog w=.ok (.i 0) w:=fun w=>by kernel_rfl
def ll (l:List Int):List (Int×Value):=l.map fun n=>(n,.i 1)
def EI(n:Int):∀l:List Int,(n∈l->∃i,look n (ll l)=some (i,.i 1))/\(n∉l->look n (ll l)=none)
 | []=>⟨(fun h=>by cases h),fun _=>rfl⟩
 | a::l=>by
  obtain⟨I,J⟩:=EI n l;simp only[ll,xO,look];by_cases h:n=a;rw[if_pos h];exact⟨fun _=>⟨0,rfl⟩,fun R=>absurd (by rw[h];simp) R⟩;rw[if_neg h];refine⟨fun u=>?_,fun u=>?_⟩;rcases zG.1 u with e|u;exact absurd e h;obtain⟨i,G⟩:=I u;unfold ll at G;exact⟨i+1,by rw[G];rfl⟩
  have:=J (fun E=>u (zN _ E))
  unfold ll at this;rw[this];rfl
def qrx{r:Nat}{K:Int->Prop}(h:jc jt w r (ll Q5))(k:∀x:Int,decide (x>0)=decide (n∈Q5)->K x): eX [gX.one .i] (fun w'=>(Instr.lookup MIT (.map (some r)) (.u n) false).run prog w') w K:=by
 have:=CJ (P:=prog) qz5 qAB uS h.at n
 rw[xo] at this;obtain⟨E,G⟩:=EI n Q5;by_cases hn:n∈Q5;obtain⟨i,I⟩:=E hn;rw[I] at this;exact ru (ts:=[gX.one .i]) (1:Int) this (k 1 (by simp[hn]));rw[G hn] at this;exact ru (ts:=[gX.one .i]) (0:Int) this (k 0 (by simp[hn]))
def qpZ{u:Sl}(E:j9.2.length=27):dS (fj db j9 sl sn x6 Q3 wk) 29 [u.v]=fj db j9 u sn x6 Q3 wk:=by
 have h:=sq (db:=db) E
 have:=tQ (A:=(Value.pointer db::eT j9.1 j9.2)) (X:=[sl.v]) (Y:=[u.v]) (Z:=sn.v::.i x6::.bool Q3::wk) rfl
 rw[h] at this;simpa[fj] using this
def qp0{u:Sl}(E:j9.2.length=27):dS (fj db j9 sl sn x6 Q3 wk) 30 [u.v]=fj db j9 sl u x6 Q3 wk:=by
 have h:((Value.pointer db::eT j9.1 j9.2)++([sl.v]:List Value)).length=30:=by rw[zF,sq E];rfl
 have:=tQ (A:=(Value.pointer db::eT j9.1 j9.2)++([sl.v]:List Value)) (X:=[sn.v]) (Y:=[u.v]) (Z:=.i x6::.bool Q3::wk) rfl
 rw[h] at this;simpa[fj] using this
def qjQ:gI (fu l):=by unfold fu oq;exact Dt _ _ _
def qu1(l:List Int):gI (ik l).1:=by unfold ik;split;constructor<;>decide;split;constructor<;>decide;split;exact qjQ;constructor<;>decide
def qu2(l:List Int):(ik l).2.1.length<=123:=by unfold ik;split;simp;split;simp;rename_i h;split;simp only[jZ,zK,length_range];omega;simp
structure EN (w:World) (FD:List Nat) (pb r:Nat) (db:Option Addr) (j9:nJ) (x6:Int) (Q3:Bool) (wk:List Value) (a:Int) (Q5 Q9:List Int) (w':World) (sl sn:Sl) (B1 B2:List Nat):Prop where
 own:dQ [pb] w w' [(pb,.cells (fj db j9 sl sn x6 Q3 wk) rP (0,0))]
 b1:lc w' sl Q5 B1
 b2:lc w' sn Q9 B2
 map:jc jt w' r (ll Q5)
 n1:∀ b∈B1,w.heap.size<=b/\b≠r/\b∉B2
 n2:∀ b∈B2,w.heap.size<=b/\b≠r
 nr:w.heap.size<=r
 at_:gI a
 nodup:Q5.Nodup
 range:∀ x∈Q5,2<=x/\x<j9.2.getD 0 0
 len:Q9.length<=123*Q5.length
def qxk{K:Bool->WP}(hc:w.heap[pb]?=some (.cells (fj (pW dbk) j9 dG dG x6 Q3 wk) rP (0,0)))(U:j9.2.length=27)(hw:wk.length=27)(hd:eQ w dbk FD D)(hD:D.Ok)(hv:Hv w)(bb:pb∉FD)(bc:pb≠HG)(bU:j9.2.getD 0 0<=4096)(bd:gI (j9.2.getD 1 0))(bV:gI (j9.2.getD 2 0))(aa:ol D j9=none->∀w',Fr [pb] w w'->K false w')(hk:∀sl sn u Q9 w',ol D j9=some (u,Q9)->dQ [pb] w w' [(pb,.cells (fj (pW dbk) j9 sl sn x6 Q3 wk) rP (0,0))]->(∀G:List Nat,(∀b∈G,b<w.heap.size)->Rd G w' sl u/\Rd G w' sn Q9)->K true w'): cW 145 [dF pb] dk w K:=by
 have bK:=eV hc;have ho:dQ [pb] w w [(pb,.cells (fj (pW dbk) j9 dG dG x6 Q3 wk) rP (0,0))]:=⟨by simpa using hc,oL,.refl _ _,oL⟩;refine qjr<|oB ho fun r w1 e1 f1 ad=>?_;have ap:jc jt w1 r (ll []):=.empty (ad.at (i:=0) rfl);have ad:=ad.sub (L':=[(pb,_)]) (List.Sublist.cons _ (List.Sublist.refl _));refine fG (oA ad 0 rfl (j9.2.getD 1 0) (Dv U 1 oM) ?_);have aG:∀ {w':World},Fr [pb] w w'->eQ w' dbk FD D:=fun f=>hd.q8 f fun b I=>by simp only[zE];rintro rfl;exact bb I
 have half:∀ {w':World},Fr [pb] w w'->Hv w':=fun f=>hv.q8 f (by simpa using fun e=>bc e.symm);generalize bf:(j9.2.getD 0 0).toNat+1=F0;have J:ol D j9=match md D (j9.2.getD 0 0) F0 (j9.2.getD 1 0) [] [] with|none=>none|some x=>if kz (j9.2.getD 0 0) x.1 0 x.2=true/\(x.2.length:Int)=j9.2.getD 2 0 then some x else none:=by rw[<- bf];rfl
 refine je (fun a w'=>∃u Q9 sl sn B1 B2 f,EN w FD pb r (pW dbk) j9 x6 Q3 wk a u Q9 w' sl sn B1 B2/\f+u.length=F0/\md D (j9.2.getD 0 0) f a u Q9=md D (j9.2.getD 0 0) F0 (j9.2.getD 1 0) [] [])
  (fun a w'=>match w'.heap[r]? with|some (.map es _)=>F0-es.size|_=>0) ⟨[],[],dG,dG,[],[],F0,⟨ad,.nil _ _ _,.nil _ _ _,ap,oL,oL,by rw[e1];exact zM _,bd,.nil,oL,oL⟩,rfl,rfl⟩ ?_
 rintro a w2 ⟨u,Q9,sl,sn,B1,B2,f,H,hf,E⟩ X hX;have bL:u.length<F0:=by rcases C9 H.nodup H.range with h|h;omega;rw[h];simp;omega
 obtain⟨f,rfl⟩:∃g,f=g+1:=⟨f-1,oJ⟩;have aH:=H.own.fr;apply dV<;>intro aq;have ar:a≠0:=(oP aq);rw[md,if_neg ar] at E;refine hU (fun b w'=>b=decide (a<2\/a>=j9.2.getD 0 0\/a∈u)/\w'=w2) ?_ ?_;refine dV (fun h=>⟨by rw[yA (Or.inl (zC h))],rfl⟩) (fun h=>?_);have h1:=zB h;refine fG (oA H.own 0 rfl (j9.2.getD 0 0) (Dv U 0 oM) ?_);refine dV (fun h=>⟨by rw[yA (Or.inr (Or.inl (zC h)))],rfl⟩) (fun h=>?_);have h2:=zB h;refine qrx H.map fun x hx=>⟨?_,rfl⟩;rw[hx];refine decide_eq_decide.2 ⟨fun h=>.inr (.inr h),fun h=>?_⟩;rcases h with h|h|h;exact absurd h h1;exact absurd h h2;exact h;rintro b w3 ⟨rfl,rfl⟩;apply dV<;>intro h;have h:=zC h;rw[if_pos h] at E;exact aa (by rw[J,<- E]) w3 aH;have aj:=zB h;rw[if_neg aj] at E;have bi:2<=a:=oJ;have bj:a<j9.2.getD 0 0:=oJ;have aI:a∉u:=fun h=>aj (.inr (.inr h));obtain⟨o,hr,hm⟩:=GK (v:=.i 1) qz5 H.map a;refine C3 _ hr ?_;have au:gQ a (.i 1) (ll u)=ll (u++[a]):=by rw[gQ,(EI a u).2 aI];simp[ll]
 rw[au] at hm;have aJ:=H.map.lt;have fm:Fr [r] w3 (gW w3 r o):=ww aJ o;have aK:r≠pb:=(by have:=H.nr;omega);have af:=H.own.q8 fm (fun b I=>by simp only[zE] at I;subst I;exact .inr H.nr) (fun p hp=>by simp at hp;subst hp;simpa using fun e=>aK e.symm);have av:=H.b1.q8 fm (fun b I=>by simpa using (H.n1 b I).2.1);have aL:=H.b2.q8 fm (fun b I=>by simpa using (H.n2 b I).2);generalize gW w3 r o=w4 at hm fm af av aL;refine fG (oA af 0 rfl (pW dbk) qAt ?_);rw[gq a oJ];refine DG (aG af.fr) hD fun s5 B5 w5 b5 f5 n5=>?_;have aw:=af.q7 f5;apply dV<;>intro h;have h:(eA D a).2≠0:=(oP h);rw[if_pos h] at E;exact aa (by rw[J,<- E]) w5 aw.fr;have h:¬(eA D a).2≠0:=(oP h);rw[if_neg h] at E;refine GL (b5.jw lr (S:=[]) oL) (half aw.fr) (v8 hD a).1 (by have:=(v8 hD a).2;omega) fun s6 B6 w6 b6 f6 n6=>?_;have aN:=aw.q7 f6;refine hU (fun b w'=>b=decide ((eU a (eA D a).1).2.2≠0\/(eU a (eA D a).1).1≠2)/\w'=w6) ?_ ?_;apply dV<;>intro h;have h:(eU a (eA D a).1).2.2≠0:=(oP h);exact⟨by rw[yA (Or.inl h)],rfl⟩;have h:(eU a (eA D a).1).2.2=0:=(oP h);refine⟨?_,rfl⟩;by_cases h2:(eU a (eA D a).1).1=2<;>simp[h,h2];rintro b bm ⟨rfl,rfl⟩;apply dV<;>intro h;have h:=zC h;rw[if_pos h] at E;exact aa (by rw[J,<- E]) bm aN.fr;have h:=zB h;rw[if_neg h] at E;have aO:=qpN (v8 hD a).1 a;refine qvx (b6.jw lr (S:=[]) oL) aO.1 (by have:=aO.2;have:=(v8 hD a).2;omega) fun s7 B7 w7 b7 f7 n7=>?_;have aP:=aN.q7 f7;apply dV<;>intro h;have h:(ik (eU a (eA D a).1).2.1).2.2≠0:=(oP h);rw[if_pos h] at E;exact aa (by rw[J,<- E]) w7 aP.fr;have h:¬(ik (eU a (eA D a).1).2.1).2.2≠0:=(oP h);rw[if_neg h] at E;have bn:=qu2 (eU a (eA D a).1).2.1;have aQ:=qu1 (eU a (eA D a).1).2.1;generalize ik (eU a (eA D a).1).2.1=pv at E b7 bn aQ;have bo:=(f5.trans f6).trans f7;have bp:=H.len;have bq:u.length<=4096:=oJ;have R:=aP.drew;have ag:Fr [] w4 w7.drew:=bo.drew;have ax:=av.q7 ag;have ay:=aL.q7 ag;have aR:=hm.q8 ag oL;have aT:=b7.q7 ((Fr.refl [] w7).drew);have l7:∀b∈B7,w4.heap.size<=b:=fun b I=>zL (f5.trans f6).size (n7 b I);have cf:r<w4.heap.size:=hm.lt;generalize w7.drew=wd at R ag ax ay aR aT;refine fG (oA R 0 rfl sl (wm U 0 oM) ?_);refine fG (oA R 0 rfl sn (wm U 1 oM) ?_);refine oB R fun rn w8 e8 f8 ah=>jU (ah.cell 1 rfl (wm U 1 oM)) (ah.cell 1 rfl (wm U 0 oM)) ?_;have aW:Rd [] w8 ⟨pW rn,1,1⟩ [a]:=by
  refine⟨rfl,zM _,.inr ⟨rn,0,_,_,_,rfl,ah.at (i:=0) rfl,oL,fun i x hx=>?_⟩⟩;match i with
  | 0=>simp at hx;subst hx;rfl
  | i+1=>simp at hx
 refine CZ (s:=sl) (src:=⟨pW rn,1,1⟩) (ax.q7 f8) aW oO fun s9 B9 w9 b9 f9 n9=>?_;have cg:∀b∈B1,b<wd.heap.size:=fun b I=>ax.lt b I;have bz:∀b∈B2,b<wd.heap.size:=fun b I=>ay.lt b I;have bA:wd.heap.size<=w8.heap.size:=f8.size;have ch:w4.heap.size<=wd.heap.size:=ag.size;have ci:w.heap.size<=w4.heap.size:=af.fr.size;have aY:=(ah.sub (L':=[(pb,_)]) (List.Sublist.cons _ (List.Sublist.refl _))).q8 f9 (fun b I=>.inr (H.n1 b I).1) (fun p hp I=>by simp at hp;subst hp;have:=(H.n1 _ I).1;dsimp only at this;omega);refine ig (aY.cell 0 rfl (wm U 1 oM)) ?_;have bB:=(ay.q7 f8).q8 f9 (fun b I az=>(H.n1 b az).2.2 I);have bC:Rd [] w9 s7 pv.2.1:=((aT.q7 f8).q8 f9 (fun b I az=>by have:=l7 b I;have:=av.lt b az;omega)).jw qZ oL;refine CZ bB bC oJ fun aZ aA cj bD aB a0=>?_;have bQ:wd.heap.size<=w9.heap.size:=zL bA f9.size;have a1:=aY.q8 aB (fun b I=>.inr (H.n2 b I).1) (fun p hp I=>by simp at hp;subst hp;have:=(H.n2 _ I).1;dsimp only at this;omega);have ac:∀b∈B9,w.heap.size<=b/\b≠r/\b∉B2/\b<w9.heap.size:=fun b I=>by refine⟨?_,?_,?_,b9.lt b I⟩;rcases n9 b I with h|h;exact (H.n1 b h).1;omega;rcases n9 b I with h|h;exact (H.n1 b h).2.1;omega;rcases n9 b I with h|h;exact (H.n1 b h).2.2;intro h2;have:=bz b h2;omega
 have al:∀b∈aA,w.heap.size<=b/\b≠r:=fun b I=>by rcases a0 b I with h|h;exact H.n2 b h;constructor<;>omega
 have a2:=b9.q8 aB (fun b I h2=>(ac b I).2.2.1 h2);have bE:∀b∈B9,b∉aA:=fun b I bF=>by
  rcases a0 b bF with h|h;exact (ac b I).2.2.1 h
  have:=(ac b I).2.2.2;omega
 refine fG (oG a1 0 rfl (fj (pW dbk) j9 s9 sn x6 Q3 wk) (qpZ U) rfl (by rw[ut U,hw];exact zO rfl) fun ck a3 bG=>?_);refine fG (oG a3 0 rfl (fj (pW dbk) j9 s9 aZ x6 Q3 wk) (qp0 U) rfl (by rw[ut U,hw];exact zO rfl) fun cl a4 bH=>?_);have V:=bG.trans bH;have aC:∀b,w.heap.size<=b->b∉[pb]:=fun b I=>by simp;omega
 have am:=(((aR.q8 f8 oL).q8 f9 (fun h=>(H.n1 r h).2.1 rfl)).q8 aB (fun h=>(H.n2 r h).2 rfl)).q8 V (aC r H.nr);refine hX _ _ ⟨u++[a],Q9++pv.2.1,s9,aZ,B9,aA,f,⟨a4,a2.q8 V (fun b I=>aC b (ac b I).1),bD.q8 V (fun b I=>aC b (al b I).1),am,fun b I=>⟨(ac b I).1,(ac b I).2.1,bE b I⟩,al,H.nr,aQ,?_,?_,?_⟩,?_,E⟩ ?_;rw[yM];exact⟨H.nodup,oL,fun x hx y hy=>by simp at hy;subst hy;exact fun e=>aI (e▸hx)⟩;intro x hx;rcases zD.1 hx with h|h;exact H.range x h;simp at h;subst h;exact⟨bi,bj⟩;rw[zF,zF];have:[a].length=1:=rfl;omega;rw[zF];have:[a].length=1:=rfl;omega;have key:∀ {w':World} {l:List Int},jc jt w' r (ll l)->(match w'.heap[r]? with|some (.map es _)=>F0-es.size|_=>0)=F0-l.length:=by
  rintro w' l ⟨es,c,h1,h2,_⟩;rw[h1]
  have:=congrArg List.length h2
  simp[ll] at this;simp[this]
 rw[key am,key H.map,zF];have:[a].length=1:=rfl;omega;have ar:a=0:=(oP aq);subst ar;rw[md,if_pos rfl] at E;rw[<- E] at J;dsimp only at J;refine fG (oA H.own 0 rfl sn (wm U 1 oM) ?_);have rn:Rd [] w2 sn Q9:=H.b2.jw qZ oL;have cm:=rn.1;have bp:=H.len;have bq:u.length<=4096:=oJ;refine je (fun x w'=>w'=w2/\∃i:Nat,x.2=i/\i<=Q9.length/\kz (j9.2.getD 0 0) u x.1 (Q9.drop i)=kz (j9.2.getD 0 0) u 0 Q9) (fun x _=>((Q9.length:Int)-x.2).toNat) ⟨rfl,0,rfl,oJ,rfl⟩ ?_;rintro⟨a5,ii⟩ w' ⟨rfl,i,a6,hi,hn⟩ Z hZ;simp only at a6 hn;subst a6;apply cD<;>intro hc;have a7:i<Q9.length:=(by have:=hc;dsimp only at this;omega);refine Rd.at rn i rfl (zA a7) ?_;rw[zY a7,kz] at hn;refine hU (fun b w3=>b=(decide (Q9[i]<=a5)||decide (Q9[i]>=j9.2.getD 0 0)||decide (Q9[i]∈u))/\w3=w') ?_ ?_;refine dV (fun h=>⟨by rw[h];rfl,rfl⟩) fun h=>fG (oA H.own 0 rfl (j9.2.getD 0 0) (Dv U 0 oM) ?_);refine dV (fun h2=>⟨by rw[h,h2];rfl,rfl⟩) fun h2=>qrx H.map fun x hx=>⟨?_,rfl⟩;rw[hx,h,h2];rfl;rintro b w3 ⟨rfl,rfl⟩;apply dV<;>intro h;rw[h] at hn;refine aa ?_ w3 aH;rw[J,if_neg];rw[<- hn];simp;rw[h] at hn;rw[gq _ oN];exact hZ _ _ ⟨rfl,i+1,oL,oJ,by simpa using hn⟩ oN;have:i=Q9.length:=(by have:=hc;dsimp only at this;omega);subst this;rw[drop_length] at hn;have bI:kz (j9.2.getD 0 0) u 0 Q9=true:=hn.symm;have R:=H.own.drew;refine fG (oA R 0 rfl sn (wm U 1 oM) ?_);refine fG (oA R 0 rfl (j9.2.getD 2 0) (Dv U 2 oM) ?_);rw[gq _ oJ];by_cases hfree:(Q9.length:Int)=j9.2.getD 2 0;rw[if_pos ⟨bI,hfree⟩] at J;have e:((sn.len:Int)==j9.2.getD 2 0)=true:=(by rw[yP];omega);rw[e];refine hk sl sn u Q9 _ J R fun G hG=>?_;have ao:∀b,w.heap.size<=b->b∉G:=fun b I h=>by have:=hG b h;omega
 exact⟨(H.b1.q7 ((Fr.refl [] w').drew)).jw qZ fun b I=>ao b (H.n1 b I).1,(H.b2.q7 ((Fr.refl [] w').drew)).jw qZ fun b I=>ao b (H.n2 b I).1⟩;have e:((sn.len:Int)==j9.2.getD 2 0)=false:=(by rw[zR];omega);rw[e];exact aa (by rw[J,if_neg (fun h=>hfree h.2)]) _ R.fr
def qlr{s:Sl}(h:eE S w s l):(Extern.Bytes.bytesOf (.slice s.a s.len s.cap)).run prog w=.ok ⟨(Lib.bytesOf l).toArray⟩ w:=by
 have hlen:=h.1;cases ha:s.a with
 | none=>
  have hl0:l=[]:=by rcases h.2.2 with h3|⟨b,o,cs,T,fr,ha',_⟩;exact h3;rw[ha] at ha';cases ha'
  subst hl0;rfl
 | some a=>
  have hc:=h.cells lr ha
  have:=Lib.run_loadBytesX (P:=prog) w l a .empty (fun j x hj=>hc j (.int .u8 x) (by rw[rx,zQ,hj];rfl))
  rw[hlen];show (Extern.Bytes.loadBytes a l.length .empty).run prog w=_;rw[this];have e:(#[]:Array UInt8)++(Lib.bytesOf l).toArray=(Lib.bytesOf l).toArray:=oL;exact congrArg (fun d=>Result.ok (ByteArray.mk d) w) e
def qgp:∀ {a b:List Int},eH a->eH b->Lib.compareBytes (Lib.bytesOf a) (Lib.bytesOf b)=cmpL a b
 | [],[],_,_=>rfl
 | [],y::b,_,_=>rfl
 | x::a,[],_,_=>rfl
 | x::a,y::b,J,R=>by
  have E:=J x oL;have G:=R y oL;have ih:=qgp (a:=a) (b:=b) (fun z I=>J z (zN _ I)) (fun z I=>R z (zN _ I));have e:∀ {u v:Int},(0<=u/\u<256)->(0<=v/\v<256)->(u.toNat.toUInt8<v.toNat.toUInt8↔u<v):=fun {u v} U V=>by rw[UInt8.lt_iff_toNat_lt];simp;omega
  show (if x.toNat.toUInt8<y.toNat.toUInt8 then (-1:Int) else if y.toNat.toUInt8<x.toNat.toUInt8 then 1 else Lib.compareBytes (Lib.bytesOf a) (Lib.bytesOf b))=cmpL (x::a) (y::b);rw[cmpL,ih];by_cases h1:x<y;rw[if_pos ((e E G).2 h1),if_pos h1];rw[if_neg (fun h=>h1 ((e E G).1 h)),if_neg h1];by_cases h2:y<x;rw[if_pos ((e G E).2 h2),if_pos h2];rw[if_neg (fun h=>h2 ((e G E).1 h)),if_neg h2]
def qsE{S':List Nat}{s u:Sl}(h:eE S w s l)(G:eE S' w u l')(I:eH l)(E:eH l'): (Extern.BytealgCompare.compare #[s.v,u.v]).run prog w=.ok (.i (cmpL l l')) w:=by show Sem.run prog (do pure (goInt (Extern.BytealgCompare.cmp (<- Extern.Bytes.bytesOf s.v) (<- Extern.Bytes.bytesOf u.v)))) w=_;have e:=qgp I E;simp only[Sem.run_bind,qlr h,Result.andThen_ok,qlr G,Lib.cmp_eq];rw[e];rfl
def BE{S':List Nat}{s E:Sl}(h:eE S w s l)(G:eE S' w E l')(I:eH l)(u:eH l')(J:K (cmpL l l') w): cW 116 [s.v,E.v] dj w K:=by exact quS<|qmg<|CE (e:=Extern.BytealgCompare.compare) Tryz.func185 oK oK oK oK (cmpL l l') w (qsE h G I u) J
def gx (s:Sl):List Value:=[s.v]
def vr(s:Sl):(gx s).length=1:=rfl
def qv6(s:Sl):∀u∈gx s,u.oneCell'=true:=fun u h=>by rw[zE.1 h];rfl
abbrev py:=List (Sl×Key)
abbrev iy (ps:py):List Sl:=ps.map (·.1)
abbrev gf (ps:py):List Key:=ps.map (·.2)
def js (S:List Nat) (w:World) (s:Sl) (ps:py):Prop:=ed gx 1 S w s (iy ps)/\∀p∈ps,eE S w p.1 p.2
def js.q8{S S':List Nat}{w w':World}{s:Sl}{ps:py}(h:js S w s ps)(f:Fr S w w')(u:∀b∈S',b∈S\/w.heap.size<=b):js S' w' s ps:=⟨h.1.q8 f u,fun p E=>(h.2 p E).q8 f u⟩
def js.q7{S:List Nat}{w w':World}{s:Sl}{ps:py}(h:js S w s ps)(f:Fr [] w w'):js S w' s ps:=⟨h.1.q7 f,fun p u=>(h.2 p u).q7 f⟩
def js.len{S:List Nat}{w:World}{s:Sl}{ps:py}(h:js S w s ps):s.len=ps.length:=by rw[h.1.1,zK]
def js.nil(S:List Nat)(w:World):js S w dG []:=⟨.nil _ _ _ _,fun p h=>nomatch h⟩
def js.get{S:List Nat}{w:World}{s:Sl}{ps:py}(h:js S w s ps)(n:Nat){i:Int}{K:Sl->Prop}(hi:i=n)(u:n<ps.length)(E:K ps[n].1):idx s i 1 fun a=>ld .slice a w K:=
 ed.get h.1 n hi (x:=ps[n].1) (by rw[zQ,zA u];rfl) (y:=ps[n].1) rfl E
def andThen_ok:andThen (D,0) f=f D:=if_pos rfl
structure kS (s:nJ):Prop where
 seq:0<=s.1/\s.1<4611686018427387904
 len:s.2.length=27
 u32:∀ x∈s.2,gI x
def kS.place(h:kS s):Int.tmod s.1 2=s.1%2:=Int.tmod_eq_emod_of_nonneg h.seq.1
def kS.gH{s:nJ}(h:kS s):gH s=(s.1%2,eC (s.1%2) 1 (gy s.1 s.2)):=by rw[Go.Proofs.YtpcmehldpoljfaaGreatDoor.gH,h.place,nX _ oJ]
def kS.read(h:kS s):eZ (s.1%2) (eC (s.1%2) 1 (gy s.1 s.2))=(s,0):=by
 have:=h.seq
 exact qs3 (by constructor<;>omega) h.len h.u32 h.place
def kS.uN(h:kS s)(p:Int):(eC p 1 (gy s.1 s.2)).length=512:=wU (by rw[yo h.len];decide)
def eO.t5(h:eO D)(E:kS s)(hz:8<=D.size): ∃D',jE D s=(D',0)/\eO D'/\D'.size=D.size/\D'.Q7=[]/\view D' (s.1%2)=eC (s.1%2) 1 (gy s.1 s.2)/\∀m,0<=m->m≠s.1%2->view D' m=view D m:=by obtain⟨D1,e1,J,R,G⟩:=h.write (n:=s.1%2) (l:=eC (s.1%2) 1 (gy s.1 s.2)) oJ (E.uN _);obtain⟨U,V,q2,s2,w2,I⟩:=J.sync;refine⟨U,?_,q2,s2.trans R,w2,by rw[I _ oJ,G,if_pos rfl],fun m hm u=>by rw[I m hm,G,if_neg u]⟩;rw[jE,E.gH];show andThen (en D (s.1%2) _) fY=_;rw[e1];exact V
def qs4{p:Int}:(eZ p (zs 512)).2≠0:=by have u:(eU p (zs 512)).1=0:=(by unfold eU;split<;>(try rfl);split<;>(try rfl);split<;>(try rfl);split<;>(try rfl);split<;>rfl);unfold eZ;generalize eU p (zs 512)=o at u⊢;by_cases h:o.2.2≠0;rw[if_pos h];exact h;have E:o.1≠1\/o.2.1.length≠116:=.inl (by rw[u];decide);rw[if_neg h,if_pos E];exact (by decide:(2:Int)≠0)
def qti{n i:Nat}(h:i<n-2):(fB n)[i]?=some ((i:Int)+2):=by rw[fB,zQ,List.getElem?_range h];rfl
def Ai(n:Nat):(fB n).length=n-2:=by simp[fB]
def xu{n:Nat}{x:Int}:x∈fB n↔2<=x/\x<n:=by rw[fB,mem_map];constructor;rintro⟨i,h,rfl⟩;rw[mem_range] at h;omega;rintro⟨u,E⟩;exact⟨(x-2).toNat,by rw[mem_range];omega,oJ⟩
def CT(n:Nat):(fB n).Pairwise (· < ·):=by rw[fB,pairwise_map];exact pairwise_lt_range.imp (fun h=>oJ)
def Fx{n:Nat}:n<=124*eJ n:=by
 unfold eJ;split;omega
 have:=Nat.div_add_mod (n-1) 124
 have:=Nat.mod_lt (n-1) (show 0<124 by decide)
 omega
def EO{n:Nat}:eJ n<=n:=by
 unfold eJ;split;omega
 have:=Nat.div_le_self (n-1) 124
 omega
def qnh{n:Nat}:lA n ((fB n).drop (eJ (fB n).length)) ((fB n).take (eJ (fB n).length)) where
 cX:=(CT n).sublist (drop_sublist _ _)
 nD:=fun x u=>xu.1 (yU u)
 rA:=fun x u=>xu.1 (yV u)
 nodup:=(xm (CT n)).sublist (take_sublist _ _)
 J3:=fun x u E=>by have h:=xm (CT n);rw[<- xE (eJ (fB n).length) (fB n),yM] at h;exact h.2.2 x u x E rfl
 room:=by have I:=Fx (n:=(fB n).length);have G:=EO (n:=(fB n).length);rw[yC,yL,xR G];omega
def E9{n:Nat}(u:8<=n)(E:n<=4096):kS (kC n) where
 seq:=⟨(by decide:(0:Int)<=1),(by decide:(1:Int)<4611686018427387904)⟩
 len:=rfl
 u32:=fun x h=>by
  simp only[kC,zD,zG,xX,or_false] at h;rcases h with (rfl|rfl|rfl)|h;exact vK _;exact⟨oM,oM⟩;exact vK _
  have:=eq_of_mem_replicate h
  subst this;exact⟨oM,oM⟩
def qro{n:Nat}(h:eO D)(hn:D.size=n)(h8:8<=n)(h4:n<=4096): ∃D',lz D=(D',0)/\eO D'/\D'.size=n/\D'.Q7=[]/\ph D' (kC n) ((fB n).take (eJ (fB n).length)) ((fB n).drop (eJ (fB n).length))/\view D' 0=zs 512:=by
 have an:D.Q6.length=n:=(by have:(D.Q6.length:Int)=n:=hn;omega);obtain⟨D1,e1,q1,s1,v1⟩:=h.write (n:=0) (l:=zs 512) oJ (pA _);obtain⟨D2,e2,q2,s2,v2⟩:=q1.write (n:=1) (l:=zs 512) oJ (pA _);obtain⟨R,e3,q3,s3,w3,v3⟩:=q2.sync;have E:R.size=n:=oJ;have U:R.Q6.length=n:=(by have:(R.Q6.length:Int)=n:=E;omega);have u:=qnh (n:=n);rw[<- E] at u;obtain⟨V,e4,q4,s4,w4,l4,v4⟩:=q3.spread u;have aa:V.size=n:=oJ;have ab:V.Q6.length=n:=(by have:(V.Q6.length:Int)=n:=aa;omega);obtain⟨D5,e5,q5,s5,w5,p5,v5⟩:=q4.t5 (E9 h8 h4) oJ;have G:(kC n).1%2=1:=rfl;rw[G] at p5 v5;have I:=u.rA;have z0:view D5 0=zs 512:=(by rw[v5 0 oM oM,v4 0 oM (fun hm=>by have:=I 0 hm;omega),v3 0 oM,v2,if_neg oM,v1,if_pos rfl]);refine⟨D5,?_,q5,oJ,w5,?_,z0⟩;rw[lz,e1,andThen_ok,e2,andThen_ok,e3,andThen_ok,U,e4,andThen_ok,ab,e5];have aF:1<=eJ (fB n).length:=by
  have:=Fx (n:=(fB n).length)
  rw[Ai] at this⊢;omega
 refine { down:=q5.down,size:=by omega,tO:=?_,blocks:=?_,list:=?_,Q1:=?_,ok:=by rw[show D5.size=R.size by omega];exact u,listed:=fun i p hp=>?_ };have hr:=(E9 h8 h4).read;rw[G] at hr;rw[z0,p5,gS,hr,if_neg oL,if_pos (.inl qs4)];show wrap .u32 (n:Int)=_;rw[nX _ oJ];omega;have:(fB n).take (eJ (fB n).length)=2::((fB n).take (eJ (fB n).length)).drop 1:=by
  have J:(fB n)[0]?=some 2:=(by rw[qti oJ];rfl);obtain⟨k,hk⟩:∃k,eJ (fB n).length=k+1:=⟨eJ (fB n).length-1,oJ⟩;rw[hk];cases hA:fB n with
  | nil=>rw[hA] at J;cases J
  | cons a r=>rw[hA] at J;simp at J;subst J;rfl
 rw[this];rfl;show wrap .u32 _=_
 have:=EO (n:=(fB n).length)
 rw[yC,nX _ (by rw[Ai] at *;omega)];omega
 have:=I p (yF hp)
 rw[v5 p oJ oJ];exact l4 i p hp
def quZ(n:Nat):eO (m8 n):=⟨rfl,rfl,fun x h=>by cases h⟩
def qwE(n:Nat):(m8 n).size=n:=by show ((List.replicate n lS.zero).length:Int)=n;simp
def qsn{w':World}{s:Sl}(h:Told w w' s l):∃B,lc w' s l B/\∀b∈B,w.heap.size<=b:=by rcases h with ⟨rfl,rfl⟩|⟨b,d,T,cap,rfl,G,R,I,J,u,E⟩;exact⟨[],.nil _ _ _,oL⟩;refine⟨[b],.inr ⟨b,0,io d,T,rfl,rfl,rfl,G,rfl,I,by rw[Al];dsimp only;omega,?_⟩,by simpa using u⟩;rw[xF,xT,io,Array.toList_map,<- xP,J,E7]
def gT (D:dI):nJ×Int:=
 if (eA D 0).2≠0 then (gC,(eA D 0).2) else if (eA D 1).2≠0 then (gC,(eA D 1).2) else gS (eA D 0).1 (eA D 1).1
def qsX(D:dI):(gT D).1.2.length=27:=by unfold gT;split;rfl;split;rfl;exact qlK _ _
def quh{K:List Value×Int->WP}(h:eQ w dbk FD D)(J:D.Ok)(hv:Hv w)(U:∀w',Fr [] w w'->K (eT (gT D).1.1 (gT D).1.2,(gT D).2) w'): cW 144 [dF dbk] dA w K:=by
 refine qnN<|oI (oE [] w) tz fun r w1 e1 E=>DG (h.q7 E.fr) J fun s2 B2 w2 b2 f2 n2=>?_;have E:=E.q7 f2;apply dV<;>intro u;have u:(eA D 0).2≠0:=(oP u);refine zq<|uj E 0 rfl rfl rfl fun R G=>?_
 have:=U R G
 rw[gT,if_pos u] at this;exact this;have I:¬(eA D 0).2≠0:=(oP u);refine DG (h.q7 E.fr) J fun s3 B3 R b3 G n3=>?_;have E:=E.q7 G;apply dV<;>intro u;have u:(eA D 1).2≠0:=(oP u);refine zq<|uj E 0 rfl rfl rfl fun R G=>?_
 have:=U R G
 rw[gT,if_neg I,if_pos u] at this;exact this;have V:¬(eA D 1).2≠0:=(oP u);have i0:=v8 J 0;have i1:=v8 J 1;refine quq ((b2.q7 G).jw lr (S:=[]) oL) (b3.jw lr (S:=[]) oL) (hv.q7 E.fr) i0.1 i1.1 oJ oJ fun w4 f4=>uj (E.q7 f4) 0 rfl rfl (qlK _ _) fun w5 f5=>?_
 have:=U w5 f5
 rw[gT,if_neg I,if_neg V] at this;exact this
def qrP(D:dI):mQ D=if (gT D).2≠0 then (none,(gT D).2) else if (gT D).1.2.getD 0 0≠D.Q6.length then (none,2) else match ol D (gT D).1 with|none=>(none,2)|some x=>(some (iq (gT D).1 x.1 x.2 1 false x.2),0):=by unfold mQ gT;by_cases h0:(eA D 0).2≠0;rw[if_pos h0,if_pos h0];exact (if_pos h0).symm;rw[if_neg h0,if_neg h0];by_cases h1:(eA D 1).2≠0;rw[if_pos h1,if_pos h1];exact (if_pos h1).symm;rw[if_neg h1,if_neg h1]<;>rfl
def pgZ:(prog.info? rP).bind (·.zero)=some (.agg (fj none gC dG dG 0 false (ia none none none (zs 24)))):=by kernel_rfl
def qxB{d:Option Addr}{q:Int}{t:List Int}(h:t.length=27)(w:World): (Instr.build rP #[(0,.pointer d),(1,.agg (eT q t).toArray)]).run prog w=.ok (.agg (fj d (q,t) dG dG 0 false (ia none none none (zs 24)))) w:=by
 refine BM (parts:=[(0,.pointer d),(1,.agg (eT q t).toArray)]) (offs:=#[(0,1),(1,28),(29,1),(30,1),(31,1),(32,1),(33,27)]) pgZ oK (fun w=>oK) ?_ w;have u:(Value.agg (eT q t).toArray).cells.size=28:=Dh h;rw[rH (o:=0) (s:=1) rfl rfl (zO rfl),rH (o:=1) (s:=28) rfl u (zO rfl)];show some _=_;congr 1;have E:dS (Value.agg (fj none gC dG dG 0 false (ia none none none (zs 24)))).cells 0 (Value.pointer d).cells.toList=fj d gC dG dG 0 false (ia none none none (zs 24)):=rfl;rw[E]
 have:=tQ (A:=[Value.pointer d]) (X:=eT 0 (zs 27)) (Y:=eT q t) (Z:=[.slice none 0 0,.slice none 0 0,.i 0,.bool false]++ia none none none (zs 24)) (by rw[pM h];rfl)
 refine Eq.trans ?_ (this.trans ?_);show dS (fj d gC dG dG 0 false (ia none none none (zs 24))) 1 (eT q t)=_;congr 1;simp[fj]
def qnW(place:Int)(l:List Int):∀x∈(eZ place l).1.2,gI x:=by
 have h:∀x∈gC.2,gI x:=fun x u=>by
  have:=eq_of_mem_replicate (show x∈List.replicate 27 (0:Int) from u)
  subst this;exact⟨oM,oM⟩
 unfold eZ;split;exact h;split;exact h;split;exact h;intro x u;obtain⟨i,_,rfl⟩:=mem_map.1 u;exact qjQ
def qsY(D:dI):∀x∈(gT D).1.2,gI x:=by
 have h:∀x∈gC.2,gI x:=fun x u=>by
  have:=eq_of_mem_replicate (show x∈List.replicate 27 (0:Int) from u)
  subst this;exact⟨oM,oM⟩
 unfold gT;split;exact h;split;exact h;unfold gS;split;exact h;split;exact qnW _ _;exact qnW _ _
def qrr(h:∀x∈l,gI x)(n:Nat):gI (l.getD n 0):=by
 rw[yR];cases u:l[n]? with
 | none=>exact⟨oM,oM⟩
 | some x=>exact h x (yF u)
def qvB{K:Option Addr×Int->WP}(X:List Nat)(av:∀b∈X,b<w.heap.size)(h:eQ w dbk FD D)(hD:D.Ok)(hv:Hv w)(am:(mQ D).1=none->∀w',Fr [] w w'->K (none,(mQ D).2) w')(hk:∀pb F M w',mQ D=(some M,0)->eF w' X pb (pW dbk) F M->Fr [] w w'->(∀b∈F,w.heap.size<=b)->K (pW pb,0) w'): cW 108 [dF dbk] dC w K:=by
 refine qqr<|quh h hD hv fun w1 f1=>?_;have U:=qsX D;have hu:=qrr (qsY D);have E:=qrP D;generalize hs:gT D=sm at U hu E;obtain⟨j9,e⟩:=sm;simp only at U hu E;refine oI ((oE [] w).q7 f1) tz fun r w2 e2 ho=>zn ho 0 rfl rfl U fun w3 ho=>?_;apply dV<;>intro V;have V:e≠0:=(oP V);rw[if_pos V] at E
 have:=am (by rw[E]) w3 ho.fr
 rw[E] at this;exact this;have ay:¬e≠0:=(oP V);rw[if_neg ay] at E;refine uF (ho.at (i:=0) rfl) U<|ru (ts:=[gX.k7]) (fj (pW dbk) (j9.1,j9.2) dG dG 0 false (ia none none none (zs 24))).toList (qxB U w3)<|oB ho fun pb w4 e4 f4 ak=>?_;have R:=ak.fr;have an:=h.q7 R;have ao:∀b∈FD,b<w4.heap.size/\b≠pb:=fun b G=>by
  have h1:=h.lt b G
  have:=R.size
  have:=ho.fr.size
  constructor<;>omega
 have al:∀b∈X,b<w4.heap.size/\b≠pb:=fun b G=>by
  have h1:=av b G
  have:=R.size
  have:=ho.fr.size
  constructor<;>omega
 have aA:=hD.Q6;have ab:w4.heap[pb]?=some (.cells (fj (pW dbk) j9 dG dG 0 false (ia none none none (zs 24))) rP (0,0)):=ak.at (i:=0) rfl;have ai:w4.heap[r]?=some (.cells (eT j9.1 j9.2).toArray 185 (0,0)):=ak.at (i:=1) rfl;have ae:w.heap.size<=pb:=(by have:=ho.fr.size;omega);have aB:pb≠HG:=(by have:=hv.lt;omega);refine hU (fun b w'=>(b=true/\(mQ D).1=none/\(mQ D).2=2/\Fr [] w w')\/(b=false/\∃sl sn I Q9,mQ D=(some (iq j9 I Q9 1 false Q9),0)/\dQ [pb] w4 w' [(pb,.cells (fj (pW dbk) j9 sl sn 0 false (ia none none none (zs 24))) rP (0,0))]/\Rd (X++[pb]) w' sl I/\Rd (X++[pb]) w' sn Q9/\Q9.Pairwise (· < ·)/\Q9.length<=100000)) ?_ ?_;refine iI (w:=w4.drew) (c:=.u) ai (j9.2.getD 0 0) (AY 0 oJ)<|Ha (an.q7 (Fr.refl [] w4).drew)<|ig (by show _=_;rw[jq (w:=w4.drew) ai];exact AY 0 oJ) ?_;rw[nX (D.Q6.length:Int) oJ];apply dV<;>intro V;have V:j9.2.getD 0 0≠(D.Q6.length:Int):=by intro h;rw[h] at V;simp at V
 rw[if_pos V] at E;exact .inl ⟨rfl,by rw[E],by rw[E],R.drew⟩;have V:j9.2.getD 0 0=(D.Q6.length:Int):=by by_cases h:j9.2.getD 0 0=(D.Q6.length:Int);exact h;rw[show ((j9.2.getD 0 0==(D.Q6.length:Int))=false) by rw[zR];exact h] at V;cases V
 rw[if_neg (by rw[V];simp)] at E;have af:Fr [] w4 w4.drew:=(Fr.refl [] w4).drew;refine qxk (pb:=pb) (D:=D) (j9:=j9) (FD:=FD) (w:=w4.drew) ab U (wR (by rfl)) (an.q7 af) hD ((hv.q7 R).q7 af) (fun G=>(ao pb G).2 rfl) aB oJ (hu 1) (hu 2) (fun hl w5 f5=>?_) (fun sl sn I Q9 w5 hl J ap=>?_);rw[hl] at E;refine .inl ⟨rfl,by rw[E],by rw[E],(R.trans af).j8 f5 fun b G=>by simp at G;subst G;exact .inr ae⟩;rw[hl] at E;have ac:kz (j9.2.getD 0 0) I 0 Q9=true:=by unfold ol at hl;split at hl;cases hl;rename_i x hx;split at hl;rename_i hh;cases hl;exact hh.1;cases hl
 have ac:=(EG _ _ _ _).1 ac;have ad:Q9.length<=100000:=by
  have:=C9 (n:=j9.2.getD 0 0+1) (l:=Q9.map (·+1)) (by
   rw[List.Nodup,pairwise_map];exact ac.2.imp (fun h=>oJ)) (fun x hx=>by
   obtain⟨y,hy,rfl⟩:=mem_map.1 hx
   have:=ac.1 y hy
   omega)
  rcases this with h|h;rw[zK] at h;omega
  have:=congrArg List.length h;simp at this;simp[this]
 have aj:∀b∈X++[pb],b<w4.drew.heap.size:=fun b G=>by rcases zD.1 G with G|G;exact (al b G).1;rw[zE.1 G];exact eV ab
 refine .inr ⟨rfl,sl,sn,I,Q9,E,⟨J.eI,J.nodup,(af.mono (fun b G=>by cases G)).trans J.fr,J.own⟩,(ap _ aj).1,(ap _ aj).2,ac.2,ad⟩;rintro b w5 (⟨rfl,h1,h2,f5⟩|⟨rfl,sl,sn,I,Q9,aD,J,r1,r2,hp,ad⟩);refine cond_true rfl ?_
 have:=am h1 w5 f5
 rw[h2] at this;exact this;refine cond_false rfl ?_;have hX:∀b∈X,b<w5.heap.size/\b≠pb:=fun b G=>⟨yD (al b G).1 J.fr.size,(al b G).2⟩;refine Fs (X:=X) (J.at (i:=0) rfl) U (wR (by rfl)) oM hX r1 r2 ad fun F w6 aq f6 n6=>?_;rw[qpu hp] at aq;refine hk pb F _ w6 aD aq ((R.j8 J.fr fun b G=>by simp at G;subst G;exact .inr ae).j8 f6 fun b G=>by simp at G;subst G;exact .inr ae) fun b G=>?_;rcases n6 b G with h|h;rw[h];exact ae;exact zL (zL R.size J.fr.size) h
structure lK (D:dI) (k:Nat):Prop where
 ok:D.Ok
 Q7:D.Q7.length<=k
 writes:D.writes<=k
def qth(h:D.Ok):(gV D).1.Ok/\(gV D).1.writes=D.writes:=by have u:=h.y6;unfold gV;split;exact⟨⟨h.at_,u,h.Q6,h.Q7,h.writes,h.nU,h.nR⟩,rfl⟩;split;exact⟨⟨h.at_,⟨by show -1<=D.y6-1;omega,by show D.y6-1<=_;omega⟩,h.Q6,h.Q7,h.writes,h.nU,h.nR⟩,rfl⟩;exact⟨h,rfl⟩
def lK.mono{u:Nat}(h:lK D k)(E:k<=u):lK D u:=⟨h.ok,zL h.Q7 E,by have:=h.writes;omega⟩
def lK.write(h:lK D k)(U:k<1000000)(G:eH l):lK (en D n l).1 (k+1):=by
 unfold en;split;exact h.mono oJ;split;exact h.mono oJ;split;rename_i V h2 E;have I:(lE D n ⟨l,E⟩).Ok:={
  at_:=fun x u=>by rcases zD.1 u with u|u;exact h.ok.at_ x u;simp at u;subst u;show 0<=n/\n<(D.Q6.length:Int);omega
  y6:=h.ok.y6
  Q6:=h.ok.Q6
  Q7:=by show (D.Q7++[_]).length<=_;have:=h.Q7;simp;omega
  writes:=⟨by show 0<=D.writes+1;have:=h.ok.writes;omega,by show D.writes+1<=_;have:=h.writes;omega⟩
  nU:=h.ok.nU
  nR:=fun x u=>by rcases zD.1 u with u|u;exact h.ok.nR x u;simp at u;subst u;exact G }
 obtain⟨J,R⟩:=qth I;refine⟨J,?_,?_⟩;show (gV (lE D n ⟨l,E⟩)).1.Q7.length<=k+1;rw[(xv _).2];show (D.Q7++[_]).length<=_
 have:=h.Q7
 simp;omega;show (gV (lE D n ⟨l,E⟩)).1.writes<=((k+1:Nat):Int);rw[R];show D.writes+1<=_
 have:=h.writes
 omega;exact h.mono oJ
def qtM:∀(l:List (Int×lS)) (s:List lS),(∀x∈l,eH x.2.1)->(∀b∈s,eH b.1)->∀b∈l.foldl fZ s,eH b.1
 | [],s,_,h=>h
 | x::l,s,E,h=>qtM l (fZ s x) (fun y G=>E y (zN _ G)) fun b u=>by rcases mem_or_eq_of_mem_set u with u|rfl;exact h b u;exact E x oL
def lK.sync(h:lK D k):lK (fY D).1 k:=by obtain⟨u,G⟩:=qth h.ok;unfold fY;split;exact h;split;exact⟨u,by show (gV D).1.Q7.length<=k;rw[(xv D).2];exact h.Q7,by show (gV D).1.writes<=_;rw[G];exact h.writes⟩;refine⟨⟨(fun x E=>by cases E),u.y6,?_,oL,u.writes,?_,(fun x E=>by cases E)⟩,oL,by show (gV D).1.writes<=_;rw[G];exact h.writes⟩;show (D.Q7.foldl fZ D.Q6).length<=4096;rw[BK];exact h.ok.Q6;exact qtM _ _ h.ok.nR h.ok.nU
def lK.then{u:Nat}(h:lK r.1 k)(E:k<=u)(G:∀D,lK D k->lK (f D).1 u):lK (andThen r f).1 u:=by unfold andThen;split;exact G _ h;exact h.mono E
def lK.sD:∀ {l:List (Int×List Int)} {D:dI} {k:Nat},lK D k->k+l.length<=1000000->(∀x∈l,eH x.2)->lK (fH l D).1 (k+l.length)
 | [],D,k,h,_,_=>h
 | x::l,D,k,h,E,u=>by
  rw[yI] at E⊢;refine lK.then (k:=k+1) (h.write oJ (u x oL)) oJ fun D' G=>?_
  have:=lK.sD (l:=l) G oJ (fun y I=>u y (zN _ I))
  rw[Nat.add_right_comm] at this;exact this
def FI:(en D n l).1.Q6.length=D.Q6.length:=by unfold en;split;rfl;split;rfl;split;show (gV _).1.Q6.length=_;rw[(xv _).1];rfl;rfl
def qp7:(fY D).1.Q6.length=D.Q6.length:=by unfold fY;split;rfl;split;show (gV _).1.Q6.length=_;rw[(xv _).1];show (D.Q7.foldl fZ D.Q6).length=_;rw[BK]
def qp8{n:Nat}(h:r.1.Q6.length=n)(u:∀D:dI,D.Q6.length=n->(f D).1.Q6.length=n):(andThen r f).1.Q6.length=n:=by unfold andThen;split;exact u _ h;exact h
def qlY:∀ {l:List (Int×List Int)} {D:dI},(fH l D).1.Q6.length=D.Q6.length
 | [],D=>rfl
 | x::l,D=>qp8 FI fun D' h=>by rw[qlY,h]
def qs6{a b:List Int}:(fk D a b).1.Q6.length=D.Q6.length:=by unfold fk;split;rfl;exact qp8 qlY fun D' h=>by rw[qp7,h]
def qs8:∀x∈(y5.zip (gu numbers y5).1).map fun x=>(x.1,eC x.1 2 x.2),eH x.2:=by intro x u;obtain⟨y,h,rfl⟩:=mem_map.1 u;refine Co oM ?_;have h:=(of_mem_zip h).2;unfold gu at h;split at h;cases h;split at h;cases h;obtain⟨i,_,E⟩:=mem_map.1 h;rw[<- E];exact qo9 _ _
def qoh{α β:Type}(a:List α)(b:List β):(a.zip b).length<=a.length:=by rw[length_zip];exact Nat.min_le_left _ _
def lK.spread(h:lK D k)(G:k+y5.length<=1000000):lK (fk D numbers y5).1 (k+y5.length):=by
 unfold fk;split;exact h.mono oJ;have u:=qoh y5 (gu numbers y5).1;refine lK.then (k:=k+y5.length) ?_ (zM _) fun D' E=>E.sync
 refine (lK.sD h (by rw[zK];omega) qs8).mono ?_;rw[zK];omega
def qvt(s:nJ):eH (gH s).2:=Co oM (qvs _ _)
def qqB{numbers y5:List Int}{i:Nat}{bs:List (List Int)}(h:i<y5.length)(u:i<bs.length):(y5.zip bs).drop i=(y5[i],bs[i])::(y5.zip bs).drop (i+1):=by rw[zY (by rw[length_zip];omega)];simp
def qui{sp:Sl}(h:eQ w dbk FD D)(hD:lK D k)(aT:k+y5.length<=1000000)(hv:Hv w)(hg:HG∉FD)(hn:Rd FD w sn numbers)(hp:Rd FD w sp y5)(ax:numbers.length<=100000)(ay:y5.length<=100000)(az:∀x∈y5,gI x)(hk:∀F' w',eQ w' dbk F' (fk D numbers y5).1->Fr FD w w'->(∀b∈F',b∈FD\/w.heap.size<=b)->K (fk D numbers y5).2 w'): cW 142 [dF dbk,sn.v,sp.v] dj w K:=by
 refine qnO<|qt7 (G:=FD) hn hp ax ay h.lt fun s1 B1 w1 b1 f1 n1=>?_;apply dV<;>intro E;have E:(gu numbers y5).2≠0:=by simpa using E
 have:=hk FD w1 (by rw[fk,if_pos E];exact h.q7 f1) (f1.mono fun b u=>by cases u) (fun b u=>.inl u)
 rw[fk,if_pos E] at this;exact this;have I:¬(gu numbers y5).2≠0:=(oP E);rw[fk,if_neg I] at hk;have U:(gu numbers y5).1.length=y5.length/\∀b∈(gu numbers y5).1,b.length<=500/\eH b:=by
  unfold gu at I⊢;split;rename_i h1;rw[if_pos h1] at I;exact absurd oM I;rename_i h1;rw[if_neg h1] at I;split;rename_i h1;rw[if_pos h1] at I;exact absurd oM I;refine⟨FE _ _ _,fun b u=>?_⟩;obtain⟨i,_,rfl⟩:=mem_map.1 u;rw[C4]
  have:=Fl numbers i
  unfold chunk at this;exact⟨oJ,qo9 _ _⟩
 generalize (gu numbers y5).1=bs at hk U b1;obtain⟨R,q1,q2,q3⟩:=b1;have aZ:=q1.len;have aO:=U.1;have a0:=hp.1;refine je (fun x w'=>∃(i j:Nat) (F':List Nat) (D':dI),x=i/\i<=y5.length/\eQ w' dbk F' D'/\lK D' (k+i)/\Fr FD w w'/\Fr FD w1 w'/\(∀b∈F',b∈FD\/w1.heap.size<=b)/\
   andThen (fH ((y5.zip bs).map fun x=>(x.1,eC x.1 2 x.2)) D) fY=andThen (fH (((y5.zip bs).drop i).map fun x=>(x.1,eC x.1 2 x.2)) D') fY) (fun x _=>((y5.length:Int)-x).toNat)
  ⟨0,0,FD,D,rfl,oJ,h.q7 f1,hD,f1.mono (fun b u=>by cases u),.refl _ _,fun b u=>.inl u,rfl⟩ ?_
 rintro x w2 ⟨i,j,F',D',rfl,hi,aj,ae,f2,V,n2,he⟩ X hX;have aA:=hv.q8 f2 hg;have a2:=f1.size;apply dV<;>intro E;have aa:i<y5.length:=(by have:=zC E;dsimp only at this;omega);have ab:i<bs.length:=oJ;have al:i<R.length:=oJ;have aB:ed tD 1 FD w1 s1 R:=q1.jw qre (fun b u hm=>by have:=h.lt b hm;have:=n1 b u;omega);have am:ed tD 1 FD w2 s1 R:=aB.q8 V (fun b u=>.inl u);have an:Rd FD w2 sp y5:=hp.q8 f2 (fun b u=>.inl u);refine ed.get (y:=R[i]) am i rfl (zA al) rfl<|Rd.at an i rfl (zA aa) ?_;have ao:eE FD w1 R[i] bs[i]:=(q3 i _ _ (zA al) (zA ab)).j6 fun b u=>.inl (zH _ u);have af:eE FD w2 R[i] bs[i]:=ao.q8 V (fun b u=>.inl u);have aC:=(U.2 _ (zX ab)).1;have a4:=az _ (zX aa);refine Fj af aA oJ (fun h=>oJ) fun _ b3 T3 w3 c3 f3 n3=>Rd.at (an.q7 f3) i rfl (zA aa) ?_;rw[gq y5[i] oJ];have ac:=wU (number:=y5[i]) (kind:=2) aC;refine qo4 (S:=[]) (aj.q7 f3) ae.ok (vX (o:=0) (n:=512) c3 (by rw[ac];exact zM _) (zM _) oL) fun F4 w4 d4 f4 n4=>?_;rw[xF,zS (by rw[ac];exact zM _)] at d4⊢;have J:∀b∈F',b∈FD\/w.heap.size<=b:=fun b u=>by rcases n2 b u with h|h;exact .inl h;exact .inr oJ
 have a7:w2.heap.size<=w3.heap.size:=f3.size;have a8:=V.size;have ap:Fr FD w w4:=(f2.j8 f3 oL).j8 f4 J;have aH:Fr FD w1 w4:=(V.j8 f3 oL).j8 f4 n2;have aq:∀b∈F4,b∈FD\/w1.heap.size<=b:=fun b u=>by rcases n4 b u with h|h;exact n2 b h;exact .inr oJ
 rw[qqB aa ab (numbers:=numbers),xO,fH] at he;apply dV<;>intro E;have E:(en D' y5[i] (eC y5[i] 2 bs[i])).2≠0:=(oP E);have aI:andThen (fH ((y5.zip bs).map fun x=>(x.1,eC x.1 2 x.2)) D) fY=en D' y5[i] (eC y5[i] 2 bs[i]):=by rw[he];show andThen (andThen (en D' y5[i] (eC y5[i] 2 bs[i])) _) fY=_;rw[show ∀f,andThen (en D' y5[i] (eC y5[i] 2 bs[i])) f=en D' y5[i] (eC y5[i] 2 bs[i]) from fun f=>if_neg E];exact if_neg E
 rw[aI] at hk;exact hk F4 w4 d4 ap (fun b u=>by rcases aq b u with h|h;exact .inl h;exact .inr oJ);have E:(en D' y5[i] (eC y5[i] 2 bs[i])).2=0:=(oP E);rw[gq _ oJ];refine hX _ _ ⟨i+1,0,F4,(en D' y5[i] (eC y5[i] 2 bs[i])).1,oL,oJ,d4,?_,ap,aH,aq,?_⟩ oJ
 have:=ae.write (n:=y5[i]) (l:=eC y5[i] 2 bs[i]) oJ (Co oM (U.2 _ (zX ab)).2)
 rw[Nat.add_assoc] at this;exact this;rw[he];show andThen (andThen (en D' y5[i] (eC y5[i] 2 bs[i])) _) fY=_;rw[show ∀f,andThen (en D' y5[i] (eC y5[i] 2 bs[i])) f=f (en D' y5[i] (eC y5[i] 2 bs[i])).1 from fun f=>if_pos E];have:i=y5.length:=(by have:=zB E;dsimp only at this;omega);subst this;have aJ:(y5.zip bs).drop y5.length=[]:=vE (qoh _ _);rw[aJ] at he;have aK:andThen (fH ((y5.zip bs).map fun x=>(x.1,eC x.1 2 x.2)) D) fY=fY D':=he;rw[aK] at hk;refine qqK aj ae.ok fun F3 w3 d3 f3 n3=>?_;have J:∀b∈F',b∈FD\/w.heap.size<=b:=fun b u=>by rcases n2 b u with h|h;exact .inl h;exact .inr oJ
 exact hk F3 w3 d3 (f2.j8 f3 J) fun b u=>J b (n3 b u)
section
structure DS (dbk:Nat) (w:World) (FD:List Nat) (w':World) (F':List Nat) (D':dI) (k:Nat):Prop where
 at_:eQ w' dbk F' D'
 lim:lK D' k
 fr:Fr FD w w'
 nw:∀ b∈F',b∈FD\/w.heap.size<=b
variable {dbk:Nat}
def DS.refl{w:World}{FD:List Nat}{D:dI}{k:Nat}(h:eQ w dbk FD D)(u:lK D k):DS dbk w FD w FD D k:=⟨h,u,.refl _ _,fun b E=>.inl E⟩
def DS.trans{w2:World}{F2:List Nat}{G E:dI}{I k2:Nat}(h:DS dbk w FD w1 F1 G I)(g:DS dbk w1 F1 w2 F2 E k2):DS dbk w FD w2 F2 E k2:=
 ⟨g.at_,g.lim,h.fr.j8 g.fr h.nw,fun b J=>by rcases g.nw b J with u|u;exact h.nw b u;exact .inr (zL h.fr.size u)⟩
def DS.q7{w w1 w2:World}{FD F1:List Nat}{u:dI}{E:Nat}(h:DS dbk w FD w1 F1 u E)(f:Fr [] w1 w2):DS dbk w FD w2 F1 u E:=
 ⟨h.at_.q7 f,h.lim,h.fr.j8 f oL,h.nw⟩
def DS.hv{I:dI}{J:Nat}(h:DS dbk w FD w1 F1 I J)(u:Hv w)(E:HG∉FD):Hv w1/\HG∉F1:=
 ⟨u.q8 h.fr E,fun R=>by
  rcases h.nw _ R with G|G;exact E G
  have:=u.lt;omega⟩
def DS.rd{u:dI}{E:Nat}{s:Sl}(h:DS dbk w FD w1 F1 u E)(G:Rd FD w s l):Rd F1 w1 s l:=G.q8 h.fr h.nw
def DS.qn{u:dI}{E k2:Nat}(h:DS dbk w FD w1 F1 u E)(G:E<=k2):DS dbk w FD w1 F1 u k2:=⟨h.at_,h.lim.mono G,h.fr,h.nw⟩
def Dp{s:Sl}(h:DS dbk w FD w1 F1 D k)(G:k<1000000)(I:eE S w1 s l)(J:eH l)(R:∀w2 F2,DS dbk w FD w2 F2 (en D n l).1 (k+1)->Fr F1 w1 w2->(∀b∈F2,b∈F1\/w1.heap.size<=b)->K (en D n l).2 w2): cW 138 [dF dbk,.i n,s.v] dj w1 K:=by exact qo4 h.at_ h.lim.ok I fun F2 w2 U u E=>R w2 F2 (h.trans ⟨U,h.lim.write G J,u,E⟩) u E
def qqJ(h:DS dbk w FD w1 F1 D k)(I:∀w2 F2,DS dbk w FD w2 F2 (fY D).1 k->Fr F1 w1 w2->(∀b∈F2,b∈F1\/w1.heap.size<=b)->K (fY D).2 w2): cW 139 [dF dbk] dj w1 K:=by exact qqK h.at_ h.lim.ok fun F2 w2 J E G=>I w2 F2 (h.trans ⟨J,h.lim.sync,E,fun b u=>.inl (G b u)⟩) E (fun b u=>.inl (G b u))
def qqP(h:DS dbk w FD w1 F1 D k)(hk:k<1000000)(hv:Hv w1)(V:s.2.length=27)(hq:0<=s.1)(J:∀w2 F2,DS dbk w FD w2 F2 (jE D s).1 (k+1)->Fr F1 w1 w2->(∀b∈F2,b∈F1\/w1.heap.size<=b)->K (jE D s).2 w2): cW 143 [dF dbk,.agg (eT s.1 s.2).toArray] dj w1 K:=by
 refine qqs<|oB (oE [] w1) fun r w2 e2 f2 R=>?_;have c0:(eT s.1 s.2).toArray[0]?=some (.int .u64 s.1):=rfl;refine oA R.drew 0 rfl s.1 c0<|uF (R.drew.at (i:=0) rfl) V<|qvL (hv.q7 R.drew.fr) V fun b T w3 c3 f3 n3=>?_;have u:=R.drew.q7 f3;refine ig (u.cell 0 rfl c0) ?_;have ht:=Int.tmod_eq_emod_of_nonneg (b:=2) hq;rw[gq (Int.tmod s.1 2) oJ];have E:(eC (wrap .u32 (Int.tmod s.1 2)) 1 (gy s.1 s.2)).length=512:=wU (by rw[yo V];decide);have aa:eE [] w3 ⟨pW b,512,512⟩ (gH s).2:=by
  have:=vX (S:=[]) (o:=0) (n:=512) (cap:=512) c3 (by rw[E];exact zM _) (zM _) oL
  rw[xF,zS (Nat.le_of_eq E)] at this;exact this
 show cW 138 [dF dbk,.i (gH s).1,_] _ _ _;refine Dp (h.q7 u.fr) hk aa (qvt s) fun w4 F4 U f4 n4=>?_;have ao:=u.fr.size;apply dV<;>intro G;have G:(en D (gH s).1 (gH s).2).2≠0:=(oP G);have e:jE D s=en D (gH s).1 (gH s).2:=if_neg G;rw[e] at J;exact J w4 F4 U ((u.fr.mono fun b I=>by cases I).trans f4) fun b I=>by rcases n4 b I with h|h;exact .inl h;exact .inr oJ
 have G:(en D (gH s).1 (gH s).2).2=0:=(oP G);have e:jE D s=fY (en D (gH s).1 (gH s).2).1:=if_pos G;rw[e] at J;refine qqJ U fun w5 F5 d5 f5 n5=>?_;have g4:DS dbk w1 F1 w4 F4 (en D (gH s).1 (gH s).2).1 (k+1):=⟨U.at_,U.lim,(u.fr.mono (T:=F1) fun b I=>by cases I).trans f4,fun b I=>by rcases n4 b I with h|h;exact .inl h;exact .inr oJ⟩;have g5:=g4.trans ⟨d5.at_,d5.lim,f5,n5⟩;exact J w5 F5 d5 g5.fr g5.nw
def qmV{J:Sl}(h:DS dbk w FD w1 F1 D k)(u:k+y5.length<=1000000)(V:Hv w1)(hg:HG∉F1)(hn:Rd F1 w1 sn numbers)(hp:Rd F1 w1 J y5)(E:numbers.length<=100000)(G:y5.length<=100000)(I:∀x∈y5,gI x)(kk:∀w2 F2,DS dbk w FD w2 F2 (fk D numbers y5).1 (k+y5.length)->Fr F1 w1 w2->(∀b∈F2,b∈F1\/w1.heap.size<=b)->K (fk D numbers y5).2 w2): cW 142 [dF dbk,sn.v,J.v] dj w1 K:=by exact qui h.at_ h.lim u V hg hn hp E G I fun F2 w2 d2 R U=>kk w2 F2 (h.trans ⟨d2,h.lim.spread u,R,U⟩) R U
def qiX(a:dI×Int)(f g:dI->dI×Int):andThen (andThen a f) g=andThen a fun D=>andThen (f D) g:=by unfold andThen;by_cases h:a.2=0;rw[if_pos h,if_pos h];rw[if_neg h,if_neg h,if_neg h]
def yv(h:a.2≠0):andThen a f=a:=if_neg h
def Ae(h:a.2=0):andThen a f=f a.1:=if_pos h
def quA{a b c:Int}(w:World):(Instr.build 185 #[(0,.int .u64 1),(1,.u a),(2,.u b),(3,.u c)]).run prog w=.ok (.agg (eT 1 ([a,b,c]++zs 24)).toArray) w:=by obtain⟨z,G,h⟩:=yT.1 tz;have E:z.cells=(eT 0 (zs 27)).toArray:=(by rw[<- h]);refine BM (parts:=[(0,.int .u64 1),(1,.u a),(2,.u b),(3,.u c)]) (offs:=#[(0,1),(1,1),(2,1),(3,1),(4,24)]) G oK (fun w=>oK) ?_ w;rw[E,rH (o:=0) (s:=1) rfl rfl (zO rfl),rH (o:=1) (s:=1) rfl rfl (zO rfl),rH (o:=2) (s:=1) rfl rfl (zO rfl),rH (o:=3) (s:=1) rfl rfl (zO rfl)];rfl
def qug(h:eQ w dbk FD D)(hl:lK D k)(hk:k<=900000)(h8:2<=D.Q6.length)(hv:Hv w)(hg:HG∉FD)(E:∀w' F',DS dbk w FD w' F' (lz D).1 (k+5000)->K (lz D).2 w'): cW 107 [dF dbk] dj w K:=by
 refine qnM ?_;have an:=hl.ok.Q6;have h0:=DS.refl h hl;have I:(zs 512).length=512:=pA _;have V:∀ {S0:List Nat} {w0 w':World} {L:List (Nat×Obj)} {b:Nat} {T:TypeId},dQ S0 w0 w' ((b,.cells (List.replicate (512:Int).toNat (Value.int .u8 0)).toArray T (0,0))::L)->eE [] w' ⟨pW b,(512:Int).toNat,(512:Int).toNat⟩ (zs 512):=fun ho=>by
  have G:=ho.at (i:=0) rfl;rw[qsu] at G
  have:=vX (S:=[]) (o:=0) (n:=512) (cap:=512) G (by rw[show (512:Int).toNat=512 from rfl,I];exact zM _) (zM _) oL
  rw[xF,zS (by rw[show (512:Int).toNat=512 from rfl,I];exact zM _)] at this;exact this
 refine AJ fun X hX=>cond_true rfl<|dQ.Gi (oE [] w) oM oM oM oM fun b1 w1 e1 aa=>Dp (h0.q7 aa.fr) oJ (V aa) (eH.zs 512) fun w2 F2 d2 f2 n2=>?_;apply dV<;>intro u;have u:(en D 0 (zs 512)).2≠0:=(oP u);have e:lz D=en D 0 (zs 512):=yv u;rw[e] at E;exact E w2 F2 (d2.qn oJ);have ap:(en D 0 (zs 512)).2=0:=(oP u);rw[lz,Ae ap] at E;have aq:=FI (D:=D) (n:=0) (l:=zs 512);generalize (en D 0 (zs 512)).1=D2 at d2 E aq;rw[gq (0+1) oM];refine hX _ _ (qpG 1 rfl fun X hX=>?_);refine cond_true rfl<|dQ.Gi (oE [] w2) oM oM oM oM fun b3 w3 e3 ab=>Dp (d2.q7 ab.fr) oJ (V ab) (eH.zs 512) fun w4 F4 d4 f4 n4=>?_;apply dV<;>intro u;have u:(en D2 1 (zs 512)).2≠0:=(oP u);rw[yv u] at E;exact E w4 F4 (d4.qn oJ);have au:(en D2 1 (zs 512)).2=0:=(oP u);rw[Ae au] at E;have av:=FI (D:=D2) (n:=1) (l:=zs 512);generalize (en D2 1 (zs 512)).1=D4 at d4 E av;rw[gq (1+1) oM];refine hX _ _ (qpG 2 rfl fun X hX=>?_);refine cond_false rfl<|qqJ d4 fun w5 F5 d5 f5 n5=>?_;apply dV<;>intro u;have u:(fY D4).2≠0:=(oP u);rw[yv u] at E;exact E w5 F5 (d5.qn oJ);have ay:(fY D4).2=0:=(oP u);rw[Ae ay] at E;have az:=qp7 (D:=D4);generalize (fY D4).1=D5 at d5 E az;have aA:D5.Q6.length=D.Q6.length:=oJ;have al:=Ai D.Q6.length;obtain⟨aB,aC⟩:=d5.hv hv hg;refine je (fun x w'=>∃(i:Nat) (B:List Nat),x.2=((i+2:Nat):Int)/\i<=D.Q6.length-2/\lc w' x.1 ((fB D.Q6.length).take i) B/\Fr [] w5 w'/\∀b∈B,w5.heap.size<=b) (fun x _=>((D.Q6.length:Int)-x.2).toNat)
  ⟨0,[],rfl,oJ,.nil _ _ _,.refl _ _,oL⟩ ?_
 rintro⟨s,x⟩ w6 ⟨i,B,hx,hi,G,f6,n6⟩ Y hY;simp only at hx G;subst hx;have d6:=d5.q7 f6;refine Ha d6.at_ ?_;dsimp only;apply dV<;>intro u;have aE:i<D.Q6.length-2:=(by have:=zC u;omega);rw[nX ((i+2:Nat):Int) oJ];refine EX G (by rw[yL];omega) fun s7 B7 w7 b7 f7 n7=>?_;rw[gq _ oJ];refine hY _ _ ⟨i+1,B7,by simp;omega,oJ,?_,f6.j8 f7 (fun b G=>.inr (n6 b G)),fun b G=>?_⟩ oN;have e:(fB D.Q6.length).take (i+1)=(fB D.Q6.length).take i++[((i+2:Nat):Int)]:=by rw[yG oJ];congr 2;have h1:=qti aE;have h2:=zA (l:=fB D.Q6.length) (i:=i) oJ;rw[h2] at h1;rw[yO h1];simp
 rw[e];exact b7;rcases n7 b G with h|h;exact n6 b h;exact zL f6.size h;have aF:i=D.Q6.length-2:=(by have:=zB u;omega);subst aF;rw[zS oJ] at G;have aG:=G.len;rw[aG];refine qqL oJ ?_;have ae:=EO (n:=(fB D.Q6.length).length);have af:∀b∈B,b∉F5:=fun b G hm=>by have:=n6 b G;have:=d5.at_.lt b hm;omega
 have J:Rd F5 w6.drew s (fB D.Q6.length):=(G.q7 (Fr.refl [] w6).drew).jw qZ af;refine ed.part (k:=1) J (eJ (fB D.Q6.length).length) (fB D.Q6.length).length rfl (by show (s.len:Int)=_;omega) ae (zM _) fun sn a5 rn _=>ed.part (k:=1) J 0 (eJ (fB D.Q6.length).length) rfl rfl oJ ae fun sp a6 rp _=>?_;rw[xZ] at rn;rw[xF] at rp;have aH:=d6.q7 (Fr.refl [] w6).drew;have aI:=(aB.q7 f6).q7 (Fr.refl [] w6).drew;rw[aA] at E;refine qmV aH (by rw[yL];omega) aI aC rn rp (by rw[yC];omega) (by rw[yL];omega) (fun x hx=>by
  have:=xu.1 (yV hx)
  constructor<;>omega) fun w7 F7 R f7 n7=>?_
 have R:=R.qn (k2:=k+2+4096) (by rw[yL];omega);apply dV<;>intro u;have u:(fk D5 ((fB D.Q6.length).drop (eJ (fB D.Q6.length).length)) ((fB D.Q6.length).take (eJ (fB D.Q6.length).length))).2≠0:=(oP u);rw[yv u] at E;exact E w7 F7 (R.qn oJ);have aJ:(fk D5 ((fB D.Q6.length).drop (eJ (fB D.Q6.length).length)) ((fB D.Q6.length).take (eJ (fB D.Q6.length).length))).2=0:=(oP u);rw[Ae aJ] at E;have aK:=qs6 (D:=D5) (a:=(fB D.Q6.length).drop (eJ (fB D.Q6.length).length)) (b:=(fB D.Q6.length).take (eJ (fB D.Q6.length).length));generalize (fk D5 ((fB D.Q6.length).drop (eJ (fB D.Q6.length).length)) ((fB D.Q6.length).take (eJ (fB D.Q6.length).length))).1=D7 at R E aK;have aL:D7.Q6.length=D.Q6.length:=oJ;refine Ha R.at_ ?_;rw[aL] at E⊢;have U:wrap .i64 (((fB D.Q6.length).length:Int)-(eJ (fB D.Q6.length).length:Int))=((fB D.Q6.length).length:Int)-(eJ (fB D.Q6.length).length:Int):=gq _ oJ;rw[U];exact ru (ts:=[gX.k7]) (eT (kC D.Q6.length).1 (kC D.Q6.length).2) (quA w7)<|qqP (s:=kC D.Q6.length) R oJ (R.hv hv hg).1 rfl (by show (0:Int)<=1;decide) fun w8 F8 d8 f8 n8=>E w8 F8 (d8.qn oJ)
end
section
structure dZ.Wf (M:dZ):Prop where
 n4:M.j9.2.getD 0 0<=4096
 u32:∀ x∈M.j9.2,gI x
 Q2:∀ x∈M.Q2,gI x
 cN:M.Q9.Pairwise (· < ·)
 Q9:∀ x∈M.Q9,2<=x/\x<M.j9.2.getD 0 0
 cU:M.Q1.Pairwise (· < ·)
 qD:M.J7.Pairwise (· < ·)
 nodup:(M.Q1++(M.J7++(M.Q5++M.J8.map (·.1)))).Nodup
 range:∀ x∈M.Q1++(M.J7++(M.Q5++M.J8.map (·.1))),2<=x/\x<M.j9.2.getD 0 0
 body:∀ e∈M.J8,(0<=e.2.1/\e.2.1<256)/\e.2.2.length<=500/\eH e.2.2
def qAu(u:l.Nodup)(h:∀x∈l,2<=x/\x<n)(E:n<=4096):l.length<=4096:=by rcases C9 u h with h|h;omega;rw[h];simp
def dZ.Wf.all(M:dZ)(h:M.Wf):M.Q1.length+M.J7.length+M.Q5.length+M.J8.length<=4096:=by
 have:=qAu h.nodup h.range h.n4
 simp only[zF,zK] at this;omega
section
variable {w:World} {X:List Nat} {pb:Nat} {db:Option Addr} {F:List Nat} {M:dZ}
def ed.tU{α:Type}{enc:α->List Value}{w:World}{s:Sl}{l:List α}(h:ed enc k S w s l){hi:Int}(b:Nat){K:Sl->Prop}(E:hi=b)(hb:b<=l.length)(R:∀J,ed enc k S w J (l.take b)->K J):fy s none (some hi) (some hi) k K:=by
 subst E;obtain⟨h1,h2,G⟩:=h;unfold fy;refine⟨by simp;omega,R _ ?_⟩;simp only[xW,xV,Int.toNat_zero,zJ,Nat.zero_mul,Nat.sub_zero];have e:(if b=0 then s.a else s.a.map (·.add 0))=s.a:=by
  split;rfl;cases s.a with
  | none=>rfl
  | some a=>simp[FA]
 rw[e];refine⟨by rw[yL];dsimp only;omega,zM _,?_⟩;rcases G with G|⟨U,o,V,T,fr,ha,I,hS,hc⟩;left;rw[G];simp;refine .inr ⟨U,o,V,T,fr,ha,I,hS,fun i x u=>?_⟩;rw[xB] at u;split at u;exact hc i x u;cases u
def eF.ow{w:World}{X:List Nat}{pb:Nat}{db:Option Addr}{F:List Nat}{M:dZ}(h:eF w X pb db F M):∀b∈X,b<w.heap.size:=by obtain⟨fb,defb,mb,sl,sn,E,F2,G,rfl,u⟩:=h;exact u.ow
def qxm{K:Sl×Sl×Bool->WP}(h:eF w X pb db F M)(hW:M.Wf)(ap:jA M=none->∀w',Fr [] w w'->K (dG,dG,false) w')(hk:∀sp sn y5 Q9 w',jA M=some (y5,Q9)->Fr [] w w'->(∀G:List Nat,(∀b∈G,b<w.heap.size)->Rd G w' sp y5/\Rd G w' sn Q9)->K (sp,sn,true) w'): cW 113 [dF pb] dD w K:=by
 have aE:=dZ.Wf.all M hW;obtain⟨fb,defb,mb,sl,sn,F1,F2,fs,rfl,I⟩:=h;refine qjs<|fG (iI I.cell (pW fb) (xz I.Q8) ?_);refine qte I.Q1 oJ fun J w1 t1 f1=>?_;obtain⟨B1,b1,n1⟩:=qsn t1;have af:Fr [] w w1.drew:=f1.drew;have R:=I.q7 af;refine fG (iI (w:=w1.drew) (c:=.ptr) R.cell (pW defb) (CM I.Q8) ?_);refine fG (iI (w:=w1.drew) (c:=.slice) R.cell sl (Fz I.Q8) ?_);refine qte R.J7 oJ fun s2 w2 t2 f2=>?_;obtain⟨B2,b2,n2⟩:=qsn t2;have ag:=af.trans f2;have ah:=I.q7 ag;refine ig (by show _=_;rw[jq ah.cell];exact Fz I.Q8)<|CZ b2 ah.rows.Q5 oJ fun s3 B3 w3 b3 f3 n3=>?_;have U:∀b∈B1,b<w1.drew.heap.size:=fun b u=>(b1.q7 (Fr.refl [] w1).drew).lt b u;have av:=(b1.q7 (Fr.refl [] w1).drew).q7 f2;have V:lc w3 J M.Q1 B1:=av.q8 f3 (fun b u E=>by have:=U b u;have:=n2 b E;omega);have aW:w.heap.size<=w1.heap.size:=f1.size;have aX:=f2.size;have aY:w1.drew.heap.size=w1.heap.size:=rfl;have aa:∀b∈B3,w1.drew.heap.size<=b:=fun b u=>by rcases n3 b u with h|h;exact n2 b h;omega
 have ai:Fr [] w w3:=ag.j8 f3 fun b u=>.inr (by have:=n2 b u;omega);have l1:=V.len;have l3:=b3.len;rw[zF] at l3;rw[gq _ oJ];have e:(J.len:Int)+(s3.len:Int)=((M.Q1.length+(M.J7++M.Q5).length:Nat):Int):=(by rw[zF];omega);rw[e];refine qqL (by rw[zF];omega) ?_;generalize aj:eJ (M.Q1.length+(M.J7++M.Q5).length)=k;apply cD<;>intro hc
 have:=hc
 exact ap (by rw[jA,aj,iP]) w3 ai;have ak:k<=M.Q1.length:=oJ;have ab:jA M=some (M.Q1.take k,gE ((M.J7++M.Q5)++M.Q1.drop k)):=(by rw[jA,aj,iN]);have ac:Rd [] w3 J M.Q1:=V.jw qZ oL;refine ed.part (k:=1) ac k M.Q1.length rfl (by show (J.len:Int)=_;omega) ak (zM _) fun s4 a0 r4 _=>?_;rw[xZ] at r4;refine CZ b3 r4 (by rw[zF,yC];omega) fun s5 B5 w5 b5 f5 n5=>?_;have ad:∀b∈B5,w1.drew.heap.size<=b/\b∉B1:=fun b u=>by
  have hh:w1.drew.heap.size<=b:=by
   rcases n5 b u with h|h;exact aa b h
   have:=f3.size;omega
  exact⟨hh,fun E=>by have:=U b E;omega⟩
 have ax:lc w5 J M.Q1 B1:=V.q8 f5 (fun b u E=>by have:=U b u;have:=aa b E;omega);refine qqW b5 (by rw[zF,zF,yC];omega) fun l6 w6 b6 p6 o6 f6=>?_;have ay:lc w6 J M.Q1 B1:=ax.q8 f6 (fun b u E=>(ad b E).2 u);have az:((M.J7++M.Q5)++M.Q1.drop k).Nodup:=by
  have h:=hW.nodup;have hp:(M.Q1++(M.J7++(M.Q5++M.J8.map (·.1)))).Perm (((M.J7++M.Q5)++M.Q1)++M.J8.map (·.1)):=by rw[<- zV M.J7,<- zV M.Q1];exact perm_append_comm.append_right _
  have h2:=(hp.nodup_iff.1 h).sublist (sublist_append_left _ _);exact h2.sublist ((List.Sublist.refl _).append (drop_sublist _ _))
 have aA:l6=gE ((M.J7++M.Q5)++M.Q1.drop k):=G9 p6 o6 az;rw[aA] at b6;have aB:Fr [] w w6:=(ai.j8 f5 fun b u=>.inr (by have:=aa b u;omega)).j8 f6 fun b u=>.inr (by have:=(ad b u).1;omega);have am:∀G:List Nat,(∀b∈G,b<w.heap.size)->Rd G w6 J M.Q1/\Rd G w6 s5 (gE ((M.J7++M.Q5)++M.Q1.drop k)):=fun G hG=>
  ⟨ay.jw qZ fun b u E=>by have:=hG b E;have:=n1 b u;omega,b6.jw qZ fun b u E=>by have:=hG b E;have:=(ad b u).1;omega⟩
 exact ed.tU (am (List.range w.heap.size) oL).1 k rfl ak fun s7 r7=>hk s7 s5 _ _ w6 ab aB fun G hG=>⟨r7.j6 fun b u=>.inl (mem_range.2 (hG b u)),(am G hG).2⟩
end
def qrF{mb:Nat}{E:List (Int×kW)}{K:Int×Sl->Prop}(h:kJ jt w mb (E.map fun e=>(e.1,li e.2)))(I:∀q,look n E=some q->K (q.2.1,q.2.2.1))(J:look n E≠none): eX [gX.agg [Cell.int .u8,Cell.slice]] (fun w'=>(Instr.lookup BR (.map (some mb)) (.u n) false).run prog w') w K:=by
 have:=CJ (P:=prog) yg qz4 uS h n
 rw[xo,vV] at this;cases G:look n E with
 | none=>exact absurd G J
 | some q=>
  rw[G] at this;exact ru (ts:=[gX.agg [Cell.int .u8,Cell.slice]]) (q.2.1,q.2.2.1) this (I q G)
def qvz{sp:Sl}(h:DS dbk w FD w1 F1 D k)(hp:eF w1 F1 pb (pW dbk) F M)(ag:∀e∈M.J8,(0<=e.2.1/\e.2.1<256)/\e.2.2.length<=500/\eH e.2.2)(aG:(M.J8.map (·.1)).Nodup)(aH:∀x∈M.J8.map (·.1),gI x)(aI:M.J8.length<=100000)(bk:k+M.J8.length+y5.length+1<=1000000)(hv:Hv w1)(hg:HG∉F1)(hn:Rd F1 w1 sn Q9)(aK:Rd F1 w1 sp y5)(aL:Q9.length<=100000)(aM:y5.length<=100000)(aN:∀x∈y5,gI x)(hs:next.2.length=27)(hq:0<=next.1)(kk:∀w2 F2,DS dbk w FD w2 F2 (gJ D M.J8 y5 Q9 next).1 (k+M.J8.length+y5.length+1)->Fr F1 w1 w2->(∀b∈F2,b∈F1\/w1.heap.size<=b)->K (gJ D M.J8 y5 Q9 next).2 w2): cW 114 [dF pb,sp.v,sn.v,.agg (eT next.1 next.2).toArray] dj w1 K:=by
 refine qiD<|oB (oE [] w1) fun r w2 e2 f2 ho=>qvA (hp.q7 f2) aI fun s3 B3 E w3 b3 p3 o3 f3 n3=>?_;have aQ:E=gE (M.J8.map (·.1)):=G9 p3 o3 aG;have aR:E.length=M.J8.length:=(by have:=p3.length_eq;rw[zK] at this;exact this);have ah:∀x∈E,x∈M.J8.map (·.1):=fun x V=>p3.mem_iff.1 V;have G:Fr [] w1 w3:=f2.trans f3;have hW:kI M.J8=E.map fun n=>(n,eC n (jY M.J8 n).1 (jY M.J8 n).2):=(by rw[kI,<- aQ]);have aT:=ho.q7 f3;have bt:=b3.len;have bc:=f2.size;have ay:∀b∈F1,b<w1.heap.size:=h.at_.lt;have r3:Rd F1 w3 s3 E:=b3.jw qZ fun b hb hm=>by have:=n3 b hb;have:=ay b hm;omega
 have ae:w3.heap[r]?=some (.cells (eT next.1 next.2).toArray 185 (0,0)):=aT.at (i:=0) rfl;have hr:r∉F1:=fun hm=>by have:=ay r hm;omega
 rw[gJ,hW] at kk;refine je (fun x w'=>∃(i:Nat) (F':List Nat) (D':dI),x=i/\i<=E.length/\DS dbk w3 F1 w' F' D' (k+i)/\
   andThen (fH (E.map fun n=>(n,eC n (jY M.J8 n).1 (jY M.J8 n).2)) D) (fun D=>andThen (fk D Q9 y5) fun D=>jE D next) =
    andThen (fH ((E.drop i).map fun n=>(n,eC n (jY M.J8 n).1 (jY M.J8 n).2)) D') (fun D=>andThen (fk D Q9 y5) fun D=>jE D next)) (fun x _=>((E.length:Int)-x).toNat)
  ⟨0,F1,D,rfl,oJ,DS.refl (h.at_.q7 G) h.lim,rfl⟩ ?_
 rintro x w4 ⟨i,F',D',rfl,hi,d4,he⟩ Y hY;have ak:eF w4 F' pb (pW dbk) F M:=(hp.q7 G).pg d4.fr d4.at_.lt d4.nw;have al:=d4.hv (hv.q7 G) hg;have J:∀ {I:World} {F5:List Nat} {D5:dI} {k5:Nat},DS dbk w3 F1 I F5 D5 k5->DS dbk w FD I F5 D5 k5/\Fr F1 w1 I/\∀b∈F5,b∈F1\/w1.heap.size<=b:=fun d5=>by have g:DS dbk w1 F1 _ _ _ _:=(DS.refl h.at_ h.lim).q7 G |>.trans d5;exact⟨h.trans g,g.fr,g.nw⟩
 apply dV<;>intro u;have an:i<E.length:=(by have:=zC u;omega);refine Rd.at (d4.rd r3) i rfl (zA an) ?_;have ao:=ah _ (zX an);have aU:=aH _ ao;have R:E.drop i=E[i]::E.drop (i+1):=zY an;generalize E[i]=x at ao aU R;obtain⟨fb,defb,mb,sl,sm,G1,G2,fs,rfl,V⟩:=ak;have U:=V.q7 (Fr.refl [] w4).drew;have ab:=V.cL x;have az:look x fs≠none:=fun hn=>by rw[hn] at ab;exact uq.1 ab ao
 refine fG (iI (w:=w4.drew) (c:=.map) U.cell (some mb) (sX V.Q8) ?_);refine qrF U.map.at (fun q ap=>?_) az;refine fG (iI (w:=w4.drew) (c:=.map) U.cell (some mb) (sX V.Q8) ?_);refine qrF U.map.at (fun q' aA=>?_) az;rw[ap] at aA;cases aA;rw[ap] at ab;have aW:jY M.J8 x=(q.2.1,q.2.2.2):=(by rw[jY,ab];rfl);have hm:=(tf ap).2;have af:=U.rows.y8 _ hm;have ac:=ag (x,q.2.1,q.2.2.2) (by rw[V.J8];exact mem_map.2 ⟨_,hm,rfl⟩);dsimp only at af ac;refine Fj af (al.1.q7 (Fr.refl [] w4).drew) oJ (fun h=>oJ) fun _ b5 T5 I c5 f5 n5=>?_;have aB:Fr [] w4 I:=(Fr.refl [] w4).drew.trans f5;have aq:=V.q7 aB;refine fG (iI aq.cell (pW dbk) Ci ?_);rw[gq x oJ];have aC:=wU (number:=x) (kind:=q.2.1) ac.2.1;have aY:eE [] I ⟨pW b5,512,512⟩ (eC x q.2.1 q.2.2.2):=by
  have:=vX (S:=[]) (o:=0) (n:=512) (cap:=512) c5 (by rw[aC];exact zM _) (zM _) oL
  rw[xF,zS (Nat.le_of_eq aC)] at this;exact this
 rw[R,xO,aW] at he;refine Dp (d4.q7 aB) oJ aY (Co ac.1 ac.2.2) fun w6 F6 d6 f6 n6=>?_;apply dV<;>intro u;have u:(en D' x (eC x q.2.1 q.2.2.2)).2≠0:=(oP u);rw[fH,qiX,yv u] at he;rw[he] at kk;have a6:=J d6;exact kk w6 F6 (a6.1.qn oJ) a6.2.1 a6.2.2;have u:(en D' x (eC x q.2.1 q.2.2.2)).2=0:=(oP u);rw[fH,qiX,Ae u] at he;rw[gq _ oJ];exact hY _ _ ⟨i+1,F6,_,oL,oJ,d6,he⟩ oJ
 ·have:i=E.length:=(by have:=zB u;omega);subst this;rw[drop_length,map_nil,fH,andThen_ok] at he;rw[he] at kk;obtain⟨fb,defb,mb,sl,sm,G1,G2,fs,hF,V⟩:=id ak;refine fG (iI V.cell (pW dbk) Ci ?_);have a0:=d4.rd (hn.q7 G);have aD:=d4.rd (aK.q7 G);refine qmV d4 oJ al.1 al.2 a0 aD aL aM aN fun I F5 d5 f5 n5=>?_;apply dV<;>intro u;have u:(fk D' Q9 y5).2≠0:=(oP u);rw[yv u] at kk;have a5:=J d5;exact kk I F5 (a5.1.qn oJ) a5.2.1 a5.2.2
  ·have u:(fk D' Q9 y5).2=0:=(oP u);rw[Ae u] at kk;have a2:eF I F5 pb (pW dbk) F M:=ak.pg f5 d5.at_.lt n5;obtain⟨fb,defb,mb,sl,sm,G1,G2,fs,hF,aq⟩:=id a2;have a3:=aq.q7 (Fr.refl [] I).drew;refine fG (iI (w:=I.drew) (c:=.ptr) a3.cell (pW dbk) Ci ?_);have au:I.drew.heap[r]?=some (.cells (eT next.1 next.2).toArray 185 (0,0)):=(by show I.heap[r]?=_;rw[d5.fr.block r (eV ae) hr];exact ae);refine uF au hs<|qqP (d5.q7 (Fr.refl [] I).drew) oJ ((d5.hv (hv.q7 G) hg).1.q7 (Fr.refl [] I).drew) hs hq fun w6 F6 d6 f6 n6=>?_;have a6:=J d6;exact kk w6 F6 (a6.1.qn oJ) a6.2.1 a6.2.2
end
def uA (D:dI):Prop:=∀x∈D.Q7,0<=x.1/\x.1<D.Q6.length
def qo6(h:(gV D).2=false)(u:D.down=false):(gV D).1.down=false:=by unfold gV at h⊢;split;rename_i E;rw[if_pos E] at h;cases h;split<;>exact u
def ql7(V:uA D)(h:(en D n l).2=0): (en D n l).1.down=false/\uA (en D n l).1/\(0<=n/\n<D.size)/\∀m,view (en D n l).1 m=if m=n then l else view D m:=by
 unfold en at h⊢;split;rename_i I;rw[if_pos I] at h;cases h;rename_i I;rw[if_neg I] at h;split;rename_i R;rw[if_pos R] at h;cases h;rename_i R;rw[if_neg R] at h;split;rename_i u;rw[dif_pos u] at h;have G:(gV (lE D n ⟨l,u⟩)).2=false:=by
  cases hb:(gV (lE D n ⟨l,u⟩)).2 with
  | false=>rfl
  | true=>simp only[hb,if_true] at h;cases h
 have J:=xv (lE D n ⟨l,u⟩);have U:0<=n/\n<(D.Q6.length:Int):=oJ;refine⟨qo6 G (show D.down=false by simpa using I),fun x E=>?_,U,fun m=>?_⟩;show 0<=x.1/\x.1<((gV (lE D n ⟨l,u⟩)).1.Q6.length:Int);rw[J.1];have E:x∈(gV (lE D n ⟨l,u⟩)).1.Q7:=E;rw[J.2] at E;rcases zD.1 E with E|E;exact V x E;simp at E;subst E;exact U;show view (gV (lE D n ⟨l,u⟩)).1 m=_;rw[view,J.1,J.2,lE];dsimp only;rw[Ev];by_cases hm:m=n;rw[if_pos hm,if_pos hm.symm];rw[if_neg hm,if_neg (fun e=>hm e.symm),view];rename_i u;rw[dif_neg u] at h;cases h
def qn9(I:uA D)(h:(fY D).2=0):(fY D).1.down=false/\(fY D).1.Q7=[]/\∀m,0<=m->view (fY D).1 m=view D m:=by unfold fY at h⊢;split;rename_i E;rw[if_pos E] at h;cases h;rename_i E;rw[if_neg E] at h;split;rename_i G;rw[if_pos G] at h;cases h;rename_i G;have u:(gV D).2=false:=(oP G);refine⟨qo6 u (oP E),rfl,fun m J=>?_⟩;obtain⟨k,rfl⟩:∃k:Nat,m=k:=⟨m.toNat,oJ⟩;show ((D.Q7.foldl fZ D.Q6).getD (k:Int).toNat .zero).1=_;rw[zJ,FL k _ _ I,view,zJ];cases iJ (k:Int) D.Q7<;>rfl
def qtn(h:D.Q7=[]):uA D:=fun x u=>by rw[h] at u;cases u
def A0(h:(andThen r f).2=0):r.2=0/\(f r.1).2=0/\andThen r f=f r.1:=by unfold andThen at h⊢;by_cases h0:r.2=0;rw[if_pos h0] at h⊢;exact⟨h0,h,rfl⟩;rw[if_neg h0] at h;exact absurd h h0
def Ec:∀ {l:List (Int×List Int)} {D:dI},uA D->D.down=false->(fH l D).2=0->(l.map (·.1)).Nodup-> (fH l D).1.down=false/\uA (fH l D).1/\(∀x∈l,view (fH l D).1 x.1=x.2)/\∀m,m∉l.map (·.1)->view (fH l D).1 m=view D m
 | [],D,E,J,_,_=>⟨J,E,(fun x u=>by cases u),fun m _=>rfl⟩
 | y::l,D,E,J,h,G=>by obtain⟨U,V,h3⟩:=A0 (show (andThen (en D y.1 y.2) (fH l)).2=0 from h);obtain⟨d1,a1,_,R⟩:=ql7 E U;rw[xO,nodup_cons] at G;obtain⟨d2,a2,v2,u2⟩:=Ec (l:=l) a1 d1 V G.2;rw[show fH (y::l) D=fH l (en D y.1 y.2).1 from h3];refine⟨d2,a2,fun x u=>?_,fun m I=>?_⟩;rcases zG.1 u with rfl|u;rw[u2 _ G.1,R,if_pos rfl];exact v2 x u;rw[xO,zG,not_or] at I;rw[u2 m I.2,R,if_neg I.1]
def qsh(V:uA D)(hd:D.down=false)(E:lA n numbers y5)(h:(fk D numbers y5).2=0): (fk D numbers y5).1.down=false/\(fk D numbers y5).1.Q7=[]/\pp (fk D numbers y5).1 numbers y5/\∀m,0<=m->m∉y5->view (fk D numbers y5).1 m=view D m:=by have J:((y5.zip (gw numbers y5 y5.length)).map fun x=>(x.1,eC x.1 2 x.2)).map (·.1)=y5:=(by rw[map_map];exact Fq (by rw[FE]));have e:fk D numbers y5=andThen (fH ((y5.zip (gw numbers y5 y5.length)).map fun x=>(x.1,eC x.1 2 x.2)) D) fY:=(by rw[fk,E.y8];exact if_neg oL);rw[e] at h;obtain⟨h1,h2,h3⟩:=A0 h;obtain⟨d1,a1,v1,R⟩:=Ec V hd h1 (by rw[J];exact E.nodup);rw[J] at R;obtain⟨d2,w2,U⟩:=qn9 a1 h2;rw[e,h3];refine⟨d2,w2,fun i p G=>?_,fun m hm I=>by rw[U m hm,R m I]⟩;have hi:=(zP.1 G).1;have u:(p,eC p 2 (iQ (y5.getD (i+1) 0) (chunk numbers i)))∈(y5.zip (gw numbers y5 y5.length)).map fun x=>(x.1,eC x.1 2 x.2):=(by refine mem_map.2 ⟨(p,iQ (y5.getD (i+1) 0) (chunk numbers i)),?_,rfl⟩;refine yF (i:=i) ?_;rw[List.getElem?_zip_eq_some];exact⟨G,by rw[FB,if_pos hi]⟩);have aj:=E.rA _ (yF G);rw[U p oJ];exact v1 _ u
def qvn(J:uA D)(R:kS s)(h:(jE D s).2=0): (jE D s).1.down=false/\(jE D s).1.Q7=[]/\view (jE D s).1 (s.1%2)=eC (s.1%2) 1 (gy s.1 s.2)/\∀m,0<=m->m≠s.1%2->view (jE D s).1 m=view D m:=by obtain⟨U,V,h3⟩:=A0 (show (andThen (en D (gH s).1 (gH s).2) fY).2=0 from h);obtain⟨d1,a1,_,u⟩:=ql7 J U;obtain⟨I,w2,E⟩:=qn9 a1 V;rw[show jE D s=fY (en D (gH s).1 (gH s).2).1 from h3];rw[R.gH] at u E I w2⊢;refine⟨I,w2,by rw[E _ oJ,u,if_pos rfl],fun m hm G=>by rw[E m hm,u,if_neg G]⟩
def Cw(h:jA M=some (y5,Q9)): ∃k,k=eJ (M.Q1.length+(M.J7++M.Q5).length)/\k<=M.Q1.length/\y5=M.Q1.take k/\Q9=gE ((M.J7++M.Q5)++M.Q1.drop k):=by unfold jA at h;split at h;cases h;rename_i E;have u:=yO h;exact⟨_,rfl,oJ,(congrArg Prod.fst u).symm,(congrArg Prod.snd u).symm⟩
def dZ.Wf.pN(h:M.Wf)(k:Nat):(M.Q1.take k++((M.J7++M.Q5)++M.Q1.drop k)).Nodup:=by
 have u:(M.Q1++(M.J7++(M.Q5++M.J8.map (·.1)))).Perm ((M.Q1.take k++((M.J7++M.Q5)++M.Q1.drop k))++M.J8.map (·.1)):=by
  conv=>lhs;lhs;rw[<- xE k M.Q1]
  rw[<- zV M.J7];have:(M.Q1.drop k++((M.J7++M.Q5)++M.J8.map (·.1))).Perm (((M.J7++M.Q5)++M.Q1.drop k)++M.J8.map (·.1)):=by rw[<- zV];exact perm_append_comm.append_right _
  rw[zV,zV (M.Q1.take k)];exact this.append_left _
 exact (u.nodup_iff.1 h.nodup).sublist (sublist_append_left _ _)
def CN(G:M.Wf)(h:jA M=some (y5,Q9)):lA (M.j9.2.getD 0 0) Q9 y5:=by obtain⟨k,J,I,rfl,rfl⟩:=Cw h;have E:=G.pN k;rw[yM] at E;have R:∀x∈(M.J7++M.Q5)++M.Q1.drop k,2<=x/\x<M.j9.2.getD 0 0:=fun x u=>G.range x (by simp only[zD] at u⊢;rcases u with (u|u)|u;exact .inr (.inl u);exact .inr (.inr (.inl u));exact .inl (yU u));refine⟨AO _,fun x u=>R x (xh.1 u),fun x u=>G.range x (zH _ (yV u)),E.1,fun x u U=>E.2.2 x u x (xh.1 U) rfl,?_⟩;have V:=(EB E.2.1).length_eq;have h2:=Fx (n:=M.Q1.length+(M.J7++M.Q5).length);rw[<- J] at h2;rw[V,zF,yC,yL,xR I];omega
def qnQ(U:M.Wf)(h:jA M=some (y5,Q9)):∀x∈M.J8.map (·.1),x∉y5/\x∉Q9:=by obtain⟨k,hk,V,rfl,rfl⟩:=Cw h;intro x G;have E:=U.nodup;rw[yM] at E;have I:=E.2.1;rw[yM] at I;have J:=I.2.1;rw[yM] at J;have R:x∉M.Q1:=fun u=>E.2.2 x u x (zI _ (zI _ G)) rfl;have a2:x∉M.J7:=fun u=>I.2.2 x u x (zI _ G) rfl;have a3:x∉M.Q5:=fun u=>J.2.2 x u x G rfl;refine⟨fun u=>R (yV u),fun u=>?_⟩;have u:=xh.1 u;simp only[zD] at u;rcases u with (u|u)|u;exact a2 u;exact a3 u;exact R (yU u)
def DY(J8:List (Int×Int×List Int)):(kI J8).map (·.1)=gE (J8.map (·.1)):=by rw[kI,map_map];exact map_id _
def Do{β:Type}:∀ {l:List (Int×β)} {e:Int×β},(l.map (·.1)).Nodup->e∈l->∃i,look e.1 l=some (i,e.2)
 | p::r,e,E,u=>by rw[xO,nodup_cons] at E;simp only[look];rcases zG.1 u with rfl|u;exact⟨0,by rw[if_pos rfl]⟩;have G:e.1≠p.1:=fun h=>E.1 (h▸zZ u);obtain⟨i,I⟩:=Do E.2 u;exact⟨i+1,by rw[if_neg G,I];rfl⟩
def quL{J8:List (Int×Int×List Int)}(u:(J8.map (·.1)).Nodup){e:Int×Int×List Int}(h:e∈J8):(e.1,eC e.1 e.2.1 e.2.2)∈kI J8:=by refine mem_map.2 ⟨e.1,xh.2 (zZ h),?_⟩;obtain⟨i,E⟩:=Do u h;rw[jY,E]
structure uG (D D':dI) (M:dZ) (y5 Q9:List Int) (next:nJ):Prop where
 down:D'.down=false
 Q7:D'.Q7=[]
 listed:pp D' Q9 y5
 Hj:view D' (next.1%2)=eC (next.1%2) 1 (gy next.1 next.2)
 J8:∀ e∈M.J8,view D' e.1=eC e.1 e.2.1 e.2.2
 rest:∀ m,0<=m->m∉M.J8.map (·.1)->m∉y5->m≠next.1%2->view D' m=view D m
def dZ.Wf.y9(h:M.Wf):(M.J8.map (·.1)).Nodup:=h.nodup.sublist (((sublist_append_right _ _).trans (sublist_append_right _ _)).trans (sublist_append_right _ _))
def dZ.Wf.J6(h:M.Wf):∀x∈M.J8.map (·.1),2<=x/\x<M.j9.2.getD 0 0:=fun x u=>h.range x (zI _ (zI _ (zI _ u)))
def qsN(ha:uA D)(hd:D.down=false)(I:M.Wf)(u:jA M=some (y5,Q9))(hs:kS next)(h:(gJ D M.J8 y5 Q9 next).2=0): uG D (gJ D M.J8 y5 Q9 next).1 M y5 Q9 next:=by
 obtain⟨h1,h2,h3⟩:=A0 (show (andThen (fH (kI M.J8) D) fun D=>andThen (fk D Q9 y5) fun D=>jE D next).2=0 from h);obtain⟨h4,h5,h6⟩:=A0 h2;have J:((kI M.J8).map (·.1)).Nodup:=(by rw[DY];exact xm (AO _));obtain⟨d1,a1,v1,u1⟩:=Ec ha hd h1 J;have E:=CN I u;obtain⟨d2,w2,l2,V⟩:=qsh a1 d1 E h4;obtain⟨d3,w3,p3,R⟩:=qvn (qtn w2) hs h5;have e:gJ D M.J8 y5 Q9 next=jE (fk (fH (kI M.J8) D).1 Q9 y5).1 next:=h3.trans h6
 rw[e];have av:next.1%2=0\/next.1%2=1:=by omega
 refine⟨d3,w3,fun i p hp=>?_,p3,fun x U=>?_,fun m hm h7 h8 h9=>?_⟩
 have:=E.rA p (yF hp)
 rw[R p oJ oJ];exact l2 i p hp;have hk:=I.J6 x.1 (zZ U);have hf:=qnQ I u x.1 (zZ U);rw[R _ oJ oJ,V _ oJ hf.1];exact v1 _ (quL I.y9 U);rw[R m hm h9,V m hm h8];refine u1 m fun G=>h7 ?_;rw[DY] at G;exact xh.1 G
def eO.uE(h:eO D)(G:M.Wf)(V:M.j9.2.getD 0 0=D.size)(h8:8<=D.size)(u:jA M=some (y5,Q9))(hs:kS next): (gJ D M.J8 y5 Q9 next).2=0/\eO (gJ D M.J8 y5 Q9 next).1/\(gJ D M.J8 y5 Q9 next).1.size=D.size:=by
 have J:((kI M.J8).map (·.1)).Nodup:=(by rw[DY];exact xm (AO _));obtain⟨D1,e1,q1,s1,_⟩:=h.writes (l:=kI M.J8) (fun x hx=>by obtain⟨n,I,rfl⟩:=mem_map.1 hx;have I:=xh.1 I;have hk:=G.J6 n I;refine⟨by dsimp only;omega,wU ?_⟩;obtain⟨e,R,rfl⟩:=mem_map.1 I;obtain⟨i,hi⟩:=Do G.y9 R;rw[jY,hi];exact (G.body e R).2.1) J;have E:=CN G u;rw[V,<- s1] at E;obtain⟨D2,e2,q2,s2,_⟩:=q1.spread E;obtain⟨U,e3,q3,s3,_⟩:=q2.t5 hs oJ;have:gJ D M.J8 y5 Q9 next=(U,0):=by rw[gJ,e1,andThen_ok,e2,andThen_ok,e3]
 rw[this];exact⟨rfl,q3,by show U.size=D.size;omega⟩
def dZ.all (M:dZ):List Int:=M.Q1++(M.J7++(M.Q5++M.J8.map (·.1)))
def D6{t:Int}{ov:Bool}(h:lA (s.2.getD 0 0) numbers y5)(G:s.2.getD 0 0<=4096)(E:∀x∈s.2,gI x):(iq s y5 numbers t ov numbers).Wf where
 n4:=G
 u32:=E
 Q2:=fun x u=>E x (yU u)
 cN:=h.cX
 Q9:=h.nD
 cU:=h.cX
 qD:=.nil
 nodup:=by show (numbers++([]++(y5++[]))).Nodup;rw[xI,xH,yM];exact⟨xm h.cX,h.nodup,fun x u y I e=>h.J3 y I (e▸u)⟩
 range:=fun x u=>by have u:x∈numbers++([]++(y5++[])):=u;rw[xI,xH,zD] at u;rcases u with u|u;exact h.nD x u;exact h.rA x u
 body:=fun e J=>by cases J
def qzq:tY.Wf:=by
 have u:∀x∈gC.2,gI x:=fun x h=>by
  have:=eq_of_mem_replicate (show x∈List.replicate 27 (0:Int) from h)
  subst this;exact⟨oM,oM⟩
 exact D6 (s:=gC) (y5:=[]) (numbers:=[]) ⟨.nil,(fun x h=>by cases h),(fun x h=>by cases h),.nil,(fun x h=>by cases h),oM⟩ oM u
def qsd{β:Type}{v:β}{l:List (Int×β)}(h:n∉l.map (·.1)):gQ n v l=l++[(n,v)]:=by rw[gQ,uq.2 h]
def qp5{β:Type}{v:β}{l:List (Int×β)}(h:n∈l.map (·.1)):(gQ n v l).map (·.1)=l.map (·.1):=by
 unfold gQ;cases E:look n l with
 | none=>exact absurd h (uq.1 E)
 | some q=>
  dsimp only;rw[map_set];apply ext_getElem?;intro j;rw[List.getElem?_set];by_cases hj:q.1=j;subst hj;have G:=(tf E).1;obtain⟨u,I⟩:=zP.1 G;simp[u,I];rw[if_neg hj]
def qpj{β:Type}{l:List (Int×β)}(h:n∈l.map (·.1)):(l.map (·.1)).Perm (n::(ju n l).map (·.1)):=by
 unfold ju;cases G:look n l with
 | none=>exact absurd h (uq.1 G)
 | some q=>
  dsimp only;have I:=(tf G).1;obtain⟨u,J⟩:=zP.1 I;rw[uY];have R:(l.map (·.1))[q.1]'(oP u)=n:=(by simp[J]);have E:q.1<(l.map (·.1)).length:=(oP u);have U:l.map (·.1)=(l.map (·.1)).take q.1++n::(l.map (·.1)).drop (q.1+1):=by rw[<- R,<- zY E,xE]
  rw[eraseIdx_eq_take_drop_succ];conv=>lhs;rw[U]
  exact perm_middle
def xg:gi M n=true↔(2<=n/\n<M.j9.2.getD 0 0)/\n∉M.all:=by unfold gi dZ.all;simp only[yB,zT,Bool.or_eq_false_iff,decide_eq_false_iff_not,Option.isNone_iff_eq_none,uq,zD,not_or];constructor;rintro⟨⟨⟨⟨⟨I,J⟩,h⟩,u⟩,E⟩,G⟩;exact⟨⟨oJ,oJ⟩,u,E,h,G⟩;rintro⟨⟨I,J⟩,h,u,E,G⟩;exact⟨⟨⟨⟨⟨oJ,oJ⟩,E⟩,h⟩,u⟩,G⟩
def qwB{r:List Int}{v:Int×List Int}(u:M.Q1=n::r)(G:M.Wf):(r++(M.J7++(M.Q5++(gQ n v M.J8).map (·.1)))).Perm M.all:=by
 have h:n∉M.J8.map (·.1):=fun I=>by have E:=G.nodup;rw[u,xJ,nodup_cons] at E;exact E.1 (zI _ (zI _ (zI _ I)))
 rw[qsd h,xN,dZ.all,u];show (r++(M.J7++(M.Q5++(M.J8.map (·.1)++[n])))).Perm (n::(r++(M.J7++(M.Q5++M.J8.map (·.1)))));rw[<- zV M.Q5,<- zV M.J7,<- zV r];exact perm_append_singleton n _
def G0{M':dZ}(h:M.Wf)(u:M'.j9=M.j9)(E:M'.Q9=M.Q9)(I:∀x∈M'.Q2,gI x)(G:M'.all.Perm M.all)(J:M'.Q1.Pairwise (· < ·))(R:M'.J7.Pairwise (· < ·))(U:∀e∈M'.J8,(0<=e.2.1/\e.2.1<256)/\e.2.2.length<=500/\eH e.2.2):M'.Wf where
 n4:=by rw[u];exact h.n4
 u32:=by rw[u];exact h.u32
 Q2:=I
 cN:=by rw[E];exact h.cN
 Q9:=by rw[E,u];exact h.Q9
 cU:=J
 qD:=R
 nodup:=G.nodup_iff.2 h.nodup
 range:=fun x V=>by rw[u];exact h.range x (G.mem_iff.1 V)
 body:=U
def qtO{kind:Int}(u:M.Wf)(I:0<=kind/\kind<256)(J:eH body):(gc M kind body).2.Wf/\(gc M kind body).2.all.Perm M.all:=by
 unfold gc;split;exact⟨u,.refl _⟩;split;exact⟨u,.refl _⟩;rename_i U;split;exact⟨u,.refl _⟩;rename_i n r E;have G:=qwB (v:=(kind,body)) E u;refine⟨G0 u rfl rfl u.Q2 G ?_ u.qD fun e R=>?_,G⟩
 have:=u.cU
 rw[E,yJ] at this;exact this.2;rcases CF R with h|h;exact u.body e h;rw[h];exact⟨I,by show body.length<=500;omega,J⟩
def qwP{kind:Int}(u:M.Wf)(G:0<=kind/\kind<256)(I:eH body):(jp M n kind body).2.Wf/\(jp M n kind body).2.all.Perm M.all:=by
 unfold jp;split;exact⟨u,.refl _⟩;split;exact⟨u,.refl _⟩;rename_i q J;split;exact⟨u,.refl _⟩;rename_i V;have R:n∈M.J8.map (·.1):=mem_map.2 ⟨_,(tf J).2,rfl⟩;have E:({ M with J8:=gQ n (kind,body) M.J8 }:dZ).all=M.all:=by show M.Q1++(M.J7++(M.Q5++(gQ n (kind,body) M.J8).map (·.1)))=_;rw[qp5 R];rfl
 refine⟨G0 u rfl rfl u.Q2 (by rw[E]) u.cU u.qD fun e U=>?_,by rw[E]⟩;rcases CF U with h|h;exact u.body e h;rw[h];exact⟨G,by show body.length<=500;omega,I⟩
def qtv(u:M.Wf):(fl M n).2.Wf:=by
 unfold fl;split;exact u;split;rename_i q R;have U:n∈M.J8.map (·.1):=mem_map.2 ⟨_,(tf R).2,rfl⟩;have V:=u.nodup;have I:n∉M.Q1:=fun h=>by rw[yM] at V;exact V.2.2 n h n (zI _ (zI _ U)) rfl
 have G:({ M with J8:=ju n M.J8,Q1:=ins n M.Q1 }:dZ).all.Perm M.all:=by
  show (ins n M.Q1++(M.J7++(M.Q5++(ju n M.J8).map (·.1)))).Perm (M.Q1++(M.J7++(M.Q5++M.J8.map (·.1))));refine ((zy I).append_right _).trans ?_;have h1:=qpj U;have h2:(M.J7++(M.Q5++M.J8.map (·.1))).Perm (n::(M.J7++(M.Q5++(ju n M.J8).map (·.1)))):=by refine ((h1.append_left M.Q5).append_left M.J7).trans ?_;rw[<- zV,<- zV];exact perm_middle
  exact (perm_middle.symm.trans (h2.symm.append_left M.Q1))
 exact G0 u rfl rfl u.Q2 G (BS u.cU) u.qD fun e he=>u.body e (qrI he);rename_i R;split;rename_i E;have E:=xg.1 E;have J:n∉M.J7:=fun h=>E.2 (zI _ (zH _ h));have G:({ M with J7:=ins n M.J7 }:dZ).all.Perm (n::M.all):=by show (M.Q1++(ins n M.J7++(M.Q5++M.J8.map (·.1)))).Perm (n::(M.Q1++(M.J7++(M.Q5++M.J8.map (·.1)))));exact (((zy J).append_right _).append_left M.Q1).trans perm_middle
 refine { n4:=u.n4,u32:=u.u32,Q2:=u.Q2,cN:=u.cN,Q9:=u.Q9,cU:=u.cU,qD:=BS u.qD,nodup:=G.nodup_iff.2 (nodup_cons.2 ⟨E.2,u.nodup⟩),range:=fun x hx=>?_,body:=u.body };rcases zG.1 (G.mem_iff.1 hx) with rfl|h;exact E.1;exact u.range x h;exact u
def qtV{t:Int}{ov:Bool}(u:M.Wf)(h:jA M=some (y5,Q9))(E:s.2.getD 0 0=M.j9.2.getD 0 0)(G:∀x∈s.2,gI x):(iq s y5 Q9 t ov Q9).Wf:=
 D6 (by rw[E];exact CN u h) (by rw[E];exact u.n4) G
def ET(u:M.Wf)(h:jA M=some (y5,Q9)):∀x∈(fP M y5 Q9).2,gI x:=by
 have G:=CN u h;have I:=u.n4;intro x E;simp only[fP,zD,zG,xX,or_false] at E;rcases E with (rfl|rfl|rfl)|E;exact qrr u.u32 0;cases y5 with
 | nil=>exact⟨oM,oM⟩
 | cons a r=>
  have:=G.rA a oL
  show 0<=a/\a<4294967296;omega
 exact vK _;exact u.Q2 x E
def qx2(u:M.Wf)(h:jA M=some (y5,Q9))(E:M.Q2.length=24)(G:0<=M.j9.1/\M.j9.1<4611686018427387903):kS (fP M y5 Q9)/\(fP M y5 Q9).1=M.j9.1+1:=by have e:wrap .u64 (M.j9.1+1)=M.j9.1+1:=xa _ oJ;refine⟨⟨?_,?_,ET u h⟩,e⟩;show 0<=wrap .u64 (M.j9.1+1)/\wrap .u64 (M.j9.1+1)<_;rw[e];omega;show ([M.j9.2.getD 0 0,y5.headD 0,wrap .u32 (Q9.length:Int)]++M.Q2).length=27;rw[zF,E];rfl
def qvQ(h:M.Wf):(gG D M).1.2.Wf:=by unfold gG;split;exact h;split;exact h;split;exact h;rename_i x u;obtain⟨y5,Q9⟩:=x;split;exact qzq;exact qtV h u rfl (ET h u)
section
def Ac:List Int->List Int->Bool
 | a::b::c::r,h::b'::u::r'=>bif (bif a==h then bif b==b' then bif c==u then true else false else false else false) then Ac r r' else false
 | _,_=>true
def qtw:∀(n:Nat) (l l':List Int),l.length=3*n->l'.length=3*n->Ac l l'=decide (l=l')
 | 0,l,l',h,u=>by have E:l=[]:=eq_nil_of_length_eq_zero oJ;have G:l'=[]:=eq_nil_of_length_eq_zero oJ;subst E G;simp[Ac]
 | n+1,l,l',h,u=>by
  match l,l',h,u with
  | a::b::c::r,I::b'::J::r',h,u=>
   have:=qtw n r r' (by simp at h;omega) (by simp at u;omega)
   rw[Ac,this];by_cases E:a=I<;>by_cases G:b=b'<;>by_cases h3:c=J<;>by_cases h4:r=r'<;>simp[E,G,h3,h4]
  | [],_,h,_=>simp at h
  | [_],_,h,_=>simp at h;omega
  | [_,_],_,h,_=>simp at h;omega
  | _::_::_::_,[],_,h=>simp at h
  | _::_::_::_,[_],_,h=>simp at h;omega
  | _::_::_::_,[_,_],_,h=>simp at h;omega
abbrev Gl:TypeId:=183
def qAn(a0 a1 a2 a3 a4 a5 a6 a7 a8 a9 h u E G I J R U V aa ab ac ad ae b0 b1 b2 b3 b4 b5 b6 b7 b8 b9 af ag ah ai aj ak al am an ao ap aq ar au:Int): sP prog 3 Gl (.agg (([a0,a1,a2,a3,a4,a5,a6,a7,a8,a9,h,u,E,G,I,J,R,U,V,aa,ab,ac,ad,ae]:List Int).map (Value.int .u32)).toArray) (.agg (([b0,b1,b2,b3,b4,b5,b6,b7,b8,b9,af,ag,ah,ai,aj,ak,al,am,an,ao,ap,aq,ar,au]:List Int).map (Value.int .u32)).toArray) = some (Ac [a0,a1,a2,a3,a4,a5,a6,a7,a8,a9,h,u,E,G,I,J,R,U,V,aa,ab,ac,ad,ae] [b0,b1,b2,b3,b4,b5,b6,b7,b8,b9,af,ag,ah,ai,aj,ak,al,am,an,ao,ap,aq,ar,au]):=by kernel_rfl
def qwx(h:l.length=24):∃a0 a1 a2 a3 a4 a5 a6 a7 a8 a9 u E G I J R U V aa ab ac ad ae af,l=[a0,a1,a2,a3,a4,a5,a6,a7,a8,a9,u,E,G,I,J,R,U,V,aa,ab,ac,ad,ae,af]:=
 match l,h with
 | [a0,a1,a2,a3,a4,a5,a6,a7,a8,a9,u,E,G,I,J,R,U,V,aa,ab,ac,ad,ae,af],_=>⟨_,_,_,_,_,_,_,_,_,_,_,_,_,_,_,_,_,_,_,_,_,_,_,_,rfl⟩
def qvi{x y:Operand}{K:Bool->Prop}(u:l.length=24)(h:l'.length=24)(k:K (decide (l=l'))): eX [gX.one Cell.bool] (fun w'=>(do eqGuard .eql Gl x y (.agg (l.map (Value.int .u32)).toArray) (.agg (l'.map (Value.int .u32)).toArray);binOp .eql Gl (.agg (l.map (Value.int .u32)).toArray) (.agg (l'.map (Value.int .u32)).toArray):Sem Value).run prog w') w K:=by refine E6 3 oM (Ac l l') ?_ oK (by rw[qtw 8 l l' u h];exact k);obtain⟨a0,a1,a2,a3,a4,a5,a6,a7,a8,a9,E,G,I,J,R,U,V,aa,ab,ac,ad,ae,af,ag,rfl⟩:=qwx u;obtain⟨b0,b1,b2,b3,b4,b5,b6,b7,b8,b9,ah,ai,aj,ak,al,am,an,ao,ap,aq,ar,au,av,aw,rfl⟩:=qwx h;exact qAn ..
def qwC{mb:Nat}{f:List (Int×Value)}{K:Int->Prop}(h:jc jt w mb f)(k:K f.length): eX [gX.one .i] (fun w'=>(Builtin.len_ #[BR] 3 #[Value.map (some mb)]).run prog w') w K:=by
 obtain⟨u,c,E,G,_⟩:=h;have I:(u.size:Int)=f.length:=by
  have:=congrArg List.length G
  simp at this;omega
 refine ru (ts:=[gX.one .i]) (u.size:Int) ?_ (by rw[I];exact k)
 have:=run_len_map (P:=prog) (w:=w) BR 3 mb u c oK E
 exact this
section
variable {db:Option Addr} {j9:nJ} {sl sn:Sl} {x6:Int} {Q3:Bool} {fb defb mb:Nat} {Q2:List Int} {wk:List Value}
def DB(u:j9.2.length=27)(E:Q2.length=24):((fO db j9 sl sn x6 Q3 fb defb mb Q2).toList.drop 36).take 24=Q2.map (Value.int .u32):=by have h:((Value.pointer db::eT j9.1 j9.2)++m9 sl sn x6 Q3 fb defb mb).length=36:=(by rw[zF,sq u];rfl);show (((Value.pointer db::eT j9.1 j9.2)++m9 sl sn x6 Q3 fb defb mb++Q2.map (Value.int .u32)).drop 36).take 24=_;rw[<- h,drop_append_of_le_length (zM _),drop_length,xI,zS (by rw[zK,E];exact zM _)]
def qwI(h:j9.2.length=27):((fO db j9 sl sn x6 Q3 fb defb mb Q2).toList.drop 5).take 24=(j9.2.drop 3).map (Value.int .u32):=by rw[<- FO];exact FF h
def qvb{h:nJ}(E:j9.2.length=27)(u:h.2.length=27):dS (fj db j9 sl sn x6 Q3 wk) 1 (eT h.1 h.2)=fj db h sl sn x6 Q3 wk:=by
 have:=tQ (A:=[Value.pointer db]) (X:=eT j9.1 j9.2) (Y:=eT h.1 h.2) (Z:=([sl.v,sn.v,.i x6,.bool Q3]:List Value)++wk) (by rw[pM E,pM u])
 simpa[fj] using this
end
def quB{q a c:Int}(G:Q2.length=24)(w:World):(Instr.build 185 #[(0,.int .u64 q),(1,.u a),(3,.u c),(4,.agg (Q2.map (Value.int .u32)).toArray)]).run prog w=.ok (.agg (eT q ([a,0,c]++Q2)).toArray) w:=by
 obtain⟨z,I,h⟩:=yT.1 tz;have E:z.cells=(eT 0 (zs 27)).toArray:=(by rw[<- h]);refine BM (parts:=[(0,.int .u64 q),(1,.u a),(3,.u c),(4,.agg (Q2.map (Value.int .u32)).toArray)]) (offs:=#[(0,1),(1,1),(2,1),(3,1),(4,24)]) I oK (fun w=>oK) ?_ w;have J:(Value.agg (Q2.map (Value.int .u32)).toArray).cells.size=24:=(by show (Q2.map (Value.int .u32)).toArray.size=24;simp[G]);rw[E,rH (o:=0) (s:=1) rfl rfl (zO rfl),rH (o:=1) (s:=1) rfl rfl (zO rfl),rH (o:=3) (s:=1) rfl rfl (zO rfl),rH (o:=4) (s:=24) rfl J (zO rfl)];refine congrArg some ?_
 have:=tQ (A:=[.int .u64 q,.u a,.u 0,.u c]) (X:=(zs 24).map (Value.int .u32)) (Z:=[]) (Y:=Q2.map (Value.int .u32)) (by simp[G,pA])
 refine Eq.trans ?_ (this.trans ?_);rfl;simp[eT]
def quz(w:World):(Instr.build rP #[(5,.bool true)]).run prog w=.ok (.agg (fj none gC dG dG 0 true (ia none none none (zs 24)))) w:=by refine BM (parts:=[(5,.bool true)]) (offs:=#[(0,1),(1,28),(29,1),(30,1),(31,1),(32,1),(33,27)]) pgZ oK (fun w=>oK) ?_ w;rw[rH (o:=32) (s:=1) rfl rfl (zO rfl)];rfl
def pu (dbk:Nat) (M:dZ):Option Addr:=if M.Q3 then none else pW dbk
structure Hp (w:World) (dbk pb:Nat) (FD F:List Nat) (D:dI) (M:dZ) (k:Nat):Prop where
 cP:eQ w dbk FD D
 lim:lK D k
 x8:eF w FD pb (pu dbk M) F M
def A5 (S:List Nat) (w w':World) (S':List Nat):Prop:=Fr S w w'/\∀b∈S',b∈S\/w.heap.size<=b
def qzo:((l.map (Value.int .u32)).all Value.oneCell')=true:=by rw[all_eq_true];intro v h;obtain⟨x,_,rfl⟩:=mem_map.1 h;rfl
def qyt{x y:Option Addr}{m:Option Nat}:((ia x y m Q2).all Value.oneCell')=true:=by rw[ia,all_append,qzo];rfl
def qzx(h:(wk.all Value.oneCell')=true):((fj db j9 sl sn x6 Q3 wk).toList.all Value.oneCell')=true:=by show ((((Value.pointer db::eT j9.1 j9.2)++([sl.v,sn.v,.i x6,.bool Q3]:List Value))++wk).all Value.oneCell')=true;rw[all_append,all_append,h,all_cons,DJ];rfl
def eF.tB{X':List Nat}(h:eF w X pb db F M)(E:∀b∈X',b∈X):eF w X' pb db F M:=
 h.pg (.refl X w) (fun b u=>h.ow b (E b u)) (fun b u=>.inl (E b u))
def qsx(hdisk:eQ w dbk FD D)(hlim:lK D k)(hpag:eF w X pb (pu dbk M) F M)(hsub:∀b∈FD,b∈X)(hW:M.Wf)(hk6:k+5000<=1000000)(ht:0<=M.x6/\M.x6<=1000000000)(hv:Hv w)(hg:HG∉FD)(kk:∀FD' F' w',eQ w' dbk FD' (gG D M).1.1->lK (gG D M).1.1 (k+5000)->eF w' (FD'++X) pb (pu dbk (gG D M).1.2) F' (gG D M).1.2->A5 (FD++F) w w' (FD'++F')->K (gG D M).2 w'): cW 72 [dF pb] dj w K:=by
 have hall:=dZ.Wf.all M hW;have same:∀ {e:Int} {w':World},gG D M=((D,M),e)->Fr [] w w'->K e w':=by
  intro e w' he hf
  have:=kk FD F w' (by rw[he];exact hdisk.q7 hf) (by rw[he];exact hlim.mono oJ) (by rw[he];exact (hpag.q7 hf).tB fun b hb=>(zD.1 hb).elim (hsub b) id) ⟨hf.mono (fun b hb=>by cases hb),fun b hb=>.inl hb⟩
  rw[he] at this;exact this
 have hpag0:=hpag;obtain⟨fb,defb,mb,sl,sn,F1,F2,fs,rfl,hx⟩:=hpag;refine qhJ (p:=pW pb)<|fG (iI (c:=.bool) hx.cell M.Q3 (Am hx.Q8) ?_);refine dV (fun hc=>same (by rw[gG,if_pos hc]) (.refl _ _)) (fun hc=>?_);have ho:¬M.Q3=true:=(by rw[hc];decide);have hof:M.Q3=false:=hc;have hdb:pu dbk M=pW dbk:=if_neg ho;rw[hdb] at hx hpag0;have hxd:=hx.q7 (Fr.refl [] w).drew;have hfl:fs.length=M.J8.length:=(by rw[hx.J8];simp);have hsr:(M.j9.2.drop 3).length=24:=(by rw[yC,hx.Q8]);refine hU (fun b w'=>b=decide (M.J8=[]/\M.J7=[]/\M.Q2=M.j9.2.drop 3)/\w'=w.drew) ?_ ?_;refine fG (iI (w:=w.drew) (c:=.map) hxd.cell (some mb) (sX hx.Q8) ?_);refine qwC hxd.map ?_;rw[zK,hfl];apply dV<;>intro hc1;have h1:M.J8=[]:=eq_nil_of_length_eq_zero (by have:(M.J8.length:Int)=0:=(oP hc1);omega);refine fG (iI (w:=w.drew) (c:=.ptr) hxd.cell (pW defb) (CM hx.Q8) ?_);refine qtd hxd.J7 ?_;apply dV<;>intro hc2;have h2:M.J7=[]:=eq_nil_of_length_eq_zero (by have:(M.J7.length:Int)=0:=(oP hc2);omega);refine fG (qC (b:=pb) (off:=36) hxd.cell (M.Q2.map (Value.int .u32)) (by rw[zK,hx.x7]) (DB hx.Q8 hx.x7) ?_);refine fG (qC (b:=pb) (off:=5) hxd.cell ((M.j9.2.drop 3).map (Value.int .u32)) (by rw[zK,hsr]) (qwI hx.Q8) ?_);refine qvi hx.x7 hsr ⟨?_,rfl⟩;simp[h1,h2];have h2:M.J7≠[]:=fun e=>by rw[e] at hc2;simp at hc2
 exact⟨by simp[h2],rfl⟩;have h1:M.J8≠[]:=fun e=>by rw[e] at hc1;simp at hc1
 exact⟨by simp[h1],rfl⟩;rintro b w1 ⟨rfl,rfl⟩;have f01:Fr [] w w.drew:=(Fr.refl [] w).drew;refine dV (fun hc=>same (by rw[gG,if_neg ho,if_pos (zC hc)]) f01) (fun hc=>?_);have hne:=zB hc;refine qxm (hpag0.q7 f01) hW (fun hpl w2 f2=>?_) (fun sp sm y5 Q9 w2 hpl f2 hrd=>?_);exact cond_true rfl<|same (by rw[gG,if_neg ho,if_neg hne,hpl]) (f01.trans f2);refine cond_false rfl ?_;have hcm:gG D M=if (gJ D M.J8 y5 Q9 (fP M y5 Q9)).2≠0 then (((gJ D M.J8 y5 Q9 (fP M y5 Q9)).1,tY),(gJ D M.J8 y5 Q9 (fP M y5 Q9)).2)
  else (((gJ D M.J8 y5 Q9 (fP M y5 Q9)).1,iq (fP M y5 Q9) y5 Q9 (M.x6+1) false Q9),0):=by rw[gG,if_neg ho,if_neg hne,hpl]
 have hplan:=hpl;unfold jA at hplan;split at hplan;cases hplan;rename_i hroom;have hpn:=yO hplan;have hpg:y5=M.Q1.take (eJ (M.Q1.length+(M.J7++M.Q5).length)):=(congrArg Prod.fst hpn).symm;have hnm:Q9=gE ((M.J7++M.Q5)++M.Q1.drop (eJ (M.Q1.length+(M.J7++M.Q5).length))):=(congrArg Prod.snd hpn).symm;have hplf:y5.length<=M.Q1.length:=(by rw[hpg,yL];omega);have hpl4:y5.length<=4096:=oJ;have hnl4:Q9.length<=4096:=by
  have:=qnq ((M.J7++M.Q5)++M.Q1.drop (eJ (M.Q1.length+(M.J7++M.Q5).length)))
  rw[<- hnm] at this;simp only[zF,yC] at this;omega
 have hpm:∀x∈y5,2<=x/\x<M.j9.2.getD 0 0:=fun x hx=>by rw[hpg] at hx;exact hW.range x (zH _ (yV hx))
 have hblk4:=hW.n4;have hpu:∀x∈y5,gI x:=fun x hx=>by have:=hpm x hx;constructor<;>omega
 have hns:Q9.Pairwise (· < ·):=(by rw[hnm];exact AO _);have f02:=f01.trans f2;have hx2:=hx.q7 f02;have hx2d:=hx2.q7 (Fr.refl [] w2).drew;refine fG (iI (w:=w2.drew) (c:=.int .u64) hx2d.cell M.j9.1 qwH ?_);refine fG (iI (w:=w2.drew) (c:=.u) hx2d.cell (M.j9.2.getD 0 0) (Ew hx.Q8 0 oM) ?_);refine fG (qC (b:=pb) (off:=36) hx2d.cell (M.Q2.map (Value.int .u32)) (by rw[zK,hx.x7]) (DB hx.Q8 hx.x7) ?_);have hmlen:sm.len=Q9.length:=(hrd [] oL).2.1;refine ru (ts:=[gX.k7]) (eT (wrap .u64 (M.j9.1+1)) ([M.j9.2.getD 0 0,0,wrap .u32 (Q9.length:Int)]++M.Q2)) (by rw[<- hmlen];exact quB hx.x7 _) ?_;have hplen:sp.len=y5.length:=(hrd [] oL).1.1;refine oI (oE [] w2.drew) tz fun r w3 e3 ho3=>?_;have hx3:=hx2d.q7 ho3.fr;refine l9 (vR hx3.cell _ 36 0 (by show _=_;rw[zK,hx.x7];exact DB hx.Q8 hx.x7)) (by show _=_;simp only[Addr.q9];rw[jq hx3.cell];exact Ew hx.Q8 0 oM) (by show _=_;rw[jq hx3.cell];exact qwH) ?_;have l27:([M.j9.2.getD 0 0,0,wrap .u32 (Q9.length:Int)]++M.Q2).length=27:=(by rw[zF,hx.x7];rfl);have n27:(fP M y5 Q9).2.length=27:=(by show ([M.j9.2.getD 0 0,y5.headD 0,wrap .u32 (Q9.length:Int)]++M.Q2).length=27;rw[zF,hx.x7];rfl);have hG:∀b∈FD++pb::mb::(F1++F2),b<w.heap.size:=fun b hb=>by rcases zD.1 hb with h|h;exact hdisk.lt b h;exact hx.lt b h
 have hrdG:=hrd (FD++pb::mb::(F1++F2)) hG;refine zn ho3 0 rfl rfl l27 fun w4 ho4=>hU (fun _ w'=>dQ [] w2.drew w' [(r,.cells (eT (fP M y5 Q9).1 (fP M y5 Q9).2).toArray 185 (0,0))]) ?_ ?_;apply dV<;>intro hc;have hp0:0<y5.length:=(by have:=zC hc;dsimp only at this;omega);have f24:Fr [] w2 w4:=(Fr.refl [] w2).drew.trans ho4.fr;refine Rd.at ((hrd [] oL).1.q7 f24) 0 rfl (zA hp0)<|oG ho4 0 rfl (eT (fP M y5 Q9).1 (fP M y5 Q9).2).toArray ?_ rfl (by rw[Dh l27];exact zO rfl) fun w5 ho5 f5=>ho5;have hh:y5.headD 0=y5[0]:=by
  cases y5 with
  | nil=>simp at hp0
  | cons a r=>rfl
 show dS (eT _ ([M.j9.2.getD 0 0]++0::(wrap .u32 (Q9.length:Int)::M.Q2))).toArray 2 [.u y5[0]]=_
 have:=qn5 (q:=wrap .u64 (M.j9.1+1)) (x:=0) (y:=y5[0]) (A:=[M.j9.2.getD 0 0]) (Z:=wrap .u32 (Q9.length:Int)::M.Q2)
 refine this.trans ?_;rw[fP,hh];rfl;have hp0:y5=[]:=eq_nil_of_length_eq_zero (by have:=zB hc;dsimp only at this;omega);have e:eT (fP M y5 Q9).1 (fP M y5 Q9).2=eT (wrap .u64 (M.j9.1+1)) ([M.j9.2.getD 0 0,0,wrap .u32 (Q9.length:Int)]++M.Q2):=by rw[fP,hp0];rfl
 rw[e];exact ho4;rintro _ w5 ho5;refine uF (ho5.at (i:=0) rfl) n27 ?_;have f25:Fr [] w2 w5:=(Fr.refl [] w2).drew.trans ho5.fr;have f05:=f02.trans f25;have hd5:=hdisk.q7 f05;have hp5:=hpag0.q7 f05;have hq0:0<=(fP M y5 Q9).1:=by show 0<=wrap .u64 (M.j9.1+1);unfold wrap;have:(IntKind.u64.signed)=false:=rfl;simp only[this,Bool.false_and,Bool.false_eq_true,if_false];exact Int.emod_nonneg _ oM
 have hkeyU:∀x∈M.J8.map (·.1),gI x:=fun x hx=>by
  have:=hW.range x (zI _ (zI _ (zI _ hx)))
  constructor<;>omega
 have hkeyN:(M.J8.map (·.1)).Nodup:=hW.nodup.sublist (((sublist_append_right _ _).trans (sublist_append_right _ _)).trans (sublist_append_right _ _));refine qvz (next:=fP M y5 Q9) (D:=D) (DS.refl hd5 hlim) (hp5.tB hsub) hW.body hkeyN hkeyU oJ oJ (hv.q7 f05) hg ((hrdG.2.q7 f25).j6 fun b hb=>.inl (zH _ hb)) ((hrdG.1.q7 f25).j6 fun b hb=>.inl (zH _ hb)) oJ oJ hpu n27 hq0 fun w6 FD6 d6 f6 n6=>?_;have hp6:=hp5.pg (X':=FD6++X) (f6.mono fun b hb _=>hsub b hb) (fun b hb=>(zD.1 hb).elim (d6.at_.lt b) fun hb=>yD (hp5.ow b hb) f6.size) fun b hb=>(zD.1 hb).elim (fun hb=>(n6 b hb).imp (hsub b) id) .inl;obtain⟨fb6,defb6,mb6,sl6,sn6,G1,G2,fs6,hF6,hx6⟩:=id hp6;have hpbn:pb∉FD6++X:=fun hm=>hx6.mC pb hm oL;have hFD:∀b∈FD6,b∈FD++pb::mb::(F1++F2)\/w.heap.size<=b:=fun b hb=>by rcases n6 b hb with h|h;exact .inl (zH _ h);exact .inr (zL f05.size h)
 have hlt6:w.heap.size<=w6.heap.size:=zL f05.size f6.size;have f06:Fr (FD++pb::mb::(F1++F2)) w w6:=(f05.mono fun b hb=>by cases hb).trans (f6.mono fun b hb _=>zH _ hb);have hend:∀ {F':List Nat} {w8 w9:World},Fr [pb] w6 w8->Fr [pb] w8 w9->(∀b∈F',b=pb\/w8.heap.size<=b)->A5 (FD++pb::mb::(F1++F2)) w w9 (FD6++F')/\eQ w9 dbk FD6 (gJ D M.J8 y5 Q9 (fP M y5 Q9)).1:=by intro F' w8 w9 g8 g9 hF';have g69:=g8.trans g9;refine⟨⟨f06.trans (g69.mono fun b hb _=>by simp at hb;subst hb;simp),fun b hb=>?_⟩,d6.at_.q8 g69 fun b hb=>by simp;rintro rfl;exact hpbn (zH _ hb)⟩;rcases zD.1 hb with hb|hb;exact hFD b hb;rcases hF' b hb with h|h;exact .inl (by rw[h];simp);exact .inr (zL (zL hlt6 g8.size) h)
 have hpX:∀ {w8:World},Fr [pb] w6 w8->∀b∈FD6++X,b<w8.heap.size/\b≠pb:=fun g8 b hb=>⟨yD (hp6.ow b hb) g8.size,fun e=>hpbn (e▸hb)⟩;have hcell6:=hx6.cell;rw[<- FO] at hcell6;have hwk:(ia (pW fb6) (pW defb6) (some mb6) M.Q2).length=27:=wR hx.x7;have hlim6:lK (gJ D M.J8 y5 Q9 (fP M y5 Q9)).1 (k+5000):=d6.lim.mono oJ;apply dV<;>intro hc;have hc:(gJ D M.J8 y5 Q9 (fP M y5 Q9)).2≠0:=(oP hc);rw[if_pos hc] at hcm;rw[hcm] at kk;refine ru (ts:=[gX.k7]) (fj none gC dG dG 0 true (ia none none none (zs 24))).toList (quz w6)<|fG ?_;have hsz60:(fj none gC dG dG 0 true (ia none none none (zs 24))).toList.length=60:=(by rw[Array.length_toList,ut rfl];rfl);refine pD hsz60<|rm (b:=pb) (off:=0) hcell6 (fj none gC dG dG 0 true (ia none none none (zs 24))) (by rw[lZ (by rw[hsz60,ut hx.Q8,hwk])]) (qzx (qyt)) (by rw[hsz60,ut hx.Q8,hwk];exact zO rfl) fun w7 c7 f7=>Fs (X:=FD6++X) (Q5:=[]) (Q9:=[]) c7 rfl (wR (pA 24)) oM (hpX f7) (.nil _ _ _ _) (.nil _ _ _ _) oM fun F' w8 hp8 f8 n8=>?_;have he:=hend f7 f8 n8;exact kk FD6 F' w8 he.2 hlim6 hp8 he.1;have hc:¬(gJ D M.J8 y5 Q9 (fP M y5 Q9)).2≠0:=(oP hc);rw[if_neg hc] at hcm;rw[hcm] at kk;have hsup6:w6.heap[r]?=some (.cells (eT (fP M y5 Q9).1 (fP M y5 Q9).2).toArray 185 (0,0)):=(by rw[f6.block r (eV (ho5.at (i:=0) rfl)) (fun hm=>by have:=hd5.lt r hm;have:=hdisk.lt r hm;have h1:w.heap.size<=w2.drew.heap.size:=f02.size;omega)];exact ho5.at (i:=0) rfl);refine uF hsup6 n27<|fG<|pD (pM n27)<|rm (b:=pb) (off:=1) hcell6 (fj (pW dbk) (fP M y5 Q9) sl6 sn6 M.x6 M.Q3 (ia (pW fb6) (pW defb6) (some mb6) M.Q2)) (qvb hx.Q8 n27) (DJ _ _) (by rw[pM n27,ut hx.Q8,hwk];exact zO rfl) fun w7 c7 f7=>fG<|rm (b:=pb) (off:=29) c7 (fj (pW dbk) (fP M y5 Q9) sp sn6 M.x6 M.Q3 (ia (pW fb6) (pW defb6) (some mb6) M.Q2)) (qpZ n27) rfl (by rw[ut n27,hwk];exact zO rfl) fun w8 c8 f8=>fG<|rm (b:=pb) (off:=30) c8 (fj (pW dbk) (fP M y5 Q9) sp sm M.x6 M.Q3 (ia (pW fb6) (pW defb6) (some mb6) M.Q2)) (qp0 n27) rfl (by rw[ut n27,hwk];exact zO rfl) fun w9 c9 f9=>?_;have f69:=(f7.trans f8).trans f9;have hGX:∀b∈X++[pb],b<w.heap.size:=fun b hb=>by rcases zD.1 hb with h|h;exact hx.ow b h;rw[zE.1 h];exact eV hx.cell
 have hrdX:=hrd (X++[pb]) hGX;have hst:∀ {s:Sl} {l:List Int},Rd (X++[pb]) w2 s l->Rd ((FD6++X)++[pb]) w9 s l:=fun hr=>by
  have h5:=hr.q7 f25;have h6:Rd ((FD6++X)++[pb]) w6 _ _:=h5.q8 (f6.mono fun b hb _=>zH _ (hsub b hb)) fun b hb=>by rcases zD.1 hb with hb|hb;rcases zD.1 hb with hb|hb;rcases n6 b hb with h|h;exact .inl (zH _ (hsub b h));exact .inr h;exact .inl (zH _ hb);exact .inl (zI _ hb)
  exact h6.q8 (f69.mono fun b hb _=>zI _ hb) fun b hb=>.inl hb
 refine Fs (X:=FD6++X) (Q5:=y5) (Q9:=Q9) c9 n27 hwk ht (hpX f69) (hst hrdX.1) (hst hrdX.2) oJ fun F' w10 hp10 f10 n10=>?_;rw[qpu hns,hof] at hp10;have he:=hend f69 f10 n10;exact kk FD6 F' w10 he.2 hlim6 hp10 he.1
end
def eW (M:dZ) (t h u E:Int):Int×dZ:=
 if M.Q3 then (7,M) else if t<0\/t>7 then (4,M) else (0,{ M with Q2:=M.Q2.take (3*t.toNat)++[h,u,E]++M.Q2.drop (3*t.toNat+3) })
def dH (D:dI) (M:dZ) (n:Int):Int×List Int×Int:=
 if M.Q3 then (0,[],7) else match look n M.J8 with
 | some q=>(q.2.1,q.2.2,0)
 | none=>if gi M n=false then (0,[],10) else if (eA D n).2≠0 then (0,[],(eA D n).2) else eU n (eA D n).1
def qhI(u:D.Ok)(E:∀e∈M.J8,eH e.2.2)(n:Int):eH (dH D M n).2.1:=by have h:eH ([]:List Int):=fun x G=>nomatch G;unfold dH;split;exact h;split;rename_i q I;exact E _ (tf I).2;split;exact h;split;exact h;exact (qpN (v8 u n).1 n).1
def dZ.y0 (M:dZ):Prop:=(M.Q1++M.J8.map (·.1)).Perm M.Q9
def qlo(s:nJ)(y5 numbers:List Int)(t:Int)(ov:Bool):(iq s y5 numbers t ov numbers).y0:=by show (numbers++[]).Perm numbers;rw[xH]
def quX{kd:Int}(I:M.Wf)(h:M.y0):(gc M kd l).2.y0:=by
 unfold gc;split;exact h;split;exact h;split;exact h;rename_i n r E;have u:n∉M.J8.map (·.1):=fun J=>by have G:=I.nodup;rw[E,xJ,nodup_cons] at G;exact G.1 (zI _ (zI _ (zI _ J)))
 show (r++(gQ n (kd,l) M.J8).map (·.1)).Perm M.Q9;rw[qsd u,xN,<- zV];refine (perm_append_singleton n _).trans ?_
 have:=h
 rw[dZ.y0,E] at this;exact this
def qwN{kd:Int}(h:M.y0):(jp M n kd l).2.y0:=by unfold jp;split;exact h;split;exact h;rename_i q u;split;exact h;have E:n∈M.J8.map (·.1):=mem_map.2 ⟨_,(tf u).2,rfl⟩;show (M.Q1++(gQ n (kd,l) M.J8).map (·.1)).Perm M.Q9;rw[qp5 E];exact h
def quI(I:M.Wf)(h:M.y0):(fl M n).2.y0:=by
 unfold fl;split;exact h;split;rename_i q J;have E:n∈M.J8.map (·.1):=mem_map.2 ⟨_,(tf J).2,rfl⟩;have G:=I.nodup;have u:n∉M.Q1:=fun h=>by rw[yM] at G;exact G.2.2 n h n (zI _ (zI _ E)) rfl
 show (ins n M.Q1++(ju n M.J8).map (·.1)).Perm M.Q9;refine (((zy u).append_right _).trans ?_).trans h;exact perm_middle.symm.trans ((qpj E).symm.append_left M.Q1);split;exact h;exact h
def dZ.y0.mem(h:M.y0)(x:Int):x∈M.Q9↔x∈M.Q1\/x∈M.J8.map (·.1):=by rw[<- h.mem_iff,zD]
def Cb (l:List Int):ByteArray:=⟨(Lib.bytesOf l).toArray⟩
end
section
open Go Go.Pt List
open Go.IntKind (wrap)
open Classical
variable {D:dI} {L L1 L2:fR} {M:dZ} {N Nl Nr:dL} {R R1 R2 b:List Int} {h n1 n2:Nat} {kd n p q:Int} {key m:Key} {r:Int×List Int}
def gN {β:Type} (n:Int) (l:List (Int×β)):Option β:=(look n l).map (·.2)
def vJ{β:Type}(n:Int)(p:Int×β)(r:List (Int×β)):gN n (p::r)=if n=p.1 then some p.2 else gN n r:=by unfold gN;rw[look];split;rfl;cases look n r<;>rfl
def qw0{β:Type}(n:Int)(v:β)(p:Int×β)(r:List (Int×β)):gQ n v (p::r)=if n=p.1 then (n,v)::r else p::gQ n v r:=by by_cases h:n=p.1;rw[if_pos h];unfold gQ;rw[look,if_pos h];rfl;rw[if_neg h];unfold gQ;rw[look,if_neg h];cases look n r<;>rfl
def qvZ{β:Type}(n:Int)(p:Int×β)(r:List (Int×β)):ju n (p::r)=if n=p.1 then r else p::ju n r:=by by_cases h:n=p.1;rw[if_pos h];unfold ju;rw[look,if_pos h];rfl;rw[if_neg h];unfold ju;rw[look,if_neg h];cases look n r<;>rfl
def Gw{β:Type}(n q:Int)(v:β):∀l:List (Int×β),gN q (gQ n v l)=if q=n then some v else gN q l
 | []=>by show gN q [(n,v)]=_;rw[vJ]
 | p::r=>by rw[qw0];by_cases h:n=p.1;rw[if_pos h,vJ,vJ,<- h];by_cases h2:q=n;rw[if_pos h2,if_pos h2];rw[if_neg h2,if_neg h2,if_neg h2];rw[if_neg h,vJ,Gw n q v r,vJ];by_cases h2:q=p.1;rw[if_pos h2,if_neg (fun e=>h (by rw[<- e,h2])),if_pos h2];rw[if_neg h2,if_neg h2]
def Ee{β:Type}{l:List (Int×β)}:gN n l=none↔n∉l.map (·.1):=by unfold gN;rw[Option.map_eq_none_iff,uq]
def qpF{β:Type}(n q:Int):∀l:List (Int×β),(l.map (·.1)).Nodup->gN q (ju n l)=if q=n then none else gN q l
 | [],_=>by show gN q []=_;split<;>rfl
 | p::r,E=>by have u:=nodup_cons.1 (show (p.1::r.map (·.1)).Nodup from E);rw[qvZ];by_cases h:n=p.1;rw[if_pos h,vJ];by_cases h2:q=n;rw[if_pos h2,h2,h];exact Ee.2 u.1;rw[if_neg h2,if_neg (fun e=>h2 (by rw[e,h]))];rw[if_neg h,vJ,qpF n q r u.2,vJ];by_cases h2:q=p.1;rw[if_pos h2,if_neg (fun e=>h (by rw[<- e,h2])),if_pos h2];rw[if_neg h2,if_neg h2]
def qwn(n:Int):∀l:List Int,l.length<=(ins n l).length
 | []=>yX _
 | a::l=>by
  have:=qwn n l
  simp only[ins];split;simp;split;exact zM _;simp only[yI];omega
def rK:gi M n=true↔2<=n/\n<M.j9.2.getD 0 0/\n∉M.Q5/\n∉M.Q1/\n∉M.J7/\gN n M.J8=none:=by unfold gi gN;rw[Option.map_eq_none_iff];simp only[yB,zT,Bool.or_eq_false_iff,decide_eq_false_iff_not,Option.isNone_iff_eq_none];constructor;rintro⟨⟨⟨⟨⟨I,J⟩,h⟩,u⟩,E⟩,G⟩;exact⟨oJ,oJ,h,u,E,G⟩;rintro⟨I,J,h,u,E,G⟩;exact⟨⟨⟨⟨⟨oJ,oJ⟩,h⟩,u⟩,E⟩,G⟩
def dT (M:dZ) (x:Int):Prop:=x∈M.J8.map (·.1)\/gi M x=true
def cL{x:Int}:x∈M.J8.map (·.1)↔∃q,gN x M.J8=some q:=by
 constructor;intro h;cases e:gN x M.J8 with
 | none=>exact absurd h (Ee.1 e)
 | some q=>exact⟨q,rfl⟩
 rintro⟨q,e⟩;exact Classical.byContradiction fun h=>by rw[Ee.2 h] at e;cases e
def Df(h:M.Q3=false)(n:Int):dH D M n=match gN n M.J8 with
  | some q=>(q.1,q.2,0)
  | none=>if gi M n=false then (0,[],10) else if (eA D n).2≠0 then (0,[],(eA D n).2) else eU n (eA D n).1:=by
 unfold dH gN;rw[if_neg (by rw[h];decide)];cases look n M.J8<;>rfl
def EV(u:M.Q3=false)(h:(dH D M n).2.2=0):dT M n:=by
 rw[Df u] at h;cases e:gN n M.J8 with
 | some q=>exact .inl (cL.2 ⟨q,e⟩)
 | none=>
  rw[e] at h;dsimp only at h;split at h;cases h;rename_i E;exact .inr (oP E)
def qwR(M:dZ)(u:M.Q3=false){q:Int×List Int}(h:gN n M.J8=some q):dH D M n=(q.1,q.2,0):=by rw[Df u,h]
def Ds(M':dZ)(u:M.Q3=false)(h:M'.Q3=false)(E:gN n M'.J8=gN n M.J8)(G:gi M' n=gi M n):dH D M' n=dH D M n:=by rw[Df u,Df h,E,G]
def CK(M':dZ)(h:gN n M'.J8=gN n M.J8)(u:gi M' n=gi M n):dT M' n↔dT M n:=by unfold dT;rw[cL,cL,h,u]
def AX(u:M.Wf){x:Int}(h:dT M x):2<=x/\x<M.j9.2.getD 0 0:=by rcases h with h|h;exact u.range x (by simp only[zD];exact .inr (.inr (.inr h)));exact⟨(rK.1 h).1,(rK.1 h).2.1⟩
structure mh (D:dI) (M M':dZ) (q p:Int) (r:Option (Int×List Int)):Prop where
 wf:M'.Wf
 Q3:M'.Q3=false
 Q2:M'.Q2=M.Q2
 j9:M'.j9=M.j9
 Q5:M'.Q5=M.Q5
 Q9:M'.Q9=M.Q9
 y0:M.y0->M'.y0
 x6:M'.x6=M.x6
 rest:∀ x,x≠q->x≠p->dH D M' x=dH D M x
 use:∀ x,x≠q->x≠p->(dT M' x↔dT M x)
 nW:∀ x,gi M' x=true->gi M x=true
 wrote:∀ y,r=some y->dH D M' q=(y.1,y.2,0)/\dT M' q
 left:p≠q->¬ dT M' p
section
variable {D:dI} {M:dZ}
def qsT{G:List Int}(U:M.Wf)(J:M.Q3=false)(hk:0<=kd/\kd<256)(hB:eH b)(hl:b.length<=500)(R:M.Q1=n::G): ∃M',gc M kd b=((n,0),M')/\mh D M M' n n (some (kd,b))/\¬dT M n/\M'.Q1=G/\M'.J7=M.J7:=by
 have e:gc M kd b=((n,0),{ M with Q1:=G,J8:=gQ n (kd,b) M.J8 }):=(by rw[gc,if_neg (by rw[J];decide),iN,R]);have hw:=(qtO (kind:=kd) (body:=b) U hk hB).1;rw[e] at hw;have V:(n::(G++(M.J7++(M.Q5++M.J8.map (·.1))))).Nodup:=(by have:=U.nodup;rw[R] at this;exact this);have aa:=nodup_cons.1 V;have ab:n∉M.J8.map (·.1):=fun h=>aa.1 (by simp only[zD];exact .inr (.inr (.inr h)));have ac:¬dT M n:=fun h=>by rcases h with h|h;exact ab h;exact (rK.1 h).2.2.2.1 (by rw[R];simp)
 have u:∀x,gN x (gQ n (kd,b) M.J8)=if x=n then some (kd,b) else gN x M.J8:=fun x=>Gw n x _ _
 have I:∀x,x≠n->gi { M with Q1:=G,J8:=gQ n (kd,b) M.J8 } x=gi M x:=fun x E=>by rw[Bool.eq_iff_iff,rK,rK];dsimp only;rw[u,if_neg E,R,zG];constructor;rintro⟨h1,h2,h3,h4,h5⟩;exact⟨h1,h2,h3,fun h=>h.elim E h4,h5⟩;rintro⟨h1,h2,h3,h4,h5⟩;exact⟨h1,h2,h3,fun h=>h4 (.inr h),h5⟩
 refine⟨_,e,⟨hw,J,rfl,rfl,rfl,rfl,fun h=>?_,rfl,fun x E _=>Ds { M with Q1:=G,J8:=gQ n (kd,b) M.J8 } J J (by dsimp only;rw[u,if_neg E]) (I x E),fun x E _=>CK { M with Q1:=G,J8:=gQ n (kd,b) M.J8 } (by dsimp only;rw[u,if_neg E]) (I x E),fun x E=>?_,fun y hy=>?_,fun h=>absurd rfl h⟩,ac,rfl,rfl⟩
 have:=quX (kd:=kd) (l:=b) U h
 rw[e] at this;exact this;by_cases hxn:x=n
 have:=(rK.1 E).2.2.2.2.2
 dsimp only at this;rw[u,if_pos hxn] at this;cases this;rw[I x hxn] at E;exact E;cases hy;refine⟨?_,.inl (cL.2 ⟨(kd,b),by dsimp only;rw[u,if_pos rfl]⟩)⟩;exact qwR { M with Q1:=G,J8:=gQ n (kd,b) M.J8 } J (by dsimp only;rw[u,if_pos rfl])
def qu9(U:M.Wf)(I:M.Q3=false)(V:0<=kd/\kd<256)(hB:eH b)(hl:b.length<=500)(hf:n∈M.J8.map (·.1)): ∃M',jp M n kd b=(0,M')/\mh D M M' n n (some (kd,b))/\M'.Q1=M.Q1/\M'.J7=M.J7:=by
 obtain⟨v,J⟩:=cL.1 hf;have e:jp M n kd b=(0,{ M with J8:=gQ n (kd,b) M.J8 }):=by unfold gN at J;obtain⟨q,hq,_⟩:=yT.1 J;rw[jp,if_neg (by rw[I];decide),hq];dsimp only;rw[iN]
 have R:=(qwP (n:=n) (kind:=kd) (body:=b) U V hB).1;rw[e] at R;have u:∀x,gN x (gQ n (kd,b) M.J8)=if x=n then some (kd,b) else gN x M.J8:=fun x=>Gw n x _ _
 have G:∀x,gi { M with J8:=gQ n (kd,b) M.J8 } x=gi M x:=fun x=>by rw[Bool.eq_iff_iff,rK,rK];dsimp only;rw[u];by_cases E:x=n;rw[if_pos E,E,J];simp;rw[if_neg E]
 refine⟨_,e,⟨R,I,rfl,rfl,rfl,rfl,fun h=>?_,rfl,fun x E _=>Ds { M with J8:=gQ n (kd,b) M.J8 } I I (by dsimp only;rw[u,if_neg E]) (G x),fun x E _=>CK { M with J8:=gQ n (kd,b) M.J8 } (by dsimp only;rw[u,if_neg E]) (G x),fun x E=>by rw[G x] at E;exact E,fun y hy=>?_,fun h=>absurd rfl h⟩,rfl,rfl⟩
 have:=qwN (n:=n) (kd:=kd) (l:=b) h
 rw[e] at this;exact this;cases hy;refine⟨?_,.inl (cL.2 ⟨(kd,b),by dsimp only;rw[u,if_pos rfl]⟩)⟩;exact qwR { M with J8:=gQ n (kd,b) M.J8 } I (by dsimp only;rw[u,if_pos rfl])
def qwO(h:M.Q3=false)(u:n∉M.J8.map (·.1)):jp M n kd b=(10,M):=by rw[jp,if_neg (by rw[h];decide),uq.2 u]
def qlv(hW:M.Wf)(ho:M.Q3=false)(hu:dT M n)(R:n≠q): ∃M',fl M n=(0,M')/\mh D M M' q n none/\(dH D M' q=dH D M q)/\(dT M' q↔dT M q)/\M.Q1.length<=M'.Q1.length:=by
 have hw:=qtv (n:=n) hW;by_cases hf:n∈M.J8.map (·.1);obtain⟨v,hv⟩:=cL.1 hf;have aj:(M.J8.map (·.1)).Nodup:=hW.y9;have e:fl M n=(0,{ M with J8:=ju n M.J8,Q1:=ins n M.Q1 }):=by unfold gN at hv;obtain⟨y,U,_⟩:=yT.1 hv;rw[fl,if_neg (by rw[ho];decide),U]
 rw[e] at hw;have V:∀x,gN x (ju n M.J8)=if x=n then none else gN x M.J8:=fun x=>qpF n x _ aj
 have G:∀x,x≠n->gi { M with J8:=ju n M.J8,Q1:=ins n M.Q1 } x=gi M x:=fun x u=>by rw[Bool.eq_iff_iff,rK,rK];dsimp only;rw[V,if_neg u,zd];constructor;rintro⟨h1,h2,h3,h4,h5⟩;exact⟨h1,h2,h3,fun h=>h4 (.inr h),h5⟩;rintro⟨h1,h2,h3,h4,h5⟩;exact⟨h1,h2,h3,fun h=>h.elim u h4,h5⟩
 have I:¬dT { M with J8:=ju n M.J8,Q1:=ins n M.Q1 } n:=fun h=>by rcases h with h|h;obtain⟨y,U⟩:=cL.1 h;dsimp only at U;rw[V,if_pos rfl] at U;cases U;exact (rK.1 h).2.2.2.1 (zd.2 (.inl rfl))
 have J:∀x,x≠n->dH D { M with J8:=ju n M.J8,Q1:=ins n M.Q1 } x=dH D M x:=fun x u=>Ds { M with J8:=ju n M.J8,Q1:=ins n M.Q1 } ho ho (by dsimp only;rw[V,if_neg u]) (G x u);have E:∀x,x≠n->(dT { M with J8:=ju n M.J8,Q1:=ins n M.Q1 } x↔dT M x):=fun x u=>CK { M with J8:=ju n M.J8,Q1:=ins n M.Q1 } (by dsimp only;rw[V,if_neg u]) (G x u);refine⟨_,e,⟨hw,ho,rfl,rfl,rfl,rfl,fun h=>?_,rfl,fun x _ u=>J x u,fun x _ u=>E x u,fun x u=>?_,fun y U=>(nomatch U),fun _=>I⟩,J q fun e=>R e.symm,E q fun e=>R e.symm,?_⟩
 have:=quI (n:=n) hW h
 rw[e] at this;exact this;by_cases hxn:x=n;subst hxn;exact absurd (.inr u) I;rw[G x hxn] at u;exact u;exact qwn n M.Q1;have ag:gi M n=true:=hu.resolve_left hf;have e:fl M n=(0,{ M with J7:=ins n M.J7 }):=by rw[fl,if_neg (by rw[ho];decide),uq.2 hf];dsimp only;rw[if_pos ag]
 rw[e] at hw;have G:∀x,x≠n->gi { M with J7:=ins n M.J7 } x=gi M x:=fun x u=>by rw[Bool.eq_iff_iff,rK,rK];dsimp only;rw[zd];constructor;rintro⟨h1,h2,h3,h4,h5,h6⟩;exact⟨h1,h2,h3,h4,fun h=>h5 (.inr h),h6⟩;rintro⟨h1,h2,h3,h4,h5,h6⟩;exact⟨h1,h2,h3,h4,fun h=>h.elim u h5,h6⟩
 have I:¬dT { M with J7:=ins n M.J7 } n:=fun h=>by rcases h with h|h;exact hf h;exact (rK.1 h).2.2.2.2.1 (zd.2 (.inl rfl))
 have J:∀x,x≠n->dH D { M with J7:=ins n M.J7 } x=dH D M x:=fun x u=>Ds { M with J7:=ins n M.J7 } ho ho rfl (G x u);have E:∀x,x≠n->(dT { M with J7:=ins n M.J7 } x↔dT M x):=fun x u=>CK { M with J7:=ins n M.J7 } rfl (G x u);refine⟨_,e,⟨hw,ho,rfl,rfl,rfl,rfl,fun h=>?_,rfl,fun x _ u=>J x u,fun x _ u=>E x u,fun x u=>?_,fun y U=>(nomatch U),fun _=>I⟩,J q fun e=>R e.symm,E q fun e=>R e.symm,zM _⟩;exact h;by_cases hxn:x=n;subst hxn;exact absurd (.inr u) I;rw[G x hxn] at u;exact u
end
noncomputable def dJ (D:dI) (M:dZ) (k v:Nat) (p:Int):dL×Int:=
 if (dH D M p).2.2≠0 then (iv,(dH D M p).2.2) else iA (dH D M p).1 (dH D M p).2.1 k v
noncomputable def dO (k v:Nat) (M:dZ) (p:Int) (n:dL):(Int×Int)×dZ:=
 if (eN n k v).2.2≠0 then ((0,2),M)
 else if p≠0/\(jp M p (eN n k v).1 (eN n k v).2.1).1≠10 then ((p,(jp M p (eN n k v).1 (eN n k v).2.1).1),(jp M p (eN n k v).1 (eN n k v).2.1).2)
 else if (gc M (eN n k v).1 (eN n k v).2.1).1.2=0/\p≠0 then (((gc M (eN n k v).1 (eN n k v).2.1).1.1,(fl (gc M (eN n k v).1 (eN n k v).2.1).2 p).1),(fl (gc M (eN n k v).1 (eN n k v).2.1).2 p).2)
 else gc M (eN n k v).1 (eN n k v).2.1
structure ip (n:dL) (k v:Nat):Prop where
 right:fJ n k v
 J6:∀ a∈n.J6,eH a
 Q0:∀ a∈n.Q0,eH a
 J9:∀ x∈n.J9,x<4294967296
def ip.load{k v:Nat}{n:dL}(h:ip n k v)(u:dH D M p=(iH n,gj n,0)):dJ D M k v p=(n,0):=by unfold dJ;rw[u];exact (if_neg (fun h=>h rfl)).trans (qve h.right h.J9)
def qsj{k v:Nat}{n:dL}(hW:M.Wf)(ho:M.Q3=false)(hn:ip n k v)(hp:p=0\/dT M p)(hf:M.Q1≠[]): ∃q M',dO k v M p n=((q,0),M')/\mh D M M' q (if p=0 then q else p) (some (iH n,gj n))/\(q=p\/¬dT M q)/\M.Q1.length<=M'.Q1.length+1/\(p∈M.J8.map (·.1)->q=p/\M'.Q1=M.Q1):=by
 have hw:eN n k v=(iH n,gj n,0):=(by unfold eN;rw[if_pos hn.right]);have hB:=qo8 hn.J6 hn.Q0;have hl:=(CC hn.right).2;have hk:0<=iH n/\iH n<256:=(by unfold iH;split<;>exact⟨oM,oM⟩);unfold dO;rw[hw];dsimp only;rw[if_neg (fun h=>h rfl)];obtain⟨q,fr,J⟩:∃q fr,M.Q1=q::fr:=by
  cases e:M.Q1 with
  | nil=>exact absurd e hf
  | cons q fr=>exact⟨q,fr,rfl⟩
 obtain⟨M1,e1,u,R,ac,_⟩:=qsT (D:=D) hW ho hk hB hl J;rcases hp with rfl|hp;rw[if_neg (fun h=>h.1 rfl),if_neg (fun h=>h.2 rfl),e1];refine⟨q,M1,rfl,by rw[if_pos rfl];exact u,.inr R,by rw[J,ac];exact zM _,fun h=>?_⟩
 have:=(AX hW (.inl h)).1
 omega;have G:p≠0:=(by have:=(AX hW hp).1;omega);by_cases hfp:p∈M.J8.map (·.1);obtain⟨M2,e2,E,U,_⟩:=qu9 (D:=D) hW ho hk hB hl hfp;rw[e2,if_pos ⟨G,(show (0:Int)≠10 by decide)⟩];exact⟨p,M2,rfl,by rw[if_neg G];exact E,.inl rfl,by rw[U];omega,fun _=>⟨rfl,U⟩⟩;rw[qwO ho hfp,if_neg (fun h=>h.2 rfl),e1,if_pos ⟨rfl,G⟩];have V:p≠q:=fun e=>R (e▸hp);have aj:dT M1 p:=(u.use p V V).2 hp;obtain⟨M2,e2,E,ak,al,U⟩:=qlv (D:=D) u.wf u.Q3 aj V;dsimp only;rw[e2];refine⟨q,M2,rfl,?_,.inr R,by rw[J,yI,<- ac];omega,fun h=>absurd h hfp⟩;rw[if_neg G];exact⟨E.wf,E.Q3,E.Q2.trans u.Q2,E.j9.trans u.j9,E.Q5.trans u.Q5,E.Q9.trans u.Q9,fun h=>E.y0 (u.y0 h),E.x6.trans u.x6,fun x I aa=>(E.rest x I aa).trans (u.rest x I I),fun x I aa=>(E.use x I aa).trans (u.use x I I),fun x I=>u.nW x (E.nW x I),fun y hy=>by
  have:=u.wrote y hy
  exact⟨ak.trans this.1,al.2 this.2⟩,fun h=>E.left h⟩
section
structure Grown where
 x5:Int
 J8:Bool
 key:Key
 x4:Int
def oj:Grown:=⟨0,false,[],0⟩
def fK {α:Type} (l:List α) (i:Nat) (x:α):List α:=l.take i++[x]++l.drop i
def eS (n:dL) (k v:Nat):Nat×Nat:=if n.Q4 then (n.J6.length,(dW k v).1) else (n.J9.length,(dW k v).2)
def ee (n:dL) (mid:Nat):dL×dL×Key:=
 if n.Q4 then ({ n with J6:=n.J6.take mid,Q0:=n.Q0.take mid },{ n with J6:=n.J6.drop mid,Q0:=n.Q0.drop mid },n.J6.getD mid [])
 else ({ n with J9:=n.J9.take mid,J6:=n.J6.take (mid-1) },{ n with J9:=n.J9.drop mid,J6:=n.J6.drop mid },n.J6.getD (mid-1) [])
noncomputable def gb (k v:Nat) (M:dZ) (p:Int) (n:dL) (J8:Bool):(Grown×Int)×dZ:=
 if (eS n k v).1>(eS n k v).2 then
  if (dO k v M 0 (ee n ((eS n k v).1 / 2)).2.1).1.2≠0 then ((oj,(dO k v M 0 (ee n ((eS n k v).1 / 2)).2.1).1.2),(dO k v M 0 (ee n ((eS n k v).1 / 2)).2.1).2)
  else ((⟨(dO k v (dO k v M 0 (ee n ((eS n k v).1 / 2)).2.1).2 p (ee n ((eS n k v).1 / 2)).1).1.1,J8,(ee n ((eS n k v).1 / 2)).2.2,(dO k v M 0 (ee n ((eS n k v).1 / 2)).2.1).1.1⟩,
    (dO k v (dO k v M 0 (ee n ((eS n k v).1 / 2)).2.1).2 p (ee n ((eS n k v).1 / 2)).1).1.2),
    (dO k v (dO k v M 0 (ee n ((eS n k v).1 / 2)).2.1).2 p (ee n ((eS n k v).1 / 2)).1).2)
 else ((⟨(dO k v M p n).1.1,J8,[],0⟩,(dO k v M p n).1.2),(dO k v M p n).2)
def gB (n:dL) (c:Nat) (g:Grown):dL:=
 if g.x4≠0 then { n with J9:=fK (n.J9.set c g.x5) (c+1) g.x4,J6:=fK n.J6 c g.key } else { n with J9:=n.J9.set c g.x5 }
noncomputable def gY (D:dI) (k v:Nat) (key val:Key):Nat->dZ->Int->(Grown×Int)×dZ
 | 0,M,_=>((oj,-1),M)
 | f+1,M,p=>
  if (dJ D M k v p).2≠0 then ((oj,(dJ D M k v p).2),M)
  else if (dJ D M k v p).1.Q4 then
   if (dJ D M k v p).1.J6[dN (dJ D M k v p).1.J6 key]?=some key then gb k v M p { (dJ D M k v p).1 with Q0:=(dJ D M k v p).1.Q0.set (dN (dJ D M k v p).1.J6 key) val } false
   else gb k v M p { (dJ D M k v p).1 with J6:=fK (dJ D M k v p).1.J6 (dN (dJ D M k v p).1.J6 key) key,Q0:=fK (dJ D M k v p).1.Q0 (dN (dJ D M k v p).1.J6 key) val } true
  else if (gY D k v key val f M ((dJ D M k v p).1.J9.getD (eh (dJ D M k v p).1.J6 key) 0)).1.2≠0 then
   ((oj,(gY D k v key val f M ((dJ D M k v p).1.J9.getD (eh (dJ D M k v p).1.J6 key) 0)).1.2),(gY D k v key val f M ((dJ D M k v p).1.J9.getD (eh (dJ D M k v p).1.J6 key) 0)).2)
  else if (gY D k v key val f M ((dJ D M k v p).1.J9.getD (eh (dJ D M k v p).1.J6 key) 0)).1.1.x5=(dJ D M k v p).1.J9.getD (eh (dJ D M k v p).1.J6 key) 0/\(gY D k v key val f M ((dJ D M k v p).1.J9.getD (eh (dJ D M k v p).1.J6 key) 0)).1.1.x4=0 then
   ((⟨p,(gY D k v key val f M ((dJ D M k v p).1.J9.getD (eh (dJ D M k v p).1.J6 key) 0)).1.1.J8,[],0⟩,0),(gY D k v key val f M ((dJ D M k v p).1.J9.getD (eh (dJ D M k v p).1.J6 key) 0)).2)
  else gb k v (gY D k v key val f M ((dJ D M k v p).1.J9.getD (eh (dJ D M k v p).1.J6 key) 0)).2 p (gB (dJ D M k v p).1 (eh (dJ D M k v p).1.J6 key) (gY D k v key val f M ((dJ D M k v p).1.J9.getD (eh (dJ D M k v p).1.J6 key) 0)).1.1) (gY D k v key val f M ((dJ D M k v p).1.J9.getD (eh (dJ D M k v p).1.J6 key) 0)).1.1.J8
structure ie where
 x5:Int
 size:Nat
 y4:fR
 y5:List Int
abbrev gM:=Key×ie
def ef (L:fR):dL:=⟨true,L.map (·.1),L.map (·.2),[]⟩
def dM (es:List gM):dL:=⟨false,(es.map (·.1)).tail,[],es.map (·.2.x5)⟩
structure fN (es:List gM):Prop where
 pair:es.Pairwise fun a b=>fE a.1 b.1/\∀ x∈a.2.y4,fE x.1 b.1
 low:∀ e∈es,∀ x∈e.2.y4,lP e.1 x.1
def minOf (k v:Nat) (h:Nat):Nat:=if h=0 then (dW k v).1 / 2 else (dW k v).2 / 2
def Has (D:dI) (M:dZ) (k v:Nat):Nat->ie->Prop
 | 0,s=>s.y5=[s.x5]/\s.size=s.y4.length/\ip (ef s.y4) k v/\dH D M s.x5=(3,gj (ef s.y4),0)
 | h+1,s=>∃u:List gM,(u.map (·.1)).head?=some []/\s.size=u.length/\s.y4=u.flatMap (·.2.y4)/\s.y5=s.x5::u.flatMap (·.2.y5)/\ip (dM u) k v/\dH D M s.x5=(4,gj (dM u),0)/\fN u/\
   ∀e∈u,Has D M k v h e.2/\minOf k v h<=e.2.size
def AQ(x:Key):lP [] x:=by unfold lP fE;cases x<;>simp[cmpL]
def qlR{x:Key}:¬fE x []:=AQ x
section
variable {D:dI} {M M':dZ} {k v:Nat}
def Has.mem:∀ {h:Nat} {s:ie},Has D M k v h s->s.x5∈s.y5
 | 0,s,u=>by rw[u.1];simp
 | h+1,s,⟨G,_,_,_,E,_⟩=>by rw[E];simp
def Has.q8:∀ {h:Nat} {s:ie},Has D M k v h s->(∀x∈s.y5,dH D M' x=dH D M x)->Has D M' k v h s
 | 0,s,⟨E,I,u,J⟩,G=>⟨E,I,u,by rw[G s.x5 (by rw[E];simp)];exact J⟩
 | h+1,s,⟨V,h0,E,I,u,J,h5,h6,U⟩,G=>⟨V,h0,E,I,u,J,by rw[G s.x5 (by rw[u];simp)];exact h5,h6,fun e R=>⟨(U e R).1.q8 fun x hx=>G x (by rw[u];exact zN _ (yK.2 ⟨e,R,hx⟩)),(U e R).2⟩⟩
def Has.read:∀ {h:Nat} {s:ie},Has D M k v h s->∀x∈s.y5,(dH D M x).2.2=0
 | 0,s,⟨E,J,G,I⟩,x,u=>by rw[E] at u;rw[zE.1 u,I]
 | h+1,s,⟨es,h0,E,J,G,I,R,h6,U⟩,x,u=>by rw[G] at u;rcases zG.1 u with rfl|u;rw[R];obtain⟨e,V,u⟩:=yK.1 u;exact (U e V).1.read x u
def Has.J4(u:M.Q3=false){s:ie}(E:Has D M k v h s):∀x∈s.y5,dT M x:=fun x G=>EV u (E.read x G)
def fJ.xk(h:fJ (ef L) k v):L≠[]:=fun e=>by
 have:=h.2.2.2
 rw[if_pos (show (ef L).Q4=true from rfl)] at this;have u:=this.2.1;rw[e] at u;exact absurd u oM
def fJ.x9{es:List gM}(h:fJ (dM es) k v):2<=es.length/\es.length<=(dW k v).2:=by
 have:=h.2.2.2
 rw[if_neg (show ¬(dM es).Q4=true from fun e=>nomatch e)] at this;have u:=this.2.2.1;have E:=this.2.2.2.1;have e:(dM es).J9.length=es.length:=(by show (es.map _).length=_;rw[zK]);rw[e] at u E;exact⟨u,E⟩
def Has.ne:∀ {h:Nat} {s:ie},Has D M k v h s->s.y4≠[]
 | 0,s,⟨I,u,E,G⟩=>E.right.xk
 | h+1,s,⟨J,U,I,u,E,G,V,h6,R⟩=>fun e=>by
  have:=G.right.x9
  cases J with
  | nil=>simp at this
  | cons a r=>
   rw[u,yH] at e;exact (R a oL).1.ne (append_eq_nil_iff.1 e).1
def fN.mid{A B:List gM}{e:gM}(h:fN (A++e::B)):(∀a∈A,∀x∈a.2.y4,fE x.1 e.1)/\(∀b∈B,fE e.1 b.1/\(∀x∈e.2.y4,fE x.1 b.1)/\∀y∈b.2.y4,lP b.1 y.1):=by
 have u:=pairwise_append.1 h.pair;refine⟨fun a G x I=>(u.2.2 a G e oL).2 x I,fun b E=>?_⟩
 have:=(yJ.1 u.2.1).1 b E
 exact⟨this.1,this.2,h.low b (by simp[E])⟩
def fN.sort:∀ {es:List gM},fN es->(∀e∈es,fg e.2.y4)->fg (es.flatMap (·.2.y4))
 | [],_,_=>.nil
 | e::es,h,G=>by rw[yH,fg.tl];have I:=yJ.1 h.pair;refine⟨G e oL,fN.sort ⟨I.2,fun e u=>h.low e (zN _ u)⟩ fun e u=>G e (zN _ u),fun x R y E=>?_⟩;obtain⟨b,J,E⟩:=yK.1 E;exact rq ((I.1 b J).2 x R) (h.low b (zN _ J) y E)
def Has.sort:∀ {h:Nat} {s:ie},Has D M k v h s->fg s.y4
 | 0,s,⟨G,u,E,I⟩=>E.right.2.2.1
 | h+1,s,⟨V,h0,G,u,E,I,h5,J,R⟩=>by rw[u];exact J.sort fun e U=>(R e U).1.sort
def mf (k v:Nat) (L:fR):Prop:=∀x∈L,x.1.length=k/\x.2.length=v/\eH x.1/\eH x.2
def Has.vZ:∀ {h:Nat} {s:ie},Has D M k v h s->mf k v s.y4
 | 0,s,⟨I,G,E,J⟩=>fun x u=>⟨E.right.1 x.1 (zZ u),E.right.2.1 x.2 (zZ u),E.J6 x.1 (zZ u),E.Q0 x.2 (zZ u)⟩
 | h+1,s,⟨V,h0,I,G,E,J,h5,h6,R⟩=>fun x u=>by rw[G] at u;obtain⟨e,U,u⟩:=yK.1 u;exact (R e U).1.vZ x u
def BP(E:mf k v L)(G:fg L)(I:1<=L.length)(J:L.length<=(dW k v).1):ip (ef L) k v:=by refine⟨⟨fun a u=>?_,fun a u=>?_,G,?_⟩,fun a u=>?_,fun a u=>?_,fun x h=>nomatch h⟩;obtain⟨x,h,rfl⟩:=mem_map.1 u;exact (E x h).1;obtain⟨x,h,rfl⟩:=mem_map.1 u;exact (E x h).2.1;rw[if_pos (show (ef L).Q4=true from rfl)];refine⟨rfl,?_,?_,?_⟩;show 1<=(L.map _).length;rw[zK];exact I;show (L.map _).length<=_;rw[zK];exact J;show (L.map _).length=(L.map _).length;rw[zK,zK];obtain⟨x,h,rfl⟩:=mem_map.1 u;exact (E x h).2.2.1;obtain⟨x,h,rfl⟩:=mem_map.1 u;exact (E x h).2.2.2
def qy5{es:List gM}(G:∀a∈(es.map (·.1)).tail,a.length=k/\eH a)(J:fL (es.map (·.1)).tail)(R:2<=es.length)(U:es.length<=(dW k v).2)(I:∀e∈es,2<=e.2.x5/\e.2.x5<4294967296):ip (dM es) k v:=by refine⟨⟨fun a h=>(G a h).1,fun a h=>(nomatch h),J,?_⟩,fun a h=>(G a h).2,fun a h=>(nomatch h),fun x u=>?_⟩;rw[if_neg (show ¬(dM es).Q4=true from fun e=>nomatch e)];have e1:(dM es).J9.length=es.length:=(by show (es.map _).length=_;rw[zK]);have V:(dM es).J6.length=es.length-1:=(by show ((es.map _).tail).length=_;rw[length_tail,zK]);refine⟨fun x u=>?_,rfl,by rw[e1];exact R,by rw[e1];exact U,by rw[e1,V];omega⟩;obtain⟨e,E,rfl⟩:=mem_map.1 u;exact (I e E).1;obtain⟨e,E,rfl⟩:=mem_map.1 u;exact (I e E).2
def fN.rising{es:List gM}(h:fN es):fL (es.map (·.1)).tail:=by have u:(es.map (·.1)).Pairwise fE:=pairwise_map.2 (h.pair.imp fun h=>h.1);exact List.Pairwise.sublist (tail_sublist _) u
structure Step (D:dI) (M M':dZ) (P P':List Int):Prop where
 wf:M'.Wf
 Q3:M'.Q3=false
 Q2:M'.Q2=M.Q2
 j9:M'.j9=M.j9
 Q5:M'.Q5=M.Q5
 Q9:M'.Q9=M.Q9
 y0:M.y0->M'.y0
 x6:M'.x6=M.x6
 rest:∀ x,dT M x->x∉P->dH D M' x=dH D M x/\dT M' x/\x∉P'
 use:∀ x,dT M' x->x∈P'\/(dT M x/\x∉P)
 has:∀ x∈P',dT M' x
 new:∀ x∈P',x∈P\/¬ dT M x
 nodup:P'.Nodup
 nW:∀ x,gi M' x=true->gi M x=true
def Step.refl(E:M.Wf)(G:M.Q3=false){P:List Int}(I:∀x∈P,dT M x)(J:P.Nodup):Step D M M P P:=
 ⟨E,G,rfl,rfl,rfl,rfl,id,rfl,fun x u R=>⟨rfl,u,R⟩,fun x u=>by by_cases h:x∈P;exact .inl h;exact .inr ⟨u,h⟩,I,fun x u=>.inl u,J,fun x u=>u⟩
def Step.perm{P P' Q J:List Int}(h:Step D M M' P P')(I:P.Perm Q)(u:P'.Perm J):Step D M M' Q J:=
 ⟨h.wf,h.Q3,h.Q2,h.j9,h.Q5,h.Q9,h.y0,h.x6,fun x E R=>by obtain⟨U,V,h3⟩:=h.rest x E (fun G=>R (I.mem_iff.1 G));exact⟨U,V,fun G=>h3 (u.mem_iff.2 G)⟩,fun x E=>(h.use x E).imp (fun h=>u.mem_iff.1 h) fun h=>⟨h.1,fun G=>h.2 (I.mem_iff.2 G)⟩,fun x E=>h.has x (u.mem_iff.2 E),fun x E=>(h.new x (u.mem_iff.2 E)).imp (fun h=>I.mem_iff.1 h) id,u.nodup_iff.1 h.nodup,h.nW⟩
def Step.beside{P P' Z:List Int}(h:Step D M M' P P')(U:∀x∈Z,dT M x)(hn:(Z++P).Nodup):Step D M M' (Z++P) (Z++P'):=by have V:=yM.1 hn;have G:∀x∈Z,x∉P:=fun x u J=>V.2.2 x u x J rfl;refine⟨h.wf,h.Q3,h.Q2,h.j9,h.Q5,h.Q9,h.y0,h.x6,fun x u J=>?_,fun x u=>?_,fun x u=>?_,fun x u=>?_,?_,h.nW⟩;obtain⟨I,R,h3⟩:=h.rest x u (fun E=>J (zI _ E));exact⟨I,R,fun E=>(zD.1 E).elim (fun E=>J (zH _ E)) h3⟩;rcases h.use x u with I|⟨I,R⟩;exact .inl (zI _ I);by_cases hz:x∈Z;exact .inl (zH _ hz);exact .inr ⟨I,fun E=>(zD.1 E).elim hz R⟩;rcases zD.1 u with u|u;exact (h.rest x (U x u) (G x u)).2.1;exact h.has x u;rcases zD.1 u with u|u;exact .inl (zH _ u);exact (h.new x u).imp (fun h=>zI _ h) id;rw[yM];exact⟨V.1,h.nodup,fun x u y hy e=>(h.rest x (U x u) (G x u)).2.2 (e▸hy)⟩
def Step.trans{M1:dZ}{P Q R:List Int}(h:Step D M M1 P Q)(g:Step D M1 M' Q R):Step D M M' P R:=
 ⟨g.wf,g.Q3,g.Q2.trans h.Q2,g.j9.trans h.j9,g.Q5.trans h.Q5,g.Q9.trans h.Q9,fun x=>g.y0 (h.y0 x),g.x6.trans h.x6,fun x E J=>by
  obtain⟨u,G,I⟩:=h.rest x E J;obtain⟨U,V,g3⟩:=g.rest x G I;exact⟨U.trans u,V,g3⟩,fun x E=>by
  rcases g.use x E with u|⟨u,G⟩;exact .inl u;exact (h.use x u).elim (fun I=>absurd I G) .inr,g.has,fun x E=>by
  rcases g.new x E with u|u;exact h.new x u;by_cases hP:x∈P;exact .inl hP;by_cases hu:dT M x;exact absurd (h.rest x hu hP).2.1 u;exact .inr hu,g.nodup,fun x E=>h.nW x (g.nW x E)⟩
def mh.step(R:M.Q3=false)(h:mh D M M' q p (some r))(U:dT M p)(G:q=p\/¬dT M q):Step D M M' [p] [q]:=by
 have J:=h.wrote r rfl;refine⟨h.wf,h.Q3,h.Q2,h.j9,h.Q5,h.Q9,h.y0,h.x6,fun x I u=>?_,fun x I=>?_,fun x I=>?_,fun x I=>?_,oL,h.nW⟩;have u:x≠p:=(oP u);have E:x≠q:=fun e=>by rcases G with G|G;exact u (e.trans G);exact G (e▸I)
 exact⟨h.rest x E u,(h.use x E u).2 I,by simpa using E⟩;by_cases E:x=q;exact .inl (by simp[E]);by_cases u:x=p;subst u;exact absurd I (h.left (fun e=>E e));exact .inr ⟨(h.use x E u).1 I,by simpa using u⟩;rw[zE.1 I];exact J.2;rw[zE.1 I];rcases G with G|G;exact .inl (by simp[G]);exact .inr G
def mh.J8(J:M.Q3=false)(h:mh D M M' q q (some r))(G:¬dT M q):Step D M M' [] [q]:=by have I:=h.wrote r rfl;refine⟨h.wf,h.Q3,h.Q2,h.j9,h.Q5,h.Q9,h.y0,h.x6,fun x E _=>?_,fun x E=>?_,fun x E=>?_,fun x E=>?_,oL,h.nW⟩;have u:x≠q:=fun e=>G (e▸E);exact⟨h.rest x u u,(h.use x u u).2 E,by simpa using u⟩;by_cases u:x=q;exact .inl (by simp[u]);exact .inr ⟨(h.use x u u).1 E,oL⟩;rw[zE.1 E];exact I.2;rw[zE.1 E];exact .inr G
end
end
section
section
variable {D:dI} {M M':dZ} {k v:Nat}
def FU{n:dL}(E:M.Wf)(G:M.Q3=false)(I:ip n k v)(h:dT M p)(J:M.Q1≠[]): ∃q M',dO k v M p n=((q,0),M')/\Step D M M' [p] [q]/\dH D M' q=(iH n,gj n,0)/\M.Q1.length<=M'.Q1.length+1/\(p∈M.J8.map (·.1)->q=p/\M'.Q1=M.Q1):=by obtain⟨q,M',e,t,R,U,V⟩:=qsj (D:=D) E G I (.inr h) J;have u:p≠0:=(by have:=(AX E h).1;omega);rw[if_neg u] at t;exact⟨q,M',e,t.step G h R,(t.wrote _ rfl).1,U,V⟩
def Em{n:dL}(G:M.Wf)(u:M.Q3=false)(I:ip n k v)(J:M.Q1≠[]): ∃q M',dO k v M 0 n=((q,0),M')/\Step D M M' [] [q]/\dH D M' q=(iH n,gj n,0)/\M.Q1.length<=M'.Q1.length+1/\q≠0:=by obtain⟨q,M',e,t,R,U,_⟩:=qsj (D:=D) G u I (.inl rfl) J;rw[if_pos rfl] at t;have E:=t.wrote _ rfl;have V:=(AX t.wf E.2).1;have h:¬dT M q:=R.resolve_left oJ;exact⟨q,M',e,t.J8 u h,E.1,U,oJ⟩
def qlZ{n:dL}{J8:Bool}(h:M.Wf)(u:M.Q3=false)(E:ip n k v)(U:(eS n k v).1<=(eS n k v).2)(G:dT M p)(I:M.Q1≠[]): ∃q M',gb k v M p n J8=((⟨q,J8,[],0⟩,0),M')/\Step D M M' [p] [q]/\dH D M' q=(iH n,gj n,0)/\M.Q1.length<=M'.Q1.length+1:=by obtain⟨q,M',e,st,J,R,_⟩:=FU (D:=D) h u E G I;refine⟨q,M',?_,st,J,R⟩;unfold gb;rw[iN,e]
def qqa{n:dL}{J8:Bool}{mid:Nat}(hW:M.Wf)(ho:M.Q3=false)(E:(eS n k v).1 / 2=mid)(h1:ip (ee n mid).1 k v)(h2:ip (ee n mid).2.1 k v)(hs:(eS n k v).1>(eS n k v).2)(hp:dT M p)(hf:2<=M.Q1.length): ∃q o M',gb k v M p n J8=((⟨q,J8,(ee n mid).2.2,o⟩,0),M')/\o≠0/\Step D M M' [p] [q,o]/\dH D M' q=(iH (ee n mid).1,gj (ee n mid).1,0)/\dH D M' o=(iH (ee n mid).2.1,gj (ee n mid).2.1,0)/\M.Q1.length<=M'.Q1.length+2:=by
 subst E;obtain⟨o,M1,e1,u,U,G,V⟩:=Em (D:=D) hW ho h2 (fun e=>by rw[e] at hf;exact absurd hf oM);have s1:=u.beside (Z:=[p]) (fun x hx=>by rw[zE.1 hx];exact hp) oL;have ab:dT M1 p:=s1.has p oL;obtain⟨q,M2,e2,I,ac,an,_⟩:=FU (D:=D) u.wf u.Q3 h1 ab (fun e=>by rw[e] at G;simp at G;omega);have J:o≠p:=fun e=>by rcases u.new o oL with h|h;cases h;exact h (e▸hp)
 have R:dT M1 o:=u.has o oL;have s2:=I.beside (Z:=[o]) (fun x hx=>by rw[zE.1 hx];exact R) (oP J);refine⟨q,o,M2,?_,V,(s1.perm (.refl _) (List.Perm.swap _ _ _)).trans (s2.perm (.refl _) (List.Perm.swap _ _ _)),ac,?_,oJ⟩;unfold gb;rw[if_pos hs,e1];dsimp only;rw[if_neg (fun h=>h rfl),e2];rw[(I.rest o R (oP J)).1];exact U
def qz1{val:Key}{i:Nat}(h:(dP L)[i]?=some key):(⟨(ef L).Q4,dP L,(ef L).Q0.set i val,(ef L).J9⟩:dL)=ef (L.set i (key,val)):=by
 unfold ef;rw[map_set,map_set];have:(L.map (·.1)).set i key=L.map (·.1):=by obtain⟨u,E⟩:=zP.1 h;rw[<- E];exact set_getElem_self u
 rw[this]
def qzg{val:Key}{i:Nat}:(⟨(ef L).Q4,fK (dP L) i key,fK (ef L).Q0 i val,(ef L).J9⟩:dL)=ef (L.take i++[(key,val)]++L.drop i):=by unfold ef fK;simp only[xN,xP,xQ,xO,map_nil]
def qww{mid:Nat}(h:mid<L.length):ee (ef L) mid=(ef (L.take mid),ef (L.drop mid),L[mid].1):=by unfold ee;rw[if_pos (show (ef L).Q4=true from rfl)];unfold ef;simp only[xP,xQ,Prod.mk.injEq,true_and];rw[yR,zQ,zA h];rfl
def CU:eS (ef L) k v=(L.length,(dW k v).1):=by unfold eS;rw[if_pos (show (ef L).Q4=true from rfl)];show ((L.map _).length,_)=_;rw[zK]
def mf.sub{L':fR}(h:mf k v L)(u:∀x∈L',x∈L):mf k v L':=fun x E=>h x (u x E)
def fg.take{L:fR}(h:fg L)(n:Nat):fg (L.take n):=by unfold fg dP;rw[xP];exact fL.take h n
def fg.drop{L:fR}(h:fg L)(n:Nat):fg (L.drop n):=by unfold fg dP;rw[xQ];exact fL.drop h n
def AR(h:ip (ef L) k v)(u:dH D M q=(3,gj (ef L),0)):Has D M k v 0 ⟨q,L.length,L,[q]⟩:=⟨rfl,rfl,h,u⟩
structure vv (D:dI) (M:dZ) (k v:Nat) (h:Nat) (s:ie) (key val:Key) (g:Grown) (M':dZ):Prop where
 J8:g.J8=decide (key∉dP s.y4)
 Q1:M.Q1.length<=M'.Q1.length+2*(h+1)
 CR:(g.x4=0/\∃ n P,Has D M' k v h ⟨g.x5,n,fM key val s.y4,P⟩/\Step D M M' s.y5 P/\s.size<=n)\/
  (g.x4≠0/\∃ n1 L1 P1 n2 L2 P2,Has D M' k v h ⟨g.x5,n1,L1,P1⟩/\Has D M' k v h ⟨g.x4,n2,L2,P2⟩/\L1++L2=fM key val s.y4/\(∀ x∈L1,fE x.1 g.key)/\(∀ y∈L2,lP g.key y.1)/\g.key.length=k/\eH g.key/\minOf k v h<=n1/\minOf k v h<=n2/\Step D M M' s.y5 (P1++P2))
structure gZ (k v:Nat):Prop where
 Q4:2<=(dW k v).1
 inner:4<=(dW k v).2
def qr1{L':fR}{val:Key}{J8:Bool}(hc:gZ k v)(hW:M.Wf)(ho:M.Q3=false)(hp:dT M p)(hf:2<=M.Q1.length)(V:mf k v L')(hs:fg L')(h1:1<=L'.length)(h2:L'.length<=(dW k v).1+1)(h3:L.length<=L'.length)(he:L'=fM key val L)(E:J8=decide (key∉dP L)): ∃g M',gb k v M p (ef L') J8=((g,0),M')/\vv D M k v 0 ⟨p,L.length,L,[p]⟩ key val g M':=by by_cases hb:L'.length<=(dW k v).1;have hn:=BP V hs h1 hb;obtain⟨q,M',e,st,hr,hl⟩:=qlZ (D:=D) (J8:=J8) hW ho hn (by rw[CU];exact hb) hp (fun e=>by rw[e] at hf;exact absurd hf oM);refine⟨_,M',e,E,by show M.Q1.length<=M'.Q1.length+2;omega,.inl ⟨rfl,L'.length,[q],?_,st,h3⟩⟩;rw[<- he];exact AR hn hr;have ak:L'.length=(dW k v).1+1:=oJ;have aw:=hc.Q4;have h:L'.length / 2<L'.length:=oJ;have hh:=qww h;have n1:ip (ef (L'.take (L'.length / 2))) k v:=BP (V.sub fun x G=>yV G) (hs.take _) (by rw[yL];omega) (by rw[yL];omega);have n2:ip (ef (L'.drop (L'.length / 2))) k v:=BP (V.sub fun x G=>yU G) (hs.drop _) (by rw[yC];omega) (by rw[yC];omega);obtain⟨q,o,M',e,ae,st,I,J,hl⟩:=qqa (D:=D) (k:=k) (v:=v) (p:=p) (J8:=J8) (mid:=L'.length / 2) (n:=ef L') hW ho (by rw[CU]) (by rw[hh];exact n1) (by rw[hh];exact n2) (by rw[CU];show L'.length>_;omega) hp hf;rw[hh] at e I J;have R:L'=L'.take (L'.length / 2)++L'.drop (L'.length / 2):=(xE _ _).symm;have hd:=zY h;have u:=hs;rw[R] at u;have u:=fg.tl.1 u;have U:=V _ (zX h);refine⟨⟨q,J8,L'[L'.length / 2].1,o⟩,M',e,E,by show M.Q1.length<=M'.Q1.length+2;omega,.inr ⟨ae,(L'.take (L'.length / 2)).length,_,[q],(L'.drop (L'.length / 2)).length,_,[o],AR n1 I,AR n2 J,by rw[<- R];exact he,fun x G=>u.2.2 x G _ (by rw[hd];exact mem_cons_self),fun y hy=>?_,U.1,U.2.2.1,?_,?_,st⟩⟩;have h5:=u.2.1;rw[hd] at hy h5;rcases zG.1 hy with rfl|hy;exact qW;exact sA (xe (x:=L'[L'.length / 2].1) (r:=dP _) h5 y.1 (zZ hy));rw[yL];show (dW k v).1 / 2<=_;omega;rw[yC];show (dW k v).1 / 2<=_;omega
def uO{es:List gM}(u:(es.map (·.1)).head?=some [])(U:fN es):∃A e B,es=A++e::B/\A.length=eh ((es.map (·.1)).tail) key/\lP e.1 key/\(∀b∈B,fE key b.1)/\(es.map (·.2.x5)).getD (eh ((es.map (·.1)).tail) key) 0=e.2.x5:=by
 have V:=U.rising;have E:=Ak ((es.map (·.1)).tail) key;have G:es≠[]:=fun e=>by rw[e] at u;cases u
 have J:0<es.length:=length_pos_iff.2 G;have h:eh ((es.map (·.1)).tail) key<es.length:=(by rw[length_tail,zK] at E;omega);generalize R:eh ((es.map (·.1)).tail) key=c at h;have I:es=es.take c++es[c]::es.drop (c+1):=(by rw[<- zY h,xE]);refine⟨es.take c,es[c],es.drop (c+1),I,by rw[yL];omega,?_,fun b hb=>?_,?_⟩;cases c with
 | zero=>
  have:es[0].1=[]:=by
   cases es with
   | nil=>cases u
   | cons a r=>simpa using u
  rw[this];exact AQ _
 | succ c=>
  refine qnu (l:=(es.map (·.1)).tail) (k:=key) ?_;rw[R];have h1:(es.map (·.1)).tail[c]?=some es[c+1].1:=(by rw[List.getElem?_tail,zQ,zA h];rfl);refine yF (i:=c) ?_;rw[xB,iP];exact h1
 refine qlG (l:=(es.map (·.1)).tail) V ?_;rw[R];have:(es.map (·.1)).tail.drop c=(es.drop (c+1)).map (·.1):=(by rw[<- drop_one,xD,xQ,Nat.add_comm]);rw[this];exact zZ hb;rw[yR,zQ,zA h];rfl
def qu{α:Type}{f:gM->List α}{A B:List gM}{e:gM}:(A++e::B).flatMap f=A.flatMap f++(f e++B.flatMap f):=by rw[yQ,yH]
def fN.put{A B:List gM}{e:gM}{s:ie}(h:fN (A++e::B))(J:lP e.1 key)(R:∀b∈B,fE key b.1)(V:∀x∈s.y4,x.1=key\/x∈e.2.y4):fN (A++(e.1,s)::B):=by have I:=pairwise_append.1 h.pair;have U:=yJ.1 I.2.1;refine⟨pairwise_append.2 ⟨I.1,yJ.2 ⟨fun b u=>⟨(U.1 b u).1,fun x G=>?_⟩,U.2⟩,fun a ha b u=>?_⟩,fun b u x G=>?_⟩;rcases V x G with E|E;rw[E];exact R b u;exact (U.1 b u).2 x E;rcases zG.1 u with rfl|u;exact I.2.2 a ha e oL;exact I.2.2 a ha b (by simp[u]);rcases zD.1 u with u|u;exact h.low b (by simp[u]) x G;rcases zG.1 u with rfl|u;rcases V x G with E|E;rw[E];exact J;exact h.low e oL x E;exact h.low b (by simp[u]) x G
def fN.wZ{A B:List gM}{lo:Key}{s s1 s2:ie}(h:fN (A++(lo,s)::B))(I:s.y4=s1.y4++s2.y4)(h1:∀x∈s1.y4,fE x.1 m)(h2:∀y∈s2.y4,lP m y.1)(J:s1.y4≠[])(R:s2.y4≠[]):fN (A++(lo,s1)::(m,s2)::B):=by have hp:=pairwise_append.1 h.pair;have U:=yJ.1 hp.2.1;have V:=h.low (lo,s) oL;obtain⟨x1,aa⟩:=exists_mem_of_ne_nil _ J;obtain⟨y1,ab⟩:=exists_mem_of_ne_nil _ R;have hm:fE lo m:=BJ (V x1 (by show x1∈s.y4;rw[I];exact zH _ aa)) (h1 x1 aa);have ag:∀b∈B,fE m b.1:=fun b u=>BJ (h2 y1 ab) ((U.1 b u).2 y1 (by show y1∈s.y4;rw[I];exact zI _ ab));refine⟨pairwise_append.2 ⟨hp.1,yJ.2 ⟨fun b u=>?_,yJ.2 ⟨fun b u=>⟨ag b u,fun x E=>(U.1 b u).2 x (by show x∈s.y4;rw[I];exact zI _ E)⟩,U.2⟩⟩,fun a ha b u=>?_⟩,fun b u x E=>?_⟩;rcases zG.1 u with rfl|u;exact⟨hm,fun x E=>h1 x E⟩;exact⟨(U.1 b u).1,fun x E=>(U.1 b u).2 x (by show x∈s.y4;rw[I];exact zH _ E)⟩;have G:=hp.2.2 a ha (lo,s) oL;rcases zG.1 u with rfl|u;exact G;rcases zG.1 u with rfl|u;exact⟨pw G.1 hm,fun x E=>pw (G.2 x E) hm⟩;exact hp.2.2 a ha b (by simp[u]);rcases zD.1 u with u|u;exact h.low b (by simp[u]) x E;rcases zG.1 u with rfl|u;exact V x (by show x∈s.y4;rw[I];exact zH _ E);rcases zG.1 u with rfl|u;exact h2 x E;exact h.low b (by simp[u]) x E
def DO{es:List gM}:eS (dM es) k v=(es.length,(dW k v).2):=by unfold eS;rw[if_neg (show ¬(dM es).Q4=true from fun e=>nomatch e)];show ((es.map _).length,_)=_;rw[zK]
def jH:List gM->List gM
 | []=>[]
 | e::r=>([],e.2)::r
def qxS(es:List gM):dM (jH es)=dM es:=by cases es<;>rfl
def qwh{es:List gM}{mid:Nat}(G:1<=mid)(h:mid<es.length):ee (dM es) mid=(dM (es.take mid),dM (jH (es.drop mid)),es[mid].1):=by
 unfold ee;rw[if_neg (show ¬(dM es).Q4=true from fun e=>nomatch e),qxS];unfold dM;have e1:(es.map (·.1)).tail.take (mid-1)=((es.take mid).map (·.1)).tail:=by rw[<- drop_one,<- drop_one,xP,drop_take]
 have u:(es.map (·.1)).tail.drop mid=((es.drop mid).map (·.1)).tail:=(by rw[<- drop_one,<- drop_one,xQ,xD,xD,Nat.add_comm]);have E:(es.map (·.1)).tail.getD (mid-1) []=es[mid].1:=(by rw[yR,List.getElem?_tail,zQ,show mid-1+1=mid by omega,zA h];rfl);dsimp only;rw[e1,u,E];simp only[xP,xQ]
def fN.take{es:List gM}(h:fN es)(n:Nat):fN (es.take n):=⟨List.Pairwise.sublist (take_sublist n es) h.pair,fun e u=>h.low e (yV u)⟩
def fN.drop{es:List gM}(h:fN es)(n:Nat):fN (es.drop n):=⟨List.Pairwise.sublist (drop_sublist n es) h.pair,fun e u=>h.low e (yU u)⟩
def fN.jH{es:List gM}(h:fN es):fN (jH es):=by
 cases es with
 | nil=>exact h
 | cons e r=>
  have E:=yJ.1 h.pair;refine⟨yJ.2 ⟨fun b u=>⟨?_,(E.1 b u).2⟩,E.2⟩,fun b u x I=>?_⟩
  have:=(E.1 b u).1
  cases G:b.1 with
  | nil=>rw[G] at this;exact absurd this qlR
  | cons y l=>show cmpL [] (y::l)<0;simp[cmpL]
  rcases zG.1 u with rfl|u;exact AQ _;exact h.low b (zN _ u) x I
def qn0{α:Type}{f:ie->List α}(es:List gM):(jH es).flatMap (fun e=>f e.2)=es.flatMap fun e=>f e.2:=by cases es<;>rfl
def qp3{P:ie->Prop}{es:List gM}(h:∀e∈es,P e.2):∀e∈jH es,P e.2:=by
 cases es with
 | nil=>exact h
 | cons a r=>
  intro e u;rcases zG.1 u with rfl|u;exact h a oL;exact h e (zN _ u)
def qvf{es:List gM}(h:es≠[]):((jH es).map (·.1)).head?=some []:=by cases es with|nil=>exact absurd rfl h|cons a r=>rfl
def qwU(es:List gM):(jH es).length=es.length:=by cases es<;>rfl
def gz (k:Nat) (es:List gM):Prop:=∀e∈es.tail,e.1.length=k/\eH e.1
def gz.tail{es:List gM}(h:gz k es):∀a∈(es.map (·.1)).tail,a.length=k/\eH a:=fun a u=>by rw[<- map_tail] at u;obtain⟨e,E,rfl⟩:=mem_map.1 u;exact h e E
def gz.of{es:List gM}(h:ip (dM es) k v):gz k es:=fun e u=>by have:e.1∈(dM es).J6:=(by show e.1∈(es.map (·.1)).tail;rw[<- map_tail];exact zZ u);exact⟨h.right.1 _ this,h.J6 _ this⟩
def ur(u:M.Wf){x:Int}(h:dT M x):2<=x/\x<4294967296:=by have E:=AX u h;have G:=u.n4;omega
def ye{es:List gM}(u:(es.map (·.1)).head?=some [])(E:ip (dM es) k v)(G:dH D M q=(4,gj (dM es),0))(I:fN es)(J:∀e∈es,Has D M k v h e.2/\minOf k v h<=e.2.size): Has D M k v (h+1) ⟨q,es.length,es.flatMap (·.2.y4),q::es.flatMap (·.2.y5)⟩:=⟨es,u,rfl,rfl,rfl,E,G,I,J⟩
def qxR{A B:List gM}{e:gM}{s1 s2:ie}(U:((A++e::B).map (·.1)).head?=some []){g:Grown}(u:g.x5=s1.x5)(E:g.x4=s2.x5)(G:g.key=m)(I:g.x4≠0):gB (dM (A++e::B)) A.length g=dM (A++(e.1,s1)::(m,s2)::B):=by
 unfold gB;rw[if_pos I,u,E,G];unfold dM fK;dsimp only;congr 1;cases A with
 | nil=>simp
 | cons a A=>
  have:(A.map (·.1)++e.1::B.map (·.1)).take (A.length+1)=A.map (·.1)++[e.1]:=(by rw[show A.map (·.1)++e.1::B.map (·.1)=(A.map (·.1)++[e.1])++B.map (·.1) by simp];exact take_left' oL);have J:(A.map (·.1)++e.1::B.map (·.1)).drop (A.length+1)=B.map (·.1):=(by rw[show A.map (·.1)++e.1::B.map (·.1)=(A.map (·.1)++[e.1])++B.map (·.1) by simp];exact drop_left' oL);simp only[xN,xO,xJ,tail_cons,yI];rw[this,J];simp
 have R:(A.map (·.2.x5)).length=A.length:=zK _;have h:(A.map (·.2.x5)++e.2.x5::B.map (·.2.x5)).set A.length s1.x5=(A.map (·.2.x5)++[s1.x5])++B.map (·.2.x5):=(by rw[set_append_right _ _ oJ,R,Nat.sub_self];simp);simp only[xN,xO];rw[h,take_left' oL,drop_left' oL];simp
def qwg{A B:List gM}{e:gM}{s1:ie}{g:Grown}(u:g.x5=s1.x5)(E:g.x4=0):gB (dM (A++e::B)) A.length g=dM (A++(e.1,s1)::B):=by unfold gB;rw[if_neg (fun h=>h E),u];unfold dM;dsimp only;have G:(A.map (·.2.x5)).length=A.length:=zK _;congr 1;simp;simp only[xN,xO];rw[set_append_right _ _ oJ,G,Nat.sub_self];rfl
def CH{α:Type}{a x b z:List α}:(a++(x++b)).Perm ((a++b)++x):=by rw[zV];exact List.Perm.append_left a perm_append_comm
def Step.node{M1 I:dZ}{a x y:List Int}{Q:List Int}(J:∀z∈p::(a++(x++b)),dT M z)(R:(p::(a++(x++b))).Nodup)(U:Step D M M1 x y)(V:Step D M1 I [p] Q):Step D M I (p::(a++(x++b))) (Q++(a++(y++b))):=by have h:(p::(a++(x++b))).Perm ((p::(a++b))++x):=(by rw[xJ];exact (CH (z:=a)).cons p);have E:=(U.beside (Z:=p::(a++b)) (fun z G=>J z (h.mem_iff.2 (zH _ G))) (h.nodup_iff.1 R));have u:((p::(a++b))++y).Perm ((a++(y++b))++[p]):=(by refine List.Perm.trans ?_ perm_append_comm;rw[xJ];exact ((CH (z:=a)).symm).cons p);have s2:=V.beside (Z:=a++(y++b)) (fun z G=>E.has z (u.mem_iff.2 (zH _ G))) (u.nodup_iff.1 E.nodup);exact ((E.perm (h.symm) u).trans s2).perm (.refl _) perm_append_comm
def qlB{es:List gM}{J8:Bool}(hW:M.Wf)(J:M.Q3=false)(h0:(es.map (·.1)).head?=some [])(R:ip (dM es) k v)(u:es.length<=(dW k v).2)(hs:fN es)(G:∀e∈es,Has D M k v h e.2/\minOf k v h<=e.2.size)(hu:dT M p)(I:p∉es.flatMap (·.2.y5))(U:1<=M.Q1.length): ∃q M',gb k v M p (dM es) J8=((⟨q,J8,[],0⟩,0),M')/\Step D M M' [p] [q]/\Has D M' k v (h+1) ⟨q,es.length,es.flatMap (·.2.y4),q::es.flatMap (·.2.y5)⟩/\M.Q1.length<=M'.Q1.length+1:=by obtain⟨q,M',e,st,hr,hl⟩:=qlZ (D:=D) (J8:=J8) hW J R (by rw[DO];exact u) hu (fun e=>by rw[e] at U;exact absurd U oM);refine⟨q,M',e,st,ye h0 R hr hs fun b E=>⟨(G b E).1.q8 fun x V=>?_,(G b E).2⟩,hl⟩;exact (st.rest x ((G b E).1.J4 J x V) (fun hm=>I (yK.2 ⟨b,E,by rw[<- zE.1 hm];exact V⟩))).1
def yj{es:List gM}(G:M.Wf)(I:M.Q3=false)(J:gz k es)(R:fN es)(U:2<=es.length)(V:es.length<=(dW k v).2)(u:∀e∈es,Has D M k v h e.2):ip (dM es) k v:=
 qy5 J.tail R.rising U V fun e E=>ur G ((u e E).J4 I e.2.x5 (u e E).mem)
def qvg{es:List gM}(h:gz k es):gz k (jH es):=by cases es<;>exact h
def qwj{es:List gM}{J8:Bool}(hc:gZ k v)(hW:M.Wf)(ho:M.Q3=false)(h0:(es.map (·.1)).head?=some [])(hk:gz k es)(aC:es.length=(dW k v).2+1)(hs:fN es)(U:∀e∈es,Has D M k v h e.2/\minOf k v h<=e.2.size)(hu:dT M p)(ap:p∉es.flatMap (·.2.y5))(hf:2<=M.Q1.length): ∃q o m M' V L1 P1 n2 L2 P2,gb k v M p (dM es) J8=((⟨q,J8,m,o⟩,0),M')/\o≠0/\Step D M M' [p] [q,o]/\Has D M' k v (h+1) ⟨q,V,L1,q::P1⟩/\Has D M' k v (h+1) ⟨o,n2,L2,o::P2⟩/\L1++L2=es.flatMap (·.2.y4)/\P1++P2=es.flatMap (·.2.y5)/\(∀x∈L1,fE x.1 m)/\(∀y∈L2,lP m y.1)/\m.length=k/\eH m/\minOf k v (h+1)<=V/\minOf k v (h+1)<=n2/\M.Q1.length<=M'.Q1.length+2:=by
 have aK:=hc.inner;have E:es.length / 2<es.length:=oJ;have hh:=qwh (es:=es) (mid:=es.length / 2) oJ E;have lt:(es.take (es.length / 2)).length=es.length / 2:=(by rw[yL];omega);have ld:(jH (es.drop (es.length / 2))).length=es.length-es.length / 2:=(by rw[qwU,yC]);have G:∀e∈es.take (es.length / 2),Has D M k v h e.2/\minOf k v h<=e.2.size:=fun e u=>U e (yV u);have av:∀e∈jH (es.drop (es.length / 2)),Has D M k v h e.2/\minOf k v h<=e.2.size:=qp3 (P:=fun s=>Has D M k v h s/\minOf k v h<=s.size) fun e u=>U e (yU u);have ab:=hs.take (es.length / 2);have ac:=(hs.drop (es.length / 2)).jH;have aw:gz k (es.take (es.length / 2)):=fun e u=>by refine hk e ?_;rw[<- drop_one,drop_take] at u;rw[<- drop_one];exact yV u
 have ax:gz k (jH (es.drop (es.length / 2))):=qvg fun e u=>by refine hk e ?_;rw[<- drop_one,xD,show es.length / 2+1=1+es.length / 2 by omega,<- xD] at u;rw[<- drop_one];exact yU u
 have V:=yj hW ho aw ab oJ oJ fun e u=>(G e u).1;have n2:=yj hW ho ax ac oJ oJ fun e u=>(av e u).1;have I:es.take (es.length / 2)++es.drop (es.length / 2)=es:=xE _ _;have hd:=zY E;obtain⟨q,o,M',e,az,st,ad,ae,hl⟩:=qqa (D:=D) (k:=k) (v:=v) (p:=p) (J8:=J8) (mid:=es.length / 2) (n:=dM es) hW ho (by rw[DO]) (by rw[hh];exact V) (by rw[hh];exact n2) (by rw[DO];show es.length>_;omega) hu hf;rw[hh] at e ad ae;have fr:∀b∈es,∀x∈b.2.y5,dH D M' x=dH D M x:=fun b J x R=>
  (st.rest x ((U b J).1.J4 ho x R) (fun hm=>ap (yK.2 ⟨b,J,by rw[<- zE.1 hm];exact R⟩))).1
 have f1:∀e∈es.take (es.length / 2),Has D M' k v h e.2/\minOf k v h<=e.2.size:=fun e u=>⟨(G e u).1.q8 (fr e (yV u)),(G e u).2⟩;have f2:∀e∈jH (es.drop (es.length / 2)),Has D M' k v h e.2/\minOf k v h<=e.2.size:=qp3 (P:=fun s=>Has D M' k v h s/\minOf k v h<=s.size) fun e u=>⟨(U e (yU u)).1.q8 (fr e (yU u)),(U e (yU u)).2⟩;have aA:((es.take (es.length / 2)).map (·.1)).head?=some []:=by
  rw[xP];cases ag:es.map (·.1) with
  | nil=>rw[ag] at h0;cases h0
  | cons a r=>
   rw[ag] at h0;rw[show es.length / 2=(es.length / 2-1)+1 by omega,take_succ_cons];exact h0
 have aB:((jH (es.drop (es.length / 2))).map (·.1)).head?=some []:=qvf (by rw[hd];exact cons_ne_nil _ _);have ah:=hs;rw[<- I,hd] at ah;have hm:=ah.mid;have ai:=hk es[es.length / 2] (by rw[<- drop_one];exact yF (i:=es.length / 2-1) (by rw[xA,show 1+(es.length / 2-1)=es.length / 2 by omega,zA E]));have ep:(jH (es.drop (es.length / 2))).flatMap (·.2.y4)=(es.drop (es.length / 2)).flatMap (·.2.y4):=qn0 (f:=ie.y4) _;have eg:(jH (es.drop (es.length / 2))).flatMap (·.2.y5)=(es.drop (es.length / 2)).flatMap (·.2.y5):=qn0 (f:=ie.y5) _;have H2:=ye aB n2 ae ac f2;refine⟨q,o,es[es.length / 2].1,M',_,_,_,_,_,_,e,az,st,ye aA V ad ab f1,H2,?_,?_,fun x R=>?_,fun y hy=>?_,ai.1,ai.2,?_,?_,hl⟩;rw[ep,<- yQ,I];rw[eg,<- yQ,I];obtain⟨a,ha,R⟩:=yK.1 R;exact hm.1 a ha x R;rw[ep,hd] at hy;obtain⟨b,J,hy⟩:=yK.1 hy;rcases zG.1 J with rfl|J;exact hs.low _ (zX E) y hy;exact zj (sA (hm.2 b J).1) ((hm.2 b J).2.2 y hy);show (dW k v).2 / 2<=_;omega;show (dW k v).2 / 2<=_;omega
def Eh{A B:List gM}{e:gM}{s:ie}(h:gz k (A++e::B)):gz k (A++(e.1,s)::B):=by
 cases A with
 | nil=>exact h
 | cons a A=>
  intro b u;rcases zD.1 (show b∈A++(e.1,s)::B from u) with u|u;exact h b (show b∈A++e::B from zH _ u);rcases zG.1 u with rfl|u;exact h e (show e∈A++e::B from zI _ mem_cons_self);exact h b (show b∈A++e::B from zI _ (zN _ u))
def qrD{A B:List gM}{e:gM}{s1 s2:ie}(h:gz k (A++e::B))(I:m.length=k/\eH m):gz k (A++(e.1,s1)::(m,s2)::B):=by
 have G:∀b∈(m,s2)::B,(∀c∈B,c.1.length=k/\eH c.1)->b.1.length=k/\eH b.1:=fun b u J=>(zG.1 u).elim (fun e=>by rw[e];exact I) (J b);cases A with
 | nil=>exact fun b u=>G b u fun c E=>h c E
 | cons a A=>
  intro b u;rcases zD.1 (show b∈A++(e.1,s1)::(m,s2)::B from u) with u|u;exact h b (show b∈A++e::B from zH _ u);rcases zG.1 u with rfl|u;exact h e (show e∈A++e::B from zI _ mem_cons_self);exact G b u fun c E=>h c (show c∈A++e::B from zI _ (zN _ E))
def qt0(hc:gZ k v){key val:Key}(hk:key.length=k/\eH key)(hv:val.length=v/\eH val):∀(h:Nat) (M:dZ) (s:ie),Has D M k v h s->M.Wf->M.Q3=false->s.y5.Nodup->s.size<=1000->2*(h+1)<=M.Q1.length-> ∃g M',gY D k v key val (h+1) M s.x5=((g,0),M')/\vv D M k v h s key val g M'
 | 0,M,⟨p,n,L,P⟩,⟨h1,h2,h3,h4⟩,hW,ho,aU,_,hf=>by
  dsimp only at h1 h2 h3 h4;subst h1 h2;have hp:dT M p:=EV ho (by rw[h4]);have hl:dJ D M k v p=(ef L,0):=h3.load h4;have hs:fg L:=h3.right.2.2.1;have hL:mf k v L:=fun x G=>⟨h3.right.1 x.1 (zZ G),h3.right.2.1 x.2 (zZ G),h3.J6 x.1 (zZ G),h3.Q0 x.2 (zZ G)⟩;have J:=h3.right.2.2.2;rw[if_pos (show (ef L).Q4=true from rfl)] at J;have a4:1<=L.length/\L.length<=(dW k v).1:=by have e:(ef L).J6.length=L.length:=zK _;rw[e] at J;exact⟨J.2.1,J.2.2.1⟩
  have aV:(ef L).J6=dP L:=rfl;have ak:=quP (v:=val) (k:=key) hs;have aA:mf k v (fM key val L):=fun x G=>(AK G).elim (fun e=>by rw[e];exact⟨hk.1,hv.1,hk.2,hv.2⟩) (hL x);have aB:=Dg (k:=key) (v:=val) hs;unfold gY;rw[hl];dsimp only;rw[if_neg (fun h=>h rfl),if_pos (show (ef L).Q4=true from rfl),aV];by_cases U:(dP L)[dN (dP L) key]?=some key;rw[if_pos U,qz1 U];rw[if_pos U] at ak;have al:=DK (v:=val) hs ((wH hs).1 U);rw[ak] at aA aB al;exact qr1 hc hW ho hp oJ aA aB oJ oJ oJ ak.symm (by rw[zU (fun h=>h ((wH hs).1 U))]);rw[if_neg U,qzg];rw[if_neg U] at ak;have a5:key∉dP L:=fun h=>U ((wH hs).2 h);have al:=Cn (v:=val) a5;rw[ak] at aA aB al;exact qr1 hc hW ho hp oJ aA aB oJ oJ oJ ak.symm (by rw[yA a5])
 | h+1,M,⟨p,n,L,P⟩,⟨R,h0,h1,h2,h3,h4,h5,h6,h7⟩,hW,ho,aU,h8,hf=>by
  dsimp only at h1 h2 h3 h5 aU h8;subst h1 h2 h3;have hp:dT M p:=EV ho (by rw[h5]);have hl:dJ D M k v p=(dM R,0):=h4.load h5;have bU:=h4.right.x9;obtain⟨A,e,B,I,hA,aW,aX,aY⟩:=uO (key:=key) h0 h6;have aZ:(dM R).J9.getD (eh (dM R).J6 key) 0=e.2.x5:=aY;have bE:eh (dM R).J6 key=A.length:=hA.symm;have bF:e∈R:=(by rw[I];simp);obtain⟨aD,ap⟩:=h7 e bF;have ad:∀z∈p::R.flatMap (·.2.y5),dT M z:=fun z hz=>(zG.1 hz).elim (fun e=>by rw[e];exact hp) fun hz=>by obtain⟨b,u,hz⟩:=yK.1 hz;exact (h7 b u).1.J4 ho z hz
  have ag:R.flatMap (·.2.y5)=A.flatMap (·.2.y5)++(e.2.y5++B.flatMap (·.2.y5)):=(by rw[I,qu]);have ae:R.flatMap (·.2.y4)=A.flatMap (·.2.y4)++(e.2.y4++B.flatMap (·.2.y4)):=(by rw[I,qu]);have V:=aU;have ai:=ad;rw[ag] at V ai;have bG:e.2.size<=1000:=by
   have:=AF (k:=k) (v:=v)
   cases h with
   | zero=>
    have h9:=aD.2.2.1.right.2.2.2;rw[if_pos (show (ef e.2.y4).Q4=true from rfl)] at h9;have bH:=h9.2.2.1;have e1:(ef e.2.y4).J6.length=e.2.y4.length:=zK _;rw[e1] at bH;rw[aD.2.1];omega
   | succ h=>
    obtain⟨b1,_,g1,_,_,g4,_⟩:=aD
    have:=g4.right.x9
    rw[g1];omega
  have a6:e.2.y5.Nodup:=(yM.1 (yM.1 (nodup_cons.1 V).2).2.1).1;obtain⟨g,M1,eg,ok⟩:=qt0 hc hk hv h M e.2 aD hW ho a6 bG oJ;have bJ:=ok.Q1;have aj:=h6;rw[I] at aj;have aq:=aj.mid;have a7:∀x∈A.flatMap (·.2.y4),fE x.1 key:=fun x G=>by obtain⟨a,ha,G⟩:=yK.1 G;exact rq (aq.1 a ha x G) aW
  have a8:∀x∈B.flatMap (·.2.y4),fE key x.1:=fun x G=>by obtain⟨b,u,G⟩:=yK.1 G;exact rq (aX b u) ((aq.2 b u).2.2 x G)
  have aN:fM key val (R.flatMap (·.2.y4))=A.flatMap (·.2.y4)++(fM key val e.2.y4++B.flatMap (·.2.y4)):=(by rw[ae,Bc a7,qlC a8]);have aE:g.J8=decide (key∉dP (R.flatMap (·.2.y4))):=by rw[ok.J8];refine decide_eq_decide.2 (not_congr ⟨fun U=>?_,fun U=>?_⟩);obtain⟨x,G,rfl⟩:=mem_map.1 U;exact zZ (by rw[ae];exact zI _ (zH _ G));obtain⟨x,G,rfl⟩:=mem_map.1 U;rw[ae] at G;rcases zD.1 G with G|G;exact absurd (a7 x G) qW;rcases zD.1 G with G|G;exact zZ G;exact absurd (a8 x G) qW
  have ar:p∉e.2.y5:=fun U=>(nodup_cons.1 V).1 (zI _ (zH _ U));have a9:∀b,b∈A\/b∈B->∀z∈b.2.y5,z∉e.2.y5:=fun b u z hz U=>by have h9:=yM.1 (nodup_cons.1 V).2;rcases u with u|u;exact h9.2.2 z (yK.2 ⟨b,u,hz⟩) z (zH _ U) rfl;exact (yM.1 h9.2.1).2.2 z U z (yK.2 ⟨b,u,hz⟩) rfl
  have af:=gz.of h4;have a':∀ {MM:dZ} {Q:List Int},Step D M MM e.2.y5 Q->p∉A.flatMap (·.2.y5)++(Q++B.flatMap (·.2.y5)):=fun st U=>by have h9:=(nodup_cons.1 V).1;rcases zD.1 U with U|U;exact h9 (zH _ U);rcases zD.1 U with U|U;exact (st.rest p hp ar).2.2 U;exact h9 (zI _ (zI _ U))
  unfold gY;rw[hl];dsimp only;rw[if_neg (fun h=>h rfl),if_neg (show ¬(dM R).Q4=true from fun e=>nomatch e),aZ,eg];dsimp only;rw[if_neg (fun h=>h rfl),bE];have ac:∀ {MM:dZ},(∀x∈p::R.flatMap (·.2.y5),x∉e.2.y5->dH D MM x=dH D M x)->∀b,b∈A\/b∈B->Has D MM k v h b.2/\minOf k v h<=b.2.size:=fun hr b u=>by
   have a0:b∈R:=by rw[I];rcases u with u|u<;>simp[u]
   exact⟨(h7 b a0).1.q8 fun x G=>hr x (zN _ (yK.2 ⟨b,a0,G⟩)) (a9 b u x G),(h7 b a0).2⟩
  rcases ok.CR with ⟨aF,n',P',aO,st,aP⟩|⟨aF,n1,L1,P1,n2,L2,P2,ba,bb,aQ,bc,bd,bf,bg,bK,bL,st⟩;have aa:((A++(e.1,(⟨g.x5,n',fM key val e.2.y4,P'⟩:ie))::B).map (·.1)).head?=some []:=by rw[I] at h0;rw[xN,xO] at h0⊢;exact h0
  have ab:fN (A++(e.1,(⟨g.x5,n',fM key val e.2.y4,P'⟩:ie))::B):=aj.put aW aX fun x G=>(AK G).imp (fun e=>by rw[e]) id;have E:∀x∈p::R.flatMap (·.2.y5),x∉e.2.y5->dH D M1 x=dH D M x:=fun x G a1=>(st.rest x (ad x G) a1).1;have J:(A++(e.1,(⟨g.x5,n',fM key val e.2.y4,P'⟩:ie))::B).length=R.length:=(by rw[I];simp);have av:(A++(e.1,(⟨g.x5,n',fM key val e.2.y4,P'⟩:ie))::B).flatMap (·.2.y4)=fM key val (R.flatMap (·.2.y4)):=(by rw[qu,aN]);have ah:(A++(e.1,(⟨g.x5,n',fM key val e.2.y4,P'⟩:ie))::B).flatMap (·.2.y5)=A.flatMap (·.2.y5)++(P'++B.flatMap (·.2.y5)):=(by rw[qu]);by_cases hsame:g.x5=e.2.x5/\g.x4=0;rw[if_pos hsame];have bh:dM (A++(e.1,(⟨g.x5,n',fM key val e.2.y4,P'⟩:ie))::B)=dM R:=(by rw[I];unfold dM;simp[hsame.1]);have bM:dH D M1 p=(4,gj (dM (A++(e.1,(⟨g.x5,n',fM key val e.2.y4,P'⟩:ie))::B)),0):=(by rw[E p oL ar,h5,bh]);refine⟨_,M1,rfl,aE,oJ,.inl ⟨rfl,R.length,p::(A.flatMap (·.2.y5)++(P'++B.flatMap (·.2.y5))),?_,?_,zM _⟩⟩
  have:=ye aa (by rw[bh];exact h4) bM ab (h:=h) fun b u=>?_
  rw[J,av,ah] at this;exact this;rcases zD.1 u with u|u;exact ac E b (.inl u);rcases zG.1 u with rfl|u;exact⟨aO,zL ap aP⟩;exact ac E b (.inr u);show Step D M M1 (p::R.flatMap (·.2.y5)) _;rw[ag];have h9:=Step.node (p:=p) ai V st (Step.refl (D:=D) st.wf st.Q3 (P:=[p]) (fun x G=>by rw[zE.1 G];exact (st.rest p hp ar).2.1) oL);exact h9;rw[if_neg hsame,I,qwg (s1:=⟨g.x5,n',fM key val e.2.y4,P'⟩) rfl aF];have am:∀b∈A++(e.1,(⟨g.x5,n',fM key val e.2.y4,P'⟩:ie))::B,Has D M1 k v h b.2/\minOf k v h<=b.2.size:=fun b u=>by rcases zD.1 u with u|u;exact ac E b (.inl u);rcases zG.1 u with rfl|u;exact⟨aO,zL ap aP⟩;exact ac E b (.inr u)
  have aI:gz k (A++(e.1,(⟨g.x5,n',fM key val e.2.y4,P'⟩:ie))::B):=Eh (by rw[<- I];exact af);have hN:=yj st.wf st.Q3 aI ab oJ oJ fun b u=>(am b u).1;obtain⟨q,M2,e2,aw,H2,al⟩:=qlB (J8:=g.J8) st.wf st.Q3 aa hN oJ ab am (st.rest p hp ar).2.1 (by rw[ah];exact a' st) oJ;refine⟨_,M2,e2,by rw[<- I];exact aE,oJ,.inl ⟨rfl,R.length,q::(A.flatMap (·.2.y5)++(P'++B.flatMap (·.2.y5))),?_,?_,Nat.le_of_eq (by rw[I])⟩⟩;rw[J,av,ah] at H2;rw[<- I];exact H2;show Step D M M2 (p::(A++e::B).flatMap (·.2.y5)) _;rw[qu];exact Step.node (p:=p) ai V st aw;have bk:L1≠[]:=ba.ne;have bl:L2≠[]:=bb.ne;rw[if_neg (fun h=>aF h.2)];have ab:fN (A++(e.1,(⟨g.x5,n1,L1,P1⟩:ie))::(g.key,⟨g.x4,n2,L2,P2⟩)::B):=
   (aj.put (s:=⟨0,0,fM key val e.2.y4,[]⟩) aW aX fun x G=>(AK G).imp (fun e=>by rw[e]) id).wZ aQ.symm bc bd bk bl
  have aa:((A++(e.1,(⟨g.x5,n1,L1,P1⟩:ie))::(g.key,⟨g.x4,n2,L2,P2⟩)::B).map (·.1)).head?=some []:=by
   rw[I] at h0;rw[xN,xO] at h0⊢;cases A with
   | nil=>exact h0
   | cons a A=>exact h0
  have E:∀x∈p::R.flatMap (·.2.y5),x∉e.2.y5->dH D M1 x=dH D M x:=fun x G a1=>(st.rest x (ad x G) a1).1;have J:(A++(e.1,(⟨g.x5,n1,L1,P1⟩:ie))::(g.key,⟨g.x4,n2,L2,P2⟩)::B).length=R.length+1:=(by rw[I];simp;omega);have av:(A++(e.1,(⟨g.x5,n1,L1,P1⟩:ie))::(g.key,⟨g.x4,n2,L2,P2⟩)::B).flatMap (·.2.y4)=fM key val (R.flatMap (·.2.y4)):=(by rw[qu,yH,aN,<- aQ,zV]);have ah:(A++(e.1,(⟨g.x5,n1,L1,P1⟩:ie))::(g.key,⟨g.x4,n2,L2,P2⟩)::B).flatMap (·.2.y5)=A.flatMap (·.2.y5)++((P1++P2)++B.flatMap (·.2.y5)):=(by rw[qu,yH,zV P1]);have am:∀b∈A++(e.1,(⟨g.x5,n1,L1,P1⟩:ie))::(g.key,⟨g.x4,n2,L2,P2⟩)::B,Has D M1 k v h b.2/\minOf k v h<=b.2.size:=fun b u=>by rcases zD.1 u with u|u;exact ac E b (.inl u);rcases zG.1 u with rfl|u;exact⟨ba,bK⟩;rcases zG.1 u with rfl|u;exact⟨bb,bL⟩;exact ac E b (.inr u)
  have aI:gz k (A++(e.1,(⟨g.x5,n1,L1,P1⟩:ie))::(g.key,⟨g.x4,n2,L2,P2⟩)::B):=qrD (by rw[<- I];exact af) ⟨bf,bg⟩;have bm:p∉(A++(e.1,(⟨g.x5,n1,L1,P1⟩:ie))::(g.key,⟨g.x4,n2,L2,P2⟩)::B).flatMap (·.2.y5):=(by rw[ah];exact a' st);have bn:=(st.rest p hp ar).2.1;have bO:gB (dM R) A.length g=dM (A++(e.1,(⟨g.x5,n1,L1,P1⟩:ie))::(g.key,⟨g.x4,n2,L2,P2⟩)::B):=(by rw[I];exact qxR (by rw[<- I];exact h0) rfl rfl rfl aF);rw[bO];have bo:∀ {M2:dZ} {Q:List Int},Step D M1 M2 [p] Q->Step D M M2 (p::R.flatMap (·.2.y5)) (Q++(A.flatMap (·.2.y5)++((P1++P2)++B.flatMap (·.2.y5)))):=fun h2=>by rw[ag];exact Step.node (p:=p) ai V st h2
  by_cases u:R.length+1<=(dW k v).2;have hN:=yj st.wf st.Q3 aI ab oJ oJ fun b u=>(am b u).1;obtain⟨q,M2,e2,aw,H2,al⟩:=qlB (J8:=g.J8) st.wf st.Q3 aa hN oJ ab am bn bm oJ;rw[J,av,ah] at H2;exact⟨_,M2,e2,aE,oJ,.inl ⟨rfl,_,_,H2,bo aw,by show R.length<=R.length+1;omega⟩⟩;obtain⟨q,o,m,M2,n3,L3,P3,n4,L4,P4,e2,bP,aw,H3,H4,hL,hP,bQ,a4,bp,bq,bR,bS,al⟩:=qwj (J8:=g.J8) hc st.wf st.Q3 aa aI oJ ab am bn bm oJ;rw[av] at hL;rw[ah] at hP;refine⟨_,M2,e2,aE,oJ,.inr ⟨bP,_,_,_,_,_,_,H3,H4,hL,bQ,a4,bp,bq,bR,bS,?_⟩⟩
  have:=bo aw
  rw[<- hP] at this;refine this.perm (.refl _) ?_;show (q::o::(P3++P4)).Perm (q::(P3++o::P4));exact (perm_middle.symm).cons q
end
end
section
def gR {α:Type} (l:List α) (i:Nat):List α:=l.take i++l.drop (i+1)
def oQ (n:dL) (k v:Nat):Prop:=(eS n k v).1<(eS n k v).2 / 2
def iV (n:dL) (k v:Nat):Prop:=(eS n k v).1>(eS n k v).2 / 2
def iX (l r:dL) (key:Key):dL×dL×Key:=
 if l.Q4 then
  ({ l with J6:=l.J6.take (l.J6.length-1),Q0:=l.Q0.take (l.J6.length-1) },
  { r with J6:=l.J6.getD (l.J6.length-1) []::r.J6,Q0:=l.Q0.getD (l.J6.length-1) []::r.Q0 },l.J6.getD (l.J6.length-1) [])
 else
  ({ l with J6:=l.J6.take (l.J6.length-1),J9:=l.J9.take (l.J6.length-1+1) },
  { r with J6:=key::r.J6,J9:=l.J9.getD (l.J6.length-1+1) 0::r.J9 },l.J6.getD (l.J6.length-1) [])
def takeN (l r:dL) (key:Key):dL×dL×Key:=
 if l.Q4 then
  ({ l with J6:=l.J6++[r.J6.getD 0 []],Q0:=l.Q0++[r.Q0.getD 0 []] },{ r with J6:=r.J6.drop 1,Q0:=r.Q0.drop 1 },(r.J6.drop 1).getD 0 [])
 else
  ({ l with J6:=l.J6++[key],J9:=l.J9++[r.J9.getD 0 0] },{ r with J6:=r.J6.drop 1,J9:=r.J9.drop 1 },r.J6.getD 0 [])
def kK (l r:dL) (key:Key):dL:=⟨l.Q4,(if l.Q4 then l.J6 else l.J6++[key])++r.J6,l.Q0++r.Q0,l.J9++r.J9⟩
noncomputable def lI (k v:Nat) (M:dZ) (n:dL) (i:Nat) (l r:dL):(dL×Int)×dZ:=
 if (dO k v M (n.J9.getD i 0) (kK l r (n.J6.getD i []))).1.2≠0 then ((iv,(dO k v M (n.J9.getD i 0) (kK l r (n.J6.getD i []))).1.2),(dO k v M (n.J9.getD i 0) (kK l r (n.J6.getD i []))).2)
 else if (fl (dO k v M (n.J9.getD i 0) (kK l r (n.J6.getD i []))).2 (n.J9.getD (i+1) 0)).1≠0 then ((iv,(fl (dO k v M (n.J9.getD i 0) (kK l r (n.J6.getD i []))).2 (n.J9.getD (i+1) 0)).1),(fl (dO k v M (n.J9.getD i 0) (kK l r (n.J6.getD i []))).2 (n.J9.getD (i+1) 0)).2)
 else (({ n with J9:=gR (n.J9.set i (dO k v M (n.J9.getD i 0) (kK l r (n.J6.getD i []))).1.1) (i+1),J6:=gR n.J6 i },0),(fl (dO k v M (n.J9.getD i 0) (kK l r (n.J6.getD i []))).2 (n.J9.getD (i+1) 0)).2)
noncomputable def np (k v:Nat) (M:dZ) (n:dL) (i:Nat) (r:dL×dL×Key):(dL×Int)×dZ:=
 if (dO k v M (n.J9.getD i 0) r.1).1.2≠0 then ((iv,(dO k v M (n.J9.getD i 0) r.1).1.2),(dO k v M (n.J9.getD i 0) r.1).2)
 else (({ n with J6:=n.J6.set i r.2.2,J9:=(n.J9.set i (dO k v M (n.J9.getD i 0) r.1).1.1).set (i+1) (dO k v (dO k v M (n.J9.getD i 0) r.1).2 (n.J9.getD (i+1) 0) r.2.1).1.1 },(dO k v (dO k v M (n.J9.getD i 0) r.1).2 (n.J9.getD (i+1) 0) r.2.1).1.2),(dO k v (dO k v M (n.J9.getD i 0) r.1).2 (n.J9.getD (i+1) 0) r.2.1).2)
noncomputable def jG (D:dI) (k v:Nat) (M:dZ) (n:dL) (side c:Nat) (x:dL):(dL×Int)×dZ:=
 if (dJ D M k v (n.J9.getD side 0)).2≠0 then ((iv,(dJ D M k v (n.J9.getD side 0)).2),M)
 else if side<c then
  if ¬iV (dJ D M k v (n.J9.getD side 0)).1 k v then lI k v M n side (dJ D M k v (n.J9.getD side 0)).1 x
  else np k v M n side (iX (dJ D M k v (n.J9.getD side 0)).1 x (n.J6.getD side []))
 else
  if ¬iV (dJ D M k v (n.J9.getD side 0)).1 k v then lI k v M n c x (dJ D M k v (n.J9.getD side 0)).1
  else np k v M n c (takeN x (dJ D M k v (n.J9.getD side 0)).1 (n.J6.getD c []))
noncomputable def ic (D:dI) (k v:Nat) (key:Key):Nat->dZ->Int->(dL×Int)×dZ
 | 0,M,_=>((iv,-1),M)
 | f+1,M,p=>
  if (dJ D M k v p).2≠0 then ((iv,(dJ D M k v p).2),M)
  else if (dJ D M k v p).1.Q4 then
   if (dJ D M k v p).1.J6[dN (dJ D M k v p).1.J6 key]?=some key then (({ (dJ D M k v p).1 with J6:=gR (dJ D M k v p).1.J6 (dN (dJ D M k v p).1.J6 key),Q0:=gR (dJ D M k v p).1.Q0 (dN (dJ D M k v p).1.J6 key) },0),M)
   else ((iv,5),M)
  else if (ic D k v key f M ((dJ D M k v p).1.J9.getD (eh (dJ D M k v p).1.J6 key) 0)).1.2≠0 then
   ((iv,(ic D k v key f M ((dJ D M k v p).1.J9.getD (eh (dJ D M k v p).1.J6 key) 0)).1.2),(ic D k v key f M ((dJ D M k v p).1.J9.getD (eh (dJ D M k v p).1.J6 key) 0)).2)
  else if ¬oQ (ic D k v key f M ((dJ D M k v p).1.J9.getD (eh (dJ D M k v p).1.J6 key) 0)).1.1 k v then
   (({ (dJ D M k v p).1 with J9:=(dJ D M k v p).1.J9.set (eh (dJ D M k v p).1.J6 key) (dO k v (ic D k v key f M ((dJ D M k v p).1.J9.getD (eh (dJ D M k v p).1.J6 key) 0)).2 ((dJ D M k v p).1.J9.getD (eh (dJ D M k v p).1.J6 key) 0) (ic D k v key f M ((dJ D M k v p).1.J9.getD (eh (dJ D M k v p).1.J6 key) 0)).1.1).1.1 },
    (dO k v (ic D k v key f M ((dJ D M k v p).1.J9.getD (eh (dJ D M k v p).1.J6 key) 0)).2 ((dJ D M k v p).1.J9.getD (eh (dJ D M k v p).1.J6 key) 0) (ic D k v key f M ((dJ D M k v p).1.J9.getD (eh (dJ D M k v p).1.J6 key) 0)).1.1).1.2),
    (dO k v (ic D k v key f M ((dJ D M k v p).1.J9.getD (eh (dJ D M k v p).1.J6 key) 0)).2 ((dJ D M k v p).1.J9.getD (eh (dJ D M k v p).1.J6 key) 0) (ic D k v key f M ((dJ D M k v p).1.J9.getD (eh (dJ D M k v p).1.J6 key) 0)).1.1).2)
  else if eh (dJ D M k v p).1.J6 key>0 then
   jG D k v (ic D k v key f M ((dJ D M k v p).1.J9.getD (eh (dJ D M k v p).1.J6 key) 0)).2 (dJ D M k v p).1 (eh (dJ D M k v p).1.J6 key-1) (eh (dJ D M k v p).1.J6 key) (ic D k v key f M ((dJ D M k v p).1.J9.getD (eh (dJ D M k v p).1.J6 key) 0)).1.1
  else jG D k v (ic D k v key f M ((dJ D M k v p).1.J9.getD (eh (dJ D M k v p).1.J6 key) 0)).2 (dJ D M k v p).1 (eh (dJ D M k v p).1.J6 key+1) (eh (dJ D M k v p).1.J6 key) (ic D k v key f M ((dJ D M k v p).1.J9.getD (eh (dJ D M k v p).1.J6 key) 0)).1.1
section
variable {D:dI} {M M':dZ} {k v:Nat}
def jn (D:dI) (M:dZ) (k v:Nat):Nat->dL->Nat->fR->List Int->Prop
 | 0,N,n,L,R=>N=ef L/\n=L.length/\R=[]/\mf k v L/\fg L/\n<=(dW k v).1
 | h+1,N,n,L,R=>∃u:List gM,(u.map (·.1)).head?=some []/\N=dM u/\n=u.length/\L=u.flatMap (·.2.y4)/\R=u.flatMap (·.2.y5)/\gz k u/\fN u/\n<=(dW k v).2/\∀e∈u,Has D M k v h e.2/\minOf k v h<=e.2.size
def oneOf (h:Nat):Nat:=if h=0 then 1 else 2
def jn.size{n:Nat}(u:jn D M k v h N n L R):eS N k v=(n,if h=0 then (dW k v).1 else (dW k v).2):=by
 cases h with
 | zero=>
  obtain⟨rfl,rfl,_⟩:=u;exact CU
 | succ h=>
  obtain⟨E,_,rfl,rfl,_⟩:=u;exact DO
def jn.J4{h:Nat}{N:dL}{n:Nat}{L:fR}{R:List Int}(G:M.Q3=false)(E:jn D M k v h N n L R):∀x∈R,dT M x:=by
 cases h with
 | zero=>obtain⟨_,_,rfl,_⟩:=E;exact fun x u=>nomatch u
 | succ h=>
  obtain⟨U,_,_,_,_,rfl,_,_,_,I⟩:=E;intro x u;obtain⟨e,J,u⟩:=yK.1 u;exact (I e J).1.J4 G x u
def jn.q8{h:Nat}{N:dL}{n:Nat}{L:fR}{R:List Int}(E:jn D M k v h N n L R)(I:∀x∈R,dH D M' x=dH D M x):jn D M' k v h N n L R:=by
 cases h with
 | zero=>exact E
 | succ h=>
  obtain⟨J,U,V,h3,h4,rfl,h6,h7,h8,G⟩:=E;exact⟨J,U,V,h3,h4,rfl,h6,h7,h8,fun e u=>⟨(G e u).1.q8 fun x hx=>I x (yK.2 ⟨e,u,hx⟩),(G e u).2⟩⟩
def jn.ok{n:Nat}(G:M.Wf)(I:M.Q3=false)(u:jn D M k v h N n L R)(E:oneOf h<=n):ip N k v:=by
 cases h with
 | zero=>
  obtain⟨rfl,rfl,_,J,U,V⟩:=u;exact BP J U E V
 | succ h=>
  obtain⟨es,h2,rfl,rfl,h4,rfl,h6,h7,h8,he⟩:=u;exact yj G I h6 h7 E h8 fun e hm=>(he e hm).1
def jn.stored{n:Nat}(I:M.Wf)(J:M.Q3=false)(E:jn D M k v h N n L R)(U:oneOf h<=n)(G:dH D M q=(iH N,gj N,0)):Has D M k v h ⟨q,n,L,q::R⟩:=by
 have u:=E.ok I J U;cases h with
 | zero=>
  obtain⟨rfl,rfl,rfl,hL,hs,hl⟩:=E;exact AR u G
 | succ h=>
  obtain⟨es,V,rfl,rfl,rfl,rfl,h6,h7,h8,he⟩:=E;exact ye V u G h7 he
def Has.load{h:Nat}{s:ie}(hs:Has D M k v h s):∃N R,dJ D M k v s.x5=(N,0)/\jn D M k v h N s.size s.y4 R/\s.y5=s.x5::R/\N.Q4=decide (h=0)/\oneOf h<=s.size:=by
 cases h with
 | zero=>
  obtain⟨I,J,E,U⟩:=hs;have u:=E.right.2.2.2;rw[if_pos (show (ef s.y4).Q4=true from rfl)] at u;have e:(ef s.y4).J6.length=s.y4.length:=zK _;rw[e] at u;exact⟨ef s.y4,[],E.load U,⟨rfl,J,rfl,fun x V=>⟨E.right.1 x.1 (zZ V),E.right.2.1 x.2 (zZ V),E.J6 x.1 (zZ V),E.Q0 x.2 (zZ V)⟩,E.right.2.2.1,by rw[J];exact u.2.2.1⟩,I,rfl,by rw[J];exact u.2.1⟩
 | succ h=>
  obtain⟨es,h0,I,J,E,U,h5,h6,h7⟩:=hs;have G:=U.right.x9;exact⟨dM es,_,U.load h5,⟨es,h0,rfl,I,J,rfl,gz.of U,h6,by rw[I];exact G.2,h7⟩,E,rfl,by rw[I];exact G.1⟩
def jn.store{n:Nat}(I:M.Wf)(u:M.Q3=false)(E:jn D M k v h N n L R)(J:oneOf h<=n)(hp:dT M p)(G:p∉R)(U:1<=M.Q1.length): ∃q M',dO k v M p N=((q,0),M')/\Step D M M' [p] [q]/\Has D M' k v h ⟨q,n,L,q::R⟩/\M.Q1.length<=M'.Q1.length+1:=by obtain⟨q,M',e,st,hr,hl,_⟩:=FU (D:=D) I u (E.ok I u J) hp (fun e=>by rw[e] at U;exact absurd U oM);exact⟨q,M',e,st,(E.q8 fun x V=>(st.rest x (E.J4 u x V) (fun hm=>G (by rw[<- zE.1 hm];exact V))).1).stored st.wf st.Q3 J hr,hl⟩
def qze{h u:fR}{z:Key×Key}:iX (ef (h++[z])) (ef u) key=(ef h,ef (z::u),z.1):=by unfold iX;rw[if_pos (show (ef _).Q4=true from rfl)];unfold ef;simp
def qzh{h u:fR}{z y:Key×Key}:takeN (ef h) (ef (z::y::u)) key=(ef (h++[z]),ef (y::u),y.1):=by unfold takeN;rw[if_pos (show (ef _).Q4=true from rfl)];unfold ef;simp
def qzf{h u:fR}:kK (ef h) (ef u) key=ef (h++u):=by unfold kK;unfold ef;simp
def qy6{a z b:gM}{h u:List gM}:iX (dM (a::h++[z])) (dM (b::u)) key=(dM (a::h),dM (([],z.2)::(key,b.2)::u),z.1):=by unfold iX;rw[if_neg (show ¬(dM _).Q4=true from fun e=>nomatch e)];unfold dM;simp
def qy8{h u:List gM}{a z y:gM}:takeN (dM (a::h)) (dM (z::y::u)) key=(dM (a::h++[(key,z.2)]),dM (([],y.2)::u),y.1):=by unfold takeN;rw[if_neg (show ¬(dM _).Q4=true from fun e=>nomatch e)];unfold dM;simp
def qy7{h u:List gM}{a b:gM}:kK (dM (a::h)) (dM (b::u)) key=dM (a::h++(key,b.2)::u):=by unfold kK;unfold dM;simp
def fN.tl{a b:List gM}(u:fN a)(E:fN b)(h:∀x∈a,∀y∈b,fE x.1 y.1/\∀z∈x.2.y4,fE z.1 y.1):fN (a++b):=
 ⟨pairwise_append.2 ⟨u.pair,E.pair,fun x G y I=>h x G y I⟩,fun e J=>(zD.1 J).elim (u.low e) (E.low e)⟩
def fN.sub{a b:List gM}(h:fN b)(u:a.Sublist b):fN a:=⟨h.pair.sublist u,fun e E=>h.low e (u.subset E)⟩
def EJ{e:gM}(h:∀x∈e.2.y4,lP e.1 x.1):fN [e]:=⟨pairwise_singleton _ _,fun a u=>by rw[zE.1 u];exact h⟩
def qtK{a b:Key}(h:fE a b):fE [] b:=by
 cases b with
 | nil=>exact absurd h qlR
 | cons y l=>show cmpL [] (y::l)<0;simp[cmpL]
def fN.head{x:gM}{r:List gM}(h:fN (x::r))(G:∀b∈r,fE m b.1)(I:∀y∈x.2.y4,lP m y.1):fN ((m,x.2)::r):=by have E:=yJ.1 h.pair;exact⟨yJ.2 ⟨fun b u=>⟨G b u,(E.1 b u).2⟩,E.2⟩,fun b u=>(zG.1 u).elim (fun e=>by rw[e];exact I) fun u=>h.low b (zN _ u)⟩
def E3{x:gM}{r:List gM}(E:fN (x::r))(G:Has D M k v h x.2)(I:∀y∈x.2.y4,lP m y.1):∀b∈r,fE m b.1:=fun b J=>by obtain⟨y,u⟩:=exists_mem_of_ne_nil _ G.ne;exact BJ (I y u) (((yJ.1 E.pair).1 b J).2 y u)
structure tH (D:dI) (M:dZ) (k v:Nat) (h:Nat) (r:dL×dL×Key) (L:fR) (P:List Int):Prop where
 CR:∃ n1 L1 R1 n2 L2 R2,jn D M k v h r.1 n1 L1 R1/\jn D M k v h r.2.1 n2 L2 R2/\L1++L2=L/\R1++R2=P/\(∀ x∈L1,fE x.1 r.2.2)/\(∀ y∈L2,lP r.2.2 y.1)/\r.2.2.length=k/\eH r.2.2/\minOf k v h<=n1/\minOf k v h<=n2/\L1≠[]/\L2≠[]
def gZ.min(u:gZ k v)(h:Nat):oneOf h<=minOf k v h/\1<=minOf k v h:=by have E:=u.Q4;have G:=u.inner;unfold oneOf minOf;split<;>omega
def qyY{es:List gM}(E:∀e∈es,Has D M k v h e.2/\minOf k v h<=e.2.size)(u:es≠[]):es.flatMap (·.2.y4)≠[]:=by
 cases es with
 | nil=>exact absurd rfl u
 | cons a r=>intro e;rw[yH] at e;exact (E a oL).1.ne (append_eq_nil_iff.1 e).1
def qy0(G:gZ k v)(hl:jn D M k v h Nl n1 L1 R1)(hr:jn D M k v h Nr n2 L2 R2)(h1:minOf k v h<n1)(h2:n2+1=minOf k v h)(h3:∀x∈L1,fE x.1 key)(h4:∀y∈L2,lP key y.1)(hk:key.length=k/\eH key): tH D M k v h (iX Nl Nr key) (L1++L2) (R1++R2):=by
 have aw:=G.min h;cases h with
 | zero=>
  obtain⟨rfl,rfl,rfl,al,R,U⟩:=hl;obtain⟨rfl,rfl,rfl,ax,V,am⟩:=hr;have an:L1≠[]:=fun e=>by rw[e] at h1;simp at h1
  obtain⟨L,z,rfl⟩:∃L z,L1=L++[z]:=⟨L1.dropLast,L1.getLast an,(vA an).symm⟩;rw[qze];have hz:=al z oL;have ao:=fg.tl.1 R;rw[zF] at h1 U;have ay:fg (z::L2):=by refine yJ.2 ⟨fun a ha=>?_,V⟩;obtain⟨y,E,rfl⟩:=mem_map.1 ha;exact rq (h3 z oL) (h4 y E)
  have az:minOf k v 0=(dW k v).1 / 2:=rfl;refine⟨L.length,L,[],L2.length+1,z::L2,[],⟨rfl,rfl,rfl,al.sub fun x J=>zH _ J,ao.1,?_⟩,⟨rfl,rfl,rfl,fun x J=>(zG.1 J).elim (fun e=>by rw[e];exact hz) (ax x),ay,oJ⟩,oL,rfl,fun x J=>ao.2.2 x J z oL,fun y E=>?_,hz.1,hz.2.2.1,?_,oJ,?_,oL⟩;simp at U;omega;rcases zG.1 E with rfl|E;exact qW;exact sA (rq (h3 z oL) (h4 y E));simp at h1;omega;intro e;rw[e] at h1;simp at h1;omega
 | succ h=>
  obtain⟨ae,aA,rfl,rfl,rfl,rfl,ap,R,U,af⟩:=hl;obtain⟨u,aB,rfl,rfl,rfl,rfl,aC,V,am,ag⟩:=hr;obtain⟨a,I,z,rfl⟩:∃a I z,ae=a::I++[z]:=by
   have:2<=ae.length:=(by have:=aw.1;unfold oneOf at this;rw[iN] at this;omega);match ae,this with
   | a::b::r,_=>exact⟨a,(b::r).dropLast,(b::r).getLast oL,by rw[xJ,vA]⟩
  obtain⟨b,u,rfl⟩:∃b I,u=b::I:=by
   cases u with
   | nil=>cases aB
   | cons b r=>exact⟨b,r,rfl⟩
  rw[qy6];have hz:=af z oL;have aq:=ap z (show z∈I++[z] by simp);have ar:=fN.mid (A:=a::I) (e:=z) (B:=[]) R;have aa:fE z.1 key:=by obtain⟨x,J⟩:=exists_mem_of_ne_nil _ hz.1.ne;exact BJ (R.low z oL x J) (h3 x (yK.2 ⟨z,oL,J⟩))
  have au:∀y∈b.2.y4,lP key y.1:=fun y E=>h4 y (by rw[yH];exact zH _ E);have ah:∀c∈u,fE key c.1:=E3 V (ag b oL).1 au;have ai:fN (([],z.2)::(key,b.2)::u):=by refine fN.tl (a:=[([],z.2)]) (EJ fun x _=>AQ _) (V.head ah au) fun x J y E=>?_;rw[zE.1 J];rcases zG.1 E with rfl|E;exact⟨qtK aa,fun w hw=>h3 w (yK.2 ⟨z,oL,hw⟩)⟩;exact⟨qtK (ah y E),fun w hw=>pw (h3 w (yK.2 ⟨z,oL,hw⟩)) (ah y E)⟩
  have az:minOf k v (h+1)=(dW k v).2 / 2:=rfl;simp only[zF,yI,xK] at h1 h2 U am;have aE:(a::I++[z]).flatMap (·.2.y4)=(a::I).flatMap (·.2.y4)++z.2.y4:=(by simp[yQ]);have aF:(a::I++[z]).flatMap (·.2.y5)=(a::I).flatMap (·.2.y5)++z.2.y5:=(by simp[yQ]);refine⟨I.length+1,(a::I).flatMap (·.2.y4),(a::I).flatMap (·.2.y5),u.length+2,z.2.y4++(b.2.y4++u.flatMap (·.2.y4)),z.2.y5++(b.2.y5++u.flatMap (·.2.y5)),⟨a::I,aA,rfl,rfl,rfl,rfl,fun c G=>ap c (show c∈I++[z] from zH _ G),R.sub (sublist_append_left _ _),oJ,fun c G=>af c (zH _ G)⟩,⟨([],z.2)::(key,b.2)::u,rfl,rfl,rfl,rfl,rfl,fun c G=>(zG.1 G).elim (fun e=>by rw[e];exact hk) (aC c),ai,oJ,fun c G=>?_⟩,?_,?_,fun x J=>?_,fun y E=>?_,aq.1,aq.2,oJ,oJ,?_,?_⟩;rcases zG.1 G with rfl|G;exact hz;rcases zG.1 G with rfl|G;exact ag b oL;exact ag c (by simp[G]);rw[aE];simp only[yH,zV];rw[aF];simp only[yH,zV];obtain⟨c,G,J⟩:=yK.1 J;exact ar.1 c G x J;rcases zD.1 E with E|E;exact R.low z oL y E;exact zj (sA aa) (h4 y (by rw[yH];exact E));exact qyY (fun c G=>af c (zH _ G)) oL;intro e;exact hz.1.ne (append_eq_nil_iff.1 e).1
def qws{es:List gM}(G:fN es)(I:∀e∈es,Has D M k v h e.2/\minOf k v h<=e.2.size)(J:∀x∈es.flatMap (·.2.y4),fE x.1 key):∀e∈es,fE e.1 key:=fun e u=>by obtain⟨x,E⟩:=exists_mem_of_ne_nil _ (I e u).1.ne;exact BJ (G.low e u x E) (J x (yK.2 ⟨e,u,E⟩))
def qzD(hc:gZ k v)(hl:jn D M k v h Nl n1 L1 R1)(hr:jn D M k v h Nr n2 L2 R2)(h1:n1+1=minOf k v h)(h2:minOf k v h<n2)(h3:∀x∈L1,fE x.1 key)(h4:∀y∈L2,lP key y.1)(hk:key.length=k/\eH key): tH D M k v h (takeN Nl Nr key) (L1++L2) (R1++R2):=by
 have hmn:=hc.min h;cases h with
 | zero=>
  obtain⟨rfl,rfl,rfl,hL1,hs1,hb1⟩:=hl;obtain⟨rfl,rfl,rfl,hL2,hs2,hb2⟩:=hr;obtain⟨z,y,L,rfl⟩:∃z y L,L2=z::y::L:=by
   match L2,h2 with
   | [],h=>simp at h
   | [_],h=>simp at h;omega
   | z::y::L,_=>exact⟨z,y,L,rfl⟩
  rw[qzh];have hz:=hL2 z oL;have hy:=hL2 y oL;have hcs:=yJ.1 (show (z.1::dP (y::L)).Pairwise fE from hs2);simp only[yI] at h2 hb2;have hml:minOf k v 0=(dW k v).1 / 2:=rfl;have hzy:fE z.1 y.1:=hcs.1 y.1 oL;refine⟨L1.length+1,L1++[z],[],L.length+1,y::L,[],⟨rfl,oL,rfl,fun x hx=>(zD.1 hx).elim (hL1 x) fun hx=>by rw[zE.1 hx];exact hz,?_,oJ⟩,⟨rfl,oL,rfl,fun x hx=>hL2 x (zN _ hx),hcs.2,oJ⟩,oL,rfl,fun x hx=>?_,fun w hw=>?_,hy.1,hy.2.2.1,oJ,oJ,oL,oL⟩;exact fg.tl.2 ⟨hs1,pairwise_singleton _ _,fun x hx w hw=>by rw[zE.1 hw];exact rq (h3 x hx) (h4 z oL)⟩;rcases zD.1 hx with hx|hx;exact pw (rq (h3 x hx) (h4 z oL)) hzy;rw[zE.1 hx];exact hzy;rcases zG.1 hw with rfl|hw;exact qW;exact sA ((yJ.1 (show (y.1::dP L).Pairwise fE from hcs.2)).1 w.1 (zZ hw))
 | succ h=>
  obtain⟨es1,hh1,rfl,rfl,rfl,rfl,hk1,hs1,hb1,hp1⟩:=hl;obtain⟨es2,hh2,rfl,rfl,rfl,rfl,hk2,hs2,hb2,hp2⟩:=hr;obtain⟨a,es,rfl⟩:∃a es,es1=a::es:=by
   cases es1 with
   | nil=>cases hh1
   | cons b r=>exact⟨b,r,rfl⟩
  obtain⟨z,y,es2,rfl⟩:∃z y es,es2=z::y::es:=by
   have h9:=hmn.2;match es2,h2 with
   | [],h=>simp at h
   | [_],h=>simp at h;omega
   | z::y::L,_=>exact⟨z,y,L,rfl⟩
  rw[qy8];have hz:=hp2 z oL;have hyk:=hk2 y (show y∈y::es2 by simp);have hz4:∀w∈z.2.y4,lP key w.1:=fun w hw=>h4 w (by rw[yH];exact zH _ hw);have hky:fE key y.1:=E3 hs2 hz.1 hz4 y oL;have hcs:=yJ.1 hs2.pair;have hcy:=yJ.1 hcs.2;have hsl:fN (a::es++[(key,z.2)]):=fN.tl hs1 (EJ hz4) fun x hx w hw=>by rw[zE.1 hw];exact⟨qws hs1 hp1 h3 x hx,fun q hq=>h3 q (yK.2 ⟨x,hx,hq⟩)⟩
  have hsr:fN (([],y.2)::es2):=fN.jH (es:=y::es2) (hs2.sub (sublist_cons_self _ _));have hml:minOf k v (h+1)=(dW k v).2 / 2:=rfl;simp only[yI] at h1 h2 hb1 hb2;refine⟨es.length+2,(a::es).flatMap (·.2.y4)++z.2.y4,(a::es).flatMap (·.2.y5)++z.2.y5,es2.length+1,y.2.y4++es2.flatMap (·.2.y4),y.2.y5++es2.flatMap (·.2.y5),⟨a::es++[(key,z.2)],hh1,rfl,oL,by simp[yQ],by simp[yQ],fun c hc=>?_,hsl,oJ,fun c hc=>?_⟩,⟨([],y.2)::es2,rfl,rfl,rfl,rfl,rfl,fun c hc=>hk2 c (show c∈y::es2 from zN _ hc),hsr,oJ,fun c hc=>?_⟩,?_,?_,fun x hx=>?_,fun w hw=>?_,hyk.1,hyk.2,oJ,oJ,?_,?_⟩;rcases zD.1 (show c∈es++[(key,z.2)] from hc) with hc|hc;exact hk1 c hc;rw[zE.1 hc];exact hk;rcases zD.1 hc with hc|hc;exact hp1 c hc;rw[zE.1 hc];exact hz;rcases zG.1 hc with rfl|hc;exact hp2 y oL;exact hp2 c (by simp[hc]);simp only[yH,zV];simp only[yH,zV];rcases zD.1 hx with hx|hx;exact pw (h3 x hx) hky;exact (hcs.1 y oL).2 x hx;rcases zD.1 hw with hw|hw;exact hs2.low y oL w hw;obtain⟨c,hc,hw⟩:=yK.1 hw;exact zj (sA (hcy.1 c hc).1) (hs2.low c (by simp[hc]) w hw);intro e;exact hz.1.ne (append_eq_nil_iff.1 e).2;intro e;exact (hp2 y oL).1.ne (append_eq_nil_iff.1 e).1
def qy9(hl:jn D M k v h Nl n1 L1 R1)(hr:jn D M k v h Nr n2 L2 R2)(h1:n1+n2<=(if h=0 then (dW k v).1 else (dW k v).2))(h3:∀x∈L1,fE x.1 key)(h4:∀y∈L2,lP key y.1)(hk:key.length=k/\eH key): jn D M k v h (kK Nl Nr key) (n1+n2) (L1++L2) (R1++R2):=by
 cases h with
 | zero=>
  obtain⟨rfl,rfl,rfl,ak,G,al⟩:=hl;obtain⟨rfl,rfl,rfl,am,I,an⟩:=hr;rw[qzf];exact⟨rfl,oL,rfl,fun x V=>(zD.1 V).elim (ak x) (am x),fg.tl.2 ⟨G,I,fun x V y J=>rq (h3 x V) (h4 y J)⟩,h1⟩
 | succ h=>
  obtain⟨ab,ac,rfl,rfl,rfl,rfl,ao,G,al,ad⟩:=hl;obtain⟨E,ap,rfl,rfl,rfl,rfl,aq,I,an,R⟩:=hr;obtain⟨a,es,rfl⟩:∃a es,ab=a::es:=by
   cases ab with
   | nil=>cases ac
   | cons b r=>exact⟨b,r,rfl⟩
  obtain⟨b,E,rfl⟩:∃b es,E=b::es:=by
   cases E with
   | nil=>cases ap
   | cons b r=>exact⟨b,r,rfl⟩
  rw[qy7];have ae:∀y∈b.2.y4,lP key y.1:=fun y J=>h4 y (by rw[yH];exact zH _ J);have U:=E3 I (R b oL).1 ae;refine⟨a::es++(key,b.2)::E,ac,rfl,by simp;omega,by simp[yQ],by simp[yQ],fun c u=>?_,fN.tl G (I.head U ae) fun x V y J=>?_,by simpa using h1,fun c u=>?_⟩;rcases zD.1 (show c∈es++(key,b.2)::E from u) with u|u;exact ao c u;rcases zG.1 u with rfl|u;exact hk;exact aq c u;have af:=qws G ad h3 x V;have ag:∀w∈x.2.y4,fE w.1 key:=fun w hw=>h3 w (yK.2 ⟨x,V,hw⟩);rcases zG.1 J with rfl|J;exact⟨af,ag⟩;exact⟨pw af (U y J),fun w hw=>pw (ag w hw) (U y J)⟩;rcases zD.1 u with u|u;exact ad c u;rcases zG.1 u with rfl|u;exact R b oL;exact R c (by simp[u])
end
end
section
section
variable {D:dI} {M M':dZ} {k v:Nat}
def Step.part{M1:dZ}{a x y:List Int}(E:∀z∈a++(x++b),dT M z)(G:(a++(x++b)).Nodup)(h:Step D M M1 x y):Step D M M1 (a++(x++b)) (a++(y++b)):=by have u:(a++(x++b)).Perm ((a++b)++x):=CH (z:=a);exact ((h.beside (Z:=a++b) (fun z I=>E z (u.mem_iff.2 (zH _ I))) (u.nodup_iff.1 G)).perm u.symm (CH (z:=a)).symm)
def Step.kid{M1 u:dZ}{h Q:List Int}(E:∀z∈p::R,dT M z)(G:(p::R).Nodup)(I:Step D M M1 R h)(J:Step D M1 u [p] Q):Step D M u (p::R) (Q++h):=by
 have:=Step.node (D:=D) (p:=p) (a:=[]) (b:=[]) (x:=R) (y:=h) (Q:=Q) (oP E) (oP G) I J
 simpa using this
def Fy{A B:List gM}{e1 h:gM}:((A++e1::h::B).map (·.1)).tail.getD A.length []=h.1:=by
 cases A with
 | nil=>rfl
 | cons a A=>simp
def yu{A B:List gM}{e1 h:gM}:((A++e1::h::B).map (·.2.x5)).getD A.length 0=e1.2.x5/\((A++e1::h::B).map (·.2.x5)).getD (A.length+1) 0=h.2.x5:=by constructor;simp;simp
def qzz{A B:List gM}{e1 h:gM}{s1 s2:ie}:(⟨false,((A++e1::h::B).map (·.1)).tail.set A.length m,[],(((A++e1::h::B).map (·.2.x5)).set A.length s1.x5).set (A.length+1) s2.x5⟩:dL)=dM (A++(e1.1,s1)::(m,s2)::B):=by
 unfold dM;congr 1;cases A with
 | nil=>rfl
 | cons a A=>simp[set_append_right]
 simp[set_append_right]
def qyU{A B:List gM}{e1 E:gM}{s:ie}:(⟨false,gR ((A++e1::E::B).map (·.1)).tail A.length,[],gR (((A++e1::E::B).map (·.2.x5)).set A.length s.x5) (A.length+1)⟩:dL)=dM (A++(e1.1,s)::B):=by
 have I:(A.map (·.2.x5)).length=A.length:=zK _;unfold dM gR;congr 1;cases A with
 | nil=>rfl
 | cons a A=>
  have u:((a::A++e1::E::B).map (·.1)).tail=(A.map (·.1)++[e1.1])++(E.1::B.map (·.1)):=oL;have G:((a::A++(e1.1,s)::B).map (·.1)).tail=(A.map (·.1)++[e1.1])++B.map (·.1):=oL;have h:(A.map (·.1)++[e1.1]).length=(a::A).length:=oL;rw[u,G,take_left' h,<- h,drop_length_add_append];rfl
 have u:((A++e1::E::B).map (·.2.x5)).set A.length s.x5=(A.map (·.2.x5)++[s.x5])++(E.2.x5::B.map (·.2.x5)):=(by rw[xN,set_append_right _ _ oJ,I,Nat.sub_self];simp);have h:(A.map (·.2.x5)++[s.x5]).length=A.length+1:=oL;rw[u,take_left' h,<- h,drop_length_add_append];simp
def qzy{A B:List gM}{e:gM}{s:ie}:(⟨false,((A++e::B).map (·.1)).tail,[],((A++e::B).map (·.2.x5)).set A.length s.x5⟩:dL)=dM (A++(e.1,s)::B):=by
 have h:(A.map (·.2.x5)).length=A.length:=zK _;unfold dM;congr 1;cases A with
 | nil=>rfl
 | cons a A=>simp
 rw[xN,set_append_right _ _ oJ,h,Nat.sub_self];simp
structure sO (D:dI) (M:dZ) (k v:Nat) (h:Nat) (A B:List gM) (e1 e2:gM) (Nl Nr:dL) (n1 n2:Nat) (L1 L2:fR) (R1 R2:List Int):Prop where
 wf:M.Wf
 Q3:M.Q3=false
 head:((A++e1::e2::B).map (·.1)).head?=some []
 J6:gz k (A++e1::e2::B)
 sep:fN (A++(e1.1,⟨0,0,L1,[]⟩)::(e2.1,⟨0,0,L2,[]⟩)::B)
 len:A.length+B.length+2<=(dW k v).2
 rest:∀ b,b∈A\/b∈B->Has D M k v h b.2/\minOf k v h<=b.2.size
 left:jn D M k v h Nl n1 L1 R1
 right:jn D M k v h Nr n2 L2 R2
 use:∀ x∈A.flatMap (·.2.y5)++(((e1.2.x5::R1)++(e2.2.x5::R2))++B.flatMap (·.2.y5)),dT M x
 nodup:(A.flatMap (·.2.y5)++(((e1.2.x5::R1)++(e2.2.x5::R2))++B.flatMap (·.2.y5))).Nodup
def sO.wD{A B:List gM}{e1 u:gM}{I J:dL}{G E:fR}{U:List Int}(H:sO D M k v h A B e1 u I J n1 n2 G E R U):(∀x∈G,fE x.1 u.1)/\(∀y∈E,lP u.1 y.1)/\u.1.length=k/\eH u.1:=by have V:=pairwise_append.1 H.sep.pair;have hc:=yJ.1 V.2.1;have hk:=H.J6 u (by cases A<;>simp);exact⟨(hc.1 (u.1,⟨0,0,E,[]⟩) oL).2,H.sep.low (u.1,⟨0,0,E,[]⟩) oL,hk⟩
def qto(hc:gZ k v){A B:List gM}{e1 G:gM}(H:sO D M k v h A B e1 G Nl Nr n1 n2 L1 L2 R1 R2){r:dL×dL×Key}(hr:tH D M k v h r (L1++L2) (R1++R2))(hf:2<=M.Q1.length): ∃N M' R,np k v M (dM (A++e1::G::B)) A.length r=((N,0),M')/\jn D M' k v (h+1) N (A.length+B.length+2) (A.flatMap (·.2.y4)++((L1++L2)++B.flatMap (·.2.y4))) R/\ Step D M M' (A.flatMap (·.2.y5)++(((e1.2.x5::R1)++(G.2.x5::R2))++B.flatMap (·.2.y5))) R/\M.Q1.length<=M'.Q1.length+2:=by
 obtain⟨m1,K1,J,m2,K2,U,aO,aP,eL,eR,aQ,aR,aT,aU,aV,aW,aC,aD⟩:=hr.CR;have bi:=hc.min h;have ae:=H.use;have av:=H.nodup;have pm:(((e1.2.x5::R1)++(G.2.x5::R2))).Perm (e1.2.x5::G.2.x5::(R1++R2)):=by rw[xJ];exact (perm_middle).cons _
 rw[<- eR] at pm;have ab:∀x,x∈e1.2.x5::G.2.x5::(J++U)->x∈A.flatMap (·.2.y5)++(((e1.2.x5::R1)++(G.2.x5::R2))++B.flatMap (·.2.y5)):=fun x E=>zI _ (zH _ (pm.mem_iff.2 E));have ak:(e1.2.x5::G.2.x5::(J++U)).Nodup:=pm.nodup_iff.1 (yM.1 (yM.1 av).2.1).1;have ac:=nodup_cons.1 ak;have al:=nodup_cons.1 ac.2;have aX:=ae _ (ab e1.2.x5 oL);have aF:=ae _ (ab G.2.x5 oL);obtain⟨I,M1,s1,af,H1,bk⟩:=aO.store H.wf H.Q3 oJ aX (fun hm=>ac.1 (zN _ (zH _ hm))) oJ;have V:∀x,dT M x->x≠e1.2.x5->dH D M1 x=dH D M x/\dT M1 x/\x≠I:=fun x E aw=>by
  have:=af.rest x E (oP aw)
  exact⟨this.1,this.2.1,by simpa using this.2.2⟩
 have ag:G.2.x5≠e1.2.x5:=fun e=>ac.1 (by rw[e];simp);have aZ:jn D M1 k v h r.2.1 m2 K2 U:=aP.q8 fun x E=>(V x (ae x (ab x (by simp[E]))) (fun e=>ac.1 (by rw[<- e];simp[E]))).1;obtain⟨q2,M2,s2,aG,H2,bn⟩:=aZ.store af.wf af.Q3 oJ (V _ aF ag).2.1 (fun hm=>al.1 (zI _ hm)) oJ;have ah:∀x,dT M1 x->x≠G.2.x5->dH D M2 x=dH D M1 x/\dT M2 x/\x≠q2:=fun x E aw=>by
  have:=aG.rest x E (oP aw)
  exact⟨this.1,this.2.1,by simpa using this.2.2⟩
 have am:∀x∈I::J,dT M1 x/\x≠G.2.x5:=fun x E=>by refine⟨H1.J4 af.Q3 x E,fun e=>?_⟩;rcases zG.1 E with e'|E;rcases af.new I oL with h9|h9;exact ag (by rw[<- e,e',zE.1 h9]);exact h9 (by rw[<- e',e];exact aF);exact al.1 (zH _ (e▸E))
 have a0:Has D M2 k v h ⟨I,m1,K1,I::J⟩:=H1.q8 fun x E=>(ah x (am x E).1 (am x E).2).1;have a1:∀b,b∈A\/b∈B->∀x∈b.2.y5,dT M x/\x≠e1.2.x5/\x≠G.2.x5:=fun b u x E=>by
  have hd:=yM.1 av;have a2:=yM.1 hd.2.1;have aH:∀z,z=e1.2.x5\/z=G.2.x5->z∈(e1.2.x5::R1)++(G.2.x5::R2):=fun z hz=>pm.mem_iff.2 (by rcases hz with rfl|rfl<;>simp);have key:∀z,z=e1.2.x5\/z=G.2.x5->x≠z:=fun z hz e=>by rcases u with u|u;exact hd.2.2 x (yK.2 ⟨b,u,E⟩) z (zH _ (aH z hz)) e;exact a2.2.2 z (aH z hz) x (yK.2 ⟨b,u,E⟩) e.symm
  refine⟨ae x ?_,key _ (.inl rfl),key _ (.inr rfl)⟩;rcases u with u|u;exact zH _ (yK.2 ⟨b,u,E⟩);exact zI _ (zI _ (yK.2 ⟨b,u,E⟩))
 have ai:∀b,b∈A\/b∈B->Has D M2 k v h b.2/\minOf k v h<=b.2.size:=fun b u=>⟨(H.rest b u).1.q8 fun x E=>by have h9:=a1 b u x E;have h8:=V x h9.1 h9.2.1;exact ((ah x h8.2.1 h9.2.2).1).trans h8.1,(H.rest b u).2⟩;have hL:K1++K2=L1++L2:=eL;have aI:fN (A++(e1.1,(⟨I,m1,K1,I::J⟩:ie))::(r.2.2,⟨q2,m2,K2,q2::U⟩)::B):=by
  have hS:=H.sep;have hp:=pairwise_append.1 hS.pair;have aj:=yJ.1 hp.2.1;have aK:=yJ.1 aj.2;have hj:fN (A++(e1.1,(⟨0,0,L1++L2,[]⟩:ie))::B):=by refine⟨pairwise_append.2 ⟨hp.1,yJ.2 ⟨fun b u=>⟨(aj.1 b (by simp[u])).1,fun x E=>?_⟩,aK.2⟩,fun a ha b u=>?_⟩,fun b u x E=>?_⟩;rcases zD.1 E with E|E;exact (aj.1 b (by simp[u])).2 x E;exact (aK.1 b u).2 x E;rcases zG.1 u with rfl|u;exact hp.2.2 a ha (e1.1,⟨0,0,L1,[]⟩) oL;exact hp.2.2 a ha b (by simp[u]);rcases zD.1 u with u|u;exact hS.low b (by simp[u]) x E;rcases zG.1 u with rfl|u;rcases zD.1 E with E|E;exact hS.low (e1.1,⟨0,0,L1,[]⟩) oL x E;have h9:=hS.low (G.1,⟨0,0,L2,[]⟩) oL x E;exact zj (sA (aj.1 (G.1,⟨0,0,L2,[]⟩) oL).1) h9;exact hS.low b (by simp[u]) x E
  exact hj.wZ hL.symm aQ aR aC aD
 have ax:gz k (A++(e1.1,(⟨I,m1,K1,I::J⟩:ie))::(r.2.2,⟨q2,m2,K2,q2::U⟩)::B):=by
  have h9:gz k (A++e1::B):=fun b u=>H.J6 b (by
   cases A with
   | nil=>exact zN _ u
   | cons a A=>
    rcases zD.1 (show b∈A++e1::B from u) with u|u;exact zH (e1::G::B) u;exact zI A ((zG.1 u).elim (fun e=>by rw[e];simp) fun u=>by simp[u]))
  exact qrD h9 ⟨aT,aU⟩
 have ay:((A++(e1.1,(⟨I,m1,K1,I::J⟩:ie))::(r.2.2,⟨q2,m2,K2,q2::U⟩)::B).map (·.1)).head?=some []:=by
  have h9:=H.head;cases A with
  | nil=>exact h9
  | cons a A=>exact h9
 refine⟨dM (A++(e1.1,(⟨I,m1,K1,I::J⟩:ie))::(r.2.2,⟨q2,m2,K2,q2::U⟩)::B),M2,_,?_,⟨_,ay,rfl,by simp;omega,?_,rfl,ax,aI,H.len,fun b u=>?_⟩,?_,oJ⟩;have a3:(dM (A++e1::G::B)).J9.getD A.length 0=e1.2.x5:=yu.1;have a4:(dM (A++e1::G::B)).J9.getD (A.length+1) 0=G.2.x5:=yu.2;unfold np;rw[a3,a4,s1];dsimp only;rw[if_neg (fun h=>h rfl),s2];exact congrArg (fun N=>((N,(0:Int)),M2)) (qzz (s1:=⟨I,m1,K1,I::J⟩) (s2:=⟨q2,m2,K2,q2::U⟩));rw[qu,yH,<- hL,zV];rcases zD.1 u with u|u;exact ai b (.inl u);rcases zG.1 u with rfl|u;exact⟨a0,aV⟩;rcases zG.1 u with rfl|u;exact⟨H2,aW⟩;exact ai b (.inr u);have t1:Step D M M1 (e1.2.x5::G.2.x5::(J++U)) ([I]++G.2.x5::(J++U)):=by
  have:=af.beside (Z:=G.2.x5::(J++U)) (fun x E=>ae x (ab x (zN _ E))) (by have p9:(e1.2.x5::G.2.x5::(J++U)).Perm ((G.2.x5::(J++U))++[e1.2.x5]):=(perm_append_singleton _ _).symm;exact p9.nodup_iff.1 ak)
  exact this.perm (perm_append_singleton _ _) perm_append_comm
 have aL:∀x∈[I]++(J++U),dT M1 x:=fun x E=>t1.has x (by rcases zD.1 E with E|E;exact zH _ E;exact zI _ (zN _ E));have p8:([I]++G.2.x5::(J++U)).Perm (([I]++(J++U))++[G.2.x5]):=(by exact perm_middle.trans<|(perm_append_singleton _ _).symm);have t2:=aG.beside (Z:=[I]++(J++U)) aL (p8.nodup_iff.1 t1.nodup);have t3:=(t1.perm (.refl _) p8).trans t2;have p7:(([I]++(J++U))++[q2]).Perm ((I::J)++(q2::U)):=(by show (I::((J++U)++[q2])).Perm (I::(J++q2::U));refine List.Perm.cons _ ((perm_append_singleton _ _).trans ?_);exact perm_middle.symm);have t4:=Step.part (D:=D) (a:=A.flatMap (·.2.y5)) (b:=B.flatMap (·.2.y5)) ae av (t3.perm pm.symm p7);rw[qu,yH];refine t4.perm (.refl _) ?_;rw[zV]
end
end
section
section
variable {D:dI} {M M':dZ} {k v:Nat}
def qpl(G:M.Wf)(I:M.Q3=false)(J:dT M n):∃M',fl M n=(0,M')/\Step D M M' [n] []/\M.Q1.length<=M'.Q1.length:=by
 obtain⟨M',e,t,R,U,V⟩:=qlv (D:=D) (q:=n+1) G I J oJ;have E:∀x,x≠n->dH D M' x=dH D M x/\(dT M' x↔dT M x):=fun x u=>by by_cases hq':x=n+1;rw[hq'];exact⟨R,U⟩;exact⟨t.rest x hq' u,t.use x hq' u⟩
 refine⟨M',e,⟨t.wf,t.Q3,t.Q2,t.j9,t.Q5,t.Q9,t.y0,t.x6,fun x u h=>?_,fun x u=>?_,fun x u=>(nomatch u),fun x u=>(nomatch u),.nil,t.nW⟩,V⟩;have h:x≠n:=(oP h);exact⟨(E x h).1,(E x h).2.2 u,oL⟩;by_cases h:x=n;subst h;exact absurd u (t.left oJ);exact .inr ⟨(E x h).2.1 u,by simpa using h⟩
def qpz(hc:gZ k v){A B:List gM}{e1 G:gM}{I J:List Int}(H:sO D M k v h A B e1 G Nl Nr n1 n2 L1 L2 I J)(h1:n1+n2<=(if h=0 then (dW k v).1 else (dW k v).2))(h2:minOf k v h<=n1+n2)(hf:1<=M.Q1.length): ∃N M' R,lI k v M (dM (A++e1::G::B)) A.length Nl Nr=((N,0),M')/\jn D M' k v (h+1) N (A.length+B.length+1) (A.flatMap (·.2.y4)++((L1++L2)++B.flatMap (·.2.y4))) R/\ Step D M M' (A.flatMap (·.2.y5)++(((e1.2.x5::I)++(G.2.x5::J))++B.flatMap (·.2.y5))) R/\M.Q1.length<=M'.Q1.length+1:=by
 obtain⟨aC,aD,aE,aF⟩:=H.wD;have hJ:=qy9 H.left H.right h1 aC aD ⟨aE,aF⟩;have a2:=hc.min h;have V:=H.use;have al:=H.nodup;have pm:(((e1.2.x5::I)++(G.2.x5::J))).Perm (e1.2.x5::G.2.x5::(I++J)):=by rw[xJ];exact (perm_middle).cons _
 have aa:∀x,x∈e1.2.x5::G.2.x5::(I++J)->x∈A.flatMap (·.2.y5)++(((e1.2.x5::I)++(G.2.x5::J))++B.flatMap (·.2.y5)):=fun x E=>zI _ (zH _ (pm.mem_iff.2 E));have ak:(e1.2.x5::G.2.x5::(I++J)).Nodup:=pm.nodup_iff.1 (yM.1 (yM.1 al).2.1).1;have ab:=nodup_cons.1 ak;have aq:=nodup_cons.1 ab.2;have aG:=V _ (aa e1.2.x5 oL);have ar:=V _ (aa G.2.x5 oL);obtain⟨q,M1,s1,ac,H1,a4⟩:=hJ.store H.wf H.Q3 oJ aG (fun hm=>ab.1 (zN _ hm)) hf;have ad:G.2.x5≠e1.2.x5:=fun e=>ab.1 (by rw[e];simp);have U:∀x,dT M x->x≠e1.2.x5->dH D M1 x=dH D M x/\dT M1 x/\x≠q:=fun x E am=>by
  have:=ac.rest x E (oP am)
  exact⟨this.1,this.2.1,by simpa using this.2.2⟩
 obtain⟨M2,s2,au,a7⟩:=qpl (D:=D) ac.wf ac.Q3 (U _ ar ad).2.1;have ae:∀x,dT M1 x->x≠G.2.x5->dH D M2 x=dH D M1 x/\dT M2 x:=fun x E am=>by
  have:=au.rest x E (oP am)
  exact⟨this.1,this.2.1⟩
 have aH:Has D M2 k v h ⟨q,n1+n2,L1++L2,q::(I++J)⟩:=H1.q8 fun x E=>(ae x (H1.J4 ac.Q3 x E) (fun e=>by rcases zG.1 E with e'|E;exact (U _ ar ad).2.2 (by rw[<- e,e']);exact aq.1 (e▸E))).1;have aI:∀b,b∈A\/b∈B->∀x∈b.2.y5,dT M x/\x≠e1.2.x5/\x≠G.2.x5:=fun b u x E=>by
  have hd:=yM.1 al;have aJ:=yM.1 hd.2.1;have av:∀z,z=e1.2.x5\/z=G.2.x5->z∈(e1.2.x5::I)++(G.2.x5::J):=fun z hz=>pm.mem_iff.2 (by rcases hz with rfl|rfl<;>simp);have key:∀z,z=e1.2.x5\/z=G.2.x5->x≠z:=fun z hz e=>by rcases u with u|u;exact hd.2.2 x (yK.2 ⟨b,u,E⟩) z (zH _ (av z hz)) e;exact aJ.2.2 z (av z hz) x (yK.2 ⟨b,u,E⟩) e.symm
  refine⟨V x ?_,key _ (.inl rfl),key _ (.inr rfl)⟩;rcases u with u|u;exact zH _ (yK.2 ⟨b,u,E⟩);exact zI _ (zI _ (yK.2 ⟨b,u,E⟩))
 have af:∀b,b∈A\/b∈B->Has D M2 k v h b.2/\minOf k v h<=b.2.size:=fun b u=>⟨(H.rest b u).1.q8 fun x E=>by have h9:=aI b u x E;have h8:=U x h9.1 h9.2.1;exact ((ae x h8.2.1 h9.2.2).1).trans h8.1,(H.rest b u).2⟩;have hS:=H.sep;have hp:=pairwise_append.1 hS.pair;have aj:=yJ.1 hp.2.1;have ax:=yJ.1 aj.2;have ay:fN (A++(e1.1,(⟨q,n1+n2,L1++L2,q::(I++J)⟩:ie))::B):=by refine⟨pairwise_append.2 ⟨hp.1,yJ.2 ⟨fun b u=>⟨(aj.1 b (by simp[u])).1,fun x E=>?_⟩,ax.2⟩,fun a ha b u=>?_⟩,fun b u x E=>?_⟩;rcases zD.1 E with E|E;exact (aj.1 b (by simp[u])).2 x E;exact (ax.1 b u).2 x E;rcases zG.1 u with rfl|u;exact hp.2.2 a ha (e1.1,⟨0,0,L1,[]⟩) oL;exact hp.2.2 a ha b (by simp[u]);rcases zD.1 u with u|u;exact hS.low b (by simp[u]) x E;rcases zG.1 u with rfl|u;rcases zD.1 E with E|E;exact hS.low (e1.1,⟨0,0,L1,[]⟩) oL x E;have h9:=hS.low (G.1,⟨0,0,L2,[]⟩) oL x E;exact zj (sA (aj.1 (G.1,⟨0,0,L2,[]⟩) oL).1) h9;exact hS.low b (by simp[u]) x E
 have an:gz k (A++(e1.1,(⟨q,n1+n2,L1++L2,q::(I++J)⟩:ie))::B):=by
  have h9:gz k (A++e1::B):=fun b u=>H.J6 b (by
   cases A with
   | nil=>exact zN _ u
   | cons a A=>
    rcases zD.1 (show b∈A++e1::B from u) with u|u;exact zH (e1::G::B) u;exact zI A ((zG.1 u).elim (fun e=>by rw[e];simp) fun u=>by simp[u]))
  exact Eh h9
 have ao:((A++(e1.1,(⟨q,n1+n2,L1++L2,q::(I++J)⟩:ie))::B).map (·.1)).head?=some []:=by
  have h9:=H.head;cases A with
  | nil=>exact h9
  | cons a A=>exact h9
 have aV:=H.len;refine⟨dM (A++(e1.1,(⟨q,n1+n2,L1++L2,q::(I++J)⟩:ie))::B),M2,_,?_,⟨_,ao,rfl,by simp;omega,by rw[qu],rfl,an,ay,oJ,fun b u=>?_⟩,?_,oJ⟩;have aK:(dM (A++e1::G::B)).J9.getD A.length 0=e1.2.x5:=yu.1;have aL:(dM (A++e1::G::B)).J9.getD (A.length+1) 0=G.2.x5:=yu.2;have aM:(dM (A++e1::G::B)).J6.getD A.length []=G.1:=Fy;unfold lI;rw[aK,aL,aM,s1];dsimp only;rw[if_neg (fun h=>h rfl),s2];dsimp only;rw[if_neg (fun h=>h rfl)];exact congrArg (fun N=>((N,(0:Int)),M2)) (qyU (s:=⟨q,n1+n2,L1++L2,q::(I++J)⟩));rcases zD.1 u with u|u;exact af b (.inl u);rcases zG.1 u with rfl|u;exact⟨aH,h2⟩;exact af b (.inr u);have t1:Step D M M1 (e1.2.x5::G.2.x5::(I++J)) ([q]++G.2.x5::(I++J)):=by
  have:=ac.beside (Z:=G.2.x5::(I++J)) (fun x E=>V x (aa x (zN _ E))) (by have p9:(e1.2.x5::G.2.x5::(I++J)).Perm ((G.2.x5::(I++J))++[e1.2.x5]):=(perm_append_singleton _ _).symm;exact p9.nodup_iff.1 ak)
  exact this.perm (perm_append_singleton _ _) perm_append_comm
 have p8:([q]++G.2.x5::(I++J)).Perm (([q]++(I++J))++[G.2.x5]):=(by exact perm_middle.trans<|(perm_append_singleton _ _).symm);have t2:=au.beside (Z:=[q]++(I++J)) (fun x E=>t1.has x (by rcases zD.1 E with E|E;exact zH _ E;exact zI _ (zN _ E))) (p8.nodup_iff.1 t1.nodup);have t3:=(t1.perm (.refl _) p8).trans t2;rw[xH] at t3;have t4:=Step.part (D:=D) (a:=A.flatMap (·.2.y5)) (b:=B.flatMap (·.2.y5)) V al (t3.perm pm.symm (.refl _));rw[qu];exact t4
def fN.swap{A B:List gM}{e:gM}{s:ie}(h:fN (A++e::B))(u:∀x∈s.y4,x∈e.2.y4):fN (A++(e.1,s)::B):=
 h.put (key:=e.1) qW (fun b E=>(h.mid.2 b E).1) fun x G=>.inr (u x G)
def E2(hc:gZ k v){key:Key}:∀(h:Nat) (M:dZ) (s:ie),Has D M k v h s->M.Wf->M.Q3=false->s.y5.Nodup->key∈dP s.y4->2*h<=M.Q1.length-> ∃N n M' R R',ic D k v key (h+1) M s.x5=((N,0),M')/\s.y5=s.x5::R/\jn D M' k v h N n (gr key s.y4) R'/\Step D M M' R R'/\s.size<=n+1/\M.Q1.length<=M'.Q1.length+2*h
 | 0,M,s,hs,hW,ho,aM,am,hf=>by
  obtain⟨N,R,hl,hN,hp,bV,_⟩:=hs.load;have bW:=hN;obtain⟨rfl,hn,rfl,hL,aN,bd⟩:=hN;have an:=qm7 aN am;have hm:=(wH aN).2 am;have hi:dN (dP s.y4) key<s.y4.length:=by
   have:=(zP.1 hm).1
   simpa using this
  have bM:(gr key s.y4).length+1=s.y4.length:=(by rw[an,zF,yL,yC];omega);refine⟨ef (gr key s.y4),(gr key s.y4).length,M,[],[],?_,hp,⟨rfl,rfl,rfl,fun x u=>hL x (Gc.1 u).1,qpg aN,oJ⟩,Step.refl hW ho (fun x u=>nomatch u) .nil,oJ,oJ⟩;unfold ic;rw[hl];dsimp only;rw[if_neg (fun h=>h rfl),if_pos (show (ef s.y4).Q4=true from rfl),if_pos (show (ef s.y4).J6[dN (ef s.y4).J6 key]?=some key from hm)];refine congrArg (fun N=>((N,(0:Int)),M)) ?_;rw[an];unfold ef gR;simp only[xN,xP,xQ]
 | h+1,M,⟨p,n,L,P⟩,⟨es,h0,h1,h2,h3,h4,h5,h6,h7⟩,hW,ho,aM,am,hf=>by
  dsimp only at h1 h2 h3 h5 aM am;subst h1 h2 h3;have hl:dJ D M k v p=(dM es,0):=h4.load h5;have ao:=h4.right.x9;obtain⟨A,e,B,ab,hA,bx,bz,aP⟩:=uO (key:=key) h0 h6;have aQ:(dM es).J9.getD (eh (dM es).J6 key) 0=e.2.x5:=aP;have bA:eh (dM es).J6 key=A.length:=hA.symm;have bB:e∈es:=(by rw[ab];simp);obtain⟨bC,bD⟩:=h7 e bB;have aj:es.flatMap (·.2.y5)=A.flatMap (·.2.y5)++(e.2.y5++B.flatMap (·.2.y5)):=(by rw[ab,qu]);have aw:es.flatMap (·.2.y4)=A.flatMap (·.2.y4)++(e.2.y4++B.flatMap (·.2.y4)):=(by rw[ab,qu]);have az:∀z∈A.flatMap (·.2.y5)++(e.2.y5++B.flatMap (·.2.y5)),dT M z:=fun z hz=>by rw[<- aj] at hz;obtain⟨b,G,hz⟩:=yK.1 hz;exact (h7 b G).1.J4 ho z hz
  have ai:(A.flatMap (·.2.y5)++(e.2.y5++B.flatMap (·.2.y5))).Nodup:=(by rw[<- aj];exact (nodup_cons.1 aM).2);have ap:e.2.y5.Nodup:=(yM.1 (yM.1 ai).2.1).1;have ax:=h6;rw[ab] at ax;have aA:=ax.mid;have bg:∀x∈A.flatMap (·.2.y4),fE x.1 key:=fun x u=>by obtain⟨a,ha,u⟩:=yK.1 u;exact rq (aA.1 a ha x u) bx
  have bh:∀x∈B.flatMap (·.2.y4),fE key x.1:=fun x u=>by obtain⟨b,G,u⟩:=yK.1 u;exact rq (bz b G) ((aA.2 b G).2.2 x u)
  have an:gr key (es.flatMap (·.2.y4))=A.flatMap (·.2.y4)++(gr key e.2.y4++B.flatMap (·.2.y4)):=(by rw[aw,qm6 bg,qlt bh]);have aR:key∈dP e.2.y4:=by obtain⟨x,u,rfl⟩:=mem_map.1 am;rw[aw] at u;rcases zD.1 u with u|u;exact absurd (bg x u) qW;rcases zD.1 u with u|u;exact zZ u;exact absurd (bh x u) qW
  obtain⟨N1,n1,M1,Re,U,ec,aT,aq,st,b1,b2⟩:=E2 hc h M e.2 bC hW ho ap aR oJ;rw[aT] at az ai ap;have ac:=gz.of h4;have aK:e.2.x5∉Re:=(nodup_cons.1 ap).1;have aU:dT M e.2.x5:=az _ oL;have bF:Step D M M1 (e.2.x5::Re) (e.2.x5::U):=st.beside (Z:=[e.2.x5]) (fun x u=>by rw[zE.1 u];exact aU) (oP ap);have aV:=Step.part az ai bF;have bi:dT M1 e.2.x5:=(st.rest _ aU aK).2.1;have aW:e.2.x5∉U:=(st.rest _ aU aK).2.2;have I:∀b,b∈A\/b∈B->Has D M1 k v h b.2/\minOf k v h<=b.2.size:=fun b G=>by
   have aX:b∈es:=by rw[ab];rcases G with G|G<;>simp[G]
   refine⟨(h7 b aX).1.q8 fun x u=>?_,(h7 b aX).2⟩;have hd:=yM.1 ai;refine (st.rest x ((h7 b aX).1.J4 ho x u) fun hm=>?_).1;rcases G with G|G;exact hd.2.2 x (yK.2 ⟨b,G,u⟩) x (zH _ (zN _ hm)) rfl;exact (yM.1 hd.2.1).2.2 x (zN _ hm) x (yK.2 ⟨b,G,u⟩) rfl
  have bd:n1<=(if h=0 then (dW k v).1 else (dW k v).2):=by
   cases h with
   | zero=>exact aq.2.2.2.2.2
   | succ h=>obtain⟨_,_,_,_,_,_,_,_,h9,_⟩:=aq;exact h9
  have b3:=hc.min h;have au:minOf k v h=(if h=0 then (dW k v).1 else (dW k v).2) / 2:=(by unfold minOf;split<;>rfl);have aB:fN (A++(e.1,(⟨0,0,gr key e.2.y4,[]⟩:ie))::B):=ax.swap fun x u=>(Gc.1 u).1;have E:es.length=A.length+B.length+1:=(by rw[ab];simp;omega);have aF:∀ {N:dL} {M2:dZ} {n R':_},jn D M2 k v (h+1) N n (A.flatMap (·.2.y4)++(gr key e.2.y4++B.flatMap (·.2.y4))) R'->jn D M2 k v (h+1) N n (gr key (es.flatMap (·.2.y4))) R':=fun h9=>by rw[an];exact h9
  have ay:∀ {M2:dZ} {R':List Int},Step D M1 M2 (A.flatMap (·.2.y5)++((e.2.x5::U)++B.flatMap (·.2.y5))) R'->Step D M M2 (es.flatMap (·.2.y5)) R':=fun h9=>by rw[aj,aT];exact aV.trans h9
  have aL:oQ N1 k v↔n1<minOf k v h:=(by unfold oQ;rw[aq.size,au]);unfold ic;rw[hl];dsimp only;rw[if_neg (fun h=>h rfl),if_neg (show ¬(dM es).Q4=true from fun e=>nomatch e),aQ,ec];dsimp only;rw[if_neg (fun h=>h rfl),bA];by_cases hlw:oQ N1 k v;rw[if_neg (fun h=>h hlw)];have b4:=aL.1 hlw;have bk:n1+1=minOf k v h:=oJ;by_cases hA0:A.length>0;rw[if_pos hA0];obtain⟨A',f,rfl⟩:∃A' f,A=A'++[f]:=(by have bl:A≠[]:=length_pos_iff.1 hA0;exact⟨A.dropLast,A.getLast bl,(vA bl).symm⟩);have bG:(A'++[f]).length-1=A'.length:=oL;rw[bG];have aC:=I f (.inl oL);obtain⟨Ny,Ry,aZ,av,a0,_,_⟩:=aC.1.load;have J:es=A'++f::e::B:=(by rw[ab];simp);have bH:(A'++[f]).flatMap (·.2.y5)=A'.flatMap (·.2.y5)++f.2.y5:=(by simp[yQ]);have bn:(A'++[f]).flatMap (·.2.y4)=A'.flatMap (·.2.y4)++f.2.y4:=(by simp[yQ]);have ad:(A'++[f]).flatMap (·.2.y5)++((e.2.x5::U)++B.flatMap (·.2.y5))=A'.flatMap (·.2.y5)++(((f.2.x5::Ry)++(e.2.x5::U))++B.flatMap (·.2.y5)):=(by rw[bH,a0];simp only[zV]);have ar:(A'++[f]).flatMap (·.2.y4)++(gr key e.2.y4++B.flatMap (·.2.y4))=A'.flatMap (·.2.y4)++((f.2.y4++gr key e.2.y4)++B.flatMap (·.2.y4)):=(by rw[bn];simp only[zV]);have aD:fN (A'++(f.1,(⟨0,0,f.2.y4,[]⟩:ie))::(e.1,⟨0,0,gr key e.2.y4,[]⟩)::B):=(by have h9:fN (A'++f::((e.1,(⟨0,0,gr key e.2.y4,[]⟩:ie))::B)):=(oP aB);exact h9.swap (s:=⟨0,0,f.2.y4,[]⟩) fun x u=>u);have ae:=aV;rw[ad] at ae;have Hn:sO D M1 k v h A' B f e Ny N1 f.2.size n1 f.2.y4 (gr key e.2.y4) Ry U:=
   ⟨st.wf,st.Q3,by rw[<- J];exact h0,by rw[<- J];exact ac,aD,by have:=ao.2;rw[E] at this;simp at this;omega,fun b G=>I b (G.imp (fun G=>by simp[G]) id),av,aq,ae.has,ae.nodup⟩
  have a2:(dM es).J9.getD A'.length 0=f.2.x5:=(by rw[J];exact yu.1);have V:iV Ny k v↔minOf k v h<f.2.size:=(by unfold iV;rw[av.size,au]);unfold jG;rw[a2,aZ];dsimp only;rw[if_neg (fun h=>h rfl),if_pos (show A'.length<(A'++[f]).length by simp),J];by_cases hsq:iV Ny k v;rw[if_neg (fun h=>h hsq)];obtain⟨a3,a4,a5,a6⟩:=Hn.wD;have a7:(dM (A'++f::e::B)).J6.getD A'.length []=e.1:=Fy;rw[a7];obtain⟨N,M2,R,e2,af,aa,aH⟩:=qto hc Hn (qy0 hc av aq (V.1 hsq) bk a3 a4 ⟨a5,a6⟩) oJ;rw[<- ar] at af;rw[<- ad] at aa;rw[<- J];exact⟨N,_,M2,_,R,by rw[J];exact e2,rfl,aF af,ay aa,by rw[E];simp;omega,oJ⟩;rw[if_pos hsq];have bI:f.2.size<=minOf k v h:=Nat.le_of_not_lt fun h9=>hsq (V.2 h9);have a8:=aC.2;obtain⟨N,M2,R,e2,af,aa,aH⟩:=qpz hc Hn oJ oJ oJ;rw[<- ar] at af;rw[<- ad] at aa;rw[<- J];exact⟨N,_,M2,_,R,by rw[J];exact e2,rfl,aF af,ay aa,by rw[E];simp;omega,oJ⟩;rw[if_neg hA0];obtain rfl:A=[]:=eq_nil_of_length_eq_zero oJ;obtain⟨f,B',rfl⟩:∃f B',B=f::B':=by
   cases B with
   | nil=>rw[E] at ao;simp at ao
   | cons f B'=>exact⟨f,B',rfl⟩
  have aC:=I f (.inr oL);obtain⟨Ny,Ry,aZ,av,a0,_,_⟩:=aC.1.load;have J:es=[]++e::f::B':=ab;have ad:([]:List gM).flatMap (·.2.y5)++((e.2.x5::U)++(f::B').flatMap (·.2.y5))=([]:List gM).flatMap (·.2.y5)++(((e.2.x5::U)++(f.2.x5::Ry))++B'.flatMap (·.2.y5)):=by rw[yH,a0];simp only[zV]
  have ar:([]:List gM).flatMap (·.2.y4)++(gr key e.2.y4++(f::B').flatMap (·.2.y4))=([]:List gM).flatMap (·.2.y4)++((gr key e.2.y4++f.2.y4)++B'.flatMap (·.2.y4)):=(by rw[yH];simp only[zV]);have aD:fN ([]++(e.1,(⟨0,0,gr key e.2.y4,[]⟩:ie))::(f.1,⟨0,0,f.2.y4,[]⟩)::B'):=(by have h9:fN ([(e.1,(⟨0,0,gr key e.2.y4,[]⟩:ie))]++f::B'):=aB;exact h9.swap (s:=⟨0,0,f.2.y4,[]⟩) fun x u=>u);have ae:=aV;rw[ad] at ae;have Hn:sO D M1 k v h [] B' e f N1 Ny n1 f.2.size (gr key e.2.y4) f.2.y4 U Ry:=
   ⟨st.wf,st.Q3,by rw[<- J];exact h0,by rw[<- J];exact ac,aD,by have:=ao.2;rw[E] at this;simp at this⊢;omega,fun b G=>I b (G.imp id fun G=>by simp[G]),aq,av,ae.has,ae.nodup⟩
  have a2:(dM es).J9.getD (([]:List gM).length+1) 0=f.2.x5:=(by rw[J];exact yu.2);have V:iV Ny k v↔minOf k v h<f.2.size:=(by unfold iV;rw[av.size,au]);unfold jG;rw[a2,aZ];dsimp only;rw[if_neg (fun h=>h rfl),if_neg (show ¬([]:List gM).length+1<([]:List gM).length by simp),J];by_cases hsq:iV Ny k v;rw[if_neg (fun h=>h hsq)];obtain⟨a3,a4,a5,a6⟩:=Hn.wD;have a7:(dM ([]++e::f::B')).J6.getD ([]:List gM).length []=f.1:=Fy (A:=[]) (B:=B') (e1:=e);rw[a7];obtain⟨N,M2,R,e2,af,aa,aH⟩:=qto hc Hn (qzD hc aq av bk (V.1 hsq) a3 a4 ⟨a5,a6⟩) oJ;rw[<- ar] at af;rw[<- ad] at aa;rw[<- J];exact⟨N,_,M2,_,R,by rw[J];exact e2,rfl,aF af,ay aa,by rw[E];simp,oJ⟩;rw[if_pos hsq];have bI:f.2.size<=minOf k v h:=Nat.le_of_not_lt fun h9=>hsq (V.2 h9);have a8:=aC.2;obtain⟨N,M2,R,e2,af,aa,aH⟩:=qpz hc Hn oJ oJ oJ;rw[<- ar] at af;rw[<- ad] at aa;rw[<- J];exact⟨N,_,M2,_,R,by rw[J];exact e2,rfl,aF af,ay aa,by rw[E];simp,oJ⟩;rw[if_pos hlw];have a8:minOf k v h<=n1:=Nat.le_of_not_lt fun h9=>hlw (aL.2 h9);obtain⟨q,M2,e2,aa,H2,aH⟩:=aq.store st.wf st.Q3 oJ bi aW oJ;rw[e2];have bJ:Step D M M2 (e.2.x5::Re) (q::U):=Step.kid (Q:=[q]) (fun z hz=>az z (zI _ (zH _ hz))) ap st aa;have bK:=Step.part az ai bJ;have a9:fN (A++(e.1,(⟨q,n1,gr key e.2.y4,q::U⟩:ie))::B):=ax.swap fun x u=>(Gc.1 u).1;have a':((A++(e.1,(⟨q,n1,gr key e.2.y4,q::U⟩:ie))::B).map (·.1)).head?=some []:=(by rw[ab] at h0;rw[xN,xO] at h0⊢;exact h0);refine⟨dM (A++(e.1,(⟨q,n1,gr key e.2.y4,q::U⟩:ie))::B),es.length,M2,_,A.flatMap (·.2.y5)++((q::U)++B.flatMap (·.2.y5)),?_,rfl,⟨_,a',rfl,by rw[ab];simp,by rw[qu,an],by rw[qu],Eh (by rw[<- ab];exact ac),a9,ao.2,fun b G=>?_⟩,by rw[aj,aT];exact bK,by show es.length<=es.length+1;omega,oJ⟩;rw[ab];exact congrArg (fun N=>((N,(0:Int)),M2)) (qzy (s:=⟨q,n1,gr key e.2.y4,q::U⟩));have bo:∀b,b∈A\/b∈B->Has D M2 k v h b.2/\minOf k v h<=b.2.size:=fun b G=>by have h9:=I b G;refine⟨h9.1.q8 fun x u=>(aa.rest x (h9.1.J4 st.Q3 x u) fun hm=>?_).1,h9.2⟩;have hd:=yM.1 ai;have bp:=zE.1 hm;rcases G with G|G;exact hd.2.2 x (yK.2 ⟨b,G,u⟩) x (by rw[bp];simp) rfl;exact (yM.1 hd.2.1).2.2 x (by rw[bp];simp) x (yK.2 ⟨b,G,u⟩) rfl
  rcases zD.1 G with G|G;exact bo b (.inl G);rcases zG.1 G with rfl|G;exact⟨H2,a8⟩;exact bo b (.inr G)
end
end
end
section
open Go Go.Pt List
open Go.IntKind (wrap)
variable {l:List Key}
def FS{α:Type}{p:α->Bool}:∀ {l:List α} {r:Nat},r<=l.length->(∀(i:Nat) a,i<r->l[i]?=some a->p a=true)->(∀a,l[r]?=some a->p a=false)->(l.takeWhile p).length=r
 | [],r,h,_,_=>by simp at h;simp[h]
 | x::l,0,h,_,u=>by
  have:=u x rfl
  rw[takeWhile_cons,this];rfl
 | x::l,r+1,h,G,u=>by
  have I:=G 0 x (Nat.succ_pos r) rfl
  have:=FS (p:=p) (l:=l) (r:=r) (oP h) (fun i a J E=>G (i+1) a oJ (oP E)) (fun a E=>u a (oP E))
  rw[takeWhile_cons,I];simp[this]
def qza{k:Key}{r:Nat}(E:r<=l.length)(G:∀(i:Nat) a,i<r->l[i]?=some a->lP a k)(I:∀a,l[r]?=some a->fE k a):eh l k=r:=
 FS E (fun i a J u=>yA (G i a J u)) fun a u=>zU fun h=>h (I a u)
def qwJ{k:Key}{r:Nat}(u:r<=l.length)(E:∀(i:Nat) a,i<r->l[i]?=some a->fE a k)(G:∀a,l[r]?=some a->lP k a):dN l k=r:=
 FS u (fun i a I h=>yA (E i a I h)) fun a h=>zU (G a h)
def Fh(h:fL l){i j:Nat}{a b:Key}(u:i<j)(E:l[i]?=some a)(G:l[j]?=some b):fE a b:=by obtain⟨I,rfl⟩:=zP.1 E;obtain⟨J,rfl⟩:=zP.1 G;exact pairwise_iff_getElem.1 h i j I J u
abbrev kj:=Bool×Sl×Sl×Sl
def eK (x:kj):Array Value:=#[.bool x.1,x.2.1.v,x.2.2.1.v,x.2.2.2.v]
def fD:kj:=(false,dG,dG,dG)
def NB (n:dL):Prop:=(∀a∈n.J6,eH a)/\(∀a∈n.Q0,eH a)/\∀x∈n.J9,gI x
def eB (S:List Nat) (w:World) (x:kj) (n:dL):Prop:=
 x.1=n.Q4/\NB n/\(∃pk,js S w x.2.1 pk/\gf pk=n.J6)/\(∃pv,js S w x.2.2.1 pv/\gf pv=n.Q0)/\ed iz 1 S w x.2.2.2 n.J9
def i6 (Z:List Nat) (w:World) (s:Sl) (l:List Key) (B:List Nat):Prop:=∃pk:py,eP gx 1 w s (iy pk) B/\gf pk=l/\∀p∈pk,eE Z w p.1 p.2
def fi (Z:List Nat) (w:World) (x:kj) (n:dL) (B:List Nat):Prop:=
 x.1=n.Q4/\NB n/\∃Bk h u,B=Bk++(h++u)/\B.Nodup/\i6 Z w x.2.1 n.J6 Bk/\i6 Z w x.2.2.1 n.Q0 h/\eP iz 1 w x.2.2.2 n.J9 u
def i6.nil(Z:List Nat)(w:World):i6 Z w dG [] []:=⟨[],.nil _ _ _,rfl,fun p h=>nomatch h⟩
def fi.zero(Z:List Nat)(w:World):fi Z w fD iv []:=⟨rfl,⟨fun _ h=>(nomatch h),fun _ h=>(nomatch h),fun _ h=>(nomatch h)⟩,[],[],[],rfl,nodup_nil,.nil _ _,.nil _ _,.nil _ _ _⟩
section
variable {Z Z' S:List Nat} {w w':World} {s:Sl} {l:List Key} {B:List Nat} {x:kj} {n:dL}
def i6.lt(h:i6 Z w s l B):∀b∈B,b<w.heap.size:=by obtain⟨pk,u,rfl,_⟩:=h;exact u.lt
def i6.q8(h:i6 Z w s l B)(f:Fr S w w')(u:∀b∈B,b∉S)(E:∀b∈S,b∈Z\/w.heap.size<=b)(G:∀b∈Z',b∈Z\/w.heap.size<=b):i6 Z' w' s l B:=by obtain⟨pk,I,J,R⟩:=h;exact⟨pk,I.q8 f u,J,fun p U=>(R p U).q8 (f.mono fun i V hl=>(E i V).elim id fun h=>absurd hl oJ) G⟩
def i6.q7(h:i6 Z w s l B)(f:Fr [] w w'):i6 Z w' s l B:=h.q8 f (fun _ _ h=>nomatch h) (fun _ h=>nomatch h) fun _ h=>.inl h
def fi.lt(h:fi Z w x n B):∀b∈B,b<w.heap.size:=by obtain⟨_,_,Bk,J,R,rfl,_,E,G,I⟩:=h;intro b u;rcases zD.1 u with u|u;exact E.lt b u;rcases zD.1 u with u|u;exact G.lt b u;exact I.lt b u
def fi.q8(h:fi Z w x n B)(f:Fr S w w')(E:∀b∈B,b∉S)(G:∀b∈S,b∈Z\/w.heap.size<=b)(I:∀b∈Z',b∈Z\/w.heap.size<=b):fi Z' w' x n B:=by obtain⟨J,u,Bk,R,U,rfl,V,h1,h2,h3⟩:=h;exact⟨J,u,Bk,R,U,rfl,V,h1.q8 f (fun b u=>E b (by simp[u])) G I,h2.q8 f (fun b u=>E b (by simp[u])) G I,h3.q8 f fun b u=>E b (by simp[u])⟩
def fi.q7(h:fi Z w x n B)(f:Fr [] w w'):fi Z w' x n B:=h.q8 f (fun _ _ h=>nomatch h) (fun _ h=>nomatch h) fun _ h=>.inl h
def fi.j6(h:fi Z w x n B)(u:∀b∈Z',b∈Z\/w.heap.size<=b):fi Z' w x n B:=h.q8 (.refl [] _) (fun _ _ h=>nomatch h) (fun _ h=>nomatch h) u
def i6.rd(h:i6 Z w s l B)(u:∀b∈B,b∉S)(E:∀b∈S,b∈Z\/w.heap.size<=b):∃pk,js S w s pk/\gf pk=l:=by obtain⟨pk,G,I,J⟩:=h;exact⟨pk,⟨G.jw vr u,fun p R=>(J p R).q8 (.refl _ _) E⟩,I⟩
def fi.rd(h:fi Z w x n B)(E:∀b∈B,b∉S)(G:∀b∈S,b∈Z\/w.heap.size<=b):eB S w x n:=by obtain⟨I,u,Bk,V,Bi,rfl,hn,J,R,U⟩:=h;exact⟨I,u,J.rd (fun b u=>E b (by simp[u])) G,R.rd (fun b u=>E b (by simp[u])) G,U.jw (fun _=>rfl) fun b u=>E b (by simp[u])⟩
def eB.q8{S':List Nat}(h:eB S w x n)(f:Fr S w w')(u:∀b∈S',b∈S\/w.heap.size<=b):eB S' w' x n:=by obtain⟨E,G,⟨pk,I,J⟩,⟨pv,R,U⟩,V⟩:=h;exact⟨E,G,⟨pk,I.q8 f u,J⟩,⟨pv,R.q8 f u,U⟩,V.q8 f u⟩
def eB.q7(h:eB S w x n)(f:Fr [] w w'):eB S w' x n:=h.q8 (f.mono fun b u=>nomatch u) fun b u=>.inl u
def eB.j6{S':List Nat}(h:eB S w x n)(u:∀b∈S',b∈S\/w.heap.size<=b):eB S' w x n:=h.q8 (.refl _ _) u
end
def qkl:∀ {l:List Key},(∀(i:Nat) a b,l[i]?=some a->l[i+1]?=some b->fE a b)->fL l
 | [],_=>.nil
 | [x],_=>pairwise_singleton _ _
 | x::y::r,h=>by have ih:fL (y::r):=qkl fun i a b u G=>h (i+1) a b (oP u) (oP G);have E:fE x y:=h 0 x y rfl rfl;refine yJ.2 ⟨fun a u=>?_,ih⟩;rcases zG.1 u with rfl|u;exact E;exact pw E (xe ih a u)
def Dk{α:Type}{l:List α}{i:Nat}{x y:α}(h:y∈fK l i x):y=x\/y∈l:=by unfold fK at h;simp only[zD,zE] at h;rcases h with (h|h)|h;exact .inr (yV h);exact .inl h;exact .inr (yU h)
def GI{k v:Nat}:∀(c:Nat) {b:List Int},eH b->(∀a∈(iS k v c b).1,eH a)/\∀a∈(iS k v c b).2,eH a
 | 0,_,_=>⟨fun _ h=>(nomatch h),fun _ h=>(nomatch h)⟩
 | c+1,b,h=>by have ih:=GI (k:=k) (v:=v) c (b:=b.drop (k+v)) (h.drop _);refine⟨fun a u=>?_,fun a u=>?_⟩;rcases zG.1 u with rfl|u;exact h.take _;exact ih.1 a u;rcases zG.1 u with rfl|u;exact (h.drop _).take _;exact ih.2 a u
def qpB{k:Nat}:∀(c:Nat) {b:List Int},eH b->∀a∈kT k c b,eH a
 | 0,_,_=>fun _ h=>(nomatch h)
 | c+1,b,h=>fun a u=>by rcases zG.1 u with rfl|u;exact h.take _;exact qpB c (h.drop _) a u
end
end Go.Proofs.YtpcmehldpoljfaaGreatDoor
