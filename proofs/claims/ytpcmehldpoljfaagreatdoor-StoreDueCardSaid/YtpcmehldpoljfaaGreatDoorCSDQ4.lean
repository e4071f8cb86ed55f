/- Conditions: those that stand in each line. -/
import Derived.Test.YtpcmehldpoljfaaGreatDoorCSDQ3
import Derived.Test.YtpcmehldpoljfaaGreatDoorCSDQ2
import Derived.Test.YtpcmehldpoljfaaGreatDoorCSDQ1
import Derived.Lib.Bytealg
import Derived.Lib.BytesEntry
import Derived.Laws.IdiomStrings
import Derived.Laws.BytesString
set_option linter.unusedVariables false
set_option linter.unusedSimpArgs false
set_option linter.defProp false
namespace Go.Proofs.YtpcmehldpoljfaaGreatDoor
open Go Go.Pt
attribute [local irreducible] ld dJ iH mZ i7 fi st new idx i8 jr fB js iY lV gT nn call dV inv run fc iM join loop held ext jR eI mH mz mI IntKind.wrap
open Go.Proofs.Tryz (prog)
section
open Go Go.Pt List
open Go.IntKind (wrap)
variable {D:dE} {F F1 FD S X:List Nat} {K:Int->WP} {M:dU} {Q2 Q5 Q9 body l l' numbers y4:List Int} {Q3:Bool} {a r:dE×Int} {db:Option Addr} {dbk k pb:Nat} {f:dE->dE×Int} {j9 next s:m7} {n x6:Int} {sl sn:Sl} {w w1:World} {wk:List Value}
def gu (l:List Int):List Int:=l.foldl (fun a n=>ins n a) []
def qtl(n:Int):∀l:List Int,(ins n l).length<=l.length+1
 | []=>by simp[ins]
 | a::l=>by
  have:=qtl n l
  simp only[ins];split;simp;split;simp;simp only[yH];omega
def qsx{i:Nat}(h:i<l.length):gu (l.take (i+1))=ins l[i] (gu (l.take i)):=by rw[gu,yF h,foldl_append];rfl
def qng(l:List Int):(gu l).length<=l.length:=by
 unfold gu;have:∀(l a:List Int),(l.foldl (fun a n=>ins n a) a).length<=a.length+l.length:=by
  intro l;induction l with
  | nil=>intro a;simp
  | cons x l ih=>
   intro a;have h:=ih (ins x a);have u:=qtl x a;rw[foldl_cons,yH];omega
 simpa using this l []
def qod(l:List Int):∀a:List Int,a.Pairwise (· < ·)->(l.foldl (fun a n=>ins n a) a).Pairwise (· < ·):=by
 induction l with
 | nil=>intro a h;exact h
 | cons x l ih=>intro a h;exact ih _ (Av h)
def qq4(l:List Int):∀a:List Int,(a++l).Nodup->(l.foldl (fun a n=>ins n a) a).Perm (a++l):=by
 induction l with
 | nil=>intro a h;rw[xG];exact .refl _
 | cons x l ih=>
  intro a h;have C:x∉a:=fun E=>by rw[yL] at h;exact h.2.2 x E x oL rfl
  have G:=wH C;have u:(ins x a++l).Perm (a++x::l):=(G.append_right l).trans (perm_middle.symm);exact (ih (ins x a) (u.nodup_iff.2 h)).trans u
def AQ(l:List Int):(gu l).Pairwise (· < ·):=qod l [] .nil
def DE(h:l.Nodup):(gu l).Perm l:=by
 have:=qq4 l [] (oP h)
 simpa[gu] using this
def qyc(h:l.Pairwise (· < ·)):l.Pairwise (·<=·):=h.imp Int.le_of_lt
def vG(h:l.Pairwise (· < ·)):l.Nodup:=h.imp (fun h=>Int.ne_of_lt h)
def Dk(h:l'.Perm l)(u:l'.Pairwise (·<=·))(C:l.Nodup):l'=gu l:=
 EJ (h.trans (DE C).symm) u (qyc (AQ l))
def qpf(h:l.Pairwise (· < ·)):gu l=l:=(Dk (.refl _) (qyc h) (vG h)).symm
def wM{x y:Int}:∀ {l:List Int},y∈ins x l↔y=x\/y∈l
 | []=>by simp[ins]
 | a::l=>by
  have:=wM (x:=x) (y:=y) (l:=l)
  simp only[ins];split;simp;split;rename_i h;subst h;simp;simp only[zG,this];constructor;rintro (h|h|h);exact .inr (.inl h);exact .inl h;exact .inr (.inr h);rintro (h|h|h);exact .inr (.inl h);exact .inl h;exact .inr (.inr h)
def vH{y:Int}:y∈gu l↔y∈l:=by
 have:∀(l a:List Int),y∈l.foldl (fun a n=>ins n a) a↔y∈a\/y∈l:=by
  intro l;induction l with
  | nil=>intro a;simp
  | cons x l ih=>
   intro a;rw[foldl_cons,ih,wM,zG];constructor;rintro ((h|h)|h);exact .inr (.inl h);exact .inl h;exact .inr (.inr h);rintro (h|h|h);exact .inl (.inr h);exact .inl (.inl h);exact .inr h
 rw[gu,this];simp
def andThen (r:dE×Int) (f:dE->dE×Int):dE×Int:=if r.2=0 then f r.1 else r
def fu:List (Int×List Int)->dE->dE×Int
 | [],D=>(D,0)
 | x::r,D=>andThen (ed D x.1 x.2) (fu r)
def eZ (D:dE) (numbers y4:List Int):dE×Int:=
 if (gd numbers y4).2≠0 then (D,(gd numbers y4).2)
 else andThen (fu ((y4.zip (gd numbers y4).1).map fun x=>(x.1,eh x.1 2 x.2)) D) fQ
def gx (s:m7):Int×List Int:=(Int.tmod s.1 2,eh (wrap .u32 (Int.tmod s.1 2)) 1 (gi s.1 s.2))
def ju (D:dE) (s:m7):dE×Int:=andThen (ed D (gx s).1 (gx s).2) fQ
def fj (n:Nat):List Int:=(List.range (n-2)).map fun (i:Nat)=>(i:Int)+2
def jZ (n:Nat):m7:=(1,[wrap .u32 n,2,wrap .u32 ((fj n).length-eC (fj n).length:Int)]++zs 24)
def lc (D:dE):dE×Int:=
 andThen (ed D 0 (zs 512)) fun D=>andThen (ed D 1 (zs 512)) fun D=>andThen (fQ D) fun D=>
 andThen (eZ D ((fj D.Q6.length).drop (eC (fj D.Q6.length).length)) ((fj D.Q6.length).take (eC (fj D.Q6.length).length))) fun D=>ju D (jZ D.Q6.length)
def lJ (D:dE) (u:Int):Nat->Int->List Int->List Int->Option (List Int×List Int)
 | 0,_,_,_=>none
 | f+1,a,h,Q9=>
  if a=0 then some (h,Q9) else
  if a<2\/a>=u\/a∈h then none else
  if (ee D a).2≠0 then none else
  if (eP a (ee D a).1).2.2≠0\/(eP a (ee D a).1).1≠2 then none else
  if (gW (eP a (ee D a).1).2.1).2.2≠0 then none else
  lJ D u f (gW (eP a (ee D a).1).2.1).1 (h++[a]) (Q9++(gW (eP a (ee D a).1).2.1).2.1)
def jV (h:Int) (Q5:List Int):Int->List Int->Bool
 | _,[]=>true
 | u,n::r=>!(decide (n<=u)||decide (n>=h)||decide (n∈Q5))&&jV h Q5 n r
def nJ (D:dE) (s:m7):Option (List Int×List Int):=
 match lJ D (s.2.getD 0 0) ((s.2.getD 0 0).toNat+1) (s.2.getD 1 0) [] [] with
 | none=>none
 | some x=>if jV (s.2.getD 0 0) x.1 0 x.2=true/\(x.2.length:Int)=s.2.getD 2 0 then some x else none
def hU (j9:m7) (Q5 Q9:List Int) (x6:Int) (Q3:Bool) (h:List Int):dU:=⟨j9,Q5,Q9,x6,Q3,h,[],[],j9.2.drop 3⟩
def mo (D:dE):Option dU×Int:=
 if (ee D 0).2≠0 then (none,(ee D 0).2) else
 if (ee D 1).2≠0 then (none,(ee D 1).2) else
 if (gI (ee D 0).1 (ee D 1).1).2≠0 then (none,(gI (ee D 0).1 (ee D 1).1).2) else
 if (gI (ee D 0).1 (ee D 1).1).1.2.getD 0 0≠D.Q6.length then (none,2) else
 match nJ D (gI (ee D 0).1 (ee D 1).1).1 with
 | none=>(none,2)
 | some x=>(some (hU (gI (ee D 0).1 (ee D 1).1).1 x.1 x.2 1 false x.2),0)
def jm (M:dU):Option (List Int×List Int):=
 if eC (M.Q1.length+(M.J7++M.Q5).length)>M.Q1.length then none
 else some (M.Q1.take (eC (M.Q1.length+(M.J7++M.Q5).length)),gu ((M.J7++M.Q5)++M.Q1.drop (eC (M.Q1.length+(M.J7++M.Q5).length))))
def jJ (J8:List (Int×Int×List Int)) (n:Int):Int×List Int:=match look n J8 with|some q=>q.2|none=>(0,[])
def kj (J8:List (Int×Int×List Int)):List (Int×List Int):=(gu (J8.map (·.1))).map fun n=>(n,eh n (jJ J8 n).1 (jJ J8 n).2)
def gz (D:dE) (J8:List (Int×Int×List Int)) (y4 Q9:List Int) (next:m7):dE×Int:=
 andThen (fu (kj J8) D) fun D=>andThen (eZ D Q9 y4) fun D=>ju D next
def fI (M:dU) (y4 Q9:List Int):m7:=(wrap .u64 (M.j9.1+1),[M.j9.2.getD 0 0,y4.headD 0,wrap .u32 Q9.length]++M.Q2)
def th:dU:=hU gq [] [] 1 true []
def gw (D:dE) (M:dU):(dE×dU)×Int:=
 if M.Q3 then ((D,M),7) else
 if M.J8=[]/\M.J7=[]/\M.Q2=M.j9.2.drop 3 then ((D,M),0) else
 match jm M with
 | none=>((D,M),6)
 | some x=>
  if (gz D M.J8 x.1 x.2 (fI M x.1 x.2)).2≠0 then (((gz D M.J8 x.1 x.2 (fI M x.1 x.2)).1,th),(gz D M.J8 x.1 x.2 (fI M x.1 x.2)).2)
  else (((gz D M.J8 x.1 x.2 (fI M x.1 x.2)).1,hU (fI M x.1 x.2) x.1 x.2 (M.x6+1) false x.2),0)
def m9 (pb:Nat) (x y:Option Addr) (mb:Nat) (vs:List Value) (K:Unit->WP) (w:World):Prop:=
 fc [gO.kN] (fun (w':Go.World)=>(Instr.build FZ (#[(0,Value.pointer x),(1,Value.pointer y),(2,Value.map (some mb)),(3,Value.agg (List.toArray vs))])).run prog w') w<|
 fun (u:List Value)=>
 nn (pW pb)<|
 fun (E:Addr)=>
 gT (List.length u=27)<|
 st ({ block:=E.block,off:=E.off+33 }) u w<|
 fun (G:World)=>
 nn (pW pb)<|
 fun (I:Addr)=>
 ld Cell.slice ({ block:=I.block,off:=I.off+30 }) G<|
 fun (J:Sl)=>
 loop (Int) (fun (U:Int->WP) (C:Int) (h:World)=>
  cond (decide (C<(↑J.len:Int)))
   (idx J C 1<|
   fun (V:Addr)=>
   ld (Cell.int IntKind.u32) V h<|
   fun (aa:Int)=>
   nn (pW pb)<|
   fun (R:Addr)=>
   ld Cell.ptr ({ block:=R.block,off:=R.off+33 }) h<|
   fun (ab:Option Addr)=>
   cW 152 ([Value.pointer ab,Value.int IntKind.u32 aa]) ([gO.one Cell.bool]) h<|
   fun (ad:Bool) (ac:World)=>
   U (wrap IntKind.i64 (C+1)) ac)
   (K () h)) 0 G
def qud{w3:World}{fb defb mb:Nat}{F2:List Nat}{K:Unit->WP}(hs:j9.2.length=27)(hw:wk.length=27)(hX:∀b∈X,b<w.heap.size/\b≠pb)(I:Rd (X++[pb]) w sl Q5)(E:Rd (X++[pb]) w sn Q9)(hn:Q9.length<=100000)(ho:dM [pb] w w3 [(pb,.cells (eX db j9 sl sn x6 Q3 wk) re (0,0))])(h1:gE w3 fb F1 [])(h2:gE w3 defb F2 [])(h3:iR jd w3 mb [])(n1:∀b∈F1,w.heap.size<=b)(n2:∀b∈F2,w.heap.size<=b)(n3:w.heap.size<=mb)(aD:pb<w.heap.size)(af:mb∉F1)(ag:mb∉F2)(ah:∀b∈F1,b∉F2)(hk:∀F' w',en w' X pb db F' (hU j9 Q5 Q9 x6 Q3 (gu Q9))->Fr [pb] w w'->(∀b∈F',b=pb\/w.heap.size<=b)->K () w'): m9 pb (pW fb) (pW defb) mb ((j9.2.drop 3).map (Value.int .u32)) K w3:=by
 have C:(j9.2.drop 3).length=24:=(by rw[yB,hs]);unfold m9;refine qJ (ts:=[gO.kN]) (gP (pW fb) (pW defb) (some mb) (j9.2.drop 3)) (qui C w3)<|fq<|pc (vR C) ?_;have ab:(gP (pW fb) (pW defb) (some mb) (j9.2.drop 3)).all Value.oneCell'=true:=by rw[all_eq_true];intro v hv;simp only[gP,zD,zG,mem_map,xW,or_false] at hv;rcases hv with (rfl|rfl|rfl)|⟨x,_,rfl⟩<;>rfl
 refine oG ho 0 rfl (fH db j9 sl sn x6 Q3 fb defb mb (j9.2.drop 3)) (by rw[<- EU];exact qxQ hs (by rw[hw,vR C])) ab (by rw[tH hs,vR C,hw];exact zO rfl) fun w4 J f4=>?_;have U:∀b∈F1,b≠pb:=fun b u e=>by have:=n1 b u;omega
 have V:∀b∈F2,b≠pb:=fun b u e=>by have:=n2 b u;omega
 have hS:∀b∈pb::mb::(F1++F2),b∈[pb]\/w.heap.size<=b:=fun b u=>by simp only[zG,zD] at u;rcases u with rfl|rfl|u|u;exact .inl oL;exact .inr n3;exact .inr (n1 b u);exact .inr (n2 b u)
 have hx:nh w4 X pb db (hU j9 Q5 Q9 x6 Q3 []) fb defb mb sl sn F1 F2 []:={
  cell:=J.at (i:=0) rfl
  Q1:=h1.q8 f4 fun b u=>by simpa using U b u
  J7:=h2.q8 f4 fun b u=>by simpa using V b u
  map:=h3.q8 f4 oO
  J8:=rfl
  rows:=by have hf:Fr (X++[pb]) w w4:=J.fr.mono fun b u _=>zI _ u;exact⟨I.q8 hf (wR hS),E.q8 hf (wR hS),fun e he=>by cases he⟩
  nQ:=fun b u=>yC (hX b u).1 J.fr.size
  l9:=ES (fun b u=>(hX b u).1) (fun b u=>by simpa using (hX b u).2) hS
  sep:=⟨oJ,fun b u=>⟨U b u,fun e=>af (e▸u),ah b u⟩,fun b u=>⟨V b u,fun e=>ag (e▸u)⟩⟩
  Q8:=hs
  x7:=C }
 refine fq (iG hx.cell sn (qxK hs) ?_);have aG:=E.1;refine iV (fun x w'=>∃(i:Nat) (R:List Nat),x=i/\i<=Q9.length/\nh w' X pb db (hU j9 Q5 Q9 x6 Q3 (gu (Q9.take i))) fb defb mb sl sn R F2 []/\Fr [pb] w w'/\∀b∈R,w.heap.size<=b) (fun x _=>((Q9.length:Int)-x).toNat)
  ⟨0,F1,rfl,oJ,hx,J.fr,n1⟩ ?_
 rintro x w5 ⟨i,R,rfl,hi,G,f5,n5⟩ Z hZ;apply cD<;>intro hc;have ac:i<Q9.length:=oJ;refine Rd.at G.rows.Q9 i rfl (zA ac)<|fq (iG G.cell (pW fb) (wX hs) ?_);have an:=qng (Q9.take i);rw[yK] at an;refine Es G.Q1 (by show (gu (Q9.take i)).length<=_;omega) fun ad w6 ao f6 n6=>?_;have ap:=G.pC f6 ao n6;rw[gc _ oJ];refine hZ _ _ ⟨i+1,ad,oL,oJ,?_,f5.j8 f6 (fun b u=>.inr (n5 b u)),fun b u=>?_⟩ oJ;rw[qsx ac];exact ap;rcases n6 b u with h|h;exact n5 b h;exact zL f5.size h;have:i=Q9.length:=oJ;subst this;rw[xY] at G;refine hk _ w5 ⟨fb,defb,mb,sl,sn,R,F2,[],rfl,G⟩ f5 fun b u=>?_;simp only[zG,zD] at u;rcases u with rfl|rfl|u|u;exact .inl rfl;exact .inr n3;exact .inr (n5 b u);exact .inr (n2 b u)
def E5{K:Unit->WP}(hc:w.heap[pb]?=some (.cells (eX db j9 sl sn x6 Q3 wk) re (0,0)))(hs:j9.2.length=27)(hw:wk.length=27)(ht:0<=x6/\x6<=1000000000)(hX:∀b∈X,b<w.heap.size/\b≠pb)(hlists:Rd (X++[pb]) w sl Q5)(hnamed:Rd (X++[pb]) w sn Q9)(hn:Q9.length<=100000)(hk:∀F' w',en w' X pb db F' (hU j9 Q5 Q9 (x6+1) Q3 (gu Q9))->Fr [pb] w w'->(∀b∈F',b=pb\/w.heap.size<=b)->K () w'): cW 115 [dB pb] [] w K:=by
 have hpb:=eT hc;have ho:dM [pb] w w [(pb,.cells (eX db j9 sl sn x6 Q3 wk) re (0,0))]:=⟨by simpa using hc,oL,.refl _ _,oL⟩;refine qiu (p:=pW pb)<|fq (oA (c:=.i) ho 0 rfl x6 (uY hs 2 oM) ?_);rw[gc _ oJ];refine fq (oG ho 0 rfl (eX db j9 sl sn (x6+1) Q3 wk) (qxP hs) rfl (by rw[tH hs,hw];exact zO rfl) fun w1 ho f1=>?_);have hrl:((j9.2.drop 3).map (Value.int .u32)).length=24:=(by rw[zK,yB,hs]);have hcA:∀ {w':World},w'.heap[pb]?=some (.cells (eX db j9 sl sn (x6+1) Q3 wk) re (0,0))->iZ w' (dd pb 5) 0 ((j9.2.drop 3).map (Value.int .u32)):=fun h=>uN h _ 5 0 (by rw[hrl];exact EC hs);have tail:=fun {w3:World} {fb defb mb:Nat} {F1 F2:List Nat}=>qud (w:=w) (w3:=w3) (X:=X) (pb:=pb) (fb:=fb) (defb:=defb) (mb:=mb) (F1:=F1) (F2:=F2) hs hw hX hlists hnamed hn (K:=K) (x6:=x6+1) (Q3:=Q3) (wk:=wk) (db:=db);have hs1:=f1.size;have ho':=ho.drew;generalize w1.drew=wd at ho';have hld:∀ {K':List Value->Prop},K' ((j9.2.drop 3).map (Value.int .u32))->iH 24 (dd pb 5) wd K':=fun k=>qA (ho'.at (i:=0) rfl) _ hrl (EC hs) k;have hsd:w.heap.size<=wd.heap.size:=ho'.fr.size;have fin:∀ {w3:World} {fb defb mb:Nat} {F1 F2:List Nat},Fr [] wd w3->gE w3 fb F1 []->gE w3 defb F2 []->iR jd w3 mb []->(∀b∈F1,wd.heap.size<=b)->(∀b∈F2,wd.heap.size<=b)->wd.heap.size<=mb->mb∉F1->mb∉F2->(∀b∈F1,b∉F2)->
   m9 pb (pW fb) (pW defb) mb ((j9.2.drop 3).map (Value.int .u32)) K w3:=fun f p1 p2 p3 n1 n2 n3 s1 s2 s3=>
  tail (ho'.q7 f) p1 p2 p3 (fun b hb=>zL hsd (n1 b hb)) (fun b hb=>zL hsd (n2 b hb)) (zL hsd n3) hpb s1 s2 s3 hk
 refine⟨?_,?_,?_⟩;refine fq ?_;simp only[Addr.q9];refine hld<|wK fun fb F1 w2 p1 f2 n1=>ia (hcA ((ho'.q7 f2).at (i:=0) rfl))<|wK fun defb F2 w3 p2 f3 n2=>ia (hcA ((ho'.q7 (f2.trans f3)).at (i:=0) rfl))<|oB (ho'.q7 (f2.trans f3)) fun mb w4 e4 f4 ho4=>ia (hcA (ho4.at (i:=1) rfl))<|fin ((f2.trans f3).trans f4) (p1.q8 (f3.trans f4) oL) (p2.q8 f4 oL) (.empty (ho4.at (i:=0) rfl)) n1 (fun b hb=>zL f2.size (n2 b hb)) (by rw[e4];exact (f2.trans f3).size) (fun hm=>?_) (fun hm=>?_) (fun b hb hb2=>?_)
 have:=(p1.q8 f3 oL).lt mb hm;omega
 have:=p2.lt mb hm;omega
 have:=p1.lt b hb;have:=n2 b hb2;omega
 refine fq ?_;simp only[Addr.q9];refine hld<|wK fun fb F1 w2 p1 f2 n1=>ia (hcA ((ho'.q7 f2).at (i:=0) rfl))<|oB (ho'.q7 f2) fun mb w3 e3 f3 ho3=>ia (hcA (ho3.at (i:=1) rfl))<|wK fun defb F2 w4 p2 f4 n2=>?_;have ho4:=ho3.q7 f4;refine ia (hcA (ho4.at (i:=1) rfl)) ?_;have hmb:=eT (ho3.at (i:=0) rfl);refine fin ((f2.trans f3).trans f4) (p1.q8 (f3.trans f4) oL) p2 (.empty (ho4.at (i:=0) rfl)) n1 (fun b hb=>zL (f2.trans f3).size (n2 b hb)) (by rw[e3];exact f2.size) (fun hm=>?_) (fun hm=>?_) (fun b hb hb2=>?_)
 have:=p1.lt mb hm;omega
 have:=n2 mb hm;omega
 have:=(p1.q8 f3 oL).lt b hb;have:=n2 b hb2;omega
 refine fq ?_;simp only[Addr.q9];refine hld<|oB ho' fun mb w2 e2 f2 ho2=>ia (hcA (ho2.at (i:=1) rfl)) ?_;have hmb:=eT (ho2.at (i:=0) rfl);refine wK fun fb F1 w3 p1 f3 n1=>?_;have ho3:=ho2.q7 f3;refine ia (hcA (ho3.at (i:=1) rfl))<|wK fun defb F2 w4 p2 f4 n2=>?_;have ho4:=ho3.q7 f4;refine ia (hcA (ho4.at (i:=1) rfl))<|fin ((f2.trans f3).trans f4) (p1.q8 f4 oL) p2 (.empty (ho4.at (i:=0) rfl)) (fun b hb=>zL f2.size (n1 b hb)) (fun b hb=>zL (f2.trans f3).size (n2 b hb)) (by rw[e2];exact zM _) (fun hm=>?_) (fun hm=>?_) (fun b hb hb2=>?_)
 have:=n1 mb hm;omega
 have:=n2 mb hm;have:=f3.size;omega
 have:=p1.lt b hb;have:=n2 b hb2;omega
def view (D:dE) (n:Int):List Int:=match iw n D.Q7 with|some b=>b.1|none=>(D.Q6.getD n.toNat .zero).1
def dE.size (D:dE):Int:=D.Q6.length
def CJ(h:D.down=false)(u:0<=n/\n<D.size):ee D n=(view D n,0):=by have C:n<(D.Q6.length:Int):=u.2;rw[ee,if_neg (by rw[h];decide),iN,view];cases iw n D.Q7<;>rfl
def EQ(n:Int):∀(l:List (Int×lC)) (x:Int×lC),iw n (l++[x])=if x.1=n then some x.2 else iw n l
 | [],x=>rfl
 | y::l,x=>by simp only[xI,iw];rw[EQ n l x];by_cases h:x.1=n;simp[h];simp[h]
def Gu(n:Nat):∀(l:List (Int×lC)) (s:List lC),(∀x∈l,0<=x.1/\x.1<s.length)->(l.foldl fR s).getD n .zero=match iw n l with|some b=>b|none=>s.getD n .zero
 | [],s,_=>rfl
 | x::l,s,h=>by
  have C:=h x oL;rw[foldl_cons,Gu n l (fR s x) (fun y u=>by rw[fR,xF];exact h y (zN _ u)),iw];cases iw (n:Int) l with
  | some b=>rfl
  | none=>
   dsimp only;by_cases he:x.1=n;rw[if_pos he,fR,yQ];have:x.1.toNat=n:=oJ;rw[this,List.getElem?_set_self oJ];rfl;rw[if_neg he,fR,yQ,List.getElem?_set_ne oJ,yQ]
structure eJ (D:dE):Prop where
 down:D.down=false
 y5:D.y5=-1
 at_:∀ x∈D.Q7,0<=x.1/\x.1<D.Q6.length
def eJ.act(h:eJ D):gK D=(D,false):=by rw[gK,if_neg (by rw[h.y5];decide),if_neg (by rw[h.y5];decide)]
def eJ.write(h:eJ D)(E:0<=n/\n<D.size)(C:l.length=512): ∃D',ed D n l=(D',0)/\eJ D'/\D'.size=D.size/\∀m,view D' m=if m=n then l else view D m:=by have I:n<(D.Q6.length:Int):=E.2;have G:eJ (lh D n ⟨l,C⟩):=⟨h.down,h.y5,fun x u=>by rcases zD.1 u with u|u;exact h.at_ x u;simp at u;subst u;exact⟨E.1,I⟩⟩;refine⟨lh D n ⟨l,C⟩,?_,G,rfl,fun m=>?_⟩;rw[ed,if_neg (by rw[h.down];decide),iN,dif_pos C,G.act];rfl;rw[view,lh];dsimp only;rw[EQ];by_cases hm:m=n;rw[if_pos hm,if_pos hm.symm];rw[if_neg hm,if_neg (fun e=>hm e.symm),view]
def eJ.sync(h:eJ D):∃D',fQ D=(D',0)/\eJ D'/\D'.size=D.size/\D'.Q7=[]/\∀m,0<=m->view D' m=view D m:=by refine⟨{ D with Q6:=D.Q7.foldl fR D.Q6,Q7:=[] },?_,⟨h.down,h.y5,fun x u=>by cases u⟩,?_,rfl,fun m C=>?_⟩;rw[fQ,if_neg (by rw[h.down];decide),h.act];rfl;show ((D.Q7.foldl fR D.Q6).length:Int)=_;rw[zn];rfl;obtain⟨k,rfl⟩:∃k:Nat,m=k:=⟨m.toNat,oJ⟩;show ((D.Q7.foldl fR D.Q6).getD (k:Int).toNat .zero).1=_;rw[zJ,Gu k _ _ h.at_,view,zJ];cases iw (k:Int) D.Q7<;>rfl
def eJ.writes:∀ {l:List (Int×List Int)} {D:dE},eJ D->(∀x∈l,(0<=x.1/\x.1<D.size)/\x.2.length=512)->(l.map (·.1)).Nodup-> ∃D',fu l D=(D',0)/\eJ D'/\D'.size=D.size/\(∀x∈l,view D' x.1=x.2)/\∀m,m∉l.map (·.1)->view D' m=view D m
 | [],D,h,_,_=>⟨D,rfl,h,rfl,(fun x u=>by cases u),fun m _=>rfl⟩
 | y::l,D,h,I,C=>by obtain⟨U,E⟩:=I y oL;obtain⟨D1,e1,V,J,R⟩:=h.write U E;rw[xN,nodup_cons] at C;obtain⟨D2,e2,q2,s2,v2,u2⟩:=eJ.writes (l:=l) V (fun x u=>by rw[J];exact I x (zN _ u)) C.2;refine⟨D2,?_,q2,s2.trans J,fun x u=>?_,fun m G=>?_⟩;rw[fu,e1];exact e2;rcases zG.1 u with rfl|u;rw[u2 _ C.1,R,if_pos rfl];exact v2 x u;rw[xN,zG,not_or] at G;rw[u2 m G.2,R,if_neg G.1]
def chunk (numbers:List Int) (i:Nat):List Int:=(numbers.drop (123*i)).take 123
def oo (D:dE) (numbers y4:List Int):Prop:=∀(i:Nat) p,y4[i]?=some p->view D p=eh p 2 (iA (y4.getD (i+1) 0) (chunk numbers i))
def Dn(numbers y4:List Int)(k i:Nat):(gf numbers y4 k)[i]?=if i<k then some (iA (y4.getD (i+1) 0) (chunk numbers i)) else none:=by rw[gf,zQ];by_cases h:i<k;rw[if_pos h,List.getElem?_range h];rfl;rw[if_neg h,yR (oP h)];rfl
def FV(numbers y4:List Int)(k:Nat):(gf numbers y4 k).length=k:=by simp[gf]
def E7(numbers:List Int)(i:Nat):(chunk numbers i).length<=123:=by rw[chunk,yK];omega
structure lf (n:Int) (numbers y4:List Int):Prop where
 cU:numbers.Pairwise (· < ·)
 mT:∀ x∈numbers,2<=x/\x<n
 qL:∀ x∈y4,2<=x/\x<n
 nodup:y4.Nodup
 J3:∀ x∈y4,x∉numbers
 room:numbers.length<=123*y4.length
def Fc:∀(l:List Int) (a:Int),iu a l=true↔(∀x∈l,a<x)/\l.Pairwise (· < ·)
 | [],a=>by simp[iu]
 | x::l,a=>by rw[iu,yA,yM,Fc l x,yI];constructor;rintro⟨h,u,C⟩;refine⟨fun y E=>?_,u,C⟩;rcases zG.1 E with rfl|E;exact h;exact Int.lt_trans h (u y E);rintro⟨h,u,C⟩;exact⟨h x oL,u,C⟩
def lf.y7(h:lf n numbers y4):gd numbers y4=(gf numbers y4 y4.length,0):=by
 have u:iu 1 numbers=true:=(Fc _ _).2 ⟨fun x C=>by have:=h.mT x C;omega,h.cU⟩;rw[gd,if_neg (by rw[u];have:=h.room;simp;omega),if_neg];rintro⟨p,E,G⟩
 have:=h.qL p E
 omega
def qlB{α β:Type}{x:α×β}:∀ {l:List α} {r:List β},x∈l.zip r->∃i:Nat,l[i]?=some x.1/\r[i]?=some x.2
 | [],_,h=>by simp at h
 | _::_,[],h=>by simp at h
 | a::l,b::r,h=>by rw[zip_cons_cons,zG] at h;rcases h with rfl|h;exact⟨0,rfl,rfl⟩;obtain⟨i,u,C⟩:=qlB h;exact⟨i+1,by simpa using u,by simpa using C⟩
def ED{α β:Type}:∀ {l:List α} {r:List β},l.length=r.length->(l.zip r).map (·.1)=l
 | [],[],_=>rfl
 | a::l,b::r,h=>by rw[zip_cons_cons,xN,ED (oP h)]
def eJ.spread(h:eJ D)(G:lf D.size numbers y4): ∃D',eZ D numbers y4=(D',0)/\eJ D'/\D'.size=D.size/\D'.Q7=[]/\oo D' numbers y4/\∀m,0<=m->m∉y4->view D' m=view D m:=by
 have R:((y4.zip (gf numbers y4 y4.length)).map fun x=>(x.1,eh x.1 2 x.2)).map (·.1)=y4:=(by rw[map_map];exact ED (by rw[FV]));obtain⟨D1,e1,q1,s1,v1,U⟩:=h.writes (l:=(y4.zip (gf numbers y4 y4.length)).map fun x=>(x.1,eh x.1 2 x.2)) (fun x hx=>by
  obtain⟨y,hy,rfl⟩:=mem_map.1 hx;obtain⟨i,h1,u⟩:=qlB hy;rw[Dn] at u;have C:=G.qL _ (yE h1);refine⟨⟨by show 0<=y.1;omega,C.2⟩,vr ?_⟩;by_cases I:i<y4.length;rw[if_pos I] at u;have u:=yN u;rw[<- u,B0]
  have:=E7 numbers i
  omega;rw[if_neg I] at u;cases u) (by rw[R];exact G.nodup)
 rw[R] at U;obtain⟨D2,e2,q2,s2,w2,V⟩:=q1.sync;refine⟨D2,?_,q2,s2.trans s1,w2,fun i p C=>?_,fun m hm J=>by rw[V m hm,U m J]⟩;rw[eZ,G.y7,if_neg oL];show andThen _ _=_;rw[e1];exact e2;have I:=(zP.1 C).1;have E:(p,eh p 2 (iA (y4.getD (i+1) 0) (chunk numbers i)))∈(y4.zip (gf numbers y4 y4.length)).map fun x=>(x.1,eh x.1 2 x.2):=by refine mem_map.2 ⟨(p,iA (y4.getD (i+1) 0) (chunk numbers i)),?_,rfl⟩;refine yE (i:=i) ?_;rw[List.getElem?_zip_eq_some];exact⟨C,by rw[Dn,if_pos I]⟩
 have al:=G.qL _ (yE C);rw[V p oJ];exact v1 _ E
def qls(numbers:List Int):∀k,(List.range k).flatMap (chunk numbers)=numbers.take (123*k)
 | 0=>by simp
 | k+1=>by rw[range_succ,yP,qls numbers k,flatMap_singleton,chunk,Nat.mul_succ,<- xD (123*k) (numbers.take (123*k+123))];congr 1;rw[take_take,xQ oJ];rw[drop_take,vC]
def qtK{D:dE}{numbers y4:List Int}{n:Int}(hd:D.down=false)(hs:D.size=n)(hn:n<=4096)(I:lf n numbers y4)(hl:oo D numbers y4): ∀(k i f:Nat),i+k=y4.length->k<f->lJ D n f (y4.getD i 0) (y4.take i) ((List.range i).flatMap (chunk numbers))=some (y4,numbers)
 | 0,i,f+1,hi,hf=>by have:y4.getD i 0=0:=(by rw[yQ,yR oJ];rfl);have hr:=I.room;have aa:i=y4.length:=oJ;subst aa;rw[this,lJ,if_pos rfl,qls,xY,zS hr]
 | k+1,i,f+1,hi,hf=>by
  have u:i<y4.length:=oJ;have hp:y4.getD i 0=y4[i]:=(by rw[yQ,zA u];rfl);have hr:=I.qL _ (zW u);have R:y4[i]∉y4.take i:=fun hm=>by
   obtain⟨j,hj,he⟩:=getElem_of_mem hm;rw[getElem_take] at he;rw[yK] at hj
   have:=pairwise_iff_getElem.1 I.nodup j i oJ u oJ
   exact this he
  have hv:=hl i _ (zA u);have C:=CJ hd (n:=y4[i]) (by rw[hs];omega);rw[hv] at C;have ab:=E7 numbers i;have J:=EP (number:=y4[i]) (kind:=2) (body:=iA (y4.getD (i+1) 0) (chunk numbers i)) oJ (by rw[B0];omega);have U:∀x∈chunk numbers i,x∈numbers:=fun x V=>yT (yU V);have E:gy (y4.getD (i+1) 0)/\y4.getD (i+1) 0≠1:=by
   rw[yQ];cases h:y4[i+1]? with
   | none=>exact⟨⟨oM,oM⟩,oM⟩
   | some p=>
    have:=I.qL p (yE h)
    constructor;constructor<;>(simp;omega);simp;omega
  have G:=qrB E.1 E.2 (c:=chunk numbers i) (fun x V=>by have:=I.mT x (U x V);constructor<;>omega)
   ((Fc _ _).2 ⟨fun x V=>by have:=I.mT x (U x V);omega,I.cU.sublist ((take_sublist _ _).trans (drop_sublist _ _))⟩) ab
  rw[hp,lJ,iN,if_neg (by intro h;rcases h with h|h|h;omega;omega;exact R h),C,J,if_neg oL,if_neg oL,G,if_neg oL]
  have:=qtK hd hs hn I hl k (i+1) f oJ oJ
  rw[yF u,range_succ,yP,flatMap_singleton] at this;exact this
def Fe(n:Int)(Q5:List Int):∀(l:List Int) (a:Int),jV n Q5 a l=true↔(∀x∈l,a<x/\x<n/\x∉Q5)/\l.Pairwise (· < ·)
 | [],a=>by simp[jV]
 | x::l,a=>by
  rw[jV,yA,Fe n Q5 l x,yI];simp only[zT,Bool.or_eq_false_iff,decide_eq_false_iff_not,Int.not_le,Int.not_lt,ge_iff_le];constructor;rintro⟨⟨⟨u,C⟩,E⟩,G,I⟩;refine⟨fun y h=>?_,fun y h=>(G y h).1,I⟩;rcases zG.1 h with rfl|h;exact⟨u,C,E⟩
  have:=G y h;exact⟨oJ,this.2⟩
  rintro⟨u,C,E⟩
  have:=u x oL
  exact⟨⟨⟨this.1,this.2.1⟩,this.2.2⟩,fun y h=>⟨C y h,(u y (zN _ h)).2⟩,E⟩
def Ep:∀(n:Nat) (l:List Nat),l.Nodup->(∀x∈l,x<n)->l.length<=n
 | 0,l,_,h=>by cases l with
  | nil=>simp
  | cons a l=>exact absurd (h a oL) oJ
 | n+1,l,C,h=>by
  by_cases hm:n∈l;have G:=Ep n (l.erase n) (C.erase n) (fun x u=>by
   have E:=(C.mem_erase_iff).1 u
   have:=h x E.2
   have:=E.1
   omega)
  have:=length_erase_of_mem hm
  have:=length_pos_of_mem hm
  omega
  have:=Ep n l C (fun x u=>by
   have:=h x u
   have:x≠n:=fun e=>hm (e▸u);omega)
  omega
def Cl(E:l.Nodup)(h:∀x∈l,2<=x/\x<n):(l.length:Int)<=n-2\/l=[]:=by
 by_cases h0:l=[];exact .inr h0;left;obtain⟨a,G⟩:=exists_mem_of_ne_nil l h0;have J:=h a G
 have:=Ep (n-2).toNat (l.map fun x=>(x-2).toNat) (by
  refine pairwise_map.2 (E.imp_of_mem fun {x y} u C I=>?_)
  have:=h x u
  have:=h y C
  omega) (fun x u=>by
  obtain⟨y,C,rfl⟩:=mem_map.1 u
  have:=h y C
  omega)
 rw[zK] at this;omega
structure oh (D:dE) (s:m7) (y4 numbers:List Int):Prop where
 down:D.down=false
 size:8<=D.size/\D.size<=4096
 sV:gI (view D 0) (view D 1)=(s,0)
 blocks:s.2.getD 0 0=D.size
 list:s.2.getD 1 0=y4.headD 0
 Q1:s.2.getD 2 0=numbers.length
 ok:lf D.size numbers y4
 listed:oo D numbers y4
def oh.load(h:oh D s y4 numbers):nJ D s=some (y4,numbers):=by
 have E:lJ D D.size (D.size.toNat+1) (y4.headD 0) [] []=some (y4,numbers):=by
  have:=qtK h.down rfl h.size.2 h.ok h.listed y4.length 0 (D.size.toNat+1) oJ (by
   have:=Cl h.ok.nodup h.ok.qL
   have I:=h.size;rcases this with C|C;omega;rw[C];simp)
  have e:y4.headD 0=y4.getD 0 0:=(by cases y4<;>rfl);rw[e];exact this
 rw[nJ,h.blocks,h.list,E];dsimp only;rw[if_pos];exact⟨(Fe _ _ _ _).2 ⟨fun x u=>⟨by have:=h.ok.mT x u;omega,(h.ok.mT x u).2,fun G=>h.ok.J3 x G u⟩,h.ok.cU⟩,h.Q1.symm⟩
def oh.open(h:oh D s y4 numbers):mo D=(some (hU s y4 numbers 1 false numbers),0):=by have u:=CJ h.down (n:=0) ⟨oM,by have:=h.size;omega⟩;have C:=CJ h.down (n:=1) ⟨oM,by have:=h.size;omega⟩;have E:s.2.getD 0 0=(D.Q6.length:Int):=h.blocks;rw[mo,u,C,h.sV,if_neg oL,if_neg oL,if_neg oL,if_neg (by rw[E];simp),h.load]
def uv{α:Type}{enc:α->List Value}{P:Program}{s:Sl}{l:List α}{tx e':TypeId}(h:dW enc k S w s l)(C:∀x,(enc x).length=k)(E:∀x,∀u∈enc x,u.oneCell'=true)(I:P.underlying tx=some (.slice e')): Src P k tx s.v s.len (l.flatMap enc) w:=by
 obtain⟨a,len,cap⟩:=s;have G:=h.1;simp only at G;cases a with
 | none=>
  have:l=[]:=by rcases h.2.2 with h|⟨b,o,V,T,fr,J,_⟩;exact h;cases J
  subst this;simp at G;subst G;exact .ofNil w I cap
 | some a=>
  refine .ofSlice w I a len cap _ (by rw[qi C,G]) (h.cells C rfl) fun u R=>?_;obtain⟨x,_,U⟩:=yJ.1 R;exact E x u U
def Cc{s src:Sl}{ys:List Int}{B:List Nat}{K:Sl->WP}(h:kQ w s l B)(J:Rd S w src ys)(hl:l.length+ys.length<=1000000)(U:∀E B' w',kQ w' E (l++ys) B'->Fr B w w'->(∀b∈B',b∈B\/w.heap.size<=b)->K E w'): Pt.run de ((Builtin.append_ #[172,172] 172 #[s.v,src.v]).run prog w) K:=by obtain⟨i,V,hz,G,I⟩:=uP;have C:=J.1;refine eO.j1 (e:=63) h qy oK V hz G rfl (uv (e':=63) J qy (fun x u R=>by simp at R;subst R;rfl) oK) C (by rw[I];omega) oJ fun E B' w' b' f' n' _=>U E B' w' b' f' n'
def uD(h:D.Ok)(n:Int):eB (ee D n).1/\(ee D n).1.length<=512:=by
 have I:eB (zs 512):=eB.zs 512;unfold ee;split;exact⟨(fun x C=>by cases C),oL⟩;split;exact⟨(fun x C=>by cases C),oL⟩;split;rename_i b J;refine⟨?_,Nat.le_of_eq b.2⟩;have:∀l:List (Int×lC),(∀x∈l,eB x.2.1)->iw n l=some b->eB b.1:=by
  intro l;induction l with
  | nil=>intro _ h;cases h
  | cons x l ih=>
   intro G u;rw[iw] at u;cases E:iw n l with
   | some c=>rw[E] at u;exact ih (fun y R=>G y (zN _ R)) (by rw[E];exact u)
   | none=>
    rw[E] at u;dsimp only at u;split at u;cases u;exact G x oL;cases u
 exact this _ h.ng J;refine⟨?_,Nat.le_of_eq (D.Q6.getD n.toNat .zero).2⟩;rw[yQ];cases U:D.Q6[n.toNat]? with
 | none=>exact I
 | some b=>exact h.nm b (yE U)
def qpy(h:eB l)(n:Int):eB (eP n l).2.1/\(eP n l).2.1.length<=l.length:=by
 have u:eB ([]:List Int):=fun x C=>by cases C
 unfold eP;split;exact⟨u,oL⟩;split;exact⟨u,oL⟩;split;exact⟨u,oL⟩;split;exact⟨u,oL⟩;split;exact⟨u,oL⟩;refine⟨(h.take _).drop _,?_⟩;rw[yB,yK];omega
abbrev MIT:TypeId:=271
def qzH:prog.underlying MIT=some (.map 63 3):=by kernel_rfl
def qAe:∀w,(zeroValue 3).run prog w=.ok (.i 0) w:=fun w=>by kernel_rfl
def kV (l:List Int):List (Int×Value):=l.map fun n=>(n,.i 1)
def Dw(n:Int):∀l:List Int,(n∈l->∃i,look n (kV l)=some (i,.i 1))/\(n∉l->look n (kV l)=none)
 | []=>⟨(fun h=>by cases h),fun _=>rfl⟩
 | a::l=>by
  obtain⟨G,I⟩:=Dw n l;simp only[kV,xN,look];by_cases h:n=a;rw[if_pos h];exact⟨fun _=>⟨0,rfl⟩,fun J=>absurd (by rw[h];simp) J⟩;rw[if_neg h];refine⟨fun u=>?_,fun u=>?_⟩;rcases zG.1 u with e|u;exact absurd e h;obtain⟨i,E⟩:=G u;unfold kV at E;exact⟨i+1,by rw[E];rfl⟩
  have:=I (fun C=>u (zN _ C))
  unfold kV at this;rw[this];rfl
def qrf{r:Nat}{K:Int->Prop}(h:iR jd w r (kV Q5))(k:∀x:Int,decide (x>0)=decide (n∈Q5)->K x): fc [gO.one .i] (fun w'=>(Instr.lookup MIT (.map (some r)) (.u n) false).run prog w') w K:=by
 have:=Ch (P:=prog) qzH qAe tQ h.at n
 rw[wh] at this;obtain⟨C,E⟩:=Dw n Q5;by_cases hn:n∈Q5;obtain⟨i,G⟩:=C hn;rw[G] at this;exact qJ (ts:=[gO.one .i]) (1:Int) this (k 1 (by simp[hn]));rw[E hn] at this;exact qJ (ts:=[gO.one .i]) (0:Int) this (k 0 (by simp[hn]))
def qpK{u:Sl}(C:j9.2.length=27):dN (eX db j9 sl sn x6 Q3 wk) 29 [u.v]=eX db j9 u sn x6 Q3 wk:=by
 have h:=rH (db:=db) C
 have:=sX (A:=(Value.pointer db::eN j9.1 j9.2)) (X:=[sl.v]) (Y:=[u.v]) (Z:=sn.v::.i x6::.bool Q3::wk) rfl
 rw[h] at this;simpa[eX] using this
def qpL{u:Sl}(C:j9.2.length=27):dN (eX db j9 sl sn x6 Q3 wk) 30 [u.v]=eX db j9 sl u x6 Q3 wk:=by
 have h:((Value.pointer db::eN j9.1 j9.2)++([sl.v]:List Value)).length=30:=by rw[zF,rH C];rfl
 have:=sX (A:=(Value.pointer db::eN j9.1 j9.2)++([sl.v]:List Value)) (X:=[sn.v]) (Y:=[u.v]) (Z:=.i x6::.bool Q3::wk) rfl
 rw[h] at this;simpa[eX] using this
def qjI:gy (fg l):=by unfold fg nO;exact Ci _ _ _
def quH(l:List Int):gy (gW l).1:=by unfold gW;split;constructor<;>decide;split;constructor<;>decide;split;exact qjI;constructor<;>decide
def quI(l:List Int):(gW l).2.1.length<=123:=by unfold gW;split;simp;split;simp;rename_i h;split;simp only[jK,zK,length_range];omega;simp
structure DZ (w:World) (FD:List Nat) (pb r:Nat) (db:Option Addr) (j9:m7) (x6:Int) (Q3:Bool) (wk:List Value) (a:Int) (Q5 Q9:List Int) (w':World) (sl sn:Sl) (B1 B2:List Nat):Prop where
 own:dM [pb] w w' [(pb,.cells (eX db j9 sl sn x6 Q3 wk) re (0,0))]
 b1:kQ w' sl Q5 B1
 b2:kQ w' sn Q9 B2
 map:iR jd w' r (kV Q5)
 n1:∀ b∈B1,w.heap.size<=b/\b≠r/\b∉B2
 n2:∀ b∈B2,w.heap.size<=b/\b≠r
 nr:w.heap.size<=r
 at_:gy a
 nodup:Q5.Nodup
 range:∀ x∈Q5,2<=x/\x<j9.2.getD 0 0
 len:Q9.length<=123*Q5.length
def qwX{K:Bool->WP}(hc:w.heap[pb]?=some (.cells (eX (pW dbk) j9 dC dC x6 Q3 wk) re (0,0)))(R:j9.2.length=27)(hw:wk.length=27)(hd:eK w dbk FD D)(hD:D.Ok)(hv:Hv w)(ba:pb∉FD)(bb:pb≠HG)(bT:j9.2.getD 0 0<=4096)(bc:gy (j9.2.getD 1 0))(bU:gy (j9.2.getD 2 0))(V:nJ D j9=none->∀w',Fr [pb] w w'->K false w')(hk:∀sl sn u Q9 w',nJ D j9=some (u,Q9)->dM [pb] w w' [(pb,.cells (eX (pW dbk) j9 sl sn x6 Q3 wk) re (0,0))]->(∀G:List Nat,(∀b∈G,b<w.heap.size)->Rd G w' sl u/\Rd G w' sn Q9)->K true w'): cW 145 [dB pb] dg w K:=by
 have bJ:=eT hc;have ho:dM [pb] w w [(pb,.cells (eX (pW dbk) j9 dC dC x6 Q3 wk) re (0,0))]:=⟨by simpa using hc,oL,.refl _ _,oL⟩;refine qji<|oB ho fun r w1 e1 f1 ac=>?_;have ao:iR jd w1 r (kV []):=.empty (ac.at (i:=0) rfl);have ac:=ac.sub (L':=[(pb,_)]) (List.Sublist.cons _ (List.Sublist.refl _));refine fq (oA ac 0 rfl (j9.2.getD 1 0) (Cq R 1 oM) ?_);have aF:∀ {w':World},Fr [pb] w w'->eK w' dbk FD D:=fun f=>hd.q8 f fun b E=>by simp only[zE];rintro rfl;exact ba E
 have half:∀ {w':World},Fr [pb] w w'->Hv w':=fun f=>hv.q8 f (by simpa using fun e=>bb e.symm);generalize bd:(j9.2.getD 0 0).toNat+1=F0;have I:nJ D j9=match lJ D (j9.2.getD 0 0) F0 (j9.2.getD 1 0) [] [] with|none=>none|some x=>if jV (j9.2.getD 0 0) x.1 0 x.2=true/\(x.2.length:Int)=j9.2.getD 2 0 then some x else none:=by rw[<- bd];rfl
 refine iV (fun a w'=>∃u Q9 sl sn B1 B2 f,DZ w FD pb r (pW dbk) j9 x6 Q3 wk a u Q9 w' sl sn B1 B2/\f+u.length=F0/\lJ D (j9.2.getD 0 0) f a u Q9=lJ D (j9.2.getD 0 0) F0 (j9.2.getD 1 0) [] [])
  (fun a w'=>match w'.heap[r]? with|some (.map es _)=>F0-es.size|_=>0) ⟨[],[],dC,dC,[],[],F0,⟨ac,.nil _ _ _,.nil _ _ _,ao,oL,oL,by rw[e1];exact zM _,bc,.nil,oL,oL⟩,rfl,rfl⟩ ?_
 rintro a w2 ⟨u,Q9,sl,sn,B1,B2,f,H,hf,C⟩ X hX;have bK:u.length<F0:=by rcases Cl H.nodup H.range with h|h;omega;rw[h];simp;omega
 obtain⟨f,rfl⟩:∃g,f=g+1:=⟨f-1,oJ⟩;have aG:=H.own.fr;apply dR<;>intro ap;have aq:a≠0:=(oP ap);rw[lJ,if_neg aq] at C;refine gQ (fun b w'=>b=decide (a<2\/a>=j9.2.getD 0 0\/a∈u)/\w'=w2) ?_ ?_;refine dR (fun h=>⟨by rw[zZ (Or.inl (zC h))],rfl⟩) (fun h=>?_);have h1:=zB h;refine fq (oA H.own 0 rfl (j9.2.getD 0 0) (Cq R 0 oM) ?_);refine dR (fun h=>⟨by rw[zZ (Or.inr (Or.inl (zC h)))],rfl⟩) (fun h=>?_);have h2:=zB h;refine qrf H.map fun x hx=>⟨?_,rfl⟩;rw[hx];refine decide_eq_decide.2 ⟨fun h=>.inr (.inr h),fun h=>?_⟩;rcases h with h|h|h;exact absurd h h1;exact absurd h h2;exact h;rintro b w3 ⟨rfl,rfl⟩;apply dR<;>intro h;have h:=zC h;rw[if_pos h] at C;exact V (by rw[I,<- C]) w3 aG;have ai:=zB h;rw[if_neg ai] at C;have bh:2<=a:=oJ;have bi:a<j9.2.getD 0 0:=oJ;have aH:a∉u:=fun h=>ai (.inr (.inr h));obtain⟨o,hr,hm⟩:=ER (v:=.i 1) qzH H.map a;refine Be _ hr ?_;have ar:gG a (.i 1) (kV u)=kV (u++[a]):=by rw[gG,(Dw a u).2 aH];simp[kV]
 rw[ar] at hm;have aI:=H.map.lt;have fm:Fr [r] w3 (gL w3 r o):=vW aI o;have aJ:r≠pb:=(by have:=H.nr;omega);have ae:=H.own.q8 fm (fun b E=>by simp only[zE] at E;subst E;exact .inr H.nr) (fun p hp=>by simp at hp;subst hp;simpa using fun e=>aJ e.symm);have au:=H.b1.q8 fm (fun b E=>by simpa using (H.n1 b E).2.1);have aK:=H.b2.q8 fm (fun b E=>by simpa using (H.n2 b E).2);generalize gL w3 r o=w4 at hm fm ae au aK;refine fq (oA ae 0 rfl (pW dbk) qz5 ?_);rw[gc a oJ];refine BL (aF ae.fr) hD fun s5 B5 w5 b5 f5 n5=>?_;have av:=ae.q7 f5;apply dR<;>intro h;have h:(ee D a).2≠0:=(oP h);rw[if_pos h] at C;exact V (by rw[I,<- C]) w5 av.fr;have h:¬(ee D a).2≠0:=(oP h);rw[if_neg h] at C;refine Ek (b5.jq k8 (S:=[]) oL) (half av.fr) (uD hD a).1 (by have:=(uD hD a).2;omega) fun s6 B6 w6 b6 f6 n6=>?_;have aM:=av.q7 f6;refine gQ (fun b w'=>b=decide ((eP a (ee D a).1).2.2≠0\/(eP a (ee D a).1).1≠2)/\w'=w6) ?_ ?_;apply dR<;>intro h;have h:(eP a (ee D a).1).2.2≠0:=(oP h);exact⟨by rw[zZ (Or.inl h)],rfl⟩;have h:(eP a (ee D a).1).2.2=0:=(oP h);refine⟨?_,rfl⟩;by_cases h2:(eP a (ee D a).1).1=2<;>simp[h,h2];rintro b bl ⟨rfl,rfl⟩;apply dR<;>intro h;have h:=zC h;rw[if_pos h] at C;exact V (by rw[I,<- C]) bl aM.fr;have h:=zB h;rw[if_neg h] at C;have aN:=qpy (uD hD a).1 a;refine qve (b6.jq k8 (S:=[]) oL) aN.1 (by have:=aN.2;have:=(uD hD a).2;omega) fun s7 B7 w7 b7 f7 n7=>?_;have aO:=aM.q7 f7;apply dR<;>intro h;have h:(gW (eP a (ee D a).1).2.1).2.2≠0:=(oP h);rw[if_pos h] at C;exact V (by rw[I,<- C]) w7 aO.fr;have h:¬(gW (eP a (ee D a).1).2.1).2.2≠0:=(oP h);rw[if_neg h] at C;have bm:=quI (eP a (ee D a).1).2.1;have aP:=quH (eP a (ee D a).1).2.1;generalize gW (eP a (ee D a).1).2.1=pv at C b7 bm aP;have bn:=(f5.trans f6).trans f7;have bo:=H.len;have bp:u.length<=4096:=oJ;have J:=aO.drew;have af:Fr [] w4 w7.drew:=bn.drew;have aw:=au.q7 af;have ax:=aK.q7 af;have aQ:=hm.q8 af oL;have aR:=b7.q7 ((Fr.refl [] w7).drew);have l7:∀b∈B7,w4.heap.size<=b:=fun b E=>zL (f5.trans f6).size (n7 b E);have ce:r<w4.heap.size:=hm.lt;generalize w7.drew=wd at J af aw ax aQ aR;refine fq (oA J 0 rfl sl (uY R 0 oM) ?_);refine fq (oA J 0 rfl sn (uY R 1 oM) ?_);refine oB J fun rn w8 e8 f8 ag=>jX (ag.cell 1 rfl (uY R 1 oM)) (ag.cell 1 rfl (uY R 0 oM)) ?_;have aV:Rd [] w8 ⟨pW rn,1,1⟩ [a]:=by
  refine⟨rfl,zM _,.inr ⟨rn,0,_,_,_,rfl,ag.at (i:=0) rfl,oL,fun i x hx=>?_⟩⟩;match i with
  | 0=>simp at hx;subst hx;rfl
  | i+1=>simp at hx
 refine Cc (s:=sl) (src:=⟨pW rn,1,1⟩) (aw.q7 f8) aV oO fun s9 B9 w9 b9 f9 n9=>?_;have cf:∀b∈B1,b<wd.heap.size:=fun b E=>aw.lt b E;have bx:∀b∈B2,b<wd.heap.size:=fun b E=>ax.lt b E;have bz:wd.heap.size<=w8.heap.size:=f8.size;have cg:w4.heap.size<=wd.heap.size:=af.size;have ch:w.heap.size<=w4.heap.size:=ae.fr.size;have aX:=(ag.sub (L':=[(pb,_)]) (List.Sublist.cons _ (List.Sublist.refl _))).q8 f9 (fun b E=>.inr (H.n1 b E).1) (fun p hp E=>by simp at hp;subst hp;have:=(H.n1 _ E).1;dsimp only at this;omega);refine ia (aX.cell 0 rfl (uY R 1 oM)) ?_;have bA:=(ax.q7 f8).q8 f9 (fun b E ay=>(H.n1 b ay).2.2 E);have bB:Rd [] w9 s7 pv.2.1:=((aR.q7 f8).q8 f9 (fun b E ay=>by have:=l7 b E;have:=au.lt b ay;omega)).jq qy oL;refine Cc bA bB oJ fun aY az ci bC aA aZ=>?_;have bP:wd.heap.size<=w9.heap.size:=zL bz f9.size;have a0:=aX.q8 aA (fun b E=>.inr (H.n2 b E).1) (fun p hp E=>by simp at hp;subst hp;have:=(H.n2 _ E).1;dsimp only at this;omega);have ab:∀b∈B9,w.heap.size<=b/\b≠r/\b∉B2/\b<w9.heap.size:=fun b E=>by refine⟨?_,?_,?_,b9.lt b E⟩;rcases n9 b E with h|h;exact (H.n1 b h).1;omega;rcases n9 b E with h|h;exact (H.n1 b h).2.1;omega;rcases n9 b E with h|h;exact (H.n1 b h).2.2;intro h2;have:=bx b h2;omega
 have ak:∀b∈az,w.heap.size<=b/\b≠r:=fun b E=>by rcases aZ b E with h|h;exact H.n2 b h;constructor<;>omega
 have a1:=b9.q8 aA (fun b E h2=>(ab b E).2.2.1 h2);have bD:∀b∈B9,b∉az:=fun b E bE=>by
  rcases aZ b bE with h|h;exact (ab b E).2.2.1 h
  have:=(ab b E).2.2.2;omega
 refine fq (oG a0 0 rfl (eX (pW dbk) j9 s9 sn x6 Q3 wk) (qpK R) rfl (by rw[tH R,hw];exact zO rfl) fun cj a2 bF=>?_);refine fq (oG a2 0 rfl (eX (pW dbk) j9 s9 aY x6 Q3 wk) (qpL R) rfl (by rw[tH R,hw];exact zO rfl) fun ck a3 bG=>?_);have U:=bF.trans bG;have aB:∀b,w.heap.size<=b->b∉[pb]:=fun b E=>by simp;omega
 have al:=(((aQ.q8 f8 oL).q8 f9 (fun h=>(H.n1 r h).2.1 rfl)).q8 aA (fun h=>(H.n2 r h).2 rfl)).q8 U (aB r H.nr);refine hX _ _ ⟨u++[a],Q9++pv.2.1,s9,aY,B9,az,f,⟨a3,a1.q8 U (fun b E=>aB b (ab b E).1),bC.q8 U (fun b E=>aB b (ak b E).1),al,fun b E=>⟨(ab b E).1,(ab b E).2.1,bD b E⟩,ak,H.nr,aP,?_,?_,?_⟩,?_,C⟩ ?_;rw[yL];exact⟨H.nodup,oL,fun x hx y hy=>by simp at hy;subst hy;exact fun e=>aH (e▸hx)⟩;intro x hx;rcases zD.1 hx with h|h;exact H.range x h;simp at h;subst h;exact⟨bh,bi⟩;rw[zF,zF];have:[a].length=1:=rfl;omega;rw[zF];have:[a].length=1:=rfl;omega;have key:∀ {w':World} {l:List Int},iR jd w' r (kV l)->(match w'.heap[r]? with|some (.map es _)=>F0-es.size|_=>0)=F0-l.length:=by
  rintro w' l ⟨es,c,h1,h2,_⟩;rw[h1]
  have:=congrArg List.length h2
  simp[kV] at this;simp[this]
 rw[key al,key H.map,zF];have:[a].length=1:=rfl;omega;have aq:a=0:=(oP ap);subst aq;rw[lJ,if_pos rfl] at C;rw[<- C] at I;dsimp only at I;refine fq (oA H.own 0 rfl sn (uY R 1 oM) ?_);have rn:Rd [] w2 sn Q9:=H.b2.jq qy oL;have cl:=rn.1;have bo:=H.len;have bp:u.length<=4096:=oJ;refine iV (fun x w'=>w'=w2/\∃i:Nat,x.2=i/\i<=Q9.length/\jV (j9.2.getD 0 0) u x.1 (Q9.drop i)=jV (j9.2.getD 0 0) u 0 Q9) (fun x _=>((Q9.length:Int)-x.2).toNat) ⟨rfl,0,rfl,oJ,rfl⟩ ?_;rintro⟨a4,ii⟩ w' ⟨rfl,i,a5,hi,hn⟩ Z hZ;simp only at a5 hn;subst a5;apply cD<;>intro hc;have a6:i<Q9.length:=(by have:=hc;dsimp only at this;omega);refine Rd.at rn i rfl (zA a6) ?_;rw[zX a6,jV] at hn;refine gQ (fun b w3=>b=(decide (Q9[i]<=a4)||decide (Q9[i]>=j9.2.getD 0 0)||decide (Q9[i]∈u))/\w3=w') ?_ ?_;refine dR (fun h=>⟨by rw[h];rfl,rfl⟩) fun h=>fq (oA H.own 0 rfl (j9.2.getD 0 0) (Cq R 0 oM) ?_);refine dR (fun h2=>⟨by rw[h,h2];rfl,rfl⟩) fun h2=>qrf H.map fun x hx=>⟨?_,rfl⟩;rw[hx,h,h2];rfl;rintro b w3 ⟨rfl,rfl⟩;apply dR<;>intro h;rw[h] at hn;refine V ?_ w3 aG;rw[I,if_neg];rw[<- hn];simp;rw[h] at hn;rw[gc _ oN];exact hZ _ _ ⟨rfl,i+1,oL,oJ,by simpa using hn⟩ oN;have:i=Q9.length:=(by have:=hc;dsimp only at this;omega);subst this;rw[drop_length] at hn;have bH:jV (j9.2.getD 0 0) u 0 Q9=true:=hn.symm;have J:=H.own.drew;refine fq (oA J 0 rfl sn (uY R 1 oM) ?_);refine fq (oA J 0 rfl (j9.2.getD 2 0) (Cq R 2 oM) ?_);rw[gc _ oJ];by_cases hfree:(Q9.length:Int)=j9.2.getD 2 0;rw[if_pos ⟨bH,hfree⟩] at I;have e:((sn.len:Int)==j9.2.getD 2 0)=true:=(by rw[yO];omega);rw[e];refine hk sl sn u Q9 _ I J fun G hG=>?_;have an:∀b,w.heap.size<=b->b∉G:=fun b E h=>by have:=hG b h;omega
 exact⟨(H.b1.q7 ((Fr.refl [] w').drew)).jq qy fun b E=>an b (H.n1 b E).1,(H.b2.q7 ((Fr.refl [] w').drew)).jq qy fun b E=>an b (H.n2 b E).1⟩;have e:((sn.len:Int)==j9.2.getD 2 0)=false:=(by rw[zR];omega);rw[e];exact V (by rw[I,if_neg (fun h=>hfree h.2)]) _ J.fr
def qlk{s:Sl}(h:eE S w s l):(Extern.Bytes.bytesOf (.slice s.a s.len s.cap)).run prog w=.ok ⟨(Lib.bytesOf l).toArray⟩ w:=by
 have hlen:=h.1;cases ha:s.a with
 | none=>
  have hl0:l=[]:=by rcases h.2.2 with h3|⟨b,o,cs,T,fr,ha',_⟩;exact h3;rw[ha] at ha';cases ha'
  subst hl0;rfl
 | some a=>
  have hc:=h.cells k8 ha
  have:=Lib.run_loadBytesX (P:=prog) w l a .empty (fun j x hj=>hc j (.int .u8 x) (by rw[qI,zQ,hj];rfl))
  rw[hlen];show (Extern.Bytes.loadBytes a l.length .empty).run prog w=_;rw[this];have e:(#[]:Array UInt8)++(Lib.bytesOf l).toArray=(Lib.bytesOf l).toArray:=oL;exact congrArg (fun d=>Result.ok (ByteArray.mk d) w) e
def qgh:∀ {a b:List Int},eB a->eB b->Lib.compareBytes (Lib.bytesOf a) (Lib.bytesOf b)=cmpL a b
 | [],[],_,_=>rfl
 | [],y::b,_,_=>rfl
 | x::a,[],_,_=>rfl
 | x::a,y::b,I,J=>by
  have C:=I x oL;have E:=J y oL;have ih:=qgh (a:=a) (b:=b) (fun z G=>I z (zN _ G)) (fun z G=>J z (zN _ G));have e:∀ {u v:Int},(0<=u/\u<256)->(0<=v/\v<256)->(u.toNat.toUInt8<v.toNat.toUInt8↔u<v):=fun {u v} R U=>by rw[UInt8.lt_iff_toNat_lt];simp;omega
  show (if x.toNat.toUInt8<y.toNat.toUInt8 then (-1:Int) else if y.toNat.toUInt8<x.toNat.toUInt8 then 1 else Lib.compareBytes (Lib.bytesOf a) (Lib.bytesOf b))=cmpL (x::a) (y::b);rw[cmpL,ih];by_cases h1:x<y;rw[if_pos ((e C E).2 h1),if_pos h1];rw[if_neg (fun h=>h1 ((e C E).1 h)),if_neg h1];by_cases h2:y<x;rw[if_pos ((e E C).2 h2),if_pos h2];rw[if_neg (fun h=>h2 ((e E C).1 h)),if_neg h2]
def qsl{S':List Nat}{s u:Sl}(h:eE S w s l)(E:eE S' w u l')(G:eB l)(C:eB l'): (Extern.BytealgCompare.compare #[s.v,u.v]).run prog w=.ok (.i (cmpL l l')) w:=by show Sem.run prog (do pure (goInt (Extern.BytealgCompare.cmp (<- Extern.Bytes.bytesOf s.v) (<- Extern.Bytes.bytesOf u.v)))) w=_;have e:=qgh G C;simp only[Sem.run_bind,qlk h,Result.andThen_ok,qlk E,Lib.cmp_eq];rw[e];rfl
def A3{S':List Nat}{s C:Sl}(h:eE S w s l)(E:eE S' w C l')(G:eB l)(u:eB l')(I:K (cmpL l l') w): cW 116 [s.v,C.v] df w K:=by exact quy<|ql6<|Cv (e:=Extern.BytealgCompare.compare) Tryz.func185 oK oK oK oK (cmpL l l') w (qsl h E G u) I
def gg (s:Sl):List Value:=[s.v]
def vh(s:Sl):(gg s).length=1:=rfl
def qvL(s:Sl):∀u∈gg s,u.oneCell'=true:=fun u h=>by rw[zE.1 h];rfl
abbrev oS:=List (Sl×Key)
abbrev ij (ps:oS):List Sl:=ps.map (·.1)
abbrev fV (ps:oS):List Key:=ps.map (·.2)
def i9 (S:List Nat) (w:World) (s:Sl) (ps:oS):Prop:=dW gg 1 S w s (ij ps)/\∀p∈ps,eE S w p.1 p.2
def i9.q8{S S':List Nat}{w w':World}{s:Sl}{ps:oS}(h:i9 S w s ps)(f:Fr S w w')(u:∀b∈S',b∈S\/w.heap.size<=b):i9 S' w' s ps:=⟨h.1.q8 f u,fun p C=>(h.2 p C).q8 f u⟩
def i9.q7{S:List Nat}{w w':World}{s:Sl}{ps:oS}(h:i9 S w s ps)(f:Fr [] w w'):i9 S w' s ps:=⟨h.1.q7 f,fun p u=>(h.2 p u).q7 f⟩
def i9.len{S:List Nat}{w:World}{s:Sl}{ps:oS}(h:i9 S w s ps):s.len=ps.length:=by rw[h.1.1,zK]
def i9.nil(S:List Nat)(w:World):i9 S w dC []:=⟨.nil _ _ _ _,fun p h=>nomatch h⟩
def i9.get{S:List Nat}{w:World}{s:Sl}{ps:oS}(h:i9 S w s ps)(n:Nat){i:Int}{K:Sl->Prop}(hi:i=n)(u:n<ps.length)(C:K ps[n].1):idx s i 1 fun a=>ld .slice a w K:=
 dW.get h.1 n hi (x:=ps[n].1) (by rw[zQ,zA u];rfl) (y:=ps[n].1) rfl C
def andThen_ok:andThen (D,0) f=f D:=if_pos rfl
structure kH (s:m7):Prop where
 seq:0<=s.1/\s.1<4611686018427387904
 len:s.2.length=27
 u32:∀ x∈s.2,gy x
def kH.place(h:kH s):Int.tmod s.1 2=s.1%2:=Int.tmod_eq_emod_of_nonneg h.seq.1
def kH.gx{s:m7}(h:kH s):gx s=(s.1%2,eh (s.1%2) 1 (gi s.1 s.2)):=by rw[Go.Proofs.YtpcmehldpoljfaaGreatDoor.gx,h.place,nD _ oJ]
def kH.read(h:kH s):eS (s.1%2) (eh (s.1%2) 1 (gi s.1 s.2))=(s,0):=by
 have:=h.seq
 exact qsJ (by constructor<;>omega) h.len h.u32 h.place
def kH.t5(h:kH s)(p:Int):(eh p 1 (gi s.1 s.2)).length=512:=vr (by rw[xz h.len];decide)
def eJ.ti(h:eJ D)(C:kH s)(hz:8<=D.size): ∃D',ju D s=(D',0)/\eJ D'/\D'.size=D.size/\D'.Q7=[]/\view D' (s.1%2)=eh (s.1%2) 1 (gi s.1 s.2)/\∀m,0<=m->m≠s.1%2->view D' m=view D m:=by obtain⟨D1,e1,I,J,E⟩:=h.write (n:=s.1%2) (l:=eh (s.1%2) 1 (gi s.1 s.2)) oJ (C.t5 _);obtain⟨R,U,V,s2,w2,G⟩:=I.sync;refine⟨R,?_,V,s2.trans J,w2,by rw[G _ oJ,E,if_pos rfl],fun m hm u=>by rw[G m hm,E,if_neg u]⟩;rw[ju,C.gx];show andThen (ed D (s.1%2) _) fQ=_;rw[e1];exact U
def qsK{p:Int}:(eS p (zs 512)).2≠0:=by have u:(eP p (zs 512)).1=0:=(by unfold eP;split<;>(try rfl);split<;>(try rfl);split<;>(try rfl);split<;>(try rfl);split<;>rfl);unfold eS;generalize eP p (zs 512)=o at u⊢;by_cases h:o.2.2≠0;rw[if_pos h];exact h;have C:o.1≠1\/o.2.1.length≠116:=.inl (by rw[u];decide);rw[if_neg h,if_pos C];exact (by decide:(2:Int)≠0)
def qsZ{n i:Nat}(h:i<n-2):(fj n)[i]?=some ((i:Int)+2):=by rw[fj,zQ,List.getElem?_range h];rfl
def wQ(n:Nat):(fj n).length=n-2:=by simp[fj]
def xa{n:Nat}{x:Int}:x∈fj n↔2<=x/\x<n:=by rw[fj,mem_map];constructor;rintro⟨i,h,rfl⟩;rw[mem_range] at h;omega;rintro⟨u,C⟩;exact⟨(x-2).toNat,by rw[mem_range];omega,oJ⟩
def Bj(n:Nat):(fj n).Pairwise (· < ·):=by rw[fj,pairwise_map];exact pairwise_lt_range.imp (fun h=>oJ)
def FP{n:Nat}:n<=124*eC n:=by
 unfold eC;split;omega
 have:=Nat.div_add_mod (n-1) 124
 have:=Nat.mod_lt (n-1) (show 0<124 by decide)
 omega
def DN{n:Nat}:eC n<=n:=by
 unfold eC;split;omega
 have:=Nat.div_le_self (n-1) 124
 omega
def qm7{n:Nat}:lf n ((fj n).drop (eC (fj n).length)) ((fj n).take (eC (fj n).length)) where
 cU:=(Bj n).sublist (drop_sublist _ _)
 mT:=fun x u=>xa.1 (yT u)
 qL:=fun x u=>xa.1 (yU u)
 nodup:=(vG (Bj n)).sublist (take_sublist _ _)
 J3:=fun x u C=>by have h:=vG (Bj n);rw[<- xD (eC (fj n).length) (fj n),yL] at h;exact h.2.2 x u x C rfl
 room:=by have G:=FP (n:=(fj n).length);have E:=DN (n:=(fj n).length);rw[yB,yK,xQ E];omega
def Eg{n:Nat}(u:8<=n)(C:n<=4096):kH (jZ n) where
 seq:=⟨(by decide:(0:Int)<=1),(by decide:(1:Int)<4611686018427387904)⟩
 len:=rfl
 u32:=fun x h=>by
  simp only[jZ,zD,zG,xW,or_false] at h;rcases h with (rfl|rfl|rfl)|h;exact uC _;exact⟨oM,oM⟩;exact uC _
  have:=eq_of_mem_replicate h
  subst this;exact⟨oM,oM⟩
def qq6{n:Nat}(h:eJ D)(hn:D.size=n)(h8:8<=n)(h4:n<=4096): ∃D',lc D=(D',0)/\eJ D'/\D'.size=n/\D'.Q7=[]/\oh D' (jZ n) ((fj n).take (eC (fj n).length)) ((fj n).drop (eC (fj n).length))/\view D' 0=zs 512:=by
 have am:D.Q6.length=n:=(by have:(D.Q6.length:Int)=n:=hn;omega);obtain⟨D1,e1,q1,s1,v1⟩:=h.write (n:=0) (l:=zs 512) oJ (oT _);obtain⟨D2,e2,q2,s2,v2⟩:=q1.write (n:=1) (l:=zs 512) oJ (oT _);obtain⟨J,e3,q3,s3,w3,v3⟩:=q2.sync;have C:J.size=n:=oJ;have R:J.Q6.length=n:=(by have:(J.Q6.length:Int)=n:=C;omega);have u:=qm7 (n:=n);rw[<- C] at u;obtain⟨U,e4,q4,s4,w4,l4,v4⟩:=q3.spread u;have V:U.size=n:=oJ;have aa:U.Q6.length=n:=(by have:(U.Q6.length:Int)=n:=V;omega);obtain⟨D5,e5,q5,s5,w5,p5,v5⟩:=q4.ti (Eg h8 h4) oJ;have E:(jZ n).1%2=1:=rfl;rw[E] at p5 v5;have G:=u.qL;have z0:view D5 0=zs 512:=(by rw[v5 0 oM oM,v4 0 oM (fun hm=>by have:=G 0 hm;omega),v3 0 oM,v2,if_neg oM,v1,if_pos rfl]);refine⟨D5,?_,q5,oJ,w5,?_,z0⟩;rw[lc,e1,andThen_ok,e2,andThen_ok,e3,andThen_ok,R,e4,andThen_ok,aa,e5];have aE:1<=eC (fj n).length:=by
  have:=FP (n:=(fj n).length)
  rw[wQ] at this⊢;omega
 refine { down:=q5.down,size:=by omega,sV:=?_,blocks:=?_,list:=?_,Q1:=?_,ok:=by rw[show D5.size=J.size by omega];exact u,listed:=fun i p hp=>?_ };have hr:=(Eg h8 h4).read;rw[E] at hr;rw[z0,p5,gI,hr,if_neg oL,if_pos (.inl qsK)];show wrap .u32 (n:Int)=_;rw[nD _ oJ];omega;have:(fj n).take (eC (fj n).length)=2::((fj n).take (eC (fj n).length)).drop 1:=by
  have I:(fj n)[0]?=some 2:=(by rw[qsZ oJ];rfl);obtain⟨k,hk⟩:∃k,eC (fj n).length=k+1:=⟨eC (fj n).length-1,oJ⟩;rw[hk];cases hA:fj n with
  | nil=>rw[hA] at I;cases I
  | cons a r=>rw[hA] at I;simp at I;subst I;rfl
 rw[this];rfl;show wrap .u32 _=_
 have:=DN (n:=(fj n).length)
 rw[yB,nD _ (by rw[wQ] at *;omega)];omega
 have:=G p (yE hp)
 rw[v5 p oJ oJ];exact l4 i p hp
def quF(n:Nat):eJ (mC n):=⟨rfl,rfl,fun x h=>by cases h⟩
def qwi(n:Nat):(mC n).size=n:=by show ((List.replicate n lC.zero).length:Int)=n;simp
def qr3{w':World}{s:Sl}(h:Told w w' s l):∃B,kQ w' s l B/\∀b∈B,w.heap.size<=b:=by rcases h with ⟨rfl,rfl⟩|⟨b,d,T,cap,rfl,E,J,G,I,u,C⟩;exact⟨[],.nil _ _ _,oL⟩;refine⟨[b],.inr ⟨b,0,gY d,T,rfl,rfl,rfl,E,rfl,G,by rw[xw];dsimp only;omega,?_⟩,by simpa using u⟩;rw[xE,xS,gY,Array.toList_map,<- xO,I,FN]
def gJ (D:dE):m7×Int:=
 if (ee D 0).2≠0 then (gq,(ee D 0).2) else if (ee D 1).2≠0 then (gq,(ee D 1).2) else gI (ee D 0).1 (ee D 1).1
def qsD(D:dE):(gJ D).1.2.length=27:=by unfold gJ;split;rfl;split;rfl;exact qlC _ _
def qtY{K:List Value×Int->WP}(h:eK w dbk FD D)(I:D.Ok)(V:Hv w)(R:∀w',Fr [] w w'->K (eN (gJ D).1.1 (gJ D).1.2,(gJ D).2) w'): cW 144 [dB dbk] dw w K:=by
 refine qnB<|oI (oE [] w) sL fun r w1 e1 C=>BL (h.q7 C.fr) I fun s2 B2 w2 b2 f2 n2=>?_;have C:=C.q7 f2;apply dR<;>intro u;have u:(ee D 0).2≠0:=(oP u);refine yg<|tu C 0 rfl rfl rfl fun J E=>?_
 have:=R J E
 rw[gJ,if_pos u] at this;exact this;have G:¬(ee D 0).2≠0:=(oP u);refine BL (h.q7 C.fr) I fun s3 B3 J b3 E n3=>?_;have C:=C.q7 E;apply dR<;>intro u;have u:(ee D 1).2≠0:=(oP u);refine yg<|tu C 0 rfl rfl rfl fun J E=>?_
 have:=R J E
 rw[gJ,if_neg G,if_pos u] at this;exact this;have U:¬(ee D 1).2≠0:=(oP u);have i0:=uD I 0;have i1:=uD I 1;refine qt6 ((b2.q7 E).jq k8 (S:=[]) oL) (b3.jq k8 (S:=[]) oL) (V.q7 C.fr) i0.1 i1.1 oJ oJ fun w4 f4=>tu (C.q7 f4) 0 rfl rfl (qlC _ _) fun w5 f5=>?_
 have:=R w5 f5
 rw[gJ,if_neg G,if_neg U] at this;exact this
def qrw(D:dE):mo D=if (gJ D).2≠0 then (none,(gJ D).2) else if (gJ D).1.2.getD 0 0≠D.Q6.length then (none,2) else match nJ D (gJ D).1 with|none=>(none,2)|some x=>(some (hU (gJ D).1 x.1 x.2 1 false x.2),0):=by unfold mo gJ;by_cases h0:(ee D 0).2≠0;rw[if_pos h0,if_pos h0];exact (if_pos h0).symm;rw[if_neg h0,if_neg h0];by_cases h1:(ee D 1).2≠0;rw[if_pos h1,if_pos h1];exact (if_pos h1).symm;rw[if_neg h1,if_neg h1]<;>rfl
def pgZ:(prog.info? re).bind (·.zero)=some (.agg (eX none gq dC dC 0 false (gP none none none (zs 24)))):=by kernel_rfl
def qxf{d:Option Addr}{q:Int}{t:List Int}(h:t.length=27)(w:World): (Instr.build re #[(0,.pointer d),(1,.agg (eN q t).toArray)]).run prog w=.ok (.agg (eX d (q,t) dC dC 0 false (gP none none none (zs 24)))) w:=by
 refine Aq (parts:=[(0,.pointer d),(1,.agg (eN q t).toArray)]) (offs:=#[(0,1),(1,28),(29,1),(30,1),(31,1),(32,1),(33,27)]) pgZ oK (fun w=>oK) ?_ w;have u:(Value.agg (eN q t).toArray).cells.size=28:=CA h;rw[qT (o:=0) (s:=1) rfl rfl (zO rfl),qT (o:=1) (s:=28) rfl u (zO rfl)];show some _=_;congr 1;have C:dN (Value.agg (eX none gq dC dC 0 false (gP none none none (zs 24)))).cells 0 (Value.pointer d).cells.toList=eX d gq dC dC 0 false (gP none none none (zs 24)):=rfl;rw[C]
 have:=sX (A:=[Value.pointer d]) (X:=eN 0 (zs 27)) (Y:=eN q t) (Z:=[.slice none 0 0,.slice none 0 0,.i 0,.bool false]++gP none none none (zs 24)) (by rw[pw h];rfl)
 refine Eq.trans ?_ (this.trans ?_);show dN (eX d gq dC dC 0 false (gP none none none (zs 24))) 1 (eN q t)=_;congr 1;simp[eX]
def qnJ(place:Int)(l:List Int):∀x∈(eS place l).1.2,gy x:=by
 have h:∀x∈gq.2,gy x:=fun x u=>by
  have:=eq_of_mem_replicate (show x∈List.replicate 27 (0:Int) from u)
  subst this;exact⟨oM,oM⟩
 unfold eS;split;exact h;split;exact h;split;exact h;intro x u;obtain⟨i,_,rfl⟩:=mem_map.1 u;exact qjI
def qsE(D:dE):∀x∈(gJ D).1.2,gy x:=by
 have h:∀x∈gq.2,gy x:=fun x u=>by
  have:=eq_of_mem_replicate (show x∈List.replicate 27 (0:Int) from u)
  subst this;exact⟨oM,oM⟩
 unfold gJ;split;exact h;split;exact h;unfold gI;split;exact h;split;exact qnJ _ _;exact qnJ _ _
def qq9(h:∀x∈l,gy x)(n:Nat):gy (l.getD n 0):=by
 rw[yQ];cases u:l[n]? with
 | none=>exact⟨oM,oM⟩
 | some x=>exact h x (yE u)
def qvh{K:Option Addr×Int->WP}(X:List Nat)(au:∀b∈X,b<w.heap.size)(h:eK w dbk FD D)(hD:D.Ok)(hv:Hv w)(al:(mo D).1=none->∀w',Fr [] w w'->K (none,(mo D).2) w')(hk:∀pb F M w',mo D=(some M,0)->en w' X pb (pW dbk) F M->Fr [] w w'->(∀b∈F,w.heap.size<=b)->K (pW pb,0) w'): cW 108 [dB dbk] dy w K:=by
 refine qqb<|qtY h hD hv fun w1 f1=>?_;have R:=qsD D;have hu:=qq9 (qsE D);have C:=qrw D;generalize hs:gJ D=sm at R hu C;obtain⟨j9,e⟩:=sm;simp only at R hu C;refine oI ((oE [] w).q7 f1) sL fun r w2 e2 ho=>yk ho 0 rfl rfl R fun w3 ho=>?_;apply dR<;>intro U;have U:e≠0:=(oP U);rw[if_pos U] at C
 have:=al (by rw[C]) w3 ho.fr
 rw[C] at this;exact this;have ax:¬e≠0:=(oP U);rw[if_neg ax] at C;refine uh (ho.at (i:=0) rfl) R<|qJ (ts:=[gO.kN]) (eX (pW dbk) (j9.1,j9.2) dC dC 0 false (gP none none none (zs 24))).toList (qxf R w3)<|oB ho fun pb V e4 f4 aj=>?_;have J:=aj.fr;have am:=h.q7 J;have an:∀b∈FD,b<V.heap.size/\b≠pb:=fun b E=>by
  have h1:=h.lt b E
  have:=J.size
  have:=ho.fr.size
  constructor<;>omega
 have ak:∀b∈X,b<V.heap.size/\b≠pb:=fun b E=>by
  have h1:=au b E
  have:=J.size
  have:=ho.fr.size
  constructor<;>omega
 have az:=hD.Q6;have aa:V.heap[pb]?=some (.cells (eX (pW dbk) j9 dC dC 0 false (gP none none none (zs 24))) re (0,0)):=aj.at (i:=0) rfl;have ah:V.heap[r]?=some (.cells (eN j9.1 j9.2).toArray 185 (0,0)):=aj.at (i:=1) rfl;have ad:w.heap.size<=pb:=(by have:=ho.fr.size;omega);have aA:pb≠HG:=(by have:=hv.lt;omega);refine gQ (fun b w'=>(b=true/\(mo D).1=none/\(mo D).2=2/\Fr [] w w')\/(b=false/\∃sl sn G Q9,mo D=(some (hU j9 G Q9 1 false Q9),0)/\dM [pb] V w' [(pb,.cells (eX (pW dbk) j9 sl sn 0 false (gP none none none (zs 24))) re (0,0))]/\Rd (X++[pb]) w' sl G/\Rd (X++[pb]) w' sn Q9/\Q9.Pairwise (· < ·)/\Q9.length<=100000)) ?_ ?_;refine iG (w:=V.drew) (c:=.u) ah (j9.2.getD 0 0) (A2 0 oJ)<|DW (am.q7 (Fr.refl [] V).drew)<|ia (by show _=_;rw[je (w:=V.drew) ah];exact A2 0 oJ) ?_;rw[nD (D.Q6.length:Int) oJ];apply dR<;>intro U;have U:j9.2.getD 0 0≠(D.Q6.length:Int):=by intro h;rw[h] at U;simp at U
 rw[if_pos U] at C;exact .inl ⟨rfl,by rw[C],by rw[C],J.drew⟩;have U:j9.2.getD 0 0=(D.Q6.length:Int):=by by_cases h:j9.2.getD 0 0=(D.Q6.length:Int);exact h;rw[show ((j9.2.getD 0 0==(D.Q6.length:Int))=false) by rw[zR];exact h] at U;cases U
 rw[if_neg (by rw[U];simp)] at C;have ae:Fr [] V V.drew:=(Fr.refl [] V).drew;refine qwX (pb:=pb) (D:=D) (j9:=j9) (FD:=FD) (w:=V.drew) aa R (vR (by rfl)) (am.q7 ae) hD ((hv.q7 J).q7 ae) (fun E=>(an pb E).2 rfl) aA oJ (hu 1) (hu 2) (fun hl w5 f5=>?_) (fun sl sn G Q9 w5 hl I ao=>?_);rw[hl] at C;refine .inl ⟨rfl,by rw[C],by rw[C],(J.trans ae).j8 f5 fun b E=>by simp at E;subst E;exact .inr ad⟩;rw[hl] at C;have ab:jV (j9.2.getD 0 0) G 0 Q9=true:=by unfold nJ at hl;split at hl;cases hl;rename_i x hx;split at hl;rename_i hh;cases hl;exact hh.1;cases hl
 have ab:=(Fe _ _ _ _).1 ab;have ac:Q9.length<=100000:=by
  have:=Cl (n:=j9.2.getD 0 0+1) (l:=Q9.map (·+1)) (by
   rw[List.Nodup,pairwise_map];exact ab.2.imp (fun h=>oJ)) (fun x hx=>by
   obtain⟨y,hy,rfl⟩:=mem_map.1 hx
   have:=ab.1 y hy
   omega)
  rcases this with h|h;rw[zK] at h;omega
  have:=congrArg List.length h;simp at this;simp[this]
 have ai:∀b∈X++[pb],b<V.drew.heap.size:=fun b E=>by rcases zD.1 E with E|E;exact (ak b E).1;rw[zE.1 E];exact eT aa
 refine .inr ⟨rfl,sl,sn,G,Q9,C,⟨I.eA,I.nodup,(ae.mono (fun b E=>by cases E)).trans I.fr,I.own⟩,(ao _ ai).1,(ao _ ai).2,ab.2,ac⟩;rintro b w5 (⟨rfl,h1,h2,f5⟩|⟨rfl,sl,sn,G,Q9,aC,I,r1,r2,hp,ac⟩);refine cond_true rfl ?_
 have:=al h1 w5 f5
 rw[h2] at this;exact this;refine cond_false rfl ?_;have hX:∀b∈X,b<w5.heap.size/\b≠pb:=fun b E=>⟨yC (ak b E).1 I.fr.size,(ak b E).2⟩;refine E5 (X:=X) (I.at (i:=0) rfl) R (vR (by rfl)) oM hX r1 r2 ac fun F w6 ap f6 n6=>?_;rw[qpf hp] at ap;refine hk pb F _ w6 aC ap ((J.j8 I.fr fun b E=>by simp at E;subst E;exact .inr ad).j8 f6 fun b E=>by simp at E;subst E;exact .inr ad) fun b E=>?_;rcases n6 b E with h|h;rw[h];exact ad;exact zL (zL J.size I.fr.size) h
structure ls (D:dE) (k:Nat):Prop where
 ok:D.Ok
 Q7:D.Q7.length<=k
 writes:D.writes<=k
def qsY(h:D.Ok):(gK D).1.Ok/\(gK D).1.writes=D.writes:=by have u:=h.y5;unfold gK;split;exact⟨⟨h.at_,u,h.Q6,h.Q7,h.writes,h.nm,h.ng⟩,rfl⟩;split;exact⟨⟨h.at_,⟨by show -1<=D.y5-1;omega,by show D.y5-1<=_;omega⟩,h.Q6,h.Q7,h.writes,h.nm,h.ng⟩,rfl⟩;exact⟨h,rfl⟩
def ls.mono{u:Nat}(h:ls D k)(C:k<=u):ls D u:=⟨h.ok,zL h.Q7 C,by have:=h.writes;omega⟩
def ls.write(h:ls D k)(R:k<1000000)(E:eB l):ls (ed D n l).1 (k+1):=by
 unfold ed;split;exact h.mono oJ;split;exact h.mono oJ;split;rename_i U V C;have G:(lh D n ⟨l,C⟩).Ok:={
  at_:=fun x u=>by rcases zD.1 u with u|u;exact h.ok.at_ x u;simp at u;subst u;show 0<=n/\n<(D.Q6.length:Int);omega
  y5:=h.ok.y5
  Q6:=h.ok.Q6
  Q7:=by show (D.Q7++[_]).length<=_;have:=h.Q7;simp;omega
  writes:=⟨by show 0<=D.writes+1;have:=h.ok.writes;omega,by show D.writes+1<=_;have:=h.writes;omega⟩
  nm:=h.ok.nm
  ng:=fun x u=>by rcases zD.1 u with u|u;exact h.ok.ng x u;simp at u;subst u;exact E }
 obtain⟨I,J⟩:=qsY G;refine⟨I,?_,?_⟩;show (gK (lh D n ⟨l,C⟩)).1.Q7.length<=k+1;rw[(wE _).2];show (D.Q7++[_]).length<=_
 have:=h.Q7
 simp;omega;show (gK (lh D n ⟨l,C⟩)).1.writes<=((k+1:Nat):Int);rw[J];show D.writes+1<=_
 have:=h.writes
 omega;exact h.mono oJ
def qtt:∀(l:List (Int×lC)) (s:List lC),(∀x∈l,eB x.2.1)->(∀b∈s,eB b.1)->∀b∈l.foldl fR s,eB b.1
 | [],s,_,h=>h
 | x::l,s,C,h=>qtt l (fR s x) (fun y E=>C y (zN _ E)) fun b u=>by rcases mem_or_eq_of_mem_set u with u|rfl;exact h b u;exact C x oL
def ls.sync(h:ls D k):ls (fQ D).1 k:=by obtain⟨u,E⟩:=qsY h.ok;unfold fQ;split;exact h;split;exact⟨u,by show (gK D).1.Q7.length<=k;rw[(wE D).2];exact h.Q7,by show (gK D).1.writes<=_;rw[E];exact h.writes⟩;refine⟨⟨(fun x C=>by cases C),u.y5,?_,oL,u.writes,?_,(fun x C=>by cases C)⟩,oL,by show (gK D).1.writes<=_;rw[E];exact h.writes⟩;show (D.Q7.foldl fR D.Q6).length<=4096;rw[zn];exact h.ok.Q6;exact qtt _ _ h.ok.ng h.ok.nm
def ls.then{u:Nat}(h:ls r.1 k)(C:k<=u)(E:∀D,ls D k->ls (f D).1 u):ls (andThen r f).1 u:=by unfold andThen;split;exact E _ h;exact h.mono C
def ls.rE:∀ {l:List (Int×List Int)} {D:dE} {k:Nat},ls D k->k+l.length<=1000000->(∀x∈l,eB x.2)->ls (fu l D).1 (k+l.length)
 | [],D,k,h,_,_=>h
 | x::l,D,k,h,C,u=>by
  rw[yH] at C⊢;refine ls.then (k:=k+1) (h.write oJ (u x oL)) oJ fun D' E=>?_
  have:=ls.rE (l:=l) E oJ (fun y G=>u y (zN _ G))
  rw[Nat.add_right_comm] at this;exact this
def Ga:(ed D n l).1.Q6.length=D.Q6.length:=by unfold ed;split;rfl;split;rfl;split;show (gK _).1.Q6.length=_;rw[(wE _).1];rfl;rfl
def qpS:(fQ D).1.Q6.length=D.Q6.length:=by unfold fQ;split;rfl;split;show (gK _).1.Q6.length=_;rw[(wE _).1];show (D.Q7.foldl fR D.Q6).length=_;rw[zn]
def qpT{n:Nat}(h:r.1.Q6.length=n)(u:∀D:dE,D.Q6.length=n->(f D).1.Q6.length=n):(andThen r f).1.Q6.length=n:=by unfold andThen;split;exact u _ h;exact h
def qlP:∀ {l:List (Int×List Int)} {D:dE},(fu l D).1.Q6.length=D.Q6.length
 | [],D=>rfl
 | x::l,D=>qpT Ga fun D' h=>by rw[qlP,h]
def qsM{a b:List Int}:(eZ D a b).1.Q6.length=D.Q6.length:=by unfold eZ;split;rfl;exact qpT qlP fun D' h=>by rw[qpS,h]
def qsO:∀x∈(y4.zip (gd numbers y4).1).map fun x=>(x.1,eh x.1 2 x.2),eB x.2:=by intro x u;obtain⟨y,h,rfl⟩:=mem_map.1 u;refine CL oM ?_;have h:=(of_mem_zip h).2;unfold gd at h;split at h;cases h;split at h;cases h;obtain⟨i,_,C⟩:=mem_map.1 h;rw[<- C];exact qoU _ _
def qn3{α β:Type}(a:List α)(b:List β):(a.zip b).length<=a.length:=by rw[length_zip];exact Nat.min_le_left _ _
def ls.spread(h:ls D k)(E:k+y4.length<=1000000):ls (eZ D numbers y4).1 (k+y4.length):=by
 unfold eZ;split;exact h.mono oJ;have u:=qn3 y4 (gd numbers y4).1;refine ls.then (k:=k+y4.length) ?_ (zM _) fun D' C=>C.sync
 refine (ls.rE h (by rw[zK];omega) qsO).mono ?_;rw[zK];omega
def qu9(s:m7):eB (gx s).2:=CL oM (qu8 _ _)
def qql{numbers y4:List Int}{i:Nat}{bs:List (List Int)}(h:i<y4.length)(u:i<bs.length):(y4.zip bs).drop i=(y4[i],bs[i])::(y4.zip bs).drop (i+1):=by rw[zX (by rw[length_zip];omega)];simp
def qtZ{sp:Sl}(h:eK w dbk FD D)(hD:ls D k)(aR:k+y4.length<=1000000)(hv:Hv w)(hg:HG∉FD)(hn:Rd FD w sn numbers)(hp:Rd FD w sp y4)(aw:numbers.length<=100000)(ax:y4.length<=100000)(ay:∀x∈y4,gy x)(hk:∀F' w',eK w' dbk F' (eZ D numbers y4).1->Fr FD w w'->(∀b∈F',b∈FD\/w.heap.size<=b)->K (eZ D numbers y4).2 w'): cW 142 [dB dbk,sn.v,sp.v] df w K:=by
 refine qnC<|qtO (G:=FD) hn hp aw ax h.lt fun s1 B1 w1 b1 f1 n1=>?_;apply dR<;>intro C;have C:(gd numbers y4).2≠0:=by simpa using C
 have:=hk FD w1 (by rw[eZ,if_pos C];exact h.q7 f1) (f1.mono fun b u=>by cases u) (fun b u=>.inl u)
 rw[eZ,if_pos C] at this;exact this;have E:¬(gd numbers y4).2≠0:=(oP C);rw[eZ,if_neg E] at hk;have R:(gd numbers y4).1.length=y4.length/\∀b∈(gd numbers y4).1,b.length<=500/\eB b:=by
  unfold gd at E⊢;split;rename_i h1;rw[if_pos h1] at E;exact absurd oM E;rename_i h1;rw[if_neg h1] at E;split;rename_i h1;rw[if_pos h1] at E;exact absurd oM E;refine⟨FV _ _ _,fun b u=>?_⟩;obtain⟨i,_,rfl⟩:=mem_map.1 u;rw[B0]
  have:=E7 numbers i
  unfold chunk at this;exact⟨oJ,qoU _ _⟩
 generalize (gd numbers y4).1=bs at hk R b1;obtain⟨J,q1,q2,q3⟩:=b1;have aY:=q1.len;have aN:=R.1;have aZ:=hp.1;refine iV (fun x w'=>∃(i j:Nat) (F':List Nat) (D':dE),x=i/\i<=y4.length/\eK w' dbk F' D'/\ls D' (k+i)/\Fr FD w w'/\Fr FD w1 w'/\(∀b∈F',b∈FD\/w1.heap.size<=b)/\
   andThen (fu ((y4.zip bs).map fun x=>(x.1,eh x.1 2 x.2)) D) fQ=andThen (fu (((y4.zip bs).drop i).map fun x=>(x.1,eh x.1 2 x.2)) D') fQ) (fun x _=>((y4.length:Int)-x).toNat)
  ⟨0,0,FD,D,rfl,oJ,h.q7 f1,hD,f1.mono (fun b u=>by cases u),.refl _ _,fun b u=>.inl u,rfl⟩ ?_
 rintro x w2 ⟨i,j,F',D',rfl,hi,ai,ad,f2,U,n2,he⟩ X hX;have az:=hv.q8 f2 hg;have a1:=f1.size;apply dR<;>intro C;have V:i<y4.length:=(by have:=zC C;dsimp only at this;omega);have aa:i<bs.length:=oJ;have ak:i<J.length:=oJ;have aA:dW sJ 1 FD w1 s1 J:=q1.jq qqW (fun b u hm=>by have:=h.lt b hm;have:=n1 b u;omega);have al:dW sJ 1 FD w2 s1 J:=aA.q8 U (fun b u=>.inl u);have am:Rd FD w2 sp y4:=hp.q8 f2 (fun b u=>.inl u);refine dW.get (y:=J[i]) al i rfl (zA ak) rfl<|Rd.at am i rfl (zA V) ?_;have an:eE FD w1 J[i] bs[i]:=(q3 i _ _ (zA ak) (zA aa)).j6 fun b u=>.inl (zH _ u);have ae:eE FD w2 J[i] bs[i]:=an.q8 U (fun b u=>.inl u);have aB:=(R.2 _ (zW aa)).1;have a3:=ay _ (zW V);refine Dz ae az oJ (fun h=>oJ) fun _ b3 T3 w3 c3 f3 n3=>Rd.at (am.q7 f3) i rfl (zA V) ?_;rw[gc y4[i] oJ];have ab:=vr (number:=y4[i]) (kind:=2) aB;refine qoP (S:=[]) (ai.q7 f3) ad.ok (uG (o:=0) (n:=512) c3 (by rw[ab];exact zM _) (zM _) oL) fun F4 w4 d4 f4 n4=>?_;rw[xE,zS (by rw[ab];exact zM _)] at d4⊢;have I:∀b∈F',b∈FD\/w.heap.size<=b:=fun b u=>by rcases n2 b u with h|h;exact .inl h;exact .inr oJ
 have a6:w2.heap.size<=w3.heap.size:=f3.size;have a7:=U.size;have ao:Fr FD w w4:=(f2.j8 f3 oL).j8 f4 I;have aG:Fr FD w1 w4:=(U.j8 f3 oL).j8 f4 n2;have ap:∀b∈F4,b∈FD\/w1.heap.size<=b:=fun b u=>by rcases n4 b u with h|h;exact n2 b h;exact .inr oJ
 rw[qql V aa (numbers:=numbers),xN,fu] at he;apply dR<;>intro C;have C:(ed D' y4[i] (eh y4[i] 2 bs[i])).2≠0:=(oP C);have aH:andThen (fu ((y4.zip bs).map fun x=>(x.1,eh x.1 2 x.2)) D) fQ=ed D' y4[i] (eh y4[i] 2 bs[i]):=by rw[he];show andThen (andThen (ed D' y4[i] (eh y4[i] 2 bs[i])) _) fQ=_;rw[show ∀f,andThen (ed D' y4[i] (eh y4[i] 2 bs[i])) f=ed D' y4[i] (eh y4[i] 2 bs[i]) from fun f=>if_neg C];exact if_neg C
 rw[aH] at hk;exact hk F4 w4 d4 ao (fun b u=>by rcases ap b u with h|h;exact .inl h;exact .inr oJ);have C:(ed D' y4[i] (eh y4[i] 2 bs[i])).2=0:=(oP C);rw[gc _ oJ];refine hX _ _ ⟨i+1,0,F4,(ed D' y4[i] (eh y4[i] 2 bs[i])).1,oL,oJ,d4,?_,ao,aG,ap,?_⟩ oJ
 have:=ad.write (n:=y4[i]) (l:=eh y4[i] 2 bs[i]) oJ (CL oM (R.2 _ (zW aa)).2)
 rw[Nat.add_assoc] at this;exact this;rw[he];show andThen (andThen (ed D' y4[i] (eh y4[i] 2 bs[i])) _) fQ=_;rw[show ∀f,andThen (ed D' y4[i] (eh y4[i] 2 bs[i])) f=f (ed D' y4[i] (eh y4[i] 2 bs[i])).1 from fun f=>if_pos C];have:i=y4.length:=(by have:=zB C;dsimp only at this;omega);subst this;have aI:(y4.zip bs).drop y4.length=[]:=vD (qn3 _ _);rw[aI] at he;have aJ:andThen (fu ((y4.zip bs).map fun x=>(x.1,eh x.1 2 x.2)) D) fQ=fQ D':=he;rw[aJ] at hk;refine qqt ai ad.ok fun F3 w3 d3 f3 n3=>?_;have I:∀b∈F',b∈FD\/w.heap.size<=b:=fun b u=>by rcases n2 b u with h|h;exact .inl h;exact .inr oJ
 exact hk F3 w3 d3 (f2.j8 f3 I) fun b u=>I b (n3 b u)
section
structure DS (dbk:Nat) (w:World) (FD:List Nat) (w':World) (F':List Nat) (D':dE) (k:Nat):Prop where
 at_:eK w' dbk F' D'
 lim:ls D' k
 fr:Fr FD w w'
 nw:∀ b∈F',b∈FD\/w.heap.size<=b
variable {dbk:Nat}
def DS.refl{w:World}{FD:List Nat}{D:dE}{k:Nat}(h:eK w dbk FD D)(u:ls D k):DS dbk w FD w FD D k:=⟨h,u,.refl _ _,fun b C=>.inl C⟩
def DS.trans{w2:World}{F2:List Nat}{E C:dE}{G k2:Nat}(h:DS dbk w FD w1 F1 E G)(g:DS dbk w1 F1 w2 F2 C k2):DS dbk w FD w2 F2 C k2:=
 ⟨g.at_,g.lim,h.fr.j8 g.fr h.nw,fun b I=>by rcases g.nw b I with u|u;exact h.nw b u;exact .inr (zL h.fr.size u)⟩
def DS.q7{w w1 w2:World}{FD F1:List Nat}{u:dE}{C:Nat}(h:DS dbk w FD w1 F1 u C)(f:Fr [] w1 w2):DS dbk w FD w2 F1 u C:=
 ⟨h.at_.q7 f,h.lim,h.fr.j8 f oL,h.nw⟩
def DS.hv{G:dE}{I:Nat}(h:DS dbk w FD w1 F1 G I)(u:Hv w)(C:HG∉FD):Hv w1/\HG∉F1:=
 ⟨u.q8 h.fr C,fun J=>by
  rcases h.nw _ J with E|E;exact C E
  have:=u.lt;omega⟩
def DS.rd{u:dE}{C:Nat}{s:Sl}(h:DS dbk w FD w1 F1 u C)(E:Rd FD w s l):Rd F1 w1 s l:=E.q8 h.fr h.nw
def DS.pK{u:dE}{C k2:Nat}(h:DS dbk w FD w1 F1 u C)(E:C<=k2):DS dbk w FD w1 F1 u k2:=⟨h.at_,h.lim.mono E,h.fr,h.nw⟩
def Bu{s:Sl}(h:DS dbk w FD w1 F1 D k)(E:k<1000000)(G:eE S w1 s l)(I:eB l)(J:∀w2 F2,DS dbk w FD w2 F2 (ed D n l).1 (k+1)->Fr F1 w1 w2->(∀b∈F2,b∈F1\/w1.heap.size<=b)->K (ed D n l).2 w2): cW 138 [dB dbk,.i n,s.v] df w1 K:=by exact qoP h.at_ h.lim.ok G fun F2 w2 R u C=>J w2 F2 (h.trans ⟨R,h.lim.write E I,u,C⟩) u C
def qqs(h:DS dbk w FD w1 F1 D k)(G:∀w2 F2,DS dbk w FD w2 F2 (fQ D).1 k->Fr F1 w1 w2->(∀b∈F2,b∈F1\/w1.heap.size<=b)->K (fQ D).2 w2): cW 139 [dB dbk] df w1 K:=by exact qqt h.at_ h.lim.ok fun F2 w2 I C E=>G w2 F2 (h.trans ⟨I,h.lim.sync,C,fun b u=>.inl (E b u)⟩) C (fun b u=>.inl (E b u))
def qqy(h:DS dbk w FD w1 F1 D k)(hk:k<1000000)(hv:Hv w1)(U:s.2.length=27)(hq:0<=s.1)(I:∀w2 F2,DS dbk w FD w2 F2 (ju D s).1 (k+1)->Fr F1 w1 w2->(∀b∈F2,b∈F1\/w1.heap.size<=b)->K (ju D s).2 w2): cW 143 [dB dbk,.agg (eN s.1 s.2).toArray] df w1 K:=by
 refine qqc<|oB (oE [] w1) fun r w2 e2 f2 J=>?_;have c0:(eN s.1 s.2).toArray[0]?=some (.int .u64 s.1):=rfl;refine oA J.drew 0 rfl s.1 c0<|uh (J.drew.at (i:=0) rfl) U<|qvp (hv.q7 J.drew.fr) U fun b T w3 c3 f3 n3=>?_;have u:=J.drew.q7 f3;refine ia (u.cell 0 rfl c0) ?_;have ht:=Int.tmod_eq_emod_of_nonneg (b:=2) hq;rw[gc (Int.tmod s.1 2) oJ];have C:(eh (wrap .u32 (Int.tmod s.1 2)) 1 (gi s.1 s.2)).length=512:=vr (by rw[xz U];decide);have V:eE [] w3 ⟨pW b,512,512⟩ (gx s).2:=by
  have:=uG (S:=[]) (o:=0) (n:=512) (cap:=512) c3 (by rw[C];exact zM _) (zM _) oL
  rw[xE,zS (Nat.le_of_eq C)] at this;exact this
 show cW 138 [dB dbk,.i (gx s).1,_] _ _ _;refine Bu (h.q7 u.fr) hk V (qu9 s) fun w4 F4 R f4 n4=>?_;have an:=u.fr.size;apply dR<;>intro E;have E:(ed D (gx s).1 (gx s).2).2≠0:=(oP E);have e:ju D s=ed D (gx s).1 (gx s).2:=if_neg E;rw[e] at I;exact I w4 F4 R ((u.fr.mono fun b G=>by cases G).trans f4) fun b G=>by rcases n4 b G with h|h;exact .inl h;exact .inr oJ
 have E:(ed D (gx s).1 (gx s).2).2=0:=(oP E);have e:ju D s=fQ (ed D (gx s).1 (gx s).2).1:=if_pos E;rw[e] at I;refine qqs R fun w5 F5 d5 f5 n5=>?_;have g4:DS dbk w1 F1 w4 F4 (ed D (gx s).1 (gx s).2).1 (k+1):=⟨R.at_,R.lim,(u.fr.mono (T:=F1) fun b G=>by cases G).trans f4,fun b G=>by rcases n4 b G with h|h;exact .inl h;exact .inr oJ⟩;have g5:=g4.trans ⟨d5.at_,d5.lim,f5,n5⟩;exact I w5 F5 d5 g5.fr g5.nw
def qmL{I:Sl}(h:DS dbk w FD w1 F1 D k)(u:k+y4.length<=1000000)(U:Hv w1)(V:HG∉F1)(hn:Rd F1 w1 sn numbers)(hp:Rd F1 w1 I y4)(C:numbers.length<=100000)(E:y4.length<=100000)(G:∀x∈y4,gy x)(kk:∀w2 F2,DS dbk w FD w2 F2 (eZ D numbers y4).1 (k+y4.length)->Fr F1 w1 w2->(∀b∈F2,b∈F1\/w1.heap.size<=b)->K (eZ D numbers y4).2 w2): cW 142 [dB dbk,sn.v,I.v] df w1 K:=by exact qtZ h.at_ h.lim u U V hn hp C E G fun F2 w2 d2 J R=>kk w2 F2 (h.trans ⟨d2,h.lim.spread u,J,R⟩) J R
def qiO(a:dE×Int)(f g:dE->dE×Int):andThen (andThen a f) g=andThen a fun D=>andThen (f D) g:=by unfold andThen;by_cases h:a.2=0;rw[if_pos h,if_pos h];rw[if_neg h,if_neg h,if_neg h]
def ym(h:a.2≠0):andThen a f=a:=if_neg h
def wV(h:a.2=0):andThen a f=f a.1:=if_pos h
def qug{a b c:Int}(w:World):(Instr.build 185 #[(0,.int .u64 1),(1,.u a),(2,.u b),(3,.u c)]).run prog w=.ok (.agg (eN 1 ([a,b,c]++zs 24)).toArray) w:=by obtain⟨z,E,h⟩:=yS.1 sL;have C:z.cells=(eN 0 (zs 27)).toArray:=(by rw[<- h]);refine Aq (parts:=[(0,.int .u64 1),(1,.u a),(2,.u b),(3,.u c)]) (offs:=#[(0,1),(1,1),(2,1),(3,1),(4,24)]) E oK (fun w=>oK) ?_ w;rw[C,qT (o:=0) (s:=1) rfl rfl (zO rfl),qT (o:=1) (s:=1) rfl rfl (zO rfl),qT (o:=2) (s:=1) rfl rfl (zO rfl),qT (o:=3) (s:=1) rfl rfl (zO rfl)];rfl
def qtX(h:eK w dbk FD D)(hl:ls D k)(hk:k<=900000)(h8:2<=D.Q6.length)(hv:Hv w)(hg:HG∉FD)(C:∀w' F',DS dbk w FD w' F' (lc D).1 (k+5000)->K (lc D).2 w'): cW 107 [dB dbk] df w K:=by
 refine qnA ?_;have am:=hl.ok.Q6;have h0:=DS.refl h hl;have G:(zs 512).length=512:=oT _;have U:∀ {S0:List Nat} {w0 w':World} {L:List (Nat×Obj)} {b:Nat} {T:TypeId},dM S0 w0 w' ((b,.cells (List.replicate (512:Int).toNat (Value.int .u8 0)).toArray T (0,0))::L)->eE [] w' ⟨pW b,(512:Int).toNat,(512:Int).toNat⟩ (zs 512):=fun ho=>by
  have E:=ho.at (i:=0) rfl;rw[qsa] at E
  have:=uG (S:=[]) (o:=0) (n:=512) (cap:=512) E (by rw[show (512:Int).toNat=512 from rfl,G];exact zM _) (zM _) oL
  rw[xE,zS (by rw[show (512:Int).toNat=512 from rfl,G];exact zM _)] at this;exact this
 refine AE fun X hX=>cond_true rfl<|dM.Fi (oE [] w) oM oM oM oM fun b1 w1 e1 V=>Bu (h0.q7 V.fr) oJ (U V) (eB.zs 512) fun w2 F2 d2 f2 n2=>?_;apply dR<;>intro u;have u:(ed D 0 (zs 512)).2≠0:=(oP u);have e:lc D=ed D 0 (zs 512):=ym u;rw[e] at C;exact C w2 F2 (d2.pK oJ);have ao:(ed D 0 (zs 512)).2=0:=(oP u);rw[lc,wV ao] at C;have ap:=Ga (D:=D) (n:=0) (l:=zs 512);generalize (ed D 0 (zs 512)).1=D2 at d2 C ap;rw[gc (0+1) oM];refine hX _ _ (qpr 1 rfl fun X hX=>?_);refine cond_true rfl<|dM.Fi (oE [] w2) oM oM oM oM fun b3 w3 e3 aa=>Bu (d2.q7 aa.fr) oJ (U aa) (eB.zs 512) fun w4 F4 d4 f4 n4=>?_;apply dR<;>intro u;have u:(ed D2 1 (zs 512)).2≠0:=(oP u);rw[ym u] at C;exact C w4 F4 (d4.pK oJ);have ar:(ed D2 1 (zs 512)).2=0:=(oP u);rw[wV ar] at C;have au:=Ga (D:=D2) (n:=1) (l:=zs 512);generalize (ed D2 1 (zs 512)).1=D4 at d4 C au;rw[gc (1+1) oM];refine hX _ _ (qpr 2 rfl fun X hX=>?_);refine cond_false rfl<|qqs d4 fun w5 F5 d5 f5 n5=>?_;apply dR<;>intro u;have u:(fQ D4).2≠0:=(oP u);rw[ym u] at C;exact C w5 F5 (d5.pK oJ);have ax:(fQ D4).2=0:=(oP u);rw[wV ax] at C;have ay:=qpS (D:=D4);generalize (fQ D4).1=D5 at d5 C ay;have az:D5.Q6.length=D.Q6.length:=oJ;have al:=wQ D.Q6.length;obtain⟨aA,aB⟩:=d5.hv hv hg;refine iV (fun x w'=>∃(i:Nat) (B:List Nat),x.2=((i+2:Nat):Int)/\i<=D.Q6.length-2/\kQ w' x.1 ((fj D.Q6.length).take i) B/\Fr [] w5 w'/\∀b∈B,w5.heap.size<=b) (fun x _=>((D.Q6.length:Int)-x.2).toNat)
  ⟨0,[],rfl,oJ,.nil _ _ _,.refl _ _,oL⟩ ?_
 rintro⟨s,x⟩ w6 ⟨i,B,hx,hi,E,f6,n6⟩ Y hY;simp only at hx E;subst hx;have d6:=d5.q7 f6;refine DW d6.at_ ?_;dsimp only;apply dR<;>intro u;have aD:i<D.Q6.length-2:=(by have:=zC u;omega);rw[nD ((i+2:Nat):Int) oJ];refine DC E (by rw[yK];omega) fun s7 B7 w7 b7 f7 n7=>?_;rw[gc _ oJ];refine hY _ _ ⟨i+1,B7,by simp;omega,oJ,?_,f6.j8 f7 (fun b E=>.inr (n6 b E)),fun b E=>?_⟩ oN;have e:(fj D.Q6.length).take (i+1)=(fj D.Q6.length).take i++[((i+2:Nat):Int)]:=by rw[yF oJ];congr 2;have h1:=qsZ aD;have h2:=zA (l:=fj D.Q6.length) (i:=i) oJ;rw[h2] at h1;rw[yN h1];simp
 rw[e];exact b7;rcases n7 b E with h|h;exact n6 b h;exact zL f6.size h;have aE:i=D.Q6.length-2:=(by have:=zB u;omega);subst aE;rw[zS oJ] at E;have aF:=E.len;rw[aF];refine qqu oJ ?_;have ad:=DN (n:=(fj D.Q6.length).length);have ae:∀b∈B,b∉F5:=fun b E hm=>by have:=n6 b E;have:=d5.at_.lt b hm;omega
 have I:Rd F5 w6.drew s (fj D.Q6.length):=(E.q7 (Fr.refl [] w6).drew).jq qy ae;refine dW.part (k:=1) I (eC (fj D.Q6.length).length) (fj D.Q6.length).length rfl (by show (s.len:Int)=_;omega) ad (zM _) fun sn a4 rn _=>dW.part (k:=1) I 0 (eC (fj D.Q6.length).length) rfl rfl oJ ad fun sp a5 rp _=>?_;rw[xY] at rn;rw[xE] at rp;have aG:=d6.q7 (Fr.refl [] w6).drew;have aH:=(aA.q7 f6).q7 (Fr.refl [] w6).drew;rw[az] at C;refine qmL aG (by rw[yK];omega) aH aB rn rp (by rw[yB];omega) (by rw[yK];omega) (fun x hx=>by
  have:=xa.1 (yU hx)
  constructor<;>omega) fun w7 F7 J f7 n7=>?_
 have J:=J.pK (k2:=k+2+4096) (by rw[yK];omega);apply dR<;>intro u;have u:(eZ D5 ((fj D.Q6.length).drop (eC (fj D.Q6.length).length)) ((fj D.Q6.length).take (eC (fj D.Q6.length).length))).2≠0:=(oP u);rw[ym u] at C;exact C w7 F7 (J.pK oJ);have aI:(eZ D5 ((fj D.Q6.length).drop (eC (fj D.Q6.length).length)) ((fj D.Q6.length).take (eC (fj D.Q6.length).length))).2=0:=(oP u);rw[wV aI] at C;have aJ:=qsM (D:=D5) (a:=(fj D.Q6.length).drop (eC (fj D.Q6.length).length)) (b:=(fj D.Q6.length).take (eC (fj D.Q6.length).length));generalize (eZ D5 ((fj D.Q6.length).drop (eC (fj D.Q6.length).length)) ((fj D.Q6.length).take (eC (fj D.Q6.length).length))).1=D7 at J C aJ;have aK:D7.Q6.length=D.Q6.length:=oJ;refine DW J.at_ ?_;rw[aK] at C⊢;have R:wrap .i64 (((fj D.Q6.length).length:Int)-(eC (fj D.Q6.length).length:Int))=((fj D.Q6.length).length:Int)-(eC (fj D.Q6.length).length:Int):=gc _ oJ;rw[R];exact qJ (ts:=[gO.kN]) (eN (jZ D.Q6.length).1 (jZ D.Q6.length).2) (qug w7)<|qqy (s:=jZ D.Q6.length) J oJ (J.hv hv hg).1 rfl (by show (0:Int)<=1;decide) fun w8 F8 d8 f8 n8=>C w8 F8 (d8.pK oJ)
end
section
structure dU.Wf (M:dU):Prop where
 n4:M.j9.2.getD 0 0<=4096
 u32:∀ x∈M.j9.2,gy x
 Q2:∀ x∈M.Q2,gy x
 cL:M.Q9.Pairwise (· < ·)
 Q9:∀ x∈M.Q9,2<=x/\x<M.j9.2.getD 0 0
 cS:M.Q1.Pairwise (· < ·)
 qd:M.J7.Pairwise (· < ·)
 nodup:(M.Q1++(M.J7++(M.Q5++M.J8.map (·.1)))).Nodup
 range:∀ x∈M.Q1++(M.J7++(M.Q5++M.J8.map (·.1))),2<=x/\x<M.j9.2.getD 0 0
 body:∀ e∈M.J8,(0<=e.2.1/\e.2.1<256)/\e.2.2.length<=500/\eB e.2.2
def qz6(u:l.Nodup)(h:∀x∈l,2<=x/\x<n)(C:n<=4096):l.length<=4096:=by rcases Cl u h with h|h;omega;rw[h];simp
def dU.Wf.all(M:dU)(h:M.Wf):M.Q1.length+M.J7.length+M.Q5.length+M.J8.length<=4096:=by
 have:=qz6 h.nodup h.range h.n4
 simp only[zF,zK] at this;omega
section
variable {w:World} {X:List Nat} {pb:Nat} {db:Option Addr} {F:List Nat} {M:dU}
def dW.td{α:Type}{enc:α->List Value}{w:World}{s:Sl}{l:List α}(h:dW enc k S w s l){hi:Int}(b:Nat){K:Sl->Prop}(C:hi=b)(hb:b<=l.length)(J:∀I,dW enc k S w I (l.take b)->K I):fB s none (some hi) (some hi) k K:=by
 subst C;obtain⟨h1,h2,E⟩:=h;unfold fB;refine⟨by simp;omega,J _ ?_⟩;simp only[xV,xU,Int.toNat_zero,zJ,Nat.zero_mul,Nat.sub_zero];have e:(if b=0 then s.a else s.a.map (·.add 0))=s.a:=by
  split;rfl;cases s.a with
  | none=>rfl
  | some a=>simp[DK]
 rw[e];refine⟨by rw[yK];dsimp only;omega,zM _,?_⟩;rcases E with E|⟨R,o,U,T,V,ha,G,hS,hc⟩;left;rw[E];simp;refine .inr ⟨R,o,U,T,V,ha,G,hS,fun i x u=>?_⟩;rw[xA] at u;split at u;exact hc i x u;cases u
def en.nQ{w:World}{X:List Nat}{pb:Nat}{db:Option Addr}{F:List Nat}{M:dU}(h:en w X pb db F M):∀b∈X,b<w.heap.size:=by obtain⟨fb,defb,mb,sl,sn,C,F2,E,rfl,u⟩:=h;exact u.nQ
def qwZ{K:Sl×Sl×Bool->WP}(h:en w X pb db F M)(hW:M.Wf)(ao:jm M=none->∀w',Fr [] w w'->K (dC,dC,false) w')(hk:∀sp sn y4 Q9 w',jm M=some (y4,Q9)->Fr [] w w'->(∀G:List Nat,(∀b∈G,b<w.heap.size)->Rd G w' sp y4/\Rd G w' sn Q9)->K (sp,sn,true) w'): cW 113 [dB pb] dz w K:=by
 have aD:=dU.Wf.all M hW;obtain⟨fb,defb,mb,sl,sn,F1,F2,fs,rfl,E⟩:=h;refine qjj<|fq (iG E.cell (pW fb) (wX E.Q8) ?_);refine qsU E.Q1 oJ fun I w1 t1 f1=>?_;obtain⟨B1,b1,n1⟩:=qr3 t1;have ae:Fr [] w w1.drew:=f1.drew;have J:=E.q7 ae;refine fq (iG (w:=w1.drew) (c:=.ptr) J.cell (pW defb) (Bs E.Q8) ?_);refine fq (iG (w:=w1.drew) (c:=.slice) J.cell sl (Dl E.Q8) ?_);refine qsU J.J7 oJ fun s2 w2 t2 f2=>?_;obtain⟨B2,b2,n2⟩:=qr3 t2;have af:=ae.trans f2;have ag:=E.q7 af;refine ia (by show _=_;rw[je ag.cell];exact Dl E.Q8)<|Cc b2 ag.rows.Q5 oJ fun s3 B3 w3 b3 f3 n3=>?_;have R:∀b∈B1,b<w1.drew.heap.size:=fun b u=>(b1.q7 (Fr.refl [] w1).drew).lt b u;have au:=(b1.q7 (Fr.refl [] w1).drew).q7 f2;have U:kQ w3 I M.Q1 B1:=au.q8 f3 (fun b u C=>by have:=R b u;have:=n2 b C;omega);have aV:w.heap.size<=w1.heap.size:=f1.size;have aW:=f2.size;have aX:w1.drew.heap.size=w1.heap.size:=rfl;have V:∀b∈B3,w1.drew.heap.size<=b:=fun b u=>by rcases n3 b u with h|h;exact n2 b h;omega
 have ah:Fr [] w w3:=af.j8 f3 fun b u=>.inr (by have:=n2 b u;omega);have l1:=U.len;have l3:=b3.len;rw[zF] at l3;rw[gc _ oJ];have e:(I.len:Int)+(s3.len:Int)=((M.Q1.length+(M.J7++M.Q5).length:Nat):Int):=(by rw[zF];omega);rw[e];refine qqu (by rw[zF];omega) ?_;generalize ai:eC (M.Q1.length+(M.J7++M.Q5).length)=k;apply cD<;>intro hc
 have:=hc
 exact ao (by rw[jm,ai,iP]) w3 ah;have aj:k<=M.Q1.length:=oJ;have aa:jm M=some (M.Q1.take k,gu ((M.J7++M.Q5)++M.Q1.drop k)):=(by rw[jm,ai,iN]);have ab:Rd [] w3 I M.Q1:=U.jq qy oL;refine dW.part (k:=1) ab k M.Q1.length rfl (by show (I.len:Int)=_;omega) aj (zM _) fun s4 aZ r4 _=>?_;rw[xY] at r4;refine Cc b3 r4 (by rw[zF,yB];omega) fun s5 B5 w5 b5 f5 n5=>?_;have ac:∀b∈B5,w1.drew.heap.size<=b/\b∉B1:=fun b u=>by
  have hh:w1.drew.heap.size<=b:=by
   rcases n5 b u with h|h;exact V b h
   have:=f3.size;omega
  exact⟨hh,fun C=>by have:=R b C;omega⟩
 have aw:kQ w5 I M.Q1 B1:=U.q8 f5 (fun b u C=>by have:=R b u;have:=V b C;omega);refine qqF b5 (by rw[zF,zF,yB];omega) fun l6 w6 b6 p6 o6 f6=>?_;have ax:kQ w6 I M.Q1 B1:=aw.q8 f6 (fun b u C=>(ac b C).2 u);have ay:((M.J7++M.Q5)++M.Q1.drop k).Nodup:=by
  have h:=hW.nodup;have hp:(M.Q1++(M.J7++(M.Q5++M.J8.map (·.1)))).Perm (((M.J7++M.Q5)++M.Q1)++M.J8.map (·.1)):=by rw[<- zV M.J7,<- zV M.Q1];exact perm_append_comm.append_right _
  have h2:=(hp.nodup_iff.1 h).sublist (sublist_append_left _ _);exact h2.sublist ((List.Sublist.refl _).append (drop_sublist _ _))
 have az:l6=gu ((M.J7++M.Q5)++M.Q1.drop k):=Dk p6 o6 ay;rw[az] at b6;have aA:Fr [] w w6:=(ah.j8 f5 fun b u=>.inr (by have:=V b u;omega)).j8 f6 fun b u=>.inr (by have:=(ac b u).1;omega);have al:∀G:List Nat,(∀b∈G,b<w.heap.size)->Rd G w6 I M.Q1/\Rd G w6 s5 (gu ((M.J7++M.Q5)++M.Q1.drop k)):=fun G hG=>
  ⟨ax.jq qy fun b u C=>by have:=hG b C;have:=n1 b u;omega,b6.jq qy fun b u C=>by have:=hG b C;have:=(ac b u).1;omega⟩
 exact dW.td (al (List.range w.heap.size) oL).1 k rfl aj fun s7 r7=>hk s7 s5 _ _ w6 aa aA fun G hG=>⟨r7.j6 fun b u=>.inl (mem_range.2 (hG b u)),(al G hG).2⟩
end
def qrm{mb:Nat}{C:List (Int×kK)}{K:Int×Sl->Prop}(h:ko jd w mb (C.map fun e=>(e.1,kT e.2)))(G:∀q,look n C=some q->K (q.2.1,q.2.2.1))(I:look n C≠none): fc [gO.agg [Cell.int .u8,Cell.slice]] (fun w'=>(Instr.lookup AW (.map (some mb)) (.u n) false).run prog w') w K:=by
 have:=Ch (P:=prog) wu qzG tQ h n
 rw[wh,u9] at this;cases E:look n C with
 | none=>exact absurd E I
 | some q=>
  rw[E] at this;exact qJ (ts:=[gO.agg [Cell.int .u8,Cell.slice]]) (q.2.1,q.2.2.1) this (G q E)
def qvf{sp:Sl}(h:DS dbk w FD w1 F1 D k)(hp:en w1 F1 pb (pW dbk) F M)(af:∀e∈M.J8,(0<=e.2.1/\e.2.1<256)/\e.2.2.length<=500/\eB e.2.2)(aF:(M.J8.map (·.1)).Nodup)(aG:∀x∈M.J8.map (·.1),gy x)(aH:M.J8.length<=100000)(bj:k+M.J8.length+y4.length+1<=1000000)(hv:Hv w1)(hg:HG∉F1)(hn:Rd F1 w1 sn Q9)(aJ:Rd F1 w1 sp y4)(aK:Q9.length<=100000)(aL:y4.length<=100000)(aM:∀x∈y4,gy x)(hs:next.2.length=27)(hq:0<=next.1)(kk:∀w2 F2,DS dbk w FD w2 F2 (gz D M.J8 y4 Q9 next).1 (k+M.J8.length+y4.length+1)->Fr F1 w1 w2->(∀b∈F2,b∈F1\/w1.heap.size<=b)->K (gz D M.J8 y4 Q9 next).2 w2): cW 114 [dB pb,sp.v,sn.v,.agg (eN next.1 next.2).toArray] df w1 K:=by
 refine qiv<|oB (oE [] w1) fun r w2 e2 f2 ho=>qvg (hp.q7 f2) aH fun s3 B3 C w3 b3 p3 o3 f3 n3=>?_;have aP:C=gu (M.J8.map (·.1)):=Dk p3 o3 aF;have aQ:C.length=M.J8.length:=(by have:=p3.length_eq;rw[zK] at this;exact this);have ag:∀x∈C,x∈M.J8.map (·.1):=fun x U=>p3.mem_iff.1 U;have E:Fr [] w1 w3:=f2.trans f3;have hW:kj M.J8=C.map fun n=>(n,eh n (jJ M.J8 n).1 (jJ M.J8 n).2):=(by rw[kj,<- aP]);have aR:=ho.q7 f3;have bq:=b3.len;have bb:=f2.size;have ax:∀b∈F1,b<w1.heap.size:=h.at_.lt;have r3:Rd F1 w3 s3 C:=b3.jq qy fun b hb hm=>by have:=n3 b hb;have:=ax b hm;omega
 have ad:w3.heap[r]?=some (.cells (eN next.1 next.2).toArray 185 (0,0)):=aR.at (i:=0) rfl;have hr:r∉F1:=fun hm=>by have:=ax r hm;omega
 rw[gz,hW] at kk;refine iV (fun x w'=>∃(i:Nat) (F':List Nat) (D':dE),x=i/\i<=C.length/\DS dbk w3 F1 w' F' D' (k+i)/\
   andThen (fu (C.map fun n=>(n,eh n (jJ M.J8 n).1 (jJ M.J8 n).2)) D) (fun D=>andThen (eZ D Q9 y4) fun D=>ju D next) =
    andThen (fu ((C.drop i).map fun n=>(n,eh n (jJ M.J8 n).1 (jJ M.J8 n).2)) D') (fun D=>andThen (eZ D Q9 y4) fun D=>ju D next)) (fun x _=>((C.length:Int)-x).toNat)
  ⟨0,F1,D,rfl,oJ,DS.refl (h.at_.q7 E) h.lim,rfl⟩ ?_
 rintro x w4 ⟨i,F',D',rfl,hi,V,he⟩ Y hY;have aj:en w4 F' pb (pW dbk) F M:=(hp.q7 E).og V.fr V.at_.lt V.nw;have ak:=V.hv (hv.q7 E) hg;have I:∀ {G:World} {F5:List Nat} {D5:dE} {k5:Nat},DS dbk w3 F1 G F5 D5 k5->DS dbk w FD G F5 D5 k5/\Fr F1 w1 G/\∀b∈F5,b∈F1\/w1.heap.size<=b:=fun d5=>by have g:DS dbk w1 F1 _ _ _ _:=(DS.refl h.at_ h.lim).q7 E |>.trans d5;exact⟨h.trans g,g.fr,g.nw⟩
 apply dR<;>intro u;have am:i<C.length:=(by have:=zC u;omega);refine Rd.at (V.rd r3) i rfl (zA am) ?_;have an:=ag _ (zW am);have aT:=aG _ an;have J:C.drop i=C[i]::C.drop (i+1):=zX am;generalize C[i]=x at an aT J;obtain⟨fb,defb,mb,sl,sm,G1,G2,fs,rfl,U⟩:=aj;have R:=U.q7 (Fr.refl [] w4).drew;have aa:=U.cJ x;have ay:look x fs≠none:=fun hn=>by rw[hn] at aa;exact tD.1 aa an
 refine fq (iG (w:=w4.drew) (c:=.map) R.cell (some mb) (rK U.Q8) ?_);refine qrm R.map.at (fun q ao=>?_) ay;refine fq (iG (w:=w4.drew) (c:=.map) R.cell (some mb) (rK U.Q8) ?_);refine qrm R.map.at (fun q' az=>?_) ay;rw[ao] at az;cases az;rw[ao] at aa;have aV:jJ M.J8 x=(q.2.1,q.2.2.2):=(by rw[jJ,aa];rfl);have hm:=(si ao).2;have ae:=R.rows.y7 _ hm;have ab:=af (x,q.2.1,q.2.2.2) (by rw[U.J8];exact mem_map.2 ⟨_,hm,rfl⟩);dsimp only at ae ab;refine Dz ae (ak.1.q7 (Fr.refl [] w4).drew) oJ (fun h=>oJ) fun _ b5 T5 G c5 f5 n5=>?_;have aA:Fr [] w4 G:=(Fr.refl [] w4).drew.trans f5;have ap:=U.q7 aA;refine fq (iG ap.cell (pW dbk) Cr ?_);rw[gc x oJ];have aB:=vr (number:=x) (kind:=q.2.1) ab.2.1;have aX:eE [] G ⟨pW b5,512,512⟩ (eh x q.2.1 q.2.2.2):=by
  have:=uG (S:=[]) (o:=0) (n:=512) (cap:=512) c5 (by rw[aB];exact zM _) (zM _) oL
  rw[xE,zS (Nat.le_of_eq aB)] at this;exact this
 rw[J,xN,aV] at he;refine Bu (V.q7 aA) oJ aX (CL ab.1 ab.2.2) fun w6 F6 d6 f6 n6=>?_;apply dR<;>intro u;have u:(ed D' x (eh x q.2.1 q.2.2.2)).2≠0:=(oP u);rw[fu,qiO,ym u] at he;rw[he] at kk;have a6:=I d6;exact kk w6 F6 (a6.1.pK oJ) a6.2.1 a6.2.2;have u:(ed D' x (eh x q.2.1 q.2.2.2)).2=0:=(oP u);rw[fu,qiO,wV u] at he;rw[gc _ oJ];exact hY _ _ ⟨i+1,F6,_,oL,oJ,d6,he⟩ oJ
 ·have:i=C.length:=(by have:=zB u;omega);subst this;rw[drop_length,map_nil,fu,andThen_ok] at he;rw[he] at kk;obtain⟨fb,defb,mb,sl,sm,G1,G2,fs,hF,U⟩:=id aj;refine fq (iG U.cell (pW dbk) Cr ?_);have aZ:=V.rd (hn.q7 E);have aC:=V.rd (aJ.q7 E);refine qmL V oJ ak.1 ak.2 aZ aC aK aL aM fun G F5 d5 f5 n5=>?_;apply dR<;>intro u;have u:(eZ D' Q9 y4).2≠0:=(oP u);rw[ym u] at kk;have a5:=I d5;exact kk G F5 (a5.1.pK oJ) a5.2.1 a5.2.2
  ·have u:(eZ D' Q9 y4).2=0:=(oP u);rw[wV u] at kk;have a1:en G F5 pb (pW dbk) F M:=aj.og f5 d5.at_.lt n5;obtain⟨fb,defb,mb,sl,sm,G1,G2,fs,hF,ap⟩:=id a1;have a2:=ap.q7 (Fr.refl [] G).drew;refine fq (iG (w:=G.drew) (c:=.ptr) a2.cell (pW dbk) Cr ?_);have ar:G.drew.heap[r]?=some (.cells (eN next.1 next.2).toArray 185 (0,0)):=(by show G.heap[r]?=_;rw[d5.fr.block r (eT ad) hr];exact ad);refine uh ar hs<|qqy (d5.q7 (Fr.refl [] G).drew) oJ ((d5.hv (hv.q7 E) hg).1.q7 (Fr.refl [] G).drew) hs hq fun w6 F6 d6 f6 n6=>?_;have a6:=I d6;exact kk w6 F6 (a6.1.pK oJ) a6.2.1 a6.2.2
end
def tM (D:dE):Prop:=∀x∈D.Q7,0<=x.1/\x.1<D.Q6.length
def qoR(h:(gK D).2=false)(u:D.down=false):(gK D).1.down=false:=by unfold gK at h⊢;split;rename_i C;rw[if_pos C] at h;cases h;split<;>exact u
def qlY(U:tM D)(h:(ed D n l).2=0): (ed D n l).1.down=false/\tM (ed D n l).1/\(0<=n/\n<D.size)/\∀m,view (ed D n l).1 m=if m=n then l else view D m:=by
 unfold ed at h⊢;split;rename_i G;rw[if_pos G] at h;cases h;rename_i G;rw[if_neg G] at h;split;rename_i J;rw[if_pos J] at h;cases h;rename_i J;rw[if_neg J] at h;split;rename_i u;rw[dif_pos u] at h;have E:(gK (lh D n ⟨l,u⟩)).2=false:=by
  cases V:(gK (lh D n ⟨l,u⟩)).2 with
  | false=>rfl
  | true=>simp only[V,if_true] at h;cases h
 have I:=wE (lh D n ⟨l,u⟩);have R:0<=n/\n<(D.Q6.length:Int):=oJ;refine⟨qoR E (show D.down=false by simpa using G),fun x C=>?_,R,fun m=>?_⟩;show 0<=x.1/\x.1<((gK (lh D n ⟨l,u⟩)).1.Q6.length:Int);rw[I.1];have C:x∈(gK (lh D n ⟨l,u⟩)).1.Q7:=C;rw[I.2] at C;rcases zD.1 C with C|C;exact U x C;simp at C;subst C;exact R;show view (gK (lh D n ⟨l,u⟩)).1 m=_;rw[view,I.1,I.2,lh];dsimp only;rw[EQ];by_cases hm:m=n;rw[if_pos hm,if_pos hm.symm];rw[if_neg hm,if_neg (fun e=>hm e.symm),view];rename_i u;rw[dif_neg u] at h;cases h
def qnW(G:tM D)(h:(fQ D).2=0):(fQ D).1.down=false/\(fQ D).1.Q7=[]/\∀m,0<=m->view (fQ D).1 m=view D m:=by unfold fQ at h⊢;split;rename_i C;rw[if_pos C] at h;cases h;rename_i C;rw[if_neg C] at h;split;rename_i E;rw[if_pos E] at h;cases h;rename_i E;have u:(gK D).2=false:=(oP E);refine⟨qoR u (oP C),rfl,fun m I=>?_⟩;obtain⟨k,rfl⟩:∃k:Nat,m=k:=⟨m.toNat,oJ⟩;show ((D.Q7.foldl fR D.Q6).getD (k:Int).toNat .zero).1=_;rw[zJ,Gu k _ _ G,view,zJ];cases iw (k:Int) D.Q7<;>rfl
def qs4(h:D.Q7=[]):tM D:=fun x u=>by rw[h] at u;cases u
def Ad(h:(andThen r f).2=0):r.2=0/\(f r.1).2=0/\andThen r f=f r.1:=by unfold andThen at h⊢;by_cases h0:r.2=0;rw[if_pos h0] at h⊢;exact⟨h0,h,rfl⟩;rw[if_neg h0] at h;exact absurd h h0
def Ez:∀ {l:List (Int×List Int)} {D:dE},tM D->D.down=false->(fu l D).2=0->(l.map (·.1)).Nodup-> (fu l D).1.down=false/\tM (fu l D).1/\(∀x∈l,view (fu l D).1 x.1=x.2)/\∀m,m∉l.map (·.1)->view (fu l D).1 m=view D m
 | [],D,C,I,_,_=>⟨I,C,(fun x u=>by cases u),fun m _=>rfl⟩
 | y::l,D,C,I,h,E=>by obtain⟨R,U,V⟩:=Ad (show (andThen (ed D y.1 y.2) (fu l)).2=0 from h);obtain⟨d1,a1,_,J⟩:=qlY C R;rw[xN,nodup_cons] at E;obtain⟨d2,a2,v2,u2⟩:=Ez (l:=l) a1 d1 U E.2;rw[show fu (y::l) D=fu l (ed D y.1 y.2).1 from V];refine⟨d2,a2,fun x u=>?_,fun m G=>?_⟩;rcases zG.1 u with rfl|u;rw[u2 _ E.1,J,if_pos rfl];exact v2 x u;rw[xN,zG,not_or] at G;rw[u2 m G.2,J,if_neg G.1]
def qrX(U:tM D)(V:D.down=false)(C:lf n numbers y4)(h:(eZ D numbers y4).2=0): (eZ D numbers y4).1.down=false/\(eZ D numbers y4).1.Q7=[]/\oo (eZ D numbers y4).1 numbers y4/\∀m,0<=m->m∉y4->view (eZ D numbers y4).1 m=view D m:=by have I:((y4.zip (gf numbers y4 y4.length)).map fun x=>(x.1,eh x.1 2 x.2)).map (·.1)=y4:=(by rw[map_map];exact ED (by rw[FV]));have e:eZ D numbers y4=andThen (fu ((y4.zip (gf numbers y4 y4.length)).map fun x=>(x.1,eh x.1 2 x.2)) D) fQ:=(by rw[eZ,C.y7];exact if_neg oL);rw[e] at h;obtain⟨h1,h2,h3⟩:=Ad h;obtain⟨d1,a1,v1,J⟩:=Ez U V h1 (by rw[I];exact C.nodup);rw[I] at J;obtain⟨d2,w2,R⟩:=qnW a1 h2;rw[e,h3];refine⟨d2,w2,fun i p E=>?_,fun m hm G=>by rw[R m hm,J m G]⟩;have hi:=(zP.1 E).1;have u:(p,eh p 2 (iA (y4.getD (i+1) 0) (chunk numbers i)))∈(y4.zip (gf numbers y4 y4.length)).map fun x=>(x.1,eh x.1 2 x.2):=(by refine mem_map.2 ⟨(p,iA (y4.getD (i+1) 0) (chunk numbers i)),?_,rfl⟩;refine yE (i:=i) ?_;rw[List.getElem?_zip_eq_some];exact⟨E,by rw[Dn,if_pos hi]⟩);have ai:=C.qL _ (yE E);rw[R p oJ];exact v1 _ u
def qu3(I:tM D)(J:kH s)(h:(ju D s).2=0): (ju D s).1.down=false/\(ju D s).1.Q7=[]/\view (ju D s).1 (s.1%2)=eh (s.1%2) 1 (gi s.1 s.2)/\∀m,0<=m->m≠s.1%2->view (ju D s).1 m=view D m:=by obtain⟨R,U,V⟩:=Ad (show (andThen (ed D (gx s).1 (gx s).2) fQ).2=0 from h);obtain⟨d1,a1,_,u⟩:=qlY I R;obtain⟨G,w2,C⟩:=qnW a1 U;rw[show ju D s=fQ (ed D (gx s).1 (gx s).2).1 from V];rw[J.gx] at u C G w2⊢;refine⟨G,w2,by rw[C _ oJ,u,if_pos rfl],fun m hm E=>by rw[C m hm,u,if_neg E]⟩
def CD(h:jm M=some (y4,Q9)): ∃k,k=eC (M.Q1.length+(M.J7++M.Q5).length)/\k<=M.Q1.length/\y4=M.Q1.take k/\Q9=gu ((M.J7++M.Q5)++M.Q1.drop k):=by unfold jm at h;split at h;cases h;rename_i C;have u:=yN h;exact⟨_,rfl,oJ,(congrArg Prod.fst u).symm,(congrArg Prod.snd u).symm⟩
def dU.Wf.pi(h:M.Wf)(k:Nat):(M.Q1.take k++((M.J7++M.Q5)++M.Q1.drop k)).Nodup:=by
 have u:(M.Q1++(M.J7++(M.Q5++M.J8.map (·.1)))).Perm ((M.Q1.take k++((M.J7++M.Q5)++M.Q1.drop k))++M.J8.map (·.1)):=by
  conv=>lhs;lhs;rw[<- xD k M.Q1]
  rw[<- zV M.J7];have:(M.Q1.drop k++((M.J7++M.Q5)++M.J8.map (·.1))).Perm (((M.J7++M.Q5)++M.Q1.drop k)++M.J8.map (·.1)):=by rw[<- zV];exact perm_append_comm.append_right _
  rw[zV,zV (M.Q1.take k)];exact this.append_left _
 exact (u.nodup_iff.1 h.nodup).sublist (sublist_append_left _ _)
def BC(E:M.Wf)(h:jm M=some (y4,Q9)):lf (M.j9.2.getD 0 0) Q9 y4:=by obtain⟨k,I,G,rfl,rfl⟩:=CD h;have C:=E.pi k;rw[yL] at C;have J:∀x∈(M.J7++M.Q5)++M.Q1.drop k,2<=x/\x<M.j9.2.getD 0 0:=fun x u=>E.range x (by simp only[zD] at u⊢;rcases u with (u|u)|u;exact .inr (.inl u);exact .inr (.inr (.inl u));exact .inl (yT u));refine⟨AQ _,fun x u=>J x (vH.1 u),fun x u=>E.range x (zH _ (yU u)),C.1,fun x u R=>C.2.2 x u x (vH.1 R) rfl,?_⟩;have U:=(DE C.2.1).length_eq;have V:=FP (n:=M.Q1.length+(M.J7++M.Q5).length);rw[<- I] at V;rw[U,zF,yB,yK,xQ G];omega
def qnE(R:M.Wf)(h:jm M=some (y4,Q9)):∀x∈M.J8.map (·.1),x∉y4/\x∉Q9:=by obtain⟨k,hk,U,rfl,rfl⟩:=CD h;intro x E;have C:=R.nodup;rw[yL] at C;have G:=C.2.1;rw[yL] at G;have I:=G.2.1;rw[yL] at I;have J:x∉M.Q1:=fun u=>C.2.2 x u x (zI _ (zI _ E)) rfl;have V:x∉M.J7:=fun u=>G.2.2 x u x (zI _ E) rfl;have a3:x∉M.Q5:=fun u=>I.2.2 x u x E rfl;refine⟨fun u=>J (yU u),fun u=>?_⟩;have u:=vH.1 u;simp only[zD] at u;rcases u with (u|u)|u;exact V u;exact a3 u;exact J (yT u)
def FW(J8:List (Int×Int×List Int)):(kj J8).map (·.1)=gu (J8.map (·.1)):=by rw[kj,map_map];exact map_id _
def CH{β:Type}:∀ {l:List (Int×β)} {e:Int×β},(l.map (·.1)).Nodup->e∈l->∃i,look e.1 l=some (i,e.2)
 | p::r,e,C,u=>by rw[xN,nodup_cons] at C;simp only[look];rcases zG.1 u with rfl|u;exact⟨0,by rw[if_pos rfl]⟩;have E:e.1≠p.1:=fun h=>C.1 (h▸zY u);obtain⟨i,G⟩:=CH C.2 u;exact⟨i+1,by rw[if_neg E,G];rfl⟩
def qur{J8:List (Int×Int×List Int)}(u:(J8.map (·.1)).Nodup){e:Int×Int×List Int}(h:e∈J8):(e.1,eh e.1 e.2.1 e.2.2)∈kj J8:=by refine mem_map.2 ⟨e.1,vH.2 (zY h),?_⟩;obtain⟨i,C⟩:=CH u h;rw[jJ,C]
structure tP (D D':dE) (M:dU) (y4 Q9:List Int) (next:m7):Prop where
 down:D'.down=false
 Q7:D'.Q7=[]
 listed:oo D' Q9 y4
 Gx:view D' (next.1%2)=eh (next.1%2) 1 (gi next.1 next.2)
 J8:∀ e∈M.J8,view D' e.1=eh e.1 e.2.1 e.2.2
 rest:∀ m,0<=m->m∉M.J8.map (·.1)->m∉y4->m≠next.1%2->view D' m=view D m
def dU.Wf.y8(h:M.Wf):(M.J8.map (·.1)).Nodup:=h.nodup.sublist (((sublist_append_right _ _).trans (sublist_append_right _ _)).trans (sublist_append_right _ _))
def dU.Wf.J6(h:M.Wf):∀x∈M.J8.map (·.1),2<=x/\x<M.j9.2.getD 0 0:=fun x u=>h.range x (zI _ (zI _ (zI _ u)))
def qsu(ha:tM D)(hd:D.down=false)(G:M.Wf)(u:jm M=some (y4,Q9))(hs:kH next)(h:(gz D M.J8 y4 Q9 next).2=0): tP D (gz D M.J8 y4 Q9 next).1 M y4 Q9 next:=by
 obtain⟨h1,h2,h3⟩:=Ad (show (andThen (fu (kj M.J8) D) fun D=>andThen (eZ D Q9 y4) fun D=>ju D next).2=0 from h);obtain⟨h4,h5,h6⟩:=Ad h2;have I:((kj M.J8).map (·.1)).Nodup:=(by rw[FW];exact vG (AQ _));obtain⟨d1,a1,v1,u1⟩:=Ez ha hd h1 I;have C:=BC G u;obtain⟨d2,w2,l2,U⟩:=qrX a1 d1 C h4;obtain⟨d3,w3,p3,J⟩:=qu3 (qs4 w2) hs h5;have e:gz D M.J8 y4 Q9 next=ju (eZ (fu (kj M.J8) D).1 Q9 y4).1 next:=h3.trans h6
 rw[e];have au:next.1%2=0\/next.1%2=1:=by omega
 refine⟨d3,w3,fun i p V=>?_,p3,fun x R=>?_,fun m hm h7 h8 h9=>?_⟩
 have:=C.qL p (yE V)
 rw[J p oJ oJ];exact l2 i p V;have hk:=G.J6 x.1 (zY R);have hf:=qnE G u x.1 (zY R);rw[J _ oJ oJ,U _ oJ hf.1];exact v1 _ (qur G.y8 R);rw[J m hm h9,U m hm h8];refine u1 m fun E=>h7 ?_;rw[FW] at E;exact vH.1 E
def eJ.tO(h:eJ D)(E:M.Wf)(U:M.j9.2.getD 0 0=D.size)(h8:8<=D.size)(u:jm M=some (y4,Q9))(V:kH next): (gz D M.J8 y4 Q9 next).2=0/\eJ (gz D M.J8 y4 Q9 next).1/\(gz D M.J8 y4 Q9 next).1.size=D.size:=by
 have I:((kj M.J8).map (·.1)).Nodup:=(by rw[FW];exact vG (AQ _));obtain⟨D1,e1,q1,s1,_⟩:=h.writes (l:=kj M.J8) (fun x hx=>by obtain⟨n,G,rfl⟩:=mem_map.1 hx;have G:=vH.1 G;have hk:=E.J6 n G;refine⟨by dsimp only;omega,vr ?_⟩;obtain⟨e,J,rfl⟩:=mem_map.1 G;obtain⟨i,hi⟩:=CH E.y8 J;rw[jJ,hi];exact (E.body e J).2.1) I;have C:=BC E u;rw[U,<- s1] at C;obtain⟨D2,e2,q2,s2,_⟩:=q1.spread C;obtain⟨R,e3,q3,s3,_⟩:=q2.ti V oJ;have:gz D M.J8 y4 Q9 next=(R,0):=by rw[gz,e1,andThen_ok,e2,andThen_ok,e3]
 rw[this];exact⟨rfl,q3,by show R.size=D.size;omega⟩
def dU.all (M:dU):List Int:=M.Q1++(M.J7++(M.Q5++M.J8.map (·.1)))
def Fy{t:Int}{ov:Bool}(h:lf (s.2.getD 0 0) numbers y4)(E:s.2.getD 0 0<=4096)(C:∀x∈s.2,gy x):(hU s y4 numbers t ov numbers).Wf where
 n4:=E
 u32:=C
 Q2:=fun x u=>C x (yT u)
 cL:=h.cU
 Q9:=h.mT
 cS:=h.cU
 qd:=.nil
 nodup:=by show (numbers++([]++(y4++[]))).Nodup;rw[xH,xG,yL];exact⟨vG h.cU,h.nodup,fun x u y G e=>h.J3 y G (e▸u)⟩
 range:=fun x u=>by have u:x∈numbers++([]++(y4++[])):=u;rw[xH,xG,zD] at u;rcases u with u|u;exact h.mT x u;exact h.qL x u
 body:=fun e I=>by cases I
def qy2:th.Wf:=by
 have u:∀x∈gq.2,gy x:=fun x h=>by
  have:=eq_of_mem_replicate (show x∈List.replicate 27 (0:Int) from h)
  subst this;exact⟨oM,oM⟩
 exact Fy (s:=gq) (y4:=[]) (numbers:=[]) ⟨.nil,(fun x h=>by cases h),(fun x h=>by cases h),.nil,(fun x h=>by cases h),oM⟩ oM u
def qrT{β:Type}{v:β}{l:List (Int×β)}(h:n∉l.map (·.1)):gG n v l=l++[(n,v)]:=by rw[gG,tD.2 h]
def qpQ{β:Type}{v:β}{l:List (Int×β)}(h:n∈l.map (·.1)):(gG n v l).map (·.1)=l.map (·.1):=by
 unfold gG;cases C:look n l with
 | none=>exact absurd h (tD.1 C)
 | some q=>
  dsimp only;rw[map_set];apply ext_getElem?;intro j;rw[List.getElem?_set];by_cases hj:q.1=j;subst hj;have E:=(si C).1;obtain⟨u,G⟩:=zP.1 E;simp[u,G];rw[if_neg hj]
def qo4{β:Type}{l:List (Int×β)}(h:n∈l.map (·.1)):(l.map (·.1)).Perm (n::(jf n l).map (·.1)):=by
 unfold jf;cases E:look n l with
 | none=>exact absurd h (tD.1 E)
 | some q=>
  dsimp only;have G:=(si E).1;obtain⟨u,I⟩:=zP.1 G;rw[tU];have J:(l.map (·.1))[q.1]'(oP u)=n:=(by simp[I]);have C:q.1<(l.map (·.1)).length:=(oP u);have R:l.map (·.1)=(l.map (·.1)).take q.1++n::(l.map (·.1)).drop (q.1+1):=by rw[<- J,<- zX C,xD]
  rw[eraseIdx_eq_take_drop_succ];conv=>lhs;rw[R]
  exact perm_middle
def vo:fY M n=true↔(2<=n/\n<M.j9.2.getD 0 0)/\n∉M.all:=by unfold fY dU.all;simp only[yA,zT,Bool.or_eq_false_iff,decide_eq_false_iff_not,Option.isNone_iff_eq_none,tD,zD,not_or];constructor;rintro⟨⟨⟨⟨⟨G,I⟩,h⟩,u⟩,C⟩,E⟩;exact⟨⟨oJ,oJ⟩,u,C,h,E⟩;rintro⟨⟨G,I⟩,h,u,C,E⟩;exact⟨⟨⟨⟨⟨oJ,oJ⟩,C⟩,h⟩,u⟩,E⟩
def qwf{r:List Int}{v:Int×List Int}(u:M.Q1=n::r)(E:M.Wf):(r++(M.J7++(M.Q5++(gG n v M.J8).map (·.1)))).Perm M.all:=by
 have h:n∉M.J8.map (·.1):=fun G=>by have C:=E.nodup;rw[u,xI,nodup_cons] at C;exact C.1 (zI _ (zI _ (zI _ G)))
 rw[qrT h,xM,dU.all,u];show (r++(M.J7++(M.Q5++(M.J8.map (·.1)++[n])))).Perm (n::(r++(M.J7++(M.Q5++M.J8.map (·.1)))));rw[<- zV M.Q5,<- zV M.J7,<- zV r];exact perm_append_singleton n _
def DM{M':dU}(h:M.Wf)(u:M'.j9=M.j9)(C:M'.Q9=M.Q9)(G:∀x∈M'.Q2,gy x)(E:M'.all.Perm M.all)(I:M'.Q1.Pairwise (· < ·))(J:M'.J7.Pairwise (· < ·))(R:∀e∈M'.J8,(0<=e.2.1/\e.2.1<256)/\e.2.2.length<=500/\eB e.2.2):M'.Wf where
 n4:=by rw[u];exact h.n4
 u32:=by rw[u];exact h.u32
 Q2:=G
 cL:=by rw[C];exact h.cL
 Q9:=by rw[C,u];exact h.Q9
 cS:=I
 qd:=J
 nodup:=E.nodup_iff.2 h.nodup
 range:=fun x U=>by rw[u];exact h.range x (E.mem_iff.1 U)
 body:=R
def qtv{kind:Int}(u:M.Wf)(G:0<=kind/\kind<256)(I:eB body):(fU M kind body).2.Wf/\(fU M kind body).2.all.Perm M.all:=by
 unfold fU;split;exact⟨u,.refl _⟩;split;exact⟨u,.refl _⟩;rename_i R;split;exact⟨u,.refl _⟩;rename_i n r C;have E:=qwf (v:=(kind,body)) C u;refine⟨DM u rfl rfl u.Q2 E ?_ u.qd fun e J=>?_,E⟩
 have:=u.cS
 rw[C,yI] at this;exact this.2;rcases Cm J with h|h;exact u.body e h;rw[h];exact⟨G,by show body.length<=500;omega,I⟩
def qwt{kind:Int}(u:M.Wf)(E:0<=kind/\kind<256)(G:eB body):(i6 M n kind body).2.Wf/\(i6 M n kind body).2.all.Perm M.all:=by
 unfold i6;split;exact⟨u,.refl _⟩;split;exact⟨u,.refl _⟩;rename_i q I;split;exact⟨u,.refl _⟩;rename_i U;have J:n∈M.J8.map (·.1):=mem_map.2 ⟨_,(si I).2,rfl⟩;have C:({ M with J8:=gG n (kind,body) M.J8 }:dU).all=M.all:=by show M.Q1++(M.J7++(M.Q5++(gG n (kind,body) M.J8).map (·.1)))=_;rw[qpQ J];rfl
 refine⟨DM u rfl rfl u.Q2 (by rw[C]) u.cS u.qd fun e R=>?_,by rw[C]⟩;rcases Cm R with h|h;exact u.body e h;rw[h];exact⟨E,by show body.length<=500;omega,G⟩
def qtc(u:M.Wf):(e9 M n).2.Wf:=by
 unfold e9;split;exact u;split;rename_i q J;have R:n∈M.J8.map (·.1):=mem_map.2 ⟨_,(si J).2,rfl⟩;have U:=u.nodup;have G:n∉M.Q1:=fun h=>by rw[yL] at U;exact U.2.2 n h n (zI _ (zI _ R)) rfl
 have E:({ M with J8:=jf n M.J8,Q1:=ins n M.Q1 }:dU).all.Perm M.all:=by
  show (ins n M.Q1++(M.J7++(M.Q5++(jf n M.J8).map (·.1)))).Perm (M.Q1++(M.J7++(M.Q5++M.J8.map (·.1))));refine ((wH G).append_right _).trans ?_;have V:=qo4 R;have h2:(M.J7++(M.Q5++M.J8.map (·.1))).Perm (n::(M.J7++(M.Q5++(jf n M.J8).map (·.1)))):=by refine ((V.append_left M.Q5).append_left M.J7).trans ?_;rw[<- zV,<- zV];exact perm_middle
  exact (perm_middle.symm.trans (h2.symm.append_left M.Q1))
 exact DM u rfl rfl u.Q2 E (Av u.cS) u.qd fun e he=>u.body e (qrp he);rename_i J;split;rename_i C;have C:=vo.1 C;have I:n∉M.J7:=fun h=>C.2 (zI _ (zH _ h));have E:({ M with J7:=ins n M.J7 }:dU).all.Perm (n::M.all):=by show (M.Q1++(ins n M.J7++(M.Q5++M.J8.map (·.1)))).Perm (n::(M.Q1++(M.J7++(M.Q5++M.J8.map (·.1)))));exact (((wH I).append_right _).append_left M.Q1).trans perm_middle
 refine { n4:=u.n4,u32:=u.u32,Q2:=u.Q2,cL:=u.cL,Q9:=u.Q9,cS:=u.cS,qd:=Av u.qd,nodup:=E.nodup_iff.2 (nodup_cons.2 ⟨C.2,u.nodup⟩),range:=fun x hx=>?_,body:=u.body };rcases zG.1 (E.mem_iff.1 hx) with rfl|h;exact C.1;exact u.range x h;exact u
def qtC{t:Int}{ov:Bool}(u:M.Wf)(h:jm M=some (y4,Q9))(C:s.2.getD 0 0=M.j9.2.getD 0 0)(E:∀x∈s.2,gy x):(hU s y4 Q9 t ov Q9).Wf:=
 Fy (by rw[C];exact BC u h) (by rw[C];exact u.n4) E
def E4(u:M.Wf)(h:jm M=some (y4,Q9)):∀x∈(fI M y4 Q9).2,gy x:=by
 have E:=BC u h;have G:=u.n4;intro x C;simp only[fI,zD,zG,xW,or_false] at C;rcases C with (rfl|rfl|rfl)|C;exact qq9 u.u32 0;cases y4 with
 | nil=>exact⟨oM,oM⟩
 | cons a r=>
  have:=E.qL a oL
  show 0<=a/\a<4294967296;omega
 exact uC _;exact u.Q2 x C
def qxI(u:M.Wf)(h:jm M=some (y4,Q9))(C:M.Q2.length=24)(E:0<=M.j9.1/\M.j9.1<4611686018427387903):kH (fI M y4 Q9)/\(fI M y4 Q9).1=M.j9.1+1:=by have e:wrap .u64 (M.j9.1+1)=M.j9.1+1:=vT _ oJ;refine⟨⟨?_,?_,E4 u h⟩,e⟩;show 0<=wrap .u64 (M.j9.1+1)/\wrap .u64 (M.j9.1+1)<_;rw[e];omega;show ([M.j9.2.getD 0 0,y4.headD 0,wrap .u32 (Q9.length:Int)]++M.Q2).length=27;rw[zF,C];rfl
def qvv(h:M.Wf):(gw D M).1.2.Wf:=by unfold gw;split;exact h;split;exact h;split;exact h;rename_i x u;obtain⟨y4,Q9⟩:=x;split;exact qy2;exact qtC h u rfl (E4 h u)
section
def xp:List Int->List Int->Bool
 | a::b::c::r,h::b'::u::r'=>bif (bif a==h then bif b==b' then bif c==u then true else false else false else false) then xp r r' else false
 | _,_=>true
def qtd:∀(n:Nat) (l l':List Int),l.length=3*n->l'.length=3*n->xp l l'=decide (l=l')
 | 0,l,l',h,u=>by have C:l=[]:=eq_nil_of_length_eq_zero oJ;have E:l'=[]:=eq_nil_of_length_eq_zero oJ;subst C E;simp[xp]
 | n+1,l,l',h,u=>by
  match l,l',h,u with
  | a::b::c::r,G::b'::I::r',h,u=>
   have:=qtd n r r' (by simp at h;omega) (by simp at u;omega)
   rw[xp,this];by_cases C:a=G<;>by_cases E:b=b'<;>by_cases h3:c=I<;>by_cases h4:r=r'<;>simp[C,E,h3,h4]
  | [],_,h,_=>simp at h
  | [_],_,h,_=>simp at h;omega
  | [_,_],_,h,_=>simp at h;omega
  | _::_::_::_,[],_,h=>simp at h
  | _::_::_::_,[_],_,h=>simp at h;omega
  | _::_::_::_,[_,_],_,h=>simp at h;omega
abbrev Fl:TypeId:=183
def qzZ(a0 a1 a2 a3 a4 a5 a6 a7 a8 a9 h u C E G I J R U V aa ab ac ad b0 b1 b2 b3 b4 b5 b6 b7 b8 b9 ae af ag ah ai aj ak al am an ao ap aq ar:Int): sd prog 3 Fl (.agg (([a0,a1,a2,a3,a4,a5,a6,a7,a8,a9,h,u,C,E,G,I,J,R,U,V,aa,ab,ac,ad]:List Int).map (Value.int .u32)).toArray) (.agg (([b0,b1,b2,b3,b4,b5,b6,b7,b8,b9,ae,af,ag,ah,ai,aj,ak,al,am,an,ao,ap,aq,ar]:List Int).map (Value.int .u32)).toArray) = some (xp [a0,a1,a2,a3,a4,a5,a6,a7,a8,a9,h,u,C,E,G,I,J,R,U,V,aa,ab,ac,ad] [b0,b1,b2,b3,b4,b5,b6,b7,b8,b9,ae,af,ag,ah,ai,aj,ak,al,am,an,ao,ap,aq,ar]):=by kernel_rfl
def qwb(h:l.length=24):∃a0 a1 a2 a3 a4 a5 a6 a7 a8 a9 u C E G I J R U V aa ab ac ad ae,l=[a0,a1,a2,a3,a4,a5,a6,a7,a8,a9,u,C,E,G,I,J,R,U,V,aa,ab,ac,ad,ae]:=
 match l,h with
 | [a0,a1,a2,a3,a4,a5,a6,a7,a8,a9,u,C,E,G,I,J,R,U,V,aa,ab,ac,ad,ae],_=>⟨_,_,_,_,_,_,_,_,_,_,_,_,_,_,_,_,_,_,_,_,_,_,_,_,rfl⟩
def quY{x y:Operand}{K:Bool->Prop}(u:l.length=24)(h:l'.length=24)(k:K (decide (l=l'))): fc [gO.one Cell.bool] (fun w'=>(do eqGuard .eql Fl x y (.agg (l.map (Value.int .u32)).toArray) (.agg (l'.map (Value.int .u32)).toArray);binOp .eql Fl (.agg (l.map (Value.int .u32)).toArray) (.agg (l'.map (Value.int .u32)).toArray):Sem Value).run prog w') w K:=by refine FO 3 oM (xp l l') ?_ oK (by rw[qtd 8 l l' u h];exact k);obtain⟨a0,a1,a2,a3,a4,a5,a6,a7,a8,a9,C,E,G,I,J,R,U,V,aa,ab,ac,ad,ae,af,rfl⟩:=qwb u;obtain⟨b0,b1,b2,b3,b4,b5,b6,b7,b8,b9,ag,ah,ai,aj,ak,al,am,an,ao,ap,aq,ar,au,av,rfl⟩:=qwb h;exact qzZ ..
def qwg{mb:Nat}{f:List (Int×Value)}{K:Int->Prop}(h:iR jd w mb f)(k:K f.length): fc [gO.one .i] (fun w'=>(Builtin.len_ #[AW] 3 #[Value.map (some mb)]).run prog w') w K:=by
 obtain⟨u,c,C,E,_⟩:=h;have G:(u.size:Int)=f.length:=by
  have:=congrArg List.length E
  simp at this;omega
 refine qJ (ts:=[gO.one .i]) (u.size:Int) ?_ (by rw[G];exact k)
 have:=run_len_map (P:=prog) (w:=w) AW 3 mb u c oK C
 exact this
section
variable {db:Option Addr} {j9:m7} {sl sn:Sl} {x6:Int} {Q3:Bool} {fb defb mb:Nat} {Q2:List Int} {wk:List Value}
def BM(u:j9.2.length=27)(C:Q2.length=24):((fH db j9 sl sn x6 Q3 fb defb mb Q2).toList.drop 36).take 24=Q2.map (Value.int .u32):=by have h:((Value.pointer db::eN j9.1 j9.2)++mD sl sn x6 Q3 fb defb mb).length=36:=(by rw[zF,rH u];rfl);show (((Value.pointer db::eN j9.1 j9.2)++mD sl sn x6 Q3 fb defb mb++Q2.map (Value.int .u32)).drop 36).take 24=_;rw[<- h,drop_append_of_le_length (zM _),drop_length,xH,zS (by rw[zK,C];exact zM _)]
def qwm(h:j9.2.length=27):((fH db j9 sl sn x6 Q3 fb defb mb Q2).toList.drop 5).take 24=(j9.2.drop 3).map (Value.int .u32):=by rw[<- EU];exact EC h
def quR{h:m7}(C:j9.2.length=27)(u:h.2.length=27):dN (eX db j9 sl sn x6 Q3 wk) 1 (eN h.1 h.2)=eX db h sl sn x6 Q3 wk:=by
 have:=sX (A:=[Value.pointer db]) (X:=eN j9.1 j9.2) (Y:=eN h.1 h.2) (Z:=([sl.v,sn.v,.i x6,.bool Q3]:List Value)++wk) (by rw[pw C,pw u])
 simpa[eX] using this
end
def quh{q a c:Int}(E:Q2.length=24)(w:World):(Instr.build 185 #[(0,.int .u64 q),(1,.u a),(3,.u c),(4,.agg (Q2.map (Value.int .u32)).toArray)]).run prog w=.ok (.agg (eN q ([a,0,c]++Q2)).toArray) w:=by
 obtain⟨z,G,h⟩:=yS.1 sL;have C:z.cells=(eN 0 (zs 27)).toArray:=(by rw[<- h]);refine Aq (parts:=[(0,.int .u64 q),(1,.u a),(3,.u c),(4,.agg (Q2.map (Value.int .u32)).toArray)]) (offs:=#[(0,1),(1,1),(2,1),(3,1),(4,24)]) G oK (fun w=>oK) ?_ w;have I:(Value.agg (Q2.map (Value.int .u32)).toArray).cells.size=24:=(by show (Q2.map (Value.int .u32)).toArray.size=24;simp[E]);rw[C,qT (o:=0) (s:=1) rfl rfl (zO rfl),qT (o:=1) (s:=1) rfl rfl (zO rfl),qT (o:=3) (s:=1) rfl rfl (zO rfl),qT (o:=4) (s:=24) rfl I (zO rfl)];refine congrArg some ?_
 have:=sX (A:=[.int .u64 q,.u a,.u 0,.u c]) (X:=(zs 24).map (Value.int .u32)) (Z:=[]) (Y:=Q2.map (Value.int .u32)) (by simp[E,oT])
 refine Eq.trans ?_ (this.trans ?_);rfl;simp[eN]
def quf(w:World):(Instr.build re #[(5,.bool true)]).run prog w=.ok (.agg (eX none gq dC dC 0 true (gP none none none (zs 24)))) w:=by refine Aq (parts:=[(5,.bool true)]) (offs:=#[(0,1),(1,28),(29,1),(30,1),(31,1),(32,1),(33,27)]) pgZ oK (fun w=>oK) ?_ w;rw[qT (o:=32) (s:=1) rfl rfl (zO rfl)];rfl
def ou (dbk:Nat) (M:dU):Option Addr:=if M.Q3 then none else pW dbk
structure GC (w:World) (dbk pb:Nat) (FD F:List Nat) (D:dE) (M:dU) (k:Nat):Prop where
 cN:eK w dbk FD D
 lim:ls D k
 x8:en w FD pb (ou dbk M) F M
def Ak (S:List Nat) (w w':World) (S':List Nat):Prop:=Fr S w w'/\∀b∈S',b∈S\/w.heap.size<=b
def qy0:((l.map (Value.int .u32)).all Value.oneCell')=true:=by rw[all_eq_true];intro v h;obtain⟨x,_,rfl⟩:=mem_map.1 h;rfl
def qx7{x y:Option Addr}{m:Option Nat}:((gP x y m Q2).all Value.oneCell')=true:=by rw[gP,all_append,qy0];rfl
def qy8(h:(wk.all Value.oneCell')=true):((eX db j9 sl sn x6 Q3 wk).toList.all Value.oneCell')=true:=by show ((((Value.pointer db::eN j9.1 j9.2)++([sl.v,sn.v,.i x6,.bool Q3]:List Value))++wk).all Value.oneCell')=true;rw[all_append,all_append,h,all_cons,CP];rfl
def en.sH{X':List Nat}(h:en w X pb db F M)(C:∀b∈X',b∈X):en w X' pb db F M:=
 h.og (.refl X w) (fun b u=>h.nQ b (C b u)) (fun b u=>.inl (C b u))
def qsd(hdisk:eK w dbk FD D)(hlim:ls D k)(hpag:en w X pb (ou dbk M) F M)(hsub:∀b∈FD,b∈X)(hW:M.Wf)(hk6:k+5000<=1000000)(ht:0<=M.x6/\M.x6<=1000000000)(hv:Hv w)(hg:HG∉FD)(kk:∀FD' F' w',eK w' dbk FD' (gw D M).1.1->ls (gw D M).1.1 (k+5000)->en w' (FD'++X) pb (ou dbk (gw D M).1.2) F' (gw D M).1.2->Ak (FD++F) w w' (FD'++F')->K (gw D M).2 w'): cW 72 [dB pb] df w K:=by
 have hall:=dU.Wf.all M hW;have same:∀ {e:Int} {w':World},gw D M=((D,M),e)->Fr [] w w'->K e w':=by
  intro e w' he hf
  have:=kk FD F w' (by rw[he];exact hdisk.q7 hf) (by rw[he];exact hlim.mono oJ) (by rw[he];exact (hpag.q7 hf).sH fun b hb=>(zD.1 hb).elim (hsub b) id) ⟨hf.mono (fun b hb=>by cases hb),fun b hb=>.inl hb⟩
  rw[he] at this;exact this
 have hpag0:=hpag;obtain⟨fb,defb,mb,sl,sn,F1,F2,fs,rfl,hx⟩:=hpag;refine qhz (p:=pW pb)<|fq (iG (c:=.bool) hx.cell M.Q3 (xd hx.Q8) ?_);refine dR (fun hc=>same (by rw[gw,if_pos hc]) (.refl _ _)) (fun hc=>?_);have ho:¬M.Q3=true:=(by rw[hc];decide);have hof:M.Q3=false:=hc;have hdb:ou dbk M=pW dbk:=if_neg ho;rw[hdb] at hx hpag0;have hxd:=hx.q7 (Fr.refl [] w).drew;have hfl:fs.length=M.J8.length:=(by rw[hx.J8];simp);have hsr:(M.j9.2.drop 3).length=24:=(by rw[yB,hx.Q8]);refine gQ (fun b w'=>b=decide (M.J8=[]/\M.J7=[]/\M.Q2=M.j9.2.drop 3)/\w'=w.drew) ?_ ?_;refine fq (iG (w:=w.drew) (c:=.map) hxd.cell (some mb) (rK hx.Q8) ?_);refine qwg hxd.map ?_;rw[zK,hfl];apply dR<;>intro hc1;have h1:M.J8=[]:=eq_nil_of_length_eq_zero (by have:(M.J8.length:Int)=0:=(oP hc1);omega);refine fq (iG (w:=w.drew) (c:=.ptr) hxd.cell (pW defb) (Bs hx.Q8) ?_);refine qsT hxd.J7 ?_;apply dR<;>intro hc2;have h2:M.J7=[]:=eq_nil_of_length_eq_zero (by have:(M.J7.length:Int)=0:=(oP hc2);omega);refine fq (qA (b:=pb) (off:=36) hxd.cell (M.Q2.map (Value.int .u32)) (by rw[zK,hx.x7]) (BM hx.Q8 hx.x7) ?_);refine fq (qA (b:=pb) (off:=5) hxd.cell ((M.j9.2.drop 3).map (Value.int .u32)) (by rw[zK,hsr]) (qwm hx.Q8) ?_);refine quY hx.x7 hsr ⟨?_,rfl⟩;simp[h1,h2];have h2:M.J7≠[]:=fun e=>by rw[e] at hc2;simp at hc2
 exact⟨by simp[h2],rfl⟩;have h1:M.J8≠[]:=fun e=>by rw[e] at hc1;simp at hc1
 exact⟨by simp[h1],rfl⟩;rintro b w1 ⟨rfl,rfl⟩;have f01:Fr [] w w.drew:=(Fr.refl [] w).drew;refine dR (fun hc=>same (by rw[gw,if_neg ho,if_pos (zC hc)]) f01) (fun hc=>?_);have hne:=zB hc;refine qwZ (hpag0.q7 f01) hW (fun hpl w2 f2=>?_) (fun sp sm y4 Q9 w2 hpl f2 hrd=>?_);exact cond_true rfl<|same (by rw[gw,if_neg ho,if_neg hne,hpl]) (f01.trans f2);refine cond_false rfl ?_;have hcm:gw D M=if (gz D M.J8 y4 Q9 (fI M y4 Q9)).2≠0 then (((gz D M.J8 y4 Q9 (fI M y4 Q9)).1,th),(gz D M.J8 y4 Q9 (fI M y4 Q9)).2)
  else (((gz D M.J8 y4 Q9 (fI M y4 Q9)).1,hU (fI M y4 Q9) y4 Q9 (M.x6+1) false Q9),0):=by rw[gw,if_neg ho,if_neg hne,hpl]
 have hplan:=hpl;unfold jm at hplan;split at hplan;cases hplan;rename_i hroom;have hpn:=yN hplan;have hpg:y4=M.Q1.take (eC (M.Q1.length+(M.J7++M.Q5).length)):=(congrArg Prod.fst hpn).symm;have hnm:Q9=gu ((M.J7++M.Q5)++M.Q1.drop (eC (M.Q1.length+(M.J7++M.Q5).length))):=(congrArg Prod.snd hpn).symm;have hplf:y4.length<=M.Q1.length:=(by rw[hpg,yK];omega);have hpl4:y4.length<=4096:=oJ;have hnl4:Q9.length<=4096:=by
  have:=qng ((M.J7++M.Q5)++M.Q1.drop (eC (M.Q1.length+(M.J7++M.Q5).length)))
  rw[<- hnm] at this;simp only[zF,yB] at this;omega
 have hpm:∀x∈y4,2<=x/\x<M.j9.2.getD 0 0:=fun x hx=>by rw[hpg] at hx;exact hW.range x (zH _ (yU hx))
 have hblk4:=hW.n4;have hpu:∀x∈y4,gy x:=fun x hx=>by have:=hpm x hx;constructor<;>omega
 have hns:Q9.Pairwise (· < ·):=(by rw[hnm];exact AQ _);have f02:=f01.trans f2;have hx2:=hx.q7 f02;have hx2d:=hx2.q7 (Fr.refl [] w2).drew;refine fq (iG (w:=w2.drew) (c:=.int .u64) hx2d.cell M.j9.1 qwl ?_);refine fq (iG (w:=w2.drew) (c:=.u) hx2d.cell (M.j9.2.getD 0 0) (EB hx.Q8 0 oM) ?_);refine fq (qA (b:=pb) (off:=36) hx2d.cell (M.Q2.map (Value.int .u32)) (by rw[zK,hx.x7]) (BM hx.Q8 hx.x7) ?_);have hmlen:sm.len=Q9.length:=(hrd [] oL).2.1;refine qJ (ts:=[gO.kN]) (eN (wrap .u64 (M.j9.1+1)) ([M.j9.2.getD 0 0,0,wrap .u32 (Q9.length:Int)]++M.Q2)) (by rw[<- hmlen];exact quh hx.x7 _) ?_;have hplen:sp.len=y4.length:=(hrd [] oL).1.1;refine oI (oE [] w2.drew) sL fun r w3 e3 ho3=>?_;have hx3:=hx2d.q7 ho3.fr;refine mB (uN hx3.cell _ 36 0 (by show _=_;rw[zK,hx.x7];exact BM hx.Q8 hx.x7)) (by show _=_;simp only[Addr.q9];rw[je hx3.cell];exact EB hx.Q8 0 oM) (by show _=_;rw[je hx3.cell];exact qwl) ?_;have l27:([M.j9.2.getD 0 0,0,wrap .u32 (Q9.length:Int)]++M.Q2).length=27:=(by rw[zF,hx.x7];rfl);have n27:(fI M y4 Q9).2.length=27:=(by show ([M.j9.2.getD 0 0,y4.headD 0,wrap .u32 (Q9.length:Int)]++M.Q2).length=27;rw[zF,hx.x7];rfl);have hG:∀b∈FD++pb::mb::(F1++F2),b<w.heap.size:=fun b hb=>by rcases zD.1 hb with h|h;exact hdisk.lt b h;exact hx.lt b h
 have hrdG:=hrd (FD++pb::mb::(F1++F2)) hG;refine yk ho3 0 rfl rfl l27 fun w4 ho4=>gQ (fun _ w'=>dM [] w2.drew w' [(r,.cells (eN (fI M y4 Q9).1 (fI M y4 Q9).2).toArray 185 (0,0))]) ?_ ?_;apply dR<;>intro hc;have hp0:0<y4.length:=(by have:=zC hc;dsimp only at this;omega);have f24:Fr [] w2 w4:=(Fr.refl [] w2).drew.trans ho4.fr;refine Rd.at ((hrd [] oL).1.q7 f24) 0 rfl (zA hp0)<|oG ho4 0 rfl (eN (fI M y4 Q9).1 (fI M y4 Q9).2).toArray ?_ rfl (by rw[CA l27];exact zO rfl) fun w5 ho5 f5=>ho5;have hh:y4.headD 0=y4[0]:=by
  cases y4 with
  | nil=>simp at hp0
  | cons a r=>rfl
 show dN (eN _ ([M.j9.2.getD 0 0]++0::(wrap .u32 (Q9.length:Int)::M.Q2))).toArray 2 [.u y4[0]]=_
 have:=qnS (q:=wrap .u64 (M.j9.1+1)) (x:=0) (y:=y4[0]) (A:=[M.j9.2.getD 0 0]) (Z:=wrap .u32 (Q9.length:Int)::M.Q2)
 refine this.trans ?_;rw[fI,hh];rfl;have hp0:y4=[]:=eq_nil_of_length_eq_zero (by have:=zB hc;dsimp only at this;omega);have e:eN (fI M y4 Q9).1 (fI M y4 Q9).2=eN (wrap .u64 (M.j9.1+1)) ([M.j9.2.getD 0 0,0,wrap .u32 (Q9.length:Int)]++M.Q2):=by rw[fI,hp0];rfl
 rw[e];exact ho4;rintro _ w5 ho5;refine uh (ho5.at (i:=0) rfl) n27 ?_;have f25:Fr [] w2 w5:=(Fr.refl [] w2).drew.trans ho5.fr;have f05:=f02.trans f25;have hd5:=hdisk.q7 f05;have hp5:=hpag0.q7 f05;have hq0:0<=(fI M y4 Q9).1:=by show 0<=wrap .u64 (M.j9.1+1);unfold wrap;have:(IntKind.u64.signed)=false:=rfl;simp only[this,Bool.false_and,Bool.false_eq_true,if_false];exact Int.emod_nonneg _ oM
 have hkeyU:∀x∈M.J8.map (·.1),gy x:=fun x hx=>by
  have:=hW.range x (zI _ (zI _ (zI _ hx)))
  constructor<;>omega
 have hkeyN:(M.J8.map (·.1)).Nodup:=hW.nodup.sublist (((sublist_append_right _ _).trans (sublist_append_right _ _)).trans (sublist_append_right _ _));refine qvf (next:=fI M y4 Q9) (D:=D) (DS.refl hd5 hlim) (hp5.sH hsub) hW.body hkeyN hkeyU oJ oJ (hv.q7 f05) hg ((hrdG.2.q7 f25).j6 fun b hb=>.inl (zH _ hb)) ((hrdG.1.q7 f25).j6 fun b hb=>.inl (zH _ hb)) oJ oJ hpu n27 hq0 fun w6 FD6 d6 f6 n6=>?_;have hp6:=hp5.og (X':=FD6++X) (f6.mono fun b hb _=>hsub b hb) (fun b hb=>(zD.1 hb).elim (d6.at_.lt b) fun hb=>yC (hp5.nQ b hb) f6.size) fun b hb=>(zD.1 hb).elim (fun hb=>(n6 b hb).imp (hsub b) id) .inl;obtain⟨fb6,defb6,mb6,sl6,sn6,G1,G2,fs6,hF6,hx6⟩:=id hp6;have hpbn:pb∉FD6++X:=fun hm=>hx6.l9 pb hm oL;have hFD:∀b∈FD6,b∈FD++pb::mb::(F1++F2)\/w.heap.size<=b:=fun b hb=>by rcases n6 b hb with h|h;exact .inl (zH _ h);exact .inr (zL f05.size h)
 have hlt6:w.heap.size<=w6.heap.size:=zL f05.size f6.size;have f06:Fr (FD++pb::mb::(F1++F2)) w w6:=(f05.mono fun b hb=>by cases hb).trans (f6.mono fun b hb _=>zH _ hb);have hend:∀ {F':List Nat} {w8 w9:World},Fr [pb] w6 w8->Fr [pb] w8 w9->(∀b∈F',b=pb\/w8.heap.size<=b)->Ak (FD++pb::mb::(F1++F2)) w w9 (FD6++F')/\eK w9 dbk FD6 (gz D M.J8 y4 Q9 (fI M y4 Q9)).1:=by intro F' w8 w9 g8 g9 hF';have g69:=g8.trans g9;refine⟨⟨f06.trans (g69.mono fun b hb _=>by simp at hb;subst hb;simp),fun b hb=>?_⟩,d6.at_.q8 g69 fun b hb=>by simp;rintro rfl;exact hpbn (zH _ hb)⟩;rcases zD.1 hb with hb|hb;exact hFD b hb;rcases hF' b hb with h|h;exact .inl (by rw[h];simp);exact .inr (zL (zL hlt6 g8.size) h)
 have hpX:∀ {w8:World},Fr [pb] w6 w8->∀b∈FD6++X,b<w8.heap.size/\b≠pb:=fun g8 b hb=>⟨yC (hp6.nQ b hb) g8.size,fun e=>hpbn (e▸hb)⟩;have hcell6:=hx6.cell;rw[<- EU] at hcell6;have hwk:(gP (pW fb6) (pW defb6) (some mb6) M.Q2).length=27:=vR hx.x7;have hlim6:ls (gz D M.J8 y4 Q9 (fI M y4 Q9)).1 (k+5000):=d6.lim.mono oJ;apply dR<;>intro hc;have hc:(gz D M.J8 y4 Q9 (fI M y4 Q9)).2≠0:=(oP hc);rw[if_pos hc] at hcm;rw[hcm] at kk;refine qJ (ts:=[gO.kN]) (eX none gq dC dC 0 true (gP none none none (zs 24))).toList (quf w6)<|fq ?_;have hsz60:(eX none gq dC dC 0 true (gP none none none (zs 24))).toList.length=60:=(by rw[Array.length_toList,tH rfl];rfl);refine pc hsz60<|qD (b:=pb) (off:=0) hcell6 (eX none gq dC dC 0 true (gP none none none (zs 24))) (by rw[oc (by rw[hsz60,tH hx.Q8,hwk])]) (qy8 (qx7)) (by rw[hsz60,tH hx.Q8,hwk];exact zO rfl) fun w7 c7 f7=>E5 (X:=FD6++X) (Q5:=[]) (Q9:=[]) c7 rfl (vR (oT 24)) oM (hpX f7) (.nil _ _ _ _) (.nil _ _ _ _) oM fun F' w8 hp8 f8 n8=>?_;have he:=hend f7 f8 n8;exact kk FD6 F' w8 he.2 hlim6 hp8 he.1;have hc:¬(gz D M.J8 y4 Q9 (fI M y4 Q9)).2≠0:=(oP hc);rw[if_neg hc] at hcm;rw[hcm] at kk;have hsup6:w6.heap[r]?=some (.cells (eN (fI M y4 Q9).1 (fI M y4 Q9).2).toArray 185 (0,0)):=(by rw[f6.block r (eT (ho5.at (i:=0) rfl)) (fun hm=>by have:=hd5.lt r hm;have:=hdisk.lt r hm;have h1:w.heap.size<=w2.drew.heap.size:=f02.size;omega)];exact ho5.at (i:=0) rfl);refine uh hsup6 n27<|fq<|pc (pw n27)<|qD (b:=pb) (off:=1) hcell6 (eX (pW dbk) (fI M y4 Q9) sl6 sn6 M.x6 M.Q3 (gP (pW fb6) (pW defb6) (some mb6) M.Q2)) (quR hx.Q8 n27) (CP _ _) (by rw[pw n27,tH hx.Q8,hwk];exact zO rfl) fun w7 c7 f7=>fq<|qD (b:=pb) (off:=29) c7 (eX (pW dbk) (fI M y4 Q9) sp sn6 M.x6 M.Q3 (gP (pW fb6) (pW defb6) (some mb6) M.Q2)) (qpK n27) rfl (by rw[tH n27,hwk];exact zO rfl) fun w8 c8 f8=>fq<|qD (b:=pb) (off:=30) c8 (eX (pW dbk) (fI M y4 Q9) sp sm M.x6 M.Q3 (gP (pW fb6) (pW defb6) (some mb6) M.Q2)) (qpL n27) rfl (by rw[tH n27,hwk];exact zO rfl) fun w9 c9 f9=>?_;have f69:=(f7.trans f8).trans f9;have hGX:∀b∈X++[pb],b<w.heap.size:=fun b hb=>by rcases zD.1 hb with h|h;exact hx.nQ b h;rw[zE.1 h];exact eT hx.cell
 have hrdX:=hrd (X++[pb]) hGX;have hst:∀ {s:Sl} {l:List Int},Rd (X++[pb]) w2 s l->Rd ((FD6++X)++[pb]) w9 s l:=fun hr=>by
  have h5:=hr.q7 f25;have h6:Rd ((FD6++X)++[pb]) w6 _ _:=h5.q8 (f6.mono fun b hb _=>zH _ (hsub b hb)) fun b hb=>by rcases zD.1 hb with hb|hb;rcases zD.1 hb with hb|hb;rcases n6 b hb with h|h;exact .inl (zH _ (hsub b h));exact .inr h;exact .inl (zH _ hb);exact .inl (zI _ hb)
  exact h6.q8 (f69.mono fun b hb _=>zI _ hb) fun b hb=>.inl hb
 refine E5 (X:=FD6++X) (Q5:=y4) (Q9:=Q9) c9 n27 hwk ht (hpX f69) (hst hrdX.1) (hst hrdX.2) oJ fun F' w10 hp10 f10 n10=>?_;rw[qpf hns,hof] at hp10;have he:=hend f69 f10 n10;exact kk FD6 F' w10 he.2 hlim6 hp10 he.1
end
def eQ (M:dU) (t h u C:Int):Int×dU:=
 if M.Q3 then (7,M) else if t<0\/t>7 then (4,M) else (0,{ M with Q2:=M.Q2.take (3*t.toNat)++[h,u,C]++M.Q2.drop (3*t.toNat+3) })
def dD (D:dE) (M:dU) (n:Int):Int×List Int×Int:=
 if M.Q3 then (0,[],7) else match look n M.J8 with
 | some q=>(q.2.1,q.2.2,0)
 | none=>if fY M n=false then (0,[],10) else if (ee D n).2≠0 then (0,[],(ee D n).2) else eP n (ee D n).1
def qhy(u:D.Ok)(C:∀e∈M.J8,eB e.2.2)(n:Int):eB (dD D M n).2.1:=by have h:eB ([]:List Int):=fun x E=>nomatch E;unfold dD;split;exact h;split;rename_i q G;exact C _ (si G).2;split;exact h;split;exact h;exact (qpy (uD u n).1 n).1
def dU.z9 (M:dU):Prop:=(M.Q1++M.J8.map (·.1)).Perm M.Q9
def qlh(s:m7)(y4 numbers:List Int)(t:Int)(ov:Bool):(hU s y4 numbers t ov numbers).z9:=by show (numbers++[]).Perm numbers;rw[xG]
def quD{kd:Int}(G:M.Wf)(h:M.z9):(fU M kd l).2.z9:=by
 unfold fU;split;exact h;split;exact h;split;exact h;rename_i n r C;have u:n∉M.J8.map (·.1):=fun I=>by have E:=G.nodup;rw[C,xI,nodup_cons] at E;exact E.1 (zI _ (zI _ (zI _ I)))
 show (r++(gG n (kd,l) M.J8).map (·.1)).Perm M.Q9;rw[qrT u,xM,<- zV];refine (perm_append_singleton n _).trans ?_
 have:=h
 rw[dU.z9,C] at this;exact this
def qwr{kd:Int}(h:M.z9):(i6 M n kd l).2.z9:=by unfold i6;split;exact h;split;exact h;rename_i q u;split;exact h;have C:n∈M.J8.map (·.1):=mem_map.2 ⟨_,(si u).2,rfl⟩;show (M.Q1++(gG n (kd,l) M.J8).map (·.1)).Perm M.Q9;rw[qpQ C];exact h
def qup(G:M.Wf)(h:M.z9):(e9 M n).2.z9:=by
 unfold e9;split;exact h;split;rename_i q I;have C:n∈M.J8.map (·.1):=mem_map.2 ⟨_,(si I).2,rfl⟩;have E:=G.nodup;have u:n∉M.Q1:=fun h=>by rw[yL] at E;exact E.2.2 n h n (zI _ (zI _ C)) rfl
 show (ins n M.Q1++(jf n M.J8).map (·.1)).Perm M.Q9;refine (((wH u).append_right _).trans ?_).trans h;exact perm_middle.symm.trans ((qo4 C).symm.append_left M.Q1);split;exact h;exact h
def dU.z9.mem(h:M.z9)(x:Int):x∈M.Q9↔x∈M.Q1\/x∈M.J8.map (·.1):=by rw[<- h.mem_iff,zD]
def A8 (l:List Int):ByteArray:=⟨(Lib.bytesOf l).toArray⟩
end
section
open Go Go.Pt List
open Go.IntKind (wrap)
open Classical
variable {D:dE} {L L1 L2:fL} {M:dU} {N Nl Nr:dG} {R R1 R2 b:List Int} {h n1 n2:Nat} {kd n p q:Int} {key m:Key} {r:Int×List Int}
def gD {β:Type} (n:Int) (l:List (Int×β)):Option β:=(look n l).map (·.2)
def uO{β:Type}(n:Int)(p:Int×β)(r:List (Int×β)):gD n (p::r)=if n=p.1 then some p.2 else gD n r:=by unfold gD;rw[look];split;rfl;cases look n r<;>rfl
def qwE{β:Type}(n:Int)(v:β)(p:Int×β)(r:List (Int×β)):gG n v (p::r)=if n=p.1 then (n,v)::r else p::gG n v r:=by by_cases h:n=p.1;rw[if_pos h];unfold gG;rw[look,if_pos h];rfl;rw[if_neg h];unfold gG;rw[look,if_neg h];cases look n r<;>rfl
def qvE{β:Type}(n:Int)(p:Int×β)(r:List (Int×β)):jf n (p::r)=if n=p.1 then r else p::jf n r:=by by_cases h:n=p.1;rw[if_pos h];unfold jf;rw[look,if_pos h];rfl;rw[if_neg h];unfold jf;rw[look,if_neg h];cases look n r<;>rfl
def Fw{β:Type}(n q:Int)(v:β):∀l:List (Int×β),gD q (gG n v l)=if q=n then some v else gD q l
 | []=>by show gD q [(n,v)]=_;rw[uO]
 | p::r=>by rw[qwE];by_cases h:n=p.1;rw[if_pos h,uO,uO,<- h];by_cases h2:q=n;rw[if_pos h2,if_pos h2];rw[if_neg h2,if_neg h2,if_neg h2];rw[if_neg h,uO,Fw n q v r,uO];by_cases h2:q=p.1;rw[if_pos h2,if_neg (fun e=>h (by rw[<- e,h2])),if_pos h2];rw[if_neg h2,if_neg h2]
def DL{β:Type}{l:List (Int×β)}:gD n l=none↔n∉l.map (·.1):=by unfold gD;rw[Option.map_eq_none_iff,tD]
def qpq{β:Type}(n q:Int):∀l:List (Int×β),(l.map (·.1)).Nodup->gD q (jf n l)=if q=n then none else gD q l
 | [],_=>by show gD q []=_;split<;>rfl
 | p::r,C=>by have u:=nodup_cons.1 (show (p.1::r.map (·.1)).Nodup from C);rw[qvE];by_cases h:n=p.1;rw[if_pos h,uO];by_cases h2:q=n;rw[if_pos h2,h2,h];exact DL.2 u.1;rw[if_neg h2,if_neg (fun e=>h2 (by rw[e,h]))];rw[if_neg h,uO,qpq n q r u.2,uO];by_cases h2:q=p.1;rw[if_pos h2,if_neg (fun e=>h (by rw[<- e,h2])),if_pos h2];rw[if_neg h2,if_neg h2]
def qv1(n:Int):∀l:List Int,l.length<=(ins n l).length
 | []=>yW _
 | a::l=>by
  have:=qv1 n l
  simp only[ins];split;simp;split;exact zM _;simp only[yH];omega
def qW:fY M n=true↔2<=n/\n<M.j9.2.getD 0 0/\n∉M.Q5/\n∉M.Q1/\n∉M.J7/\gD n M.J8=none:=by unfold fY gD;rw[Option.map_eq_none_iff];simp only[yA,zT,Bool.or_eq_false_iff,decide_eq_false_iff_not,Option.isNone_iff_eq_none];constructor;rintro⟨⟨⟨⟨⟨G,I⟩,h⟩,u⟩,C⟩,E⟩;exact⟨oJ,oJ,h,u,C,E⟩;rintro⟨G,I,h,u,C,E⟩;exact⟨⟨⟨⟨⟨oJ,oJ⟩,h⟩,u⟩,C⟩,E⟩
def dP (M:dU) (x:Int):Prop:=x∈M.J8.map (·.1)\/fY M x=true
def cJ{x:Int}:x∈M.J8.map (·.1)↔∃q,gD x M.J8=some q:=by
 constructor;intro h;cases e:gD x M.J8 with
 | none=>exact absurd h (DL.1 e)
 | some q=>exact⟨q,rfl⟩
 rintro⟨q,e⟩;exact Classical.byContradiction fun h=>by rw[DL.2 h] at e;cases e
def BE(h:M.Q3=false)(n:Int):dD D M n=match gD n M.J8 with
  | some q=>(q.1,q.2,0)
  | none=>if fY M n=false then (0,[],10) else if (ee D n).2≠0 then (0,[],(ee D n).2) else eP n (ee D n).1:=by
 unfold dD gD;rw[if_neg (by rw[h];decide)];cases look n M.J8<;>rfl
def D9(u:M.Q3=false)(h:(dD D M n).2.2=0):dP M n:=by
 rw[BE u] at h;cases e:gD n M.J8 with
 | some q=>exact .inl (cJ.2 ⟨q,e⟩)
 | none=>
  rw[e] at h;dsimp only at h;split at h;cases h;rename_i C;exact .inr (oP C)
def qwv(M:dU)(u:M.Q3=false){q:Int×List Int}(h:gD n M.J8=some q):dD D M n=(q.1,q.2,0):=by rw[BE u,h]
def Ct(M':dU)(u:M.Q3=false)(h:M'.Q3=false)(C:gD n M'.J8=gD n M.J8)(E:fY M' n=fY M n):dD D M' n=dD D M n:=by rw[BE u,BE h,C,E]
def CI(M':dU)(h:gD n M'.J8=gD n M.J8)(u:fY M' n=fY M n):dP M' n↔dP M n:=by unfold dP;rw[cJ,cJ,h,u]
def zh(u:M.Wf){x:Int}(h:dP M x):2<=x/\x<M.j9.2.getD 0 0:=by rcases h with h|h;exact u.range x (by simp only[zD];exact .inr (.inr (.inr h)));exact⟨(qW.1 h).1,(qW.1 h).2.1⟩
structure lN (D:dE) (M M':dU) (q p:Int) (r:Option (Int×List Int)):Prop where
 wf:M'.Wf
 Q3:M'.Q3=false
 Q2:M'.Q2=M.Q2
 j9:M'.j9=M.j9
 Q5:M'.Q5=M.Q5
 Q9:M'.Q9=M.Q9
 z9:M.z9->M'.z9
 x6:M'.x6=M.x6
 rest:∀ x,x≠q->x≠p->dD D M' x=dD D M x
 use:∀ x,x≠q->x≠p->(dP M' x↔dP M x)
 pd:∀ x,fY M' x=true->fY M x=true
 wrote:∀ y,r=some y->dD D M' q=(y.1,y.2,0)/\dP M' q
 left:p≠q->¬ dP M' p
section
variable {D:dE} {M:dU}
def qsA{E:List Int}(R:M.Wf)(I:M.Q3=false)(hk:0<=kd/\kd<256)(hB:eB b)(hl:b.length<=500)(J:M.Q1=n::E): ∃M',fU M kd b=((n,0),M')/\lN D M M' n n (some (kd,b))/\¬dP M n/\M'.Q1=E/\M'.J7=M.J7:=by
 have e:fU M kd b=((n,0),{ M with Q1:=E,J8:=gG n (kd,b) M.J8 }):=(by rw[fU,if_neg (by rw[I];decide),iN,J]);have hw:=(qtv (kind:=kd) (body:=b) R hk hB).1;rw[e] at hw;have U:(n::(E++(M.J7++(M.Q5++M.J8.map (·.1))))).Nodup:=(by have:=R.nodup;rw[J] at this;exact this);have V:=nodup_cons.1 U;have aa:n∉M.J8.map (·.1):=fun h=>V.1 (by simp only[zD];exact .inr (.inr (.inr h)));have ab:¬dP M n:=fun h=>by rcases h with h|h;exact aa h;exact (qW.1 h).2.2.2.1 (by rw[J];simp)
 have u:∀x,gD x (gG n (kd,b) M.J8)=if x=n then some (kd,b) else gD x M.J8:=fun x=>Fw n x _ _
 have G:∀x,x≠n->fY { M with Q1:=E,J8:=gG n (kd,b) M.J8 } x=fY M x:=fun x C=>by rw[Bool.eq_iff_iff,qW,qW];dsimp only;rw[u,if_neg C,J,zG];constructor;rintro⟨h1,h2,h3,h4,h5⟩;exact⟨h1,h2,h3,fun h=>h.elim C h4,h5⟩;rintro⟨h1,h2,h3,h4,h5⟩;exact⟨h1,h2,h3,fun h=>h4 (.inr h),h5⟩
 refine⟨_,e,⟨hw,I,rfl,rfl,rfl,rfl,fun h=>?_,rfl,fun x C _=>Ct { M with Q1:=E,J8:=gG n (kd,b) M.J8 } I I (by dsimp only;rw[u,if_neg C]) (G x C),fun x C _=>CI { M with Q1:=E,J8:=gG n (kd,b) M.J8 } (by dsimp only;rw[u,if_neg C]) (G x C),fun x C=>?_,fun y hy=>?_,fun h=>absurd rfl h⟩,ab,rfl,rfl⟩
 have:=quD (kd:=kd) (l:=b) R h
 rw[e] at this;exact this;by_cases hxn:x=n
 have:=(qW.1 C).2.2.2.2.2
 dsimp only at this;rw[u,if_pos hxn] at this;cases this;rw[G x hxn] at C;exact C;cases hy;refine⟨?_,.inl (cJ.2 ⟨(kd,b),by dsimp only;rw[u,if_pos rfl]⟩)⟩;exact qwv { M with Q1:=E,J8:=gG n (kd,b) M.J8 } I (by dsimp only;rw[u,if_pos rfl])
def quP(R:M.Wf)(G:M.Q3=false)(U:0<=kd/\kd<256)(V:eB b)(hl:b.length<=500)(hf:n∈M.J8.map (·.1)): ∃M',i6 M n kd b=(0,M')/\lN D M M' n n (some (kd,b))/\M'.Q1=M.Q1/\M'.J7=M.J7:=by
 obtain⟨v,I⟩:=cJ.1 hf;have e:i6 M n kd b=(0,{ M with J8:=gG n (kd,b) M.J8 }):=by unfold gD at I;obtain⟨q,hq,_⟩:=yS.1 I;rw[i6,if_neg (by rw[G];decide),hq];dsimp only;rw[iN]
 have J:=(qwt (n:=n) (kind:=kd) (body:=b) R U V).1;rw[e] at J;have u:∀x,gD x (gG n (kd,b) M.J8)=if x=n then some (kd,b) else gD x M.J8:=fun x=>Fw n x _ _
 have E:∀x,fY { M with J8:=gG n (kd,b) M.J8 } x=fY M x:=fun x=>by rw[Bool.eq_iff_iff,qW,qW];dsimp only;rw[u];by_cases C:x=n;rw[if_pos C,C,I];simp;rw[if_neg C]
 refine⟨_,e,⟨J,G,rfl,rfl,rfl,rfl,fun h=>?_,rfl,fun x C _=>Ct { M with J8:=gG n (kd,b) M.J8 } G G (by dsimp only;rw[u,if_neg C]) (E x),fun x C _=>CI { M with J8:=gG n (kd,b) M.J8 } (by dsimp only;rw[u,if_neg C]) (E x),fun x C=>by rw[E x] at C;exact C,fun y hy=>?_,fun h=>absurd rfl h⟩,rfl,rfl⟩
 have:=qwr (n:=n) (kd:=kd) (l:=b) h
 rw[e] at this;exact this;cases hy;refine⟨?_,.inl (cJ.2 ⟨(kd,b),by dsimp only;rw[u,if_pos rfl]⟩)⟩;exact qwv { M with J8:=gG n (kd,b) M.J8 } G (by dsimp only;rw[u,if_pos rfl])
def qws(h:M.Q3=false)(u:n∉M.J8.map (·.1)):i6 M n kd b=(10,M):=by rw[i6,if_neg (by rw[h];decide),tD.2 u]
def qlo(hW:M.Wf)(V:M.Q3=false)(hu:dP M n)(J:n≠q): ∃M',e9 M n=(0,M')/\lN D M M' q n none/\(dD D M' q=dD D M q)/\(dP M' q↔dP M q)/\M.Q1.length<=M'.Q1.length:=by
 have hw:=qtc (n:=n) hW;by_cases hf:n∈M.J8.map (·.1);obtain⟨v,hv⟩:=cJ.1 hf;have ai:(M.J8.map (·.1)).Nodup:=hW.y8;have e:e9 M n=(0,{ M with J8:=jf n M.J8,Q1:=ins n M.Q1 }):=by unfold gD at hv;obtain⟨y,R,_⟩:=yS.1 hv;rw[e9,if_neg (by rw[V];decide),R]
 rw[e] at hw;have U:∀x,gD x (jf n M.J8)=if x=n then none else gD x M.J8:=fun x=>qpq n x _ ai
 have E:∀x,x≠n->fY { M with J8:=jf n M.J8,Q1:=ins n M.Q1 } x=fY M x:=fun x u=>by rw[Bool.eq_iff_iff,qW,qW];dsimp only;rw[U,if_neg u,wM];constructor;rintro⟨h1,h2,h3,h4,h5⟩;exact⟨h1,h2,h3,fun h=>h4 (.inr h),h5⟩;rintro⟨h1,h2,h3,h4,h5⟩;exact⟨h1,h2,h3,fun h=>h.elim u h4,h5⟩
 have G:¬dP { M with J8:=jf n M.J8,Q1:=ins n M.Q1 } n:=fun h=>by rcases h with h|h;obtain⟨y,R⟩:=cJ.1 h;dsimp only at R;rw[U,if_pos rfl] at R;cases R;exact (qW.1 h).2.2.2.1 (wM.2 (.inl rfl))
 have I:∀x,x≠n->dD D { M with J8:=jf n M.J8,Q1:=ins n M.Q1 } x=dD D M x:=fun x u=>Ct { M with J8:=jf n M.J8,Q1:=ins n M.Q1 } V V (by dsimp only;rw[U,if_neg u]) (E x u);have C:∀x,x≠n->(dP { M with J8:=jf n M.J8,Q1:=ins n M.Q1 } x↔dP M x):=fun x u=>CI { M with J8:=jf n M.J8,Q1:=ins n M.Q1 } (by dsimp only;rw[U,if_neg u]) (E x u);refine⟨_,e,⟨hw,V,rfl,rfl,rfl,rfl,fun h=>?_,rfl,fun x _ u=>I x u,fun x _ u=>C x u,fun x u=>?_,fun y R=>(nomatch R),fun _=>G⟩,I q fun e=>J e.symm,C q fun e=>J e.symm,?_⟩
 have:=qup (n:=n) hW h
 rw[e] at this;exact this;by_cases hxn:x=n;subst hxn;exact absurd (.inr u) G;rw[E x hxn] at u;exact u;exact qv1 n M.Q1;have af:fY M n=true:=hu.resolve_left hf;have e:e9 M n=(0,{ M with J7:=ins n M.J7 }):=by rw[e9,if_neg (by rw[V];decide),tD.2 hf];dsimp only;rw[if_pos af]
 rw[e] at hw;have E:∀x,x≠n->fY { M with J7:=ins n M.J7 } x=fY M x:=fun x u=>by rw[Bool.eq_iff_iff,qW,qW];dsimp only;rw[wM];constructor;rintro⟨h1,h2,h3,h4,h5,h6⟩;exact⟨h1,h2,h3,h4,fun h=>h5 (.inr h),h6⟩;rintro⟨h1,h2,h3,h4,h5,h6⟩;exact⟨h1,h2,h3,h4,fun h=>h.elim u h5,h6⟩
 have G:¬dP { M with J7:=ins n M.J7 } n:=fun h=>by rcases h with h|h;exact hf h;exact (qW.1 h).2.2.2.2.1 (wM.2 (.inl rfl))
 have I:∀x,x≠n->dD D { M with J7:=ins n M.J7 } x=dD D M x:=fun x u=>Ct { M with J7:=ins n M.J7 } V V rfl (E x u);have C:∀x,x≠n->(dP { M with J7:=ins n M.J7 } x↔dP M x):=fun x u=>CI { M with J7:=ins n M.J7 } rfl (E x u);refine⟨_,e,⟨hw,V,rfl,rfl,rfl,rfl,fun h=>?_,rfl,fun x _ u=>I x u,fun x _ u=>C x u,fun x u=>?_,fun y R=>(nomatch R),fun _=>G⟩,I q fun e=>J e.symm,C q fun e=>J e.symm,zM _⟩;exact h;by_cases hxn:x=n;subst hxn;exact absurd (.inr u) G;rw[E x hxn] at u;exact u
end
noncomputable def dF (D:dE) (M:dU) (k v:Nat) (p:Int):dG×Int:=
 if (dD D M p).2.2≠0 then (ie,(dD D M p).2.2) else io (dD D M p).1 (dD D M p).2.1 k v
noncomputable def dK (k v:Nat) (M:dU) (p:Int) (n:dG):(Int×Int)×dU:=
 if (eH n k v).2.2≠0 then ((0,2),M)
 else if p≠0/\(i6 M p (eH n k v).1 (eH n k v).2.1).1≠10 then ((p,(i6 M p (eH n k v).1 (eH n k v).2.1).1),(i6 M p (eH n k v).1 (eH n k v).2.1).2)
 else if (fU M (eH n k v).1 (eH n k v).2.1).1.2=0/\p≠0 then (((fU M (eH n k v).1 (eH n k v).2.1).1.1,(e9 (fU M (eH n k v).1 (eH n k v).2.1).2 p).1),(e9 (fU M (eH n k v).1 (eH n k v).2.1).2 p).2)
 else fU M (eH n k v).1 (eH n k v).2.1
structure gZ (n:dG) (k v:Nat):Prop where
 right:fx n k v
 J6:∀ a∈n.J6,eB a
 Q0:∀ a∈n.Q0,eB a
 J9:∀ x∈n.J9,x<4294967296
def gZ.load{k v:Nat}{n:dG}(h:gZ n k v)(u:dD D M p=(iv n,fZ n,0)):dF D M k v p=(n,0):=by unfold dF;rw[u];exact (if_neg (fun h=>h rfl)).trans (quU h.right h.J9)
def qrZ{k v:Nat}{n:dG}(hW:M.Wf)(ho:M.Q3=false)(hn:gZ n k v)(hp:p=0\/dP M p)(hf:M.Q1≠[]): ∃q M',dK k v M p n=((q,0),M')/\lN D M M' q (if p=0 then q else p) (some (iv n,fZ n))/\(q=p\/¬dP M q)/\M.Q1.length<=M'.Q1.length+1/\(p∈M.J8.map (·.1)->q=p/\M'.Q1=M.Q1):=by
 have hw:eH n k v=(iv n,fZ n,0):=(by unfold eH;rw[if_pos hn.right]);have hB:=qoT hn.J6 hn.Q0;have hl:=(Co hn.right).2;have hk:0<=iv n/\iv n<256:=(by unfold iv;split<;>exact⟨oM,oM⟩);unfold dK;rw[hw];dsimp only;rw[if_neg (fun h=>h rfl)];obtain⟨q,fr,I⟩:∃q fr,M.Q1=q::fr:=by
  cases e:M.Q1 with
  | nil=>exact absurd e hf
  | cons q fr=>exact⟨q,fr,rfl⟩
 obtain⟨M1,e1,u,J,ab,_⟩:=qsA (D:=D) hW ho hk hB hl I;rcases hp with rfl|hp;rw[if_neg (fun h=>h.1 rfl),if_neg (fun h=>h.2 rfl),e1];refine⟨q,M1,rfl,by rw[if_pos rfl];exact u,.inr J,by rw[I,ab];exact zM _,fun h=>?_⟩
 have:=(zh hW (.inl h)).1
 omega;have E:p≠0:=(by have:=(zh hW hp).1;omega);by_cases hfp:p∈M.J8.map (·.1);obtain⟨M2,e2,C,R,_⟩:=quP (D:=D) hW ho hk hB hl hfp;rw[e2,if_pos ⟨E,(show (0:Int)≠10 by decide)⟩];exact⟨p,M2,rfl,by rw[if_neg E];exact C,.inl rfl,by rw[R];omega,fun _=>⟨rfl,R⟩⟩;rw[qws ho hfp,if_neg (fun h=>h.2 rfl),e1,if_pos ⟨rfl,E⟩];have U:p≠q:=fun e=>J (e▸hp);have ai:dP M1 p:=(u.use p U U).2 hp;obtain⟨M2,e2,C,aj,ak,R⟩:=qlo (D:=D) u.wf u.Q3 ai U;dsimp only;rw[e2];refine⟨q,M2,rfl,?_,.inr J,by rw[I,yH,<- ab];omega,fun h=>absurd h hfp⟩;rw[if_neg E];exact⟨C.wf,C.Q3,C.Q2.trans u.Q2,C.j9.trans u.j9,C.Q5.trans u.Q5,C.Q9.trans u.Q9,fun h=>C.z9 (u.z9 h),C.x6.trans u.x6,fun x G V=>(C.rest x G V).trans (u.rest x G G),fun x G V=>(C.use x G V).trans (u.use x G G),fun x G=>u.pd x (C.pd x G),fun y hy=>by
  have:=u.wrote y hy
  exact⟨aj.trans this.1,ak.2 this.2⟩,fun h=>C.left h⟩
section
structure Grown where
 x5:Int
 J8:Bool
 key:Key
 x4:Int
def nI:Grown:=⟨0,false,[],0⟩
def fy {α:Type} (l:List α) (i:Nat) (x:α):List α:=l.take i++[x]++l.drop i
def eM (n:dG) (k v:Nat):Nat×Nat:=if n.Q4 then (n.J6.length,(dQ k v).1) else (n.J9.length,(dQ k v).2)
def dX (n:dG) (mid:Nat):dG×dG×Key:=
 if n.Q4 then ({ n with J6:=n.J6.take mid,Q0:=n.Q0.take mid },{ n with J6:=n.J6.drop mid,Q0:=n.Q0.drop mid },n.J6.getD mid [])
 else ({ n with J9:=n.J9.take mid,J6:=n.J6.take (mid-1) },{ n with J9:=n.J9.drop mid,J6:=n.J6.drop mid },n.J6.getD (mid-1) [])
noncomputable def fS (k v:Nat) (M:dU) (p:Int) (n:dG) (J8:Bool):(Grown×Int)×dU:=
 if (eM n k v).1>(eM n k v).2 then
  if (dK k v M 0 (dX n ((eM n k v).1 / 2)).2.1).1.2≠0 then ((nI,(dK k v M 0 (dX n ((eM n k v).1 / 2)).2.1).1.2),(dK k v M 0 (dX n ((eM n k v).1 / 2)).2.1).2)
  else ((⟨(dK k v (dK k v M 0 (dX n ((eM n k v).1 / 2)).2.1).2 p (dX n ((eM n k v).1 / 2)).1).1.1,J8,(dX n ((eM n k v).1 / 2)).2.2,(dK k v M 0 (dX n ((eM n k v).1 / 2)).2.1).1.1⟩,
    (dK k v (dK k v M 0 (dX n ((eM n k v).1 / 2)).2.1).2 p (dX n ((eM n k v).1 / 2)).1).1.2),
    (dK k v (dK k v M 0 (dX n ((eM n k v).1 / 2)).2.1).2 p (dX n ((eM n k v).1 / 2)).1).2)
 else ((⟨(dK k v M p n).1.1,J8,[],0⟩,(dK k v M p n).1.2),(dK k v M p n).2)
def gp (n:dG) (c:Nat) (g:Grown):dG:=
 if g.x4≠0 then { n with J9:=fy (n.J9.set c g.x5) (c+1) g.x4,J6:=fy n.J6 c g.key } else { n with J9:=n.J9.set c g.x5 }
noncomputable def gM (D:dE) (k v:Nat) (key val:Key):Nat->dU->Int->(Grown×Int)×dU
 | 0,M,_=>((nI,-1),M)
 | f+1,M,p=>
  if (dF D M k v p).2≠0 then ((nI,(dF D M k v p).2),M)
  else if (dF D M k v p).1.Q4 then
   if (dF D M k v p).1.J6[dI (dF D M k v p).1.J6 key]?=some key then fS k v M p { (dF D M k v p).1 with Q0:=(dF D M k v p).1.Q0.set (dI (dF D M k v p).1.J6 key) val } false
   else fS k v M p { (dF D M k v p).1 with J6:=fy (dF D M k v p).1.J6 (dI (dF D M k v p).1.J6 key) key,Q0:=fy (dF D M k v p).1.Q0 (dI (dF D M k v p).1.J6 key) val } true
  else if (gM D k v key val f M ((dF D M k v p).1.J9.getD (dZ (dF D M k v p).1.J6 key) 0)).1.2≠0 then
   ((nI,(gM D k v key val f M ((dF D M k v p).1.J9.getD (dZ (dF D M k v p).1.J6 key) 0)).1.2),(gM D k v key val f M ((dF D M k v p).1.J9.getD (dZ (dF D M k v p).1.J6 key) 0)).2)
  else if (gM D k v key val f M ((dF D M k v p).1.J9.getD (dZ (dF D M k v p).1.J6 key) 0)).1.1.x5=(dF D M k v p).1.J9.getD (dZ (dF D M k v p).1.J6 key) 0/\(gM D k v key val f M ((dF D M k v p).1.J9.getD (dZ (dF D M k v p).1.J6 key) 0)).1.1.x4=0 then
   ((⟨p,(gM D k v key val f M ((dF D M k v p).1.J9.getD (dZ (dF D M k v p).1.J6 key) 0)).1.1.J8,[],0⟩,0),(gM D k v key val f M ((dF D M k v p).1.J9.getD (dZ (dF D M k v p).1.J6 key) 0)).2)
  else fS k v (gM D k v key val f M ((dF D M k v p).1.J9.getD (dZ (dF D M k v p).1.J6 key) 0)).2 p (gp (dF D M k v p).1 (dZ (dF D M k v p).1.J6 key) (gM D k v key val f M ((dF D M k v p).1.J9.getD (dZ (dF D M k v p).1.J6 key) 0)).1.1) (gM D k v key val f M ((dF D M k v p).1.J9.getD (dZ (dF D M k v p).1.J6 key) 0)).1.1.J8
structure gU where
 x5:Int
 size:Nat
 y3:fL
 y4:List Int
abbrev gC:=Key×gU
def dY (L:fL):dG:=⟨true,L.map (·.1),L.map (·.2),[]⟩
def dH (es:List gC):dG:=⟨false,(es.map (·.1)).tail,[],es.map (·.2.x5)⟩
structure fG (es:List gC):Prop where
 pair:es.Pairwise fun a b=>fD a.1 b.1/\∀ x∈a.2.y3,fD x.1 b.1
 low:∀ e∈es,∀ x∈e.2.y3,lz e.1 x.1
def minOf (k v:Nat) (h:Nat):Nat:=if h=0 then (dQ k v).1 / 2 else (dQ k v).2 / 2
def Has (D:dE) (M:dU) (k v:Nat):Nat->gU->Prop
 | 0,s=>s.y4=[s.x5]/\s.size=s.y3.length/\gZ (dY s.y3) k v/\dD D M s.x5=(3,fZ (dY s.y3),0)
 | h+1,s=>∃u:List gC,(u.map (·.1)).head?=some []/\s.size=u.length/\s.y3=u.flatMap (·.2.y3)/\s.y4=s.x5::u.flatMap (·.2.y4)/\gZ (dH u) k v/\dD D M s.x5=(4,fZ (dH u),0)/\fG u/\
   ∀e∈u,Has D M k v h e.2/\minOf k v h<=e.2.size
def AP(x:Key):lz [] x:=by unfold lz fD;cases x<;>simp[cmpL]
def qlJ{x:Key}:¬fD x []:=AP x
section
variable {D:dE} {M M':dU} {k v:Nat}
def Has.mem:∀ {h:Nat} {s:gU},Has D M k v h s->s.x5∈s.y4
 | 0,s,u=>by rw[u.1];simp
 | h+1,s,⟨E,_,_,_,C,_⟩=>by rw[C];simp
def Has.q8:∀ {h:Nat} {s:gU},Has D M k v h s->(∀x∈s.y4,dD D M' x=dD D M x)->Has D M' k v h s
 | 0,s,⟨C,G,u,I⟩,E=>⟨C,G,u,by rw[E s.x5 (by rw[C];simp)];exact I⟩
 | h+1,s,⟨U,V,C,G,u,I,h5,h6,R⟩,E=>⟨U,V,C,G,u,I,by rw[E s.x5 (by rw[u];simp)];exact h5,h6,fun e J=>⟨(R e J).1.q8 fun x hx=>E x (by rw[u];exact zN _ (yJ.2 ⟨e,J,hx⟩)),(R e J).2⟩⟩
def Has.read:∀ {h:Nat} {s:gU},Has D M k v h s->∀x∈s.y4,(dD D M x).2.2=0
 | 0,s,⟨C,I,E,G⟩,x,u=>by rw[C] at u;rw[zE.1 u,G]
 | h+1,s,⟨V,h0,C,I,E,G,J,h6,R⟩,x,u=>by rw[E] at u;rcases zG.1 u with rfl|u;rw[J];obtain⟨e,U,u⟩:=yJ.1 u;exact (R e U).1.read x u
def Has.J4(u:M.Q3=false){s:gU}(C:Has D M k v h s):∀x∈s.y4,dP M x:=fun x E=>D9 u (C.read x E)
def fx.wm(h:fx (dY L) k v):L≠[]:=fun e=>by
 have:=h.2.2.2
 rw[if_pos (show (dY L).Q4=true from rfl)] at this;have u:=this.2.1;rw[e] at u;exact absurd u oM
def fx.x9{es:List gC}(h:fx (dH es) k v):2<=es.length/\es.length<=(dQ k v).2:=by
 have:=h.2.2.2
 rw[if_neg (show ¬(dH es).Q4=true from fun e=>nomatch e)] at this;have u:=this.2.2.1;have C:=this.2.2.2.1;have e:(dH es).J9.length=es.length:=(by show (es.map _).length=_;rw[zK]);rw[e] at u C;exact⟨u,C⟩
def Has.ne:∀ {h:Nat} {s:gU},Has D M k v h s->s.y3≠[]
 | 0,s,⟨G,u,C,E⟩=>C.right.wm
 | h+1,s,⟨I,R,G,u,C,E,U,V,J⟩=>fun e=>by
  have:=E.right.x9
  cases I with
  | nil=>simp at this
  | cons a r=>
   rw[u,yG] at e;exact (J a oL).1.ne (append_eq_nil_iff.1 e).1
def fG.mid{A B:List gC}{e:gC}(h:fG (A++e::B)):(∀a∈A,∀x∈a.2.y3,fD x.1 e.1)/\(∀b∈B,fD e.1 b.1/\(∀x∈e.2.y3,fD x.1 b.1)/\∀y∈b.2.y3,lz b.1 y.1):=by
 have u:=pairwise_append.1 h.pair;refine⟨fun a E x G=>(u.2.2 a E e oL).2 x G,fun b C=>?_⟩
 have:=(yI.1 u.2.1).1 b C
 exact⟨this.1,this.2,h.low b (by simp[C])⟩
def fG.sort:∀ {es:List gC},fG es->(∀e∈es,eU e.2.y3)->eU (es.flatMap (·.2.y3))
 | [],_,_=>.nil
 | e::es,h,E=>by rw[yG,eU.sC];have G:=yI.1 h.pair;refine⟨E e oL,fG.sort ⟨G.2,fun e u=>h.low e (zN _ u)⟩ fun e u=>E e (zN _ u),fun x J y C=>?_⟩;obtain⟨b,I,C⟩:=yJ.1 C;exact qK ((G.1 b I).2 x J) (h.low b (zN _ I) y C)
def Has.sort:∀ {h:Nat} {s:gU},Has D M k v h s->eU s.y3
 | 0,s,⟨E,u,C,G⟩=>C.right.2.2.1
 | h+1,s,⟨U,V,E,u,C,G,h5,I,J⟩=>by rw[u];exact I.sort fun e R=>(J e R).1.sort
def lL (k v:Nat) (L:fL):Prop:=∀x∈L,x.1.length=k/\x.2.length=v/\eB x.1/\eB x.2
def Has.vc:∀ {h:Nat} {s:gU},Has D M k v h s->lL k v s.y3
 | 0,s,⟨G,E,C,I⟩=>fun x u=>⟨C.right.1 x.1 (zY u),C.right.2.1 x.2 (zY u),C.J6 x.1 (zY u),C.Q0 x.2 (zY u)⟩
 | h+1,s,⟨U,V,G,E,C,I,h5,h6,J⟩=>fun x u=>by rw[E] at u;obtain⟨e,R,u⟩:=yJ.1 u;exact (J e R).1.vc x u
def A9(C:lL k v L)(E:eU L)(G:1<=L.length)(I:L.length<=(dQ k v).1):gZ (dY L) k v:=by refine⟨⟨fun a u=>?_,fun a u=>?_,E,?_⟩,fun a u=>?_,fun a u=>?_,fun x h=>nomatch h⟩;obtain⟨x,h,rfl⟩:=mem_map.1 u;exact (C x h).1;obtain⟨x,h,rfl⟩:=mem_map.1 u;exact (C x h).2.1;rw[if_pos (show (dY L).Q4=true from rfl)];refine⟨rfl,?_,?_,?_⟩;show 1<=(L.map _).length;rw[zK];exact G;show (L.map _).length<=_;rw[zK];exact I;show (L.map _).length=(L.map _).length;rw[zK,zK];obtain⟨x,h,rfl⟩:=mem_map.1 u;exact (C x h).2.2.1;obtain⟨x,h,rfl⟩:=mem_map.1 u;exact (C x h).2.2.2
def qyI{es:List gC}(E:∀a∈(es.map (·.1)).tail,a.length=k/\eB a)(I:fE (es.map (·.1)).tail)(J:2<=es.length)(R:es.length<=(dQ k v).2)(G:∀e∈es,2<=e.2.x5/\e.2.x5<4294967296):gZ (dH es) k v:=by refine⟨⟨fun a h=>(E a h).1,fun a h=>(nomatch h),I,?_⟩,fun a h=>(E a h).2,fun a h=>(nomatch h),fun x u=>?_⟩;rw[if_neg (show ¬(dH es).Q4=true from fun e=>nomatch e)];have e1:(dH es).J9.length=es.length:=(by show (es.map _).length=_;rw[zK]);have U:(dH es).J6.length=es.length-1:=(by show ((es.map _).tail).length=_;rw[length_tail,zK]);refine⟨fun x u=>?_,rfl,by rw[e1];exact J,by rw[e1];exact R,by rw[e1,U];omega⟩;obtain⟨e,C,rfl⟩:=mem_map.1 u;exact (G e C).1;obtain⟨e,C,rfl⟩:=mem_map.1 u;exact (G e C).2
def fG.rising{es:List gC}(h:fG es):fE (es.map (·.1)).tail:=by have u:(es.map (·.1)).Pairwise fD:=pairwise_map.2 (h.pair.imp fun h=>h.1);exact List.Pairwise.sublist (tail_sublist _) u
structure Step (D:dE) (M M':dU) (P P':List Int):Prop where
 wf:M'.Wf
 Q3:M'.Q3=false
 Q2:M'.Q2=M.Q2
 j9:M'.j9=M.j9
 Q5:M'.Q5=M.Q5
 Q9:M'.Q9=M.Q9
 z9:M.z9->M'.z9
 x6:M'.x6=M.x6
 rest:∀ x,dP M x->x∉P->dD D M' x=dD D M x/\dP M' x/\x∉P'
 use:∀ x,dP M' x->x∈P'\/(dP M x/\x∉P)
 has:∀ x∈P',dP M' x
 new:∀ x∈P',x∈P\/¬ dP M x
 nodup:P'.Nodup
 pd:∀ x,fY M' x=true->fY M x=true
def Step.refl(C:M.Wf)(E:M.Q3=false){P:List Int}(G:∀x∈P,dP M x)(I:P.Nodup):Step D M M P P:=
 ⟨C,E,rfl,rfl,rfl,rfl,id,rfl,fun x u J=>⟨rfl,u,J⟩,fun x u=>by by_cases h:x∈P;exact .inl h;exact .inr ⟨u,h⟩,G,fun x u=>.inl u,I,fun x u=>u⟩
def Step.perm{P P' Q I:List Int}(h:Step D M M' P P')(G:P.Perm Q)(u:P'.Perm I):Step D M M' Q I:=
 ⟨h.wf,h.Q3,h.Q2,h.j9,h.Q5,h.Q9,h.z9,h.x6,fun x C J=>by obtain⟨R,U,V⟩:=h.rest x C (fun E=>J (G.mem_iff.1 E));exact⟨R,U,fun E=>V (u.mem_iff.2 E)⟩,fun x C=>(h.use x C).imp (fun h=>u.mem_iff.1 h) fun h=>⟨h.1,fun E=>h.2 (G.mem_iff.2 E)⟩,fun x C=>h.has x (u.mem_iff.2 C),fun x C=>(h.new x (u.mem_iff.2 C)).imp (fun h=>G.mem_iff.1 h) id,u.nodup_iff.1 h.nodup,h.pd⟩
def Step.beside{P P' Z:List Int}(h:Step D M M' P P')(R:∀x∈Z,dP M x)(V:(Z++P).Nodup):Step D M M' (Z++P) (Z++P'):=by have U:=yL.1 V;have E:∀x∈Z,x∉P:=fun x u I=>U.2.2 x u x I rfl;refine⟨h.wf,h.Q3,h.Q2,h.j9,h.Q5,h.Q9,h.z9,h.x6,fun x u I=>?_,fun x u=>?_,fun x u=>?_,fun x u=>?_,?_,h.pd⟩;obtain⟨G,J,h3⟩:=h.rest x u (fun C=>I (zI _ C));exact⟨G,J,fun C=>(zD.1 C).elim (fun C=>I (zH _ C)) h3⟩;rcases h.use x u with G|⟨G,J⟩;exact .inl (zI _ G);by_cases hz:x∈Z;exact .inl (zH _ hz);exact .inr ⟨G,fun C=>(zD.1 C).elim hz J⟩;rcases zD.1 u with u|u;exact (h.rest x (R x u) (E x u)).2.1;exact h.has x u;rcases zD.1 u with u|u;exact .inl (zH _ u);exact (h.new x u).imp (fun h=>zI _ h) id;rw[yL];exact⟨U.1,h.nodup,fun x u y hy e=>(h.rest x (R x u) (E x u)).2.2 (e▸hy)⟩
def Step.trans{M1:dU}{P Q R:List Int}(h:Step D M M1 P Q)(g:Step D M1 M' Q R):Step D M M' P R:=
 ⟨g.wf,g.Q3,g.Q2.trans h.Q2,g.j9.trans h.j9,g.Q5.trans h.Q5,g.Q9.trans h.Q9,fun x=>g.z9 (h.z9 x),g.x6.trans h.x6,fun x C I=>by
  obtain⟨u,E,G⟩:=h.rest x C I;obtain⟨J,U,V⟩:=g.rest x E G;exact⟨J.trans u,U,V⟩,fun x C=>by
  rcases g.use x C with u|⟨u,E⟩;exact .inl u;exact (h.use x u).elim (fun G=>absurd G E) .inr,g.has,fun x C=>by
  rcases g.new x C with u|u;exact h.new x u;by_cases hP:x∈P;exact .inl hP;by_cases hu:dP M x;exact absurd (h.rest x hu hP).2.1 u;exact .inr hu,g.nodup,fun x C=>h.pd x (g.pd x C)⟩
def lN.step(J:M.Q3=false)(h:lN D M M' q p (some r))(R:dP M p)(E:q=p\/¬dP M q):Step D M M' [p] [q]:=by
 have I:=h.wrote r rfl;refine⟨h.wf,h.Q3,h.Q2,h.j9,h.Q5,h.Q9,h.z9,h.x6,fun x G u=>?_,fun x G=>?_,fun x G=>?_,fun x G=>?_,oL,h.pd⟩;have u:x≠p:=(oP u);have C:x≠q:=fun e=>by rcases E with E|E;exact u (e.trans E);exact E (e▸G)
 exact⟨h.rest x C u,(h.use x C u).2 G,by simpa using C⟩;by_cases C:x=q;exact .inl (by simp[C]);by_cases u:x=p;subst u;exact absurd G (h.left (fun e=>C e));exact .inr ⟨(h.use x C u).1 G,by simpa using u⟩;rw[zE.1 G];exact I.2;rw[zE.1 G];rcases E with E|E;exact .inl (by simp[E]);exact .inr E
def lN.J8(I:M.Q3=false)(h:lN D M M' q q (some r))(E:¬dP M q):Step D M M' [] [q]:=by have G:=h.wrote r rfl;refine⟨h.wf,h.Q3,h.Q2,h.j9,h.Q5,h.Q9,h.z9,h.x6,fun x C _=>?_,fun x C=>?_,fun x C=>?_,fun x C=>?_,oL,h.pd⟩;have u:x≠q:=fun e=>E (e▸C);exact⟨h.rest x u u,(h.use x u u).2 C,by simpa using u⟩;by_cases u:x=q;exact .inl (by simp[u]);exact .inr ⟨(h.use x u u).1 C,oL⟩;rw[zE.1 C];exact G.2;rw[zE.1 C];exact .inr E
end
end
section
section
variable {D:dE} {M M':dU} {k v:Nat}
def EE{n:dG}(C:M.Wf)(E:M.Q3=false)(G:gZ n k v)(h:dP M p)(I:M.Q1≠[]): ∃q M',dK k v M p n=((q,0),M')/\Step D M M' [p] [q]/\dD D M' q=(iv n,fZ n,0)/\M.Q1.length<=M'.Q1.length+1/\(p∈M.J8.map (·.1)->q=p/\M'.Q1=M.Q1):=by obtain⟨q,M',e,t,J,R,U⟩:=qrZ (D:=D) C E G (.inr h) I;have u:p≠0:=(by have:=(zh C h).1;omega);rw[if_neg u] at t;exact⟨q,M',e,t.step E h J,(t.wrote _ rfl).1,R,U⟩
def D0{n:dG}(E:M.Wf)(u:M.Q3=false)(G:gZ n k v)(I:M.Q1≠[]): ∃q M',dK k v M 0 n=((q,0),M')/\Step D M M' [] [q]/\dD D M' q=(iv n,fZ n,0)/\M.Q1.length<=M'.Q1.length+1/\q≠0:=by obtain⟨q,M',e,t,J,R,_⟩:=qrZ (D:=D) E u G (.inl rfl) I;rw[if_pos rfl] at t;have C:=t.wrote _ rfl;have U:=(zh t.wf C.2).1;have h:¬dP M q:=J.resolve_left oJ;exact⟨q,M',e,t.J8 u h,C.1,R,oJ⟩
def qlQ{n:dG}{J8:Bool}(h:M.Wf)(u:M.Q3=false)(C:gZ n k v)(R:(eM n k v).1<=(eM n k v).2)(E:dP M p)(G:M.Q1≠[]): ∃q M',fS k v M p n J8=((⟨q,J8,[],0⟩,0),M')/\Step D M M' [p] [q]/\dD D M' q=(iv n,fZ n,0)/\M.Q1.length<=M'.Q1.length+1:=by obtain⟨q,M',e,st,I,J,_⟩:=EE (D:=D) h u C E G;refine⟨q,M',?_,st,I,J⟩;unfold fS;rw[iN,e]
def qpV{n:dG}{J8:Bool}{mid:Nat}(hW:M.Wf)(ho:M.Q3=false)(C:(eM n k v).1 / 2=mid)(h1:gZ (dX n mid).1 k v)(h2:gZ (dX n mid).2.1 k v)(hs:(eM n k v).1>(eM n k v).2)(hp:dP M p)(hf:2<=M.Q1.length): ∃q o M',fS k v M p n J8=((⟨q,J8,(dX n mid).2.2,o⟩,0),M')/\o≠0/\Step D M M' [p] [q,o]/\dD D M' q=(iv (dX n mid).1,fZ (dX n mid).1,0)/\dD D M' o=(iv (dX n mid).2.1,fZ (dX n mid).2.1,0)/\M.Q1.length<=M'.Q1.length+2:=by
 subst C;obtain⟨o,M1,e1,u,R,E,U⟩:=D0 (D:=D) hW ho h2 (fun e=>by rw[e] at hf;exact absurd hf oM);have s1:=u.beside (Z:=[p]) (fun x V=>by rw[zE.1 V];exact hp) oL;have aa:dP M1 p:=s1.has p oL;obtain⟨q,M2,e2,G,ab,am,_⟩:=EE (D:=D) u.wf u.Q3 h1 aa (fun e=>by rw[e] at E;simp at E;omega);have I:o≠p:=fun e=>by rcases u.new o oL with h|h;cases h;exact h (e▸hp)
 have J:dP M1 o:=u.has o oL;have s2:=G.beside (Z:=[o]) (fun x V=>by rw[zE.1 V];exact J) (oP I);refine⟨q,o,M2,?_,U,(s1.perm (.refl _) (List.Perm.swap _ _ _)).trans (s2.perm (.refl _) (List.Perm.swap _ _ _)),ab,?_,oJ⟩;unfold fS;rw[if_pos hs,e1];dsimp only;rw[if_neg (fun h=>h rfl),e2];rw[(G.rest o J (oP I)).1];exact R
def qzD{val:Key}{i:Nat}(h:(dL L)[i]?=some key):(⟨(dY L).Q4,dL L,(dY L).Q0.set i val,(dY L).J9⟩:dG)=dY (L.set i (key,val)):=by
 unfold dY;rw[map_set,map_set];have:(L.map (·.1)).set i key=L.map (·.1):=by obtain⟨u,C⟩:=zP.1 h;rw[<- C];exact set_getElem_self u
 rw[this]
def qyS{val:Key}{i:Nat}:(⟨(dY L).Q4,fy (dL L) i key,fy (dY L).Q0 i val,(dY L).J9⟩:dG)=dY (L.take i++[(key,val)]++L.drop i):=by unfold dY fy;simp only[xM,xO,xP,xN,map_nil]
def qwa{mid:Nat}(h:mid<L.length):dX (dY L) mid=(dY (L.take mid),dY (L.drop mid),L[mid].1):=by unfold dX;rw[if_pos (show (dY L).Q4=true from rfl)];unfold dY;simp only[xO,xP,Prod.mk.injEq,true_and];rw[yQ,zQ,zA h];rfl
def CQ:eM (dY L) k v=(L.length,(dQ k v).1):=by unfold eM;rw[if_pos (show (dY L).Q4=true from rfl)];show ((L.map _).length,_)=_;rw[zK]
def lL.sub{L':fL}(h:lL k v L)(u:∀x∈L',x∈L):lL k v L':=fun x C=>h x (u x C)
def eU.take{L:fL}(h:eU L)(n:Nat):eU (L.take n):=by unfold eU dL;rw[xO];exact fE.take h n
def eU.drop{L:fL}(h:eU L)(n:Nat):eU (L.drop n):=by unfold eU dL;rw[xP];exact fE.drop h n
def zk(h:gZ (dY L) k v)(u:dD D M q=(3,fZ (dY L),0)):Has D M k v 0 ⟨q,L.length,L,[q]⟩:=⟨rfl,rfl,h,u⟩
structure uI (D:dE) (M:dU) (k v:Nat) (h:Nat) (s:gU) (key val:Key) (g:Grown) (M':dU):Prop where
 J8:g.J8=decide (key∉dL s.y3)
 Q1:M.Q1.length<=M'.Q1.length+2*(h+1)
 Cn:(g.x4=0/\∃ n P,Has D M' k v h ⟨g.x5,n,fC key val s.y3,P⟩/\Step D M M' s.y4 P/\s.size<=n)\/
  (g.x4≠0/\∃ n1 L1 P1 n2 L2 P2,Has D M' k v h ⟨g.x5,n1,L1,P1⟩/\Has D M' k v h ⟨g.x4,n2,L2,P2⟩/\L1++L2=fC key val s.y3/\(∀ x∈L1,fD x.1 g.key)/\(∀ y∈L2,lz g.key y.1)/\g.key.length=k/\eB g.key/\minOf k v h<=n1/\minOf k v h<=n2/\Step D M M' s.y4 (P1++P2))
structure gN (k v:Nat):Prop where
 Q4:2<=(dQ k v).1
 inner:4<=(dQ k v).2
def qrH{L':fL}{val:Key}{J8:Bool}(hc:gN k v)(hW:M.Wf)(ho:M.Q3=false)(hp:dP M p)(hf:2<=M.Q1.length)(U:lL k v L')(V:eU L')(h1:1<=L'.length)(h2:L'.length<=(dQ k v).1+1)(h3:L.length<=L'.length)(he:L'=fC key val L)(C:J8=decide (key∉dL L)): ∃g M',fS k v M p (dY L') J8=((g,0),M')/\uI D M k v 0 ⟨p,L.length,L,[p]⟩ key val g M':=by by_cases hb:L'.length<=(dQ k v).1;have hn:=A9 U V h1 hb;obtain⟨q,M',e,st,hr,hl⟩:=qlQ (D:=D) (J8:=J8) hW ho hn (by rw[CQ];exact hb) hp (fun e=>by rw[e] at hf;exact absurd hf oM);refine⟨_,M',e,C,by show M.Q1.length<=M'.Q1.length+2;omega,.inl ⟨rfl,L'.length,[q],?_,st,h3⟩⟩;rw[<- he];exact zk hn hr;have aj:L'.length=(dQ k v).1+1:=oJ;have av:=hc.Q4;have h:L'.length / 2<L'.length:=oJ;have hh:=qwa h;have n1:gZ (dY (L'.take (L'.length / 2))) k v:=A9 (U.sub fun x E=>yU E) (V.take _) (by rw[yK];omega) (by rw[yK];omega);have n2:gZ (dY (L'.drop (L'.length / 2))) k v:=A9 (U.sub fun x E=>yT E) (V.drop _) (by rw[yB];omega) (by rw[yB];omega);obtain⟨q,o,M',e,ad,st,G,I,hl⟩:=qpV (D:=D) (k:=k) (v:=v) (p:=p) (J8:=J8) (mid:=L'.length / 2) (n:=dY L') hW ho (by rw[CQ]) (by rw[hh];exact n1) (by rw[hh];exact n2) (by rw[CQ];show L'.length>_;omega) hp hf;rw[hh] at e G I;have J:L'=L'.take (L'.length / 2)++L'.drop (L'.length / 2):=(xD _ _).symm;have hd:=zX h;have u:=V;rw[J] at u;have u:=eU.sC.1 u;have R:=U _ (zW h);refine⟨⟨q,J8,L'[L'.length / 2].1,o⟩,M',e,C,by show M.Q1.length<=M'.Q1.length+2;omega,.inr ⟨ad,(L'.take (L'.length / 2)).length,_,[q],(L'.drop (L'.length / 2)).length,_,[o],zk n1 G,zk n2 I,by rw[<- J];exact he,fun x E=>u.2.2 x E _ (by rw[hd];exact mem_cons_self),fun y hy=>?_,R.1,R.2.2.1,?_,?_,st⟩⟩;have h5:=u.2.1;rw[hd] at hy h5;rcases zG.1 hy with rfl|hy;exact qw;exact rX (wc (x:=L'[L'.length / 2].1) (r:=dL _) h5 y.1 (zY hy));rw[yK];show (dQ k v).1 / 2<=_;omega;rw[yB];show (dQ k v).1 / 2<=_;omega
def tW{es:List gC}(u:(es.map (·.1)).head?=some [])(R:fG es):∃A e B,es=A++e::B/\A.length=dZ ((es.map (·.1)).tail) key/\lz e.1 key/\(∀b∈B,fD key b.1)/\(es.map (·.2.x5)).getD (dZ ((es.map (·.1)).tail) key) 0=e.2.x5:=by
 have U:=R.rising;have C:=xh ((es.map (·.1)).tail) key;have E:es≠[]:=fun e=>by rw[e] at u;cases u
 have I:0<es.length:=length_pos_iff.2 E;have h:dZ ((es.map (·.1)).tail) key<es.length:=(by rw[length_tail,zK] at C;omega);generalize J:dZ ((es.map (·.1)).tail) key=c at h;have G:es=es.take c++es[c]::es.drop (c+1):=(by rw[<- zX h,xD]);refine⟨es.take c,es[c],es.drop (c+1),G,by rw[yK];omega,?_,fun b V=>?_,?_⟩;cases c with
 | zero=>
  have:es[0].1=[]:=by
   cases es with
   | nil=>cases u
   | cons a r=>simpa using u
  rw[this];exact AP _
 | succ c=>
  refine qnj (l:=(es.map (·.1)).tail) (k:=key) ?_;rw[J];have h1:(es.map (·.1)).tail[c]?=some es[c+1].1:=(by rw[List.getElem?_tail,zQ,zA h];rfl);refine yE (i:=c) ?_;rw[xA,iP];exact h1
 refine qlz (l:=(es.map (·.1)).tail) U ?_;rw[J];have:(es.map (·.1)).tail.drop c=(es.drop (c+1)).map (·.1):=(by rw[<- drop_one,xC,xP,Nat.add_comm]);rw[this];exact zY V;rw[yQ,zQ,zA h];rfl
def pU{α:Type}{f:gC->List α}{A B:List gC}{e:gC}:(A++e::B).flatMap f=A.flatMap f++(f e++B.flatMap f):=by rw[yP,yG]
def fG.put{A B:List gC}{e:gC}{s:gU}(h:fG (A++e::B))(I:lz e.1 key)(J:∀b∈B,fD key b.1)(U:∀x∈s.y3,x.1=key\/x∈e.2.y3):fG (A++(e.1,s)::B):=by have G:=pairwise_append.1 h.pair;have R:=yI.1 G.2.1;refine⟨pairwise_append.2 ⟨G.1,yI.2 ⟨fun b u=>⟨(R.1 b u).1,fun x E=>?_⟩,R.2⟩,fun a V b u=>?_⟩,fun b u x E=>?_⟩;rcases U x E with C|C;rw[C];exact J b u;exact (R.1 b u).2 x C;rcases zG.1 u with rfl|u;exact G.2.2 a V e oL;exact G.2.2 a V b (by simp[u]);rcases zD.1 u with u|u;exact h.low b (by simp[u]) x E;rcases zG.1 u with rfl|u;rcases U x E with C|C;rw[C];exact I;exact h.low e oL x C;exact h.low b (by simp[u]) x E
def fG.vS{A B:List gC}{lo:Key}{s s1 s2:gU}(h:fG (A++(lo,s)::B))(G:s.y3=s1.y3++s2.y3)(h1:∀x∈s1.y3,fD x.1 m)(h2:∀y∈s2.y3,lz m y.1)(I:s1.y3≠[])(J:s2.y3≠[]):fG (A++(lo,s1)::(m,s2)::B):=by have hp:=pairwise_append.1 h.pair;have R:=yI.1 hp.2.1;have U:=h.low (lo,s) oL;obtain⟨x1,V⟩:=exists_mem_of_ne_nil _ I;obtain⟨y1,aa⟩:=exists_mem_of_ne_nil _ J;have hm:fD lo m:=Ap (U x1 (by show x1∈s.y3;rw[G];exact zH _ V)) (h1 x1 V);have af:∀b∈B,fD m b.1:=fun b u=>Ap (h2 y1 aa) ((R.1 b u).2 y1 (by show y1∈s.y3;rw[G];exact zI _ aa));refine⟨pairwise_append.2 ⟨hp.1,yI.2 ⟨fun b u=>?_,yI.2 ⟨fun b u=>⟨af b u,fun x C=>(R.1 b u).2 x (by show x∈s.y3;rw[G];exact zI _ C)⟩,R.2⟩⟩,fun a ha b u=>?_⟩,fun b u x C=>?_⟩;rcases zG.1 u with rfl|u;exact⟨hm,fun x C=>h1 x C⟩;exact⟨(R.1 b u).1,fun x C=>(R.1 b u).2 x (by show x∈s.y3;rw[G];exact zH _ C)⟩;have E:=hp.2.2 a ha (lo,s) oL;rcases zG.1 u with rfl|u;exact E;rcases zG.1 u with rfl|u;exact⟨om E.1 hm,fun x C=>om (E.2 x C) hm⟩;exact hp.2.2 a ha b (by simp[u]);rcases zD.1 u with u|u;exact h.low b (by simp[u]) x C;rcases zG.1 u with rfl|u;exact U x (by show x∈s.y3;rw[G];exact zH _ C);rcases zG.1 u with rfl|u;exact h2 x C;exact h.low b (by simp[u]) x C
def Ce{es:List gC}:eM (dH es) k v=(es.length,(dQ k v).2):=by unfold eM;rw[if_neg (show ¬(dH es).Q4=true from fun e=>nomatch e)];show ((es.map _).length,_)=_;rw[zK]
def jx:List gC->List gC
 | []=>[]
 | e::r=>([],e.2)::r
def qxy(es:List gC):dH (jx es)=dH es:=by cases es<;>rfl
def qvW{es:List gC}{mid:Nat}(E:1<=mid)(h:mid<es.length):dX (dH es) mid=(dH (es.take mid),dH (jx (es.drop mid)),es[mid].1):=by
 unfold dX;rw[if_neg (show ¬(dH es).Q4=true from fun e=>nomatch e),qxy];unfold dH;have e1:(es.map (·.1)).tail.take (mid-1)=((es.take mid).map (·.1)).tail:=by rw[<- drop_one,<- drop_one,xO,drop_take]
 have u:(es.map (·.1)).tail.drop mid=((es.drop mid).map (·.1)).tail:=(by rw[<- drop_one,<- drop_one,xP,xC,xC,Nat.add_comm]);have C:(es.map (·.1)).tail.getD (mid-1) []=es[mid].1:=(by rw[yQ,List.getElem?_tail,zQ,show mid-1+1=mid by omega,zA h];rfl);dsimp only;rw[e1,u,C];simp only[xO,xP]
def fG.take{es:List gC}(h:fG es)(n:Nat):fG (es.take n):=⟨List.Pairwise.sublist (take_sublist n es) h.pair,fun e u=>h.low e (yU u)⟩
def fG.drop{es:List gC}(h:fG es)(n:Nat):fG (es.drop n):=⟨List.Pairwise.sublist (drop_sublist n es) h.pair,fun e u=>h.low e (yT u)⟩
def fG.jx{es:List gC}(h:fG es):fG (jx es):=by
 cases es with
 | nil=>exact h
 | cons e r=>
  have C:=yI.1 h.pair;refine⟨yI.2 ⟨fun b u=>⟨?_,(C.1 b u).2⟩,C.2⟩,fun b u x G=>?_⟩
  have:=(C.1 b u).1
  cases E:b.1 with
  | nil=>rw[E] at this;exact absurd this qlJ
  | cons y l=>show cmpL [] (y::l)<0;simp[cmpL]
  rcases zG.1 u with rfl|u;exact AP _;exact h.low b (zN _ u) x G
def qnN{α:Type}{f:gU->List α}(es:List gC):(jx es).flatMap (fun e=>f e.2)=es.flatMap fun e=>f e.2:=by cases es<;>rfl
def qpO{P:gU->Prop}{es:List gC}(h:∀e∈es,P e.2):∀e∈jx es,P e.2:=by
 cases es with
 | nil=>exact h
 | cons a r=>
  intro e u;rcases zG.1 u with rfl|u;exact h a oL;exact h e (zN _ u)
def quV{es:List gC}(h:es≠[]):((jx es).map (·.1)).head?=some []:=by cases es with|nil=>exact absurd rfl h|cons a r=>rfl
def qwy(es:List gC):(jx es).length=es.length:=by cases es<;>rfl
def gj (k:Nat) (es:List gC):Prop:=∀e∈es.tail,e.1.length=k/\eB e.1
def gj.tail{es:List gC}(h:gj k es):∀a∈(es.map (·.1)).tail,a.length=k/\eB a:=fun a u=>by rw[<- map_tail] at u;obtain⟨e,C,rfl⟩:=mem_map.1 u;exact h e C
def gj.of{es:List gC}(h:gZ (dH es) k v):gj k es:=fun e u=>by have:e.1∈(dH es).J6:=(by show e.1∈(es.map (·.1)).tail;rw[<- map_tail];exact zY u);exact⟨h.right.1 _ this,h.J6 _ this⟩
def tG(u:M.Wf){x:Int}(h:dP M x):2<=x/\x<4294967296:=by have C:=zh u h;have E:=u.n4;omega
def wy{es:List gC}(u:(es.map (·.1)).head?=some [])(C:gZ (dH es) k v)(E:dD D M q=(4,fZ (dH es),0))(G:fG es)(I:∀e∈es,Has D M k v h e.2/\minOf k v h<=e.2.size): Has D M k v (h+1) ⟨q,es.length,es.flatMap (·.2.y3),q::es.flatMap (·.2.y4)⟩:=⟨es,u,rfl,rfl,rfl,C,E,G,I⟩
def qxx{A B:List gC}{e:gC}{s1 s2:gU}(R:((A++e::B).map (·.1)).head?=some []){g:Grown}(u:g.x5=s1.x5)(C:g.x4=s2.x5)(E:g.key=m)(G:g.x4≠0):gp (dH (A++e::B)) A.length g=dH (A++(e.1,s1)::(m,s2)::B):=by
 unfold gp;rw[if_pos G,u,C,E];unfold dH fy;dsimp only;congr 1;cases A with
 | nil=>simp
 | cons a A=>
  have:(A.map (·.1)++e.1::B.map (·.1)).take (A.length+1)=A.map (·.1)++[e.1]:=(by rw[show A.map (·.1)++e.1::B.map (·.1)=(A.map (·.1)++[e.1])++B.map (·.1) by simp];exact take_left' oL);have I:(A.map (·.1)++e.1::B.map (·.1)).drop (A.length+1)=B.map (·.1):=(by rw[show A.map (·.1)++e.1::B.map (·.1)=(A.map (·.1)++[e.1])++B.map (·.1) by simp];exact drop_left' oL);simp only[xM,xN,xI,tail_cons,yH];rw[this,I];simp
 have J:(A.map (·.2.x5)).length=A.length:=zK _;have h:(A.map (·.2.x5)++e.2.x5::B.map (·.2.x5)).set A.length s1.x5=(A.map (·.2.x5)++[s1.x5])++B.map (·.2.x5):=(by rw[set_append_right _ _ oJ,J,Nat.sub_self];simp);simp only[xM,xN];rw[h,take_left' oL,drop_left' oL];simp
def qvV{A B:List gC}{e:gC}{s1:gU}{g:Grown}(u:g.x5=s1.x5)(C:g.x4=0):gp (dH (A++e::B)) A.length g=dH (A++(e.1,s1)::B):=by unfold gp;rw[if_neg (fun h=>h C),u];unfold dH;dsimp only;have E:(A.map (·.2.x5)).length=A.length:=zK _;congr 1;simp;simp only[xM,xN];rw[set_append_right _ _ oJ,E,Nat.sub_self];rfl
def BT{α:Type}{a x b z:List α}:(a++(x++b)).Perm ((a++b)++x):=by rw[zV];exact List.Perm.append_left a perm_append_comm
def Step.node{M1 G:dU}{a x y:List Int}{Q:List Int}(I:∀z∈p::(a++(x++b)),dP M z)(J:(p::(a++(x++b))).Nodup)(R:Step D M M1 x y)(U:Step D M1 G [p] Q):Step D M G (p::(a++(x++b))) (Q++(a++(y++b))):=by have h:(p::(a++(x++b))).Perm ((p::(a++b))++x):=(by rw[xI];exact (BT (z:=a)).cons p);have C:=(R.beside (Z:=p::(a++b)) (fun z E=>I z (h.mem_iff.2 (zH _ E))) (h.nodup_iff.1 J));have u:((p::(a++b))++y).Perm ((a++(y++b))++[p]):=(by refine List.Perm.trans ?_ perm_append_comm;rw[xI];exact ((BT (z:=a)).symm).cons p);have V:=U.beside (Z:=a++(y++b)) (fun z E=>C.has z (u.mem_iff.2 (zH _ E))) (u.nodup_iff.1 C.nodup);exact ((C.perm (h.symm) u).trans V).perm (.refl _) perm_append_comm
def qlu{es:List gC}{J8:Bool}(V:M.Wf)(I:M.Q3=false)(h0:(es.map (·.1)).head?=some [])(J:gZ (dH es) k v)(u:es.length<=(dQ k v).2)(hs:fG es)(E:∀e∈es,Has D M k v h e.2/\minOf k v h<=e.2.size)(hu:dP M p)(G:p∉es.flatMap (·.2.y4))(R:1<=M.Q1.length): ∃q M',fS k v M p (dH es) J8=((⟨q,J8,[],0⟩,0),M')/\Step D M M' [p] [q]/\Has D M' k v (h+1) ⟨q,es.length,es.flatMap (·.2.y3),q::es.flatMap (·.2.y4)⟩/\M.Q1.length<=M'.Q1.length+1:=by obtain⟨q,M',e,st,hr,hl⟩:=qlQ (D:=D) (J8:=J8) V I J (by rw[Ce];exact u) hu (fun e=>by rw[e] at R;exact absurd R oM);refine⟨q,M',e,st,wy h0 J hr hs fun b C=>⟨(E b C).1.q8 fun x U=>?_,(E b C).2⟩,hl⟩;exact (st.rest x ((E b C).1.J4 I x U) (fun hm=>G (yJ.2 ⟨b,C,by rw[<- zE.1 hm];exact U⟩))).1
def xk{es:List gC}(E:M.Wf)(G:M.Q3=false)(I:gj k es)(J:fG es)(R:2<=es.length)(U:es.length<=(dQ k v).2)(u:∀e∈es,Has D M k v h e.2):gZ (dH es) k v:=
 qyI I.tail J.rising R U fun e C=>tG E ((u e C).J4 G e.2.x5 (u e C).mem)
def quW{es:List gC}(h:gj k es):gj k (jx es):=by cases es<;>exact h
def qvX{es:List gC}{J8:Bool}(hc:gN k v)(hW:M.Wf)(ho:M.Q3=false)(h0:(es.map (·.1)).head?=some [])(hk:gj k es)(aB:es.length=(dQ k v).2+1)(hs:fG es)(R:∀e∈es,Has D M k v h e.2/\minOf k v h<=e.2.size)(hu:dP M p)(ao:p∉es.flatMap (·.2.y4))(hf:2<=M.Q1.length): ∃q o m M' U L1 P1 V L2 P2,fS k v M p (dH es) J8=((⟨q,J8,m,o⟩,0),M')/\o≠0/\Step D M M' [p] [q,o]/\Has D M' k v (h+1) ⟨q,U,L1,q::P1⟩/\Has D M' k v (h+1) ⟨o,V,L2,o::P2⟩/\L1++L2=es.flatMap (·.2.y3)/\P1++P2=es.flatMap (·.2.y4)/\(∀x∈L1,fD x.1 m)/\(∀y∈L2,lz m y.1)/\m.length=k/\eB m/\minOf k v (h+1)<=U/\minOf k v (h+1)<=V/\M.Q1.length<=M'.Q1.length+2:=by
 have aJ:=hc.inner;have C:es.length / 2<es.length:=oJ;have hh:=qvW (es:=es) (mid:=es.length / 2) oJ C;have lt:(es.take (es.length / 2)).length=es.length / 2:=(by rw[yK];omega);have ld:(jx (es.drop (es.length / 2))).length=es.length-es.length / 2:=(by rw[qwy,yB]);have E:∀e∈es.take (es.length / 2),Has D M k v h e.2/\minOf k v h<=e.2.size:=fun e u=>R e (yU u);have au:∀e∈jx (es.drop (es.length / 2)),Has D M k v h e.2/\minOf k v h<=e.2.size:=qpO (P:=fun s=>Has D M k v h s/\minOf k v h<=s.size) fun e u=>R e (yT u);have aa:=hs.take (es.length / 2);have ab:=(hs.drop (es.length / 2)).jx;have av:gj k (es.take (es.length / 2)):=fun e u=>by refine hk e ?_;rw[<- drop_one,drop_take] at u;rw[<- drop_one];exact yU u
 have aw:gj k (jx (es.drop (es.length / 2))):=quW fun e u=>by refine hk e ?_;rw[<- drop_one,xC,show es.length / 2+1=1+es.length / 2 by omega,<- xC] at u;rw[<- drop_one];exact yT u
 have U:=xk hW ho av aa oJ oJ fun e u=>(E e u).1;have V:=xk hW ho aw ab oJ oJ fun e u=>(au e u).1;have G:es.take (es.length / 2)++es.drop (es.length / 2)=es:=xD _ _;have hd:=zX C;obtain⟨q,o,M',e,ay,st,ac,ad,hl⟩:=qpV (D:=D) (k:=k) (v:=v) (p:=p) (J8:=J8) (mid:=es.length / 2) (n:=dH es) hW ho (by rw[Ce]) (by rw[hh];exact U) (by rw[hh];exact V) (by rw[Ce];show es.length>_;omega) hu hf;rw[hh] at e ac ad;have fr:∀b∈es,∀x∈b.2.y4,dD D M' x=dD D M x:=fun b I x J=>
  (st.rest x ((R b I).1.J4 ho x J) (fun hm=>ao (yJ.2 ⟨b,I,by rw[<- zE.1 hm];exact J⟩))).1
 have f1:∀e∈es.take (es.length / 2),Has D M' k v h e.2/\minOf k v h<=e.2.size:=fun e u=>⟨(E e u).1.q8 (fr e (yU u)),(E e u).2⟩;have f2:∀e∈jx (es.drop (es.length / 2)),Has D M' k v h e.2/\minOf k v h<=e.2.size:=qpO (P:=fun s=>Has D M' k v h s/\minOf k v h<=s.size) fun e u=>⟨(R e (yT u)).1.q8 (fr e (yT u)),(R e (yT u)).2⟩;have az:((es.take (es.length / 2)).map (·.1)).head?=some []:=by
  rw[xO];cases af:es.map (·.1) with
  | nil=>rw[af] at h0;cases h0
  | cons a r=>
   rw[af] at h0;rw[show es.length / 2=(es.length / 2-1)+1 by omega,take_succ_cons];exact h0
 have aA:((jx (es.drop (es.length / 2))).map (·.1)).head?=some []:=quV (by rw[hd];exact cons_ne_nil _ _);have ag:=hs;rw[<- G,hd] at ag;have hm:=ag.mid;have ah:=hk es[es.length / 2] (by rw[<- drop_one];exact yE (i:=es.length / 2-1) (by rw[yZ,show 1+(es.length / 2-1)=es.length / 2 by omega,zA C]));have ep:(jx (es.drop (es.length / 2))).flatMap (·.2.y3)=(es.drop (es.length / 2)).flatMap (·.2.y3):=qnN (f:=gU.y3) _;have eg:(jx (es.drop (es.length / 2))).flatMap (·.2.y4)=(es.drop (es.length / 2)).flatMap (·.2.y4):=qnN (f:=gU.y4) _;have H2:=wy aA V ad ab f2;refine⟨q,o,es[es.length / 2].1,M',_,_,_,_,_,_,e,ay,st,wy az U ac aa f1,H2,?_,?_,fun x J=>?_,fun y hy=>?_,ah.1,ah.2,?_,?_,hl⟩;rw[ep,<- yP,G];rw[eg,<- yP,G];obtain⟨a,ha,J⟩:=yJ.1 J;exact hm.1 a ha x J;rw[ep,hd] at hy;obtain⟨b,I,hy⟩:=yJ.1 hy;rcases zG.1 I with rfl|I;exact hs.low _ (zW C) y hy;exact yq (rX (hm.2 b I).1) ((hm.2 b I).2.2 y hy);show (dQ k v).2 / 2<=_;omega;show (dQ k v).2 / 2<=_;omega
def FY{A B:List gC}{e:gC}{s:gU}(h:gj k (A++e::B)):gj k (A++(e.1,s)::B):=by
 cases A with
 | nil=>exact h
 | cons a A=>
  intro b u;rcases zD.1 (show b∈A++(e.1,s)::B from u) with u|u;exact h b (show b∈A++e::B from zH _ u);rcases zG.1 u with rfl|u;exact h e (show e∈A++e::B from zI _ mem_cons_self);exact h b (show b∈A++e::B from zI _ (zN _ u))
def qrk{A B:List gC}{e:gC}{s1 s2:gU}(h:gj k (A++e::B))(G:m.length=k/\eB m):gj k (A++(e.1,s1)::(m,s2)::B):=by
 have E:∀b∈(m,s2)::B,(∀c∈B,c.1.length=k/\eB c.1)->b.1.length=k/\eB b.1:=fun b u I=>(zG.1 u).elim (fun e=>by rw[e];exact G) (I b);cases A with
 | nil=>exact fun b u=>E b u fun c C=>h c C
 | cons a A=>
  intro b u;rcases zD.1 (show b∈A++(e.1,s1)::(m,s2)::B from u) with u|u;exact h b (show b∈A++e::B from zH _ u);rcases zG.1 u with rfl|u;exact h e (show e∈A++e::B from zI _ mem_cons_self);exact E b u fun c C=>h c (show c∈A++e::B from zI _ (zN _ C))
def qtH(hc:gN k v){key val:Key}(hk:key.length=k/\eB key)(hv:val.length=v/\eB val):∀(h:Nat) (M:dU) (s:gU),Has D M k v h s->M.Wf->M.Q3=false->s.y4.Nodup->s.size<=1000->2*(h+1)<=M.Q1.length-> ∃g M',gM D k v key val (h+1) M s.x5=((g,0),M')/\uI D M k v h s key val g M'
 | 0,M,⟨p,n,L,P⟩,⟨h1,h2,h3,h4⟩,hW,ho,aT,_,hf=>by
  dsimp only at h1 h2 h3 h4;subst h1 h2;have hp:dP M p:=D9 ho (by rw[h4]);have hl:dF D M k v p=(dY L,0):=h3.load h4;have hs:eU L:=h3.right.2.2.1;have hL:lL k v L:=fun x E=>⟨h3.right.1 x.1 (zY E),h3.right.2.1 x.2 (zY E),h3.J6 x.1 (zY E),h3.Q0 x.2 (zY E)⟩;have I:=h3.right.2.2.2;rw[if_pos (show (dY L).Q4=true from rfl)] at I;have a3:1<=L.length/\L.length<=(dQ k v).1:=by have e:(dY L).J6.length=L.length:=zK _;rw[e] at I;exact⟨I.2.1,I.2.2.1⟩
  have aU:(dY L).J6=dL L:=rfl;have aj:=quv (v:=val) (k:=key) hs;have az:lL k v (fC key val L):=fun x E=>(zt E).elim (fun e=>by rw[e];exact⟨hk.1,hv.1,hk.2,hv.2⟩) (hL x);have aA:=Bm (k:=key) (v:=val) hs;unfold gM;rw[hl];dsimp only;rw[if_neg (fun h=>h rfl),if_pos (show (dY L).Q4=true from rfl),aU];by_cases R:(dL L)[dI (dL L) key]?=some key;rw[if_pos R,qzD R];rw[if_pos R] at aj;have ak:=BP (v:=val) hs ((vv hs).1 R);rw[aj] at az aA ak;exact qrH hc hW ho hp oJ az aA oJ oJ oJ aj.symm (by rw[zU (fun h=>h ((vv hs).1 R))]);rw[if_neg R,qyS];rw[if_neg R] at aj;have a4:key∉dL L:=fun h=>R ((vv hs).2 h);have ak:=CK (v:=val) a4;rw[aj] at az aA ak;exact qrH hc hW ho hp oJ az aA oJ oJ oJ aj.symm (by rw[zZ a4])
 | h+1,M,⟨p,n,L,P⟩,⟨J,h0,h1,h2,h3,h4,h5,h6,h7⟩,hW,ho,aT,h8,hf=>by
  dsimp only at h1 h2 h3 h5 aT h8;subst h1 h2 h3;have hp:dP M p:=D9 ho (by rw[h5]);have hl:dF D M k v p=(dH J,0):=h4.load h5;have bT:=h4.right.x9;obtain⟨A,e,B,G,hA,aV,aW,aX⟩:=tW (key:=key) h0 h6;have aY:(dH J).J9.getD (dZ (dH J).J6 key) 0=e.2.x5:=aX;have bD:dZ (dH J).J6 key=A.length:=hA.symm;have bE:e∈J:=(by rw[G];simp);obtain⟨aC,ao⟩:=h7 e bE;have ac:∀z∈p::J.flatMap (·.2.y4),dP M z:=fun z hz=>(zG.1 hz).elim (fun e=>by rw[e];exact hp) fun hz=>by obtain⟨b,u,hz⟩:=yJ.1 hz;exact (h7 b u).1.J4 ho z hz
  have af:J.flatMap (·.2.y4)=A.flatMap (·.2.y4)++(e.2.y4++B.flatMap (·.2.y4)):=(by rw[G,pU]);have ad:J.flatMap (·.2.y3)=A.flatMap (·.2.y3)++(e.2.y3++B.flatMap (·.2.y3)):=(by rw[G,pU]);have U:=aT;have ah:=ac;rw[af] at U ah;have bF:e.2.size<=1000:=by
   have:=AF (k:=k) (v:=v)
   cases h with
   | zero=>
    have h9:=aC.2.2.1.right.2.2.2;rw[if_pos (show (dY e.2.y3).Q4=true from rfl)] at h9;have bG:=h9.2.2.1;have e1:(dY e.2.y3).J6.length=e.2.y3.length:=zK _;rw[e1] at bG;rw[aC.2.1];omega
   | succ h=>
    obtain⟨b0,_,g1,_,_,g4,_⟩:=aC
    have:=g4.right.x9
    rw[g1];omega
  have a5:e.2.y4.Nodup:=(yL.1 (yL.1 (nodup_cons.1 U).2).2.1).1;obtain⟨g,M1,eg,ok⟩:=qtH hc hk hv h M e.2 aC hW ho a5 bF oJ;have bI:=ok.Q1;have ai:=h6;rw[G] at ai;have ap:=ai.mid;have a6:∀x∈A.flatMap (·.2.y3),fD x.1 key:=fun x E=>by obtain⟨a,ha,E⟩:=yJ.1 E;exact qK (ap.1 a ha x E) aV
  have a7:∀x∈B.flatMap (·.2.y3),fD key x.1:=fun x E=>by obtain⟨b,u,E⟩:=yJ.1 E;exact qK (aW b u) ((ap.2 b u).2.2 x E)
  have aM:fC key val (J.flatMap (·.2.y3))=A.flatMap (·.2.y3)++(fC key val e.2.y3++B.flatMap (·.2.y3)):=(by rw[ad,AU a6,qlv a7]);have aD:g.J8=decide (key∉dL (J.flatMap (·.2.y3))):=by rw[ok.J8];refine decide_eq_decide.2 (not_congr ⟨fun R=>?_,fun R=>?_⟩);obtain⟨x,E,rfl⟩:=mem_map.1 R;exact zY (by rw[ad];exact zI _ (zH _ E));obtain⟨x,E,rfl⟩:=mem_map.1 R;rw[ad] at E;rcases zD.1 E with E|E;exact absurd (a6 x E) qw;rcases zD.1 E with E|E;exact zY E;exact absurd (a7 x E) qw
  have aq:p∉e.2.y4:=fun R=>(nodup_cons.1 U).1 (zI _ (zH _ R));have a8:∀b,b∈A\/b∈B->∀z∈b.2.y4,z∉e.2.y4:=fun b u z hz R=>by have h9:=yL.1 (nodup_cons.1 U).2;rcases u with u|u;exact h9.2.2 z (yJ.2 ⟨b,u,hz⟩) z (zH _ R) rfl;exact (yL.1 h9.2.1).2.2 z R z (yJ.2 ⟨b,u,hz⟩) rfl
  have ae:=gj.of h4;have a9:∀ {MM:dU} {Q:List Int},Step D M MM e.2.y4 Q->p∉A.flatMap (·.2.y4)++(Q++B.flatMap (·.2.y4)):=fun st R=>by have h9:=(nodup_cons.1 U).1;rcases zD.1 R with R|R;exact h9 (zH _ R);rcases zD.1 R with R|R;exact (st.rest p hp aq).2.2 R;exact h9 (zI _ (zI _ R))
  unfold gM;rw[hl];dsimp only;rw[if_neg (fun h=>h rfl),if_neg (show ¬(dH J).Q4=true from fun e=>nomatch e),aY,eg];dsimp only;rw[if_neg (fun h=>h rfl),bD];have ab:∀ {MM:dU},(∀x∈p::J.flatMap (·.2.y4),x∉e.2.y4->dD D MM x=dD D M x)->∀b,b∈A\/b∈B->Has D MM k v h b.2/\minOf k v h<=b.2.size:=fun hr b u=>by
   have aZ:b∈J:=by rw[G];rcases u with u|u<;>simp[u]
   exact⟨(h7 b aZ).1.q8 fun x E=>hr x (zN _ (yJ.2 ⟨b,aZ,E⟩)) (a8 b u x E),(h7 b aZ).2⟩
  rcases ok.Cn with ⟨aE,n',P',aN,st,aO⟩|⟨aE,n1,L1,P1,n2,L2,P2,a',ba,aP,bb,bc,bd,bf,bJ,bK,st⟩;have V:((A++(e.1,(⟨g.x5,n',fC key val e.2.y3,P'⟩:gU))::B).map (·.1)).head?=some []:=by rw[G] at h0;rw[xM,xN] at h0⊢;exact h0
  have aa:fG (A++(e.1,(⟨g.x5,n',fC key val e.2.y3,P'⟩:gU))::B):=ai.put aV aW fun x E=>(zt E).imp (fun e=>by rw[e]) id;have C:∀x∈p::J.flatMap (·.2.y4),x∉e.2.y4->dD D M1 x=dD D M x:=fun x E a0=>(st.rest x (ac x E) a0).1;have I:(A++(e.1,(⟨g.x5,n',fC key val e.2.y3,P'⟩:gU))::B).length=J.length:=(by rw[G];simp);have au:(A++(e.1,(⟨g.x5,n',fC key val e.2.y3,P'⟩:gU))::B).flatMap (·.2.y3)=fC key val (J.flatMap (·.2.y3)):=(by rw[pU,aM]);have ag:(A++(e.1,(⟨g.x5,n',fC key val e.2.y3,P'⟩:gU))::B).flatMap (·.2.y4)=A.flatMap (·.2.y4)++(P'++B.flatMap (·.2.y4)):=(by rw[pU]);by_cases hsame:g.x5=e.2.x5/\g.x4=0;rw[if_pos hsame];have bg:dH (A++(e.1,(⟨g.x5,n',fC key val e.2.y3,P'⟩:gU))::B)=dH J:=(by rw[G];unfold dH;simp[hsame.1]);have bL:dD D M1 p=(4,fZ (dH (A++(e.1,(⟨g.x5,n',fC key val e.2.y3,P'⟩:gU))::B)),0):=(by rw[C p oL aq,h5,bg]);refine⟨_,M1,rfl,aD,oJ,.inl ⟨rfl,J.length,p::(A.flatMap (·.2.y4)++(P'++B.flatMap (·.2.y4))),?_,?_,zM _⟩⟩
  have:=wy V (by rw[bg];exact h4) bL aa (h:=h) fun b u=>?_
  rw[I,au,ag] at this;exact this;rcases zD.1 u with u|u;exact ab C b (.inl u);rcases zG.1 u with rfl|u;exact⟨aN,zL ao aO⟩;exact ab C b (.inr u);show Step D M M1 (p::J.flatMap (·.2.y4)) _;rw[af];have h9:=Step.node (p:=p) ah U st (Step.refl (D:=D) st.wf st.Q3 (P:=[p]) (fun x E=>by rw[zE.1 E];exact (st.rest p hp aq).2.1) oL);exact h9;rw[if_neg hsame,G,qvV (s1:=⟨g.x5,n',fC key val e.2.y3,P'⟩) rfl aE];have al:∀b∈A++(e.1,(⟨g.x5,n',fC key val e.2.y3,P'⟩:gU))::B,Has D M1 k v h b.2/\minOf k v h<=b.2.size:=fun b u=>by rcases zD.1 u with u|u;exact ab C b (.inl u);rcases zG.1 u with rfl|u;exact⟨aN,zL ao aO⟩;exact ab C b (.inr u)
  have aH:gj k (A++(e.1,(⟨g.x5,n',fC key val e.2.y3,P'⟩:gU))::B):=FY (by rw[<- G];exact ae);have hN:=xk st.wf st.Q3 aH aa oJ oJ fun b u=>(al b u).1;obtain⟨q,M2,e2,av,H2,ak⟩:=qlu (J8:=g.J8) st.wf st.Q3 V hN oJ aa al (st.rest p hp aq).2.1 (by rw[ag];exact a9 st) oJ;refine⟨_,M2,e2,by rw[<- G];exact aD,oJ,.inl ⟨rfl,J.length,q::(A.flatMap (·.2.y4)++(P'++B.flatMap (·.2.y4))),?_,?_,Nat.le_of_eq (by rw[G])⟩⟩;rw[I,au,ag] at H2;rw[<- G];exact H2;show Step D M M2 (p::(A++e::B).flatMap (·.2.y4)) _;rw[pU];exact Step.node (p:=p) ah U st av;have bj:L1≠[]:=a'.ne;have bk:L2≠[]:=ba.ne;rw[if_neg (fun h=>aE h.2)];have aa:fG (A++(e.1,(⟨g.x5,n1,L1,P1⟩:gU))::(g.key,⟨g.x4,n2,L2,P2⟩)::B):=
   (ai.put (s:=⟨0,0,fC key val e.2.y3,[]⟩) aV aW fun x E=>(zt E).imp (fun e=>by rw[e]) id).vS aP.symm bb bc bj bk
  have V:((A++(e.1,(⟨g.x5,n1,L1,P1⟩:gU))::(g.key,⟨g.x4,n2,L2,P2⟩)::B).map (·.1)).head?=some []:=by
   rw[G] at h0;rw[xM,xN] at h0⊢;cases A with
   | nil=>exact h0
   | cons a A=>exact h0
  have C:∀x∈p::J.flatMap (·.2.y4),x∉e.2.y4->dD D M1 x=dD D M x:=fun x E a0=>(st.rest x (ac x E) a0).1;have I:(A++(e.1,(⟨g.x5,n1,L1,P1⟩:gU))::(g.key,⟨g.x4,n2,L2,P2⟩)::B).length=J.length+1:=(by rw[G];simp;omega);have au:(A++(e.1,(⟨g.x5,n1,L1,P1⟩:gU))::(g.key,⟨g.x4,n2,L2,P2⟩)::B).flatMap (·.2.y3)=fC key val (J.flatMap (·.2.y3)):=(by rw[pU,yG,aM,<- aP,zV]);have ag:(A++(e.1,(⟨g.x5,n1,L1,P1⟩:gU))::(g.key,⟨g.x4,n2,L2,P2⟩)::B).flatMap (·.2.y4)=A.flatMap (·.2.y4)++((P1++P2)++B.flatMap (·.2.y4)):=(by rw[pU,yG,zV P1]);have al:∀b∈A++(e.1,(⟨g.x5,n1,L1,P1⟩:gU))::(g.key,⟨g.x4,n2,L2,P2⟩)::B,Has D M1 k v h b.2/\minOf k v h<=b.2.size:=fun b u=>by rcases zD.1 u with u|u;exact ab C b (.inl u);rcases zG.1 u with rfl|u;exact⟨a',bJ⟩;rcases zG.1 u with rfl|u;exact⟨ba,bK⟩;exact ab C b (.inr u)
  have aH:gj k (A++(e.1,(⟨g.x5,n1,L1,P1⟩:gU))::(g.key,⟨g.x4,n2,L2,P2⟩)::B):=qrk (by rw[<- G];exact ae) ⟨bd,bf⟩;have bl:p∉(A++(e.1,(⟨g.x5,n1,L1,P1⟩:gU))::(g.key,⟨g.x4,n2,L2,P2⟩)::B).flatMap (·.2.y4):=(by rw[ag];exact a9 st);have bm:=(st.rest p hp aq).2.1;have bN:gp (dH J) A.length g=dH (A++(e.1,(⟨g.x5,n1,L1,P1⟩:gU))::(g.key,⟨g.x4,n2,L2,P2⟩)::B):=(by rw[G];exact qxx (by rw[<- G];exact h0) rfl rfl rfl aE);rw[bN];have bn:∀ {M2:dU} {Q:List Int},Step D M1 M2 [p] Q->Step D M M2 (p::J.flatMap (·.2.y4)) (Q++(A.flatMap (·.2.y4)++((P1++P2)++B.flatMap (·.2.y4)))):=fun h2=>by rw[af];exact Step.node (p:=p) ah U st h2
  by_cases u:J.length+1<=(dQ k v).2;have hN:=xk st.wf st.Q3 aH aa oJ oJ fun b u=>(al b u).1;obtain⟨q,M2,e2,av,H2,ak⟩:=qlu (J8:=g.J8) st.wf st.Q3 V hN oJ aa al bm bl oJ;rw[I,au,ag] at H2;exact⟨_,M2,e2,aD,oJ,.inl ⟨rfl,_,_,H2,bn av,by show J.length<=J.length+1;omega⟩⟩;obtain⟨q,o,m,M2,n3,L3,P3,n4,L4,P4,e2,bO,av,H3,H4,hL,hP,bP,a3,bo,bp,bQ,bR,ak⟩:=qvX (J8:=g.J8) hc st.wf st.Q3 V aH oJ aa al bm bl oJ;rw[au] at hL;rw[ag] at hP;refine⟨_,M2,e2,aD,oJ,.inr ⟨bO,_,_,_,_,_,_,H3,H4,hL,bP,a3,bo,bp,bQ,bR,?_⟩⟩
  have:=bn av
  rw[<- hP] at this;refine this.perm (.refl _) ?_;show (q::o::(P3++P4)).Perm (q::(P3++o::P4));exact (perm_middle.symm).cons q
end
end
section
def gH {α:Type} (l:List α) (i:Nat):List α:=l.take i++l.drop (i+1)
def nS (n:dG) (k v:Nat):Prop:=(eM n k v).1<(eM n k v).2 / 2
def iF (n:dG) (k v:Nat):Prop:=(eM n k v).1>(eM n k v).2 / 2
def iI (l r:dG) (key:Key):dG×dG×Key:=
 if l.Q4 then
  ({ l with J6:=l.J6.take (l.J6.length-1),Q0:=l.Q0.take (l.J6.length-1) },
  { r with J6:=l.J6.getD (l.J6.length-1) []::r.J6,Q0:=l.Q0.getD (l.J6.length-1) []::r.Q0 },l.J6.getD (l.J6.length-1) [])
 else
  ({ l with J6:=l.J6.take (l.J6.length-1),J9:=l.J9.take (l.J6.length-1+1) },
  { r with J6:=key::r.J6,J9:=l.J9.getD (l.J6.length-1+1) 0::r.J9 },l.J6.getD (l.J6.length-1) [])
def takeN (l r:dG) (key:Key):dG×dG×Key:=
 if l.Q4 then
  ({ l with J6:=l.J6++[r.J6.getD 0 []],Q0:=l.Q0++[r.Q0.getD 0 []] },{ r with J6:=r.J6.drop 1,Q0:=r.Q0.drop 1 },(r.J6.drop 1).getD 0 [])
 else
  ({ l with J6:=l.J6++[key],J9:=l.J9++[r.J9.getD 0 0] },{ r with J6:=r.J6.drop 1,J9:=r.J9.drop 1 },r.J6.getD 0 [])
def kr (l r:dG) (key:Key):dG:=⟨l.Q4,(if l.Q4 then l.J6 else l.J6++[key])++r.J6,l.Q0++r.Q0,l.J9++r.J9⟩
noncomputable def lp (k v:Nat) (M:dU) (n:dG) (i:Nat) (l r:dG):(dG×Int)×dU:=
 if (dK k v M (n.J9.getD i 0) (kr l r (n.J6.getD i []))).1.2≠0 then ((ie,(dK k v M (n.J9.getD i 0) (kr l r (n.J6.getD i []))).1.2),(dK k v M (n.J9.getD i 0) (kr l r (n.J6.getD i []))).2)
 else if (e9 (dK k v M (n.J9.getD i 0) (kr l r (n.J6.getD i []))).2 (n.J9.getD (i+1) 0)).1≠0 then ((ie,(e9 (dK k v M (n.J9.getD i 0) (kr l r (n.J6.getD i []))).2 (n.J9.getD (i+1) 0)).1),(e9 (dK k v M (n.J9.getD i 0) (kr l r (n.J6.getD i []))).2 (n.J9.getD (i+1) 0)).2)
 else (({ n with J9:=gH (n.J9.set i (dK k v M (n.J9.getD i 0) (kr l r (n.J6.getD i []))).1.1) (i+1),J6:=gH n.J6 i },0),(e9 (dK k v M (n.J9.getD i 0) (kr l r (n.J6.getD i []))).2 (n.J9.getD (i+1) 0)).2)
noncomputable def mN (k v:Nat) (M:dU) (n:dG) (i:Nat) (r:dG×dG×Key):(dG×Int)×dU:=
 if (dK k v M (n.J9.getD i 0) r.1).1.2≠0 then ((ie,(dK k v M (n.J9.getD i 0) r.1).1.2),(dK k v M (n.J9.getD i 0) r.1).2)
 else (({ n with J6:=n.J6.set i r.2.2,J9:=(n.J9.set i (dK k v M (n.J9.getD i 0) r.1).1.1).set (i+1) (dK k v (dK k v M (n.J9.getD i 0) r.1).2 (n.J9.getD (i+1) 0) r.2.1).1.1 },(dK k v (dK k v M (n.J9.getD i 0) r.1).2 (n.J9.getD (i+1) 0) r.2.1).1.2),(dK k v (dK k v M (n.J9.getD i 0) r.1).2 (n.J9.getD (i+1) 0) r.2.1).2)
noncomputable def jw (D:dE) (k v:Nat) (M:dU) (n:dG) (side c:Nat) (x:dG):(dG×Int)×dU:=
 if (dF D M k v (n.J9.getD side 0)).2≠0 then ((ie,(dF D M k v (n.J9.getD side 0)).2),M)
 else if side<c then
  if ¬iF (dF D M k v (n.J9.getD side 0)).1 k v then lp k v M n side (dF D M k v (n.J9.getD side 0)).1 x
  else mN k v M n side (iI (dF D M k v (n.J9.getD side 0)).1 x (n.J6.getD side []))
 else
  if ¬iF (dF D M k v (n.J9.getD side 0)).1 k v then lp k v M n c x (dF D M k v (n.J9.getD side 0)).1
  else mN k v M n c (takeN x (dF D M k v (n.J9.getD side 0)).1 (n.J6.getD c []))
noncomputable def gS (D:dE) (k v:Nat) (key:Key):Nat->dU->Int->(dG×Int)×dU
 | 0,M,_=>((ie,-1),M)
 | f+1,M,p=>
  if (dF D M k v p).2≠0 then ((ie,(dF D M k v p).2),M)
  else if (dF D M k v p).1.Q4 then
   if (dF D M k v p).1.J6[dI (dF D M k v p).1.J6 key]?=some key then (({ (dF D M k v p).1 with J6:=gH (dF D M k v p).1.J6 (dI (dF D M k v p).1.J6 key),Q0:=gH (dF D M k v p).1.Q0 (dI (dF D M k v p).1.J6 key) },0),M)
   else ((ie,5),M)
  else if (gS D k v key f M ((dF D M k v p).1.J9.getD (dZ (dF D M k v p).1.J6 key) 0)).1.2≠0 then
   ((ie,(gS D k v key f M ((dF D M k v p).1.J9.getD (dZ (dF D M k v p).1.J6 key) 0)).1.2),(gS D k v key f M ((dF D M k v p).1.J9.getD (dZ (dF D M k v p).1.J6 key) 0)).2)
  else if ¬nS (gS D k v key f M ((dF D M k v p).1.J9.getD (dZ (dF D M k v p).1.J6 key) 0)).1.1 k v then
   (({ (dF D M k v p).1 with J9:=(dF D M k v p).1.J9.set (dZ (dF D M k v p).1.J6 key) (dK k v (gS D k v key f M ((dF D M k v p).1.J9.getD (dZ (dF D M k v p).1.J6 key) 0)).2 ((dF D M k v p).1.J9.getD (dZ (dF D M k v p).1.J6 key) 0) (gS D k v key f M ((dF D M k v p).1.J9.getD (dZ (dF D M k v p).1.J6 key) 0)).1.1).1.1 },
    (dK k v (gS D k v key f M ((dF D M k v p).1.J9.getD (dZ (dF D M k v p).1.J6 key) 0)).2 ((dF D M k v p).1.J9.getD (dZ (dF D M k v p).1.J6 key) 0) (gS D k v key f M ((dF D M k v p).1.J9.getD (dZ (dF D M k v p).1.J6 key) 0)).1.1).1.2),
    (dK k v (gS D k v key f M ((dF D M k v p).1.J9.getD (dZ (dF D M k v p).1.J6 key) 0)).2 ((dF D M k v p).1.J9.getD (dZ (dF D M k v p).1.J6 key) 0) (gS D k v key f M ((dF D M k v p).1.J9.getD (dZ (dF D M k v p).1.J6 key) 0)).1.1).2)
  else if dZ (dF D M k v p).1.J6 key>0 then
   jw D k v (gS D k v key f M ((dF D M k v p).1.J9.getD (dZ (dF D M k v p).1.J6 key) 0)).2 (dF D M k v p).1 (dZ (dF D M k v p).1.J6 key-1) (dZ (dF D M k v p).1.J6 key) (gS D k v key f M ((dF D M k v p).1.J9.getD (dZ (dF D M k v p).1.J6 key) 0)).1.1
  else jw D k v (gS D k v key f M ((dF D M k v p).1.J9.getD (dZ (dF D M k v p).1.J6 key) 0)).2 (dF D M k v p).1 (dZ (dF D M k v p).1.J6 key+1) (dZ (dF D M k v p).1.J6 key) (gS D k v key f M ((dF D M k v p).1.J9.getD (dZ (dF D M k v p).1.J6 key) 0)).1.1
section
variable {D:dE} {M M':dU} {k v:Nat}
def i4 (D:dE) (M:dU) (k v:Nat):Nat->dG->Nat->fL->List Int->Prop
 | 0,N,n,L,R=>N=dY L/\n=L.length/\R=[]/\lL k v L/\eU L/\n<=(dQ k v).1
 | h+1,N,n,L,R=>∃u:List gC,(u.map (·.1)).head?=some []/\N=dH u/\n=u.length/\L=u.flatMap (·.2.y3)/\R=u.flatMap (·.2.y4)/\gj k u/\fG u/\n<=(dQ k v).2/\∀e∈u,Has D M k v h e.2/\minOf k v h<=e.2.size
def oneOf (h:Nat):Nat:=if h=0 then 1 else 2
def i4.size{n:Nat}(u:i4 D M k v h N n L R):eM N k v=(n,if h=0 then (dQ k v).1 else (dQ k v).2):=by
 cases h with
 | zero=>
  obtain⟨rfl,rfl,_⟩:=u;exact CQ
 | succ h=>
  obtain⟨C,_,rfl,rfl,_⟩:=u;exact Ce
def i4.J4{h:Nat}{N:dG}{n:Nat}{L:fL}{R:List Int}(E:M.Q3=false)(C:i4 D M k v h N n L R):∀x∈R,dP M x:=by
 cases h with
 | zero=>obtain⟨_,_,rfl,_⟩:=C;exact fun x u=>nomatch u
 | succ h=>
  obtain⟨J,_,_,_,_,rfl,_,_,_,G⟩:=C;intro x u;obtain⟨e,I,u⟩:=yJ.1 u;exact (G e I).1.J4 E x u
def i4.q8{h:Nat}{N:dG}{n:Nat}{L:fL}{R:List Int}(C:i4 D M k v h N n L R)(G:∀x∈R,dD D M' x=dD D M x):i4 D M' k v h N n L R:=by
 cases h with
 | zero=>exact C
 | succ h=>
  obtain⟨I,J,U,V,h4,rfl,h6,h7,h8,E⟩:=C;exact⟨I,J,U,V,h4,rfl,h6,h7,h8,fun e u=>⟨(E e u).1.q8 fun x hx=>G x (yJ.2 ⟨e,u,hx⟩),(E e u).2⟩⟩
def i4.ok{n:Nat}(E:M.Wf)(G:M.Q3=false)(u:i4 D M k v h N n L R)(C:oneOf h<=n):gZ N k v:=by
 cases h with
 | zero=>
  obtain⟨rfl,rfl,_,I,J,U⟩:=u;exact A9 I J C U
 | succ h=>
  obtain⟨es,h2,rfl,rfl,h4,rfl,V,h7,h8,he⟩:=u;exact xk E G V h7 C h8 fun e hm=>(he e hm).1
def i4.stored{n:Nat}(G:M.Wf)(I:M.Q3=false)(C:i4 D M k v h N n L R)(J:oneOf h<=n)(E:dD D M q=(iv N,fZ N,0)):Has D M k v h ⟨q,n,L,q::R⟩:=by
 have u:=C.ok G I J;cases h with
 | zero=>
  obtain⟨rfl,rfl,rfl,hL,hs,hl⟩:=C;exact zk u E
 | succ h=>
  obtain⟨es,U,rfl,rfl,rfl,rfl,h6,V,h8,he⟩:=C;exact wy U u E V he
def Has.load{h:Nat}{s:gU}(V:Has D M k v h s):∃N R,dF D M k v s.x5=(N,0)/\i4 D M k v h N s.size s.y3 R/\s.y4=s.x5::R/\N.Q4=decide (h=0)/\oneOf h<=s.size:=by
 cases h with
 | zero=>
  obtain⟨G,I,C,J⟩:=V;have u:=C.right.2.2.2;rw[if_pos (show (dY s.y3).Q4=true from rfl)] at u;have e:(dY s.y3).J6.length=s.y3.length:=zK _;rw[e] at u;exact⟨dY s.y3,[],C.load J,⟨rfl,I,rfl,fun x U=>⟨C.right.1 x.1 (zY U),C.right.2.1 x.2 (zY U),C.J6 x.1 (zY U),C.Q0 x.2 (zY U)⟩,C.right.2.2.1,by rw[I];exact u.2.2.1⟩,G,rfl,by rw[I];exact u.2.1⟩
 | succ h=>
  obtain⟨es,h0,G,I,C,J,h5,h6,h7⟩:=V;have E:=J.right.x9;exact⟨dH es,_,J.load h5,⟨es,h0,rfl,G,I,rfl,gj.of J,h6,by rw[G];exact E.2,h7⟩,C,rfl,by rw[G];exact E.1⟩
def i4.store{n:Nat}(G:M.Wf)(u:M.Q3=false)(C:i4 D M k v h N n L R)(I:oneOf h<=n)(V:dP M p)(E:p∉R)(J:1<=M.Q1.length): ∃q M',dK k v M p N=((q,0),M')/\Step D M M' [p] [q]/\Has D M' k v h ⟨q,n,L,q::R⟩/\M.Q1.length<=M'.Q1.length+1:=by obtain⟨q,M',e,st,hr,hl,_⟩:=EE (D:=D) G u (C.ok G u I) V (fun e=>by rw[e] at J;exact absurd J oM);exact⟨q,M',e,st,(C.q8 fun x U=>(st.rest x (C.J4 u x U) (fun hm=>E (by rw[<- zE.1 hm];exact U))).1).stored st.wf st.Q3 I hr,hl⟩
def qyQ{h u:fL}{z:Key×Key}:iI (dY (h++[z])) (dY u) key=(dY h,dY (z::u),z.1):=by unfold iI;rw[if_pos (show (dY _).Q4=true from rfl)];unfold dY;simp
def qyT{h u:fL}{z y:Key×Key}:takeN (dY h) (dY (z::y::u)) key=(dY (h++[z]),dY (y::u),y.1):=by unfold takeN;rw[if_pos (show (dY _).Q4=true from rfl)];unfold dY;simp
def qyR{h u:fL}:kr (dY h) (dY u) key=dY (h++u):=by unfold kr;unfold dY;simp
def qyJ{a z b:gC}{h u:List gC}:iI (dH (a::h++[z])) (dH (b::u)) key=(dH (a::h),dH (([],z.2)::(key,b.2)::u),z.1):=by unfold iI;rw[if_neg (show ¬(dH _).Q4=true from fun e=>nomatch e)];unfold dH;simp
def qyL{h u:List gC}{a z y:gC}:takeN (dH (a::h)) (dH (z::y::u)) key=(dH (a::h++[(key,z.2)]),dH (([],y.2)::u),y.1):=by unfold takeN;rw[if_neg (show ¬(dH _).Q4=true from fun e=>nomatch e)];unfold dH;simp
def qyK{h u:List gC}{a b:gC}:kr (dH (a::h)) (dH (b::u)) key=dH (a::h++(key,b.2)::u):=by unfold kr;unfold dH;simp
def fG.sC{a b:List gC}(u:fG a)(C:fG b)(h:∀x∈a,∀y∈b,fD x.1 y.1/\∀z∈x.2.y3,fD z.1 y.1):fG (a++b):=
 ⟨pairwise_append.2 ⟨u.pair,C.pair,fun x E y G=>h x E y G⟩,fun e I=>(zD.1 I).elim (u.low e) (C.low e)⟩
def fG.sub{a b:List gC}(h:fG b)(u:a.Sublist b):fG a:=⟨h.pair.sublist u,fun e C=>h.low e (u.subset C)⟩
def Ea{e:gC}(h:∀x∈e.2.y3,lz e.1 x.1):fG [e]:=⟨pairwise_singleton _ _,fun a u=>by rw[zE.1 u];exact h⟩
def qtr{a b:Key}(h:fD a b):fD [] b:=by
 cases b with
 | nil=>exact absurd h qlJ
 | cons y l=>show cmpL [] (y::l)<0;simp[cmpL]
def fG.head{x:gC}{r:List gC}(h:fG (x::r))(E:∀b∈r,fD m b.1)(G:∀y∈x.2.y3,lz m y.1):fG ((m,x.2)::r):=by have C:=yI.1 h.pair;exact⟨yI.2 ⟨fun b u=>⟨E b u,(C.1 b u).2⟩,C.2⟩,fun b u=>(zG.1 u).elim (fun e=>by rw[e];exact G) fun u=>h.low b (zN _ u)⟩
def EA{x:gC}{r:List gC}(C:fG (x::r))(E:Has D M k v h x.2)(G:∀y∈x.2.y3,lz m y.1):∀b∈r,fD m b.1:=fun b I=>by obtain⟨y,u⟩:=exists_mem_of_ne_nil _ E.ne;exact Ap (G y u) (((yI.1 C.pair).1 b I).2 y u)
structure sM (D:dE) (M:dU) (k v:Nat) (h:Nat) (r:dG×dG×Key) (L:fL) (P:List Int):Prop where
 Cn:∃ n1 L1 R1 n2 L2 R2,i4 D M k v h r.1 n1 L1 R1/\i4 D M k v h r.2.1 n2 L2 R2/\L1++L2=L/\R1++R2=P/\(∀ x∈L1,fD x.1 r.2.2)/\(∀ y∈L2,lz r.2.2 y.1)/\r.2.2.length=k/\eB r.2.2/\minOf k v h<=n1/\minOf k v h<=n2/\L1≠[]/\L2≠[]
def gN.min(u:gN k v)(h:Nat):oneOf h<=minOf k v h/\1<=minOf k v h:=by have C:=u.Q4;have E:=u.inner;unfold oneOf minOf;split<;>omega
def qyB{es:List gC}(C:∀e∈es,Has D M k v h e.2/\minOf k v h<=e.2.size)(u:es≠[]):es.flatMap (·.2.y3)≠[]:=by
 cases es with
 | nil=>exact absurd rfl u
 | cons a r=>intro e;rw[yG] at e;exact (C a oL).1.ne (append_eq_nil_iff.1 e).1
def qyD(E:gN k v)(hl:i4 D M k v h Nl n1 L1 R1)(hr:i4 D M k v h Nr n2 L2 R2)(h1:minOf k v h<n1)(h2:n2+1=minOf k v h)(h3:∀x∈L1,fD x.1 key)(h4:∀y∈L2,lz key y.1)(hk:key.length=k/\eB key): sM D M k v h (iI Nl Nr key) (L1++L2) (R1++R2):=by
 have av:=E.min h;cases h with
 | zero=>
  obtain⟨rfl,rfl,rfl,ak,J,R⟩:=hl;obtain⟨rfl,rfl,rfl,aw,U,al⟩:=hr;have am:L1≠[]:=fun e=>by rw[e] at h1;simp at h1
  obtain⟨L,z,rfl⟩:∃L z,L1=L++[z]:=⟨L1.dropLast,L1.getLast am,(xZ am).symm⟩;rw[qyQ];have hz:=ak z oL;have an:=eU.sC.1 J;rw[zF] at h1 R;have ax:eU (z::L2):=by refine yI.2 ⟨fun a ha=>?_,U⟩;obtain⟨y,C,rfl⟩:=mem_map.1 ha;exact qK (h3 z oL) (h4 y C)
  have ay:minOf k v 0=(dQ k v).1 / 2:=rfl;refine⟨L.length,L,[],L2.length+1,z::L2,[],⟨rfl,rfl,rfl,ak.sub fun x I=>zH _ I,an.1,?_⟩,⟨rfl,rfl,rfl,fun x I=>(zG.1 I).elim (fun e=>by rw[e];exact hz) (aw x),ax,oJ⟩,oL,rfl,fun x I=>an.2.2 x I z oL,fun y C=>?_,hz.1,hz.2.2.1,?_,oJ,?_,oL⟩;simp at R;omega;rcases zG.1 C with rfl|C;exact qw;exact rX (qK (h3 z oL) (h4 y C));simp at h1;omega;intro e;rw[e] at h1;simp at h1;omega
 | succ h=>
  obtain⟨ad,az,rfl,rfl,rfl,rfl,ao,J,R,ae⟩:=hl;obtain⟨u,aA,rfl,rfl,rfl,rfl,aB,U,al,af⟩:=hr;obtain⟨a,G,z,rfl⟩:∃a G z,ad=a::G++[z]:=by
   have:2<=ad.length:=(by have:=av.1;unfold oneOf at this;rw[iN] at this;omega);match ad,this with
   | a::b::r,_=>exact⟨a,(b::r).dropLast,(b::r).getLast oL,by rw[xI,xZ]⟩
  obtain⟨b,u,rfl⟩:∃b G,u=b::G:=by
   cases u with
   | nil=>cases aA
   | cons b r=>exact⟨b,r,rfl⟩
  rw[qyJ];have hz:=ae z oL;have ap:=ao z (show z∈G++[z] by simp);have aq:=fG.mid (A:=a::G) (e:=z) (B:=[]) J;have V:fD z.1 key:=by obtain⟨x,I⟩:=exists_mem_of_ne_nil _ hz.1.ne;exact Ap (J.low z oL x I) (h3 x (yJ.2 ⟨z,oL,I⟩))
  have ar:∀y∈b.2.y3,lz key y.1:=fun y C=>h4 y (by rw[yG];exact zH _ C);have ag:∀c∈u,fD key c.1:=EA U (af b oL).1 ar;have ah:fG (([],z.2)::(key,b.2)::u):=by refine fG.sC (a:=[([],z.2)]) (Ea fun x _=>AP _) (U.head ag ar) fun x I y C=>?_;rw[zE.1 I];rcases zG.1 C with rfl|C;exact⟨qtr V,fun w hw=>h3 w (yJ.2 ⟨z,oL,hw⟩)⟩;exact⟨qtr (ag y C),fun w hw=>om (h3 w (yJ.2 ⟨z,oL,hw⟩)) (ag y C)⟩
  have ay:minOf k v (h+1)=(dQ k v).2 / 2:=rfl;simp only[zF,yH,xJ] at h1 h2 R al;have aD:(a::G++[z]).flatMap (·.2.y3)=(a::G).flatMap (·.2.y3)++z.2.y3:=(by simp[yP]);have aE:(a::G++[z]).flatMap (·.2.y4)=(a::G).flatMap (·.2.y4)++z.2.y4:=(by simp[yP]);refine⟨G.length+1,(a::G).flatMap (·.2.y3),(a::G).flatMap (·.2.y4),u.length+2,z.2.y3++(b.2.y3++u.flatMap (·.2.y3)),z.2.y4++(b.2.y4++u.flatMap (·.2.y4)),⟨a::G,az,rfl,rfl,rfl,rfl,fun c E=>ao c (show c∈G++[z] from zH _ E),J.sub (sublist_append_left _ _),oJ,fun c E=>ae c (zH _ E)⟩,⟨([],z.2)::(key,b.2)::u,rfl,rfl,rfl,rfl,rfl,fun c E=>(zG.1 E).elim (fun e=>by rw[e];exact hk) (aB c),ah,oJ,fun c E=>?_⟩,?_,?_,fun x I=>?_,fun y C=>?_,ap.1,ap.2,oJ,oJ,?_,?_⟩;rcases zG.1 E with rfl|E;exact hz;rcases zG.1 E with rfl|E;exact af b oL;exact af c (by simp[E]);rw[aD];simp only[yG,zV];rw[aE];simp only[yG,zV];obtain⟨c,E,I⟩:=yJ.1 I;exact aq.1 c E x I;rcases zD.1 C with C|C;exact J.low z oL y C;exact yq (rX V) (h4 y (by rw[yG];exact C));exact qyB (fun c E=>ae c (zH _ E)) oL;intro e;exact hz.1.ne (append_eq_nil_iff.1 e).1
def qv6{es:List gC}(E:fG es)(G:∀e∈es,Has D M k v h e.2/\minOf k v h<=e.2.size)(I:∀x∈es.flatMap (·.2.y3),fD x.1 key):∀e∈es,fD e.1 key:=fun e u=>by obtain⟨x,C⟩:=exists_mem_of_ne_nil _ (G e u).1.ne;exact Ap (E.low e u x C) (I x (yJ.2 ⟨e,u,C⟩))
def qze(hc:gN k v)(hl:i4 D M k v h Nl n1 L1 R1)(hr:i4 D M k v h Nr n2 L2 R2)(h1:n1+1=minOf k v h)(h2:minOf k v h<n2)(h3:∀x∈L1,fD x.1 key)(h4:∀y∈L2,lz key y.1)(hk:key.length=k/\eB key): sM D M k v h (takeN Nl Nr key) (L1++L2) (R1++R2):=by
 have hmn:=hc.min h;cases h with
 | zero=>
  obtain⟨rfl,rfl,rfl,hL1,hs1,hb1⟩:=hl;obtain⟨rfl,rfl,rfl,hL2,hs2,hb2⟩:=hr;obtain⟨z,y,L,rfl⟩:∃z y L,L2=z::y::L:=by
   match L2,h2 with
   | [],h=>simp at h
   | [_],h=>simp at h;omega
   | z::y::L,_=>exact⟨z,y,L,rfl⟩
  rw[qyT];have hz:=hL2 z oL;have hy:=hL2 y oL;have hcs:=yI.1 (show (z.1::dL (y::L)).Pairwise fD from hs2);simp only[yH] at h2 hb2;have hml:minOf k v 0=(dQ k v).1 / 2:=rfl;have hzy:fD z.1 y.1:=hcs.1 y.1 oL;refine⟨L1.length+1,L1++[z],[],L.length+1,y::L,[],⟨rfl,oL,rfl,fun x hx=>(zD.1 hx).elim (hL1 x) fun hx=>by rw[zE.1 hx];exact hz,?_,oJ⟩,⟨rfl,oL,rfl,fun x hx=>hL2 x (zN _ hx),hcs.2,oJ⟩,oL,rfl,fun x hx=>?_,fun w hw=>?_,hy.1,hy.2.2.1,oJ,oJ,oL,oL⟩;exact eU.sC.2 ⟨hs1,pairwise_singleton _ _,fun x hx w hw=>by rw[zE.1 hw];exact qK (h3 x hx) (h4 z oL)⟩;rcases zD.1 hx with hx|hx;exact om (qK (h3 x hx) (h4 z oL)) hzy;rw[zE.1 hx];exact hzy;rcases zG.1 hw with rfl|hw;exact qw;exact rX ((yI.1 (show (y.1::dL L).Pairwise fD from hcs.2)).1 w.1 (zY hw))
 | succ h=>
  obtain⟨es1,hh1,rfl,rfl,rfl,rfl,hk1,hs1,hb1,hp1⟩:=hl;obtain⟨es2,hh2,rfl,rfl,rfl,rfl,hk2,hs2,hb2,hp2⟩:=hr;obtain⟨a,es,rfl⟩:∃a es,es1=a::es:=by
   cases es1 with
   | nil=>cases hh1
   | cons b r=>exact⟨b,r,rfl⟩
  obtain⟨z,y,es2,rfl⟩:∃z y es,es2=z::y::es:=by
   have h9:=hmn.2;match es2,h2 with
   | [],h=>simp at h
   | [_],h=>simp at h;omega
   | z::y::L,_=>exact⟨z,y,L,rfl⟩
  rw[qyL];have hz:=hp2 z oL;have hyk:=hk2 y (show y∈y::es2 by simp);have hz4:∀w∈z.2.y3,lz key w.1:=fun w hw=>h4 w (by rw[yG];exact zH _ hw);have hky:fD key y.1:=EA hs2 hz.1 hz4 y oL;have hcs:=yI.1 hs2.pair;have hcy:=yI.1 hcs.2;have hsl:fG (a::es++[(key,z.2)]):=fG.sC hs1 (Ea hz4) fun x hx w hw=>by rw[zE.1 hw];exact⟨qv6 hs1 hp1 h3 x hx,fun q hq=>h3 q (yJ.2 ⟨x,hx,hq⟩)⟩
  have hsr:fG (([],y.2)::es2):=fG.jx (es:=y::es2) (hs2.sub (sublist_cons_self _ _));have hml:minOf k v (h+1)=(dQ k v).2 / 2:=rfl;simp only[yH] at h1 h2 hb1 hb2;refine⟨es.length+2,(a::es).flatMap (·.2.y3)++z.2.y3,(a::es).flatMap (·.2.y4)++z.2.y4,es2.length+1,y.2.y3++es2.flatMap (·.2.y3),y.2.y4++es2.flatMap (·.2.y4),⟨a::es++[(key,z.2)],hh1,rfl,oL,by simp[yP],by simp[yP],fun c hc=>?_,hsl,oJ,fun c hc=>?_⟩,⟨([],y.2)::es2,rfl,rfl,rfl,rfl,rfl,fun c hc=>hk2 c (show c∈y::es2 from zN _ hc),hsr,oJ,fun c hc=>?_⟩,?_,?_,fun x hx=>?_,fun w hw=>?_,hyk.1,hyk.2,oJ,oJ,?_,?_⟩;rcases zD.1 (show c∈es++[(key,z.2)] from hc) with hc|hc;exact hk1 c hc;rw[zE.1 hc];exact hk;rcases zD.1 hc with hc|hc;exact hp1 c hc;rw[zE.1 hc];exact hz;rcases zG.1 hc with rfl|hc;exact hp2 y oL;exact hp2 c (by simp[hc]);simp only[yG,zV];simp only[yG,zV];rcases zD.1 hx with hx|hx;exact om (h3 x hx) hky;exact (hcs.1 y oL).2 x hx;rcases zD.1 hw with hw|hw;exact hs2.low y oL w hw;obtain⟨c,hc,hw⟩:=yJ.1 hw;exact yq (rX (hcy.1 c hc).1) (hs2.low c (by simp[hc]) w hw);intro e;exact hz.1.ne (append_eq_nil_iff.1 e).2;intro e;exact (hp2 y oL).1.ne (append_eq_nil_iff.1 e).1
def qyM(hl:i4 D M k v h Nl n1 L1 R1)(hr:i4 D M k v h Nr n2 L2 R2)(h1:n1+n2<=(if h=0 then (dQ k v).1 else (dQ k v).2))(h3:∀x∈L1,fD x.1 key)(h4:∀y∈L2,lz key y.1)(hk:key.length=k/\eB key): i4 D M k v h (kr Nl Nr key) (n1+n2) (L1++L2) (R1++R2):=by
 cases h with
 | zero=>
  obtain⟨rfl,rfl,rfl,aj,E,ak⟩:=hl;obtain⟨rfl,rfl,rfl,al,G,am⟩:=hr;rw[qyR];exact⟨rfl,oL,rfl,fun x U=>(zD.1 U).elim (aj x) (al x),eU.sC.2 ⟨E,G,fun x U y I=>qK (h3 x U) (h4 y I)⟩,h1⟩
 | succ h=>
  obtain⟨aa,ab,rfl,rfl,rfl,rfl,an,E,ak,ac⟩:=hl;obtain⟨C,ao,rfl,rfl,rfl,rfl,ap,G,am,J⟩:=hr;obtain⟨a,V,rfl⟩:∃a V,aa=a::V:=by
   cases aa with
   | nil=>cases ab
   | cons b r=>exact⟨b,r,rfl⟩
  obtain⟨b,C,rfl⟩:∃b V,C=b::V:=by
   cases C with
   | nil=>cases ao
   | cons b r=>exact⟨b,r,rfl⟩
  rw[qyK];have ad:∀y∈b.2.y3,lz key y.1:=fun y I=>h4 y (by rw[yG];exact zH _ I);have R:=EA G (J b oL).1 ad;refine⟨a::V++(key,b.2)::C,ab,rfl,by simp;omega,by simp[yP],by simp[yP],fun c u=>?_,fG.sC E (G.head R ad) fun x U y I=>?_,by simpa using h1,fun c u=>?_⟩;rcases zD.1 (show c∈V++(key,b.2)::C from u) with u|u;exact an c u;rcases zG.1 u with rfl|u;exact hk;exact ap c u;have ae:=qv6 E ac h3 x U;have af:∀w∈x.2.y3,fD w.1 key:=fun w hw=>h3 w (yJ.2 ⟨x,U,hw⟩);rcases zG.1 I with rfl|I;exact⟨ae,af⟩;exact⟨om ae (R y I),fun w hw=>om (af w hw) (R y I)⟩;rcases zD.1 u with u|u;exact ac c u;rcases zG.1 u with rfl|u;exact J b oL;exact J c (by simp[u])
end
end
section
section
variable {D:dE} {M M':dU} {k v:Nat}
def Step.part{M1:dU}{a x y:List Int}(C:∀z∈a++(x++b),dP M z)(E:(a++(x++b)).Nodup)(h:Step D M M1 x y):Step D M M1 (a++(x++b)) (a++(y++b)):=by have u:(a++(x++b)).Perm ((a++b)++x):=BT (z:=a);exact ((h.beside (Z:=a++b) (fun z G=>C z (u.mem_iff.2 (zH _ G))) (u.nodup_iff.1 E)).perm u.symm (BT (z:=a)).symm)
def Step.kid{M1 u:dU}{h Q:List Int}(C:∀z∈p::R,dP M z)(E:(p::R).Nodup)(G:Step D M M1 R h)(I:Step D M1 u [p] Q):Step D M u (p::R) (Q++h):=by
 have:=Step.node (D:=D) (p:=p) (a:=[]) (b:=[]) (x:=R) (y:=h) (Q:=Q) (oP C) (oP E) G I
 simpa using this
def DU{A B:List gC}{e1 h:gC}:((A++e1::h::B).map (·.1)).tail.getD A.length []=h.1:=by
 cases A with
 | nil=>rfl
 | cons a A=>simp
def wN{A B:List gC}{e1 h:gC}:((A++e1::h::B).map (·.2.x5)).getD A.length 0=e1.2.x5/\((A++e1::h::B).map (·.2.x5)).getD (A.length+1) 0=h.2.x5:=by constructor;simp;simp
def qza{A B:List gC}{e1 h:gC}{s1 s2:gU}:(⟨false,((A++e1::h::B).map (·.1)).tail.set A.length m,[],(((A++e1::h::B).map (·.2.x5)).set A.length s1.x5).set (A.length+1) s2.x5⟩:dG)=dH (A++(e1.1,s1)::(m,s2)::B):=by
 unfold dH;congr 1;cases A with
 | nil=>rfl
 | cons a A=>simp[set_append_right]
 simp[set_append_right]
def qyx{A B:List gC}{e1 C:gC}{s:gU}:(⟨false,gH ((A++e1::C::B).map (·.1)).tail A.length,[],gH (((A++e1::C::B).map (·.2.x5)).set A.length s.x5) (A.length+1)⟩:dG)=dH (A++(e1.1,s)::B):=by
 have G:(A.map (·.2.x5)).length=A.length:=zK _;unfold dH gH;congr 1;cases A with
 | nil=>rfl
 | cons a A=>
  have u:((a::A++e1::C::B).map (·.1)).tail=(A.map (·.1)++[e1.1])++(C.1::B.map (·.1)):=oL;have E:((a::A++(e1.1,s)::B).map (·.1)).tail=(A.map (·.1)++[e1.1])++B.map (·.1):=oL;have h:(A.map (·.1)++[e1.1]).length=(a::A).length:=oL;rw[u,E,take_left' h,<- h,drop_length_add_append];rfl
 have u:((A++e1::C::B).map (·.2.x5)).set A.length s.x5=(A.map (·.2.x5)++[s.x5])++(C.2.x5::B.map (·.2.x5)):=(by rw[xM,set_append_right _ _ oJ,G,Nat.sub_self];simp);have h:(A.map (·.2.x5)++[s.x5]).length=A.length+1:=oL;rw[u,take_left' h,<- h,drop_length_add_append];simp
def qy9{A B:List gC}{e:gC}{s:gU}:(⟨false,((A++e::B).map (·.1)).tail,[],((A++e::B).map (·.2.x5)).set A.length s.x5⟩:dG)=dH (A++(e.1,s)::B):=by
 have h:(A.map (·.2.x5)).length=A.length:=zK _;unfold dH;congr 1;cases A with
 | nil=>rfl
 | cons a A=>simp
 rw[xM,set_append_right _ _ oJ,h,Nat.sub_self];simp
structure rM (D:dE) (M:dU) (k v:Nat) (h:Nat) (A B:List gC) (e1 e2:gC) (Nl Nr:dG) (n1 n2:Nat) (L1 L2:fL) (R1 R2:List Int):Prop where
 wf:M.Wf
 Q3:M.Q3=false
 head:((A++e1::e2::B).map (·.1)).head?=some []
 J6:gj k (A++e1::e2::B)
 sep:fG (A++(e1.1,⟨0,0,L1,[]⟩)::(e2.1,⟨0,0,L2,[]⟩)::B)
 len:A.length+B.length+2<=(dQ k v).2
 rest:∀ b,b∈A\/b∈B->Has D M k v h b.2/\minOf k v h<=b.2.size
 left:i4 D M k v h Nl n1 L1 R1
 right:i4 D M k v h Nr n2 L2 R2
 use:∀ x∈A.flatMap (·.2.y4)++(((e1.2.x5::R1)++(e2.2.x5::R2))++B.flatMap (·.2.y4)),dP M x
 nodup:(A.flatMap (·.2.y4)++(((e1.2.x5::R1)++(e2.2.x5::R2))++B.flatMap (·.2.y4))).Nodup
def rM.vw{A B:List gC}{e1 u:gC}{G I:dG}{E C:fL}{J:List Int}(H:rM D M k v h A B e1 u G I n1 n2 E C J R):(∀x∈E,fD x.1 u.1)/\(∀y∈C,lz u.1 y.1)/\u.1.length=k/\eB u.1:=by have U:=pairwise_append.1 H.sep.pair;have V:=yI.1 U.2.1;have hk:=H.J6 u (by cases A<;>simp);exact⟨(V.1 (u.1,⟨0,0,C,[]⟩) oL).2,H.sep.low (u.1,⟨0,0,C,[]⟩) oL,hk⟩
def qs5(hc:gN k v){A B:List gC}{e1 E:gC}(H:rM D M k v h A B e1 E Nl Nr n1 n2 L1 L2 R1 R2){r:dG×dG×Key}(hr:sM D M k v h r (L1++L2) (R1++R2))(hf:2<=M.Q1.length): ∃N M' R,mN k v M (dH (A++e1::E::B)) A.length r=((N,0),M')/\i4 D M' k v (h+1) N (A.length+B.length+2) (A.flatMap (·.2.y3)++((L1++L2)++B.flatMap (·.2.y3))) R/\ Step D M M' (A.flatMap (·.2.y4)++(((e1.2.x5::R1)++(E.2.x5::R2))++B.flatMap (·.2.y4))) R/\M.Q1.length<=M'.Q1.length+2:=by
 obtain⟨m1,K1,I,m2,K2,J,aN,aO,eL,eR,aP,aQ,aR,aT,aU,aV,aB,aC⟩:=hr.Cn;have bh:=hc.min h;have ad:=H.use;have au:=H.nodup;have pm:(((e1.2.x5::R1)++(E.2.x5::R2))).Perm (e1.2.x5::E.2.x5::(R1++R2)):=by rw[xI];exact (perm_middle).cons _
 rw[<- eR] at pm;have aa:∀x,x∈e1.2.x5::E.2.x5::(I++J)->x∈A.flatMap (·.2.y4)++(((e1.2.x5::R1)++(E.2.x5::R2))++B.flatMap (·.2.y4)):=fun x C=>zI _ (zH _ (pm.mem_iff.2 C));have aj:(e1.2.x5::E.2.x5::(I++J)).Nodup:=pm.nodup_iff.1 (yL.1 (yL.1 au).2.1).1;have ab:=nodup_cons.1 aj;have ak:=nodup_cons.1 ab.2;have aW:=ad _ (aa e1.2.x5 oL);have aE:=ad _ (aa E.2.x5 oL);obtain⟨G,M1,s1,ae,H1,bj⟩:=aN.store H.wf H.Q3 oJ aW (fun hm=>ab.1 (zN _ (zH _ hm))) oJ;have U:∀x,dP M x->x≠e1.2.x5->dD D M1 x=dD D M x/\dP M1 x/\x≠G:=fun x C av=>by
  have:=ae.rest x C (oP av)
  exact⟨this.1,this.2.1,by simpa using this.2.2⟩
 have af:E.2.x5≠e1.2.x5:=fun e=>ab.1 (by rw[e];simp);have aY:i4 D M1 k v h r.2.1 m2 K2 J:=aO.q8 fun x C=>(U x (ad x (aa x (by simp[C]))) (fun e=>ab.1 (by rw[<- e];simp[C]))).1;obtain⟨V,M2,s2,aF,H2,bm⟩:=aY.store ae.wf ae.Q3 oJ (U _ aE af).2.1 (fun hm=>ak.1 (zI _ hm)) oJ;have ag:∀x,dP M1 x->x≠E.2.x5->dD D M2 x=dD D M1 x/\dP M2 x/\x≠V:=fun x C av=>by
  have:=aF.rest x C (oP av)
  exact⟨this.1,this.2.1,by simpa using this.2.2⟩
 have al:∀x∈G::I,dP M1 x/\x≠E.2.x5:=fun x C=>by refine⟨H1.J4 ae.Q3 x C,fun e=>?_⟩;rcases zG.1 C with e'|C;rcases ae.new G oL with h9|h9;exact af (by rw[<- e,e',zE.1 h9]);exact h9 (by rw[<- e',e];exact aE);exact ak.1 (zH _ (e▸C))
 have aZ:Has D M2 k v h ⟨G,m1,K1,G::I⟩:=H1.q8 fun x C=>(ag x (al x C).1 (al x C).2).1;have a0:∀b,b∈A\/b∈B->∀x∈b.2.y4,dP M x/\x≠e1.2.x5/\x≠E.2.x5:=fun b u x C=>by
  have hd:=yL.1 au;have a1:=yL.1 hd.2.1;have aG:∀z,z=e1.2.x5\/z=E.2.x5->z∈(e1.2.x5::R1)++(E.2.x5::R2):=fun z hz=>pm.mem_iff.2 (by rcases hz with rfl|rfl<;>simp);have key:∀z,z=e1.2.x5\/z=E.2.x5->x≠z:=fun z hz e=>by rcases u with u|u;exact hd.2.2 x (yJ.2 ⟨b,u,C⟩) z (zH _ (aG z hz)) e;exact a1.2.2 z (aG z hz) x (yJ.2 ⟨b,u,C⟩) e.symm
  refine⟨ad x ?_,key _ (.inl rfl),key _ (.inr rfl)⟩;rcases u with u|u;exact zH _ (yJ.2 ⟨b,u,C⟩);exact zI _ (zI _ (yJ.2 ⟨b,u,C⟩))
 have ah:∀b,b∈A\/b∈B->Has D M2 k v h b.2/\minOf k v h<=b.2.size:=fun b u=>⟨(H.rest b u).1.q8 fun x C=>by have h9:=a0 b u x C;have h8:=U x h9.1 h9.2.1;exact ((ag x h8.2.1 h9.2.2).1).trans h8.1,(H.rest b u).2⟩;have hL:K1++K2=L1++L2:=eL;have aH:fG (A++(e1.1,(⟨G,m1,K1,G::I⟩:gU))::(r.2.2,⟨V,m2,K2,V::J⟩)::B):=by
  have hS:=H.sep;have hp:=pairwise_append.1 hS.pair;have ai:=yI.1 hp.2.1;have aJ:=yI.1 ai.2;have hj:fG (A++(e1.1,(⟨0,0,L1++L2,[]⟩:gU))::B):=by refine⟨pairwise_append.2 ⟨hp.1,yI.2 ⟨fun b u=>⟨(ai.1 b (by simp[u])).1,fun x C=>?_⟩,aJ.2⟩,fun a ha b u=>?_⟩,fun b u x C=>?_⟩;rcases zD.1 C with C|C;exact (ai.1 b (by simp[u])).2 x C;exact (aJ.1 b u).2 x C;rcases zG.1 u with rfl|u;exact hp.2.2 a ha (e1.1,⟨0,0,L1,[]⟩) oL;exact hp.2.2 a ha b (by simp[u]);rcases zD.1 u with u|u;exact hS.low b (by simp[u]) x C;rcases zG.1 u with rfl|u;rcases zD.1 C with C|C;exact hS.low (e1.1,⟨0,0,L1,[]⟩) oL x C;have h9:=hS.low (E.1,⟨0,0,L2,[]⟩) oL x C;exact yq (rX (ai.1 (E.1,⟨0,0,L2,[]⟩) oL).1) h9;exact hS.low b (by simp[u]) x C
  exact hj.vS hL.symm aP aQ aB aC
 have aw:gj k (A++(e1.1,(⟨G,m1,K1,G::I⟩:gU))::(r.2.2,⟨V,m2,K2,V::J⟩)::B):=by
  have h9:gj k (A++e1::B):=fun b u=>H.J6 b (by
   cases A with
   | nil=>exact zN _ u
   | cons a A=>
    rcases zD.1 (show b∈A++e1::B from u) with u|u;exact zH (e1::E::B) u;exact zI A ((zG.1 u).elim (fun e=>by rw[e];simp) fun u=>by simp[u]))
  exact qrk h9 ⟨aR,aT⟩
 have ax:((A++(e1.1,(⟨G,m1,K1,G::I⟩:gU))::(r.2.2,⟨V,m2,K2,V::J⟩)::B).map (·.1)).head?=some []:=by
  have h9:=H.head;cases A with
  | nil=>exact h9
  | cons a A=>exact h9
 refine⟨dH (A++(e1.1,(⟨G,m1,K1,G::I⟩:gU))::(r.2.2,⟨V,m2,K2,V::J⟩)::B),M2,_,?_,⟨_,ax,rfl,by simp;omega,?_,rfl,aw,aH,H.len,fun b u=>?_⟩,?_,oJ⟩;have a2:(dH (A++e1::E::B)).J9.getD A.length 0=e1.2.x5:=wN.1;have a3:(dH (A++e1::E::B)).J9.getD (A.length+1) 0=E.2.x5:=wN.2;unfold mN;rw[a2,a3,s1];dsimp only;rw[if_neg (fun h=>h rfl),s2];exact congrArg (fun N=>((N,(0:Int)),M2)) (qza (s1:=⟨G,m1,K1,G::I⟩) (s2:=⟨V,m2,K2,V::J⟩));rw[pU,yG,<- hL,zV];rcases zD.1 u with u|u;exact ah b (.inl u);rcases zG.1 u with rfl|u;exact⟨aZ,aU⟩;rcases zG.1 u with rfl|u;exact⟨H2,aV⟩;exact ah b (.inr u);have t1:Step D M M1 (e1.2.x5::E.2.x5::(I++J)) ([G]++E.2.x5::(I++J)):=by
  have:=ae.beside (Z:=E.2.x5::(I++J)) (fun x C=>ad x (aa x (zN _ C))) (by have p9:(e1.2.x5::E.2.x5::(I++J)).Perm ((E.2.x5::(I++J))++[e1.2.x5]):=(perm_append_singleton _ _).symm;exact p9.nodup_iff.1 aj)
  exact this.perm (perm_append_singleton _ _) perm_append_comm
 have aK:∀x∈[G]++(I++J),dP M1 x:=fun x C=>t1.has x (by rcases zD.1 C with C|C;exact zH _ C;exact zI _ (zN _ C));have p8:([G]++E.2.x5::(I++J)).Perm (([G]++(I++J))++[E.2.x5]):=(by exact perm_middle.trans<|(perm_append_singleton _ _).symm);have t2:=aF.beside (Z:=[G]++(I++J)) aK (p8.nodup_iff.1 t1.nodup);have t3:=(t1.perm (.refl _) p8).trans t2;have p7:(([G]++(I++J))++[V]).Perm ((G::I)++(V::J)):=(by show (G::((I++J)++[V])).Perm (G::(I++V::J));refine List.Perm.cons _ ((perm_append_singleton _ _).trans ?_);exact perm_middle.symm);have t4:=Step.part (D:=D) (a:=A.flatMap (·.2.y4)) (b:=B.flatMap (·.2.y4)) ad au (t3.perm pm.symm p7);rw[pU,yG];refine t4.perm (.refl _) ?_;rw[zV]
end
end
section
section
variable {D:dE} {M M':dU} {k v:Nat}
def qo6(E:M.Wf)(G:M.Q3=false)(I:dP M n):∃M',e9 M n=(0,M')/\Step D M M' [n] []/\M.Q1.length<=M'.Q1.length:=by
 obtain⟨M',e,t,J,R,U⟩:=qlo (D:=D) (q:=n+1) E G I oJ;have C:∀x,x≠n->dD D M' x=dD D M x/\(dP M' x↔dP M x):=fun x u=>by by_cases hq':x=n+1;rw[hq'];exact⟨J,R⟩;exact⟨t.rest x hq' u,t.use x hq' u⟩
 refine⟨M',e,⟨t.wf,t.Q3,t.Q2,t.j9,t.Q5,t.Q9,t.z9,t.x6,fun x u h=>?_,fun x u=>?_,fun x u=>(nomatch u),fun x u=>(nomatch u),.nil,t.pd⟩,U⟩;have h:x≠n:=(oP h);exact⟨(C x h).1,(C x h).2.2 u,oL⟩;by_cases h:x=n;subst h;exact absurd u (t.left oJ);exact .inr ⟨(C x h).2.1 u,by simpa using h⟩
def qpk(hc:gN k v){A B:List gC}{e1 E:gC}{G I:List Int}(H:rM D M k v h A B e1 E Nl Nr n1 n2 L1 L2 G I)(h1:n1+n2<=(if h=0 then (dQ k v).1 else (dQ k v).2))(h2:minOf k v h<=n1+n2)(hf:1<=M.Q1.length): ∃N M' R,lp k v M (dH (A++e1::E::B)) A.length Nl Nr=((N,0),M')/\i4 D M' k v (h+1) N (A.length+B.length+1) (A.flatMap (·.2.y3)++((L1++L2)++B.flatMap (·.2.y3))) R/\ Step D M M' (A.flatMap (·.2.y4)++(((e1.2.x5::G)++(E.2.x5::I))++B.flatMap (·.2.y4))) R/\M.Q1.length<=M'.Q1.length+1:=by
 obtain⟨aB,aC,aD,aE⟩:=H.vw;have hJ:=qyM H.left H.right h1 aB aC ⟨aD,aE⟩;have a1:=hc.min h;have U:=H.use;have ak:=H.nodup;have pm:(((e1.2.x5::G)++(E.2.x5::I))).Perm (e1.2.x5::E.2.x5::(G++I)):=by rw[xI];exact (perm_middle).cons _
 have V:∀x,x∈e1.2.x5::E.2.x5::(G++I)->x∈A.flatMap (·.2.y4)++(((e1.2.x5::G)++(E.2.x5::I))++B.flatMap (·.2.y4)):=fun x C=>zI _ (zH _ (pm.mem_iff.2 C));have aj:(e1.2.x5::E.2.x5::(G++I)).Nodup:=pm.nodup_iff.1 (yL.1 (yL.1 ak).2.1).1;have aa:=nodup_cons.1 aj;have ap:=nodup_cons.1 aa.2;have aF:=U _ (V e1.2.x5 oL);have aq:=U _ (V E.2.x5 oL);obtain⟨q,M1,s1,ab,H1,a3⟩:=hJ.store H.wf H.Q3 oJ aF (fun hm=>aa.1 (zN _ hm)) hf;have ac:E.2.x5≠e1.2.x5:=fun e=>aa.1 (by rw[e];simp);have J:∀x,dP M x->x≠e1.2.x5->dD D M1 x=dD D M x/\dP M1 x/\x≠q:=fun x C al=>by
  have:=ab.rest x C (oP al)
  exact⟨this.1,this.2.1,by simpa using this.2.2⟩
 obtain⟨M2,s2,ar,a6⟩:=qo6 (D:=D) ab.wf ab.Q3 (J _ aq ac).2.1;have ad:∀x,dP M1 x->x≠E.2.x5->dD D M2 x=dD D M1 x/\dP M2 x:=fun x C al=>by
  have:=ar.rest x C (oP al)
  exact⟨this.1,this.2.1⟩
 have aG:Has D M2 k v h ⟨q,n1+n2,L1++L2,q::(G++I)⟩:=H1.q8 fun x C=>(ad x (H1.J4 ab.Q3 x C) (fun e=>by rcases zG.1 C with e'|C;exact (J _ aq ac).2.2 (by rw[<- e,e']);exact ap.1 (e▸C))).1;have aH:∀b,b∈A\/b∈B->∀x∈b.2.y4,dP M x/\x≠e1.2.x5/\x≠E.2.x5:=fun b u x C=>by
  have hd:=yL.1 ak;have aI:=yL.1 hd.2.1;have au:∀z,z=e1.2.x5\/z=E.2.x5->z∈(e1.2.x5::G)++(E.2.x5::I):=fun z hz=>pm.mem_iff.2 (by rcases hz with rfl|rfl<;>simp);have key:∀z,z=e1.2.x5\/z=E.2.x5->x≠z:=fun z hz e=>by rcases u with u|u;exact hd.2.2 x (yJ.2 ⟨b,u,C⟩) z (zH _ (au z hz)) e;exact aI.2.2 z (au z hz) x (yJ.2 ⟨b,u,C⟩) e.symm
  refine⟨U x ?_,key _ (.inl rfl),key _ (.inr rfl)⟩;rcases u with u|u;exact zH _ (yJ.2 ⟨b,u,C⟩);exact zI _ (zI _ (yJ.2 ⟨b,u,C⟩))
 have ae:∀b,b∈A\/b∈B->Has D M2 k v h b.2/\minOf k v h<=b.2.size:=fun b u=>⟨(H.rest b u).1.q8 fun x C=>by have h9:=aH b u x C;have h8:=J x h9.1 h9.2.1;exact ((ad x h8.2.1 h9.2.2).1).trans h8.1,(H.rest b u).2⟩;have hS:=H.sep;have hp:=pairwise_append.1 hS.pair;have ai:=yI.1 hp.2.1;have aw:=yI.1 ai.2;have ax:fG (A++(e1.1,(⟨q,n1+n2,L1++L2,q::(G++I)⟩:gU))::B):=by refine⟨pairwise_append.2 ⟨hp.1,yI.2 ⟨fun b u=>⟨(ai.1 b (by simp[u])).1,fun x C=>?_⟩,aw.2⟩,fun a ha b u=>?_⟩,fun b u x C=>?_⟩;rcases zD.1 C with C|C;exact (ai.1 b (by simp[u])).2 x C;exact (aw.1 b u).2 x C;rcases zG.1 u with rfl|u;exact hp.2.2 a ha (e1.1,⟨0,0,L1,[]⟩) oL;exact hp.2.2 a ha b (by simp[u]);rcases zD.1 u with u|u;exact hS.low b (by simp[u]) x C;rcases zG.1 u with rfl|u;rcases zD.1 C with C|C;exact hS.low (e1.1,⟨0,0,L1,[]⟩) oL x C;have h9:=hS.low (E.1,⟨0,0,L2,[]⟩) oL x C;exact yq (rX (ai.1 (E.1,⟨0,0,L2,[]⟩) oL).1) h9;exact hS.low b (by simp[u]) x C
 have am:gj k (A++(e1.1,(⟨q,n1+n2,L1++L2,q::(G++I)⟩:gU))::B):=by
  have h9:gj k (A++e1::B):=fun b u=>H.J6 b (by
   cases A with
   | nil=>exact zN _ u
   | cons a A=>
    rcases zD.1 (show b∈A++e1::B from u) with u|u;exact zH (e1::E::B) u;exact zI A ((zG.1 u).elim (fun e=>by rw[e];simp) fun u=>by simp[u]))
  exact FY h9
 have an:((A++(e1.1,(⟨q,n1+n2,L1++L2,q::(G++I)⟩:gU))::B).map (·.1)).head?=some []:=by
  have h9:=H.head;cases A with
  | nil=>exact h9
  | cons a A=>exact h9
 have aU:=H.len;refine⟨dH (A++(e1.1,(⟨q,n1+n2,L1++L2,q::(G++I)⟩:gU))::B),M2,_,?_,⟨_,an,rfl,by simp;omega,by rw[pU],rfl,am,ax,oJ,fun b u=>?_⟩,?_,oJ⟩;have aJ:(dH (A++e1::E::B)).J9.getD A.length 0=e1.2.x5:=wN.1;have aK:(dH (A++e1::E::B)).J9.getD (A.length+1) 0=E.2.x5:=wN.2;have aL:(dH (A++e1::E::B)).J6.getD A.length []=E.1:=DU;unfold lp;rw[aJ,aK,aL,s1];dsimp only;rw[if_neg (fun h=>h rfl),s2];dsimp only;rw[if_neg (fun h=>h rfl)];exact congrArg (fun N=>((N,(0:Int)),M2)) (qyx (s:=⟨q,n1+n2,L1++L2,q::(G++I)⟩));rcases zD.1 u with u|u;exact ae b (.inl u);rcases zG.1 u with rfl|u;exact⟨aG,h2⟩;exact ae b (.inr u);have t1:Step D M M1 (e1.2.x5::E.2.x5::(G++I)) ([q]++E.2.x5::(G++I)):=by
  have:=ab.beside (Z:=E.2.x5::(G++I)) (fun x C=>U x (V x (zN _ C))) (by have p9:(e1.2.x5::E.2.x5::(G++I)).Perm ((E.2.x5::(G++I))++[e1.2.x5]):=(perm_append_singleton _ _).symm;exact p9.nodup_iff.1 aj)
  exact this.perm (perm_append_singleton _ _) perm_append_comm
 have p8:([q]++E.2.x5::(G++I)).Perm (([q]++(G++I))++[E.2.x5]):=(by exact perm_middle.trans<|(perm_append_singleton _ _).symm);have t2:=ar.beside (Z:=[q]++(G++I)) (fun x C=>t1.has x (by rcases zD.1 C with C|C;exact zH _ C;exact zI _ (zN _ C))) (p8.nodup_iff.1 t1.nodup);have t3:=(t1.perm (.refl _) p8).trans t2;rw[xG] at t3;have t4:=Step.part (D:=D) (a:=A.flatMap (·.2.y4)) (b:=B.flatMap (·.2.y4)) U ak (t3.perm pm.symm (.refl _));rw[pU];exact t4
def fG.swap{A B:List gC}{e:gC}{s:gU}(h:fG (A++e::B))(u:∀x∈s.y3,x∈e.2.y3):fG (A++(e.1,s)::B):=
 h.put (key:=e.1) qw (fun b C=>(h.mid.2 b C).1) fun x E=>.inr (u x E)
def Du(hc:gN k v){key:Key}:∀(h:Nat) (M:dU) (s:gU),Has D M k v h s->M.Wf->M.Q3=false->s.y4.Nodup->key∈dL s.y3->2*h<=M.Q1.length-> ∃N n M' R R',gS D k v key (h+1) M s.x5=((N,0),M')/\s.y4=s.x5::R/\i4 D M' k v h N n (gb key s.y3) R'/\Step D M M' R R'/\s.size<=n+1/\M.Q1.length<=M'.Q1.length+2*h
 | 0,M,s,hs,hW,ho,aL,al,hf=>by
  obtain⟨N,R,hl,hN,hp,bU,_⟩:=hs.load;have bV:=hN;obtain⟨rfl,hn,rfl,hL,aM,bc⟩:=hN;have am:=qmX aM al;have hm:=(vv aM).2 al;have hi:dI (dL s.y3) key<s.y3.length:=by
   have:=(zP.1 hm).1
   simpa using this
  have bL:(gb key s.y3).length+1=s.y3.length:=(by rw[am,zF,yK,yB];omega);refine⟨dY (gb key s.y3),(gb key s.y3).length,M,[],[],?_,hp,⟨rfl,rfl,rfl,fun x u=>hL x (Gp.1 u).1,qo1 aM,oJ⟩,Step.refl hW ho (fun x u=>nomatch u) .nil,oJ,oJ⟩;unfold gS;rw[hl];dsimp only;rw[if_neg (fun h=>h rfl),if_pos (show (dY s.y3).Q4=true from rfl),if_pos (show (dY s.y3).J6[dI (dY s.y3).J6 key]?=some key from hm)];refine congrArg (fun N=>((N,(0:Int)),M)) ?_;rw[am];unfold dY gH;simp only[xM,xO,xP]
 | h+1,M,⟨p,n,L,P⟩,⟨es,h0,h1,h2,h3,h4,h5,h6,h7⟩,hW,ho,aL,al,hf=>by
  dsimp only at h1 h2 h3 h5 aL al;subst h1 h2 h3;have hl:dF D M k v p=(dH es,0):=h4.load h5;have an:=h4.right.x9;obtain⟨A,e,B,aa,hA,bv,bx,aO⟩:=tW (key:=key) h0 h6;have aP:(dH es).J9.getD (dZ (dH es).J6 key) 0=e.2.x5:=aO;have bz:dZ (dH es).J6 key=A.length:=hA.symm;have bA:e∈es:=(by rw[aa];simp);obtain⟨bB,bC⟩:=h7 e bA;have ai:es.flatMap (·.2.y4)=A.flatMap (·.2.y4)++(e.2.y4++B.flatMap (·.2.y4)):=(by rw[aa,pU]);have av:es.flatMap (·.2.y3)=A.flatMap (·.2.y3)++(e.2.y3++B.flatMap (·.2.y3)):=(by rw[aa,pU]);have ay:∀z∈A.flatMap (·.2.y4)++(e.2.y4++B.flatMap (·.2.y4)),dP M z:=fun z hz=>by rw[<- ai] at hz;obtain⟨b,E,hz⟩:=yJ.1 hz;exact (h7 b E).1.J4 ho z hz
  have ah:(A.flatMap (·.2.y4)++(e.2.y4++B.flatMap (·.2.y4))).Nodup:=(by rw[<- ai];exact (nodup_cons.1 aL).2);have ao:e.2.y4.Nodup:=(yL.1 (yL.1 ah).2.1).1;have aw:=h6;rw[aa] at aw;have az:=aw.mid;have bf:∀x∈A.flatMap (·.2.y3),fD x.1 key:=fun x u=>by obtain⟨a,ha,u⟩:=yJ.1 u;exact qK (az.1 a ha x u) bv
  have bg:∀x∈B.flatMap (·.2.y3),fD key x.1:=fun x u=>by obtain⟨b,E,u⟩:=yJ.1 u;exact qK (bx b E) ((az.2 b E).2.2 x u)
  have am:gb key (es.flatMap (·.2.y3))=A.flatMap (·.2.y3)++(gb key e.2.y3++B.flatMap (·.2.y3)):=(by rw[av,qmW bf,qlm bg]);have aQ:key∈dL e.2.y3:=by obtain⟨x,u,rfl⟩:=mem_map.1 al;rw[av] at u;rcases zD.1 u with u|u;exact absurd (bf x u) qw;rcases zD.1 u with u|u;exact zY u;exact absurd (bg x u) qw
  obtain⟨N1,n1,M1,Re,J,ec,aR,ap,st,b0,b1⟩:=Du hc h M e.2 bB hW ho ao aQ oJ;rw[aR] at ay ah ao;have ab:=gj.of h4;have aJ:e.2.x5∉Re:=(nodup_cons.1 ao).1;have aT:dP M e.2.x5:=ay _ oL;have bE:Step D M M1 (e.2.x5::Re) (e.2.x5::J):=st.beside (Z:=[e.2.x5]) (fun x u=>by rw[zE.1 u];exact aT) (oP ao);have aU:=Step.part ay ah bE;have bh:dP M1 e.2.x5:=(st.rest _ aT aJ).2.1;have aV:e.2.x5∉J:=(st.rest _ aT aJ).2.2;have G:∀b,b∈A\/b∈B->Has D M1 k v h b.2/\minOf k v h<=b.2.size:=fun b E=>by
   have aW:b∈es:=by rw[aa];rcases E with E|E<;>simp[E]
   refine⟨(h7 b aW).1.q8 fun x u=>?_,(h7 b aW).2⟩;have hd:=yL.1 ah;refine (st.rest x ((h7 b aW).1.J4 ho x u) fun hm=>?_).1;rcases E with E|E;exact hd.2.2 x (yJ.2 ⟨b,E,u⟩) x (zH _ (zN _ hm)) rfl;exact (yL.1 hd.2.1).2.2 x (zN _ hm) x (yJ.2 ⟨b,E,u⟩) rfl
  have bc:n1<=(if h=0 then (dQ k v).1 else (dQ k v).2):=by
   cases h with
   | zero=>exact ap.2.2.2.2.2
   | succ h=>obtain⟨_,_,_,_,_,_,_,_,h9,_⟩:=ap;exact h9
  have b2:=hc.min h;have ar:minOf k v h=(if h=0 then (dQ k v).1 else (dQ k v).2) / 2:=(by unfold minOf;split<;>rfl);have aA:fG (A++(e.1,(⟨0,0,gb key e.2.y3,[]⟩:gU))::B):=aw.swap fun x u=>(Gp.1 u).1;have C:es.length=A.length+B.length+1:=(by rw[aa];simp;omega);have aE:∀ {N:dG} {M2:dU} {n R':_},i4 D M2 k v (h+1) N n (A.flatMap (·.2.y3)++(gb key e.2.y3++B.flatMap (·.2.y3))) R'->i4 D M2 k v (h+1) N n (gb key (es.flatMap (·.2.y3))) R':=fun h9=>by rw[am];exact h9
  have ax:∀ {M2:dU} {R':List Int},Step D M1 M2 (A.flatMap (·.2.y4)++((e.2.x5::J)++B.flatMap (·.2.y4))) R'->Step D M M2 (es.flatMap (·.2.y4)) R':=fun h9=>by rw[ai,aR];exact aU.trans h9
  have aK:nS N1 k v↔n1<minOf k v h:=(by unfold nS;rw[ap.size,ar]);unfold gS;rw[hl];dsimp only;rw[if_neg (fun h=>h rfl),if_neg (show ¬(dH es).Q4=true from fun e=>nomatch e),aP,ec];dsimp only;rw[if_neg (fun h=>h rfl),bz];by_cases hlw:nS N1 k v;rw[if_neg (fun h=>h hlw)];have b3:=aK.1 hlw;have bj:n1+1=minOf k v h:=oJ;by_cases hA0:A.length>0;rw[if_pos hA0];obtain⟨A',f,rfl⟩:∃A' f,A=A'++[f]:=(by have bk:A≠[]:=length_pos_iff.1 hA0;exact⟨A.dropLast,A.getLast bk,(xZ bk).symm⟩);have bF:(A'++[f]).length-1=A'.length:=oL;rw[bF];have aB:=G f (.inl oL);obtain⟨Ny,Ry,aY,au,aZ,_,_⟩:=aB.1.load;have I:es=A'++f::e::B:=(by rw[aa];simp);have bG:(A'++[f]).flatMap (·.2.y4)=A'.flatMap (·.2.y4)++f.2.y4:=(by simp[yP]);have bm:(A'++[f]).flatMap (·.2.y3)=A'.flatMap (·.2.y3)++f.2.y3:=(by simp[yP]);have ac:(A'++[f]).flatMap (·.2.y4)++((e.2.x5::J)++B.flatMap (·.2.y4))=A'.flatMap (·.2.y4)++(((f.2.x5::Ry)++(e.2.x5::J))++B.flatMap (·.2.y4)):=(by rw[bG,aZ];simp only[zV]);have aq:(A'++[f]).flatMap (·.2.y3)++(gb key e.2.y3++B.flatMap (·.2.y3))=A'.flatMap (·.2.y3)++((f.2.y3++gb key e.2.y3)++B.flatMap (·.2.y3)):=(by rw[bm];simp only[zV]);have aC:fG (A'++(f.1,(⟨0,0,f.2.y3,[]⟩:gU))::(e.1,⟨0,0,gb key e.2.y3,[]⟩)::B):=(by have h9:fG (A'++f::((e.1,(⟨0,0,gb key e.2.y3,[]⟩:gU))::B)):=(oP aA);exact h9.swap (s:=⟨0,0,f.2.y3,[]⟩) fun x u=>u);have ad:=aU;rw[ac] at ad;have Hn:rM D M1 k v h A' B f e Ny N1 f.2.size n1 f.2.y3 (gb key e.2.y3) Ry J:=
   ⟨st.wf,st.Q3,by rw[<- I];exact h0,by rw[<- I];exact ab,aC,by have:=an.2;rw[C] at this;simp at this;omega,fun b E=>G b (E.imp (fun E=>by simp[E]) id),au,ap,ad.has,ad.nodup⟩
  have a1:(dH es).J9.getD A'.length 0=f.2.x5:=(by rw[I];exact wN.1);have U:iF Ny k v↔minOf k v h<f.2.size:=(by unfold iF;rw[au.size,ar]);unfold jw;rw[a1,aY];dsimp only;rw[if_neg (fun h=>h rfl),if_pos (show A'.length<(A'++[f]).length by simp),I];by_cases hsq:iF Ny k v;rw[if_neg (fun h=>h hsq)];obtain⟨a2,a3,a4,a5⟩:=Hn.vw;have a6:(dH (A'++f::e::B)).J6.getD A'.length []=e.1:=DU;rw[a6];obtain⟨N,M2,R,e2,ae,V,aG⟩:=qs5 hc Hn (qyD hc au ap (U.1 hsq) bj a2 a3 ⟨a4,a5⟩) oJ;rw[<- aq] at ae;rw[<- ac] at V;rw[<- I];exact⟨N,_,M2,_,R,by rw[I];exact e2,rfl,aE ae,ax V,by rw[C];simp;omega,oJ⟩;rw[if_pos hsq];have bH:f.2.size<=minOf k v h:=Nat.le_of_not_lt fun h9=>hsq (U.2 h9);have a7:=aB.2;obtain⟨N,M2,R,e2,ae,V,aG⟩:=qpk hc Hn oJ oJ oJ;rw[<- aq] at ae;rw[<- ac] at V;rw[<- I];exact⟨N,_,M2,_,R,by rw[I];exact e2,rfl,aE ae,ax V,by rw[C];simp;omega,oJ⟩;rw[if_neg hA0];obtain rfl:A=[]:=eq_nil_of_length_eq_zero oJ;obtain⟨f,B',rfl⟩:∃f B',B=f::B':=by
   cases B with
   | nil=>rw[C] at an;simp at an
   | cons f B'=>exact⟨f,B',rfl⟩
  have aB:=G f (.inr oL);obtain⟨Ny,Ry,aY,au,aZ,_,_⟩:=aB.1.load;have I:es=[]++e::f::B':=aa;have ac:([]:List gC).flatMap (·.2.y4)++((e.2.x5::J)++(f::B').flatMap (·.2.y4))=([]:List gC).flatMap (·.2.y4)++(((e.2.x5::J)++(f.2.x5::Ry))++B'.flatMap (·.2.y4)):=by rw[yG,aZ];simp only[zV]
  have aq:([]:List gC).flatMap (·.2.y3)++(gb key e.2.y3++(f::B').flatMap (·.2.y3))=([]:List gC).flatMap (·.2.y3)++((gb key e.2.y3++f.2.y3)++B'.flatMap (·.2.y3)):=(by rw[yG];simp only[zV]);have aC:fG ([]++(e.1,(⟨0,0,gb key e.2.y3,[]⟩:gU))::(f.1,⟨0,0,f.2.y3,[]⟩)::B'):=(by have h9:fG ([(e.1,(⟨0,0,gb key e.2.y3,[]⟩:gU))]++f::B'):=aA;exact h9.swap (s:=⟨0,0,f.2.y3,[]⟩) fun x u=>u);have ad:=aU;rw[ac] at ad;have Hn:rM D M1 k v h [] B' e f N1 Ny n1 f.2.size (gb key e.2.y3) f.2.y3 J Ry:=
   ⟨st.wf,st.Q3,by rw[<- I];exact h0,by rw[<- I];exact ab,aC,by have:=an.2;rw[C] at this;simp at this⊢;omega,fun b E=>G b (E.imp id fun E=>by simp[E]),ap,au,ad.has,ad.nodup⟩
  have a1:(dH es).J9.getD (([]:List gC).length+1) 0=f.2.x5:=(by rw[I];exact wN.2);have U:iF Ny k v↔minOf k v h<f.2.size:=(by unfold iF;rw[au.size,ar]);unfold jw;rw[a1,aY];dsimp only;rw[if_neg (fun h=>h rfl),if_neg (show ¬([]:List gC).length+1<([]:List gC).length by simp),I];by_cases hsq:iF Ny k v;rw[if_neg (fun h=>h hsq)];obtain⟨a2,a3,a4,a5⟩:=Hn.vw;have a6:(dH ([]++e::f::B')).J6.getD ([]:List gC).length []=f.1:=DU (A:=[]) (B:=B') (e1:=e);rw[a6];obtain⟨N,M2,R,e2,ae,V,aG⟩:=qs5 hc Hn (qze hc ap au bj (U.1 hsq) a2 a3 ⟨a4,a5⟩) oJ;rw[<- aq] at ae;rw[<- ac] at V;rw[<- I];exact⟨N,_,M2,_,R,by rw[I];exact e2,rfl,aE ae,ax V,by rw[C];simp,oJ⟩;rw[if_pos hsq];have bH:f.2.size<=minOf k v h:=Nat.le_of_not_lt fun h9=>hsq (U.2 h9);have a7:=aB.2;obtain⟨N,M2,R,e2,ae,V,aG⟩:=qpk hc Hn oJ oJ oJ;rw[<- aq] at ae;rw[<- ac] at V;rw[<- I];exact⟨N,_,M2,_,R,by rw[I];exact e2,rfl,aE ae,ax V,by rw[C];simp,oJ⟩;rw[if_pos hlw];have a7:minOf k v h<=n1:=Nat.le_of_not_lt fun h9=>hlw (aK.2 h9);obtain⟨q,M2,e2,V,H2,aG⟩:=ap.store st.wf st.Q3 oJ bh aV oJ;rw[e2];have bI:Step D M M2 (e.2.x5::Re) (q::J):=Step.kid (Q:=[q]) (fun z hz=>ay z (zI _ (zH _ hz))) ao st V;have bJ:=Step.part ay ah bI;have a8:fG (A++(e.1,(⟨q,n1,gb key e.2.y3,q::J⟩:gU))::B):=aw.swap fun x u=>(Gp.1 u).1;have a9:((A++(e.1,(⟨q,n1,gb key e.2.y3,q::J⟩:gU))::B).map (·.1)).head?=some []:=(by rw[aa] at h0;rw[xM,xN] at h0⊢;exact h0);refine⟨dH (A++(e.1,(⟨q,n1,gb key e.2.y3,q::J⟩:gU))::B),es.length,M2,_,A.flatMap (·.2.y4)++((q::J)++B.flatMap (·.2.y4)),?_,rfl,⟨_,a9,rfl,by rw[aa];simp,by rw[pU,am],by rw[pU],FY (by rw[<- aa];exact ab),a8,an.2,fun b E=>?_⟩,by rw[ai,aR];exact bJ,by show es.length<=es.length+1;omega,oJ⟩;rw[aa];exact congrArg (fun N=>((N,(0:Int)),M2)) (qy9 (s:=⟨q,n1,gb key e.2.y3,q::J⟩));have bn:∀b,b∈A\/b∈B->Has D M2 k v h b.2/\minOf k v h<=b.2.size:=fun b E=>by have h9:=G b E;refine⟨h9.1.q8 fun x u=>(V.rest x (h9.1.J4 st.Q3 x u) fun hm=>?_).1,h9.2⟩;have hd:=yL.1 ah;have bo:=zE.1 hm;rcases E with E|E;exact hd.2.2 x (yJ.2 ⟨b,E,u⟩) x (by rw[bo];simp) rfl;exact (yL.1 hd.2.1).2.2 x (by rw[bo];simp) x (yJ.2 ⟨b,E,u⟩) rfl
  rcases zD.1 E with E|E;exact bn b (.inl E);rcases zG.1 E with rfl|E;exact⟨H2,a7⟩;exact bn b (.inr E)
end
end
end
section
open Go Go.Pt List
open Go.IntKind (wrap)
variable {l:List Key}
def EN{α:Type}{p:α->Bool}:∀ {l:List α} {r:Nat},r<=l.length->(∀(i:Nat) a,i<r->l[i]?=some a->p a=true)->(∀a,l[r]?=some a->p a=false)->(l.takeWhile p).length=r
 | [],r,h,_,_=>by simp at h;simp[h]
 | x::l,0,h,_,u=>by
  have:=u x rfl
  rw[takeWhile_cons,this];rfl
 | x::l,r+1,h,E,u=>by
  have G:=E 0 x (Nat.succ_pos r) rfl
  have:=EN (p:=p) (l:=l) (r:=r) (oP h) (fun i a I C=>E (i+1) a oJ (oP C)) (fun a C=>u a (oP C))
  rw[takeWhile_cons,G];simp[this]
def qyN{k:Key}{r:Nat}(C:r<=l.length)(E:∀(i:Nat) a,i<r->l[i]?=some a->lz a k)(G:∀a,l[r]?=some a->fD k a):dZ l k=r:=
 EN C (fun i a I u=>zZ (E i a I u)) fun a u=>zU fun h=>h (G a u)
def qwn{k:Key}{r:Nat}(u:r<=l.length)(C:∀(i:Nat) a,i<r->l[i]?=some a->fD a k)(E:∀a,l[r]?=some a->lz k a):dI l k=r:=
 EN u (fun i a G h=>zZ (C i a G h)) fun a h=>zU (E a h)
def Dv(h:fE l){i j:Nat}{a b:Key}(u:i<j)(C:l[i]?=some a)(E:l[j]?=some b):fD a b:=by obtain⟨G,rfl⟩:=zP.1 C;obtain⟨I,rfl⟩:=zP.1 E;exact pairwise_iff_getElem.1 h i j G I u
abbrev jP:=Bool×Sl×Sl×Sl
def eF (x:jP):Array Value:=#[.bool x.1,x.2.1.v,x.2.2.1.v,x.2.2.2.v]
def fl:jP:=(false,dC,dC,dC)
def NB (n:dG):Prop:=(∀a∈n.J6,eB a)/\(∀a∈n.Q0,eB a)/\∀x∈n.J9,gy x
def ef (S:List Nat) (w:World) (x:jP) (n:dG):Prop:=
 x.1=n.Q4/\NB n/\(∃pk,i9 S w x.2.1 pk/\fV pk=n.J6)/\(∃pv,i9 S w x.2.2.1 pv/\fV pv=n.Q0)/\dW ik 1 S w x.2.2.2 n.J9
def iL (Z:List Nat) (w:World) (s:Sl) (l:List Key) (B:List Nat):Prop:=∃pk:oS,eO gg 1 w s (ij pk) B/\fV pk=l/\∀p∈pk,eE Z w p.1 p.2
def eV (Z:List Nat) (w:World) (x:jP) (n:dG) (B:List Nat):Prop:=
 x.1=n.Q4/\NB n/\∃Bk h u,B=Bk++(h++u)/\B.Nodup/\iL Z w x.2.1 n.J6 Bk/\iL Z w x.2.2.1 n.Q0 h/\eO ik 1 w x.2.2.2 n.J9 u
def iL.nil(Z:List Nat)(w:World):iL Z w dC [] []:=⟨[],.nil _ _ _,rfl,fun p h=>nomatch h⟩
def eV.zero(Z:List Nat)(w:World):eV Z w fl ie []:=⟨rfl,⟨fun _ h=>(nomatch h),fun _ h=>(nomatch h),fun _ h=>(nomatch h)⟩,[],[],[],rfl,nodup_nil,.nil _ _,.nil _ _,.nil _ _ _⟩
section
variable {Z Z' S:List Nat} {w w':World} {s:Sl} {l:List Key} {B:List Nat} {x:jP} {n:dG}
def iL.lt(h:iL Z w s l B):∀b∈B,b<w.heap.size:=by obtain⟨pk,u,rfl,_⟩:=h;exact u.lt
def iL.q8(h:iL Z w s l B)(f:Fr S w w')(u:∀b∈B,b∉S)(C:∀b∈S,b∈Z\/w.heap.size<=b)(E:∀b∈Z',b∈Z\/w.heap.size<=b):iL Z' w' s l B:=by obtain⟨pk,G,I,J⟩:=h;exact⟨pk,G.q8 f u,I,fun p R=>(J p R).q8 (f.mono fun i U V=>(C i U).elim id fun h=>absurd V oJ) E⟩
def iL.q7(h:iL Z w s l B)(f:Fr [] w w'):iL Z w' s l B:=h.q8 f (fun _ _ h=>nomatch h) (fun _ h=>nomatch h) fun _ h=>.inl h
def eV.lt(h:eV Z w x n B):∀b∈B,b<w.heap.size:=by obtain⟨_,_,Bk,I,J,rfl,_,C,E,G⟩:=h;intro b u;rcases zD.1 u with u|u;exact C.lt b u;rcases zD.1 u with u|u;exact E.lt b u;exact G.lt b u
def eV.q8(h:eV Z w x n B)(f:Fr S w w')(C:∀b∈B,b∉S)(E:∀b∈S,b∈Z\/w.heap.size<=b)(G:∀b∈Z',b∈Z\/w.heap.size<=b):eV Z' w' x n B:=by obtain⟨I,u,Bk,J,R,rfl,U,V,h2,h3⟩:=h;exact⟨I,u,Bk,J,R,rfl,U,V.q8 f (fun b u=>C b (by simp[u])) E G,h2.q8 f (fun b u=>C b (by simp[u])) E G,h3.q8 f fun b u=>C b (by simp[u])⟩
def eV.q7(h:eV Z w x n B)(f:Fr [] w w'):eV Z w' x n B:=h.q8 f (fun _ _ h=>nomatch h) (fun _ h=>nomatch h) fun _ h=>.inl h
def eV.j6(h:eV Z w x n B)(u:∀b∈Z',b∈Z\/w.heap.size<=b):eV Z' w x n B:=h.q8 (.refl [] _) (fun _ _ h=>nomatch h) (fun _ h=>nomatch h) u
def iL.rd(h:iL Z w s l B)(u:∀b∈B,b∉S)(C:∀b∈S,b∈Z\/w.heap.size<=b):∃pk,i9 S w s pk/\fV pk=l:=by obtain⟨pk,E,G,I⟩:=h;exact⟨pk,⟨E.jq vh u,fun p J=>(I p J).q8 (.refl _ _) C⟩,G⟩
def eV.rd(h:eV Z w x n B)(C:∀b∈B,b∉S)(E:∀b∈S,b∈Z\/w.heap.size<=b):ef S w x n:=by obtain⟨G,u,Bk,U,V,rfl,hn,I,J,R⟩:=h;exact⟨G,u,I.rd (fun b u=>C b (by simp[u])) E,J.rd (fun b u=>C b (by simp[u])) E,R.jq (fun _=>rfl) fun b u=>C b (by simp[u])⟩
def ef.q8{S':List Nat}(h:ef S w x n)(f:Fr S w w')(u:∀b∈S',b∈S\/w.heap.size<=b):ef S' w' x n:=by obtain⟨C,E,⟨pk,G,I⟩,⟨pv,J,R⟩,U⟩:=h;exact⟨C,E,⟨pk,G.q8 f u,I⟩,⟨pv,J.q8 f u,R⟩,U.q8 f u⟩
def ef.q7(h:ef S w x n)(f:Fr [] w w'):ef S w' x n:=h.q8 (f.mono fun b u=>nomatch u) fun b u=>.inl u
def ef.j6{S':List Nat}(h:ef S w x n)(u:∀b∈S',b∈S\/w.heap.size<=b):ef S' w x n:=h.q8 (.refl _ _) u
end
def qke:∀ {l:List Key},(∀(i:Nat) a b,l[i]?=some a->l[i+1]?=some b->fD a b)->fE l
 | [],_=>.nil
 | [x],_=>pairwise_singleton _ _
 | x::y::r,h=>by have ih:fE (y::r):=qke fun i a b u E=>h (i+1) a b (oP u) (oP E);have C:fD x y:=h 0 x y rfl rfl;refine yI.2 ⟨fun a u=>?_,ih⟩;rcases zG.1 u with rfl|u;exact C;exact om C (wc ih a u)
def BB{α:Type}{l:List α}{i:Nat}{x y:α}(h:y∈fy l i x):y=x\/y∈l:=by unfold fy at h;simp only[zD,zE] at h;rcases h with (h|h)|h;exact .inr (yU h);exact .inl h;exact .inr (yT h)
def Eo{k v:Nat}:∀(c:Nat) {b:List Int},eB b->(∀a∈(iC k v c b).1,eB a)/\∀a∈(iC k v c b).2,eB a
 | 0,_,_=>⟨fun _ h=>(nomatch h),fun _ h=>(nomatch h)⟩
 | c+1,b,h=>by have ih:=Eo (k:=k) (v:=v) c (b:=b.drop (k+v)) (h.drop _);refine⟨fun a u=>?_,fun a u=>?_⟩;rcases zG.1 u with rfl|u;exact h.take _;exact ih.1 a u;rcases zG.1 u with rfl|u;exact (h.drop _).take _;exact ih.2 a u
def qpm{k:Nat}:∀(c:Nat) {b:List Int},eB b->∀a∈kI k c b,eB a
 | 0,_,_=>fun _ h=>(nomatch h)
 | c+1,b,h=>fun a u=>by rcases zG.1 u with rfl|u;exact h.take _;exact qpm c (h.drop _) a u
end
end Go.Proofs.YtpcmehldpoljfaaGreatDoor
