/- Conditions: those that stand in each line. -/
import Derived.Test.YtpcmehldpoljfaaGreatDoorCSRR3
import Derived.Test.YtpcmehldpoljfaaGreatDoorCSRR2
import Derived.Test.YtpcmehldpoljfaaGreatDoorCSRR1
import Derived.Lib.Bytealg
import Derived.Lib.BytesEntry
import Derived.Laws.IdiomStrings
import Derived.Laws.BytesString
set_option linter.unusedVariables false
set_option linter.unusedSimpArgs false
set_option linter.defProp false
namespace Go.Proofs.YtpcmehldpoljfaaGreatDoor
open Go Go.Pt
attribute [local irreducible] ld dX jg oe jF fP st new idx jG jR fM jY jz mM iH nn call eJ inv run fG js join loop held ext kz eC nK nE nQ IntKind.wrap
open Go.Proofs.Tryz (prog)
section
open Go Go.Pt Go.Sort List
def Gy(l:IT):l.flatMap iZ=l.map (Value.int .u32):=by
 induction l with
 | nil=>rfl
 | cons a l ih=>rw[yH,ih];rfl
def qre{w:IK}{s:Sl}{l:IT}{B:IS}{K:Unit->WP}(h:lO w s l B)(hl:l.length<=1000000)(hk:∀J w',lO w' s J B->J.Perm l->J.Pairwise (·<=·)->Fr B w w'->K () w'): cW 148 [s.v] [] w K:=by
 rcases h with ⟨rfl,rfl,rfl⟩|⟨b,o,E,T,rfl,rfl,ha,hb,h1,h2,h3,R⟩;exact qrf (hk [] w (.nil _ _ _) (.refl _) .nil (.refl _ _));obtain⟨a,len,cap⟩:=s;simp only at ha h1 h2 h3 R;subst ha h1;rw[xG,xU,Gy] at R;rw[xT,xU] at h3;have U:E=iO l.toArray++(E.toList.drop l.length).toArray:=by apply Array.ext';rw[Array.toList_append,iO,Array.toList_map,<- R,xF]
 have G:ig b ⟨T,some (E.toList.drop l.length).toArray⟩ w w l.toArray:=⟨.refl _ _,by rw[hb];show _=some (Obj.cells (iO l.toArray++(E.toList.drop l.length).toArray) T (0,0));rw[<- U]⟩;refine qtz (len:=l.length) G ⟨oL,oJ⟩ λu w' s1 s2 s3=>?_;have I:u.size=l.length:=(by have:=s1.1;simpa using this);have hp:u.toList.Perm l:=by
  have:=Cz s1;rw[zS (by rw[IJ];omega)] at this;simpa using this
 have V:u.toList.length=l.length:=(by rw[<- I];rfl);have an:E.toList.length=E.size:=rfl;refine hk u.toList w' (.inr ⟨b,0,_,T,rfl,rfl,rfl,s3.eY,?_,?_,?_,?_⟩) hp ?_ s3.fr;show l.length=u.toList.length;exact V.symm;exact h2;show 0+cap*1<=(iO u++(E.toList.drop l.length).toArray).size;have e:(E.toList.drop l.length).toArray.size=E.size-l.length:=oL;rw[Array.size_append,AZ,e,I];omega;show ((iO u++(E.toList.drop l.length).toArray).toList.drop 0).take _=_;rw[xG,xU,Array.toList_append,iO,Array.toList_map,Ir (by rw[zK];exact zM _),zS (by rw[zK];exact zM _),Gy];rw[pairwise_iff_getElem];intro i j hi hj ac;have hi:i<u.size:=hi;have hj:j<u.size:=hj;have:=s2 i j (yX _) ac oJ;rw[getElem!_pos u i hi,getElem!_pos u j hj] at this;simp[ltInt] at this;simpa using this
def qq4{w:IK}{mb:Nat}{f:List (Int×IL)}{K:Sl->WP}(U:jy jL w mb f)(V:f.length<=100000)(hk:∀u B h w',lO w' u h B->h.Perm (f.map (·.1))->h.Pairwise (·<=·)->Fr [] w w'->(∀b∈B,w.heap.size<=b)->K u w'): cW 180 [.map (some mb)] dw w λv w'=> cW 179 [v] dl w' λs w'=>K s w':=by refine qr2<|oB (oE [] w) λrk w1 e1 E ho=>qm4<|qlx<|qqA (U.j1 E oL) (ho.at (i:=0) rfl) V λu B h w2 b2 I f2 J=>?_;have hl:h.length=f.length:=(by have:=I.length_eq;simpa using this);refine qre b2 oJ λl2 w3 b3 p3 s3 f3=>?_;have R:=E.size;exact hk u B l2 w3 b3 (p3.trans I) s3 ((E.trans f2).J0 f3 λb G=>.inr (zL R (J b G))) λb G=>zL R (J b G)
section
variable {w:IK} {X:IS} {pb:Nat} {db:Option Addr} {F:IS} {M:eH}
def qvW{K:Sl->WP}(h:eW w X pb db F M)(G:M.Q0.length<=100000)(I:∀s B l w',lO w' s l B->l.Perm (M.Q0.map (·.1))->l.Pairwise (·<=·)->Fr [] w w'->(∀b∈B,w.heap.size<=b)->K s w'): cW 149 [dS pb] dl w K:=by obtain⟨fb,defb,mb,sl,sn,R,F2,J,rfl,u⟩:=h;refine qiO<|fO ?_;simp only[Addr.j3];refine iv u.cell (some mb) (tN u.x4) ?_;have E:J.length<=100000:=(by rw[u.Q0] at G;simpa using G);refine qq4 u.map (oP E) λs B l w' b p o f n=>I s B l w' b ?_ o f n;rw[u.Q0];simpa[Function.comp_def] using p
end
end
section
open Go Go.Pt List
open Go.IntKind (wrap)
variable {D:dV} {F F1 FD S X:IS} {J1 next s:oV} {K:Int->WP} {M:eH} {Q4 Q7 body cC l l' numbers x5:IT} {Q5:Bool} {a r:dV×Int} {db x y:Option Addr} {dbk k mb pb:Nat} {f:dV->dV×Int} {m:Option Nat} {n x8:Int} {offs:Array (I1)} {parts:List (Nat×IL)} {sl sn:Sl} {w w1:IK} {wk:List IL}
def t5{A X Y Z:List IL}(h:X.length=Y.length):en (A++X++Z).toArray A.length Y=(A++Y++Z).toArray:=by apply Array.ext';rw[qJ _ _ _ (by rw[size_toArray];simp only[zF];omega)];exact E5 A X Y Z h
def sO{cells:Array IL}{i o s:Nat}{v:IL}{rest:List (Nat×IL)}(h:offs[i]?=some (o,s))(u:v.cells.size=s)(G:o+s<=cells.size): Instr.fill (offs[·]?) cells ((i,v)::rest)=Instr.fill (offs[·]?) (en cells o v.cells.toList) rest:=by have E:=EF o v.cells cells;simp only[Instr.fill,h];rw[iN (by simp[u];omega),E]
def BC{P:IN}{t:IM}{z:IL}{cs:Array IL}(u:(P.info? t).bind (·.zero)=some z)(E:P.underlying t=some (.struct (fieldsOf P t)))(h:∀w,((fieldsOf P t).mapM λf=>do pure (f.offset,<- sizeOf f.type):Sem (Array (I1))).run P w=.ok offs w)(G:Instr.fill (offs[·]?) z.cells parts=some cs)(w:IK):(Instr.build t parts.toArray).run P w=.ok (.agg cs) w:=by simp only[Instr.build,Iu,v9 u,Iv,run_underlying E,h,G,Sem.run_pure]
abbrev HK:IM:=189
def iG (x y:Option Addr) (m:Option Nat) (Q4:IT):List IL:=[.pointer x,.pointer y,.map m]++Q4.map (Value.int .u32)
def zo(h:Q4.length=24):(iG x y m Q4).length=27:=by simp[iG,h]
def qA2:(prog.info? HK).bind (·.zero)=some (.agg (iG none none none (zs 24)).toArray):=by kernel_rfl
def quV(h:Q4.length=24)(w:IK): (Instr.build HK #[(0,.pointer x),(1,.pointer y),(2,.map m),(3,.agg (Q4.map (Value.int .u32)).toArray)]).run prog w=.ok (.agg (iG x y m Q4).toArray) w:=by refine BC (parts:=[(0,.pointer x),(1,.pointer y),(2,.map m),(3,.agg (Q4.map (Value.int .u32)).toArray)]) (offs:=#[(0,1),(1,1),(2,1),(3,24)]) qA2 oK (λw=>oK) ?_ w;have u:(Value.agg (Q4.map (Value.int .u32)).toArray).cells.size=24:=(by show (Q4.map (Value.int .u32)).toArray.size=24;simp[h]);rw[sO (o:=0) (s:=1) rfl rfl (zO rfl),sO (o:=1) (s:=1) rfl rfl (zO rfl),sO (o:=2) (s:=1) rfl rfl (zO rfl),sO (o:=3) (s:=24) rfl u (zO rfl)];show some _=_;congr 1;exact t5 (A:=[.pointer x,.pointer y,.map m]) (X:=(zs 24).map (Value.int .u32)) (Z:=[]) (Y:=Q4.map (Value.int .u32)) (by simp[h,qj]) |>.trans (by rw[xI];rfl)
def fI (db:Option Addr) (J1:oV) (sl sn:Sl) (x8:Int) (Q5:Bool) (wk:List IL):Array IL:=
 ((Value.pointer db::fv J1.1 J1.2)++([sl.v,sn.v,.i x8,.bool Q5]:List IL)++wk).toArray
def Ft{fb defb:Nat}: fI db J1 sl sn x8 Q5 (iG (pW fb) (pW defb) (some mb) Q4)=gi db J1 sl sn x8 Q5 fb defb mb Q4:=by simp[fI,gi,nR,iG]
section
variable {db:Option Addr} {J1:oV} {sl sn:Sl} {x8:Int} {Q5:Bool} {wk:List IL}
def u9(h:J1.2.length=27):(fI db J1 sl sn x8 Q5 wk).size=33+wk.length:=by rw[fI,size_toArray,zF,zF,tl h];rfl
def wE(u:J1.2.length=27)(j:Nat)(h:j<4):(fI db J1 sl sn x8 Q5 wk)[29+j]?=([sl.v,sn.v,.i x8,.bool Q5]:List IL)[j]?:=by rw[fI,List.getElem?_toArray,zV,yY (by rw[tl u];omega),tl u,vE,yZ (by exact h)]
def qAZ:(fI db J1 sl sn x8 Q5 wk)[0]?=some (.pointer db):=rfl
def DN(E:J1.2.length=27)(n:Nat)(h:n<27):(fI db J1 sl sn x8 Q5 wk)[n+2]?=some (.u (J1.2.getD n 0)):=by
 rw[fI,List.getElem?_toArray,zV,yZ (by rw[tl E];omega),List.getElem?_cons_succ];have:=Cp (q:=J1.1) (t:=J1.2) n oJ;rw[List.getElem?_toArray] at this;exact this
def GY(h:J1.2.length=27):((fI db J1 sl sn x8 Q5 wk).toList.drop 5).take 24=(J1.2.drop 3).map (Value.int .u32):=by have u:((J1.2.drop 3).map (Value.int .u32)).length=24:=(by rw[zK,yB,h]);have e:(fI db J1 sl sn x8 Q5 wk).toList.drop 5=(J1.2.drop 3).map (Value.int .u32)++([sl.v,sn.v,.i x8,.bool Q5]++wk):=(by show List.drop 3 ((J1.2.map (Value.int .u32))++[_,_,_,_]++wk)=_;rw[zV,Ix (by rw[zK,h];decide),xR]);rw[e,Ir (Nat.le_of_eq u.symm),zS (Nat.le_of_eq u)]
def qyB(E:J1.2.length=27){u:Int}:en (fI db J1 sl sn x8 Q5 wk) 31 [.i u]=fI db J1 sl sn u Q5 wk:=by
 have h:((Value.pointer db::fv J1.1 J1.2)++([sl.v,sn.v]:List IL)).length=31:=by rw[zF,tl E];rfl
 have:=t5 (A:=(Value.pointer db::fv J1.1 J1.2)++([sl.v,sn.v]:List IL)) (X:=[.i x8]) (Y:=[.i u]) (Z:=.bool Q5::wk) rfl;rw[h] at this;simpa[fI] using this
def qyC(E:J1.2.length=27){u:List IL}(G:wk.length=u.length):en (fI db J1 sl sn x8 Q5 wk) 33 u=fI db J1 sl sn x8 Q5 u:=by
 have h:((Value.pointer db::fv J1.1 J1.2)++([sl.v,sn.v,.i x8,.bool Q5]:List IL)).length=33:=by rw[zF,tl E];rfl
 have:=t5 (A:=(Value.pointer db::fv J1.1 J1.2)++([sl.v,sn.v,.i x8,.bool Q5]:List IL)) (X:=wk) (Y:=u) (Z:=[]) G;rw[h,xI,xI] at this;exact this
end
def gW (l:IT):IT:=l.foldl (λa n=>ins n a) []
def qtX(n:Int):∀l:IT,(ins n l).length<=l.length+1
 | []=>by simp[ins]
 | a::l=>by
  have:=qtX n l;simp only[ins];split;simp;split;simp;simp only[yI];omega
def qta{i:Nat}(h:i<l.length):gW (l.take (i+1))=ins l[i] (gW (l.take i)):=by rw[gW,yG h,foldl_append];rfl
def qnG(l:IT):(gW l).length<=l.length:=by
 unfold gW;have:∀(l a:IT),(l.foldl (λa n=>ins n a) a).length<=a.length+l.length:=by
  intro l;induction l with
  | nil=>intro a;simp
  | cons x l ih=>
   intro a;have h:=ih (ins x a);have u:=qtX x a;rw[foldl_cons,yI];omega
 simpa using this l []
def qoI(l:IT):∀a:IT,a.Pairwise (· < ·)->(l.foldl (λa n=>ins n a) a).Pairwise (· < ·):=by
 induction l with
 | nil=>intro a h;exact h
 | cons x l ih=>intro a h;exact ih _ (Cy h)
def qrH(l:IT):∀a:IT,(a++l).Nodup->(l.foldl (λa n=>ins n a) a).Perm (a++l):=by
 induction l with
 | nil=>intro a h;rw[xI];exact .refl _
 | cons x l ih=>
  intro a h;have E:x∉a:=λG=>by rw[yM] at h;exact h.2.2 x G x oL rfl
  have I:=Ay E;have u:(ins x a++l).Perm (a++x::l):=(I.append_right l).trans (perm_middle.symm);exact (ih (ins x a) (u.nodup_iff.2 h)).trans u
def CB(l:IT):(gW l).Pairwise (· < ·):=qoI l [] .nil
def EJ(h:l.Nodup):(gW l).Perm l:=by
 have:=qrH l [] (oP h);simpa[gW] using this
def qyX(h:l.Pairwise (· < ·)):l.Pairwise (·<=·):=h.imp Int.le_of_lt
def xk(h:l.Pairwise (· < ·)):l.Nodup:=h.imp (λh=>Int.ne_of_lt h)
def FE(h:l'.Perm l)(u:l'.Pairwise (·<=·))(E:l.Nodup):l'=gW l:=
 H9 (h.trans (EJ E).symm) u (qyX (CB l))
def qpO(h:l.Pairwise (· < ·)):gW l=l:=(FE (.refl _) (qyX h) (xk h)).symm
def AG{x y:Int}:∀ {l:IT},y∈ins x l↔y=x\/y∈l
 | []=>by simp[ins]
 | a::l=>by
  have:=AG (x:=x) (y:=y) (l:=l);simp only[ins];split;simp;split;rename_i h;subst h;simp;simp only[zG,this];constructor;rintro (h|h|h);exact .inr (.inl h);exact .inl h;exact .inr (.inr h);rintro (h|h|h);exact .inr (.inl h);exact .inl h;exact .inr (.inr h)
def xf{y:Int}:y∈gW l↔y∈l:=by
 have:∀(l a:IT),y∈l.foldl (λa n=>ins n a) a↔y∈a\/y∈l:=by
  intro l;induction l with
  | nil=>intro a;simp
  | cons x l ih=>
   intro a;rw[foldl_cons,ih,AG,zG];constructor;rintro ((h|h)|h);exact .inr (.inl h);exact .inl h;exact .inr (.inr h);rintro (h|h|h);exact .inl (.inr h);exact .inl (.inl h);exact .inr h
 rw[gW,this];simp
def andThen (r:dV×Int) (f:dV->dV×Int):dV×Int:=if r.2=0 then f r.1 else r
def fU:List (I7)->dV->dV×Int
 | [],D=>(D,0)
 | x::r,D=>andThen (eQ D x.1 x.2) (fU r)
def fJ (D:dV) (numbers cC:IT):dV×Int:=
 if (gM numbers cC).2≠0 then (D,(gM numbers cC).2)
 else andThen (fU ((cC.zip (gM numbers cC).1).map λx=>(x.1,eU x.1 2 x.2)) D) gA
def gY (s:oV):I7:=(Int.tmod s.1 2,eU (wrap .u32 (Int.tmod s.1 2)) 1 (gQ s.1 s.2))
def kc (D:dV) (s:oV):dV×Int:=andThen (eQ D (gY s).1 (gY s).2) gA
def fQ (n:Nat):IT:=(List.range (n-2)).map λ(i:Nat)=>(i:Int)+2
def k7 (n:Nat):oV:=(1,[wrap .u32 n,2,wrap .u32 ((fQ n).length-eZ (fQ n).length:Int)]++zs 24)
def ma (D:dV):dV×Int:=
 andThen (eQ D 0 (zs 512)) λD=>andThen (eQ D 1 (zs 512)) λD=>andThen (gA D) λD=>
 andThen (fJ D ((fQ D.Q8.length).drop (eZ (fQ D.Q8.length).length)) ((fQ D.Q8.length).take (eZ (fQ D.Q8.length).length))) λD=>kc D (k7 D.Q8.length)
def mF (D:dV) (u:Int):Nat->Int->IT->IT->Option (List Int×List Int)
 | 0,_,_,_=>none
 | f+1,a,h,x5=>
  if a=0 then some (h,x5) else
  if a<2\/a>=u\/a∈h then none else
  if (eS D a).2≠0 then none else
  if (fx a (eS D a).1).2.2≠0\/(fx a (eS D a).1).1≠2 then none else
  if (iM (fx a (eS D a).1).2.1).2.2≠0 then none else
  mF D u f (iM (fx a (eS D a).1).2.1).1 (h++[a]) (x5++(iM (fx a (eS D a).1).2.1).2.1)
def kY (h:Int) (Q7:IT):Int->IT->Bool
 | _,[]=>true
 | u,n::r=>!(decide (n<=u)||decide (n>=h)||decide (n∈Q7))&&kY h Q7 n r
def py (D:dV) (s:oV):Option (List Int×List Int):=
 match mF D (s.2.getD 0 0) ((s.2.getD 0 0).toNat+1) (s.2.getD 1 0) [] [] with
 | none=>none
 | some x=>if kY (s.2.getD 0 0) x.1 0 x.2=true/\(x.2.length:Int)=s.2.getD 2 0 then some x else none
def iR (J1:oV) (Q7 x5:IT) (x8:Int) (Q5:Bool) (h:IT):eH:=⟨J1,Q7,x5,x8,Q5,h,[],[],J1.2.drop 3⟩
def nu (D:dV):Option eH×Int:=
 if (eS D 0).2≠0 then (none,(eS D 0).2) else
 if (eS D 1).2≠0 then (none,(eS D 1).2) else
 if (iw (eS D 0).1 (eS D 1).1).2≠0 then (none,(iw (eS D 0).1 (eS D 1).1).2) else
 if (iw (eS D 0).1 (eS D 1).1).1.2.getD 0 0≠D.Q8.length then (none,2) else
 match py D (iw (eS D 0).1 (eS D 1).1).1 with
 | none=>(none,2)
 | some x=>(some (iR (iw (eS D 0).1 (eS D 1).1).1 x.1 x.2 1 false x.2),0)
def jV (M:eH):Option (List Int×List Int):=
 if eZ (M.Q3.length+(M.J9++M.Q7).length)>M.Q3.length then none
 else some (M.Q3.take (eZ (M.Q3.length+(M.J9++M.Q7).length)),gW ((M.J9++M.Q7)++M.Q3.drop (eZ (M.Q3.length+(M.J9++M.Q7).length))))
def kJ (Q0:List (I8)) (n:Int):I7:=match look n Q0 with|some q=>q.2|none=>(0,[])
def lg (Q0:List (I8)):List (I7):=(gW (Q0.map (·.1))).map λn=>(n,eU n (kJ Q0 n).1 (kJ Q0 n).2)
def ib (D:dV) (Q0:List (I8)) (cC x5:IT) (next:oV):dV×Int:=
 andThen (fU (lg Q0) D) λD=>andThen (fJ D x5 cC) λD=>kc D next
def gp (M:eH) (cC x5:IT):oV:=(wrap .u64 (M.J1.1+1),[M.J1.2.getD 0 0,cC.headD 0,wrap .u32 x5.length]++M.Q4)
def uE:eH:=iR gU [] [] 1 true []
def gX (D:dV) (M:eH):(dV×eH)×Int:=
 if M.Q5 then ((D,M),7) else
 if M.Q0=[]/\M.J9=[]/\M.Q4=M.J1.2.drop 3 then ((D,M),0) else
 match jV M with
 | none=>((D,M),6)
 | some x=>
  if (ib D M.Q0 x.1 x.2 (gp M x.1 x.2)).2≠0 then (((ib D M.Q0 x.1 x.2 (gp M x.1 x.2)).1,uE),(ib D M.Q0 x.1 x.2 (gp M x.1 x.2)).2)
  else (((ib D M.Q0 x.1 x.2 (gp M x.1 x.2)).1,iR (gp M x.1 x.2) x.1 x.2 (M.x8+1) false x.2),0)
def ow (pb:Nat) (x y:Option Addr) (mb:Nat) (vs:List IL) (K:Unit->WP) (w:IK):Prop:=
 fG [iF.lK] (λ(w':Go.World)=>(Instr.build HK (#[(0,Value.pointer x),(1,Value.pointer y),(2,Value.map (some mb)),(3,Value.agg (List.toArray vs))])).run prog w') w<|
 λ(u:List IL)=>
 nn (pW pb)<|
 λ(G:Addr)=>
 iH (List.length u=27)<|
 st ({ block:=G.block,off:=G.off+33 }) u w<|
 λ(I:IK)=>
 nn (pW pb)<|
 λ(J:Addr)=>
 ld Cell.slice ({ block:=J.block,off:=J.off+30 }) I<|
 λ(R:Sl)=>
 loop (Int) (λ(V:Int->WP) (E:Int) (h:IK)=>
  cond (decide (E<(↑R.len:Int)))
   (idx R E 1<|
   λ(aa:Addr)=>
   ld (Cell.int IntKind.u32) aa h<|
   λ(ab:Int)=>
   nn (pW pb)<|
   λ(U:Addr)=>
   ld Cell.ptr ({ block:=U.block,off:=U.off+33 }) h<|
   λ(ac:Option Addr)=>
   cW 152 ([Value.pointer ac,Value.int IntKind.u32 ab]) ([iF.one Cell.bool]) h<|
   λ(ae:Bool) (ad:IK)=>
   V (wrap IntKind.i64 (E+1)) ad)
   (K () h)) 0 I
def quQ{w3:IK}{fb defb:Nat}{F2:IS}{K:Unit->WP}(hs:J1.2.length=27)(hw:wk.length=27)(hX:∀b∈X,b<w.heap.size/\b≠pb)(J:Rd (X++[pb]) w sl Q7)(G:Rd (X++[pb]) w sn x5)(hn:x5.length<=100000)(ho:ef [pb] w w3 [(pb,.c (fI db J1 sl sn x8 Q5 wk) sS)])(h1:io w3 fb F1 [])(h2:io w3 defb F2 [])(h3:jy jL w3 mb [])(n1:∀b∈F1,w.heap.size<=b)(n2:∀b∈F2,w.heap.size<=b)(n3:w.heap.size<=mb)(aE:pb<w.heap.size)(ag:mb∉F1)(ah:mb∉F2)(ai:∀b∈F1,b∉F2)(hk:∀F' w',eW w' X pb db F' (iR J1 Q7 x5 x8 Q5 (gW x5))->Fr [pb] w w'->(∀b∈F',b=pb\/w.heap.size<=b)->K () w'): ow pb (pW fb) (pW defb) mb ((J1.2.drop 3).map (Value.int .u32)) K w3:=by
 have E:(J1.2.drop 3).length=24:=(by rw[yB,hs]);unfold ow;refine sh (ts:=[iF.lK]) (iG (pW fb) (pW defb) (some mb) (J1.2.drop 3)) (quV E w3)<|fO<|qu (zo E) ?_;have ac:(iG (pW fb) (pW defb) (some mb) (J1.2.drop 3)).all Value.oneCell'=true:=by rw[Iz];intro v hv;simp only[iG,zD,zG,mem_map,xY,or_false] at hv;rcases hv with (rfl|rfl|rfl)|⟨x,_,rfl⟩<;>rfl
 refine oG ho 0 rfl (gi db J1 sl sn x8 Q5 fb defb mb (J1.2.drop 3)) (by rw[<- Ft];exact qyC hs (by rw[hw,zo E])) ac (by rw[u9 hs,zo E,hw];exact zO rfl) λw4 R f4=>?_;have V:∀b∈F1,b≠pb:=λb u e=>by have:=n1 b u;omega
 have aa:∀b∈F2,b≠pb:=λb u e=>by have:=n2 b u;omega
 have hS:∀b∈pb::mb::(F1++F2),b∈[pb]\/w.heap.size<=b:=λb u=>by simp only[zG,zD] at u;rcases u with rfl|rfl|u|u;exact .inl oL;exact .inr n3;exact .inr (n1 b u);exact .inr (n2 b u)
 have hx:oY w4 X pb db (iR J1 Q7 x5 x8 Q5 []) fb defb mb sl sn F1 F2 []:={
  cell:=R.at (i:=0) rfl
  Q3:=h1.j1 f4 λb u=>by simpa using V b u
  J9:=h2.j1 f4 λb u=>by simpa using aa b u
  map:=h3.j1 f4 oO
  Q0:=rfl
  rows:=by have hf:Fr (X++[pb]) w w4:=R.fr.mono λb u _=>zI _ u;exact⟨J.j1 hf (A4 hS),G.j1 hf (A4 hS),λe he=>by cases he⟩
  pE:=λb u=>yC (hX b u).1 R.fr.size
  m7:=HM (λb u=>(hX b u).1) (λb u=>by simpa using (hX b u).2) hS
  sep:=⟨oJ,λb u=>⟨V b u,λe=>ag (e▸u),ai b u⟩,λb u=>⟨aa b u,λe=>ah (e▸u)⟩⟩
  x4:=hs
  x9:=E }
 refine fO (iv hx.cell sn (qyv hs) ?_);have aH:=G.1;refine jv (λx w'=>∃(i:Nat) (U:IS),x=i/\i<=x5.length/\oY w' X pb db (iR J1 Q7 x5 x8 Q5 (gW (x5.take i))) fb defb mb sl sn U F2 []/\Fr [pb] w w'/\∀b∈U,w.heap.size<=b) (λx _=>((x5.length:Int)-x).toNat)
  ⟨0,F1,rfl,oJ,hx,R.fr,n1⟩ ?_
 rintro x w5 ⟨i,U,rfl,hi,I,f5,n5⟩ Z hZ;apply cD<;>intro hc;have ad:i<x5.length:=oJ;refine Rd.at I.rows.x5 i rfl (zA ad)<|fO (iv I.cell (pW fb) (Aj hs) ?_);have ao:=qnG (x5.take i);rw[yL] at ao;refine Hs I.Q3 (by show (gW (x5.take i)).length<=_;omega) λae w6 ap f6 n6=>?_;have aq:=I.qR f6 ap n6;rw[gG _ oJ];refine hZ _ _ ⟨i+1,ae,oL,oJ,?_,f5.J0 f6 λb u=>.inr (n5 b u),λb u=>?_⟩ oJ;rw[qta ad];exact aq;rcases n6 b u with h|h;exact n5 b h;exact zL f5.size h;have:i=x5.length:=oJ;subst this;rw[vA] at I;refine hk _ w5 ⟨fb,defb,mb,sl,sn,U,F2,[],rfl,I⟩ f5 λb u=>?_;simp only[zG,zD] at u;rcases u with rfl|rfl|u|u;exact .inl rfl;exact .inr n3;exact .inr (n5 b u);exact .inr (n2 b u)
def Gb{K:Unit->WP}(hc:w.heap[pb]?=some (.c (fI db J1 sl sn x8 Q5 wk) sS))(hs:J1.2.length=27)(hw:wk.length=27)(ht:0<=x8/\x8<=1000000000)(hX:∀b∈X,b<w.heap.size/\b≠pb)(hlists:Rd (X++[pb]) w sl Q7)(hnamed:Rd (X++[pb]) w sn x5)(hn:x5.length<=100000)(hk:∀F' w',eW w' X pb db F' (iR J1 Q7 x5 (x8+1) Q5 (gW x5))->Fr [pb] w w'->(∀b∈F',b=pb\/w.heap.size<=b)->K () w'): cW 115 [dS pb] [] w K:=by
 have hpb:=eO hc;have ho:ef [pb] w w [(pb,.c (fI db J1 sl sn x8 Q5 wk) sS)]:=⟨by simpa using hc,oL,.refl _ _,oL⟩;refine qiP (p:=pW pb)<|fO (oA (c:=.i) ho 0 rfl x8 (wE hs 2 oM) ?_);rw[gG _ oJ];refine fO (oG ho 0 rfl (fI db J1 sl sn (x8+1) Q5 wk) (qyB hs) rfl (by rw[u9 hs,hw];exact zO rfl) λw1 ho f1=>?_);have hrl:((J1.2.drop 3).map (Value.int .u32)).length=24:=(by rw[zK,yB,hs]);have hcA:∀ {w':IK},w'.heap[pb]?=some (.c (fI db J1 sl sn (x8+1) Q5 wk) sS)->jH w' (dk pb 5) 0 ((J1.2.drop 3).map (Value.int .u32)):=λh=>vI h _ 5 0 (by rw[hrl];exact GY hs);have tail:=λ{w3:IK} {fb defb mb:Nat} {F1 F2:IS}=>quQ (w:=w) (w3:=w3) (X:=X) (pb:=pb) (fb:=fb) (defb:=defb) (mb:=mb) (F1:=F1) (F2:=F2) hs hw hX hlists hnamed hn (K:=K) (x8:=x8+1) (Q5:=Q5) (wk:=wk) (db:=db);have hs1:=f1.size;have ho':=ho.drew;generalize w1.drew=wd at ho';have hld:∀ {K':List IL->Prop},K' ((J1.2.drop 3).map (Value.int .u32))->jg 24 (dk pb 5) wd K':=λk=>rP (ho'.at (i:=0) rfl) _ hrl (GY hs) k;have hsd:w.heap.size<=wd.heap.size:=ho'.fr.size;have fin:∀ {w3:IK} {fb defb mb:Nat} {F1 F2:IS},Fr [] wd w3->io w3 fb F1 []->io w3 defb F2 []->jy jL w3 mb []->(∀b∈F1,wd.heap.size<=b)->(∀b∈F2,wd.heap.size<=b)->wd.heap.size<=mb->mb∉F1->mb∉F2->(∀b∈F1,b∉F2)->
   ow pb (pW fb) (pW defb) mb ((J1.2.drop 3).map (Value.int .u32)) K w3:=λf p1 p2 p3 n1 n2 n3 s1 s2 s3=>
  tail (ho'.q8 f) p1 p2 p3 (λb hb=>zL hsd (n1 b hb)) (λb hb=>zL hsd (n2 b hb)) (zL hsd n3) hpb s1 s2 s3 hk
 refine⟨?_,?_,?_⟩;refine fO ?_;simp only[Addr.j3];refine hld<|Ag λfb F1 w2 p1 f2 n1=>iS (hcA ((ho'.q8 f2).at (i:=0) rfl))<|Ag λdefb F2 w3 p2 f3 n2=>iS (hcA ((ho'.q8 (f2.trans f3)).at (i:=0) rfl))<|oB (ho'.q8 (f2.trans f3)) λmb w4 e4 f4 ho4=>iS (hcA (ho4.at (i:=1) rfl))<|fin ((f2.trans f3).trans f4) (p1.j1 (f3.trans f4) oL) (p2.j1 f4 oL) (.empty (ho4.at (i:=0) rfl)) n1 (λb hb=>zL f2.size (n2 b hb)) (by rw[e4];exact (f2.trans f3).size) (λhm=>?_) (λhm=>?_) (λb hb hb2=>?_)
 have:=(p1.j1 f3 oL).lt mb hm;omega;have:=p2.lt mb hm;omega;have:=p1.lt b hb;have:=n2 b hb2;omega;refine fO ?_;simp only[Addr.j3];refine hld<|Ag λfb F1 w2 p1 f2 n1=>iS (hcA ((ho'.q8 f2).at (i:=0) rfl))<|oB (ho'.q8 f2) λmb w3 e3 f3 ho3=>iS (hcA (ho3.at (i:=1) rfl))<|Ag λdefb F2 w4 p2 f4 n2=>?_;have ho4:=ho3.q8 f4;refine iS (hcA (ho4.at (i:=1) rfl)) ?_;have hmb:=eO (ho3.at (i:=0) rfl);refine fin ((f2.trans f3).trans f4) (p1.j1 (f3.trans f4) oL) p2 (.empty (ho4.at (i:=0) rfl)) n1 (λb hb=>zL (f2.trans f3).size (n2 b hb)) (by rw[e3];exact f2.size) (λhm=>?_) (λhm=>?_) (λb hb hb2=>?_)
 have:=p1.lt mb hm;omega;have:=n2 mb hm;omega;have:=(p1.j1 f3 oL).lt b hb;have:=n2 b hb2;omega;refine fO ?_;simp only[Addr.j3];refine hld<|oB ho' λmb w2 e2 f2 ho2=>iS (hcA (ho2.at (i:=1) rfl)) ?_;have hmb:=eO (ho2.at (i:=0) rfl);refine Ag λfb F1 w3 p1 f3 n1=>?_;have ho3:=ho2.q8 f3;refine iS (hcA (ho3.at (i:=1) rfl))<|Ag λdefb F2 w4 p2 f4 n2=>?_;have ho4:=ho3.q8 f4;refine iS (hcA (ho4.at (i:=1) rfl))<|fin ((f2.trans f3).trans f4) (p1.j1 f4 oL) p2 (.empty (ho4.at (i:=0) rfl)) (λb hb=>zL f2.size (n1 b hb)) (λb hb=>zL (f2.trans f3).size (n2 b hb)) (by rw[e2];exact zM _) (λhm=>?_) (λhm=>?_) (λb hb hb2=>?_)
 have:=n1 mb hm;omega;have:=n2 mb hm;have:=f3.size;omega;have:=p1.lt b hb;have:=n2 b hb2;omega
def view (D:dV) (n:Int):IT:=match jc n D.Q9 with|some b=>b.1|none=>(D.Q8.getD n.toNat .zero).1
def dV.size (D:dV):Int:=D.Q8.length
def Dy(h:D.down=false)(u:0<=n/\n<D.size):eS D n=(view D n,0):=by have E:n<(D.Q8.length:Int):=u.2;rw[eS,iN (by rw[h];decide),iN,view];cases jc n D.Q9<;>rfl
def Fk(n:Int):∀(l:List (Int×mw)) (x:Int×mw),jc n (l++[x])=if x.1=n then some x.2 else jc n l
 | [],x=>rfl
 | y::l,x=>by simp only[xK,jc];rw[Fk n l x];by_cases h:x.1=n;simp[h];simp[h]
def Fs(n:Nat):∀(l:List (Int×mw)) (s:List mw),(∀x∈l,0<=x.1/\x.1<s.length)->(l.foldl gB s).getD n .zero=match jc n l with|some b=>b|none=>s.getD n .zero
 | [],s,_=>rfl
 | x::l,s,h=>by
  have E:=h x oL;rw[foldl_cons,Fs n l (gB s x) (λy u=>by rw[gB,xH];exact h y (zN _ u)),jc];cases jc (n:Int) l with
  | some b=>rfl
  | none=>
   dsimp only;by_cases he:x.1=n;rw[iP he,gB,yR];have:x.1.toNat=n:=oJ;rw[this,List.getElem?_set_self oJ];rfl;rw[iN he,gB,yR,List.getElem?_set_ne oJ,yR]
structure fk (D:dV):Prop where
 down:D.down=false
 cK:D.cK=-1
 at_:∀ x∈D.Q9,0<=x.1/\x.1<D.Q8.length
def fk.act(h:fk D):iA D=(D,false):=by rw[iA,iN (by rw[h.cK];decide),iN (by rw[h.cK];decide)]
def fk.write(h:fk D)(G:0<=n/\n<D.size)(E:l.length=512): ∃D',eQ D n l=(D',0)/\fk D'/\D'.size=D.size/\∀m,view D' m=if m=n then l else view D m:=by have J:n<(D.Q8.length:Int):=G.2;have I:fk (me D n ⟨l,E⟩):=⟨h.down,h.cK,λx u=>by rcases zD.1 u with u|u;exact h.at_ x u;simp at u;subst u;exact⟨G.1,J⟩⟩;refine⟨me D n ⟨l,E⟩,?_,I,rfl,λm=>?_⟩;rw[eQ,iN (by rw[h.down];decide),iN,dif_pos E,I.act];rfl;rw[view,me];dsimp only;rw[Fk];by_cases hm:m=n;rw[iP hm,iP hm.symm];rw[iN hm,iN λe=>hm e.symm,view]
def fk.sync(h:fk D):∃D',gA D=(D',0)/\fk D'/\D'.size=D.size/\D'.Q9=[]/\∀m,0<=m->view D' m=view D m:=by refine⟨{ D with Q8:=D.Q9.foldl gB D.Q8,Q9:=[] },?_,⟨h.down,h.cK,λx u=>by cases u⟩,?_,rfl,λm E=>?_⟩;rw[gA,iN (by rw[h.down];decide),h.act];rfl;show ((D.Q9.foldl gB D.Q8).length:Int)=_;rw[BN];rfl;obtain⟨k,rfl⟩:∃k:Nat,m=k:=⟨m.toNat,oJ⟩;show ((D.Q9.foldl gB D.Q8).getD (k:Int).toNat .zero).1=_;rw[zJ,Fs k _ _ h.at_,view,zJ];cases jc (k:Int) D.Q9<;>rfl
def fk.writes:∀ {l:List (I7)} {D:dV},fk D->(∀x∈l,(0<=x.1/\x.1<D.size)/\x.2.length=512)->(l.map (·.1)).Nodup-> ∃D',fU l D=(D',0)/\fk D'/\D'.size=D.size/\(∀x∈l,view D' x.1=x.2)/\∀m,m∉l.map (·.1)->view D' m=view D m
 | [],D,h,_,_=>⟨D,rfl,h,rfl,(λx u=>by cases u),λm _=>rfl⟩
 | y::l,D,h,J,E=>by obtain⟨V,G⟩:=J y oL;obtain⟨D1,e1,q1,R,U⟩:=h.write V G;rw[xP,nodup_cons] at E;obtain⟨D2,e2,q2,s2,v2,u2⟩:=fk.writes (l:=l) q1 (λx u=>by rw[R];exact J x (zN _ u)) E.2;refine⟨D2,?_,q2,s2.trans R,λx u=>?_,λm I=>?_⟩;rw[fU,e1];exact e2;rcases zG.1 u with rfl|u;rw[u2 _ E.1,U,iP rfl];exact v2 x u;rw[xP,zG,not_or] at I;rw[u2 m I.2,U,iN I.1]
def chunk (numbers:IT) (i:Nat):IT:=(numbers.drop (123*i)).take 123
def p4 (D:dV) (numbers cC:IT):Prop:=∀(i:Nat) p,cC[i]?=some p->view D p=eU p 2 (jl (cC.getD (i+1) 0) (chunk numbers i))
def Fg(numbers cC:IT)(k i:Nat):(gN numbers cC k)[i]?=if i<k then some (jl (cC.getD (i+1) 0) (chunk numbers i)) else none:=by rw[gN,zQ];by_cases h:i<k;rw[iP h,List.getElem?_range h];rfl;rw[iN h,yS (oP h)];rfl
def G7(numbers cC:IT)(k:Nat):(gN numbers cC k).length=k:=by simp[gN]
def Hj(numbers:IT)(i:Nat):(chunk numbers i).length<=123:=by rw[chunk,yL];omega
structure mc (n:Int) (numbers cC:IT):Prop where
 dI:numbers.Pairwise (· < ·)
 om:∀ x∈numbers,2<=x/\x<n
 sE:∀ x∈cC,2<=x/\x<n
 nodup:cC.Nodup
 J5:∀ x∈cC,x∉numbers
 room:numbers.length<=123*cC.length
def Gf:∀(l:IT) (a:Int),i8 a l=true↔(∀x∈l,a<x)/\l.Pairwise (· < ·)
 | [],a=>by simp[i8]
 | x::l,a=>by rw[i8,yA,yN,Gf l x,yJ];constructor;rintro⟨h,u,E⟩;refine⟨λy G=>?_,u,E⟩;rcases zG.1 G with rfl|G;exact h;exact Int.lt_trans h (u y G);rintro⟨h,u,E⟩;exact⟨h x oL,u,E⟩
def mc.cM(h:mc n numbers cC):gM numbers cC=(gN numbers cC cC.length,0):=by
 have u:i8 1 numbers=true:=(Gf _ _).2 ⟨λx E=>by have:=h.om x E;omega,h.dI⟩;rw[gM,iN (by rw[u];have:=h.room;simp;omega),if_neg];rintro⟨p,G,I⟩;have:=h.sE p G;omega
def ql2{α β:Type}{x:α×β}:∀ {l:List α} {r:List β},x∈l.zip r->∃i:Nat,l[i]?=some x.1/\r[i]?=some x.2
 | [],_,h=>by simp at h
 | _::_,[],h=>by simp at h
 | a::l,b::r,h=>by rw[zip_cons_cons,zG] at h;rcases h with rfl|h;exact⟨0,rfl,rfl⟩;obtain⟨i,u,E⟩:=ql2 h;exact⟨i+1,by simpa using u,by simpa using E⟩
def E9{α β:Type}:∀ {l:List α} {r:List β},l.length=r.length->(l.zip r).map (·.1)=l
 | [],[],_=>rfl
 | a::l,b::r,h=>by rw[zip_cons_cons,xP,E9 (oP h)]
def fk.spread(h:fk D)(I:mc D.size numbers cC): ∃D',fJ D numbers cC=(D',0)/\fk D'/\D'.size=D.size/\D'.Q9=[]/\p4 D' numbers cC/\∀m,0<=m->m∉cC->view D' m=view D m:=by
 have U:((cC.zip (gN numbers cC cC.length)).map λx=>(x.1,eU x.1 2 x.2)).map (·.1)=cC:=(by rw[map_map];exact E9 (by rw[G7]));obtain⟨D1,e1,q1,s1,v1,V⟩:=h.writes (l:=(cC.zip (gN numbers cC cC.length)).map λx=>(x.1,eU x.1 2 x.2)) (λx hx=>by
  obtain⟨y,hy,rfl⟩:=mem_map.1 hx;obtain⟨i,h1,u⟩:=ql2 hy;rw[Fg] at u;have E:=I.sE _ (yF h1);refine⟨⟨by show 0<=y.1;omega,E.2⟩,xw ?_⟩;by_cases J:i<cC.length;rw[iP J] at u;have u:=yO u;rw[<- u,DX];have:=Hj numbers i;omega;rw[iN J] at u;cases u) (by rw[U];exact I.nodup)
 rw[U] at V;obtain⟨D2,e2,q2,s2,w2,v2⟩:=q1.sync;refine⟨D2,?_,q2,s2.trans s1,w2,λi p E=>?_,λm hm R=>by rw[v2 m hm,V m R]⟩;rw[fJ,I.cM,iN oL];show andThen _ _=_;rw[e1];exact e2;have J:=(zP.1 E).1;have G:(p,eU p 2 (jl (cC.getD (i+1) 0) (chunk numbers i)))∈(cC.zip (gN numbers cC cC.length)).map λx=>(x.1,eU x.1 2 x.2):=by refine mem_map.2 ⟨(p,jl (cC.getD (i+1) 0) (chunk numbers i)),?_,rfl⟩;refine yF (i:=i) ?_;rw[List.getElem?_zip_eq_some];exact⟨E,by rw[Fg,iP J]⟩
 have am:=I.sE _ (yF E);rw[v2 p oJ];exact v1 _ G
def qlT(numbers:IT):∀k,(List.range k).flatMap (chunk numbers)=numbers.take (123*k)
 | 0=>by simp
 | k+1=>by rw[range_succ,yQ,qlT numbers k,flatMap_singleton,chunk,Nat.mul_succ,<- xF (123*k) (numbers.take (123*k+123))];congr 1;rw[take_take,xS oJ];rw[drop_take,vE]
def qul{D:dV}{numbers cC:IT}{n:Int}(hd:D.down=false)(hs:D.size=n)(hn:n<=4096)(J:mc n numbers cC)(hl:p4 D numbers cC): ∀(k i f:Nat),i+k=cC.length->k<f->mF D n f (cC.getD i 0) (cC.take i) ((List.range i).flatMap (chunk numbers))=some (cC,numbers)
 | 0,i,f+1,hi,hf=>by have:cC.getD i 0=0:=(by rw[yR,yS oJ];rfl);have hr:=J.room;have ab:i=cC.length:=oJ;subst ab;rw[this,mF,iP rfl,qlT,vA,zS hr]
 | k+1,i,f+1,hi,hf=>by
  have u:i<cC.length:=oJ;have hp:cC.getD i 0=cC[i]:=(by rw[yR,zA u];rfl);have hr:=J.sE _ (zW u);have U:cC[i]∉cC.take i:=λhm=>by
   obtain⟨j,hj,he⟩:=getElem_of_mem hm;rw[getElem_take] at he;rw[yL] at hj;have:=pairwise_iff_getElem.1 J.nodup j i oJ u oJ;exact this he
  have hv:=hl i _ (zA u);have E:=Dy hd (n:=cC[i]) (by rw[hs];omega);rw[hv] at E;have ac:=Hj numbers i;have R:=Hq (number:=cC[i]) (kind:=2) (body:=jl (cC.getD (i+1) 0) (chunk numbers i)) oJ (by rw[DX];omega);have V:∀x∈chunk numbers i,x∈numbers:=λx hx=>yU (yV hx);have G:ia (cC.getD (i+1) 0)/\cC.getD (i+1) 0≠1:=by
   rw[yR];cases h:cC[i+1]? with
   | none=>exact⟨⟨oM,oM⟩,oM⟩
   | some p=>
    have:=J.sE p (yF h);constructor;constructor<;>(simp;omega);simp;omega
  have I:=qse G.1 G.2 (c:=chunk numbers i) (λx hx=>by have:=J.om x (V x hx);constructor<;>omega)
   ((Gf _ _).2 ⟨λx hx=>by have:=J.om x (V x hx);omega,J.dI.sublist ((take_sublist _ _).trans (drop_sublist _ _))⟩) ac
  rw[hp,mF,iN,iN (by intro h;rcases h with h|h|h;omega;omega;exact U h),E,R,iN oL,iN oL,I,iN oL];have:=qul hd hs hn J hl k (i+1) f oJ oJ;rw[yG u,range_succ,yQ,flatMap_singleton] at this;exact this
def Hg(n:Int)(Q7:IT):∀(l:IT) (a:Int),kY n Q7 a l=true↔(∀x∈l,a<x/\x<n/\x∉Q7)/\l.Pairwise (· < ·)
 | [],a=>by simp[kY]
 | x::l,a=>by
  rw[kY,yA,Hg n Q7 l x,yJ];simp only[zT,ID,IE,Int.not_le,Int.not_lt,ge_iff_le];constructor;rintro⟨⟨⟨u,E⟩,G⟩,I,J⟩;refine⟨λy h=>?_,λy h=>(I y h).1,J⟩;rcases zG.1 h with rfl|h;exact⟨u,E,G⟩;have:=I y h;exact⟨oJ,this.2⟩;rintro⟨u,E,G⟩;have:=u x oL;exact⟨⟨⟨this.1,this.2.1⟩,this.2.2⟩,λy h=>⟨E y h,(u y (zN _ h)).2⟩,G⟩
def He:∀(n:Nat) (l:IS),l.Nodup->(∀x∈l,x<n)->l.length<=n
 | 0,l,_,h=>by cases l with
  | nil=>simp
  | cons a l=>exact absurd (h a oL) oJ
 | n+1,l,E,h=>by
  by_cases hm:n∈l;have I:=He n (l.erase n) (E.erase n) (λx u=>by
   have G:=(E.mem_erase_iff).1 u;have:=h x G.2;have:=G.1;omega)
  have:=length_erase_of_mem hm;have:=length_pos_of_mem hm;omega;have:=He n l E (λx u=>by
   have:=h x u;have:x≠n:=λe=>hm (e▸u);omega)
  omega
def DP(G:l.Nodup)(h:∀x∈l,2<=x/\x<n):(l.length:Int)<=n-2\/l=[]:=by
 by_cases h0:l=[];exact .inr h0;left;obtain⟨a,I⟩:=exists_mem_of_ne_nil l h0;have R:=h a I;have:=He (n-2).toNat (l.map λx=>(x-2).toNat) (by
  refine pairwise_map.2 (G.imp_of_mem λ{x y} u E J=>?_);have:=h x u;have:=h y E;omega) (λx u=>by
  obtain⟨y,E,rfl⟩:=mem_map.1 u;have:=h y E;omega)
 rw[zK] at this;omega
structure pT (D:dV) (s:oV) (cC numbers:IT):Prop where
 down:D.down=false
 size:8<=D.size/\D.size<=4096
 uv:iw (view D 0) (view D 1)=(s,0)
 blocks:s.2.getD 0 0=D.size
 list:s.2.getD 1 0=cC.headD 0
 Q3:s.2.getD 2 0=numbers.length
 ok:mc D.size numbers cC
 listed:p4 D numbers cC
def pT.load(h:pT D s cC numbers):py D s=some (cC,numbers):=by
 have G:mF D D.size (D.size.toNat+1) (cC.headD 0) [] []=some (cC,numbers):=by
  have:=qul h.down rfl h.size.2 h.ok h.listed cC.length 0 (D.size.toNat+1) oJ (by
   have:=DP h.ok.nodup h.ok.sE;have J:=h.size;rcases this with E|E;omega;rw[E];simp)
  have e:cC.headD 0=cC.getD 0 0:=(by cases cC<;>rfl);rw[e];exact this
 rw[py,h.blocks,h.list,G];dsimp only;rw[if_pos];exact⟨(Hg _ _ _ _).2 ⟨λx u=>⟨by have:=h.ok.om x u;omega,(h.ok.om x u).2,λI=>h.ok.J5 x I u⟩,h.ok.dI⟩,h.Q3.symm⟩
def pT.open(h:pT D s cC numbers):nu D=(some (iR s cC numbers 1 false numbers),0):=by have u:=Dy h.down (n:=0) ⟨oM,by have:=h.size;omega⟩;have E:=Dy h.down (n:=1) ⟨oM,by have:=h.size;omega⟩;have G:s.2.getD 0 0=(D.Q8.length:Int):=h.blocks;rw[nu,u,E,h.uv,iN oL,iN oL,iN oL,iN (by rw[G];simp),h.load]
def uU{α:Type}{enc:α->List IL}{P:IN}{s:Sl}{l:List α}{tx e':IM}(h:eI enc k S w s l)(E:∀x,(enc x).length=k)(G:∀x,∀u∈enc x,u.oneCell'=true)(J:P.underlying tx=some (.slice e')): Src P k tx s.v s.len (l.flatMap enc) w:=by
 obtain⟨a,len,cap⟩:=s;have I:=h.1;simp only at I;cases a with
 | none=>
  have:l=[]:=by rcases h.2.2 with h|⟨b,o,cs,T,fr,R,_⟩;exact h;cases R
  subst this;simp at I;subst I;exact .ofNil w J cap
 | some a=>
  refine .ofSlice w J a len cap _ (by rw[qI E,I]) (h.cells E rfl) λu U=>?_;obtain⟨x,_,V⟩:=yK.1 U;exact G x u V
def DI{s src:Sl}{ys:IT}{B:IS}{K:Sl->WP}(h:lO w s l B)(R:Rd S w src ys)(hl:l.length+ys.length<=1000000)(V:∀G B' w',lO w' G (l++ys) B'->Fr B w w'->(∀b∈B',b∈B\/w.heap.size<=b)->K G w'): Pt.run dl ((Builtin.append_ #[172,172] 172 #[s.v,src.v]).run prog w) K:=by obtain⟨i,hi,hz,I,J⟩:=wV;have E:=R.1;refine fj.j4 (e:=63) h rM oK hi hz I rfl (uU (e':=63) R rM (λx u U=>by simp at U;subst U;rfl) oK) E (by rw[J];omega) oJ λG B' w' b' f' n' _=>V G B' w' b' f' n'
def wC(h:D.Ok)(n:Int):eX (eS D n).1/\(eS D n).1.length<=512:=by
 have J:eX (zs 512):=eX.zs 512;unfold eS;split;exact⟨(λx E=>by cases E),oL⟩;split;exact⟨(λx E=>by cases E),oL⟩;split;rename_i b R;refine⟨?_,Nat.le_of_eq b.2⟩;have:∀l:List (Int×mw),(∀x∈l,eX x.2.1)->jc n l=some b->eX b.1:=by
  intro l;induction l with
  | nil=>intro _ h;cases h
  | cons x l ih=>
   intro I u;rw[jc] at u;cases G:jc n l with
   | some c=>rw[G] at u;exact ih (λy U=>I y (zN _ U)) (by rw[G];exact u)
   | none=>
    rw[G] at u;dsimp only at u;split at u;cases u;exact I x oL;cases u
 exact this _ h.oW R;refine⟨?_,Nat.le_of_eq (D.Q8.getD n.toNat .zero).2⟩;rw[yR];cases V:D.Q8[n.toNat]? with
 | none=>exact J
 | some b=>exact h.pc b (yF V)
def qp7(h:eX l)(n:Int):eX (fx n l).2.1/\(fx n l).2.1.length<=l.length:=by
 have u:eX ([]:IT):=λx E=>by cases E
 unfold fx;split;exact⟨u,oL⟩;split;exact⟨u,oL⟩;split;exact⟨u,oL⟩;split;exact⟨u,oL⟩;split;exact⟨u,oL⟩;refine⟨(h.take _).drop _,?_⟩;rw[yB,yL];omega
abbrev MIT:IM:=271
def qAz:prog.underlying MIT=some (.map 63 3):=by kernel_rfl
def qA8:∀w,(zeroValue 3).run prog w=.ok (.i 0) w:=λw=>by kernel_rfl
def lT (l:IT):List (Int×IL):=l.map λn=>(n,.i 1)
def GU(n:Int):∀l:IT,(n∈l->∃i,look n (lT l)=some (i,.i 1))/\(n∉l->look n (lT l)=none)
 | []=>⟨(λh=>by cases h),λ_=>rfl⟩
 | a::l=>by
  obtain⟨I,J⟩:=GU n l;simp only[lT,xP,look];by_cases h:n=a;rw[iP h];exact⟨λ_=>⟨0,rfl⟩,λR=>absurd (by rw[h];simp) R⟩;rw[iN h];refine⟨λu=>?_,λu=>?_⟩;rcases zG.1 u with e|u;exact absurd e h;obtain⟨i,G⟩:=I u;unfold lT at G;exact⟨i+1,by rw[G];rfl⟩;have:=J (λE=>u (zN _ E));unfold lT at this;rw[this];rfl
def qrS{r:Nat}{K:Int->Prop}(h:jy jL w r (lT Q7))(k:∀x:Int,decide (x>0)=decide (n∈Q7)->K x): fG [iF.one .i] (λw'=>(Instr.lookup MIT (.map (some r)) (.u n) false).run prog w') w K:=by
 have:=CY (P:=prog) qAz qA8 vu h.at n;rw[ye] at this;obtain⟨E,G⟩:=GU n Q7;by_cases hn:n∈Q7;obtain⟨i,I⟩:=E hn;rw[I] at this;exact sh (ts:=[iF.one .i]) (1:Int) this (k 1 (by simp[hn]));rw[G hn] at this;exact sh (ts:=[iF.one .i]) (0:Int) this (k 0 (by simp[hn]))
def qqj{u:Sl}(E:J1.2.length=27):en (fI db J1 sl sn x8 Q5 wk) 29 [u.v]=fI db J1 u sn x8 Q5 wk:=by
 have h:=tl (db:=db) E;have:=t5 (A:=(Value.pointer db::fv J1.1 J1.2)) (X:=[sl.v]) (Y:=[u.v]) (Z:=sn.v::.i x8::.bool Q5::wk) rfl;rw[h] at this;simpa[fI] using this
def qqk{u:Sl}(E:J1.2.length=27):en (fI db J1 sl sn x8 Q5 wk) 30 [u.v]=fI db J1 sl u x8 Q5 wk:=by
 have h:((Value.pointer db::fv J1.1 J1.2)++([sl.v]:List IL)).length=30:=by rw[zF,tl E];rfl
 have:=t5 (A:=(Value.pointer db::fv J1.1 J1.2)++([sl.v]:List IL)) (X:=[sn.v]) (Y:=[u.v]) (Z:=.i x8::.bool Q5::wk) rfl;rw[h] at this;simpa[fI] using this
def qka:ia (fL l):=by unfold fL pC;exact Dt _ _ _
def qvm(l:IT):ia (iM l).1:=by unfold iM;split;constructor<;>decide;split;constructor<;>decide;split;exact qka;constructor<;>decide
def qvn(l:IT):(iM l).2.1.length<=123:=by unfold iM;split;simp;split;simp;rename_i h;split;simp only[kL,zK,length_range];omega;simp
structure Fu (w:IK) (FD:IS) (pb r:Nat) (db:Option Addr) (J1:oV) (x8:Int) (Q5:Bool) (wk:List IL) (a:Int) (Q7 x5:IT) (w':IK) (sl sn:Sl) (B1 B2:IS):Prop where
 own:ef [pb] w w' [(pb,.c (fI db J1 sl sn x8 Q5 wk) sS)]
 b1:lO w' sl Q7 B1
 b2:lO w' sn x5 B2
 map:jy jL w' r (lT Q7)
 n1:∀ b∈B1,w.heap.size<=b/\b≠r/\b∉B2
 n2:∀ b∈B2,w.heap.size<=b/\b≠r
 nr:w.heap.size<=r
 at_:ia a
 nodup:Q7.Nodup
 range:∀ x∈Q7,2<=x/\x<J1.2.getD 0 0
 len:x5.length<=123*Q7.length
def qxH{K:Bool->WP}(hc:w.heap[pb]?=some (.c (fI (pW dbk) J1 dT dT x8 Q5 wk) sS))(U:J1.2.length=27)(hw:wk.length=27)(hd:fl w dbk FD D)(hD:D.Ok)(hv:Hv w)(bb:pb∉FD)(bc:pb≠HG)(bU:J1.2.getD 0 0<=4096)(bd:ia (J1.2.getD 1 0))(bV:ia (J1.2.getD 2 0))(aa:py D J1=none->∀w',Fr [pb] w w'->K false w')(hk:∀sl sn u x5 w',py D J1=some (u,x5)->ef [pb] w w' [(pb,.c (fI (pW dbk) J1 sl sn x8 Q5 wk) sS)]->(∀G:IS,(∀b∈G,b<w.heap.size)->Rd G w' sl u/\Rd G w' sn x5)->K true w'): cW 145 [dS pb] dp w K:=by
 have bK:=eO hc;have ho:ef [pb] w w [(pb,.c (fI (pW dbk) J1 dT dT x8 Q5 wk) sS)]:=⟨by simpa using hc,oL,.refl _ _,oL⟩;refine qjH<|oB ho λr w1 e1 f1 ad=>?_;have ap:jy jL w1 r (lT []):=.empty (ad.at (i:=0) rfl);have ad:=ad.sub (L':=[(pb,_)]) (List.Sublist.cons _ (List.Sublist.refl _));refine fO (oA ad 0 rfl (J1.2.getD 1 0) (DN U 1 oM) ?_);have aG:∀ {w':IK},Fr [pb] w w'->fl w' dbk FD D:=λf=>hd.j1 f λb I=>by simp only[zE];rintro rfl;exact bb I
 have half:∀ {w':IK},Fr [pb] w w'->Hv w':=λf=>hv.j1 f (by simpa using λe=>bc e.symm);generalize bf:(J1.2.getD 0 0).toNat+1=F0;have J:py D J1=match mF D (J1.2.getD 0 0) F0 (J1.2.getD 1 0) [] [] with|none=>none|some x=>if kY (J1.2.getD 0 0) x.1 0 x.2=true/\(x.2.length:Int)=J1.2.getD 2 0 then some x else none:=by rw[<- bf];rfl
 refine jv (λa w'=>∃u x5 sl sn B1 B2 f,Fu w FD pb r (pW dbk) J1 x8 Q5 wk a u x5 w' sl sn B1 B2/\f+u.length=F0/\mF D (J1.2.getD 0 0) f a u x5=mF D (J1.2.getD 0 0) F0 (J1.2.getD 1 0) [] [])
  (λa w'=>match w'.heap[r]? with|some (.map es _)=>F0-es.size|_=>0) ⟨[],[],dT,dT,[],[],F0,⟨ad,.nil _ _ _,.nil _ _ _,ap,oL,oL,by rw[e1];exact zM _,bd,.nil,oL,oL⟩,rfl,rfl⟩ ?_
 rintro a w2 ⟨u,x5,sl,sn,B1,B2,f,H,hf,E⟩ X hX;have bL:u.length<F0:=by rcases DP H.nodup H.range with h|h;omega;rw[h];simp;omega
 obtain⟨f,rfl⟩:∃g,f=g+1:=⟨f-1,oJ⟩;have aH:=H.own.fr;apply eB<;>intro aq;have ar:a≠0:=(oP aq);rw[mF,iN ar] at E;refine iC (λb w'=>b=decide (a<2\/a>=J1.2.getD 0 0\/a∈u)/\w'=w2) ?_ ?_;refine eB (λh=>⟨by rw[zZ (Or.inl (zC h))],rfl⟩) λh=>?_;have h1:=zB h;refine fO (oA H.own 0 rfl (J1.2.getD 0 0) (DN U 0 oM) ?_);refine eB (λh=>⟨by rw[zZ (Or.inr (Or.inl (zC h)))],rfl⟩) λh=>?_;have h2:=zB h;refine qrS H.map λx hx=>⟨?_,rfl⟩;rw[hx];refine decide_eq_decide.2 ⟨λh=>.inr (.inr h),λh=>?_⟩;rcases h with h|h|h;exact absurd h h1;exact absurd h h2;exact h;rintro b w3 ⟨rfl,rfl⟩;apply eB<;>intro h;have h:=zC h;rw[iP h] at E;exact aa (by rw[J,<- E]) w3 aH;have aj:=zB h;rw[iN aj] at E;have bi:2<=a:=oJ;have bj:a<J1.2.getD 0 0:=oJ;have aI:a∉u:=λh=>aj (.inr (.inr h));obtain⟨o,hr,hm⟩:=G9 (v:=.i 1) qAz H.map a;refine Dr _ hr ?_;have au:ir a (.i 1) (lT u)=lT (u++[a]):=by rw[ir,(GU a u).2 aI];simp[lT]
 rw[au] at hm;have aJ:=H.map.lt;have fm:Fr [r] w3 (iz w3 r o):=yv aJ o;have aK:r≠pb:=(by have:=H.nr;omega);have af:=H.own.j1 fm (λb I=>by simp only[zE] at I;subst I;exact .inr H.nr) (λp hp=>by simp at hp;subst hp;simpa using λe=>aK e.symm);have av:=H.b1.j1 fm (λb I=>by simpa using (H.n1 b I).2.1);have aL:=H.b2.j1 fm (λb I=>by simpa using (H.n2 b I).2);generalize iz w3 r o=w4 at hm fm af av aL;refine fO (oA af 0 rfl (pW dbk) qAZ ?_);rw[gG a oJ];refine Eg (aG af.fr) hD λs5 B5 w5 b5 f5 n5=>?_;have aw:=af.q8 f5;apply eB<;>intro h;have h:(eS D a).2≠0:=(oP h);rw[iP h] at E;exact aa (by rw[J,<- E]) w5 aw.fr;have h:¬(eS D a).2≠0:=(oP h);rw[iN h] at E;refine HI (b5.jQ lY (S:=[]) oL) (half aw.fr) (wC hD a).1 (by have:=(wC hD a).2;omega) λs6 B6 w6 b6 f6 n6=>?_;have aN:=aw.q8 f6;refine iC (λb w'=>b=decide ((fx a (eS D a).1).2.2≠0\/(fx a (eS D a).1).1≠2)/\w'=w6) ?_ ?_;apply eB<;>intro h;have h:(fx a (eS D a).1).2.2≠0:=(oP h);exact⟨by rw[zZ (Or.inl h)],rfl⟩;have h:(fx a (eS D a).1).2.2=0:=(oP h);refine⟨?_,rfl⟩;by_cases h2:(fx a (eS D a).1).1=2<;>simp[h,h2];rintro b bm ⟨rfl,rfl⟩;apply eB<;>intro h;have h:=zC h;rw[iP h] at E;exact aa (by rw[J,<- E]) bm aN.fr;have h:=zB h;rw[iN h] at E;have aO:=qp7 (wC hD a).1 a;refine qvT (b6.jQ lY (S:=[]) oL) aO.1 (by have:=aO.2;have:=(wC hD a).2;omega) λs7 B7 w7 b7 f7 n7=>?_;have aP:=aN.q8 f7;apply eB<;>intro h;have h:(iM (fx a (eS D a).1).2.1).2.2≠0:=(oP h);rw[iP h] at E;exact aa (by rw[J,<- E]) w7 aP.fr;have h:¬(iM (fx a (eS D a).1).2.1).2.2≠0:=(oP h);rw[iN h] at E;have bn:=qvn (fx a (eS D a).1).2.1;have aQ:=qvm (fx a (eS D a).1).2.1;generalize iM (fx a (eS D a).1).2.1=pv at E b7 bn aQ;have bo:=(f5.trans f6).trans f7;have bp:=H.len;have bq:u.length<=4096:=oJ;have R:=aP.drew;have ag:Fr [] w4 w7.drew:=bo.drew;have ax:=av.q8 ag;have ay:=aL.q8 ag;have aR:=hm.j1 ag oL;have aT:=b7.q8 ((Fr.refl [] w7).drew);have l7:∀b∈B7,w4.heap.size<=b:=λb I=>zL (f5.trans f6).size (n7 b I);have cf:r<w4.heap.size:=hm.lt;generalize w7.drew=wd at R ag ax ay aR aT;refine fO (oA R 0 rfl sl (wE U 0 oM) ?_);refine fO (oA R 0 rfl sn (wE U 1 oM) ?_);refine oB R λrn w8 e8 f8 ah=>kV (ah.cell 1 rfl (wE U 1 oM)) (ah.cell 1 rfl (wE U 0 oM)) ?_;have aW:Rd [] w8 ⟨pW rn,1,1⟩ [a]:=by
  refine⟨rfl,zM _,.inr ⟨rn,0,_,_,_,rfl,ah.at (i:=0) rfl,oL,λi x hx=>?_⟩⟩;match i with
  | 0=>simp at hx;subst hx;rfl
  | i+1=>simp at hx
 refine DI (s:=sl) (src:=⟨pW rn,1,1⟩) (ax.q8 f8) aW oO λs9 B9 w9 b9 f9 n9=>?_;have cg:∀b∈B1,b<wd.heap.size:=λb I=>ax.lt b I;have bz:∀b∈B2,b<wd.heap.size:=λb I=>ay.lt b I;have bA:wd.heap.size<=w8.heap.size:=f8.size;have ch:w4.heap.size<=wd.heap.size:=ag.size;have ci:w.heap.size<=w4.heap.size:=af.fr.size;have aY:=(ah.sub (L':=[(pb,_)]) (List.Sublist.cons _ (List.Sublist.refl _))).j1 f9 (λb I=>.inr (H.n1 b I).1) (λp hp I=>by simp at hp;subst hp;have:=(H.n1 _ I).1;dsimp only at this;omega);refine iS (aY.cell 0 rfl (wE U 1 oM)) ?_;have bB:=(ay.q8 f8).j1 f9 λb I az=>(H.n1 b az).2.2 I;have bC:Rd [] w9 s7 pv.2.1:=((aT.q8 f8).j1 f9 λb I az=>by have:=l7 b I;have:=av.lt b az;omega).jQ rM oL;refine DI bB bC oJ λaZ aA cj bD aB a0=>?_;have bQ:wd.heap.size<=w9.heap.size:=zL bA f9.size;have a1:=aY.j1 aB (λb I=>.inr (H.n2 b I).1) (λp hp I=>by simp at hp;subst hp;have:=(H.n2 _ I).1;dsimp only at this;omega);have ac:∀b∈B9,w.heap.size<=b/\b≠r/\b∉B2/\b<w9.heap.size:=λb I=>by refine⟨?_,?_,?_,b9.lt b I⟩;rcases n9 b I with h|h;exact (H.n1 b h).1;omega;rcases n9 b I with h|h;exact (H.n1 b h).2.1;omega;rcases n9 b I with h|h;exact (H.n1 b h).2.2;intro h2;have:=bz b h2;omega
 have al:∀b∈aA,w.heap.size<=b/\b≠r:=λb I=>by rcases a0 b I with h|h;exact H.n2 b h;constructor<;>omega
 have a2:=b9.j1 aB λb I h2=>(ac b I).2.2.1 h2;have bE:∀b∈B9,b∉aA:=λb I bF=>by
  rcases a0 b bF with h|h;exact (ac b I).2.2.1 h;have:=(ac b I).2.2.2;omega
 refine fO (oG a1 0 rfl (fI (pW dbk) J1 s9 sn x8 Q5 wk) (qqj U) rfl (by rw[u9 U,hw];exact zO rfl) λck a3 bG=>?_);refine fO (oG a3 0 rfl (fI (pW dbk) J1 s9 aZ x8 Q5 wk) (qqk U) rfl (by rw[u9 U,hw];exact zO rfl) λcl a4 bH=>?_);have V:=bG.trans bH;have aC:∀b,w.heap.size<=b->b∉[pb]:=λb I=>by simp;omega
 have am:=(((aR.j1 f8 oL).j1 f9 λh=>(H.n1 r h).2.1 rfl).j1 aB λh=>(H.n2 r h).2 rfl).j1 V (aC r H.nr);refine hX _ _ ⟨u++[a],x5++pv.2.1,s9,aZ,B9,aA,f,⟨a4,a2.j1 V λb I=>aC b (ac b I).1,bD.j1 V λb I=>aC b (al b I).1,am,λb I=>⟨(ac b I).1,(ac b I).2.1,bE b I⟩,al,H.nr,aQ,?_,?_,?_⟩,?_,E⟩ ?_;rw[yM];exact⟨H.nodup,oL,λx hx y hy=>by simp at hy;subst hy;exact λe=>aI (e▸hx)⟩;intro x hx;rcases zD.1 hx with h|h;exact H.range x h;simp at h;subst h;exact⟨bi,bj⟩;rw[zF,zF];have:[a].length=1:=rfl;omega;rw[zF];have:[a].length=1:=rfl;omega;have key:∀ {w':IK} {l:IT},jy jL w' r (lT l)->(match w'.heap[r]? with|some (.map es _)=>F0-es.size|_=>0)=F0-l.length:=by
  rintro w' l ⟨es,c,h1,h2,_⟩;rw[h1];have:=IH List.length h2;simp[lT] at this;simp[this]
 rw[key am,key H.map,zF];have:[a].length=1:=rfl;omega;have ar:a=0:=(oP aq);subst ar;rw[mF,iP rfl] at E;rw[<- E] at J;dsimp only at J;refine fO (oA H.own 0 rfl sn (wE U 1 oM) ?_);have rn:Rd [] w2 sn x5:=H.b2.jQ rM oL;have cm:=rn.1;have bp:=H.len;have bq:u.length<=4096:=oJ;refine jv (λx w'=>w'=w2/\∃i:Nat,x.2=i/\i<=x5.length/\kY (J1.2.getD 0 0) u x.1 (x5.drop i)=kY (J1.2.getD 0 0) u 0 x5) (λx _=>((x5.length:Int)-x.2).toNat) ⟨rfl,0,rfl,oJ,rfl⟩ ?_;rintro⟨a5,ii⟩ w' ⟨rfl,i,a6,hi,hn⟩ Z hZ;simp only at a6 hn;subst a6;apply cD<;>intro hc;have a7:i<x5.length:=(by have:=hc;dsimp only at this;omega);refine Rd.at rn i rfl (zA a7) ?_;rw[zX a7,kY] at hn;refine iC (λb w3=>b=(decide (x5[i]<=a5)||decide (x5[i]>=J1.2.getD 0 0)||decide (x5[i]∈u))/\w3=w') ?_ ?_;refine eB (λh=>⟨by rw[h];rfl,rfl⟩) λh=>fO (oA H.own 0 rfl (J1.2.getD 0 0) (DN U 0 oM) ?_);refine eB (λh2=>⟨by rw[h,h2];rfl,rfl⟩) λh2=>qrS H.map λx hx=>⟨?_,rfl⟩;rw[hx,h,h2];rfl;rintro b w3 ⟨rfl,rfl⟩;apply eB<;>intro h;rw[h] at hn;refine aa ?_ w3 aH;rw[J,if_neg];rw[<- hn];simp;rw[h] at hn;rw[gG _ oN];exact hZ _ _ ⟨rfl,i+1,oL,oJ,by simpa using hn⟩ oN;have:i=x5.length:=(by have:=hc;dsimp only at this;omega);subst this;rw[drop_length] at hn;have bI:kY (J1.2.getD 0 0) u 0 x5=true:=hn.symm;have R:=H.own.drew;refine fO (oA R 0 rfl sn (wE U 1 oM) ?_);refine fO (oA R 0 rfl (J1.2.getD 2 0) (DN U 2 oM) ?_);rw[gG _ oJ];by_cases hfree:(x5.length:Int)=J1.2.getD 2 0;rw[iP ⟨bI,hfree⟩] at J;have e:((sn.len:Int)==J1.2.getD 2 0)=true:=(by rw[yP];omega);rw[e];refine hk sl sn u x5 _ J R λG hG=>?_;have ao:∀b,w.heap.size<=b->b∉G:=λb I h=>by have:=hG b h;omega
 exact⟨(H.b1.q8 ((Fr.refl [] w').drew)).jQ rM λb I=>ao b (H.n1 b I).1,(H.b2.q8 ((Fr.refl [] w').drew)).jQ rM λb I=>ao b (H.n2 b I).1⟩;have e:((sn.len:Int)==J1.2.getD 2 0)=false:=(by rw[zR];omega);rw[e];exact aa (by rw[J,iN λh=>hfree h.2]) _ R.fr
def qlL{s:Sl}(h:eN S w s l):(Extern.Bytes.bytesOf (.slice s.a s.len s.cap)).run prog w=.ok ⟨(Lib.bytesOf l).toArray⟩ w:=by
 have hlen:=h.1;cases ha:s.a with
 | none=>
  have hl0:l=[]:=by rcases h.2.2 with h3|⟨b,o,cs,T,fr,ha',_⟩;exact h3;rw[ha] at ha';cases ha'
  subst hl0;rfl
 | some a=>
  have hc:=h.cells lY ha;have:=Lib.run_loadBytesX (P:=prog) w l a .empty (λj x hj=>hc j (.int .u8 x) (by rw[sC,zQ,hj];rfl));rw[hlen];show (Extern.Bytes.loadBytes a l.length .empty).run prog w=_;rw[this];have e:(#[]:Array UInt8)++(Lib.bytesOf l).toArray=(Lib.bytesOf l).toArray:=oL;exact IH (λd=>Result.ok (ByteArray.mk d) w) e
def qgz:∀ {a b:IT},eX a->eX b->Lib.compareBytes (Lib.bytesOf a) (Lib.bytesOf b)=cmpL a b
 | [],[],_,_=>rfl
 | [],y::b,_,_=>rfl
 | x::a,[],_,_=>rfl
 | x::a,y::b,J,R=>by
  have E:=J x oL;have G:=R y oL;have ih:=qgz (a:=a) (b:=b) (λz I=>J z (zN _ I)) λz I=>R z (zN _ I);have e:∀ {u v:Int},(0<=u/\u<256)->(0<=v/\v<256)->(u.toNat.toUInt8<v.toNat.toUInt8↔u<v):=λ{u v} U V=>by rw[UInt8.lt_iff_toNat_lt];simp;omega
  show (if x.toNat.toUInt8<y.toNat.toUInt8 then (-1:Int) else if y.toNat.toUInt8<x.toNat.toUInt8 then 1 else Lib.compareBytes (Lib.bytesOf a) (Lib.bytesOf b))=cmpL (x::a) (y::b);rw[cmpL,ih];by_cases h1:x<y;rw[iP ((e E G).2 h1),iP h1];rw[iN λh=>h1 ((e E G).1 h),iN h1];by_cases h2:y<x;rw[iP ((e G E).2 h2),iP h2];rw[iN λh=>h2 ((e G E).1 h),iN h2]
def qsY{S':IS}{s u:Sl}(h:eN S w s l)(G:eN S' w u l')(I:eX l)(E:eX l'): (Extern.BytealgCompare.compare #[s.v,u.v]).run prog w=.ok (.i (cmpL l l')) w:=by show Sem.run prog (do pure (goInt (Extern.BytealgCompare.cmp (<- Extern.Bytes.bytesOf s.v) (<- Extern.Bytes.bytesOf u.v)))) w=_;have e:=qgz I E;simp only[Iu,qlL h,Iv,qlL G,Lib.cmp_eq];rw[e];rfl
def Cw{S':IS}{s E:Sl}(h:eN S w s l)(G:eN S' w E l')(I:eX l)(u:eX l')(J:K (cmpL l l') w): cW 116 [s.v,E.v] dm w K:=by exact qvd<|qmy<|Ew (e:=Extern.BytealgCompare.compare) Tryz.func185 oK oK oK oK (cmpL l l') w (qsY h G I u) J
def gO (s:Sl):List IL:=[s.v]
def wX(s:Sl):(gO s).length=1:=rfl
def qwr(s:Sl):∀u∈gO s,u.oneCell'=true:=λu h=>by rw[zE.1 h];rfl
abbrev qh:=List (Sl×Key)
abbrev iY (ps:qh):List Sl:=ps.map (·.1)
abbrev gH (ps:qh):List Key:=ps.map (·.2)
def jK (S:IS) (w:IK) (s:Sl) (ps:qh):Prop:=eI gO 1 S w s (iY ps)/\∀p∈ps,eN S w p.1 p.2
def jK.j1{S S':IS}{w w':IK}{s:Sl}{ps:qh}(h:jK S w s ps)(f:Fr S w w')(u:∀b∈S',b∈S\/w.heap.size<=b):jK S' w' s ps:=⟨h.1.j1 f u,λp E=>(h.2 p E).j1 f u⟩
def jK.q8{S:IS}{w w':IK}{s:Sl}{ps:qh}(h:jK S w s ps)(f:Fr [] w w'):jK S w' s ps:=⟨h.1.q8 f,λp u=>(h.2 p u).q8 f⟩
def jK.len{S:IS}{w:IK}{s:Sl}{ps:qh}(h:jK S w s ps):s.len=ps.length:=by rw[h.1.1,zK]
def jK.nil(S:IS)(w:IK):jK S w dT []:=⟨.nil _ _ _ _,λp h=>nomatch h⟩
def jK.get{S:IS}{w:IK}{s:Sl}{ps:qh}(h:jK S w s ps)(n:Nat){i:Int}{K:Sl->Prop}(hi:i=n)(u:n<ps.length)(E:K ps[n].1):idx s i 1 λa=>ld .slice a w K:=
 eI.get h.1 n hi (x:=ps[n].1) (by rw[zQ,zA u];rfl) (y:=ps[n].1) rfl E
def andThen_ok:andThen (D,0) f=f D:=iP rfl
structure lA (s:oV):Prop where
 seq:0<=s.1/\s.1<4611686018427387904
 len:s.2.length=27
 u32:∀ x∈s.2,ia x
def lA.place(h:lA s):Int.tmod s.1 2=s.1%2:=Int.tmod_eq_emod_of_nonneg h.seq.1
def lA.gY{s:oV}(h:lA s):gY s=(s.1%2,eU (s.1%2) 1 (gQ s.1 s.2)):=by rw[Go.Proofs.YtpcmehldpoljfaaGreatDoor.gY,h.place,pA _ oJ]
def lA.read(h:lA s):fC (s.1%2) (eU (s.1%2) 1 (gQ s.1 s.2))=(s,0):=by
 have:=h.seq;exact qtm (by constructor<;>omega) h.len h.u32 h.place
def lA.vz(h:lA s)(p:Int):(eU p 1 (gQ s.1 s.2)).length=512:=xw (by rw[AO h.len];decide)
def fk.uG(h:fk D)(E:lA s)(hz:8<=D.size): ∃D',kc D s=(D',0)/\fk D'/\D'.size=D.size/\D'.Q9=[]/\view D' (s.1%2)=eU (s.1%2) 1 (gQ s.1 s.2)/\∀m,0<=m->m≠s.1%2->view D' m=view D m:=by obtain⟨D1,e1,J,R,G⟩:=h.write (n:=s.1%2) (l:=eU (s.1%2) 1 (gQ s.1 s.2)) oJ (E.vz _);obtain⟨U,V,q2,s2,w2,I⟩:=J.sync;refine⟨U,?_,q2,s2.trans R,w2,by rw[I _ oJ,G,iP rfl],λm hm u=>by rw[I m hm,G,iN u]⟩;rw[kc,E.gY];show andThen (eQ D (s.1%2) _) gA=_;rw[e1];exact V
def qtn{p:Int}:(fC p (zs 512)).2≠0:=by have u:(fx p (zs 512)).1=0:=(by unfold fx;split<;>(try rfl);split<;>(try rfl);split<;>(try rfl);split<;>(try rfl);split<;>rfl);unfold fC;generalize fx p (zs 512)=o at u⊢;by_cases h:o.2.2≠0;rw[iP h];exact h;have E:o.1≠1\/o.2.1.length≠116:=.inl (by rw[u];decide);rw[iN h,iP E];exact (by decide:(2:Int)≠0)
def qtB{n i:Nat}(h:i<n-2):(fQ n)[i]?=some ((i:Int)+2):=by rw[fQ,zQ,List.getElem?_range h];rfl
def Ab(n:Nat):(fQ n).length=n-2:=by simp[fQ]
def Ai{n:Nat}{x:Int}:x∈fQ n↔2<=x/\x<n:=by rw[fQ,mem_map];constructor;rintro⟨i,h,rfl⟩;rw[mem_range] at h;omega;rintro⟨u,E⟩;exact⟨(x-2).toNat,by rw[mem_range];omega,oJ⟩
def De(n:Nat):(fQ n).Pairwise (· < ·):=by rw[fQ,pairwise_map];exact pairwise_lt_range.imp (λh=>oJ)
def Hu{n:Nat}:n<=124*eZ n:=by
 unfold eZ;split;omega;have:=Nat.div_add_mod (n-1) 124;have:=Nat.mod_lt (n-1) (show 0<124 by decide);omega
def Fc{n:Nat}:eZ n<=n:=by
 unfold eZ;split;omega;have:=Nat.div_le_self (n-1) 124;omega
def qnx{n:Nat}:mc n ((fQ n).drop (eZ (fQ n).length)) ((fQ n).take (eZ (fQ n).length)) where
 dI:=(De n).sublist (drop_sublist _ _)
 om:=λx u=>Ai.1 (yU u)
 sE:=λx u=>Ai.1 (yV u)
 nodup:=(xk (De n)).sublist (take_sublist _ _)
 J5:=λx u E=>by have h:=xk (De n);rw[<- xF (eZ (fQ n).length) (fQ n),yM] at h;exact h.2.2 x u x E rfl
 room:=by have I:=Hu (n:=(fQ n).length);have G:=Fc (n:=(fQ n).length);rw[yB,yL,xS G];omega
def GE{n:Nat}(u:8<=n)(E:n<=4096):lA (k7 n) where
 seq:=⟨(by decide:(0:Int)<=1),(by decide:(1:Int)<4611686018427387904)⟩
 len:=rfl
 u32:=λx h=>by
  simp only[k7,zD,zG,xY,or_false] at h;rcases h with (rfl|rfl|rfl)|h;exact xb _;exact⟨oM,oM⟩;exact xb _;have:=eq_of_mem_replicate h;subst this;exact⟨oM,oM⟩
def qrJ{n:Nat}(h:fk D)(hn:D.size=n)(h8:8<=n)(h4:n<=4096): ∃D',ma D=(D',0)/\fk D'/\D'.size=n/\D'.Q9=[]/\pT D' (k7 n) ((fQ n).take (eZ (fQ n).length)) ((fQ n).drop (eZ (fQ n).length))/\view D' 0=zs 512:=by
 have an:D.Q8.length=n:=(by have:(D.Q8.length:Int)=n:=hn;omega);obtain⟨D1,e1,q1,s1,v1⟩:=h.write (n:=0) (l:=zs 512) oJ (qj _);obtain⟨D2,e2,q2,s2,v2⟩:=q1.write (n:=1) (l:=zs 512) oJ (qj _);obtain⟨R,e3,q3,s3,w3,v3⟩:=q2.sync;have E:R.size=n:=oJ;have U:R.Q8.length=n:=(by have:(R.Q8.length:Int)=n:=E;omega);have u:=qnx (n:=n);rw[<- E] at u;obtain⟨V,e4,q4,s4,w4,l4,v4⟩:=q3.spread u;have aa:V.size=n:=oJ;have ab:V.Q8.length=n:=(by have:(V.Q8.length:Int)=n:=aa;omega);obtain⟨D5,e5,q5,s5,w5,p5,v5⟩:=q4.uG (GE h8 h4) oJ;have G:(k7 n).1%2=1:=rfl;rw[G] at p5 v5;have I:=u.sE;have z0:view D5 0=zs 512:=(by rw[v5 0 oM oM,v4 0 oM (λhm=>by have:=I 0 hm;omega),v3 0 oM,v2,iN oM,v1,iP rfl]);refine⟨D5,?_,q5,oJ,w5,?_,z0⟩;rw[ma,e1,andThen_ok,e2,andThen_ok,e3,andThen_ok,U,e4,andThen_ok,ab,e5];have aF:1<=eZ (fQ n).length:=by
  have:=Hu (n:=(fQ n).length);rw[Ab] at this⊢;omega
 refine { down:=q5.down,size:=by omega,uv:=?_,blocks:=?_,list:=?_,Q3:=?_,ok:=by rw[show D5.size=R.size by omega];exact u,listed:=λi p hp=>?_ };have hr:=(GE h8 h4).read;rw[G] at hr;rw[z0,p5,iw,hr,iN oL,iP (.inl qtn)];show wrap .u32 (n:Int)=_;rw[pA _ oJ];omega;have:(fQ n).take (eZ (fQ n).length)=2::((fQ n).take (eZ (fQ n).length)).drop 1:=by
  have J:(fQ n)[0]?=some 2:=(by rw[qtB oJ];rfl);obtain⟨k,hk⟩:∃k,eZ (fQ n).length=k+1:=⟨eZ (fQ n).length-1,oJ⟩;rw[hk];cases hA:fQ n with
  | nil=>rw[hA] at J;cases J
  | cons a r=>rw[hA] at J;simp at J;subst J;rfl
 rw[this];rfl;show wrap .u32 _=_;have:=Fc (n:=(fQ n).length);rw[yB,pA _ (by rw[Ab] at *;omega)];omega;have:=I p (yF hp);rw[v5 p oJ oJ];exact l4 i p hp
def qvk(n:Nat):fk (nP n):=⟨rfl,rfl,λx h=>by cases h⟩
def qwY(n:Nat):(nP n).size=n:=by show ((List.replicate n mw.zero).length:Int)=n;simp
def qsH{w':IK}{s:Sl}(h:Told w w' s l):∃B,lO w' s l B/\∀b∈B,w.heap.size<=b:=by rcases h with ⟨rfl,rfl⟩|⟨b,d,T,cap,rfl,G,R,I,J,u,E⟩;exact⟨[],.nil _ _ _,oL⟩;refine⟨[b],.inr ⟨b,0,iO d,T,rfl,rfl,rfl,G,rfl,I,by rw[AZ];dsimp only;omega,?_⟩,by simpa using u⟩;rw[xG,xU,iO,Array.toList_map,<- xQ,J,Gy]
def iy (D:dV):oV×Int:=
 if (eS D 0).2≠0 then (gU,(eS D 0).2) else if (eS D 1).2≠0 then (gU,(eS D 1).2) else iw (eS D 0).1 (eS D 1).1
def qtg(D:dV):(iy D).1.2.length=27:=by unfold iy;split;rfl;split;rfl;exact ql3 _ _
def quB{K:List IL×Int->WP}(h:fl w dbk FD D)(J:D.Ok)(hv:Hv w)(U:∀w',Fr [] w w'->K (fv (iy D).1.1 (iy D).1.2,(iy D).2) w'): cW 144 [dS dbk] dN w K:=by
 refine qn3<|oI (oE [] w) ui λr w1 e1 E=>Eg (h.q8 E.fr) J λs2 B2 w2 b2 f2 n2=>?_;have E:=E.q8 f2;apply eB<;>intro u;have u:(eS D 0).2≠0:=(oP u);refine AJ<|uX E 0 rfl rfl rfl λR G=>?_
 have:=U R G;rw[iy,iP u] at this;exact this;have I:¬(eS D 0).2≠0:=(oP u);refine Eg (h.q8 E.fr) J λs3 B3 R b3 G n3=>?_;have E:=E.q8 G;apply eB<;>intro u;have u:(eS D 1).2≠0:=(oP u);refine AJ<|uX E 0 rfl rfl rfl λR G=>?_
 have:=U R G;rw[iy,iN I,iP u] at this;exact this;have V:¬(eS D 1).2≠0:=(oP u);have i0:=wC J 0;have i1:=wC J 1;refine quJ ((b2.q8 G).jQ lY (S:=[]) oL) (b3.jQ lY (S:=[]) oL) (hv.q8 E.fr) i0.1 i1.1 oJ oJ λw4 f4=>uX (E.q8 f4) 0 rfl rfl (ql3 _ _) λw5 f5=>?_;have:=U w5 f5;rw[iy,iN I,iN V] at this;exact this
def qsa(D:dV):nu D=if (iy D).2≠0 then (none,(iy D).2) else if (iy D).1.2.getD 0 0≠D.Q8.length then (none,2) else match py D (iy D).1 with|none=>(none,2)|some x=>(some (iR (iy D).1 x.1 x.2 1 false x.2),0):=by unfold nu iy;by_cases h0:(eS D 0).2≠0;rw[iP h0,iP h0];exact (iP h0).symm;rw[iN h0,iN h0];by_cases h1:(eS D 1).2≠0;rw[iP h1,iP h1];exact (iP h1).symm;rw[iN h1,iN h1]<;>rfl
def pgZ:(prog.info? sS).bind (·.zero)=some (.agg (fI none gU dT dT 0 false (iG none none none (zs 24)))):=by kernel_rfl
def qx0{d:Option Addr}{q:Int}{t:IT}(h:t.length=27)(w:IK): (Instr.build sS #[(0,.pointer d),(1,.agg (fv q t).toArray)]).run prog w=.ok (.agg (fI d (q,t) dT dT 0 false (iG none none none (zs 24)))) w:=by
 refine BC (parts:=[(0,.pointer d),(1,.agg (fv q t).toArray)]) (offs:=#[(0,1),(1,28),(29,1),(30,1),(31,1),(32,1),(33,27)]) pgZ oK (λw=>oK) ?_ w;have u:(Value.agg (fv q t).toArray).cells.size=28:=C9 h;rw[sO (o:=0) (s:=1) rfl rfl (zO rfl),sO (o:=1) (s:=28) rfl u (zO rfl)];show some _=_;congr 1;have E:en (Value.agg (fI none gU dT dT 0 false (iG none none none (zs 24)))).cells 0 (Value.pointer d).cells.toList=fI d gU dT dT 0 false (iG none none none (zs 24)):=rfl;rw[E];have:=t5 (A:=[Value.pointer d]) (X:=fv 0 (zs 27)) (Y:=fv q t) (Z:=[.slice none 0 0,.slice none 0 0,.i 0,.bool false]++iG none none none (zs 24)) (by rw[qF h];rfl);refine Eq.trans ?_ (this.trans ?_);show en (fI d gU dT dT 0 false (iG none none none (zs 24))) 1 (fv q t)=_;congr 1;simp[fI]
def qob(place:Int)(l:IT):∀x∈(fC place l).1.2,ia x:=by
 have h:∀x∈gU.2,ia x:=λx u=>by
  have:=eq_of_mem_replicate (show x∈List.replicate 27 (0:Int) from u);subst this;exact⟨oM,oM⟩
 unfold fC;split;exact h;split;exact h;split;exact h;intro x u;obtain⟨i,_,rfl⟩:=mem_map.1 u;exact qka
def qth(D:dV):∀x∈(iy D).1.2,ia x:=by
 have h:∀x∈gU.2,ia x:=λx u=>by
  have:=eq_of_mem_replicate (show x∈List.replicate 27 (0:Int) from u);subst this;exact⟨oM,oM⟩
 unfold iy;split;exact h;split;exact h;unfold iw;split;exact h;split;exact qob _ _;exact qob _ _
def qrM(h:∀x∈l,ia x)(n:Nat):ia (l.getD n 0):=by
 rw[yR];cases u:l[n]? with
 | none=>exact⟨oM,oM⟩
 | some x=>exact h x (yF u)
def qvX{K:Option Addr×Int->WP}(X:IS)(av:∀b∈X,b<w.heap.size)(h:fl w dbk FD D)(hD:D.Ok)(hv:Hv w)(am:(nu D).1=none->∀w',Fr [] w w'->K (none,(nu D).2) w')(hk:∀pb F M w',nu D=(some M,0)->eW w' X pb (pW dbk) F M->Fr [] w w'->(∀b∈F,w.heap.size<=b)->K (pW pb,0) w'): cW 108 [dS dbk] dP w K:=by
 refine qqK<|quB h hD hv λw1 f1=>?_;have U:=qtg D;have hu:=qrM (qth D);have E:=qsa D;generalize hs:iy D=sm at U hu E;obtain⟨J1,e⟩:=sm;simp only at U hu E;refine oI ((oE [] w).q8 f1) ui λr w2 e2 ho=>Ap ho 0 rfl rfl U λw3 ho=>?_;apply eB<;>intro V;have V:e≠0:=(oP V);rw[iP V] at E
 have:=am (by rw[E]) w3 ho.fr;rw[E] at this;exact this;have ay:¬e≠0:=(oP V);rw[iN ay] at E;refine vq (ho.at (i:=0) rfl) U<|sh (ts:=[iF.lK]) (fI (pW dbk) (J1.1,J1.2) dT dT 0 false (iG none none none (zs 24))).toList (qx0 U w3)<|oB ho λpb w4 e4 f4 ak=>?_;have R:=ak.fr;have an:=h.q8 R;have ao:∀b∈FD,b<w4.heap.size/\b≠pb:=λb G=>by
  have h1:=h.lt b G;have:=R.size;have:=ho.fr.size;constructor<;>omega
 have al:∀b∈X,b<w4.heap.size/\b≠pb:=λb G=>by
  have h1:=av b G;have:=R.size;have:=ho.fr.size;constructor<;>omega
 have aA:=hD.Q8;have ab:w4.heap[pb]?=some (.c (fI (pW dbk) J1 dT dT 0 false (iG none none none (zs 24))) sS):=ak.at (i:=0) rfl;have ai:w4.heap[r]?=some (.c (fv J1.1 J1.2).toArray 185):=ak.at (i:=1) rfl;have ae:w.heap.size<=pb:=(by have:=ho.fr.size;omega);have aB:pb≠HG:=(by have:=hv.lt;omega);refine iC (λb w'=>(b=true/\(nu D).1=none/\(nu D).2=2/\Fr [] w w')\/(b=false/\∃sl sn I x5,nu D=(some (iR J1 I x5 1 false x5),0)/\ef [pb] w4 w' [(pb,.c (fI (pW dbk) J1 sl sn 0 false (iG none none none (zs 24))) sS)]/\Rd (X++[pb]) w' sl I/\Rd (X++[pb]) w' sn x5/\x5.Pairwise (· < ·)/\x5.length<=100000)) ?_ ?_;refine iv (w:=w4.drew) (c:=.u) ai (J1.2.getD 0 0) (Cp 0 oJ)<|Ff (an.q8 (Fr.refl [] w4).drew)<|iS (by show _=_;rw[jC (w:=w4.drew) ai];exact Cp 0 oJ) ?_;rw[pA (D.Q8.length:Int) oJ];apply eB<;>intro V;have V:J1.2.getD 0 0≠(D.Q8.length:Int):=by intro h;rw[h] at V;simp at V
 rw[iP V] at E;exact .inl ⟨rfl,by rw[E],by rw[E],R.drew⟩;have V:J1.2.getD 0 0=(D.Q8.length:Int):=by by_cases h:J1.2.getD 0 0=(D.Q8.length:Int);exact h;rw[show ((J1.2.getD 0 0==(D.Q8.length:Int))=false) by rw[zR];exact h] at V;cases V
 rw[iN (by rw[V];simp)] at E;have af:Fr [] w4 w4.drew:=(Fr.refl [] w4).drew;refine qxH (pb:=pb) (D:=D) (J1:=J1) (FD:=FD) (w:=w4.drew) ab U (zo (by rfl)) (an.q8 af) hD ((hv.q8 R).q8 af) (λG=>(ao pb G).2 rfl) aB oJ (hu 1) (hu 2) (λhl w5 f5=>?_) λsl sn I x5 w5 hl J ap=>?_;rw[hl] at E;refine .inl ⟨rfl,by rw[E],by rw[E],(R.trans af).J0 f5 λb G=>by simp at G;subst G;exact .inr ae⟩;rw[hl] at E;have ac:kY (J1.2.getD 0 0) I 0 x5=true:=by unfold py at hl;split at hl;cases hl;rename_i x hx;split at hl;rename_i hh;cases hl;exact hh.1;cases hl
 have ac:=(Hg _ _ _ _).1 ac;have ad:x5.length<=100000:=by
  have:=DP (n:=J1.2.getD 0 0+1) (l:=x5.map (·+1)) (by
   rw[List.Nodup,pairwise_map];exact ac.2.imp λh=>oJ) (λx hx=>by
   obtain⟨y,hy,rfl⟩:=mem_map.1 hx;have:=ac.1 y hy;omega)
  rcases this with h|h;rw[zK] at h;omega;have:=IH List.length h;simp at this;simp[this]
 have aj:∀b∈X++[pb],b<w4.drew.heap.size:=λb G=>by rcases zD.1 G with G|G;exact (al b G).1;rw[zE.1 G];exact eO ab
 refine .inr ⟨rfl,sl,sn,I,x5,E,⟨J.eY,J.nodup,(af.mono λb G=>by cases G).trans J.fr,J.own⟩,(ap _ aj).1,(ap _ aj).2,ac.2,ad⟩;rintro b w5 (⟨rfl,h1,h2,f5⟩|⟨rfl,sl,sn,I,x5,aD,J,r1,r2,hp,ad⟩);refine Im rfl ?_;have:=am h1 w5 f5;rw[h2] at this;exact this;refine Io rfl ?_;have hX:∀b∈X,b<w5.heap.size/\b≠pb:=λb G=>⟨yC (al b G).1 J.fr.size,(al b G).2⟩;refine Gb (X:=X) (J.at (i:=0) rfl) U (zo (by rfl)) oM hX r1 r2 ad λF w6 aq f6 n6=>?_;rw[qpO hp] at aq;refine hk pb F _ w6 aD aq ((R.J0 J.fr λb G=>by simp at G;subst G;exact .inr ae).J0 f6 λb G=>by simp at G;subst G;exact .inr ae) λb G=>?_;rcases n6 b G with h|h;rw[h];exact ae;exact zL (zL R.size J.fr.size) h
structure mn (D:dV) (k:Nat):Prop where
 ok:D.Ok
 Q9:D.Q9.length<=k
 writes:D.writes<=k
def qtA(h:D.Ok):(iA D).1.Ok/\(iA D).1.writes=D.writes:=by have u:=h.cK;unfold iA;split;exact⟨⟨h.at_,u,h.Q8,h.Q9,h.writes,h.pc,h.oW⟩,rfl⟩;split;exact⟨⟨h.at_,⟨by show -1<=D.cK-1;omega,by show D.cK-1<=_;omega⟩,h.Q8,h.Q9,h.writes,h.pc,h.oW⟩,rfl⟩;exact⟨h,rfl⟩
def mn.mono{u:Nat}(h:mn D k)(E:k<=u):mn D u:=⟨h.ok,zL h.Q9 E,by have:=h.writes;omega⟩
def mn.write(h:mn D k)(U:k<1000000)(G:eX l):mn (eQ D n l).1 (k+1):=by
 unfold eQ;split;exact h.mono oJ;split;exact h.mono oJ;split;rename_i V h2 E;have I:(me D n ⟨l,E⟩).Ok:={
  at_:=λx u=>by rcases zD.1 u with u|u;exact h.ok.at_ x u;simp at u;subst u;show 0<=n/\n<(D.Q8.length:Int);omega
  cK:=h.ok.cK
  Q8:=h.ok.Q8
  Q9:=by show (D.Q9++[_]).length<=_;have:=h.Q9;simp;omega
  writes:=⟨by show 0<=D.writes+1;have:=h.ok.writes;omega,by show D.writes+1<=_;have:=h.writes;omega⟩
  pc:=h.ok.pc
  oW:=λx u=>by rcases zD.1 u with u|u;exact h.ok.oW x u;simp at u;subst u;exact G }
 obtain⟨J,R⟩:=qtA I;refine⟨J,?_,?_⟩;show (iA (me D n ⟨l,E⟩)).1.Q9.length<=k+1;rw[(AR _).2];show (D.Q9++[_]).length<=_;have:=h.Q9;simp;omega;show (iA (me D n ⟨l,E⟩)).1.writes<=((k+1:Nat):Int);rw[R];show D.writes+1<=_;have:=h.writes;omega;exact h.mono oJ
def qt5:∀(l:List (Int×mw)) (s:List mw),(∀x∈l,eX x.2.1)->(∀b∈s,eX b.1)->∀b∈l.foldl gB s,eX b.1
 | [],s,_,h=>h
 | x::l,s,E,h=>qt5 l (gB s x) (λy G=>E y (zN _ G)) λb u=>by rcases mem_or_eq_of_mem_set u with u|rfl;exact h b u;exact E x oL
def mn.sync(h:mn D k):mn (gA D).1 k:=by obtain⟨u,G⟩:=qtA h.ok;unfold gA;split;exact h;split;exact⟨u,by show (iA D).1.Q9.length<=k;rw[(AR D).2];exact h.Q9,by show (iA D).1.writes<=_;rw[G];exact h.writes⟩;refine⟨⟨(λx E=>by cases E),u.cK,?_,oL,u.writes,?_,(λx E=>by cases E)⟩,oL,by show (iA D).1.writes<=_;rw[G];exact h.writes⟩;show (D.Q9.foldl gB D.Q8).length<=4096;rw[BN];exact h.ok.Q8;exact qt5 _ _ h.ok.oW h.ok.pc
def mn.then{u:Nat}(h:mn r.1 k)(E:k<=u)(G:∀D,mn D k->mn (f D).1 u):mn (andThen r f).1 u:=by unfold andThen;split;exact G _ h;exact h.mono E
def mn.tr:∀ {l:List (I7)} {D:dV} {k:Nat},mn D k->k+l.length<=1000000->(∀x∈l,eX x.2)->mn (fU l D).1 (k+l.length)
 | [],D,k,h,_,_=>h
 | x::l,D,k,h,E,u=>by
  rw[yI] at E⊢;refine mn.then (k:=k+1) (h.write oJ (u x oL)) oJ λD' G=>?_;have:=mn.tr (l:=l) G oJ (λy I=>u y (zN _ I));rw[Nat.add_right_comm] at this;exact this
def GX:(eQ D n l).1.Q8.length=D.Q8.length:=by unfold eQ;split;rfl;split;rfl;split;show (iA _).1.Q8.length=_;rw[(AR _).1];rfl;rfl
def qqr:(gA D).1.Q8.length=D.Q8.length:=by unfold gA;split;rfl;split;show (iA _).1.Q8.length=_;rw[(AR _).1];show (D.Q9.foldl gB D.Q8).length=_;rw[BN]
def qqs{n:Nat}(h:r.1.Q8.length=n)(u:∀D:dV,D.Q8.length=n->(f D).1.Q8.length=n):(andThen r f).1.Q8.length=n:=by unfold andThen;split;exact u _ h;exact h
def qmh:∀ {l:List (I7)} {D:dV},(fU l D).1.Q8.length=D.Q8.length
 | [],D=>rfl
 | x::l,D=>qqs GX λD' h=>by rw[qmh,h]
def qtp{a b:IT}:(fJ D a b).1.Q8.length=D.Q8.length:=by unfold fJ;split;rfl;exact qqs qmh λD' h=>by rw[qqr,h]
def qtr:∀x∈(cC.zip (gM numbers cC).1).map λx=>(x.1,eU x.1 2 x.2),eX x.2:=by intro x u;obtain⟨y,h,rfl⟩:=mem_map.1 u;refine Ey oM ?_;have h:=(of_mem_zip h).2;unfold gM at h;split at h;cases h;split at h;cases h;obtain⟨i,_,E⟩:=mem_map.1 h;rw[<- E];exact qpt _ _
def qox{α β:Type}(a:List α)(b:List β):(a.zip b).length<=a.length:=by rw[length_zip];exact Nat.min_le_left _ _
def mn.spread(h:mn D k)(G:k+cC.length<=1000000):mn (fJ D numbers cC).1 (k+cC.length):=by
 unfold fJ;split;exact h.mono oJ;have u:=qox cC (gM numbers cC).1;refine mn.then (k:=k+cC.length) ?_ (zM _) λD' E=>E.sync;refine (mn.tr h (by rw[zK];omega) qtr).mono ?_;rw[zK];omega
def qvP(s:oV):eX (gY s).2:=Ey oM (qvO _ _)
def qqU{numbers cC:IT}{i:Nat}{bs:List (IT)}(h:i<cC.length)(u:i<bs.length):(cC.zip bs).drop i=(cC[i],bs[i])::(cC.zip bs).drop (i+1):=by rw[zX (by rw[length_zip];omega)];simp
def quC{sp:Sl}(h:fl w dbk FD D)(hD:mn D k)(aT:k+cC.length<=1000000)(hv:Hv w)(hg:HG∉FD)(hn:Rd FD w sn numbers)(hp:Rd FD w sp cC)(ax:numbers.length<=100000)(ay:cC.length<=100000)(az:∀x∈cC,ia x)(hk:∀F' w',fl w' dbk F' (fJ D numbers cC).1->Fr FD w w'->(∀b∈F',b∈FD\/w.heap.size<=b)->K (fJ D numbers cC).2 w'): cW 142 [dS dbk,sn.v,sp.v] dm w K:=by
 refine qn4<|quq (G:=FD) hn hp ax ay h.lt λs1 B1 w1 b1 f1 n1=>?_;apply eB<;>intro E;have E:(gM numbers cC).2≠0:=by simpa using E
 have:=hk FD w1 (by rw[fJ,iP E];exact h.q8 f1) (f1.mono λb u=>by cases u) (λb u=>.inl u);rw[fJ,iP E] at this;exact this;have I:¬(gM numbers cC).2≠0:=(oP E);rw[fJ,iN I] at hk;have U:(gM numbers cC).1.length=cC.length/\∀b∈(gM numbers cC).1,b.length<=500/\eX b:=by
  unfold gM at I⊢;split;rename_i h1;rw[iP h1] at I;exact absurd oM I;rename_i h1;rw[iN h1] at I;split;rename_i h1;rw[iP h1] at I;exact absurd oM I;refine⟨G7 _ _ _,λb u=>?_⟩;obtain⟨i,_,rfl⟩:=mem_map.1 u;rw[DX];have:=Hj numbers i;unfold chunk at this;exact⟨oJ,qpt _ _⟩
 generalize (gM numbers cC).1=bs at hk U b1;obtain⟨R,q1,q2,q3⟩:=b1;have aZ:=q1.len;have aO:=U.1;have a0:=hp.1;refine jv (λx w'=>∃(i j:Nat) (F':IS) (D':dV),x=i/\i<=cC.length/\fl w' dbk F' D'/\mn D' (k+i)/\Fr FD w w'/\Fr FD w1 w'/\(∀b∈F',b∈FD\/w1.heap.size<=b)/\
   andThen (fU ((cC.zip bs).map λx=>(x.1,eU x.1 2 x.2)) D) gA=andThen (fU (((cC.zip bs).drop i).map λx=>(x.1,eU x.1 2 x.2)) D') gA) (λx _=>((cC.length:Int)-x).toNat)
  ⟨0,0,FD,D,rfl,oJ,h.q8 f1,hD,f1.mono (λb u=>by cases u),.refl _ _,λb u=>.inl u,rfl⟩ ?_
 rintro x w2 ⟨i,j,F',D',rfl,hi,aj,ae,f2,V,n2,he⟩ X hX;have aA:=hv.j1 f2 hg;have a2:=f1.size;apply eB<;>intro E;have aa:i<cC.length:=(by have:=zC E;dsimp only at this;omega);have ab:i<bs.length:=oJ;have al:i<R.length:=oJ;have aB:eI ue 1 FD w1 s1 R:=q1.jQ qrz (λb u hm=>by have:=h.lt b hm;have:=n1 b u;omega);have am:eI ue 1 FD w2 s1 R:=aB.j1 V λb u=>.inl u;have an:Rd FD w2 sp cC:=hp.j1 f2 λb u=>.inl u;refine eI.get (y:=R[i]) am i rfl (zA al) rfl<|Rd.at an i rfl (zA aa) ?_;have ao:eN FD w1 R[i] bs[i]:=(q3 i _ _ (zA al) (zA ab)).j8 λb u=>.inl (zH _ u);have af:eN FD w2 R[i] bs[i]:=ao.j1 V λb u=>.inl u;have aC:=(U.2 _ (zW ab)).1;have a4:=az _ (zW aa);refine H8 af aA oJ (λh=>oJ) λ_ b3 T3 w3 c3 f3 n3=>Rd.at (an.q8 f3) i rfl (zA aa) ?_;rw[gG cC[i] oJ];have ac:=xw (number:=cC[i]) (kind:=2) aC;refine qpn (S:=[]) (aj.q8 f3) ae.ok (wK (o:=0) (n:=512) c3 (by rw[ac];exact zM _) (zM _) oL) λF4 w4 d4 f4 n4=>?_;rw[xG,zS (by rw[ac];exact zM _)] at d4⊢;have J:∀b∈F',b∈FD\/w.heap.size<=b:=λb u=>by rcases n2 b u with h|h;exact .inl h;exact .inr oJ
 have a7:w2.heap.size<=w3.heap.size:=f3.size;have a8:=V.size;have ap:Fr FD w w4:=(f2.J0 f3 oL).J0 f4 J;have aH:Fr FD w1 w4:=(V.J0 f3 oL).J0 f4 n2;have aq:∀b∈F4,b∈FD\/w1.heap.size<=b:=λb u=>by rcases n4 b u with h|h;exact n2 b h;exact .inr oJ
 rw[qqU aa ab (numbers:=numbers),xP,fU] at he;apply eB<;>intro E;have E:(eQ D' cC[i] (eU cC[i] 2 bs[i])).2≠0:=(oP E);have aI:andThen (fU ((cC.zip bs).map λx=>(x.1,eU x.1 2 x.2)) D) gA=eQ D' cC[i] (eU cC[i] 2 bs[i]):=by rw[he];show andThen (andThen (eQ D' cC[i] (eU cC[i] 2 bs[i])) _) gA=_;rw[show ∀f,andThen (eQ D' cC[i] (eU cC[i] 2 bs[i])) f=eQ D' cC[i] (eU cC[i] 2 bs[i]) from λf=>iN E];exact iN E
 rw[aI] at hk;exact hk F4 w4 d4 ap (λb u=>by rcases aq b u with h|h;exact .inl h;exact .inr oJ);have E:(eQ D' cC[i] (eU cC[i] 2 bs[i])).2=0:=(oP E);rw[gG _ oJ];refine hX _ _ ⟨i+1,0,F4,(eQ D' cC[i] (eU cC[i] 2 bs[i])).1,oL,oJ,d4,?_,ap,aH,aq,?_⟩ oJ;have:=ae.write (n:=cC[i]) (l:=eU cC[i] 2 bs[i]) oJ (Ey oM (U.2 _ (zW ab)).2);rw[Nat.add_assoc] at this;exact this;rw[he];show andThen (andThen (eQ D' cC[i] (eU cC[i] 2 bs[i])) _) gA=_;rw[show ∀f,andThen (eQ D' cC[i] (eU cC[i] 2 bs[i])) f=f (eQ D' cC[i] (eU cC[i] 2 bs[i])).1 from λf=>iP E];have:i=cC.length:=(by have:=zB E;dsimp only at this;omega);subst this;have aJ:(cC.zip bs).drop cC.length=[]:=vF (qox _ _);rw[aJ] at he;have aK:andThen (fU ((cC.zip bs).map λx=>(x.1,eU x.1 2 x.2)) D) gA=gA D':=he;rw[aK] at hk;refine qq2 aj ae.ok λF3 w3 d3 f3 n3=>?_;have J:∀b∈F',b∈FD\/w.heap.size<=b:=λb u=>by rcases n2 b u with h|h;exact .inl h;exact .inr oJ
 exact hk F3 w3 d3 (f2.J0 f3 J) λb u=>J b (n3 b u)
section
structure DS (dbk:Nat) (w:IK) (FD:IS) (w':IK) (F':IS) (D':dV) (k:Nat):Prop where
 at_:fl w' dbk F' D'
 lim:mn D' k
 fr:Fr FD w w'
 nw:∀ b∈F',b∈FD\/w.heap.size<=b
variable {dbk:Nat}
def DS.refl{w:IK}{FD:IS}{D:dV}{k:Nat}(h:fl w dbk FD D)(u:mn D k):DS dbk w FD w FD D k:=⟨h,u,.refl _ _,λb E=>.inl E⟩
def DS.trans{w2:IK}{F2:IS}{G E:dV}{I k2:Nat}(h:DS dbk w FD w1 F1 G I)(g:DS dbk w1 F1 w2 F2 E k2):DS dbk w FD w2 F2 E k2:=
 ⟨g.at_,g.lim,h.fr.J0 g.fr h.nw,λb J=>by rcases g.nw b J with u|u;exact h.nw b u;exact .inr (zL h.fr.size u)⟩
def DS.q8{w w1 w2:IK}{FD F1:IS}{u:dV}{E:Nat}(h:DS dbk w FD w1 F1 u E)(f:Fr [] w1 w2):DS dbk w FD w2 F1 u E:=
 ⟨h.at_.q8 f,h.lim,h.fr.J0 f oL,h.nw⟩
def DS.hv{I:dV}{J:Nat}(h:DS dbk w FD w1 F1 I J)(u:Hv w)(E:HG∉FD):Hv w1/\HG∉F1:=
 ⟨u.j1 h.fr E,λR=>by
  rcases h.nw _ R with G|G;exact E G;have:=u.lt;omega⟩
def DS.rd{u:dV}{E:Nat}{s:Sl}(h:DS dbk w FD w1 F1 u E)(G:Rd FD w s l):Rd F1 w1 s l:=G.j1 h.fr h.nw
def DS.re{u:dV}{E k2:Nat}(h:DS dbk w FD w1 F1 u E)(G:E<=k2):DS dbk w FD w1 F1 u k2:=⟨h.at_,h.lim.mono G,h.fr,h.nw⟩
def Eo{s:Sl}(h:DS dbk w FD w1 F1 D k)(G:k<1000000)(I:eN S w1 s l)(J:eX l)(R:∀w2 F2,DS dbk w FD w2 F2 (eQ D n l).1 (k+1)->Fr F1 w1 w2->(∀b∈F2,b∈F1\/w1.heap.size<=b)->K (eQ D n l).2 w2): cW 138 [dS dbk,.i n,s.v] dm w1 K:=by exact qpn h.at_ h.lim.ok I λF2 w2 U u E=>R w2 F2 (h.trans ⟨U,h.lim.write G J,u,E⟩) u E
def qq1(h:DS dbk w FD w1 F1 D k)(I:∀w2 F2,DS dbk w FD w2 F2 (gA D).1 k->Fr F1 w1 w2->(∀b∈F2,b∈F1\/w1.heap.size<=b)->K (gA D).2 w2): cW 139 [dS dbk] dm w1 K:=by exact qq2 h.at_ h.lim.ok λF2 w2 J E G=>I w2 F2 (h.trans ⟨J,h.lim.sync,E,λb u=>.inl (G b u)⟩) E (λb u=>.inl (G b u))
def qq7(h:DS dbk w FD w1 F1 D k)(hk:k<1000000)(hv:Hv w1)(V:s.2.length=27)(hq:0<=s.1)(J:∀w2 F2,DS dbk w FD w2 F2 (kc D s).1 (k+1)->Fr F1 w1 w2->(∀b∈F2,b∈F1\/w1.heap.size<=b)->K (kc D s).2 w2): cW 143 [dS dbk,.agg (fv s.1 s.2).toArray] dm w1 K:=by
 refine qqL<|oB (oE [] w1) λr w2 e2 f2 R=>?_;have c0:(fv s.1 s.2).toArray[0]?=some (.w s.1):=rfl;refine oA R.drew 0 rfl s.1 c0<|vq (R.drew.at (i:=0) rfl) V<|qv6 (hv.q8 R.drew.fr) V λb T w3 c3 f3 n3=>?_;have u:=R.drew.q8 f3;refine iS (u.cell 0 rfl c0) ?_;have ht:=Int.tmod_eq_emod_of_nonneg (b:=2) hq;rw[gG (Int.tmod s.1 2) oJ];have E:(eU (wrap .u32 (Int.tmod s.1 2)) 1 (gQ s.1 s.2)).length=512:=xw (by rw[AO V];decide);have aa:eN [] w3 ⟨pW b,512,512⟩ (gY s).2:=by
  have:=wK (S:=[]) (o:=0) (n:=512) (cap:=512) c3 (by rw[E];exact zM _) (zM _) oL;rw[xG,zS (Nat.le_of_eq E)] at this;exact this
 show cW 138 [dS dbk,.i (gY s).1,_] _ _ _;refine Eo (h.q8 u.fr) hk aa (qvP s) λw4 F4 U f4 n4=>?_;have ao:=u.fr.size;apply eB<;>intro G;have G:(eQ D (gY s).1 (gY s).2).2≠0:=(oP G);have e:kc D s=eQ D (gY s).1 (gY s).2:=iN G;rw[e] at J;exact J w4 F4 U ((u.fr.mono λb I=>by cases I).trans f4) λb I=>by rcases n4 b I with h|h;exact .inl h;exact .inr oJ
 have G:(eQ D (gY s).1 (gY s).2).2=0:=(oP G);have e:kc D s=gA (eQ D (gY s).1 (gY s).2).1:=iP G;rw[e] at J;refine qq1 U λw5 F5 d5 f5 n5=>?_;have g4:DS dbk w1 F1 w4 F4 (eQ D (gY s).1 (gY s).2).1 (k+1):=⟨U.at_,U.lim,(u.fr.mono (T:=F1) λb I=>by cases I).trans f4,λb I=>by rcases n4 b I with h|h;exact .inl h;exact .inr oJ⟩;have g5:=g4.trans ⟨d5.at_,d5.lim,f5,n5⟩;exact J w5 F5 d5 g5.fr g5.nw
def qnd{J:Sl}(h:DS dbk w FD w1 F1 D k)(u:k+cC.length<=1000000)(V:Hv w1)(hg:HG∉F1)(hn:Rd F1 w1 sn numbers)(hp:Rd F1 w1 J cC)(E:numbers.length<=100000)(G:cC.length<=100000)(I:∀x∈cC,ia x)(kk:∀w2 F2,DS dbk w FD w2 F2 (fJ D numbers cC).1 (k+cC.length)->Fr F1 w1 w2->(∀b∈F2,b∈F1\/w1.heap.size<=b)->K (fJ D numbers cC).2 w2): cW 142 [dS dbk,sn.v,J.v] dm w1 K:=by exact quC h.at_ h.lim u V hg hn hp E G I λF2 w2 d2 R U=>kk w2 F2 (h.trans ⟨d2,h.lim.spread u,R,U⟩) R U
def qjd(a:dV×Int)(f g:dV->dV×Int):andThen (andThen a f) g=andThen a λD=>andThen (f D) g:=by unfold andThen;by_cases h:a.2=0;rw[iP h,iP h];rw[iN h,iN h,iN h]
def Au(h:a.2≠0):andThen a f=a:=iN h
def A9(h:a.2=0):andThen a f=f a.1:=iP h
def quT{a b c:Int}(w:IK):(Instr.build 185 #[(0,.w 1),(1,.u a),(2,.u b),(3,.u c)]).run prog w=.ok (.agg (fv 1 ([a,b,c]++zs 24)).toArray) w:=by obtain⟨z,G,h⟩:=yT.1 ui;have E:z.cells=(fv 0 (zs 27)).toArray:=(by rw[<- h]);refine BC (parts:=[(0,.w 1),(1,.u a),(2,.u b),(3,.u c)]) (offs:=#[(0,1),(1,1),(2,1),(3,1),(4,24)]) G oK (λw=>oK) ?_ w;rw[E,sO (o:=0) (s:=1) rfl rfl (zO rfl),sO (o:=1) (s:=1) rfl rfl (zO rfl),sO (o:=2) (s:=1) rfl rfl (zO rfl),sO (o:=3) (s:=1) rfl rfl (zO rfl)];rfl
def quA(h:fl w dbk FD D)(hl:mn D k)(hk:k<=900000)(h8:2<=D.Q8.length)(hv:Hv w)(hg:HG∉FD)(E:∀w' F',DS dbk w FD w' F' (ma D).1 (k+5000)->K (ma D).2 w'): cW 107 [dS dbk] dm w K:=by
 refine qn2 ?_;have an:=hl.ok.Q8;have h0:=DS.refl h hl;have I:(zs 512).length=512:=qj _;have V:∀ {S0:IS} {w0 w':IK} {L:IW} {b:Nat} {T:IM},ef S0 w0 w' ((b,.c (List.replicate (512:Int).toNat (Value.int .u8 0)).toArray T)::L)->eN [] w' ⟨pW b,(512:Int).toNat,(512:Int).toNat⟩ (zs 512):=λho=>by
  have G:=ho.at (i:=0) rfl;rw[qsO] at G;have:=wK (S:=[]) (o:=0) (n:=512) (cap:=512) G (by rw[show (512:Int).toNat=512 from rfl,I];exact zM _) (zM _) oL;rw[xG,zS (by rw[show (512:Int).toNat=512 from rfl,I];exact zM _)] at this;exact this
 refine Bm λX hX=>Im rfl<|ef.GZ (oE [] w) oM oM oM oM λb1 w1 e1 aa=>Eo (h0.q8 aa.fr) oJ (V aa) (eX.zs 512) λw2 F2 d2 f2 n2=>?_;apply eB<;>intro u;have u:(eQ D 0 (zs 512)).2≠0:=(oP u);have e:ma D=eQ D 0 (zs 512):=Au u;rw[e] at E;exact E w2 F2 (d2.re oJ);have ap:(eQ D 0 (zs 512)).2=0:=(oP u);rw[ma,A9 ap] at E;have aq:=GX (D:=D) (n:=0) (l:=zs 512);generalize (eQ D 0 (zs 512)).1=D2 at d2 E aq;rw[gG (0+1) oM];refine hX _ _ (qp0 1 rfl λX hX=>?_);refine Im rfl<|ef.GZ (oE [] w2) oM oM oM oM λb3 w3 e3 ab=>Eo (d2.q8 ab.fr) oJ (V ab) (eX.zs 512) λw4 F4 d4 f4 n4=>?_;apply eB<;>intro u;have u:(eQ D2 1 (zs 512)).2≠0:=(oP u);rw[Au u] at E;exact E w4 F4 (d4.re oJ);have au:(eQ D2 1 (zs 512)).2=0:=(oP u);rw[A9 au] at E;have av:=GX (D:=D2) (n:=1) (l:=zs 512);generalize (eQ D2 1 (zs 512)).1=D4 at d4 E av;rw[gG (1+1) oM];refine hX _ _ (qp0 2 rfl λX hX=>?_);refine Io rfl<|qq1 d4 λw5 F5 d5 f5 n5=>?_;apply eB<;>intro u;have u:(gA D4).2≠0:=(oP u);rw[Au u] at E;exact E w5 F5 (d5.re oJ);have ay:(gA D4).2=0:=(oP u);rw[A9 ay] at E;have az:=qqr (D:=D4);generalize (gA D4).1=D5 at d5 E az;have aA:D5.Q8.length=D.Q8.length:=oJ;have al:=Ab D.Q8.length;obtain⟨aB,aC⟩:=d5.hv hv hg;refine jv (λx w'=>∃(i:Nat) (B:IS),x.2=((i+2:Nat):Int)/\i<=D.Q8.length-2/\lO w' x.1 ((fQ D.Q8.length).take i) B/\Fr [] w5 w'/\∀b∈B,w5.heap.size<=b) (λx _=>((D.Q8.length:Int)-x.2).toNat)
  ⟨0,[],rfl,oJ,.nil _ _ _,.refl _ _,oL⟩ ?_
 rintro⟨s,x⟩ w6 ⟨i,B,hx,hi,G,f6,n6⟩ Y hY;simp only at hx G;subst hx;have d6:=d5.q8 f6;refine Ff d6.at_ ?_;dsimp only;apply eB<;>intro u;have aE:i<D.Q8.length-2:=(by have:=zC u;omega);rw[pA ((i+2:Nat):Int) oJ];refine H5 G (by rw[yL];omega) λs7 B7 w7 b7 f7 n7=>?_;rw[gG _ oJ];refine hY _ _ ⟨i+1,B7,by simp;omega,oJ,?_,f6.J0 f7 λb G=>.inr (n6 b G),λb G=>?_⟩ oN;have e:(fQ D.Q8.length).take (i+1)=(fQ D.Q8.length).take i++[((i+2:Nat):Int)]:=by rw[yG oJ];congr 2;have h1:=qtB aE;have h2:=zA (l:=fQ D.Q8.length) (i:=i) oJ;rw[h2] at h1;rw[yO h1];simp
 rw[e];exact b7;rcases n7 b G with h|h;exact n6 b h;exact zL f6.size h;have aF:i=D.Q8.length-2:=(by have:=zB u;omega);subst aF;rw[zS oJ] at G;have aG:=G.len;rw[aG];refine qq3 oJ ?_;have ae:=Fc (n:=(fQ D.Q8.length).length);have af:∀b∈B,b∉F5:=λb G hm=>by have:=n6 b G;have:=d5.at_.lt b hm;omega
 have J:Rd F5 w6.drew s (fQ D.Q8.length):=(G.q8 (Fr.refl [] w6).drew).jQ rM af;refine eI.part (k:=1) J (eZ (fQ D.Q8.length).length) (fQ D.Q8.length).length rfl (by show (s.len:Int)=_;omega) ae (zM _) λsn a5 rn _=>eI.part (k:=1) J 0 (eZ (fQ D.Q8.length).length) rfl rfl oJ ae λsp a6 rp _=>?_;rw[vA] at rn;rw[xG] at rp;have aH:=d6.q8 (Fr.refl [] w6).drew;have aI:=(aB.q8 f6).q8 (Fr.refl [] w6).drew;rw[aA] at E;refine qnd aH (by rw[yL];omega) aI aC rn rp (by rw[yB];omega) (by rw[yL];omega) (λx hx=>by
  have:=Ai.1 (yV hx);constructor<;>omega) λw7 F7 R f7 n7=>?_
 have R:=R.re (k2:=k+2+4096) (by rw[yL];omega);apply eB<;>intro u;have u:(fJ D5 ((fQ D.Q8.length).drop (eZ (fQ D.Q8.length).length)) ((fQ D.Q8.length).take (eZ (fQ D.Q8.length).length))).2≠0:=(oP u);rw[Au u] at E;exact E w7 F7 (R.re oJ);have aJ:(fJ D5 ((fQ D.Q8.length).drop (eZ (fQ D.Q8.length).length)) ((fQ D.Q8.length).take (eZ (fQ D.Q8.length).length))).2=0:=(oP u);rw[A9 aJ] at E;have aK:=qtp (D:=D5) (a:=(fQ D.Q8.length).drop (eZ (fQ D.Q8.length).length)) (b:=(fQ D.Q8.length).take (eZ (fQ D.Q8.length).length));generalize (fJ D5 ((fQ D.Q8.length).drop (eZ (fQ D.Q8.length).length)) ((fQ D.Q8.length).take (eZ (fQ D.Q8.length).length))).1=D7 at R E aK;have aL:D7.Q8.length=D.Q8.length:=oJ;refine Ff R.at_ ?_;rw[aL] at E⊢;have U:wrap .i64 (((fQ D.Q8.length).length:Int)-(eZ (fQ D.Q8.length).length:Int))=((fQ D.Q8.length).length:Int)-(eZ (fQ D.Q8.length).length:Int):=gG _ oJ;rw[U];exact sh (ts:=[iF.lK]) (fv (k7 D.Q8.length).1 (k7 D.Q8.length).2) (quT w7)<|qq7 (s:=k7 D.Q8.length) R oJ (R.hv hv hg).1 rfl (by show (0:Int)<=1;decide) λw8 F8 d8 f8 n8=>E w8 F8 (d8.re oJ)
end
section
structure eH.Wf (M:eH):Prop where
 n4:M.J1.2.getD 0 0<=4096
 u32:∀ x∈M.J1.2,ia x
 Q4:∀ x∈M.Q4,ia x
 cZ:M.x5.Pairwise (· < ·)
 x5:∀ x∈M.x5,2<=x/\x<M.J1.2.getD 0 0
 dG:M.Q3.Pairwise (· < ·)
 rC:M.J9.Pairwise (· < ·)
 nodup:(M.Q3++(M.J9++(M.Q7++M.Q0.map (·.1)))).Nodup
 range:∀ x∈M.Q3++(M.J9++(M.Q7++M.Q0.map (·.1))),2<=x/\x<M.J1.2.getD 0 0
 body:∀ e∈M.Q0,(0<=e.2.1/\e.2.1<256)/\e.2.2.length<=500/\eX e.2.2
def qA0(u:l.Nodup)(h:∀x∈l,2<=x/\x<n)(E:n<=4096):l.length<=4096:=by rcases DP u h with h|h;omega;rw[h];simp
def eH.Wf.all(M:eH)(h:M.Wf):M.Q3.length+M.J9.length+M.Q7.length+M.Q0.length<=4096:=by
 have:=qA0 h.nodup h.range h.n4;simp only[zF,zK] at this;omega
section
variable {w:IK} {X:IS} {pb:Nat} {db:Option Addr} {F:IS} {M:eH}
def eI.uA{α:Type}{enc:α->List IL}{w:IK}{s:Sl}{l:List α}(h:eI enc k S w s l){hi:Int}(b:Nat){K:Sl->Prop}(E:hi=b)(hb:b<=l.length)(R:∀J,eI enc k S w J (l.take b)->K J):fM s none (some hi) (some hi) k K:=by
 subst E;obtain⟨h1,h2,G⟩:=h;unfold fM;refine⟨by simp;omega,R _ ?_⟩;simp only[xX,xW,Int.toNat_zero,zJ,Nat.zero_mul,Nat.sub_zero];have e:(if b=0 then s.a else s.a.map (·.add 0))=s.a:=by
  split;rfl;cases s.a with
  | none=>rfl
  | some a=>simp[FP]
 rw[e];refine⟨by rw[yL];dsimp only;omega,zM _,?_⟩;rcases G with G|⟨U,o,V,T,fr,ha,I,hS,hc⟩;left;rw[G];simp;refine .inr ⟨U,o,V,T,fr,ha,I,hS,λi x u=>?_⟩;rw[xB] at u;split at u;exact hc i x u;cases u
def eW.pE{w:IK}{X:IS}{pb:Nat}{db:Option Addr}{F:IS}{M:eH}(h:eW w X pb db F M):∀b∈X,b<w.heap.size:=by obtain⟨fb,defb,mb,sl,sn,E,F2,G,rfl,u⟩:=h;exact u.pE
def qxJ{K:Sl×Sl×Bool->WP}(h:eW w X pb db F M)(hW:M.Wf)(ap:jV M=none->∀w',Fr [] w w'->K (dT,dT,false) w')(hk:∀sp sn cC x5 w',jV M=some (cC,x5)->Fr [] w w'->(∀G:IS,(∀b∈G,b<w.heap.size)->Rd G w' sp cC/\Rd G w' sn x5)->K (sp,sn,true) w'): cW 113 [dS pb] dQ w K:=by
 have aE:=eH.Wf.all M hW;obtain⟨fb,defb,mb,sl,sn,F1,F2,fs,rfl,I⟩:=h;refine qjI<|fO (iv I.cell (pW fb) (Aj I.x4) ?_);refine qtx I.Q3 oJ λJ w1 t1 f1=>?_;obtain⟨B1,b1,n1⟩:=qsH t1;have af:Fr [] w w1.drew:=f1.drew;have R:=I.q8 af;refine fO (iv (w:=w1.drew) (c:=.ptr) R.cell (pW defb) (Ee I.x4) ?_);refine fO (iv (w:=w1.drew) (c:=.slice) R.cell sl (GJ I.x4) ?_);refine qtx R.J9 oJ λs2 w2 t2 f2=>?_;obtain⟨B2,b2,n2⟩:=qsH t2;have ag:=af.trans f2;have ah:=I.q8 ag;refine iS (by show _=_;rw[jC ah.cell];exact GJ I.x4)<|DI b2 ah.rows.Q7 oJ λs3 B3 w3 b3 f3 n3=>?_;have U:∀b∈B1,b<w1.drew.heap.size:=λb u=>(b1.q8 (Fr.refl [] w1).drew).lt b u;have av:=(b1.q8 (Fr.refl [] w1).drew).q8 f2;have V:lO w3 J M.Q3 B1:=av.j1 f3 (λb u E=>by have:=U b u;have:=n2 b E;omega);have aW:w.heap.size<=w1.heap.size:=f1.size;have aX:=f2.size;have aY:w1.drew.heap.size=w1.heap.size:=rfl;have aa:∀b∈B3,w1.drew.heap.size<=b:=λb u=>by rcases n3 b u with h|h;exact n2 b h;omega
 have ai:Fr [] w w3:=ag.J0 f3 λb u=>.inr (by have:=n2 b u;omega);have l1:=V.len;have l3:=b3.len;rw[zF] at l3;rw[gG _ oJ];have e:(J.len:Int)+(s3.len:Int)=((M.Q3.length+(M.J9++M.Q7).length:Nat):Int):=(by rw[zF];omega);rw[e];refine qq3 (by rw[zF];omega) ?_;generalize aj:eZ (M.Q3.length+(M.J9++M.Q7).length)=k;apply cD<;>intro hc;have:=hc;exact ap (by rw[jV,aj,iP]) w3 ai;have ak:k<=M.Q3.length:=oJ;have ab:jV M=some (M.Q3.take k,gW ((M.J9++M.Q7)++M.Q3.drop k)):=(by rw[jV,aj,iN]);have ac:Rd [] w3 J M.Q3:=V.jQ rM oL;refine eI.part (k:=1) ac k M.Q3.length rfl (by show (J.len:Int)=_;omega) ak (zM _) λs4 a0 r4 _=>?_;rw[vA] at r4;refine DI b3 r4 (by rw[zF,yB];omega) λs5 B5 w5 b5 f5 n5=>?_;have ad:∀b∈B5,w1.drew.heap.size<=b/\b∉B1:=λb u=>by
  have hh:w1.drew.heap.size<=b:=by
   rcases n5 b u with h|h;exact aa b h;have:=f3.size;omega
  exact⟨hh,λE=>by have:=U b E;omega⟩
 have ax:lO w5 J M.Q3 B1:=V.j1 f5 (λb u E=>by have:=U b u;have:=aa b E;omega);refine qre b5 (by rw[zF,zF,yB];omega) λl6 w6 b6 p6 o6 f6=>?_;have ay:lO w6 J M.Q3 B1:=ax.j1 f6 λb u E=>(ad b E).2 u;have az:((M.J9++M.Q7)++M.Q3.drop k).Nodup:=by
  have h:=hW.nodup;have hp:(M.Q3++(M.J9++(M.Q7++M.Q0.map (·.1)))).Perm (((M.J9++M.Q7)++M.Q3)++M.Q0.map (·.1)):=by rw[<- zV M.J9,<- zV M.Q3];exact perm_append_comm.append_right _
  have h2:=(hp.nodup_iff.1 h).sublist (sublist_append_left _ _);exact h2.sublist ((List.Sublist.refl _).append (drop_sublist _ _))
 have aA:l6=gW ((M.J9++M.Q7)++M.Q3.drop k):=FE p6 o6 az;rw[aA] at b6;have aB:Fr [] w w6:=(ai.J0 f5 λb u=>.inr (by have:=aa b u;omega)).J0 f6 λb u=>.inr (by have:=(ad b u).1;omega);have am:∀G:IS,(∀b∈G,b<w.heap.size)->Rd G w6 J M.Q3/\Rd G w6 s5 (gW ((M.J9++M.Q7)++M.Q3.drop k)):=λG hG=>
  ⟨ay.jQ rM λb u E=>by have:=hG b E;have:=n1 b u;omega,b6.jQ rM λb u E=>by have:=hG b E;have:=(ad b u).1;omega⟩
 exact eI.uA (am (List.range w.heap.size) oL).1 k rfl ak λs7 r7=>hk s7 s5 _ _ w6 ab aB λG hG=>⟨r7.j8 λb u=>.inl (mem_range.2 (hG b u)),(am G hG).2⟩
end
def qr0{E:List (Int×lG)}{K:Int×Sl->Prop}(h:lh jL w mb (E.map λe=>(e.1,lS e.2)))(I:∀q,look n E=some q->K (q.2.1,q.2.2.1))(J:look n E≠none): fG [iF.agg [Cell.int .u8,Cell.slice]] (λw'=>(Instr.lookup Cx (.map (some mb)) (.u n) false).run prog w') w K:=by
 have:=CY (P:=prog) AU qAy vu h n;rw[ye,wI] at this;cases G:look n E with
 | none=>exact absurd G J
 | some q=>
  rw[G] at this;exact sh (ts:=[iF.agg [Cell.int .u8,Cell.slice]]) (q.2.1,q.2.2.1) this (I q G)
def qvV{sp:Sl}(h:DS dbk w FD w1 F1 D k)(hp:eW w1 F1 pb (pW dbk) F M)(ag:∀e∈M.Q0,(0<=e.2.1/\e.2.1<256)/\e.2.2.length<=500/\eX e.2.2)(aG:(M.Q0.map (·.1)).Nodup)(aH:∀x∈M.Q0.map (·.1),ia x)(aI:M.Q0.length<=100000)(bk:k+M.Q0.length+cC.length+1<=1000000)(hv:Hv w1)(hg:HG∉F1)(hn:Rd F1 w1 sn x5)(aK:Rd F1 w1 sp cC)(aL:x5.length<=100000)(aM:cC.length<=100000)(aN:∀x∈cC,ia x)(hs:next.2.length=27)(hq:0<=next.1)(kk:∀w2 F2,DS dbk w FD w2 F2 (ib D M.Q0 cC x5 next).1 (k+M.Q0.length+cC.length+1)->Fr F1 w1 w2->(∀b∈F2,b∈F1\/w1.heap.size<=b)->K (ib D M.Q0 cC x5 next).2 w2): cW 114 [dS pb,sp.v,sn.v,.agg (fv next.1 next.2).toArray] dm w1 K:=by
 refine qiQ<|oB (oE [] w1) λr w2 e2 f2 ho=>qvW (hp.q8 f2) aI λs3 B3 E w3 b3 p3 o3 f3 n3=>?_;have aQ:E=gW (M.Q0.map (·.1)):=FE p3 o3 aG;have aR:E.length=M.Q0.length:=(by have:=p3.length_eq;rw[zK] at this;exact this);have ah:∀x∈E,x∈M.Q0.map (·.1):=λx V=>p3.mem_iff.1 V;have G:Fr [] w1 w3:=f2.trans f3;have hW:lg M.Q0=E.map λn=>(n,eU n (kJ M.Q0 n).1 (kJ M.Q0 n).2):=(by rw[lg,<- aQ]);have aT:=ho.q8 f3;have bt:=b3.len;have bc:=f2.size;have ay:∀b∈F1,b<w1.heap.size:=h.at_.lt;have r3:Rd F1 w3 s3 E:=b3.jQ rM λb hb hm=>by have:=n3 b hb;have:=ay b hm;omega
 have ae:w3.heap[r]?=some (.c (fv next.1 next.2).toArray 185):=aT.at (i:=0) rfl;have hr:r∉F1:=λhm=>by have:=ay r hm;omega
 rw[ib,hW] at kk;refine jv (λx w'=>∃(i:Nat) (F':IS) (D':dV),x=i/\i<=E.length/\DS dbk w3 F1 w' F' D' (k+i)/\
   andThen (fU (E.map λn=>(n,eU n (kJ M.Q0 n).1 (kJ M.Q0 n).2)) D) (λD=>andThen (fJ D x5 cC) λD=>kc D next) =
    andThen (fU ((E.drop i).map λn=>(n,eU n (kJ M.Q0 n).1 (kJ M.Q0 n).2)) D') λD=>andThen (fJ D x5 cC) λD=>kc D next) (λx _=>((E.length:Int)-x).toNat)
  ⟨0,F1,D,rfl,oJ,DS.refl (h.at_.q8 G) h.lim,rfl⟩ ?_
 rintro x w4 ⟨i,F',D',rfl,hi,d4,he⟩ Y hY;have ak:eW w4 F' pb (pW dbk) F M:=(hp.q8 G).pS d4.fr d4.at_.lt d4.nw;have al:=d4.hv (hv.q8 G) hg;have J:∀ {I:IK} {F5:IS} {D5:dV} {k5:Nat},DS dbk w3 F1 I F5 D5 k5->DS dbk w FD I F5 D5 k5/\Fr F1 w1 I/\∀b∈F5,b∈F1\/w1.heap.size<=b:=λd5=>by have g:DS dbk w1 F1 _ _ _ _:=(DS.refl h.at_ h.lim).q8 G |>.trans d5;exact⟨h.trans g,g.fr,g.nw⟩
 apply eB<;>intro u;have an:i<E.length:=(by have:=zC u;omega);refine Rd.at (d4.rd r3) i rfl (zA an) ?_;have ao:=ah _ (zW an);have aU:=aH _ ao;have R:E.drop i=E[i]::E.drop (i+1):=zX an;generalize E[i]=x at ao aU R;obtain⟨fb,defb,mb,sl,sm,G1,G2,fs,rfl,V⟩:=ak;have U:=V.q8 (Fr.refl [] w4).drew;have ab:=V.cX x;have az:look x fs≠none:=λhn=>by rw[hn] at ab;exact ve.1 ab ao
 refine fO (iv (w:=w4.drew) (c:=.map) U.cell (some mb) (tN V.x4) ?_);refine qr0 U.map.at (λq ap=>?_) az;refine fO (iv (w:=w4.drew) (c:=.map) U.cell (some mb) (tN V.x4) ?_);refine qr0 U.map.at (λq' aA=>?_) az;rw[ap] at aA;cases aA;rw[ap] at ab;have aW:kJ M.Q0 x=(q.2.1,q.2.2.2):=(by rw[kJ,ab];rfl);have hm:=(tX ap).2;have af:=U.rows.cM _ hm;have ac:=ag (x,q.2.1,q.2.2.2) (by rw[V.Q0];exact mem_map.2 ⟨_,hm,rfl⟩);dsimp only at af ac;refine H8 af (al.1.q8 (Fr.refl [] w4).drew) oJ (λh=>oJ) λ_ b5 T5 I c5 f5 n5=>?_;have aB:Fr [] w4 I:=(Fr.refl [] w4).drew.trans f5;have aq:=V.q8 aB;refine fO (iv aq.cell (pW dbk) Eh ?_);rw[gG x oJ];have aC:=xw (number:=x) (kind:=q.2.1) ac.2.1;have aY:eN [] I ⟨pW b5,512,512⟩ (eU x q.2.1 q.2.2.2):=by
  have:=wK (S:=[]) (o:=0) (n:=512) (cap:=512) c5 (by rw[aC];exact zM _) (zM _) oL;rw[xG,zS (Nat.le_of_eq aC)] at this;exact this
 rw[R,xP,aW] at he;refine Eo (d4.q8 aB) oJ aY (Ey ac.1 ac.2.2) λw6 F6 d6 f6 n6=>?_;apply eB<;>intro u;have u:(eQ D' x (eU x q.2.1 q.2.2.2)).2≠0:=(oP u);rw[fU,qjd,Au u] at he;rw[he] at kk;have a6:=J d6;exact kk w6 F6 (a6.1.re oJ) a6.2.1 a6.2.2;have u:(eQ D' x (eU x q.2.1 q.2.2.2)).2=0:=(oP u);rw[fU,qjd,A9 u] at he;rw[gG _ oJ];exact hY _ _ ⟨i+1,F6,_,oL,oJ,d6,he⟩ oJ
 ·have:i=E.length:=(by have:=zB u;omega);subst this;rw[drop_length,map_nil,fU,andThen_ok] at he;rw[he] at kk;obtain⟨fb,defb,mb,sl,sm,G1,G2,fs,hF,V⟩:=id ak;refine fO (iv V.cell (pW dbk) Eh ?_);have a0:=d4.rd (hn.q8 G);have aD:=d4.rd (aK.q8 G);refine qnd d4 oJ al.1 al.2 a0 aD aL aM aN λI F5 d5 f5 n5=>?_;apply eB<;>intro u;have u:(fJ D' x5 cC).2≠0:=(oP u);rw[Au u] at kk;have a5:=J d5;exact kk I F5 (a5.1.re oJ) a5.2.1 a5.2.2
  ·have u:(fJ D' x5 cC).2=0:=(oP u);rw[A9 u] at kk;have a2:eW I F5 pb (pW dbk) F M:=ak.pS f5 d5.at_.lt n5;obtain⟨fb,defb,mb,sl,sm,G1,G2,fs,hF,aq⟩:=id a2;have a3:=aq.q8 (Fr.refl [] I).drew;refine fO (iv (w:=I.drew) (c:=.ptr) a3.cell (pW dbk) Eh ?_);have au:I.drew.heap[r]?=some (.c (fv next.1 next.2).toArray 185):=(by show I.heap[r]?=_;rw[d5.fr.block r (eO ae) hr];exact ae);refine vq au hs<|qq7 (d5.q8 (Fr.refl [] I).drew) oJ ((d5.hv (hv.q8 G) hg).1.q8 (Fr.refl [] I).drew) hs hq λw6 F6 d6 f6 n6=>?_;have a6:=J d6;exact kk w6 F6 (a6.1.re oJ) a6.2.1 a6.2.2
end
def vi (D:dV):Prop:=∀x∈D.Q9,0<=x.1/\x.1<D.Q8.length
def qpq(h:(iA D).2=false)(u:D.down=false):(iA D).1.down=false:=by unfold iA at h⊢;split;rename_i E;rw[iP E] at h;cases h;split<;>exact u
def qmq(V:vi D)(h:(eQ D n l).2=0): (eQ D n l).1.down=false/\vi (eQ D n l).1/\(0<=n/\n<D.size)/\∀m,view (eQ D n l).1 m=if m=n then l else view D m:=by
 unfold eQ at h⊢;split;rename_i I;rw[iP I] at h;cases h;rename_i I;rw[iN I] at h;split;rename_i R;rw[iP R] at h;cases h;rename_i R;rw[iN R] at h;split;rename_i u;rw[dif_pos u] at h;have G:(iA (me D n ⟨l,u⟩)).2=false:=by
  cases hb:(iA (me D n ⟨l,u⟩)).2 with
  | false=>rfl
  | true=>simp only[hb,if_true] at h;cases h
 have J:=AR (me D n ⟨l,u⟩);have U:0<=n/\n<(D.Q8.length:Int):=oJ;refine⟨qpq G (show D.down=false by simpa using I),λx E=>?_,U,λm=>?_⟩;show 0<=x.1/\x.1<((iA (me D n ⟨l,u⟩)).1.Q8.length:Int);rw[J.1];have E:x∈(iA (me D n ⟨l,u⟩)).1.Q9:=E;rw[J.2] at E;rcases zD.1 E with E|E;exact V x E;simp at E;subst E;exact U;show view (iA (me D n ⟨l,u⟩)).1 m=_;rw[view,J.1,J.2,me];dsimp only;rw[Fk];by_cases hm:m=n;rw[iP hm,iP hm.symm];rw[iN hm,iN λe=>hm e.symm,view];rename_i u;rw[dif_neg u] at h;cases h
def qop(I:vi D)(h:(gA D).2=0):(gA D).1.down=false/\(gA D).1.Q9=[]/\∀m,0<=m->view (gA D).1 m=view D m:=by unfold gA at h⊢;split;rename_i E;rw[iP E] at h;cases h;rename_i E;rw[iN E] at h;split;rename_i G;rw[iP G] at h;cases h;rename_i G;have u:(iA D).2=false:=(oP G);refine⟨qpq u (oP E),rfl,λm J=>?_⟩;obtain⟨k,rfl⟩:∃k:Nat,m=k:=⟨m.toNat,oJ⟩;show ((D.Q9.foldl gB D.Q8).getD (k:Int).toNat .zero).1=_;rw[zJ,Fs k _ _ I,view,zJ];cases jc (k:Int) D.Q9<;>rfl
def qtG(h:D.Q9=[]):vi D:=λx u=>by rw[h] at u;cases u
def CA(h:(andThen r f).2=0):r.2=0/\(f r.1).2=0/\andThen r f=f r.1:=by unfold andThen at h⊢;by_cases h0:r.2=0;rw[iP h0] at h⊢;exact⟨h0,h,rfl⟩;rw[iN h0] at h;exact absurd h h0
def GM:∀ {l:List (I7)} {D:dV},vi D->D.down=false->(fU l D).2=0->(l.map (·.1)).Nodup-> (fU l D).1.down=false/\vi (fU l D).1/\(∀x∈l,view (fU l D).1 x.1=x.2)/\∀m,m∉l.map (·.1)->view (fU l D).1 m=view D m
 | [],D,E,J,_,_=>⟨J,E,(λx u=>by cases u),λm _=>rfl⟩
 | y::l,D,E,J,h,G=>by obtain⟨U,V,h3⟩:=CA (show (andThen (eQ D y.1 y.2) (fU l)).2=0 from h);obtain⟨d1,a1,_,R⟩:=qmq E U;rw[xP,nodup_cons] at G;obtain⟨d2,a2,v2,u2⟩:=GM (l:=l) a1 d1 V G.2;rw[show fU (y::l) D=fU l (eQ D y.1 y.2).1 from h3];refine⟨d2,a2,λx u=>?_,λm I=>?_⟩;rcases zG.1 u with rfl|u;rw[u2 _ G.1,R,iP rfl];exact v2 x u;rw[xP,zG,not_or] at I;rw[u2 m I.2,R,iN I.1]
def qsB(V:vi D)(hd:D.down=false)(E:mc n numbers cC)(h:(fJ D numbers cC).2=0): (fJ D numbers cC).1.down=false/\(fJ D numbers cC).1.Q9=[]/\p4 (fJ D numbers cC).1 numbers cC/\∀m,0<=m->m∉cC->view (fJ D numbers cC).1 m=view D m:=by have J:((cC.zip (gN numbers cC cC.length)).map λx=>(x.1,eU x.1 2 x.2)).map (·.1)=cC:=(by rw[map_map];exact E9 (by rw[G7]));have e:fJ D numbers cC=andThen (fU ((cC.zip (gN numbers cC cC.length)).map λx=>(x.1,eU x.1 2 x.2)) D) gA:=(by rw[fJ,E.cM];exact iN oL);rw[e] at h;obtain⟨h1,h2,h3⟩:=CA h;obtain⟨d1,a1,v1,R⟩:=GM V hd h1 (by rw[J];exact E.nodup);rw[J] at R;obtain⟨d2,w2,U⟩:=qop a1 h2;rw[e,h3];refine⟨d2,w2,λi p G=>?_,λm hm I=>by rw[U m hm,R m I]⟩;have hi:=(zP.1 G).1;have u:(p,eU p 2 (jl (cC.getD (i+1) 0) (chunk numbers i)))∈(cC.zip (gN numbers cC cC.length)).map λx=>(x.1,eU x.1 2 x.2):=(by refine mem_map.2 ⟨(p,jl (cC.getD (i+1) 0) (chunk numbers i)),?_,rfl⟩;refine yF (i:=i) ?_;rw[List.getElem?_zip_eq_some];exact⟨G,by rw[Fg,iP hi]⟩);have aj:=E.sE _ (yF G);rw[U p oJ];exact v1 _ u
def qvJ(J:vi D)(R:lA s)(h:(kc D s).2=0): (kc D s).1.down=false/\(kc D s).1.Q9=[]/\view (kc D s).1 (s.1%2)=eU (s.1%2) 1 (gQ s.1 s.2)/\∀m,0<=m->m≠s.1%2->view (kc D s).1 m=view D m:=by obtain⟨U,V,h3⟩:=CA (show (andThen (eQ D (gY s).1 (gY s).2) gA).2=0 from h);obtain⟨d1,a1,_,u⟩:=qmq J U;obtain⟨I,w2,E⟩:=qop a1 V;rw[show kc D s=gA (eQ D (gY s).1 (gY s).2).1 from h3];rw[R.gY] at u E I w2⊢;refine⟨I,w2,by rw[E _ oJ,u,iP rfl],λm hm G=>by rw[E m hm,u,iN G]⟩
def Ec(h:jV M=some (cC,x5)): ∃k,k=eZ (M.Q3.length+(M.J9++M.Q7).length)/\k<=M.Q3.length/\cC=M.Q3.take k/\x5=gW ((M.J9++M.Q7)++M.Q3.drop k):=by unfold jV at h;split at h;cases h;rename_i E;have u:=yO h;exact⟨_,rfl,oJ,(IH Prod.fst u).symm,(IH Prod.snd u).symm⟩
def eH.Wf.qx(h:M.Wf)(k:Nat):(M.Q3.take k++((M.J9++M.Q7)++M.Q3.drop k)).Nodup:=by
 have u:(M.Q3++(M.J9++(M.Q7++M.Q0.map (·.1)))).Perm ((M.Q3.take k++((M.J9++M.Q7)++M.Q3.drop k))++M.Q0.map (·.1)):=by
  conv=>lhs;lhs;rw[<- xF k M.Q3]
  rw[<- zV M.J9];have:(M.Q3.drop k++((M.J9++M.Q7)++M.Q0.map (·.1))).Perm (((M.J9++M.Q7)++M.Q3.drop k)++M.Q0.map (·.1)):=by rw[<- zV];exact perm_append_comm.append_right _
  rw[zV,zV (M.Q3.take k)];exact this.append_left _
 exact (u.nodup_iff.1 h.nodup).sublist (sublist_append_left _ _)
def Ev(G:M.Wf)(h:jV M=some (cC,x5)):mc (M.J1.2.getD 0 0) x5 cC:=by obtain⟨k,J,I,rfl,rfl⟩:=Ec h;have E:=G.qx k;rw[yM] at E;have R:∀x∈(M.J9++M.Q7)++M.Q3.drop k,2<=x/\x<M.J1.2.getD 0 0:=λx u=>G.range x (by simp only[zD] at u⊢;rcases u with (u|u)|u;exact .inr (.inl u);exact .inr (.inr (.inl u));exact .inl (yU u));refine⟨CB _,λx u=>R x (xf.1 u),λx u=>G.range x (zH _ (yV u)),E.1,λx u U=>E.2.2 x u x (xf.1 U) rfl,?_⟩;have V:=(EJ E.2.1).length_eq;have h2:=Hu (n:=M.Q3.length+(M.J9++M.Q7).length);rw[<- J] at h2;rw[V,zF,yB,yL,xS I];omega
def qn6(U:M.Wf)(h:jV M=some (cC,x5)):∀x∈M.Q0.map (·.1),x∉cC/\x∉x5:=by obtain⟨k,hk,V,rfl,rfl⟩:=Ec h;intro x G;have E:=U.nodup;rw[yM] at E;have I:=E.2.1;rw[yM] at I;have J:=I.2.1;rw[yM] at J;have R:x∉M.Q3:=λu=>E.2.2 x u x (zI _ (zI _ G)) rfl;have a2:x∉M.J9:=λu=>I.2.2 x u x (zI _ G) rfl;have a3:x∉M.Q7:=λu=>J.2.2 x u x G rfl;refine⟨λu=>R (yV u),λu=>?_⟩;have u:=xf.1 u;simp only[zD] at u;rcases u with (u|u)|u;exact a2 u;exact a3 u;exact R (yU u)
def GG(Q0:List (I8)):(lg Q0).map (·.1)=gW (Q0.map (·.1)):=by rw[lg,map_map];exact map_id _
def D6{β:Type}:∀ {l:List (Int×β)} {e:Int×β},(l.map (·.1)).Nodup->e∈l->∃i,look e.1 l=some (i,e.2)
 | p::r,e,E,u=>by rw[xP,nodup_cons] at E;simp only[look];rcases zG.1 u with rfl|u;exact⟨0,by rw[iP rfl]⟩;have G:e.1≠p.1:=λh=>E.1 (h▸zY u);obtain⟨i,I⟩:=D6 E.2 u;exact⟨i+1,by rw[iN G,I];rfl⟩
def qu6{Q0:List (I8)}(u:(Q0.map (·.1)).Nodup){e:I8}(h:e∈Q0):(e.1,eU e.1 e.2.1 e.2.2)∈lg Q0:=by refine mem_map.2 ⟨e.1,xf.2 (zY h),?_⟩;obtain⟨i,E⟩:=D6 u h;rw[kJ,E]
structure vn (D D':dV) (M:eH) (cC x5:IT) (next:oV):Prop where
 down:D'.down=false
 Q9:D'.Q9=[]
 listed:p4 D' x5 cC
 Ib:view D' (next.1%2)=eU (next.1%2) 1 (gQ next.1 next.2)
 Q0:∀ e∈M.Q0,view D' e.1=eU e.1 e.2.1 e.2.2
 rest:∀ m,0<=m->m∉M.Q0.map (·.1)->m∉cC->m≠next.1%2->view D' m=view D m
def eH.Wf.cN(h:M.Wf):(M.Q0.map (·.1)).Nodup:=h.nodup.sublist (((sublist_append_right _ _).trans (sublist_append_right _ _)).trans (sublist_append_right _ _))
def eH.Wf.J8(h:M.Wf):∀x∈M.Q0.map (·.1),2<=x/\x<M.J1.2.getD 0 0:=λx u=>h.range x (zI _ (zI _ (zI _ u)))
def qs7(ha:vi D)(hd:D.down=false)(I:M.Wf)(u:jV M=some (cC,x5))(hs:lA next)(h:(ib D M.Q0 cC x5 next).2=0): vn D (ib D M.Q0 cC x5 next).1 M cC x5 next:=by
 obtain⟨h1,h2,h3⟩:=CA (show (andThen (fU (lg M.Q0) D) λD=>andThen (fJ D x5 cC) λD=>kc D next).2=0 from h);obtain⟨h4,h5,h6⟩:=CA h2;have J:((lg M.Q0).map (·.1)).Nodup:=(by rw[GG];exact xk (CB _));obtain⟨d1,a1,v1,u1⟩:=GM ha hd h1 J;have E:=Ev I u;obtain⟨d2,w2,l2,V⟩:=qsB a1 d1 E h4;obtain⟨d3,w3,p3,R⟩:=qvJ (qtG w2) hs h5;have e:ib D M.Q0 cC x5 next=kc (fJ (fU (lg M.Q0) D).1 x5 cC).1 next:=h3.trans h6;rw[e];have av:next.1%2=0\/next.1%2=1:=by omega
 refine⟨d3,w3,λi p hp=>?_,p3,λx U=>?_,λm hm h7 h8 h9=>?_⟩;have:=E.sE p (yF hp);rw[R p oJ oJ];exact l2 i p hp;have hk:=I.J8 x.1 (zY U);have hf:=qn6 I u x.1 (zY U);rw[R _ oJ oJ,V _ oJ hf.1];exact v1 _ (qu6 I.cN U);rw[R m hm h9,V m hm h8];refine u1 m λG=>h7 ?_;rw[GG] at G;exact xf.1 G
def fk.vj(h:fk D)(G:M.Wf)(V:M.J1.2.getD 0 0=D.size)(h8:8<=D.size)(u:jV M=some (cC,x5))(hs:lA next): (ib D M.Q0 cC x5 next).2=0/\fk (ib D M.Q0 cC x5 next).1/\(ib D M.Q0 cC x5 next).1.size=D.size:=by
 have J:((lg M.Q0).map (·.1)).Nodup:=(by rw[GG];exact xk (CB _));obtain⟨D1,e1,q1,s1,_⟩:=h.writes (l:=lg M.Q0) (λx hx=>by obtain⟨n,I,rfl⟩:=mem_map.1 hx;have I:=xf.1 I;have hk:=G.J8 n I;refine⟨by dsimp only;omega,xw ?_⟩;obtain⟨e,R,rfl⟩:=mem_map.1 I;obtain⟨i,hi⟩:=D6 G.cN R;rw[kJ,hi];exact (G.body e R).2.1) J;have E:=Ev G u;rw[V,<- s1] at E;obtain⟨D2,e2,q2,s2,_⟩:=q1.spread E;obtain⟨U,e3,q3,s3,_⟩:=q2.uG hs oJ;have:ib D M.Q0 cC x5 next=(U,0):=by rw[ib,e1,andThen_ok,e2,andThen_ok,e3]
 rw[this];exact⟨rfl,q3,by show U.size=D.size;omega⟩
def eH.all (M:eH):IT:=M.Q3++(M.J9++(M.Q7++M.Q0.map (·.1)))
def FH{t:Int}{ov:Bool}(h:mc (s.2.getD 0 0) numbers cC)(G:s.2.getD 0 0<=4096)(E:∀x∈s.2,ia x):(iR s cC numbers t ov numbers).Wf where
 n4:=G
 u32:=E
 Q4:=λx u=>E x (yU u)
 cZ:=h.dI
 x5:=h.om
 dG:=h.dI
 rC:=.nil
 nodup:=by show (numbers++([]++(cC++[]))).Nodup;rw[xJ,xI,yM];exact⟨xk h.dI,h.nodup,λx u y I e=>h.J5 y I (e▸u)⟩
 range:=λx u=>by have u:x∈numbers++([]++(cC++[])):=u;rw[xJ,xI,zD] at u;rcases u with u|u;exact h.om x u;exact h.sE x u
 body:=λe J=>by cases J
def qzR:uE.Wf:=by
 have u:∀x∈gU.2,ia x:=λx h=>by
  have:=eq_of_mem_replicate (show x∈List.replicate 27 (0:Int) from h);subst this;exact⟨oM,oM⟩
 exact FH (s:=gU) (cC:=[]) (numbers:=[]) ⟨.nil,(λx h=>by cases h),(λx h=>by cases h),.nil,(λx h=>by cases h),oM⟩ oM u
def qsx{β:Type}{v:β}{l:List (Int×β)}(h:n∉l.map (·.1)):ir n v l=l++[(n,v)]:=by rw[ir,ve.2 h]
def qqp{β:Type}{v:β}{l:List (Int×β)}(h:n∈l.map (·.1)):(ir n v l).map (·.1)=l.map (·.1):=by
 unfold ir;cases E:look n l with
 | none=>exact absurd h (ve.1 E)
 | some q=>
  dsimp only;rw[map_set];apply ext_getElem?;intro j;rw[List.getElem?_set];by_cases hj:q.1=j;subst hj;have G:=(tX E).1;obtain⟨u,I⟩:=zP.1 G;simp[u,I];rw[iN hj]
def qpD{β:Type}{l:List (Int×β)}(h:n∈l.map (·.1)):(l.map (·.1)).Perm (n::(jN n l).map (·.1)):=by
 unfold jN;cases G:look n l with
 | none=>exact absurd h (ve.1 G)
 | some q=>
  dsimp only;have I:=(tX G).1;obtain⟨u,J⟩:=zP.1 I;rw[vW];have R:(l.map (·.1))[q.1]'(oP u)=n:=(by simp[J]);have E:q.1<(l.map (·.1)).length:=(oP u);have U:l.map (·.1)=(l.map (·.1)).take q.1++n::(l.map (·.1)).drop (q.1+1):=by rw[<- R,<- zX E,xF]
  rw[eraseIdx_eq_take_drop_succ];conv=>lhs;rw[U]
  exact perm_middle
def xj:gI M n=true↔(2<=n/\n<M.J1.2.getD 0 0)/\n∉M.all:=by unfold gI eH.all;simp only[yA,zT,ID,IE,Option.isNone_iff_eq_none,ve,zD,not_or];constructor;rintro⟨⟨⟨⟨⟨I,J⟩,h⟩,u⟩,E⟩,G⟩;exact⟨⟨oJ,oJ⟩,u,E,h,G⟩;rintro⟨⟨I,J⟩,h,u,E,G⟩;exact⟨⟨⟨⟨⟨oJ,oJ⟩,E⟩,h⟩,u⟩,G⟩
def qwV{r:IT}{v:I7}(u:M.Q3=n::r)(G:M.Wf):(r++(M.J9++(M.Q7++(ir n v M.Q0).map (·.1)))).Perm M.all:=by
 have h:n∉M.Q0.map (·.1):=λI=>by have E:=G.nodup;rw[u,xK,nodup_cons] at E;exact E.1 (zI _ (zI _ (zI _ I)))
 rw[qsx h,xO,eH.all,u];show (r++(M.J9++(M.Q7++(M.Q0.map (·.1)++[n])))).Perm (n::(r++(M.J9++(M.Q7++M.Q0.map (·.1)))));rw[<- zV M.Q7,<- zV M.J9,<- zV r];exact Iq n _
def Gx{M':eH}(h:M.Wf)(u:M'.J1=M.J1)(E:M'.x5=M.x5)(I:∀x∈M'.Q4,ia x)(G:M'.all.Perm M.all)(J:M'.Q3.Pairwise (· < ·))(R:M'.J9.Pairwise (· < ·))(U:∀e∈M'.Q0,(0<=e.2.1/\e.2.1<256)/\e.2.2.length<=500/\eX e.2.2):M'.Wf where
 n4:=by rw[u];exact h.n4
 u32:=by rw[u];exact h.u32
 Q4:=I
 cZ:=by rw[E];exact h.cZ
 x5:=by rw[E,u];exact h.x5
 dG:=J
 rC:=R
 nodup:=G.nodup_iff.2 h.nodup
 range:=λx V=>by rw[u];exact h.range x (G.mem_iff.1 V)
 body:=U
def qt7{kind:Int}(u:M.Wf)(I:0<=kind/\kind<256)(J:eX body):(gF M kind body).2.Wf/\(gF M kind body).2.all.Perm M.all:=by
 unfold gF;split;exact⟨u,.refl _⟩;split;exact⟨u,.refl _⟩;rename_i U;split;exact⟨u,.refl _⟩;rename_i n r E;have G:=qwV (v:=(kind,body)) E u;refine⟨Gx u rfl rfl u.Q4 G ?_ u.rC λe R=>?_,G⟩;have:=u.dG;rw[E,yJ] at this;exact this.2;rcases Dz R with h|h;exact u.body e h;rw[h];exact⟨I,by show body.length<=500;omega,J⟩
def qxa{kind:Int}(u:M.Wf)(G:0<=kind/\kind<256)(I:eX body):(jJ M n kind body).2.Wf/\(jJ M n kind body).2.all.Perm M.all:=by
 unfold jJ;split;exact⟨u,.refl _⟩;split;exact⟨u,.refl _⟩;rename_i q J;split;exact⟨u,.refl _⟩;rename_i V;have R:n∈M.Q0.map (·.1):=mem_map.2 ⟨_,(tX J).2,rfl⟩;have E:({ M with Q0:=ir n (kind,body) M.Q0 }:eH).all=M.all:=by show M.Q3++(M.J9++(M.Q7++(ir n (kind,body) M.Q0).map (·.1)))=_;rw[qqp R];rfl
 refine⟨Gx u rfl rfl u.Q4 (by rw[E]) u.dG u.rC λe U=>?_,by rw[E]⟩;rcases Dz U with h|h;exact u.body e h;rw[h];exact⟨G,by show body.length<=500;omega,I⟩
def qtO(u:M.Wf):(fK M n).2.Wf:=by
 unfold fK;split;exact u;split;rename_i q R;have U:n∈M.Q0.map (·.1):=mem_map.2 ⟨_,(tX R).2,rfl⟩;have V:=u.nodup;have I:n∉M.Q3:=λh=>by rw[yM] at V;exact V.2.2 n h n (zI _ (zI _ U)) rfl
 have G:({ M with Q0:=jN n M.Q0,Q3:=ins n M.Q3 }:eH).all.Perm M.all:=by
  show (ins n M.Q3++(M.J9++(M.Q7++(jN n M.Q0).map (·.1)))).Perm (M.Q3++(M.J9++(M.Q7++M.Q0.map (·.1))));refine ((Ay I).append_right _).trans ?_;have h1:=qpD U;have h2:(M.J9++(M.Q7++M.Q0.map (·.1))).Perm (n::(M.J9++(M.Q7++(jN n M.Q0).map (·.1)))):=by refine ((h1.append_left M.Q7).append_left M.J9).trans ?_;rw[<- zV,<- zV];exact perm_middle
  exact (perm_middle.symm.trans (h2.symm.append_left M.Q3))
 exact Gx u rfl rfl u.Q4 G (Cy u.dG) u.rC λe he=>u.body e (qr3 he);rename_i R;split;rename_i E;have E:=xj.1 E;have J:n∉M.J9:=λh=>E.2 (zI _ (zH _ h));have G:({ M with J9:=ins n M.J9 }:eH).all.Perm (n::M.all):=by show (M.Q3++(ins n M.J9++(M.Q7++M.Q0.map (·.1)))).Perm (n::(M.Q3++(M.J9++(M.Q7++M.Q0.map (·.1)))));exact (((Ay J).append_right _).append_left M.Q3).trans perm_middle
 refine { n4:=u.n4,u32:=u.u32,Q4:=u.Q4,cZ:=u.cZ,x5:=u.x5,dG:=u.dG,rC:=Cy u.rC,nodup:=G.nodup_iff.2 (nodup_cons.2 ⟨E.2,u.nodup⟩),range:=λx hx=>?_,body:=u.body };rcases zG.1 (G.mem_iff.1 hx) with rfl|h;exact E.1;exact u.range x h;exact u
def qud{t:Int}{ov:Bool}(u:M.Wf)(h:jV M=some (cC,x5))(E:s.2.getD 0 0=M.J1.2.getD 0 0)(G:∀x∈s.2,ia x):(iR s cC x5 t ov x5).Wf:=
 FH (by rw[E];exact Ev u h) (by rw[E];exact u.n4) G
def FY(u:M.Wf)(h:jV M=some (cC,x5)):∀x∈(gp M cC x5).2,ia x:=by
 have G:=Ev u h;have I:=u.n4;intro x E;simp only[gp,zD,zG,xY,or_false] at E;rcases E with (rfl|rfl|rfl)|E;exact qrM u.u32 0;cases cC with
 | nil=>exact⟨oM,oM⟩
 | cons a r=>
  have:=G.sE a oL
  show 0<=a/\a<4294967296;omega
 exact xb _;exact u.Q4 x E
def qyr(u:M.Wf)(h:jV M=some (cC,x5))(E:M.Q4.length=24)(G:0<=M.J1.1/\M.J1.1<4611686018427387903):lA (gp M cC x5)/\(gp M cC x5).1=M.J1.1+1:=by have e:wrap .u64 (M.J1.1+1)=M.J1.1+1:=zv _ oJ;refine⟨⟨?_,?_,FY u h⟩,e⟩;show 0<=wrap .u64 (M.J1.1+1)/\wrap .u64 (M.J1.1+1)<_;rw[e];omega;show ([M.J1.2.getD 0 0,cC.headD 0,wrap .u32 (x5.length:Int)]++M.Q4).length=27;rw[zF,E];rfl
def qwb(h:M.Wf):(gX D M).1.2.Wf:=by unfold gX;split;exact h;split;exact h;split;exact h;rename_i x u;obtain⟨cC,x5⟩:=x;split;exact qzR;exact qud h u rfl (FY h u)
section
def AT:IT->IT->Bool
 | a::b::c::r,h::b'::u::r'=>bif (bif a==h then bif b==b' then bif c==u then true else false else false else false) then AT r r' else false
 | _,_=>true
def qtP:∀(n:Nat) (l l':IT),l.length=3*n->l'.length=3*n->AT l l'=decide (l=l')
 | 0,l,l',h,u=>by have E:l=[]:=Iy oJ;have G:l'=[]:=Iy oJ;subst E G;simp[AT]
 | n+1,l,l',h,u=>by
  match l,l',h,u with
  | a::b::c::r,I::b'::J::r',h,u=>
   have:=qtP n r r' (by simp at h;omega) (by simp at u;omega);rw[AT,this];by_cases E:a=I<;>by_cases G:b=b'<;>by_cases h3:c=J<;>by_cases h4:r=r'<;>simp[E,G,h3,h4]
  | [],_,h,_=>simp at h
  | [_],_,h,_=>simp at h;omega
  | [_,_],_,h,_=>simp at h;omega
  | _::_::_::_,[],_,h=>simp at h
  | _::_::_::_,[_],_,h=>simp at h;omega
  | _::_::_::_,[_,_],_,h=>simp at h;omega
abbrev G5:IM:=183
def qAQ(a0 a1 a2 a3 a4 a5 a6 a7 a8 a9 h u E G I J R U V aa ab ac ad ae b0 b1 b2 b3 b4 b5 b6 b7 b8 b9 af ag ah ai aj ak al am an ao ap aq ar au:Int): tP prog 3 G5 (.agg (([a0,a1,a2,a3,a4,a5,a6,a7,a8,a9,h,u,E,G,I,J,R,U,V,aa,ab,ac,ad,ae]:IT).map (Value.int .u32)).toArray) (.agg (([b0,b1,b2,b3,b4,b5,b6,b7,b8,b9,af,ag,ah,ai,aj,ak,al,am,an,ao,ap,aq,ar,au]:IT).map (Value.int .u32)).toArray) = some (AT [a0,a1,a2,a3,a4,a5,a6,a7,a8,a9,h,u,E,G,I,J,R,U,V,aa,ab,ac,ad,ae] [b0,b1,b2,b3,b4,b5,b6,b7,b8,b9,af,ag,ah,ai,aj,ak,al,am,an,ao,ap,aq,ar,au]):=by kernel_rfl
def qwR(h:l.length=24):∃a0 a1 a2 a3 a4 a5 a6 a7 a8 a9 u E G I J R U V aa ab ac ad ae af,l=[a0,a1,a2,a3,a4,a5,a6,a7,a8,a9,u,E,G,I,J,R,U,V,aa,ab,ac,ad,ae,af]:=
 match l,h with
 | [a0,a1,a2,a3,a4,a5,a6,a7,a8,a9,u,E,G,I,J,R,U,V,aa,ab,ac,ad,ae,af],_=>⟨_,_,_,_,_,_,_,_,_,_,_,_,_,_,_,_,_,_,_,_,_,_,_,_,rfl⟩
def qvD{x y:Operand}{K:Bool->Prop}(u:l.length=24)(h:l'.length=24)(k:K (decide (l=l'))): fG [iF.one Cell.bool] (λw'=>(do eqGuard .eql G5 x y (.agg (l.map (Value.int .u32)).toArray) (.agg (l'.map (Value.int .u32)).toArray);binOp .eql G5 (.agg (l.map (Value.int .u32)).toArray) (.agg (l'.map (Value.int .u32)).toArray):Sem IL).run prog w') w K:=by refine G6 3 oM (AT l l') ?_ oK (by rw[qtP 8 l l' u h];exact k);obtain⟨a0,a1,a2,a3,a4,a5,a6,a7,a8,a9,E,G,I,J,R,U,V,aa,ab,ac,ad,ae,af,ag,rfl⟩:=qwR u;obtain⟨b0,b1,b2,b3,b4,b5,b6,b7,b8,b9,ah,ai,aj,ak,al,am,an,ao,ap,aq,ar,au,av,aw,rfl⟩:=qwR h;exact qAQ ..
def qwW{f:List (Int×IL)}{K:Int->Prop}(h:jy jL w mb f)(k:K f.length): fG [iF.one .i] (λw'=>(Builtin.len_ #[Cx] 3 #[Value.map (some mb)]).run prog w') w K:=by
 obtain⟨u,c,E,G,_⟩:=h;have I:(u.size:Int)=f.length:=by
  have:=IH List.length G;simp at this;omega
 refine sh (ts:=[iF.one .i]) (u.size:Int) ?_ (by rw[I];exact k);have:=run_len_map (P:=prog) (w:=w) Cx 3 mb u c oK E;exact this
section
variable {db:Option Addr} {J1:oV} {sl sn:Sl} {x8:Int} {Q5:Bool} {fb defb mb:Nat} {Q4:IT} {wk:List IL}
def DO(u:J1.2.length=27)(E:Q4.length=24):((gi db J1 sl sn x8 Q5 fb defb mb Q4).toList.drop 36).take 24=Q4.map (Value.int .u32):=by have h:((Value.pointer db::fv J1.1 J1.2)++nR sl sn x8 Q5 fb defb mb).length=36:=(by rw[zF,tl u];rfl);show (((Value.pointer db::fv J1.1 J1.2)++nR sl sn x8 Q5 fb defb mb++Q4.map (Value.int .u32)).drop 36).take 24=_;rw[<- h,Ix (zM _),drop_length,xJ,zS (by rw[zK,E];exact zM _)]
def qw3(h:J1.2.length=27):((gi db J1 sl sn x8 Q5 fb defb mb Q4).toList.drop 5).take 24=(J1.2.drop 3).map (Value.int .u32):=by rw[<- Ft];exact GY h
def qvw{h:oV}(E:J1.2.length=27)(u:h.2.length=27):en (fI db J1 sl sn x8 Q5 wk) 1 (fv h.1 h.2)=fI db h sl sn x8 Q5 wk:=by
 have:=t5 (A:=[Value.pointer db]) (X:=fv J1.1 J1.2) (Y:=fv h.1 h.2) (Z:=([sl.v,sn.v,.i x8,.bool Q5]:List IL)++wk) (by rw[qF E,qF u]);simpa[fI] using this
end
def quU{q a c:Int}(G:Q4.length=24)(w:IK):(Instr.build 185 #[(0,.w q),(1,.u a),(3,.u c),(4,.agg (Q4.map (Value.int .u32)).toArray)]).run prog w=.ok (.agg (fv q ([a,0,c]++Q4)).toArray) w:=by
 obtain⟨z,I,h⟩:=yT.1 ui;have E:z.cells=(fv 0 (zs 27)).toArray:=(by rw[<- h]);refine BC (parts:=[(0,.w q),(1,.u a),(3,.u c),(4,.agg (Q4.map (Value.int .u32)).toArray)]) (offs:=#[(0,1),(1,1),(2,1),(3,1),(4,24)]) I oK (λw=>oK) ?_ w;have J:(Value.agg (Q4.map (Value.int .u32)).toArray).cells.size=24:=(by show (Q4.map (Value.int .u32)).toArray.size=24;simp[G]);rw[E,sO (o:=0) (s:=1) rfl rfl (zO rfl),sO (o:=1) (s:=1) rfl rfl (zO rfl),sO (o:=3) (s:=1) rfl rfl (zO rfl),sO (o:=4) (s:=24) rfl J (zO rfl)];refine IH some ?_;have:=t5 (A:=[.w q,.u a,.u 0,.u c]) (X:=(zs 24).map (Value.int .u32)) (Z:=[]) (Y:=Q4.map (Value.int .u32)) (by simp[G,qj]);refine Eq.trans ?_ (this.trans ?_);rfl;simp[fv]
def quS(w:IK):(Instr.build sS #[(5,.bool true)]).run prog w=.ok (.agg (fI none gU dT dT 0 true (iG none none none (zs 24)))) w:=by refine BC (parts:=[(5,.bool true)]) (offs:=#[(0,1),(1,28),(29,1),(30,1),(31,1),(32,1),(33,27)]) pgZ oK (λw=>oK) ?_ w;rw[sO (o:=32) (s:=1) rfl rfl (zO rfl)];rfl
def qb (dbk:Nat) (M:eH):Option Addr:=if M.Q5 then none else pW dbk
structure Ig (w:IK) (dbk pb:Nat) (FD F:IS) (D:dV) (M:eH) (k:Nat):Prop where
 dB:fl w dbk FD D
 lim:mn D k
 z9:eW w FD pb (qb dbk M) F M
def BS (S:IS) (w w':IK) (S':IS):Prop:=Fr S w w'/\∀b∈S',b∈S\/w.heap.size<=b
def qzP:((l.map (Value.int .u32)).all Value.oneCell')=true:=by rw[Iz];intro v h;obtain⟨x,_,rfl⟩:=mem_map.1 h;rfl
def qyS:((iG x y m Q4).all Value.oneCell')=true:=by rw[iG,all_append,qzP];rfl
def qzY(h:(wk.all Value.oneCell')=true):((fI db J1 sl sn x8 Q5 wk).toList.all Value.oneCell')=true:=by show ((((Value.pointer db::fv J1.1 J1.2)++([sl.v,sn.v,.i x8,.bool Q5]:List IL))++wk).all Value.oneCell')=true;rw[all_append,all_append,h,all_cons,CV];rfl
def eW.t9{X':IS}(h:eW w X pb db F M)(E:∀b∈X',b∈X):eW w X' pb db F M:=
 h.pS (.refl X w) (λb u=>h.pE b (E b u)) (λb u=>.inl (E b u))
def qsR(hdisk:fl w dbk FD D)(hlim:mn D k)(hpag:eW w X pb (qb dbk M) F M)(hsub:∀b∈FD,b∈X)(hW:M.Wf)(hk6:k+5000<=1000000)(ht:0<=M.x8/\M.x8<=1000000000)(hv:Hv w)(hg:HG∉FD)(kk:∀FD' F' w',fl w' dbk FD' (gX D M).1.1->mn (gX D M).1.1 (k+5000)->eW w' (FD'++X) pb (qb dbk (gX D M).1.2) F' (gX D M).1.2->BS (FD++F) w w' (FD'++F')->K (gX D M).2 w'): cW 72 [dS pb] dm w K:=by
 have hall:=eH.Wf.all M hW;have same:∀ {e:Int} {w':IK},gX D M=((D,M),e)->Fr [] w w'->K e w':=by
  intro e w' he hf;have:=kk FD F w' (by rw[he];exact hdisk.q8 hf) (by rw[he];exact hlim.mono oJ) (by rw[he];exact (hpag.q8 hf).t9 λb hb=>(zD.1 hb).elim (hsub b) id) ⟨hf.mono (λb hb=>by cases hb),λb hb=>.inl hb⟩;rw[he] at this;exact this
 have hpag0:=hpag;obtain⟨fb,defb,mb,sl,sn,F1,F2,fs,rfl,hx⟩:=hpag;refine qhZ (p:=pW pb)<|fO (iv (c:=.bool) hx.cell M.Q5 (Aw hx.x4) ?_);refine eB (λhc=>same (by rw[gX,iP hc]) (.refl _ _)) λhc=>?_;have ho:¬M.Q5=true:=(by rw[hc];decide);have hof:M.Q5=false:=hc;have hdb:qb dbk M=pW dbk:=iN ho;rw[hdb] at hx hpag0;have hxd:=hx.q8 (Fr.refl [] w).drew;have hfl:fs.length=M.Q0.length:=(by rw[hx.Q0];simp);have hsr:(M.J1.2.drop 3).length=24:=(by rw[yB,hx.x4]);refine iC (λb w'=>b=decide (M.Q0=[]/\M.J9=[]/\M.Q4=M.J1.2.drop 3)/\w'=w.drew) ?_ ?_;refine fO (iv (w:=w.drew) (c:=.map) hxd.cell (some mb) (tN hx.x4) ?_);refine qwW hxd.map ?_;rw[zK,hfl];apply eB<;>intro hc1;have h1:M.Q0=[]:=Iy (by have:(M.Q0.length:Int)=0:=(oP hc1);omega);refine fO (iv (w:=w.drew) (c:=.ptr) hxd.cell (pW defb) (Ee hx.x4) ?_);refine qtw hxd.J9 ?_;apply eB<;>intro hc2;have h2:M.J9=[]:=Iy (by have:(M.J9.length:Int)=0:=(oP hc2);omega);refine fO (rP (b:=pb) (off:=36) hxd.cell (M.Q4.map (Value.int .u32)) (by rw[zK,hx.x9]) (DO hx.x4 hx.x9) ?_);refine fO (rP (b:=pb) (off:=5) hxd.cell ((M.J1.2.drop 3).map (Value.int .u32)) (by rw[zK,hsr]) (qw3 hx.x4) ?_);refine qvD hx.x9 hsr ⟨?_,rfl⟩;simp[h1,h2];have h2:M.J9≠[]:=λe=>by rw[e] at hc2;simp at hc2
 exact⟨by simp[h2],rfl⟩;have h1:M.Q0≠[]:=λe=>by rw[e] at hc1;simp at hc1
 exact⟨by simp[h1],rfl⟩;rintro b w1 ⟨rfl,rfl⟩;have f01:Fr [] w w.drew:=(Fr.refl [] w).drew;refine eB (λhc=>same (by rw[gX,iN ho,iP (zC hc)]) f01) λhc=>?_;have hne:=zB hc;refine qxJ (hpag0.q8 f01) hW (λhpl w2 f2=>?_) λsp sm cC x5 w2 hpl f2 hrd=>?_;exact Im rfl<|same (by rw[gX,iN ho,iN hne,hpl]) (f01.trans f2);refine Io rfl ?_;have hcm:gX D M=if (ib D M.Q0 cC x5 (gp M cC x5)).2≠0 then (((ib D M.Q0 cC x5 (gp M cC x5)).1,uE),(ib D M.Q0 cC x5 (gp M cC x5)).2)
  else (((ib D M.Q0 cC x5 (gp M cC x5)).1,iR (gp M cC x5) cC x5 (M.x8+1) false x5),0):=by rw[gX,iN ho,iN hne,hpl]
 have hplan:=hpl;unfold jV at hplan;split at hplan;cases hplan;rename_i hroom;have hpn:=yO hplan;have hpg:cC=M.Q3.take (eZ (M.Q3.length+(M.J9++M.Q7).length)):=(IH Prod.fst hpn).symm;have hnm:x5=gW ((M.J9++M.Q7)++M.Q3.drop (eZ (M.Q3.length+(M.J9++M.Q7).length))):=(IH Prod.snd hpn).symm;have hplf:cC.length<=M.Q3.length:=(by rw[hpg,yL];omega);have hpl4:cC.length<=4096:=oJ;have hnl4:x5.length<=4096:=by
  have:=qnG ((M.J9++M.Q7)++M.Q3.drop (eZ (M.Q3.length+(M.J9++M.Q7).length)));rw[<- hnm] at this;simp only[zF,yB] at this;omega
 have hpm:∀x∈cC,2<=x/\x<M.J1.2.getD 0 0:=λx hx=>by rw[hpg] at hx;exact hW.range x (zH _ (yV hx))
 have hblk4:=hW.n4;have hpu:∀x∈cC,ia x:=λx hx=>by have:=hpm x hx;constructor<;>omega
 have hns:x5.Pairwise (· < ·):=(by rw[hnm];exact CB _);have f02:=f01.trans f2;have hx2:=hx.q8 f02;have hx2d:=hx2.q8 (Fr.refl [] w2).drew;refine fO (iv (w:=w2.drew) (c:=.w) hx2d.cell M.J1.1 qw2 ?_);refine fO (iv (w:=w2.drew) (c:=.u) hx2d.cell (M.J1.2.getD 0 0) (HW hx.x4 0 oM) ?_);refine fO (rP (b:=pb) (off:=36) hx2d.cell (M.Q4.map (Value.int .u32)) (by rw[zK,hx.x9]) (DO hx.x4 hx.x9) ?_);have hmlen:sm.len=x5.length:=(hrd [] oL).2.1;refine sh (ts:=[iF.lK]) (fv (wrap .u64 (M.J1.1+1)) ([M.J1.2.getD 0 0,0,wrap .u32 (x5.length:Int)]++M.Q4)) (by rw[<- hmlen];exact quU hx.x9 _) ?_;have hplen:sp.len=cC.length:=(hrd [] oL).1.1;refine oI (oE [] w2.drew) ui λr w3 e3 ho3=>?_;have hx3:=hx2d.q8 ho3.fr;refine nj (vI hx3.cell _ 36 0 (by show _=_;rw[zK,hx.x9];exact DO hx.x4 hx.x9)) (by show _=_;simp only[Addr.j3];rw[jC hx3.cell];exact HW hx.x4 0 oM) (by show _=_;rw[jC hx3.cell];exact qw2) ?_;have l27:([M.J1.2.getD 0 0,0,wrap .u32 (x5.length:Int)]++M.Q4).length=27:=(by rw[zF,hx.x9];rfl);have n27:(gp M cC x5).2.length=27:=(by show ([M.J1.2.getD 0 0,cC.headD 0,wrap .u32 (x5.length:Int)]++M.Q4).length=27;rw[zF,hx.x9];rfl);have hG:∀b∈FD++pb::mb::(F1++F2),b<w.heap.size:=λb hb=>by rcases zD.1 hb with h|h;exact hdisk.lt b h;exact hx.lt b h
 have hrdG:=hrd (FD++pb::mb::(F1++F2)) hG;refine Ap ho3 0 rfl rfl l27 λw4 ho4=>iC (λ_ w'=>ef [] w2.drew w' [(r,.c (fv (gp M cC x5).1 (gp M cC x5).2).toArray 185)]) ?_ ?_;apply eB<;>intro hc;have hp0:0<cC.length:=(by have:=zC hc;dsimp only at this;omega);have f24:Fr [] w2 w4:=(Fr.refl [] w2).drew.trans ho4.fr;refine Rd.at ((hrd [] oL).1.q8 f24) 0 rfl (zA hp0)<|oG ho4 0 rfl (fv (gp M cC x5).1 (gp M cC x5).2).toArray ?_ rfl (by rw[C9 l27];exact zO rfl) λw5 ho5 f5=>ho5;have hh:cC.headD 0=cC[0]:=by
  cases cC with
  | nil=>simp at hp0
  | cons a r=>rfl
 show en (fv _ ([M.J1.2.getD 0 0]++0::(wrap .u32 (x5.length:Int)::M.Q4))).toArray 2 [.u cC[0]]=_;have:=qol (q:=wrap .u64 (M.J1.1+1)) (x:=0) (y:=cC[0]) (A:=[M.J1.2.getD 0 0]) (Z:=wrap .u32 (x5.length:Int)::M.Q4);refine this.trans ?_;rw[gp,hh];rfl;have hp0:cC=[]:=Iy (by have:=zB hc;dsimp only at this;omega);have e:fv (gp M cC x5).1 (gp M cC x5).2=fv (wrap .u64 (M.J1.1+1)) ([M.J1.2.getD 0 0,0,wrap .u32 (x5.length:Int)]++M.Q4):=by rw[gp,hp0];rfl
 rw[e];exact ho4;rintro _ w5 ho5;refine vq (ho5.at (i:=0) rfl) n27 ?_;have f25:Fr [] w2 w5:=(Fr.refl [] w2).drew.trans ho5.fr;have f05:=f02.trans f25;have hd5:=hdisk.q8 f05;have hp5:=hpag0.q8 f05;have hq0:0<=(gp M cC x5).1:=by show 0<=wrap .u64 (M.J1.1+1);unfold wrap;have:(IntKind.u64.signed)=false:=rfl;simp only[this,Bool.false_and,Bool.false_eq_true,if_false];exact Int.emod_nonneg _ oM
 have hkeyU:∀x∈M.Q0.map (·.1),ia x:=λx hx=>by
  have:=hW.range x (zI _ (zI _ (zI _ hx)));constructor<;>omega
 have hkeyN:(M.Q0.map (·.1)).Nodup:=hW.nodup.sublist (((sublist_append_right _ _).trans (sublist_append_right _ _)).trans (sublist_append_right _ _));refine qvV (next:=gp M cC x5) (D:=D) (DS.refl hd5 hlim) (hp5.t9 hsub) hW.body hkeyN hkeyU oJ oJ (hv.q8 f05) hg ((hrdG.2.q8 f25).j8 λb hb=>.inl (zH _ hb)) ((hrdG.1.q8 f25).j8 λb hb=>.inl (zH _ hb)) oJ oJ hpu n27 hq0 λw6 FD6 d6 f6 n6=>?_;have hp6:=hp5.pS (X':=FD6++X) (f6.mono λb hb _=>hsub b hb) (λb hb=>(zD.1 hb).elim (d6.at_.lt b) λhb=>yC (hp5.pE b hb) f6.size) λb hb=>(zD.1 hb).elim (λhb=>(n6 b hb).imp (hsub b) id) .inl;obtain⟨fb6,defb6,mb6,sl6,sn6,G1,G2,fs6,hF6,hx6⟩:=id hp6;have hpbn:pb∉FD6++X:=λhm=>hx6.m7 pb hm oL;have hFD:∀b∈FD6,b∈FD++pb::mb::(F1++F2)\/w.heap.size<=b:=λb hb=>by rcases n6 b hb with h|h;exact .inl (zH _ h);exact .inr (zL f05.size h)
 have hlt6:w.heap.size<=w6.heap.size:=zL f05.size f6.size;have f06:Fr (FD++pb::mb::(F1++F2)) w w6:=(f05.mono λb hb=>by cases hb).trans (f6.mono λb hb _=>zH _ hb);have hend:∀ {F':IS} {w8 w9:IK},Fr [pb] w6 w8->Fr [pb] w8 w9->(∀b∈F',b=pb\/w8.heap.size<=b)->BS (FD++pb::mb::(F1++F2)) w w9 (FD6++F')/\fl w9 dbk FD6 (ib D M.Q0 cC x5 (gp M cC x5)).1:=by intro F' w8 w9 g8 g9 hF';have g69:=g8.trans g9;refine⟨⟨f06.trans (g69.mono λb hb _=>by simp at hb;subst hb;simp),λb hb=>?_⟩,d6.at_.j1 g69 λb hb=>by simp;rintro rfl;exact hpbn (zH _ hb)⟩;rcases zD.1 hb with hb|hb;exact hFD b hb;rcases hF' b hb with h|h;exact .inl (by rw[h];simp);exact .inr (zL (zL hlt6 g8.size) h)
 have hpX:∀ {w8:IK},Fr [pb] w6 w8->∀b∈FD6++X,b<w8.heap.size/\b≠pb:=λg8 b hb=>⟨yC (hp6.pE b hb) g8.size,λe=>hpbn (e▸hb)⟩;have hcell6:=hx6.cell;rw[<- Ft] at hcell6;have hwk:(iG (pW fb6) (pW defb6) (some mb6) M.Q4).length=27:=zo hx.x9;have hlim6:mn (ib D M.Q0 cC x5 (gp M cC x5)).1 (k+5000):=d6.lim.mono oJ;apply eB<;>intro hc;have hc:(ib D M.Q0 cC x5 (gp M cC x5)).2≠0:=(oP hc);rw[iP hc] at hcm;rw[hcm] at kk;refine sh (ts:=[iF.lK]) (fI none gU dT dT 0 true (iG none none none (zs 24))).toList (quS w6)<|fO ?_;have hsz60:(fI none gU dT dT 0 true (iG none none none (zs 24))).toList.length=60:=(by rw[IJ,u9 rfl];rfl);refine qu hsz60<|qH (b:=pb) (off:=0) hcell6 (fI none gU dT dT 0 true (iG none none none (zs 24))) (by rw[mR (by rw[hsz60,u9 hx.x4,hwk])]) (qzY (qyS)) (by rw[hsz60,u9 hx.x4,hwk];exact zO rfl) λw7 c7 f7=>Gb (X:=FD6++X) (Q7:=[]) (x5:=[]) c7 rfl (zo (qj 24)) oM (hpX f7) (.nil _ _ _ _) (.nil _ _ _ _) oM λF' w8 hp8 f8 n8=>?_;have he:=hend f7 f8 n8;exact kk FD6 F' w8 he.2 hlim6 hp8 he.1;have hc:¬(ib D M.Q0 cC x5 (gp M cC x5)).2≠0:=(oP hc);rw[iN hc] at hcm;rw[hcm] at kk;have hsup6:w6.heap[r]?=some (.c (fv (gp M cC x5).1 (gp M cC x5).2).toArray 185):=(by rw[f6.block r (eO (ho5.at (i:=0) rfl)) λhm=>by have:=hd5.lt r hm;have:=hdisk.lt r hm;have h1:w.heap.size<=w2.drew.heap.size:=f02.size;omega];exact ho5.at (i:=0) rfl);refine vq hsup6 n27<|fO<|qu (qF n27)<|qH (b:=pb) (off:=1) hcell6 (fI (pW dbk) (gp M cC x5) sl6 sn6 M.x8 M.Q5 (iG (pW fb6) (pW defb6) (some mb6) M.Q4)) (qvw hx.x4 n27) (CV _ _) (by rw[qF n27,u9 hx.x4,hwk];exact zO rfl) λw7 c7 f7=>fO<|qH (b:=pb) (off:=29) c7 (fI (pW dbk) (gp M cC x5) sp sn6 M.x8 M.Q5 (iG (pW fb6) (pW defb6) (some mb6) M.Q4)) (qqj n27) rfl (by rw[u9 n27,hwk];exact zO rfl) λw8 c8 f8=>fO<|qH (b:=pb) (off:=30) c8 (fI (pW dbk) (gp M cC x5) sp sm M.x8 M.Q5 (iG (pW fb6) (pW defb6) (some mb6) M.Q4)) (qqk n27) rfl (by rw[u9 n27,hwk];exact zO rfl) λw9 c9 f9=>?_;have f69:=(f7.trans f8).trans f9;have hGX:∀b∈X++[pb],b<w.heap.size:=λb hb=>by rcases zD.1 hb with h|h;exact hx.pE b h;rw[zE.1 h];exact eO hx.cell
 have hrdX:=hrd (X++[pb]) hGX;have hst:∀ {s:Sl} {l:IT},Rd (X++[pb]) w2 s l->Rd ((FD6++X)++[pb]) w9 s l:=λhr=>by
  have h5:=hr.q8 f25;have h6:Rd ((FD6++X)++[pb]) w6 _ _:=h5.j1 (f6.mono λb hb _=>zH _ (hsub b hb)) λb hb=>by rcases zD.1 hb with hb|hb;rcases zD.1 hb with hb|hb;rcases n6 b hb with h|h;exact .inl (zH _ (hsub b h));exact .inr h;exact .inl (zH _ hb);exact .inl (zI _ hb)
  exact h6.j1 (f69.mono λb hb _=>zI _ hb) λb hb=>.inl hb
 refine Gb (X:=FD6++X) (Q7:=cC) (x5:=x5) c9 n27 hwk ht (hpX f69) (hst hrdX.1) (hst hrdX.2) oJ λF' w10 hp10 f10 n10=>?_;rw[qpO hns,hof] at hp10;have he:=hend f69 f10 n10;exact kk FD6 F' w10 he.2 hlim6 hp10 he.1
end
def fy (M:eH) (t h u E:Int):Int×eH:=
 if M.Q5 then (7,M) else if t<0\/t>7 then (4,M) else (0,{ M with Q4:=M.Q4.take (3*t.toNat)++[h,u,E]++M.Q4.drop (3*t.toNat+3) })
def dU (D:dV) (M:eH) (n:Int):Int×List Int×Int:=
 if M.Q5 then (0,[],7) else match look n M.Q0 with
 | some q=>(q.2.1,q.2.2,0)
 | none=>if gI M n=false then (0,[],10) else if (eS D n).2≠0 then (0,[],(eS D n).2) else fx n (eS D n).1
def qhY(u:D.Ok)(E:∀e∈M.Q0,eX e.2.2)(n:Int):eX (dU D M n).2.1:=by have h:eX ([]:IT):=λx G=>nomatch G;unfold dU;split;exact h;split;rename_i q I;exact E _ (tX I).2;split;exact h;split;exact h;exact (qp7 (wC u n).1 n).1
def eH.y7 (M:eH):Prop:=(M.Q3++M.Q0.map (·.1)).Perm M.x5
def qlI(s:oV)(cC numbers:IT)(t:Int)(ov:Bool):(iR s cC numbers t ov numbers).y7:=by show (numbers++[]).Perm numbers;rw[xI]
def qvi{kd:Int}(I:M.Wf)(h:M.y7):(gF M kd l).2.y7:=by
 unfold gF;split;exact h;split;exact h;split;exact h;rename_i n r E;have u:n∉M.Q0.map (·.1):=λJ=>by have G:=I.nodup;rw[E,xK,nodup_cons] at G;exact G.1 (zI _ (zI _ (zI _ J)))
 show (r++(ir n (kd,l) M.Q0).map (·.1)).Perm M.x5;rw[qsx u,xO,<- zV];refine (Iq n _).trans ?_;have:=h;rw[eH.y7,E] at this;exact this
def qw8{kd:Int}(h:M.y7):(jJ M n kd l).2.y7:=by unfold jJ;split;exact h;split;exact h;rename_i q u;split;exact h;have E:n∈M.Q0.map (·.1):=mem_map.2 ⟨_,(tX u).2,rfl⟩;show (M.Q3++(ir n (kd,l) M.Q0).map (·.1)).Perm M.x5;rw[qqp E];exact h
def qu2(I:M.Wf)(h:M.y7):(fK M n).2.y7:=by
 unfold fK;split;exact h;split;rename_i q J;have E:n∈M.Q0.map (·.1):=mem_map.2 ⟨_,(tX J).2,rfl⟩;have G:=I.nodup;have u:n∉M.Q3:=λh=>by rw[yM] at G;exact G.2.2 n h n (zI _ (zI _ E)) rfl
 show (ins n M.Q3++(jN n M.Q0).map (·.1)).Perm M.x5;refine (((Ay u).append_right _).trans ?_).trans h;exact perm_middle.symm.trans ((qpD E).symm.append_left M.Q3);split;exact h;exact h
def eH.y7.mem(h:M.y7)(x:Int):x∈M.x5↔x∈M.Q3\/x∈M.Q0.map (·.1):=by rw[<- h.mem_iff,zD]
def CN (l:IT):ByteArray:=⟨(Lib.bytesOf l).toArray⟩
end
section
open Go Go.Pt List
open Go.IntKind (wrap)
open Classical
variable {D:dV} {L L1 L2:gr} {M:eH} {N Nl Nr:dY} {R R1 R2 b:IT} {h n1 n2:Nat} {kd n p q:Int} {key m:Key} {r:I7}
def ik {β:Type} (n:Int) (l:List (Int×β)):Option β:=(look n l).map (·.2)
def wu{β:Type}(n:Int)(p:Int×β)(r:List (Int×β)):ik n (p::r)=if n=p.1 then some p.2 else ik n r:=by unfold ik;rw[look];split;rfl;cases look n r<;>rfl
def qxn{β:Type}(n:Int)(v:β)(p:Int×β)(r:List (Int×β)):ir n v (p::r)=if n=p.1 then (n,v)::r else p::ir n v r:=by by_cases h:n=p.1;rw[iP h];unfold ir;rw[look,iP h];rfl;rw[iN h];unfold ir;rw[look,iN h];cases look n r<;>rfl
def qwk{β:Type}(n:Int)(p:Int×β)(r:List (Int×β)):jN n (p::r)=if n=p.1 then r else p::jN n r:=by by_cases h:n=p.1;rw[iP h];unfold jN;rw[look,iP h];rfl;rw[iN h];unfold jN;rw[look,iN h];cases look n r<;>rfl
def Gg{β:Type}(n q:Int)(v:β):∀l:List (Int×β),ik q (ir n v l)=if q=n then some v else ik q l
 | []=>by show ik q [(n,v)]=_;rw[wu]
 | p::r=>by rw[qxn];by_cases h:n=p.1;rw[iP h,wu,wu,<- h];by_cases h2:q=n;rw[iP h2,iP h2];rw[iN h2,iN h2,iN h2];rw[iN h,wu,Gg n q v r,wu];by_cases h2:q=p.1;rw[iP h2,iN (λe=>h (by rw[<- e,h2])),iP h2];rw[iN h2,iN h2]
def Fw{β:Type}{l:List (Int×β)}:ik n l=none↔n∉l.map (·.1):=by unfold ik;rw[Option.map_eq_none_iff,ve]
def qpZ{β:Type}(n q:Int):∀l:List (Int×β),(l.map (·.1)).Nodup->ik q (jN n l)=if q=n then none else ik q l
 | [],_=>by show ik q []=_;split<;>rfl
 | p::r,E=>by have u:=nodup_cons.1 (show (p.1::r.map (·.1)).Nodup from E);rw[qwk];by_cases h:n=p.1;rw[iP h,wu];by_cases h2:q=n;rw[iP h2,h2,h];exact Fw.2 u.1;rw[iN h2,iN λe=>h2 (by rw[e,h])];rw[iN h,wu,qpZ n q r u.2,wu];by_cases h2:q=p.1;rw[iP h2,iN (λe=>h (by rw[<- e,h2])),iP h2];rw[iN h2,iN h2]
def qwH(n:Int):∀l:IT,l.length<=(ins n l).length
 | []=>yX _
 | a::l=>by
  have:=qwH n l;simp only[ins];split;simp;split;exact zM _;simp only[yI];omega
def sP:gI M n=true↔2<=n/\n<M.J1.2.getD 0 0/\n∉M.Q7/\n∉M.Q3/\n∉M.J9/\ik n M.Q0=none:=by unfold gI ik;rw[Option.map_eq_none_iff];simp only[yA,zT,ID,IE,Option.isNone_iff_eq_none];constructor;rintro⟨⟨⟨⟨⟨I,J⟩,h⟩,u⟩,E⟩,G⟩;exact⟨oJ,oJ,h,u,E,G⟩;rintro⟨I,J,h,u,E,G⟩;exact⟨⟨⟨⟨⟨oJ,oJ⟩,h⟩,u⟩,E⟩,G⟩
def eA (M:eH) (x:Int):Prop:=x∈M.Q0.map (·.1)\/gI M x=true
def cX{x:Int}:x∈M.Q0.map (·.1)↔∃q,ik x M.Q0=some q:=by
 constructor;intro h;cases e:ik x M.Q0 with
 | none=>exact absurd h (Fw.1 e)
 | some q=>exact⟨q,rfl⟩
 rintro⟨q,e⟩;exact Classical.byContradiction λh=>by rw[Fw.2 h] at e;cases e
def DQ(h:M.Q5=false)(n:Int):dU D M n=match ik n M.Q0 with
  | some q=>(q.1,q.2,0)
  | none=>if gI M n=false then (0,[],10) else if (eS D n).2≠0 then (0,[],(eS D n).2) else fx n (eS D n).1:=by
 unfold dU ik;rw[iN (by rw[h];decide)];cases look n M.Q0<;>rfl
def Gk(u:M.Q5=false)(h:(dU D M n).2.2=0):eA M n:=by
 rw[DQ u] at h;cases e:ik n M.Q0 with
 | some q=>exact .inl (cX.2 ⟨q,e⟩)
 | none=>
  rw[e] at h;dsimp only at h;split at h;cases h;rename_i E;exact .inr (oP E)
def qxc(M:eH)(u:M.Q5=false){q:I7}(h:ik n M.Q0=some q):dU D M n=(q.1,q.2,0):=by rw[DQ u,h]
def CX(M':eH)(u:M.Q5=false)(h:M'.Q5=false)(E:ik n M'.Q0=ik n M.Q0)(G:gI M' n=gI M n):dU D M' n=dU D M n:=by rw[DQ u,DQ h,E,G]
def Dk(M':eH)(h:ik n M'.Q0=ik n M.Q0)(u:gI M' n=gI M n):eA M' n↔eA M n:=by unfold eA;rw[cX,cX,h,u]
def Cb(u:M.Wf){x:Int}(h:eA M x):2<=x/\x<M.J1.2.getD 0 0:=by rcases h with h|h;exact u.range x (by simp only[zD];exact .inr (.inr (.inr h)));exact⟨(sP.1 h).1,(sP.1 h).2.1⟩
structure mK (D:dV) (M M':eH) (q p:Int) (r:Option (I7)):Prop where
 wf:M'.Wf
 Q5:M'.Q5=false
 Q4:M'.Q4=M.Q4
 J1:M'.J1=M.J1
 Q7:M'.Q7=M.Q7
 x5:M'.x5=M.x5
 y7:M.y7->M'.y7
 x8:M'.x8=M.x8
 rest:∀ x,x≠q->x≠p->dU D M' x=dU D M x
 use:∀ x,x≠q->x≠p->(eA M' x↔eA M x)
 mT:∀ x,gI M' x=true->gI M x=true
 wrote:∀ y,r=some y->dU D M' q=(y.1,y.2,0)/\eA M' q
 left:p≠q->¬ eA M' p
section
variable {D:dV} {M:eH}
def qtd{G:IT}(U:M.Wf)(J:M.Q5=false)(hk:0<=kd/\kd<256)(hB:eX b)(hl:b.length<=500)(R:M.Q3=n::G): ∃M',gF M kd b=((n,0),M')/\mK D M M' n n (some (kd,b))/\¬eA M n/\M'.Q3=G/\M'.J9=M.J9:=by
 have e:gF M kd b=((n,0),{ M with Q3:=G,Q0:=ir n (kd,b) M.Q0 }):=(by rw[gF,iN (by rw[J];decide),iN,R]);have hw:=(qt7 (kind:=kd) (body:=b) U hk hB).1;rw[e] at hw;have V:(n::(G++(M.J9++(M.Q7++M.Q0.map (·.1))))).Nodup:=(by have:=U.nodup;rw[R] at this;exact this);have aa:=nodup_cons.1 V;have ab:n∉M.Q0.map (·.1):=λh=>aa.1 (by simp only[zD];exact .inr (.inr (.inr h)));have ac:¬eA M n:=λh=>by rcases h with h|h;exact ab h;exact (sP.1 h).2.2.2.1 (by rw[R];simp)
 have u:∀x,ik x (ir n (kd,b) M.Q0)=if x=n then some (kd,b) else ik x M.Q0:=λx=>Gg n x _ _
 have I:∀x,x≠n->gI { M with Q3:=G,Q0:=ir n (kd,b) M.Q0 } x=gI M x:=λx E=>by rw[It,sP,sP];dsimp only;rw[u,iN E,R,zG];constructor;rintro⟨h1,h2,h3,h4,h5⟩;exact⟨h1,h2,h3,λh=>h.elim E h4,h5⟩;rintro⟨h1,h2,h3,h4,h5⟩;exact⟨h1,h2,h3,λh=>h4 (.inr h),h5⟩
 refine⟨_,e,⟨hw,J,rfl,rfl,rfl,rfl,λh=>?_,rfl,λx E _=>CX { M with Q3:=G,Q0:=ir n (kd,b) M.Q0 } J J (by dsimp only;rw[u,iN E]) (I x E),λx E _=>Dk { M with Q3:=G,Q0:=ir n (kd,b) M.Q0 } (by dsimp only;rw[u,iN E]) (I x E),λx E=>?_,λy hy=>?_,λh=>absurd rfl h⟩,ac,rfl,rfl⟩;have:=qvi (kd:=kd) (l:=b) U h;rw[e] at this;exact this;by_cases hxn:x=n;have:=(sP.1 E).2.2.2.2.2;dsimp only at this;rw[u,iP hxn] at this;cases this;rw[I x hxn] at E;exact E;cases hy;refine⟨?_,.inl (cX.2 ⟨(kd,b),by dsimp only;rw[u,iP rfl]⟩)⟩;exact qxc { M with Q3:=G,Q0:=ir n (kd,b) M.Q0 } J (by dsimp only;rw[u,iP rfl])
def qvu(U:M.Wf)(I:M.Q5=false)(V:0<=kd/\kd<256)(hB:eX b)(hl:b.length<=500)(hf:n∈M.Q0.map (·.1)): ∃M',jJ M n kd b=(0,M')/\mK D M M' n n (some (kd,b))/\M'.Q3=M.Q3/\M'.J9=M.J9:=by
 obtain⟨v,J⟩:=cX.1 hf;have e:jJ M n kd b=(0,{ M with Q0:=ir n (kd,b) M.Q0 }):=by unfold ik at J;obtain⟨q,hq,_⟩:=yT.1 J;rw[jJ,iN (by rw[I];decide),hq];dsimp only;rw[iN]
 have R:=(qxa (n:=n) (kind:=kd) (body:=b) U V hB).1;rw[e] at R;have u:∀x,ik x (ir n (kd,b) M.Q0)=if x=n then some (kd,b) else ik x M.Q0:=λx=>Gg n x _ _
 have G:∀x,gI { M with Q0:=ir n (kd,b) M.Q0 } x=gI M x:=λx=>by rw[It,sP,sP];dsimp only;rw[u];by_cases E:x=n;rw[iP E,E,J];simp;rw[iN E]
 refine⟨_,e,⟨R,I,rfl,rfl,rfl,rfl,λh=>?_,rfl,λx E _=>CX { M with Q0:=ir n (kd,b) M.Q0 } I I (by dsimp only;rw[u,iN E]) (G x),λx E _=>Dk { M with Q0:=ir n (kd,b) M.Q0 } (by dsimp only;rw[u,iN E]) (G x),λx E=>by rw[G x] at E;exact E,λy hy=>?_,λh=>absurd rfl h⟩,rfl,rfl⟩;have:=qw8 (n:=n) (kd:=kd) (l:=b) h;rw[e] at this;exact this;cases hy;refine⟨?_,.inl (cX.2 ⟨(kd,b),by dsimp only;rw[u,iP rfl]⟩)⟩;exact qxc { M with Q0:=ir n (kd,b) M.Q0 } I (by dsimp only;rw[u,iP rfl])
def qw9(h:M.Q5=false)(u:n∉M.Q0.map (·.1)):jJ M n kd b=(10,M):=by rw[jJ,iN (by rw[h];decide),ve.2 u]
def qlP(hW:M.Wf)(ho:M.Q5=false)(hu:eA M n)(R:n≠q): ∃M',fK M n=(0,M')/\mK D M M' q n none/\(dU D M' q=dU D M q)/\(eA M' q↔eA M q)/\M.Q3.length<=M'.Q3.length:=by
 have hw:=qtO (n:=n) hW;by_cases hf:n∈M.Q0.map (·.1);obtain⟨v,hv⟩:=cX.1 hf;have aj:(M.Q0.map (·.1)).Nodup:=hW.cN;have e:fK M n=(0,{ M with Q0:=jN n M.Q0,Q3:=ins n M.Q3 }):=by unfold ik at hv;obtain⟨y,U,_⟩:=yT.1 hv;rw[fK,iN (by rw[ho];decide),U]
 rw[e] at hw;have V:∀x,ik x (jN n M.Q0)=if x=n then none else ik x M.Q0:=λx=>qpZ n x _ aj
 have G:∀x,x≠n->gI { M with Q0:=jN n M.Q0,Q3:=ins n M.Q3 } x=gI M x:=λx u=>by rw[It,sP,sP];dsimp only;rw[V,iN u,AG];constructor;rintro⟨h1,h2,h3,h4,h5⟩;exact⟨h1,h2,h3,λh=>h4 (.inr h),h5⟩;rintro⟨h1,h2,h3,h4,h5⟩;exact⟨h1,h2,h3,λh=>h.elim u h4,h5⟩
 have I:¬eA { M with Q0:=jN n M.Q0,Q3:=ins n M.Q3 } n:=λh=>by rcases h with h|h;obtain⟨y,U⟩:=cX.1 h;dsimp only at U;rw[V,iP rfl] at U;cases U;exact (sP.1 h).2.2.2.1 (AG.2 (.inl rfl))
 have J:∀x,x≠n->dU D { M with Q0:=jN n M.Q0,Q3:=ins n M.Q3 } x=dU D M x:=λx u=>CX { M with Q0:=jN n M.Q0,Q3:=ins n M.Q3 } ho ho (by dsimp only;rw[V,iN u]) (G x u);have E:∀x,x≠n->(eA { M with Q0:=jN n M.Q0,Q3:=ins n M.Q3 } x↔eA M x):=λx u=>Dk { M with Q0:=jN n M.Q0,Q3:=ins n M.Q3 } (by dsimp only;rw[V,iN u]) (G x u);refine⟨_,e,⟨hw,ho,rfl,rfl,rfl,rfl,λh=>?_,rfl,λx _ u=>J x u,λx _ u=>E x u,λx u=>?_,λy U=>(nomatch U),λ_=>I⟩,J q λe=>R e.symm,E q λe=>R e.symm,?_⟩;have:=qu2 (n:=n) hW h;rw[e] at this;exact this;by_cases hxn:x=n;subst hxn;exact absurd (.inr u) I;rw[G x hxn] at u;exact u;exact qwH n M.Q3;have ag:gI M n=true:=hu.resolve_left hf;have e:fK M n=(0,{ M with J9:=ins n M.J9 }):=by rw[fK,iN (by rw[ho];decide),ve.2 hf];dsimp only;rw[iP ag]
 rw[e] at hw;have G:∀x,x≠n->gI { M with J9:=ins n M.J9 } x=gI M x:=λx u=>by rw[It,sP,sP];dsimp only;rw[AG];constructor;rintro⟨h1,h2,h3,h4,h5,h6⟩;exact⟨h1,h2,h3,h4,λh=>h5 (.inr h),h6⟩;rintro⟨h1,h2,h3,h4,h5,h6⟩;exact⟨h1,h2,h3,h4,λh=>h.elim u h5,h6⟩
 have I:¬eA { M with J9:=ins n M.J9 } n:=λh=>by rcases h with h|h;exact hf h;exact (sP.1 h).2.2.2.2.1 (AG.2 (.inl rfl))
 have J:∀x,x≠n->dU D { M with J9:=ins n M.J9 } x=dU D M x:=λx u=>CX { M with J9:=ins n M.J9 } ho ho rfl (G x u);have E:∀x,x≠n->(eA { M with J9:=ins n M.J9 } x↔eA M x):=λx u=>Dk { M with J9:=ins n M.J9 } rfl (G x u);refine⟨_,e,⟨hw,ho,rfl,rfl,rfl,rfl,λh=>?_,rfl,λx _ u=>J x u,λx _ u=>E x u,λx u=>?_,λy U=>(nomatch U),λ_=>I⟩,J q λe=>R e.symm,E q λe=>R e.symm,zM _⟩;exact h;by_cases hxn:x=n;subst hxn;exact absurd (.inr u) I;rw[G x hxn] at u;exact u
end
noncomputable def dW (D:dV) (M:eH) (k v:Nat) (p:Int):dY×Int:=
 if (dU D M p).2.2≠0 then (iV,(dU D M p).2.2) else i3 (dU D M p).1 (dU D M p).2.1 k v
noncomputable def ee (k v:Nat) (M:eH) (p:Int) (n:dY):IV×eH:=
 if (fi n k v).2.2≠0 then ((0,2),M)
 else if p≠0/\(jJ M p (fi n k v).1 (fi n k v).2.1).1≠10 then ((p,(jJ M p (fi n k v).1 (fi n k v).2.1).1),(jJ M p (fi n k v).1 (fi n k v).2.1).2)
 else if (gF M (fi n k v).1 (fi n k v).2.1).1.2=0/\p≠0 then (((gF M (fi n k v).1 (fi n k v).2.1).1.1,(fK (gF M (fi n k v).1 (fi n k v).2.1).2 p).1),(fK (gF M (fi n k v).1 (fi n k v).2.1).2 p).2)
 else gF M (fi n k v).1 (fi n k v).2.1
structure iQ (n:dY) (k v:Nat):Prop where
 right:fW n k v
 J8:∀ a∈n.J8,eX a
 Q2:∀ a∈n.Q2,eX a
 Q1:∀ x∈n.Q1,x<4294967296
def iQ.load{k v:Nat}{n:dY}(h:iQ n k v)(u:dU D M p=(i9 n,gJ n,0)):dW D M k v p=(n,0):=by unfold dW;rw[u];exact (iN λh=>h rfl).trans (qvz h.right h.Q1)
def qsD{k v:Nat}{n:dY}(hW:M.Wf)(ho:M.Q5=false)(hn:iQ n k v)(hp:p=0\/eA M p)(hf:M.Q3≠[]): ∃q M',ee k v M p n=((q,0),M')/\mK D M M' q (if p=0 then q else p) (some (i9 n,gJ n))/\(q=p\/¬eA M q)/\M.Q3.length<=M'.Q3.length+1/\(p∈M.Q0.map (·.1)->q=p/\M'.Q3=M.Q3):=by
 have hw:fi n k v=(i9 n,gJ n,0):=(by unfold fi;rw[iP hn.right]);have hB:=qps hn.J8 hn.Q2;have hl:=(C3 hn.right).2;have hk:0<=i9 n/\i9 n<256:=(by unfold i9;split<;>exact⟨oM,oM⟩);unfold ee;rw[hw];dsimp only;rw[iN λh=>h rfl];obtain⟨q,fr,J⟩:∃q fr,M.Q3=q::fr:=by
  cases e:M.Q3 with
  | nil=>exact absurd e hf
  | cons q fr=>exact⟨q,fr,rfl⟩
 obtain⟨M1,e1,u,R,ac,_⟩:=qtd (D:=D) hW ho hk hB hl J;rcases hp with rfl|hp;rw[iN λh=>h.1 rfl,iN λh=>h.2 rfl,e1];refine⟨q,M1,rfl,by rw[iP rfl];exact u,.inr R,by rw[J,ac];exact zM _,λh=>?_⟩;have:=(Cb hW (.inl h)).1;omega;have G:p≠0:=(by have:=(Cb hW hp).1;omega);by_cases hfp:p∈M.Q0.map (·.1);obtain⟨M2,e2,E,U,_⟩:=qvu (D:=D) hW ho hk hB hl hfp;rw[e2,iP ⟨G,(show (0:Int)≠10 by decide)⟩];exact⟨p,M2,rfl,by rw[iN G];exact E,.inl rfl,by rw[U];omega,λ_=>⟨rfl,U⟩⟩;rw[qw9 ho hfp,iN λh=>h.2 rfl,e1,iP ⟨rfl,G⟩];have V:p≠q:=λe=>R (e▸hp);have aj:eA M1 p:=(u.use p V V).2 hp;obtain⟨M2,e2,E,ak,al,U⟩:=qlP (D:=D) u.wf u.Q5 aj V;dsimp only;rw[e2];refine⟨q,M2,rfl,?_,.inr R,by rw[J,yI,<- ac];omega,λh=>absurd h hfp⟩;rw[iN G];exact⟨E.wf,E.Q5,E.Q4.trans u.Q4,E.J1.trans u.J1,E.Q7.trans u.Q7,E.x5.trans u.x5,λh=>E.y7 (u.y7 h),E.x8.trans u.x8,λx I aa=>(E.rest x I aa).trans (u.rest x I I),λx I aa=>(E.use x I aa).trans (u.use x I I),λx I=>u.mT x (E.mT x I),λy hy=>by
  have:=u.wrote y hy;exact⟨ak.trans this.1,al.2 this.2⟩,λh=>E.left h⟩
section
structure Grown where
 x7:Int
 Q0:Bool
 key:Key
 x6:Int
def px:Grown:=⟨0,false,[],0⟩
def fX {α:Type} (l:List α) (i:Nat) (x:α):List α:=l.take i++[x]++l.drop i
def fq (n:dY) (k v:Nat):I1:=if n.Q6 then (n.J8.length,(eE k v).1) else (n.Q1.length,(eE k v).2)
def eK (n:dY) (mid:Nat):dY×dY×Key:=
 if n.Q6 then ({ n with J8:=n.J8.take mid,Q2:=n.Q2.take mid },{ n with J8:=n.J8.drop mid,Q2:=n.Q2.drop mid },n.J8.getD mid [])
 else ({ n with Q1:=n.Q1.take mid,J8:=n.J8.take (mid-1) },{ n with Q1:=n.Q1.drop mid,J8:=n.J8.drop mid },n.J8.getD (mid-1) [])
noncomputable def gC (k v:Nat) (M:eH) (p:Int) (n:dY) (Q0:Bool):(Grown×Int)×eH:=
 if (fq n k v).1>(fq n k v).2 then
  if (ee k v M 0 (eK n ((fq n k v).1 / 2)).2.1).1.2≠0 then ((px,(ee k v M 0 (eK n ((fq n k v).1 / 2)).2.1).1.2),(ee k v M 0 (eK n ((fq n k v).1 / 2)).2.1).2)
  else ((⟨(ee k v (ee k v M 0 (eK n ((fq n k v).1 / 2)).2.1).2 p (eK n ((fq n k v).1 / 2)).1).1.1,Q0,(eK n ((fq n k v).1 / 2)).2.2,(ee k v M 0 (eK n ((fq n k v).1 / 2)).2.1).1.1⟩,
    (ee k v (ee k v M 0 (eK n ((fq n k v).1 / 2)).2.1).2 p (eK n ((fq n k v).1 / 2)).1).1.2),
    (ee k v (ee k v M 0 (eK n ((fq n k v).1 / 2)).2.1).2 p (eK n ((fq n k v).1 / 2)).1).2)
 else ((⟨(ee k v M p n).1.1,Q0,[],0⟩,(ee k v M p n).1.2),(ee k v M p n).2)
def gT (n:dY) (c:Nat) (g:Grown):dY:=
 if g.x6≠0 then { n with Q1:=fX (n.Q1.set c g.x7) (c+1) g.x6,J8:=fX n.J8 c g.key } else { n with Q1:=n.Q1.set c g.x7 }
noncomputable def iD (D:dV) (k v:Nat) (key val:Key):Nat->eH->Int->(Grown×Int)×eH
 | 0,M,_=>((px,-1),M)
 | f+1,M,p=>
  if (dW D M k v p).2≠0 then ((px,(dW D M k v p).2),M)
  else if (dW D M k v p).1.Q6 then
   if (dW D M k v p).1.J8[ed (dW D M k v p).1.J8 key]?=some key then gC k v M p { (dW D M k v p).1 with Q2:=(dW D M k v p).1.Q2.set (ed (dW D M k v p).1.J8 key) val } false
   else gC k v M p { (dW D M k v p).1 with J8:=fX (dW D M k v p).1.J8 (ed (dW D M k v p).1.J8 key) key,Q2:=fX (dW D M k v p).1.Q2 (ed (dW D M k v p).1.J8 key) val } true
  else if (iD D k v key val f M ((dW D M k v p).1.Q1.getD (eP (dW D M k v p).1.J8 key) 0)).1.2≠0 then
   ((px,(iD D k v key val f M ((dW D M k v p).1.Q1.getD (eP (dW D M k v p).1.J8 key) 0)).1.2),(iD D k v key val f M ((dW D M k v p).1.Q1.getD (eP (dW D M k v p).1.J8 key) 0)).2)
  else if (iD D k v key val f M ((dW D M k v p).1.Q1.getD (eP (dW D M k v p).1.J8 key) 0)).1.1.x7=(dW D M k v p).1.Q1.getD (eP (dW D M k v p).1.J8 key) 0/\(iD D k v key val f M ((dW D M k v p).1.Q1.getD (eP (dW D M k v p).1.J8 key) 0)).1.1.x6=0 then
   ((⟨p,(iD D k v key val f M ((dW D M k v p).1.Q1.getD (eP (dW D M k v p).1.J8 key) 0)).1.1.Q0,[],0⟩,0),(iD D k v key val f M ((dW D M k v p).1.Q1.getD (eP (dW D M k v p).1.J8 key) 0)).2)
  else gC k v (iD D k v key val f M ((dW D M k v p).1.Q1.getD (eP (dW D M k v p).1.J8 key) 0)).2 p (gT (dW D M k v p).1 (eP (dW D M k v p).1.J8 key) (iD D k v key val f M ((dW D M k v p).1.Q1.getD (eP (dW D M k v p).1.J8 key) 0)).1.1) (iD D k v key val f M ((dW D M k v p).1.Q1.getD (eP (dW D M k v p).1.J8 key) 0)).1.1.Q0
structure iK where
 x7:Int
 size:Nat
 y9:gr
 cC:IT
abbrev ij:=Key×iK
def eM (L:gr):dY:=⟨true,L.map (·.1),L.map (·.2),[]⟩
def dZ (es:List ij):dY:=⟨false,(es.map (·.1)).tail,[],es.map (·.2.x7)⟩
structure gg (es:List ij):Prop where
 pair:es.Pairwise λa b=>fT a.1 b.1/\∀ x∈a.2.y9,fT x.1 b.1
 low:∀ e∈es,∀ x∈e.2.y9,mr e.1 x.1
def minOf (k v:Nat) (h:Nat):Nat:=if h=0 then (eE k v).1 / 2 else (eE k v).2 / 2
def Has (D:dV) (M:eH) (k v:Nat):Nat->iK->Prop
 | 0,s=>s.cC=[s.x7]/\s.size=s.y9.length/\iQ (eM s.y9) k v/\dU D M s.x7=(3,gJ (eM s.y9),0)
 | h+1,s=>∃u:List ij,(u.map (·.1)).head?=some []/\s.size=u.length/\s.y9=u.flatMap (·.2.y9)/\s.cC=s.x7::u.flatMap (·.2.cC)/\iQ (dZ u) k v/\dU D M s.x7=(4,gJ (dZ u),0)/\gg u/\
   ∀e∈u,Has D M k v h e.2/\minOf k v h<=e.2.size
def BD(x:Key):mr [] x:=by unfold mr fT;cases x<;>simp[cmpL]
def qma{x:Key}:¬fT x []:=BD x
section
variable {D:dV} {M M':eH} {k v:Nat}
def Has.mem:∀ {h:Nat} {s:iK},Has D M k v h s->s.x7∈s.cC
 | 0,s,u=>by rw[u.1];simp
 | h+1,s,⟨G,_,_,_,E,_⟩=>by rw[E];simp
def Has.j1:∀ {h:Nat} {s:iK},Has D M k v h s->(∀x∈s.cC,dU D M' x=dU D M x)->Has D M' k v h s
 | 0,s,⟨E,I,u,J⟩,G=>⟨E,I,u,by rw[G s.x7 (by rw[E];simp)];exact J⟩
 | h+1,s,⟨V,h0,E,I,u,J,h5,h6,U⟩,G=>⟨V,h0,E,I,u,J,by rw[G s.x7 (by rw[u];simp)];exact h5,h6,λe R=>⟨(U e R).1.j1 λx hx=>G x (by rw[u];exact zN _ (yK.2 ⟨e,R,hx⟩)),(U e R).2⟩⟩
def Has.read:∀ {h:Nat} {s:iK},Has D M k v h s->∀x∈s.cC,(dU D M x).2.2=0
 | 0,s,⟨E,J,G,I⟩,x,u=>by rw[E] at u;rw[zE.1 u,I]
 | h+1,s,⟨es,h0,E,J,G,I,R,h6,U⟩,x,u=>by rw[G] at u;rcases zG.1 u with rfl|u;rw[R];obtain⟨e,V,u⟩:=yK.1 u;exact (U e V).1.read x u
def Has.J6(u:M.Q5=false){s:iK}(E:Has D M k v h s):∀x∈s.cC,eA M x:=λx G=>Gk u (E.read x G)
def fW.zu(h:fW (eM L) k v):L≠[]:=λe=>by
 have:=h.2.2.2;rw[iP (show (eM L).Q6=true from rfl)] at this;have u:=this.2.1;rw[e] at u;exact absurd u oM
def fW.y6{es:List ij}(h:fW (dZ es) k v):2<=es.length/\es.length<=(eE k v).2:=by
 have:=h.2.2.2;rw[iN (show ¬(dZ es).Q6=true from λe=>nomatch e)] at this;have u:=this.2.2.1;have E:=this.2.2.2.1;have e:(dZ es).Q1.length=es.length:=(by show (es.map _).length=_;rw[zK]);rw[e] at u E;exact⟨u,E⟩
def Has.ne:∀ {h:Nat} {s:iK},Has D M k v h s->s.y9≠[]
 | 0,s,⟨I,u,E,G⟩=>E.right.zu
 | h+1,s,⟨J,U,I,u,E,G,V,h6,R⟩=>λe=>by
  have:=G.right.y6
  cases J with
  | nil=>simp at this
  | cons a r=>
   rw[u,yH] at e;exact (R a oL).1.ne (append_eq_nil_iff.1 e).1
def gg.mid{A B:List ij}{e:ij}(h:gg (A++e::B)):(∀a∈A,∀x∈a.2.y9,fT x.1 e.1)/\(∀b∈B,fT e.1 b.1/\(∀x∈e.2.y9,fT x.1 b.1)/\∀y∈b.2.y9,mr b.1 y.1):=by
 have u:=pairwise_append.1 h.pair;refine⟨λa G x I=>(u.2.2 a G e oL).2 x I,λb E=>?_⟩;have:=(yJ.1 u.2.1).1 b E;exact⟨this.1,this.2,h.low b (by simp[E])⟩
def gg.sort:∀ {es:List ij},gg es->(∀e∈es,fD e.2.y9)->fD (es.flatMap (·.2.y9))
 | [],_,_=>.nil
 | e::es,h,G=>by rw[yH,fD.tZ];have I:=yJ.1 h.pair;refine⟨G e oL,gg.sort ⟨I.2,λe u=>h.low e (zN _ u)⟩ λe u=>G e (zN _ u),λx R y E=>?_⟩;obtain⟨b,J,E⟩:=yK.1 E;exact sq ((I.1 b J).2 x R) (h.low b (zN _ J) y E)
def Has.sort:∀ {h:Nat} {s:iK},Has D M k v h s->fD s.y9
 | 0,s,⟨G,u,E,I⟩=>E.right.2.2.1
 | h+1,s,⟨V,h0,G,u,E,I,h5,J,R⟩=>by rw[u];exact J.sort λe U=>(R e U).1.sort
def mI (k v:Nat) (L:gr):Prop:=∀x∈L,x.1.length=k/\x.2.length=v/\eX x.1/\eX x.2
def Has.xa:∀ {h:Nat} {s:iK},Has D M k v h s->mI k v s.y9
 | 0,s,⟨I,G,E,J⟩=>λx u=>⟨E.right.1 x.1 (zY u),E.right.2.1 x.2 (zY u),E.J8 x.1 (zY u),E.Q2 x.2 (zY u)⟩
 | h+1,s,⟨V,h0,I,G,E,J,h5,h6,R⟩=>λx u=>by rw[G] at u;obtain⟨e,U,u⟩:=yK.1 u;exact (R e U).1.xa x u
def Bc(E:mI k v L)(G:fD L)(I:1<=L.length)(J:L.length<=(eE k v).1):iQ (eM L) k v:=by refine⟨⟨λa u=>?_,λa u=>?_,G,?_⟩,λa u=>?_,λa u=>?_,λx h=>nomatch h⟩;obtain⟨x,h,rfl⟩:=mem_map.1 u;exact (E x h).1;obtain⟨x,h,rfl⟩:=mem_map.1 u;exact (E x h).2.1;rw[iP (show (eM L).Q6=true from rfl)];refine⟨rfl,?_,?_,?_⟩;show 1<=(L.map _).length;rw[zK];exact I;show (L.map _).length<=_;rw[zK];exact J;show (L.map _).length=(L.map _).length;rw[zK,zK];obtain⟨x,h,rfl⟩:=mem_map.1 u;exact (E x h).2.2.1;obtain⟨x,h,rfl⟩:=mem_map.1 u;exact (E x h).2.2.2
def qzv{es:List ij}(G:∀a∈(es.map (·.1)).tail,a.length=k/\eX a)(J:fY (es.map (·.1)).tail)(R:2<=es.length)(U:es.length<=(eE k v).2)(I:∀e∈es,2<=e.2.x7/\e.2.x7<4294967296):iQ (dZ es) k v:=by refine⟨⟨λa h=>(G a h).1,λa h=>(nomatch h),J,?_⟩,λa h=>(G a h).2,λa h=>(nomatch h),λx u=>?_⟩;rw[iN (show ¬(dZ es).Q6=true from λe=>nomatch e)];have e1:(dZ es).Q1.length=es.length:=(by show (es.map _).length=_;rw[zK]);have V:(dZ es).J8.length=es.length-1:=(by show ((es.map _).tail).length=_;rw[length_tail,zK]);refine⟨λx u=>?_,rfl,by rw[e1];exact R,by rw[e1];exact U,by rw[e1,V];omega⟩;obtain⟨e,E,rfl⟩:=mem_map.1 u;exact (I e E).1;obtain⟨e,E,rfl⟩:=mem_map.1 u;exact (I e E).2
def gg.rising{es:List ij}(h:gg es):fY (es.map (·.1)).tail:=by have u:(es.map (·.1)).Pairwise fT:=pairwise_map.2 (h.pair.imp λh=>h.1);exact List.Pairwise.sublist (tail_sublist _) u
structure Step (D:dV) (M M':eH) (P P':IT):Prop where
 wf:M'.Wf
 Q5:M'.Q5=false
 Q4:M'.Q4=M.Q4
 J1:M'.J1=M.J1
 Q7:M'.Q7=M.Q7
 x5:M'.x5=M.x5
 y7:M.y7->M'.y7
 x8:M'.x8=M.x8
 rest:∀ x,eA M x->x∉P->dU D M' x=dU D M x/\eA M' x/\x∉P'
 use:∀ x,eA M' x->x∈P'\/(eA M x/\x∉P)
 has:∀ x∈P',eA M' x
 new:∀ x∈P',x∈P\/¬ eA M x
 nodup:P'.Nodup
 mT:∀ x,gI M' x=true->gI M x=true
def Step.refl(E:M.Wf)(G:M.Q5=false){P:IT}(I:∀x∈P,eA M x)(J:P.Nodup):Step D M M P P:=
 ⟨E,G,rfl,rfl,rfl,rfl,id,rfl,λx u R=>⟨rfl,u,R⟩,λx u=>by by_cases h:x∈P;exact .inl h;exact .inr ⟨u,h⟩,I,λx u=>.inl u,J,λx u=>u⟩
def Step.perm{P P' Q J:IT}(h:Step D M M' P P')(I:P.Perm Q)(u:P'.Perm J):Step D M M' Q J:=
 ⟨h.wf,h.Q5,h.Q4,h.J1,h.Q7,h.x5,h.y7,h.x8,λx E R=>by obtain⟨U,V,h3⟩:=h.rest x E λG=>R (I.mem_iff.1 G);exact⟨U,V,λG=>h3 (u.mem_iff.2 G)⟩,λx E=>(h.use x E).imp (λh=>u.mem_iff.1 h) λh=>⟨h.1,λG=>h.2 (I.mem_iff.2 G)⟩,λx E=>h.has x (u.mem_iff.2 E),λx E=>(h.new x (u.mem_iff.2 E)).imp (λh=>I.mem_iff.1 h) id,u.nodup_iff.1 h.nodup,h.mT⟩
def Step.beside{P P' Z:IT}(h:Step D M M' P P')(U:∀x∈Z,eA M x)(hn:(Z++P).Nodup):Step D M M' (Z++P) (Z++P'):=by have V:=yM.1 hn;have G:∀x∈Z,x∉P:=λx u J=>V.2.2 x u x J rfl;refine⟨h.wf,h.Q5,h.Q4,h.J1,h.Q7,h.x5,h.y7,h.x8,λx u J=>?_,λx u=>?_,λx u=>?_,λx u=>?_,?_,h.mT⟩;obtain⟨I,R,h3⟩:=h.rest x u λE=>J (zI _ E);exact⟨I,R,λE=>(zD.1 E).elim (λE=>J (zH _ E)) h3⟩;rcases h.use x u with I|⟨I,R⟩;exact .inl (zI _ I);by_cases hz:x∈Z;exact .inl (zH _ hz);exact .inr ⟨I,λE=>(zD.1 E).elim hz R⟩;rcases zD.1 u with u|u;exact (h.rest x (U x u) (G x u)).2.1;exact h.has x u;rcases zD.1 u with u|u;exact .inl (zH _ u);exact (h.new x u).imp (λh=>zI _ h) id;rw[yM];exact⟨V.1,h.nodup,λx u y hy e=>(h.rest x (U x u) (G x u)).2.2 (e▸hy)⟩
def Step.trans{M1:eH}{P Q R:IT}(h:Step D M M1 P Q)(g:Step D M1 M' Q R):Step D M M' P R:=
 ⟨g.wf,g.Q5,g.Q4.trans h.Q4,g.J1.trans h.J1,g.Q7.trans h.Q7,g.x5.trans h.x5,λx=>g.y7 (h.y7 x),g.x8.trans h.x8,λx E J=>by
  obtain⟨u,G,I⟩:=h.rest x E J;obtain⟨U,V,g3⟩:=g.rest x G I;exact⟨U.trans u,V,g3⟩,λx E=>by
  rcases g.use x E with u|⟨u,G⟩;exact .inl u;exact (h.use x u).elim (λI=>absurd I G) .inr,g.has,λx E=>by
  rcases g.new x E with u|u;exact h.new x u;by_cases hP:x∈P;exact .inl hP;by_cases hu:eA M x;exact absurd (h.rest x hu hP).2.1 u;exact .inr hu,g.nodup,λx E=>h.mT x (g.mT x E)⟩
def mK.step(R:M.Q5=false)(h:mK D M M' q p (some r))(U:eA M p)(G:q=p\/¬eA M q):Step D M M' [p] [q]:=by
 have J:=h.wrote r rfl;refine⟨h.wf,h.Q5,h.Q4,h.J1,h.Q7,h.x5,h.y7,h.x8,λx I u=>?_,λx I=>?_,λx I=>?_,λx I=>?_,oL,h.mT⟩;have u:x≠p:=(oP u);have E:x≠q:=λe=>by rcases G with G|G;exact u (e.trans G);exact G (e▸I)
 exact⟨h.rest x E u,(h.use x E u).2 I,by simpa using E⟩;by_cases E:x=q;exact .inl (by simp[E]);by_cases u:x=p;subst u;exact absurd I (h.left λe=>E e);exact .inr ⟨(h.use x E u).1 I,by simpa using u⟩;rw[zE.1 I];exact J.2;rw[zE.1 I];rcases G with G|G;exact .inl (by simp[G]);exact .inr G
def mK.Q0(J:M.Q5=false)(h:mK D M M' q q (some r))(G:¬eA M q):Step D M M' [] [q]:=by have I:=h.wrote r rfl;refine⟨h.wf,h.Q5,h.Q4,h.J1,h.Q7,h.x5,h.y7,h.x8,λx E _=>?_,λx E=>?_,λx E=>?_,λx E=>?_,oL,h.mT⟩;have u:x≠q:=λe=>G (e▸E);exact⟨h.rest x u u,(h.use x u u).2 E,by simpa using u⟩;by_cases u:x=q;exact .inl (by simp[u]);exact .inr ⟨(h.use x u u).1 E,oL⟩;rw[zE.1 E];exact I.2;rw[zE.1 E];exact .inr G
end
end
section
section
variable {D:dV} {M M':eH} {k v:Nat}
def GK{n:dY}(E:M.Wf)(G:M.Q5=false)(I:iQ n k v)(h:eA M p)(J:M.Q3≠[]): ∃q M',ee k v M p n=((q,0),M')/\Step D M M' [p] [q]/\dU D M' q=(i9 n,gJ n,0)/\M.Q3.length<=M'.Q3.length+1/\(p∈M.Q0.map (·.1)->q=p/\M'.Q3=M.Q3):=by obtain⟨q,M',e,t,R,U,V⟩:=qsD (D:=D) E G I (.inr h) J;have u:p≠0:=(by have:=(Cb E h).1;omega);rw[iN u] at t;exact⟨q,M',e,t.step G h R,(t.wrote _ rfl).1,U,V⟩
def Fq{n:dY}(G:M.Wf)(u:M.Q5=false)(I:iQ n k v)(J:M.Q3≠[]): ∃q M',ee k v M 0 n=((q,0),M')/\Step D M M' [] [q]/\dU D M' q=(i9 n,gJ n,0)/\M.Q3.length<=M'.Q3.length+1/\q≠0:=by obtain⟨q,M',e,t,R,U,_⟩:=qsD (D:=D) G u I (.inl rfl) J;rw[iP rfl] at t;have E:=t.wrote _ rfl;have V:=(Cb t.wf E.2).1;have h:¬eA M q:=R.resolve_left oJ;exact⟨q,M',e,t.Q0 u h,E.1,U,oJ⟩
def qmi{n:dY}{Q0:Bool}(h:M.Wf)(u:M.Q5=false)(E:iQ n k v)(U:(fq n k v).1<=(fq n k v).2)(G:eA M p)(I:M.Q3≠[]): ∃q M',gC k v M p n Q0=((⟨q,Q0,[],0⟩,0),M')/\Step D M M' [p] [q]/\dU D M' q=(i9 n,gJ n,0)/\M.Q3.length<=M'.Q3.length+1:=by obtain⟨q,M',e,st,J,R,_⟩:=GK (D:=D) h u E G I;refine⟨q,M',?_,st,J,R⟩;unfold gC;rw[iN,e]
def qqu{n:dY}{Q0:Bool}{mid:Nat}(hW:M.Wf)(ho:M.Q5=false)(E:(fq n k v).1 / 2=mid)(h1:iQ (eK n mid).1 k v)(h2:iQ (eK n mid).2.1 k v)(hs:(fq n k v).1>(fq n k v).2)(hp:eA M p)(hf:2<=M.Q3.length): ∃q o M',gC k v M p n Q0=((⟨q,Q0,(eK n mid).2.2,o⟩,0),M')/\o≠0/\Step D M M' [p] [q,o]/\dU D M' q=(i9 (eK n mid).1,gJ (eK n mid).1,0)/\dU D M' o=(i9 (eK n mid).2.1,gJ (eK n mid).2.1,0)/\M.Q3.length<=M'.Q3.length+2:=by
 subst E;obtain⟨o,M1,e1,u,U,G,V⟩:=Fq (D:=D) hW ho h2 (λe=>by rw[e] at hf;exact absurd hf oM);have s1:=u.beside (Z:=[p]) (λx hx=>by rw[zE.1 hx];exact hp) oL;have ab:eA M1 p:=s1.has p oL;obtain⟨q,M2,e2,I,ac,an,_⟩:=GK (D:=D) u.wf u.Q5 h1 ab (λe=>by rw[e] at G;simp at G;omega);have J:o≠p:=λe=>by rcases u.new o oL with h|h;cases h;exact h (e▸hp)
 have R:eA M1 o:=u.has o oL;have s2:=I.beside (Z:=[o]) (λx hx=>by rw[zE.1 hx];exact R) (oP J);refine⟨q,o,M2,?_,V,(s1.perm (.refl _) (List.Perm.swap _ _ _)).trans (s2.perm (.refl _) (List.Perm.swap _ _ _)),ac,?_,oJ⟩;unfold gC;rw[iP hs,e1];dsimp only;rw[iN λh=>h rfl,e2];rw[(I.rest o R (oP J)).1];exact U
def qAv{val:Key}{i:Nat}(h:(eh L)[i]?=some key):(⟨(eM L).Q6,eh L,(eM L).Q2.set i val,(eM L).Q1⟩:dY)=eM (L.set i (key,val)):=by
 unfold eM;rw[map_set,map_set];have:(L.map (·.1)).set i key=L.map (·.1):=by obtain⟨u,E⟩:=zP.1 h;rw[<- E];exact set_getElem_self u
 rw[this]
def qzG{val:Key}{i:Nat}:(⟨(eM L).Q6,fX (eh L) i key,fX (eM L).Q2 i val,(eM L).Q1⟩:dY)=eM (L.take i++[(key,val)]++L.drop i):=by unfold eM fX;simp only[xO,xQ,xR,xP,map_nil]
def qwQ{mid:Nat}(h:mid<L.length):eK (eM L) mid=(eM (L.take mid),eM (L.drop mid),L[mid].1):=by unfold eK;rw[iP (show (eM L).Q6=true from rfl)];unfold eM;simp only[xQ,xR,Prod.mk.injEq,true_and];rw[yR,zQ,zA h];rfl
def Ea:fq (eM L) k v=(L.length,(eE k v).1):=by unfold fq;rw[iP (show (eM L).Q6=true from rfl)];show ((L.map _).length,_)=_;rw[zK]
def mI.sub{L':gr}(h:mI k v L)(u:∀x∈L',x∈L):mI k v L':=λx E=>h x (u x E)
def fD.take{L:gr}(h:fD L)(n:Nat):fD (L.take n):=by unfold fD eh;rw[xQ];exact fY.take h n
def fD.drop{L:gr}(h:fD L)(n:Nat):fD (L.drop n):=by unfold fD eh;rw[xR];exact fY.drop h n
def BY(h:iQ (eM L) k v)(u:dU D M q=(3,gJ (eM L),0)):Has D M k v 0 ⟨q,L.length,L,[q]⟩:=⟨rfl,rfl,h,u⟩
structure ww (D:dV) (M:eH) (k v:Nat) (h:Nat) (s:iK) (key val:Key) (g:Grown) (M':eH):Prop where
 Q0:g.Q0=decide (key∉eh s.y9)
 Q3:M.Q3.length<=M'.Q3.length+2*(h+1)
 DA:(g.x6=0/\∃ n P,Has D M' k v h ⟨g.x7,n,gf key val s.y9,P⟩/\Step D M M' s.cC P/\s.size<=n)\/
  (g.x6≠0/\∃ n1 L1 P1 n2 L2 P2,Has D M' k v h ⟨g.x7,n1,L1,P1⟩/\Has D M' k v h ⟨g.x6,n2,L2,P2⟩/\L1++L2=gf key val s.y9/\(∀ x∈L1,fT x.1 g.key)/\(∀ y∈L2,mr g.key y.1)/\g.key.length=k/\eX g.key/\minOf k v h<=n1/\minOf k v h<=n2/\Step D M M' s.cC (P1++P2))
structure iE (k v:Nat):Prop where
 Q6:2<=(eE k v).1
 inner:4<=(eE k v).2
def qsl{L':gr}{val:Key}{Q0:Bool}(hc:iE k v)(hW:M.Wf)(ho:M.Q5=false)(hp:eA M p)(hf:2<=M.Q3.length)(V:mI k v L')(hs:fD L')(h1:1<=L'.length)(h2:L'.length<=(eE k v).1+1)(h3:L.length<=L'.length)(he:L'=gf key val L)(E:Q0=decide (key∉eh L)): ∃g M',gC k v M p (eM L') Q0=((g,0),M')/\ww D M k v 0 ⟨p,L.length,L,[p]⟩ key val g M':=by by_cases hb:L'.length<=(eE k v).1;have hn:=Bc V hs h1 hb;obtain⟨q,M',e,st,hr,hl⟩:=qmi (D:=D) (Q0:=Q0) hW ho hn (by rw[Ea];exact hb) hp (λe=>by rw[e] at hf;exact absurd hf oM);refine⟨_,M',e,E,by show M.Q3.length<=M'.Q3.length+2;omega,.inl ⟨rfl,L'.length,[q],?_,st,h3⟩⟩;rw[<- he];exact BY hn hr;have ak:L'.length=(eE k v).1+1:=oJ;have aw:=hc.Q6;have h:L'.length / 2<L'.length:=oJ;have hh:=qwQ h;have n1:iQ (eM (L'.take (L'.length / 2))) k v:=Bc (V.sub λx G=>yV G) (hs.take _) (by rw[yL];omega) (by rw[yL];omega);have n2:iQ (eM (L'.drop (L'.length / 2))) k v:=Bc (V.sub λx G=>yU G) (hs.drop _) (by rw[yB];omega) (by rw[yB];omega);obtain⟨q,o,M',e,ae,st,I,J,hl⟩:=qqu (D:=D) (k:=k) (v:=v) (p:=p) (Q0:=Q0) (mid:=L'.length / 2) (n:=eM L') hW ho (by rw[Ea]) (by rw[hh];exact n1) (by rw[hh];exact n2) (by rw[Ea];show L'.length>_;omega) hp hf;rw[hh] at e I J;have R:L'=L'.take (L'.length / 2)++L'.drop (L'.length / 2):=(xF _ _).symm;have hd:=zX h;have u:=hs;rw[R] at u;have u:=fD.tZ.1 u;have U:=V _ (zW h);refine⟨⟨q,Q0,L'[L'.length / 2].1,o⟩,M',e,E,by show M.Q3.length<=M'.Q3.length+2;omega,.inr ⟨ae,(L'.take (L'.length / 2)).length,_,[q],(L'.drop (L'.length / 2)).length,_,[o],BY n1 I,BY n2 J,by rw[<- R];exact he,λx G=>u.2.2 x G _ (by rw[hd];exact Is),λy hy=>?_,U.1,U.2.2.1,?_,?_,st⟩⟩;have h5:=u.2.1;rw[hd] at hy h5;rcases zG.1 hy with rfl|hy;exact rQ;exact tj (xm (x:=L'[L'.length / 2].1) (r:=eh _) h5 y.1 (zY hy));rw[yL];show (eE k v).1 / 2<=_;omega;rw[yB];show (eE k v).1 / 2<=_;omega
def vM{es:List ij}(u:(es.map (·.1)).head?=some [])(U:gg es):∃A e B,es=A++e::B/\A.length=eP ((es.map (·.1)).tail) key/\mr e.1 key/\(∀b∈B,fT key b.1)/\(es.map (·.2.x7)).getD (eP ((es.map (·.1)).tail) key) 0=e.2.x7:=by
 have V:=U.rising;have E:=AL ((es.map (·.1)).tail) key;have G:es≠[]:=λe=>by rw[e] at u;cases u
 have J:0<es.length:=length_pos_iff.2 G;have h:eP ((es.map (·.1)).tail) key<es.length:=(by rw[length_tail,zK] at E;omega);generalize R:eP ((es.map (·.1)).tail) key=c at h;have I:es=es.take c++es[c]::es.drop (c+1):=(by rw[<- zX h,xF]);refine⟨es.take c,es[c],es.drop (c+1),I,by rw[yL];omega,?_,λb hb=>?_,?_⟩;cases c with
 | zero=>
  have:es[0].1=[]:=by
   cases es with
   | nil=>cases u
   | cons a r=>simpa using u
  rw[this];exact BD _
 | succ c=>
  refine qnK (l:=(es.map (·.1)).tail) (k:=key) ?_;rw[R];have h1:(es.map (·.1)).tail[c]?=some es[c+1].1:=(by rw[List.getElem?_tail,zQ,zA h];rfl);refine yF (i:=c) ?_;rw[xB,iP];exact h1
 refine ql0 (l:=(es.map (·.1)).tail) V ?_;rw[R];have:(es.map (·.1)).tail.drop c=(es.drop (c+1)).map (·.1):=(by rw[<- drop_one,xE,xR,Nat.add_comm]);rw[this];exact zY hb;rw[yR,zQ,zA h];rfl
def ru{α:Type}{f:ij->List α}{A B:List ij}{e:ij}:(A++e::B).flatMap f=A.flatMap f++(f e++B.flatMap f):=by rw[yQ,yH]
def gg.put{A B:List ij}{e:ij}{s:iK}(h:gg (A++e::B))(J:mr e.1 key)(R:∀b∈B,fT key b.1)(V:∀x∈s.y9,x.1=key\/x∈e.2.y9):gg (A++(e.1,s)::B):=by have I:=pairwise_append.1 h.pair;have U:=yJ.1 I.2.1;refine⟨pairwise_append.2 ⟨I.1,yJ.2 ⟨λb u=>⟨(U.1 b u).1,λx G=>?_⟩,U.2⟩,λa ha b u=>?_⟩,λb u x G=>?_⟩;rcases V x G with E|E;rw[E];exact R b u;exact (U.1 b u).2 x E;rcases zG.1 u with rfl|u;exact I.2.2 a ha e oL;exact I.2.2 a ha b (by simp[u]);rcases zD.1 u with u|u;exact h.low b (by simp[u]) x G;rcases zG.1 u with rfl|u;rcases V x G with E|E;rw[E];exact J;exact h.low e oL x E;exact h.low b (by simp[u]) x G
def gg.yw{A B:List ij}{lo:Key}{s s1 s2:iK}(h:gg (A++(lo,s)::B))(I:s.y9=s1.y9++s2.y9)(h1:∀x∈s1.y9,fT x.1 m)(h2:∀y∈s2.y9,mr m y.1)(J:s1.y9≠[])(R:s2.y9≠[]):gg (A++(lo,s1)::(m,s2)::B):=by have hp:=pairwise_append.1 h.pair;have U:=yJ.1 hp.2.1;have V:=h.low (lo,s) oL;obtain⟨x1,aa⟩:=exists_mem_of_ne_nil _ J;obtain⟨y1,ab⟩:=exists_mem_of_ne_nil _ R;have hm:fT lo m:=Bp (V x1 (by show x1∈s.y9;rw[I];exact zH _ aa)) (h1 x1 aa);have ag:∀b∈B,fT m b.1:=λb u=>Bp (h2 y1 ab) ((U.1 b u).2 y1 (by show y1∈s.y9;rw[I];exact zI _ ab));refine⟨pairwise_append.2 ⟨hp.1,yJ.2 ⟨λb u=>?_,yJ.2 ⟨λb u=>⟨ag b u,λx E=>(U.1 b u).2 x (by show x∈s.y9;rw[I];exact zI _ E)⟩,U.2⟩⟩,λa ha b u=>?_⟩,λb u x E=>?_⟩;rcases zG.1 u with rfl|u;exact⟨hm,λx E=>h1 x E⟩;exact⟨(U.1 b u).1,λx E=>(U.1 b u).2 x (by show x∈s.y9;rw[I];exact zH _ E)⟩;have G:=hp.2.2 a ha (lo,s) oL;rcases zG.1 u with rfl|u;exact G;rcases zG.1 u with rfl|u;exact⟨qc G.1 hm,λx E=>qc (G.2 x E) hm⟩;exact hp.2.2 a ha b (by simp[u]);rcases zD.1 u with u|u;exact h.low b (by simp[u]) x E;rcases zG.1 u with rfl|u;exact V x (by show x∈s.y9;rw[I];exact zH _ E);rcases zG.1 u with rfl|u;exact h2 x E;exact h.low b (by simp[u]) x E
def DD{es:List ij}:fq (dZ es) k v=(es.length,(eE k v).2):=by unfold fq;rw[iN (show ¬(dZ es).Q6=true from λe=>nomatch e)];show ((es.map _).length,_)=_;rw[zK]
def ko:List ij->List ij
 | []=>[]
 | e::r=>([],e.2)::r
def qyh(es:List ij):dZ (ko es)=dZ es:=by cases es<;>rfl
def qwC{es:List ij}{mid:Nat}(G:1<=mid)(h:mid<es.length):eK (dZ es) mid=(dZ (es.take mid),dZ (ko (es.drop mid)),es[mid].1):=by
 unfold eK;rw[iN (show ¬(dZ es).Q6=true from λe=>nomatch e),qyh];unfold dZ;have e1:(es.map (·.1)).tail.take (mid-1)=((es.take mid).map (·.1)).tail:=by rw[<- drop_one,<- drop_one,xQ,drop_take]
 have u:(es.map (·.1)).tail.drop mid=((es.drop mid).map (·.1)).tail:=(by rw[<- drop_one,<- drop_one,xR,xE,xE,Nat.add_comm]);have E:(es.map (·.1)).tail.getD (mid-1) []=es[mid].1:=(by rw[yR,List.getElem?_tail,zQ,show mid-1+1=mid by omega,zA h];rfl);dsimp only;rw[e1,u,E];simp only[xQ,xR]
def gg.take{es:List ij}(h:gg es)(n:Nat):gg (es.take n):=⟨List.Pairwise.sublist (take_sublist n es) h.pair,λe u=>h.low e (yV u)⟩
def gg.drop{es:List ij}(h:gg es)(n:Nat):gg (es.drop n):=⟨List.Pairwise.sublist (drop_sublist n es) h.pair,λe u=>h.low e (yU u)⟩
def gg.ko{es:List ij}(h:gg es):gg (ko es):=by
 cases es with
 | nil=>exact h
 | cons e r=>
  have E:=yJ.1 h.pair;refine⟨yJ.2 ⟨λb u=>⟨?_,(E.1 b u).2⟩,E.2⟩,λb u x I=>?_⟩;have:=(E.1 b u).1
  cases G:b.1 with
  | nil=>rw[G] at this;exact absurd this qma
  | cons y l=>show cmpL [] (y::l)<0;simp[cmpL]
  rcases zG.1 u with rfl|u;exact BD _;exact h.low b (zN _ u) x I
def qof{α:Type}{f:iK->List α}(es:List ij):(ko es).flatMap (λe=>f e.2)=es.flatMap λe=>f e.2:=by cases es<;>rfl
def qqn{P:iK->Prop}{es:List ij}(h:∀e∈es,P e.2):∀e∈ko es,P e.2:=by
 cases es with
 | nil=>exact h
 | cons a r=>
  intro e u;rcases zG.1 u with rfl|u;exact h a oL;exact h e (zN _ u)
def qvA{es:List ij}(h:es≠[]):((ko es).map (·.1)).head?=some []:=by cases es with|nil=>exact absurd rfl h|cons a r=>rfl
def qxf(es:List ij):(ko es).length=es.length:=by cases es<;>rfl
def gR (k:Nat) (es:List ij):Prop:=∀e∈es.tail,e.1.length=k/\eX e.1
def gR.tail{es:List ij}(h:gR k es):∀a∈(es.map (·.1)).tail,a.length=k/\eX a:=λa u=>by rw[<- map_tail] at u;obtain⟨e,E,rfl⟩:=mem_map.1 u;exact h e E
def gR.of{es:List ij}(h:iQ (dZ es) k v):gR k es:=λe u=>by have:e.1∈(dZ es).J8:=(by show e.1∈(es.map (·.1)).tail;rw[<- map_tail];exact zY u);exact⟨h.right.1 _ this,h.J8 _ this⟩
def uO(u:M.Wf){x:Int}(h:eA M x):2<=x/\x<4294967296:=by have E:=Cb u h;have G:=u.n4;omega
def Al{es:List ij}(u:(es.map (·.1)).head?=some [])(E:iQ (dZ es) k v)(G:dU D M q=(4,gJ (dZ es),0))(I:gg es)(J:∀e∈es,Has D M k v h e.2/\minOf k v h<=e.2.size): Has D M k v (h+1) ⟨q,es.length,es.flatMap (·.2.y9),q::es.flatMap (·.2.cC)⟩:=⟨es,u,rfl,rfl,rfl,E,G,I,J⟩
def qyg{A B:List ij}{e:ij}{s1 s2:iK}(U:((A++e::B).map (·.1)).head?=some []){g:Grown}(u:g.x7=s1.x7)(E:g.x6=s2.x7)(G:g.key=m)(I:g.x6≠0):gT (dZ (A++e::B)) A.length g=dZ (A++(e.1,s1)::(m,s2)::B):=by
 unfold gT;rw[iP I,u,E,G];unfold dZ fX;dsimp only;congr 1;cases A with
 | nil=>simp
 | cons a A=>
  have:(A.map (·.1)++e.1::B.map (·.1)).take (A.length+1)=A.map (·.1)++[e.1]:=(by rw[show A.map (·.1)++e.1::B.map (·.1)=(A.map (·.1)++[e.1])++B.map (·.1) by simp];exact take_left' oL);have J:(A.map (·.1)++e.1::B.map (·.1)).drop (A.length+1)=B.map (·.1):=(by rw[show A.map (·.1)++e.1::B.map (·.1)=(A.map (·.1)++[e.1])++B.map (·.1) by simp];exact drop_left' oL);simp only[xO,xP,xK,tail_cons,yI];rw[this,J];simp
 have R:(A.map (·.2.x7)).length=A.length:=zK _;have h:(A.map (·.2.x7)++e.2.x7::B.map (·.2.x7)).set A.length s1.x7=(A.map (·.2.x7)++[s1.x7])++B.map (·.2.x7):=(by rw[set_append_right _ _ oJ,R,Nat.sub_self];simp);simp only[xO,xP];rw[h,take_left' oL,drop_left' oL];simp
def qwB{A B:List ij}{e:ij}{s1:iK}{g:Grown}(u:g.x7=s1.x7)(E:g.x6=0):gT (dZ (A++e::B)) A.length g=dZ (A++(e.1,s1)::B):=by unfold gT;rw[iN λh=>h E,u];unfold dZ;dsimp only;have G:(A.map (·.2.x7)).length=A.length:=zK _;congr 1;simp;simp only[xO,xP];rw[set_append_right _ _ oJ,G,Nat.sub_self];rfl
def ED{α:Type}{a x b z:List α}:(a++(x++b)).Perm ((a++b)++x):=by rw[zV];exact List.Perm.append_left a perm_append_comm
def Step.node{M1 I:eH}{a x y:IT}{Q:IT}(J:∀z∈p::(a++(x++b)),eA M z)(R:(p::(a++(x++b))).Nodup)(U:Step D M M1 x y)(V:Step D M1 I [p] Q):Step D M I (p::(a++(x++b))) (Q++(a++(y++b))):=by have h:(p::(a++(x++b))).Perm ((p::(a++b))++x):=(by rw[xK];exact (ED (z:=a)).cons p);have E:=(U.beside (Z:=p::(a++b)) (λz G=>J z (h.mem_iff.2 (zH _ G))) (h.nodup_iff.1 R));have u:((p::(a++b))++y).Perm ((a++(y++b))++[p]):=(by refine List.Perm.trans ?_ perm_append_comm;rw[xK];exact ((ED (z:=a)).symm).cons p);have s2:=V.beside (Z:=a++(y++b)) (λz G=>E.has z (u.mem_iff.2 (zH _ G))) (u.nodup_iff.1 E.nodup);exact ((E.perm (h.symm) u).trans s2).perm (.refl _) perm_append_comm
def qlV{es:List ij}{Q0:Bool}(hW:M.Wf)(J:M.Q5=false)(h0:(es.map (·.1)).head?=some [])(R:iQ (dZ es) k v)(u:es.length<=(eE k v).2)(hs:gg es)(G:∀e∈es,Has D M k v h e.2/\minOf k v h<=e.2.size)(hu:eA M p)(I:p∉es.flatMap (·.2.cC))(U:1<=M.Q3.length): ∃q M',gC k v M p (dZ es) Q0=((⟨q,Q0,[],0⟩,0),M')/\Step D M M' [p] [q]/\Has D M' k v (h+1) ⟨q,es.length,es.flatMap (·.2.y9),q::es.flatMap (·.2.cC)⟩/\M.Q3.length<=M'.Q3.length+1:=by obtain⟨q,M',e,st,hr,hl⟩:=qmi (D:=D) (Q0:=Q0) hW J R (by rw[DD];exact u) hu (λe=>by rw[e] at U;exact absurd U oM);refine⟨q,M',e,st,Al h0 R hr hs λb E=>⟨(G b E).1.j1 λx V=>?_,(G b E).2⟩,hl⟩;exact (st.rest x ((G b E).1.J6 J x V) λhm=>I (yK.2 ⟨b,E,by rw[<- zE.1 hm];exact V⟩)).1
def Ae{es:List ij}(G:M.Wf)(I:M.Q5=false)(J:gR k es)(R:gg es)(U:2<=es.length)(V:es.length<=(eE k v).2)(u:∀e∈es,Has D M k v h e.2):iQ (dZ es) k v:=
 qzv J.tail R.rising U V λe E=>uO G ((u e E).J6 I e.2.x7 (u e E).mem)
def qvB{es:List ij}(h:gR k es):gR k (ko es):=by cases es<;>exact h
def qwD{es:List ij}{Q0:Bool}(hc:iE k v)(hW:M.Wf)(ho:M.Q5=false)(h0:(es.map (·.1)).head?=some [])(hk:gR k es)(aC:es.length=(eE k v).2+1)(hs:gg es)(U:∀e∈es,Has D M k v h e.2/\minOf k v h<=e.2.size)(hu:eA M p)(ap:p∉es.flatMap (·.2.cC))(hf:2<=M.Q3.length): ∃q o m M' V L1 P1 n2 L2 P2,gC k v M p (dZ es) Q0=((⟨q,Q0,m,o⟩,0),M')/\o≠0/\Step D M M' [p] [q,o]/\Has D M' k v (h+1) ⟨q,V,L1,q::P1⟩/\Has D M' k v (h+1) ⟨o,n2,L2,o::P2⟩/\L1++L2=es.flatMap (·.2.y9)/\P1++P2=es.flatMap (·.2.cC)/\(∀x∈L1,fT x.1 m)/\(∀y∈L2,mr m y.1)/\m.length=k/\eX m/\minOf k v (h+1)<=V/\minOf k v (h+1)<=n2/\M.Q3.length<=M'.Q3.length+2:=by
 have aK:=hc.inner;have E:es.length / 2<es.length:=oJ;have hh:=qwC (es:=es) (mid:=es.length / 2) oJ E;have lt:(es.take (es.length / 2)).length=es.length / 2:=(by rw[yL];omega);have ld:(ko (es.drop (es.length / 2))).length=es.length-es.length / 2:=(by rw[qxf,yB]);have G:∀e∈es.take (es.length / 2),Has D M k v h e.2/\minOf k v h<=e.2.size:=λe u=>U e (yV u);have av:∀e∈ko (es.drop (es.length / 2)),Has D M k v h e.2/\minOf k v h<=e.2.size:=qqn (P:=λs=>Has D M k v h s/\minOf k v h<=s.size) λe u=>U e (yU u);have ab:=hs.take (es.length / 2);have ac:=(hs.drop (es.length / 2)).ko;have aw:gR k (es.take (es.length / 2)):=λe u=>by refine hk e ?_;rw[<- drop_one,drop_take] at u;rw[<- drop_one];exact yV u
 have ax:gR k (ko (es.drop (es.length / 2))):=qvB λe u=>by refine hk e ?_;rw[<- drop_one,xE,show es.length / 2+1=1+es.length / 2 by omega,<- xE] at u;rw[<- drop_one];exact yU u
 have V:=Ae hW ho aw ab oJ oJ λe u=>(G e u).1;have n2:=Ae hW ho ax ac oJ oJ λe u=>(av e u).1;have I:es.take (es.length / 2)++es.drop (es.length / 2)=es:=xF _ _;have hd:=zX E;obtain⟨q,o,M',e,az,st,ad,ae,hl⟩:=qqu (D:=D) (k:=k) (v:=v) (p:=p) (Q0:=Q0) (mid:=es.length / 2) (n:=dZ es) hW ho (by rw[DD]) (by rw[hh];exact V) (by rw[hh];exact n2) (by rw[DD];show es.length>_;omega) hu hf;rw[hh] at e ad ae;have fr:∀b∈es,∀x∈b.2.cC,dU D M' x=dU D M x:=λb J x R=>
  (st.rest x ((U b J).1.J6 ho x R) λhm=>ap (yK.2 ⟨b,J,by rw[<- zE.1 hm];exact R⟩)).1
 have f1:∀e∈es.take (es.length / 2),Has D M' k v h e.2/\minOf k v h<=e.2.size:=λe u=>⟨(G e u).1.j1 (fr e (yV u)),(G e u).2⟩;have f2:∀e∈ko (es.drop (es.length / 2)),Has D M' k v h e.2/\minOf k v h<=e.2.size:=qqn (P:=λs=>Has D M' k v h s/\minOf k v h<=s.size) λe u=>⟨(U e (yU u)).1.j1 (fr e (yU u)),(U e (yU u)).2⟩;have aA:((es.take (es.length / 2)).map (·.1)).head?=some []:=by
  rw[xQ];cases ag:es.map (·.1) with
  | nil=>rw[ag] at h0;cases h0
  | cons a r=>
   rw[ag] at h0;rw[show es.length / 2=(es.length / 2-1)+1 by omega,take_succ_cons];exact h0
 have aB:((ko (es.drop (es.length / 2))).map (·.1)).head?=some []:=qvA (by rw[hd];exact cons_ne_nil _ _);have ah:=hs;rw[<- I,hd] at ah;have hm:=ah.mid;have ai:=hk es[es.length / 2] (by rw[<- drop_one];exact yF (i:=es.length / 2-1) (by rw[xA,show 1+(es.length / 2-1)=es.length / 2 by omega,zA E]));have ep:(ko (es.drop (es.length / 2))).flatMap (·.2.y9)=(es.drop (es.length / 2)).flatMap (·.2.y9):=qof (f:=iK.y9) _;have eg:(ko (es.drop (es.length / 2))).flatMap (·.2.cC)=(es.drop (es.length / 2)).flatMap (·.2.cC):=qof (f:=iK.cC) _;have H2:=Al aB n2 ae ac f2;refine⟨q,o,es[es.length / 2].1,M',_,_,_,_,_,_,e,az,st,Al aA V ad ab f1,H2,?_,?_,λx R=>?_,λy hy=>?_,ai.1,ai.2,?_,?_,hl⟩;rw[ep,<- yQ,I];rw[eg,<- yQ,I];obtain⟨a,ha,R⟩:=yK.1 R;exact hm.1 a ha x R;rw[ep,hd] at hy;obtain⟨b,J,hy⟩:=yK.1 hy;rcases zG.1 J with rfl|J;exact hs.low _ (zW E) y hy;exact Ad (tj (hm.2 b J).1) ((hm.2 b J).2.2 y hy);show (eE k v).2 / 2<=_;omega;show (eE k v).2 / 2<=_;omega
def FV{A B:List ij}{e:ij}{s:iK}(h:gR k (A++e::B)):gR k (A++(e.1,s)::B):=by
 cases A with
 | nil=>exact h
 | cons a A=>
  intro b u;rcases zD.1 (show b∈A++(e.1,s)::B from u) with u|u;exact h b (show b∈A++e::B from zH _ u);rcases zG.1 u with rfl|u;exact h e (show e∈A++e::B from zI _ Is);exact h b (show b∈A++e::B from zI _ (zN _ u))
def qrY{A B:List ij}{e:ij}{s1 s2:iK}(h:gR k (A++e::B))(I:m.length=k/\eX m):gR k (A++(e.1,s1)::(m,s2)::B):=by
 have G:∀b∈(m,s2)::B,(∀c∈B,c.1.length=k/\eX c.1)->b.1.length=k/\eX b.1:=λb u J=>(zG.1 u).elim (λe=>by rw[e];exact I) (J b);cases A with
 | nil=>exact λb u=>G b u λc E=>h c E
 | cons a A=>
  intro b u;rcases zD.1 (show b∈A++(e.1,s1)::(m,s2)::B from u) with u|u;exact h b (show b∈A++e::B from zH _ u);rcases zG.1 u with rfl|u;exact h e (show e∈A++e::B from zI _ Is);exact G b u λc E=>h c (show c∈A++e::B from zI _ (zN _ E))
def qui(hc:iE k v){key val:Key}(hk:key.length=k/\eX key)(hv:val.length=v/\eX val):∀(h:Nat) (M:eH) (s:iK),Has D M k v h s->M.Wf->M.Q5=false->s.cC.Nodup->s.size<=1000->2*(h+1)<=M.Q3.length-> ∃g M',iD D k v key val (h+1) M s.x7=((g,0),M')/\ww D M k v h s key val g M'
 | 0,M,⟨p,n,L,P⟩,⟨h1,h2,h3,h4⟩,hW,ho,aU,_,hf=>by
  dsimp only at h1 h2 h3 h4;subst h1 h2;have hp:eA M p:=Gk ho (by rw[h4]);have hl:dW D M k v p=(eM L,0):=h3.load h4;have hs:fD L:=h3.right.2.2.1;have hL:mI k v L:=λx G=>⟨h3.right.1 x.1 (zY G),h3.right.2.1 x.2 (zY G),h3.J8 x.1 (zY G),h3.Q2 x.2 (zY G)⟩;have J:=h3.right.2.2.2;rw[iP (show (eM L).Q6=true from rfl)] at J;have a4:1<=L.length/\L.length<=(eE k v).1:=by have e:(eM L).J8.length=L.length:=zK _;rw[e] at J;exact⟨J.2.1,J.2.2.1⟩
  have aV:(eM L).J8=eh L:=rfl;have ak:=qva (v:=val) (k:=key) hs;have aA:mI k v (gf key val L):=λx G=>(CL G).elim (λe=>by rw[e];exact⟨hk.1,hv.1,hk.2,hv.2⟩) (hL x);have aB:=C6 (k:=key) (v:=val) hs;unfold iD;rw[hl];dsimp only;rw[iN λh=>h rfl,iP (show (eM L).Q6=true from rfl),aV];by_cases U:(eh L)[ed (eh L) key]?=some key;rw[iP U,qAv U];rw[iP U] at ak;have al:=EB (v:=val) hs ((zq hs).1 U);rw[ak] at aA aB al;exact qsl hc hW ho hp oJ aA aB oJ oJ oJ ak.symm (by rw[zU λh=>h ((zq hs).1 U)]);rw[iN U,qzG];rw[iN U] at ak;have a5:key∉eh L:=λh=>U ((zq hs).2 h);have al:=C4 (v:=val) a5;rw[ak] at aA aB al;exact qsl hc hW ho hp oJ aA aB oJ oJ oJ ak.symm (by rw[zZ a5])
 | h+1,M,⟨p,n,L,P⟩,⟨R,h0,h1,h2,h3,h4,h5,h6,h7⟩,hW,ho,aU,h8,hf=>by
  dsimp only at h1 h2 h3 h5 aU h8;subst h1 h2 h3;have hp:eA M p:=Gk ho (by rw[h5]);have hl:dW D M k v p=(dZ R,0):=h4.load h5;have bU:=h4.right.y6;obtain⟨A,e,B,I,hA,aW,aX,aY⟩:=vM (key:=key) h0 h6;have aZ:(dZ R).Q1.getD (eP (dZ R).J8 key) 0=e.2.x7:=aY;have bE:eP (dZ R).J8 key=A.length:=hA.symm;have bF:e∈R:=(by rw[I];simp);obtain⟨aD,ap⟩:=h7 e bF;have ad:∀z∈p::R.flatMap (·.2.cC),eA M z:=λz hz=>(zG.1 hz).elim (λe=>by rw[e];exact hp) λhz=>by obtain⟨b,u,hz⟩:=yK.1 hz;exact (h7 b u).1.J6 ho z hz
  have ag:R.flatMap (·.2.cC)=A.flatMap (·.2.cC)++(e.2.cC++B.flatMap (·.2.cC)):=(by rw[I,ru]);have ae:R.flatMap (·.2.y9)=A.flatMap (·.2.y9)++(e.2.y9++B.flatMap (·.2.y9)):=(by rw[I,ru]);have V:=aU;have ai:=ad;rw[ag] at V ai;have bG:e.2.size<=1000:=by
   have:=Cu (k:=k) (v:=v)
   cases h with
   | zero=>
    have h9:=aD.2.2.1.right.2.2.2;rw[iP (show (eM e.2.y9).Q6=true from rfl)] at h9;have bH:=h9.2.2.1;have e1:(eM e.2.y9).J8.length=e.2.y9.length:=zK _;rw[e1] at bH;rw[aD.2.1];omega
   | succ h=>
    obtain⟨b1,_,g1,_,_,g4,_⟩:=aD;have:=g4.right.y6;rw[g1];omega
  have a6:e.2.cC.Nodup:=(yM.1 (yM.1 (nodup_cons.1 V).2).2.1).1;obtain⟨g,M1,eg,ok⟩:=qui hc hk hv h M e.2 aD hW ho a6 bG oJ;have bJ:=ok.Q3;have aj:=h6;rw[I] at aj;have aq:=aj.mid;have a7:∀x∈A.flatMap (·.2.y9),fT x.1 key:=λx G=>by obtain⟨a,ha,G⟩:=yK.1 G;exact sq (aq.1 a ha x G) aW
  have a8:∀x∈B.flatMap (·.2.y9),fT key x.1:=λx G=>by obtain⟨b,u,G⟩:=yK.1 G;exact sq (aX b u) ((aq.2 b u).2.2 x G)
  have aN:gf key val (R.flatMap (·.2.y9))=A.flatMap (·.2.y9)++(gf key val e.2.y9++B.flatMap (·.2.y9)):=(by rw[ae,BZ a7,qlW a8]);have aE:g.Q0=decide (key∉eh (R.flatMap (·.2.y9))):=by rw[ok.Q0];refine decide_eq_decide.2 (not_congr ⟨λU=>?_,λU=>?_⟩);obtain⟨x,G,rfl⟩:=mem_map.1 U;exact zY (by rw[ae];exact zI _ (zH _ G));obtain⟨x,G,rfl⟩:=mem_map.1 U;rw[ae] at G;rcases zD.1 G with G|G;exact absurd (a7 x G) rQ;rcases zD.1 G with G|G;exact zY G;exact absurd (a8 x G) rQ
  have ar:p∉e.2.cC:=λU=>(nodup_cons.1 V).1 (zI _ (zH _ U));have a9:∀b,b∈A\/b∈B->∀z∈b.2.cC,z∉e.2.cC:=λb u z hz U=>by have h9:=yM.1 (nodup_cons.1 V).2;rcases u with u|u;exact h9.2.2 z (yK.2 ⟨b,u,hz⟩) z (zH _ U) rfl;exact (yM.1 h9.2.1).2.2 z U z (yK.2 ⟨b,u,hz⟩) rfl
  have af:=gR.of h4;have a':∀ {MM:eH} {Q:IT},Step D M MM e.2.cC Q->p∉A.flatMap (·.2.cC)++(Q++B.flatMap (·.2.cC)):=λst U=>by have h9:=(nodup_cons.1 V).1;rcases zD.1 U with U|U;exact h9 (zH _ U);rcases zD.1 U with U|U;exact (st.rest p hp ar).2.2 U;exact h9 (zI _ (zI _ U))
  unfold iD;rw[hl];dsimp only;rw[iN λh=>h rfl,iN (show ¬(dZ R).Q6=true from λe=>nomatch e),aZ,eg];dsimp only;rw[iN λh=>h rfl,bE];have ac:∀ {MM:eH},(∀x∈p::R.flatMap (·.2.cC),x∉e.2.cC->dU D MM x=dU D M x)->∀b,b∈A\/b∈B->Has D MM k v h b.2/\minOf k v h<=b.2.size:=λhr b u=>by
   have a0:b∈R:=by rw[I];rcases u with u|u<;>simp[u]
   exact⟨(h7 b a0).1.j1 λx G=>hr x (zN _ (yK.2 ⟨b,a0,G⟩)) (a9 b u x G),(h7 b a0).2⟩
  rcases ok.DA with ⟨aF,n',P',aO,st,aP⟩|⟨aF,n1,L1,P1,n2,L2,P2,ba,bb,aQ,bc,bd,bf,bg,bK,bL,st⟩;have aa:((A++(e.1,(⟨g.x7,n',gf key val e.2.y9,P'⟩:iK))::B).map (·.1)).head?=some []:=by rw[I] at h0;rw[xO,xP] at h0⊢;exact h0
  have ab:gg (A++(e.1,(⟨g.x7,n',gf key val e.2.y9,P'⟩:iK))::B):=aj.put aW aX λx G=>(CL G).imp (λe=>by rw[e]) id;have E:∀x∈p::R.flatMap (·.2.cC),x∉e.2.cC->dU D M1 x=dU D M x:=λx G a1=>(st.rest x (ad x G) a1).1;have J:(A++(e.1,(⟨g.x7,n',gf key val e.2.y9,P'⟩:iK))::B).length=R.length:=(by rw[I];simp);have av:(A++(e.1,(⟨g.x7,n',gf key val e.2.y9,P'⟩:iK))::B).flatMap (·.2.y9)=gf key val (R.flatMap (·.2.y9)):=(by rw[ru,aN]);have ah:(A++(e.1,(⟨g.x7,n',gf key val e.2.y9,P'⟩:iK))::B).flatMap (·.2.cC)=A.flatMap (·.2.cC)++(P'++B.flatMap (·.2.cC)):=(by rw[ru]);by_cases hsame:g.x7=e.2.x7/\g.x6=0;rw[iP hsame];have bh:dZ (A++(e.1,(⟨g.x7,n',gf key val e.2.y9,P'⟩:iK))::B)=dZ R:=(by rw[I];unfold dZ;simp[hsame.1]);have bM:dU D M1 p=(4,gJ (dZ (A++(e.1,(⟨g.x7,n',gf key val e.2.y9,P'⟩:iK))::B)),0):=(by rw[E p oL ar,h5,bh]);refine⟨_,M1,rfl,aE,oJ,.inl ⟨rfl,R.length,p::(A.flatMap (·.2.cC)++(P'++B.flatMap (·.2.cC))),?_,?_,zM _⟩⟩;have:=Al aa (by rw[bh];exact h4) bM ab (h:=h) λb u=>?_;rw[J,av,ah] at this;exact this;rcases zD.1 u with u|u;exact ac E b (.inl u);rcases zG.1 u with rfl|u;exact⟨aO,zL ap aP⟩;exact ac E b (.inr u);show Step D M M1 (p::R.flatMap (·.2.cC)) _;rw[ag];have h9:=Step.node (p:=p) ai V st (Step.refl (D:=D) st.wf st.Q5 (P:=[p]) (λx G=>by rw[zE.1 G];exact (st.rest p hp ar).2.1) oL);exact h9;rw[iN hsame,I,qwB (s1:=⟨g.x7,n',gf key val e.2.y9,P'⟩) rfl aF];have am:∀b∈A++(e.1,(⟨g.x7,n',gf key val e.2.y9,P'⟩:iK))::B,Has D M1 k v h b.2/\minOf k v h<=b.2.size:=λb u=>by rcases zD.1 u with u|u;exact ac E b (.inl u);rcases zG.1 u with rfl|u;exact⟨aO,zL ap aP⟩;exact ac E b (.inr u)
  have aI:gR k (A++(e.1,(⟨g.x7,n',gf key val e.2.y9,P'⟩:iK))::B):=FV (by rw[<- I];exact af);have hN:=Ae st.wf st.Q5 aI ab oJ oJ λb u=>(am b u).1;obtain⟨q,M2,e2,aw,H2,al⟩:=qlV (Q0:=g.Q0) st.wf st.Q5 aa hN oJ ab am (st.rest p hp ar).2.1 (by rw[ah];exact a' st) oJ;refine⟨_,M2,e2,by rw[<- I];exact aE,oJ,.inl ⟨rfl,R.length,q::(A.flatMap (·.2.cC)++(P'++B.flatMap (·.2.cC))),?_,?_,Nat.le_of_eq (by rw[I])⟩⟩;rw[J,av,ah] at H2;rw[<- I];exact H2;show Step D M M2 (p::(A++e::B).flatMap (·.2.cC)) _;rw[ru];exact Step.node (p:=p) ai V st aw;have bk:L1≠[]:=ba.ne;have bl:L2≠[]:=bb.ne;rw[iN λh=>aF h.2];have ab:gg (A++(e.1,(⟨g.x7,n1,L1,P1⟩:iK))::(g.key,⟨g.x6,n2,L2,P2⟩)::B):=
   (aj.put (s:=⟨0,0,gf key val e.2.y9,[]⟩) aW aX λx G=>(CL G).imp (λe=>by rw[e]) id).yw aQ.symm bc bd bk bl
  have aa:((A++(e.1,(⟨g.x7,n1,L1,P1⟩:iK))::(g.key,⟨g.x6,n2,L2,P2⟩)::B).map (·.1)).head?=some []:=by
   rw[I] at h0;rw[xO,xP] at h0⊢;cases A with
   | nil=>exact h0
   | cons a A=>exact h0
  have E:∀x∈p::R.flatMap (·.2.cC),x∉e.2.cC->dU D M1 x=dU D M x:=λx G a1=>(st.rest x (ad x G) a1).1;have J:(A++(e.1,(⟨g.x7,n1,L1,P1⟩:iK))::(g.key,⟨g.x6,n2,L2,P2⟩)::B).length=R.length+1:=(by rw[I];simp;omega);have av:(A++(e.1,(⟨g.x7,n1,L1,P1⟩:iK))::(g.key,⟨g.x6,n2,L2,P2⟩)::B).flatMap (·.2.y9)=gf key val (R.flatMap (·.2.y9)):=(by rw[ru,yH,aN,<- aQ,zV]);have ah:(A++(e.1,(⟨g.x7,n1,L1,P1⟩:iK))::(g.key,⟨g.x6,n2,L2,P2⟩)::B).flatMap (·.2.cC)=A.flatMap (·.2.cC)++((P1++P2)++B.flatMap (·.2.cC)):=(by rw[ru,yH,zV P1]);have am:∀b∈A++(e.1,(⟨g.x7,n1,L1,P1⟩:iK))::(g.key,⟨g.x6,n2,L2,P2⟩)::B,Has D M1 k v h b.2/\minOf k v h<=b.2.size:=λb u=>by rcases zD.1 u with u|u;exact ac E b (.inl u);rcases zG.1 u with rfl|u;exact⟨ba,bK⟩;rcases zG.1 u with rfl|u;exact⟨bb,bL⟩;exact ac E b (.inr u)
  have aI:gR k (A++(e.1,(⟨g.x7,n1,L1,P1⟩:iK))::(g.key,⟨g.x6,n2,L2,P2⟩)::B):=qrY (by rw[<- I];exact af) ⟨bf,bg⟩;have bm:p∉(A++(e.1,(⟨g.x7,n1,L1,P1⟩:iK))::(g.key,⟨g.x6,n2,L2,P2⟩)::B).flatMap (·.2.cC):=(by rw[ah];exact a' st);have bn:=(st.rest p hp ar).2.1;have bO:gT (dZ R) A.length g=dZ (A++(e.1,(⟨g.x7,n1,L1,P1⟩:iK))::(g.key,⟨g.x6,n2,L2,P2⟩)::B):=(by rw[I];exact qyg (by rw[<- I];exact h0) rfl rfl rfl aF);rw[bO];have bo:∀ {M2:eH} {Q:IT},Step D M1 M2 [p] Q->Step D M M2 (p::R.flatMap (·.2.cC)) (Q++(A.flatMap (·.2.cC)++((P1++P2)++B.flatMap (·.2.cC)))):=λh2=>by rw[ag];exact Step.node (p:=p) ai V st h2
  by_cases u:R.length+1<=(eE k v).2;have hN:=Ae st.wf st.Q5 aI ab oJ oJ λb u=>(am b u).1;obtain⟨q,M2,e2,aw,H2,al⟩:=qlV (Q0:=g.Q0) st.wf st.Q5 aa hN oJ ab am bn bm oJ;rw[J,av,ah] at H2;exact⟨_,M2,e2,aE,oJ,.inl ⟨rfl,_,_,H2,bo aw,by show R.length<=R.length+1;omega⟩⟩;obtain⟨q,o,m,M2,n3,L3,P3,n4,L4,P4,e2,bP,aw,H3,H4,hL,hP,bQ,a4,bp,bq,bR,bS,al⟩:=qwD (Q0:=g.Q0) hc st.wf st.Q5 aa aI oJ ab am bn bm oJ;rw[av] at hL;rw[ah] at hP;refine⟨_,M2,e2,aE,oJ,.inr ⟨bP,_,_,_,_,_,_,H3,H4,hL,bQ,a4,bp,bq,bR,bS,?_⟩⟩;have:=bo aw;rw[<- hP] at this;refine this.perm (.refl _) ?_;show (q::o::(P3++P4)).Perm (q::(P3++o::P4));exact (perm_middle.symm).cons q
end
end
section
def iu {α:Type} (l:List α) (i:Nat):List α:=l.take i++l.drop (i+1)
def pH (n:dY) (k v:Nat):Prop:=(fq n k v).1<(fq n k v).2 / 2
def jq (n:dY) (k v:Nat):Prop:=(fq n k v).1>(fq n k v).2 / 2
def jr (l r:dY) (key:Key):dY×dY×Key:=
 if l.Q6 then
  ({ l with J8:=l.J8.take (l.J8.length-1),Q2:=l.Q2.take (l.J8.length-1) },
  { r with J8:=l.J8.getD (l.J8.length-1) []::r.J8,Q2:=l.Q2.getD (l.J8.length-1) []::r.Q2 },l.J8.getD (l.J8.length-1) [])
 else
  ({ l with J8:=l.J8.take (l.J8.length-1),Q1:=l.Q1.take (l.J8.length-1+1) },
  { r with J8:=key::r.J8,Q1:=l.Q1.getD (l.J8.length-1+1) 0::r.Q1 },l.J8.getD (l.J8.length-1) [])
def takeN (l r:dY) (key:Key):dY×dY×Key:=
 if l.Q6 then
  ({ l with J8:=l.J8++[r.J8.getD 0 []],Q2:=l.Q2++[r.Q2.getD 0 []] },{ r with J8:=r.J8.drop 1,Q2:=r.Q2.drop 1 },(r.J8.drop 1).getD 0 [])
 else
  ({ l with J8:=l.J8++[key],Q1:=l.Q1++[r.Q1.getD 0 0] },{ r with J8:=r.J8.drop 1,Q1:=r.Q1.drop 1 },r.J8.getD 0 [])
def li (l r:dY) (key:Key):dY:=⟨l.Q6,(if l.Q6 then l.J8 else l.J8++[key])++r.J8,l.Q2++r.Q2,l.Q1++r.Q1⟩
noncomputable def mi (k v:Nat) (M:eH) (n:dY) (i:Nat) (l r:dY):(dY×Int)×eH:=
 if (ee k v M (n.Q1.getD i 0) (li l r (n.J8.getD i []))).1.2≠0 then ((iV,(ee k v M (n.Q1.getD i 0) (li l r (n.J8.getD i []))).1.2),(ee k v M (n.Q1.getD i 0) (li l r (n.J8.getD i []))).2)
 else if (fK (ee k v M (n.Q1.getD i 0) (li l r (n.J8.getD i []))).2 (n.Q1.getD (i+1) 0)).1≠0 then ((iV,(fK (ee k v M (n.Q1.getD i 0) (li l r (n.J8.getD i []))).2 (n.Q1.getD (i+1) 0)).1),(fK (ee k v M (n.Q1.getD i 0) (li l r (n.J8.getD i []))).2 (n.Q1.getD (i+1) 0)).2)
 else (({ n with Q1:=iu (n.Q1.set i (ee k v M (n.Q1.getD i 0) (li l r (n.J8.getD i []))).1.1) (i+1),J8:=iu n.J8 i },0),(fK (ee k v M (n.Q1.getD i 0) (li l r (n.J8.getD i []))).2 (n.Q1.getD (i+1) 0)).2)
noncomputable def od (k v:Nat) (M:eH) (n:dY) (i:Nat) (r:dY×dY×Key):(dY×Int)×eH:=
 if (ee k v M (n.Q1.getD i 0) r.1).1.2≠0 then ((iV,(ee k v M (n.Q1.getD i 0) r.1).1.2),(ee k v M (n.Q1.getD i 0) r.1).2)
 else (({ n with J8:=n.J8.set i r.2.2,Q1:=(n.Q1.set i (ee k v M (n.Q1.getD i 0) r.1).1.1).set (i+1) (ee k v (ee k v M (n.Q1.getD i 0) r.1).2 (n.Q1.getD (i+1) 0) r.2.1).1.1 },(ee k v (ee k v M (n.Q1.getD i 0) r.1).2 (n.Q1.getD (i+1) 0) r.2.1).1.2),(ee k v (ee k v M (n.Q1.getD i 0) r.1).2 (n.Q1.getD (i+1) 0) r.2.1).2)
noncomputable def kj (D:dV) (k v:Nat) (M:eH) (n:dY) (side c:Nat) (x:dY):(dY×Int)×eH:=
 if (dW D M k v (n.Q1.getD side 0)).2≠0 then ((iV,(dW D M k v (n.Q1.getD side 0)).2),M)
 else if side<c then
  if ¬jq (dW D M k v (n.Q1.getD side 0)).1 k v then mi k v M n side (dW D M k v (n.Q1.getD side 0)).1 x
  else od k v M n side (jr (dW D M k v (n.Q1.getD side 0)).1 x (n.J8.getD side []))
 else
  if ¬jq (dW D M k v (n.Q1.getD side 0)).1 k v then mi k v M n c x (dW D M k v (n.Q1.getD side 0)).1
  else od k v M n c (takeN x (dW D M k v (n.Q1.getD side 0)).1 (n.J8.getD c []))
noncomputable def iJ (D:dV) (k v:Nat) (key:Key):Nat->eH->Int->(dY×Int)×eH
 | 0,M,_=>((iV,-1),M)
 | f+1,M,p=>
  if (dW D M k v p).2≠0 then ((iV,(dW D M k v p).2),M)
  else if (dW D M k v p).1.Q6 then
   if (dW D M k v p).1.J8[ed (dW D M k v p).1.J8 key]?=some key then (({ (dW D M k v p).1 with J8:=iu (dW D M k v p).1.J8 (ed (dW D M k v p).1.J8 key),Q2:=iu (dW D M k v p).1.Q2 (ed (dW D M k v p).1.J8 key) },0),M)
   else ((iV,5),M)
  else if (iJ D k v key f M ((dW D M k v p).1.Q1.getD (eP (dW D M k v p).1.J8 key) 0)).1.2≠0 then
   ((iV,(iJ D k v key f M ((dW D M k v p).1.Q1.getD (eP (dW D M k v p).1.J8 key) 0)).1.2),(iJ D k v key f M ((dW D M k v p).1.Q1.getD (eP (dW D M k v p).1.J8 key) 0)).2)
  else if ¬pH (iJ D k v key f M ((dW D M k v p).1.Q1.getD (eP (dW D M k v p).1.J8 key) 0)).1.1 k v then
   (({ (dW D M k v p).1 with Q1:=(dW D M k v p).1.Q1.set (eP (dW D M k v p).1.J8 key) (ee k v (iJ D k v key f M ((dW D M k v p).1.Q1.getD (eP (dW D M k v p).1.J8 key) 0)).2 ((dW D M k v p).1.Q1.getD (eP (dW D M k v p).1.J8 key) 0) (iJ D k v key f M ((dW D M k v p).1.Q1.getD (eP (dW D M k v p).1.J8 key) 0)).1.1).1.1 },
    (ee k v (iJ D k v key f M ((dW D M k v p).1.Q1.getD (eP (dW D M k v p).1.J8 key) 0)).2 ((dW D M k v p).1.Q1.getD (eP (dW D M k v p).1.J8 key) 0) (iJ D k v key f M ((dW D M k v p).1.Q1.getD (eP (dW D M k v p).1.J8 key) 0)).1.1).1.2),
    (ee k v (iJ D k v key f M ((dW D M k v p).1.Q1.getD (eP (dW D M k v p).1.J8 key) 0)).2 ((dW D M k v p).1.Q1.getD (eP (dW D M k v p).1.J8 key) 0) (iJ D k v key f M ((dW D M k v p).1.Q1.getD (eP (dW D M k v p).1.J8 key) 0)).1.1).2)
  else if eP (dW D M k v p).1.J8 key>0 then
   kj D k v (iJ D k v key f M ((dW D M k v p).1.Q1.getD (eP (dW D M k v p).1.J8 key) 0)).2 (dW D M k v p).1 (eP (dW D M k v p).1.J8 key-1) (eP (dW D M k v p).1.J8 key) (iJ D k v key f M ((dW D M k v p).1.Q1.getD (eP (dW D M k v p).1.J8 key) 0)).1.1
  else kj D k v (iJ D k v key f M ((dW D M k v p).1.Q1.getD (eP (dW D M k v p).1.J8 key) 0)).2 (dW D M k v p).1 (eP (dW D M k v p).1.J8 key+1) (eP (dW D M k v p).1.J8 key) (iJ D k v key f M ((dW D M k v p).1.Q1.getD (eP (dW D M k v p).1.J8 key) 0)).1.1
section
variable {D:dV} {M M':eH} {k v:Nat}
def jI (D:dV) (M:eH) (k v:Nat):Nat->dY->Nat->gr->IT->Prop
 | 0,N,n,L,R=>N=eM L/\n=L.length/\R=[]/\mI k v L/\fD L/\n<=(eE k v).1
 | h+1,N,n,L,R=>∃u:List ij,(u.map (·.1)).head?=some []/\N=dZ u/\n=u.length/\L=u.flatMap (·.2.y9)/\R=u.flatMap (·.2.cC)/\gR k u/\gg u/\n<=(eE k v).2/\∀e∈u,Has D M k v h e.2/\minOf k v h<=e.2.size
def oneOf (h:Nat):Nat:=if h=0 then 1 else 2
def jI.size{n:Nat}(u:jI D M k v h N n L R):fq N k v=(n,if h=0 then (eE k v).1 else (eE k v).2):=by
 cases h with
 | zero=>
  obtain⟨rfl,rfl,_⟩:=u;exact Ea
 | succ h=>
  obtain⟨E,_,rfl,rfl,_⟩:=u;exact DD
def jI.J6{h:Nat}{N:dY}{n:Nat}{L:gr}{R:IT}(G:M.Q5=false)(E:jI D M k v h N n L R):∀x∈R,eA M x:=by
 cases h with
 | zero=>obtain⟨_,_,rfl,_⟩:=E;exact λx u=>nomatch u
 | succ h=>
  obtain⟨U,_,_,_,_,rfl,_,_,_,I⟩:=E;intro x u;obtain⟨e,J,u⟩:=yK.1 u;exact (I e J).1.J6 G x u
def jI.j1{h:Nat}{N:dY}{n:Nat}{L:gr}{R:IT}(E:jI D M k v h N n L R)(I:∀x∈R,dU D M' x=dU D M x):jI D M' k v h N n L R:=by
 cases h with
 | zero=>exact E
 | succ h=>
  obtain⟨J,U,V,h3,h4,rfl,h6,h7,h8,G⟩:=E;exact⟨J,U,V,h3,h4,rfl,h6,h7,h8,λe u=>⟨(G e u).1.j1 λx hx=>I x (yK.2 ⟨e,u,hx⟩),(G e u).2⟩⟩
def jI.ok{n:Nat}(G:M.Wf)(I:M.Q5=false)(u:jI D M k v h N n L R)(E:oneOf h<=n):iQ N k v:=by
 cases h with
 | zero=>
  obtain⟨rfl,rfl,_,J,U,V⟩:=u;exact Bc J U E V
 | succ h=>
  obtain⟨es,h2,rfl,rfl,h4,rfl,h6,h7,h8,he⟩:=u;exact Ae G I h6 h7 E h8 λe hm=>(he e hm).1
def jI.stored{n:Nat}(I:M.Wf)(J:M.Q5=false)(E:jI D M k v h N n L R)(U:oneOf h<=n)(G:dU D M q=(i9 N,gJ N,0)):Has D M k v h ⟨q,n,L,q::R⟩:=by
 have u:=E.ok I J U;cases h with
 | zero=>
  obtain⟨rfl,rfl,rfl,hL,hs,hl⟩:=E;exact BY u G
 | succ h=>
  obtain⟨es,V,rfl,rfl,rfl,rfl,h6,h7,h8,he⟩:=E;exact Al V u G h7 he
def Has.load{h:Nat}{s:iK}(hs:Has D M k v h s):∃N R,dW D M k v s.x7=(N,0)/\jI D M k v h N s.size s.y9 R/\s.cC=s.x7::R/\N.Q6=decide (h=0)/\oneOf h<=s.size:=by
 cases h with
 | zero=>
  obtain⟨I,J,E,U⟩:=hs;have u:=E.right.2.2.2;rw[iP (show (eM s.y9).Q6=true from rfl)] at u;have e:(eM s.y9).J8.length=s.y9.length:=zK _;rw[e] at u;exact⟨eM s.y9,[],E.load U,⟨rfl,J,rfl,λx V=>⟨E.right.1 x.1 (zY V),E.right.2.1 x.2 (zY V),E.J8 x.1 (zY V),E.Q2 x.2 (zY V)⟩,E.right.2.2.1,by rw[J];exact u.2.2.1⟩,I,rfl,by rw[J];exact u.2.1⟩
 | succ h=>
  obtain⟨es,h0,I,J,E,U,h5,h6,h7⟩:=hs;have G:=U.right.y6;exact⟨dZ es,_,U.load h5,⟨es,h0,rfl,I,J,rfl,gR.of U,h6,by rw[I];exact G.2,h7⟩,E,rfl,by rw[I];exact G.1⟩
def jI.store{n:Nat}(I:M.Wf)(u:M.Q5=false)(E:jI D M k v h N n L R)(J:oneOf h<=n)(hp:eA M p)(G:p∉R)(U:1<=M.Q3.length): ∃q M',ee k v M p N=((q,0),M')/\Step D M M' [p] [q]/\Has D M' k v h ⟨q,n,L,q::R⟩/\M.Q3.length<=M'.Q3.length+1:=by obtain⟨q,M',e,st,hr,hl,_⟩:=GK (D:=D) I u (E.ok I u J) hp (λe=>by rw[e] at U;exact absurd U oM);exact⟨q,M',e,st,(E.j1 λx V=>(st.rest x (E.J6 u x V) λhm=>G (by rw[<- zE.1 hm];exact V)).1).stored st.wf st.Q5 J hr,hl⟩
def qzE{h u:gr}{z:Key×Key}:jr (eM (h++[z])) (eM u) key=(eM h,eM (z::u),z.1):=by unfold jr;rw[iP (show (eM _).Q6=true from rfl)];unfold eM;simp
def qzH{h u:gr}{z y:Key×Key}:takeN (eM h) (eM (z::y::u)) key=(eM (h++[z]),eM (y::u),y.1):=by unfold takeN;rw[iP (show (eM _).Q6=true from rfl)];unfold eM;simp
def qzF{h u:gr}:li (eM h) (eM u) key=eM (h++u):=by unfold li;unfold eM;simp
def qzw{a z b:ij}{h u:List ij}:jr (dZ (a::h++[z])) (dZ (b::u)) key=(dZ (a::h),dZ (([],z.2)::(key,b.2)::u),z.1):=by unfold jr;rw[iN (show ¬(dZ _).Q6=true from λe=>nomatch e)];unfold dZ;simp
def qzy{h u:List ij}{a z y:ij}:takeN (dZ (a::h)) (dZ (z::y::u)) key=(dZ (a::h++[(key,z.2)]),dZ (([],y.2)::u),y.1):=by unfold takeN;rw[iN (show ¬(dZ _).Q6=true from λe=>nomatch e)];unfold dZ;simp
def qzx{h u:List ij}{a b:ij}:li (dZ (a::h)) (dZ (b::u)) key=dZ (a::h++(key,b.2)::u):=by unfold li;unfold dZ;simp
def gg.tZ{a b:List ij}(u:gg a)(E:gg b)(h:∀x∈a,∀y∈b,fT x.1 y.1/\∀z∈x.2.y9,fT z.1 y.1):gg (a++b):=
 ⟨pairwise_append.2 ⟨u.pair,E.pair,λx G y I=>h x G y I⟩,λe J=>(zD.1 J).elim (u.low e) (E.low e)⟩
def gg.sub{a b:List ij}(h:gg b)(u:a.Sublist b):gg a:=⟨h.pair.sublist u,λe E=>h.low e (u.subset E)⟩
def HP{e:ij}(h:∀x∈e.2.y9,mr e.1 x.1):gg [e]:=⟨pairwise_singleton _ _,λa u=>by rw[zE.1 u];exact h⟩
def qt3{a b:Key}(h:fT a b):fT [] b:=by
 cases b with
 | nil=>exact absurd h qma
 | cons y l=>show cmpL [] (y::l)<0;simp[cmpL]
def gg.head{x:ij}{r:List ij}(h:gg (x::r))(G:∀b∈r,fT m b.1)(I:∀y∈x.2.y9,mr m y.1):gg ((m,x.2)::r):=by have E:=yJ.1 h.pair;exact⟨yJ.2 ⟨λb u=>⟨G b u,(E.1 b u).2⟩,E.2⟩,λb u=>(zG.1 u).elim (λe=>by rw[e];exact I) λu=>h.low b (zN _ u)⟩
def HX{x:ij}{r:List ij}(E:gg (x::r))(G:Has D M k v h x.2)(I:∀y∈x.2.y9,mr m y.1):∀b∈r,fT m b.1:=λb J=>by obtain⟨y,u⟩:=exists_mem_of_ne_nil _ G.ne;exact Bp (I y u) (((yJ.1 E.pair).1 b J).2 y u)
structure uh (D:dV) (M:eH) (k v:Nat) (h:Nat) (r:dY×dY×Key) (L:gr) (P:IT):Prop where
 DA:∃ n1 L1 R1 n2 L2 R2,jI D M k v h r.1 n1 L1 R1/\jI D M k v h r.2.1 n2 L2 R2/\L1++L2=L/\R1++R2=P/\(∀ x∈L1,fT x.1 r.2.2)/\(∀ y∈L2,mr r.2.2 y.1)/\r.2.2.length=k/\eX r.2.2/\minOf k v h<=n1/\minOf k v h<=n2/\L1≠[]/\L2≠[]
def iE.min(u:iE k v)(h:Nat):oneOf h<=minOf k v h/\1<=minOf k v h:=by have E:=u.Q6;have G:=u.inner;unfold oneOf minOf;split<;>omega
def qzo{es:List ij}(E:∀e∈es,Has D M k v h e.2/\minOf k v h<=e.2.size)(u:es≠[]):es.flatMap (·.2.y9)≠[]:=by
 cases es with
 | nil=>exact absurd rfl u
 | cons a r=>intro e;rw[yH] at e;exact (E a oL).1.ne (append_eq_nil_iff.1 e).1
def qzq(G:iE k v)(hl:jI D M k v h Nl n1 L1 R1)(hr:jI D M k v h Nr n2 L2 R2)(h1:minOf k v h<n1)(h2:n2+1=minOf k v h)(h3:∀x∈L1,fT x.1 key)(h4:∀y∈L2,mr key y.1)(hk:key.length=k/\eX key): uh D M k v h (jr Nl Nr key) (L1++L2) (R1++R2):=by
 have aw:=G.min h;cases h with
 | zero=>
  obtain⟨rfl,rfl,rfl,al,R,U⟩:=hl;obtain⟨rfl,rfl,rfl,ax,V,am⟩:=hr;have an:L1≠[]:=λe=>by rw[e] at h1;simp at h1
  obtain⟨L,z,rfl⟩:∃L z,L1=L++[z]:=⟨L1.dropLast,L1.getLast an,(vB an).symm⟩;rw[qzE];have hz:=al z oL;have ao:=fD.tZ.1 R;rw[zF] at h1 U;have ay:fD (z::L2):=by refine yJ.2 ⟨λa ha=>?_,V⟩;obtain⟨y,E,rfl⟩:=mem_map.1 ha;exact sq (h3 z oL) (h4 y E)
  have az:minOf k v 0=(eE k v).1 / 2:=rfl;refine⟨L.length,L,[],L2.length+1,z::L2,[],⟨rfl,rfl,rfl,al.sub λx J=>zH _ J,ao.1,?_⟩,⟨rfl,rfl,rfl,λx J=>(zG.1 J).elim (λe=>by rw[e];exact hz) (ax x),ay,oJ⟩,oL,rfl,λx J=>ao.2.2 x J z oL,λy E=>?_,hz.1,hz.2.2.1,?_,oJ,?_,oL⟩;simp at U;omega;rcases zG.1 E with rfl|E;exact rQ;exact tj (sq (h3 z oL) (h4 y E));simp at h1;omega;intro e;rw[e] at h1;simp at h1;omega
 | succ h=>
  obtain⟨ae,aA,rfl,rfl,rfl,rfl,ap,R,U,af⟩:=hl;obtain⟨u,aB,rfl,rfl,rfl,rfl,aC,V,am,ag⟩:=hr;obtain⟨a,I,z,rfl⟩:∃a I z,ae=a::I++[z]:=by
   have:2<=ae.length:=(by have:=aw.1;unfold oneOf at this;rw[iN] at this;omega);match ae,this with
   | a::b::r,_=>exact⟨a,(b::r).dropLast,(b::r).getLast oL,by rw[xK,vB]⟩
  obtain⟨b,u,rfl⟩:∃b I,u=b::I:=by
   cases u with
   | nil=>cases aB
   | cons b r=>exact⟨b,r,rfl⟩
  rw[qzw];have hz:=af z oL;have aq:=ap z (show z∈I++[z] by simp);have ar:=gg.mid (A:=a::I) (e:=z) (B:=[]) R;have aa:fT z.1 key:=by obtain⟨x,J⟩:=exists_mem_of_ne_nil _ hz.1.ne;exact Bp (R.low z oL x J) (h3 x (yK.2 ⟨z,oL,J⟩))
  have au:∀y∈b.2.y9,mr key y.1:=λy E=>h4 y (by rw[yH];exact zH _ E);have ah:∀c∈u,fT key c.1:=HX V (ag b oL).1 au;have ai:gg (([],z.2)::(key,b.2)::u):=by refine gg.tZ (a:=[([],z.2)]) (HP λx _=>BD _) (V.head ah au) λx J y E=>?_;rw[zE.1 J];rcases zG.1 E with rfl|E;exact⟨qt3 aa,λw hw=>h3 w (yK.2 ⟨z,oL,hw⟩)⟩;exact⟨qt3 (ah y E),λw hw=>qc (h3 w (yK.2 ⟨z,oL,hw⟩)) (ah y E)⟩
  have az:minOf k v (h+1)=(eE k v).2 / 2:=rfl;simp only[zF,yI,xL] at h1 h2 U am;have aE:(a::I++[z]).flatMap (·.2.y9)=(a::I).flatMap (·.2.y9)++z.2.y9:=(by simp[yQ]);have aF:(a::I++[z]).flatMap (·.2.cC)=(a::I).flatMap (·.2.cC)++z.2.cC:=(by simp[yQ]);refine⟨I.length+1,(a::I).flatMap (·.2.y9),(a::I).flatMap (·.2.cC),u.length+2,z.2.y9++(b.2.y9++u.flatMap (·.2.y9)),z.2.cC++(b.2.cC++u.flatMap (·.2.cC)),⟨a::I,aA,rfl,rfl,rfl,rfl,λc G=>ap c (show c∈I++[z] from zH _ G),R.sub (sublist_append_left _ _),oJ,λc G=>af c (zH _ G)⟩,⟨([],z.2)::(key,b.2)::u,rfl,rfl,rfl,rfl,rfl,λc G=>(zG.1 G).elim (λe=>by rw[e];exact hk) (aC c),ai,oJ,λc G=>?_⟩,?_,?_,λx J=>?_,λy E=>?_,aq.1,aq.2,oJ,oJ,?_,?_⟩;rcases zG.1 G with rfl|G;exact hz;rcases zG.1 G with rfl|G;exact ag b oL;exact ag c (by simp[G]);rw[aE];simp only[yH,zV];rw[aF];simp only[yH,zV];obtain⟨c,G,J⟩:=yK.1 J;exact ar.1 c G x J;rcases zD.1 E with E|E;exact R.low z oL y E;exact Ad (tj aa) (h4 y (by rw[yH];exact E));exact qzo (λc G=>af c (zH _ G)) oL;intro e;exact hz.1.ne (append_eq_nil_iff.1 e).1
def qwM{es:List ij}(G:gg es)(I:∀e∈es,Has D M k v h e.2/\minOf k v h<=e.2.size)(J:∀x∈es.flatMap (·.2.y9),fT x.1 key):∀e∈es,fT e.1 key:=λe u=>by obtain⟨x,E⟩:=exists_mem_of_ne_nil _ (I e u).1.ne;exact Bp (G.low e u x E) (J x (yK.2 ⟨e,u,E⟩))
def qz4(hc:iE k v)(hl:jI D M k v h Nl n1 L1 R1)(hr:jI D M k v h Nr n2 L2 R2)(h1:n1+1=minOf k v h)(h2:minOf k v h<n2)(h3:∀x∈L1,fT x.1 key)(h4:∀y∈L2,mr key y.1)(hk:key.length=k/\eX key): uh D M k v h (takeN Nl Nr key) (L1++L2) (R1++R2):=by
 have hmn:=hc.min h;cases h with
 | zero=>
  obtain⟨rfl,rfl,rfl,hL1,hs1,hb1⟩:=hl;obtain⟨rfl,rfl,rfl,hL2,hs2,hb2⟩:=hr;obtain⟨z,y,L,rfl⟩:∃z y L,L2=z::y::L:=by
   match L2,h2 with
   | [],h=>simp at h
   | [_],h=>simp at h;omega
   | z::y::L,_=>exact⟨z,y,L,rfl⟩
  rw[qzH];have hz:=hL2 z oL;have hy:=hL2 y oL;have hcs:=yJ.1 (show (z.1::eh (y::L)).Pairwise fT from hs2);simp only[yI] at h2 hb2;have hml:minOf k v 0=(eE k v).1 / 2:=rfl;have hzy:fT z.1 y.1:=hcs.1 y.1 oL;refine⟨L1.length+1,L1++[z],[],L.length+1,y::L,[],⟨rfl,oL,rfl,λx hx=>(zD.1 hx).elim (hL1 x) λhx=>by rw[zE.1 hx];exact hz,?_,oJ⟩,⟨rfl,oL,rfl,λx hx=>hL2 x (zN _ hx),hcs.2,oJ⟩,oL,rfl,λx hx=>?_,λw hw=>?_,hy.1,hy.2.2.1,oJ,oJ,oL,oL⟩;exact fD.tZ.2 ⟨hs1,pairwise_singleton _ _,λx hx w hw=>by rw[zE.1 hw];exact sq (h3 x hx) (h4 z oL)⟩;rcases zD.1 hx with hx|hx;exact qc (sq (h3 x hx) (h4 z oL)) hzy;rw[zE.1 hx];exact hzy;rcases zG.1 hw with rfl|hw;exact rQ;exact tj ((yJ.1 (show (y.1::eh L).Pairwise fT from hcs.2)).1 w.1 (zY hw))
 | succ h=>
  obtain⟨es1,hh1,rfl,rfl,rfl,rfl,hk1,hs1,hb1,hp1⟩:=hl;obtain⟨es2,hh2,rfl,rfl,rfl,rfl,hk2,hs2,hb2,hp2⟩:=hr;obtain⟨a,es,rfl⟩:∃a es,es1=a::es:=by
   cases es1 with
   | nil=>cases hh1
   | cons b r=>exact⟨b,r,rfl⟩
  obtain⟨z,y,es2,rfl⟩:∃z y es,es2=z::y::es:=by
   have h9:=hmn.2;match es2,h2 with
   | [],h=>simp at h
   | [_],h=>simp at h;omega
   | z::y::L,_=>exact⟨z,y,L,rfl⟩
  rw[qzy];have hz:=hp2 z oL;have hyk:=hk2 y (show y∈y::es2 by simp);have hz4:∀w∈z.2.y9,mr key w.1:=λw hw=>h4 w (by rw[yH];exact zH _ hw);have hky:fT key y.1:=HX hs2 hz.1 hz4 y oL;have hcs:=yJ.1 hs2.pair;have hcy:=yJ.1 hcs.2;have hsl:gg (a::es++[(key,z.2)]):=gg.tZ hs1 (HP hz4) λx hx w hw=>by rw[zE.1 hw];exact⟨qwM hs1 hp1 h3 x hx,λq hq=>h3 q (yK.2 ⟨x,hx,hq⟩)⟩
  have hsr:gg (([],y.2)::es2):=gg.ko (es:=y::es2) (hs2.sub (IC _ _));have hml:minOf k v (h+1)=(eE k v).2 / 2:=rfl;simp only[yI] at h1 h2 hb1 hb2;refine⟨es.length+2,(a::es).flatMap (·.2.y9)++z.2.y9,(a::es).flatMap (·.2.cC)++z.2.cC,es2.length+1,y.2.y9++es2.flatMap (·.2.y9),y.2.cC++es2.flatMap (·.2.cC),⟨a::es++[(key,z.2)],hh1,rfl,oL,by simp[yQ],by simp[yQ],λc hc=>?_,hsl,oJ,λc hc=>?_⟩,⟨([],y.2)::es2,rfl,rfl,rfl,rfl,rfl,λc hc=>hk2 c (show c∈y::es2 from zN _ hc),hsr,oJ,λc hc=>?_⟩,?_,?_,λx hx=>?_,λw hw=>?_,hyk.1,hyk.2,oJ,oJ,?_,?_⟩;rcases zD.1 (show c∈es++[(key,z.2)] from hc) with hc|hc;exact hk1 c hc;rw[zE.1 hc];exact hk;rcases zD.1 hc with hc|hc;exact hp1 c hc;rw[zE.1 hc];exact hz;rcases zG.1 hc with rfl|hc;exact hp2 y oL;exact hp2 c (by simp[hc]);simp only[yH,zV];simp only[yH,zV];rcases zD.1 hx with hx|hx;exact qc (h3 x hx) hky;exact (hcs.1 y oL).2 x hx;rcases zD.1 hw with hw|hw;exact hs2.low y oL w hw;obtain⟨c,hc,hw⟩:=yK.1 hw;exact Ad (tj (hcy.1 c hc).1) (hs2.low c (by simp[hc]) w hw);intro e;exact hz.1.ne (append_eq_nil_iff.1 e).2;intro e;exact (hp2 y oL).1.ne (append_eq_nil_iff.1 e).1
def qzz(hl:jI D M k v h Nl n1 L1 R1)(hr:jI D M k v h Nr n2 L2 R2)(h1:n1+n2<=(if h=0 then (eE k v).1 else (eE k v).2))(h3:∀x∈L1,fT x.1 key)(h4:∀y∈L2,mr key y.1)(hk:key.length=k/\eX key): jI D M k v h (li Nl Nr key) (n1+n2) (L1++L2) (R1++R2):=by
 cases h with
 | zero=>
  obtain⟨rfl,rfl,rfl,ak,G,al⟩:=hl;obtain⟨rfl,rfl,rfl,am,I,an⟩:=hr;rw[qzF];exact⟨rfl,oL,rfl,λx V=>(zD.1 V).elim (ak x) (am x),fD.tZ.2 ⟨G,I,λx V y J=>sq (h3 x V) (h4 y J)⟩,h1⟩
 | succ h=>
  obtain⟨ab,ac,rfl,rfl,rfl,rfl,ao,G,al,ad⟩:=hl;obtain⟨E,ap,rfl,rfl,rfl,rfl,aq,I,an,R⟩:=hr;obtain⟨a,es,rfl⟩:∃a es,ab=a::es:=by
   cases ab with
   | nil=>cases ac
   | cons b r=>exact⟨b,r,rfl⟩
  obtain⟨b,E,rfl⟩:∃b es,E=b::es:=by
   cases E with
   | nil=>cases ap
   | cons b r=>exact⟨b,r,rfl⟩
  rw[qzx];have ae:∀y∈b.2.y9,mr key y.1:=λy J=>h4 y (by rw[yH];exact zH _ J);have U:=HX I (R b oL).1 ae;refine⟨a::es++(key,b.2)::E,ac,rfl,by simp;omega,by simp[yQ],by simp[yQ],λc u=>?_,gg.tZ G (I.head U ae) λx V y J=>?_,by simpa using h1,λc u=>?_⟩;rcases zD.1 (show c∈es++(key,b.2)::E from u) with u|u;exact ao c u;rcases zG.1 u with rfl|u;exact hk;exact aq c u;have af:=qwM G ad h3 x V;have ag:∀w∈x.2.y9,fT w.1 key:=λw hw=>h3 w (yK.2 ⟨x,V,hw⟩);rcases zG.1 J with rfl|J;exact⟨af,ag⟩;exact⟨qc af (U y J),λw hw=>qc (ag w hw) (U y J)⟩;rcases zD.1 u with u|u;exact ad c u;rcases zG.1 u with rfl|u;exact R b oL;exact R c (by simp[u])
end
end
section
section
variable {D:dV} {M M':eH} {k v:Nat}
def Step.part{M1:eH}{a x y:IT}(E:∀z∈a++(x++b),eA M z)(G:(a++(x++b)).Nodup)(h:Step D M M1 x y):Step D M M1 (a++(x++b)) (a++(y++b)):=by have u:(a++(x++b)).Perm ((a++b)++x):=ED (z:=a);exact ((h.beside (Z:=a++b) (λz I=>E z (u.mem_iff.2 (zH _ I))) (u.nodup_iff.1 G)).perm u.symm (ED (z:=a)).symm)
def Step.kid{M1 u:eH}{h Q:IT}(E:∀z∈p::R,eA M z)(G:(p::R).Nodup)(I:Step D M M1 R h)(J:Step D M1 u [p] Q):Step D M u (p::R) (Q++h):=by
 have:=Step.node (D:=D) (p:=p) (a:=[]) (b:=[]) (x:=R) (y:=h) (Q:=Q) (oP E) (oP G) I J;simpa using this
def Gm{A B:List ij}{e1 h:ij}:((A++e1::h::B).map (·.1)).tail.getD A.length []=h.1:=by
 cases A with
 | nil=>rfl
 | cons a A=>simp
def Am{A B:List ij}{e1 h:ij}:((A++e1::h::B).map (·.2.x7)).getD A.length 0=e1.2.x7/\((A++e1::h::B).map (·.2.x7)).getD (A.length+1) 0=h.2.x7:=by constructor;simp;simp
def qz0{A B:List ij}{e1 h:ij}{s1 s2:iK}:(⟨false,((A++e1::h::B).map (·.1)).tail.set A.length m,[],(((A++e1::h::B).map (·.2.x7)).set A.length s1.x7).set (A.length+1) s2.x7⟩:dY)=dZ (A++(e1.1,s1)::(m,s2)::B):=by
 unfold dZ;congr 1;cases A with
 | nil=>rfl
 | cons a A=>simp[set_append_right]
 simp[set_append_right]
def qzk{A B:List ij}{e1 E:ij}{s:iK}:(⟨false,iu ((A++e1::E::B).map (·.1)).tail A.length,[],iu (((A++e1::E::B).map (·.2.x7)).set A.length s.x7) (A.length+1)⟩:dY)=dZ (A++(e1.1,s)::B):=by
 have I:(A.map (·.2.x7)).length=A.length:=zK _;unfold dZ iu;congr 1;cases A with
 | nil=>rfl
 | cons a A=>
  have u:((a::A++e1::E::B).map (·.1)).tail=(A.map (·.1)++[e1.1])++(E.1::B.map (·.1)):=oL;have G:((a::A++(e1.1,s)::B).map (·.1)).tail=(A.map (·.1)++[e1.1])++B.map (·.1):=oL;have h:(A.map (·.1)++[e1.1]).length=(a::A).length:=oL;rw[u,G,take_left' h,<- h,drop_length_add_append];rfl
 have u:((A++e1::E::B).map (·.2.x7)).set A.length s.x7=(A.map (·.2.x7)++[s.x7])++(E.2.x7::B.map (·.2.x7)):=(by rw[xO,set_append_right _ _ oJ,I,Nat.sub_self];simp);have h:(A.map (·.2.x7)++[s.x7]).length=A.length+1:=oL;rw[u,take_left' h,<- h,drop_length_add_append];simp
def qzZ{A B:List ij}{e:ij}{s:iK}:(⟨false,((A++e::B).map (·.1)).tail,[],((A++e::B).map (·.2.x7)).set A.length s.x7⟩:dY)=dZ (A++(e.1,s)::B):=by
 have h:(A.map (·.2.x7)).length=A.length:=zK _;unfold dZ;congr 1;cases A with
 | nil=>rfl
 | cons a A=>simp
 rw[xO,set_append_right _ _ oJ,h,Nat.sub_self];simp
structure tA (D:dV) (M:eH) (k v:Nat) (h:Nat) (A B:List ij) (e1 e2:ij) (Nl Nr:dY) (n1 n2:Nat) (L1 L2:gr) (R1 R2:IT):Prop where
 wf:M.Wf
 Q5:M.Q5=false
 head:((A++e1::e2::B).map (·.1)).head?=some []
 J8:gR k (A++e1::e2::B)
 sep:gg (A++(e1.1,⟨0,0,L1,[]⟩)::(e2.1,⟨0,0,L2,[]⟩)::B)
 len:A.length+B.length+2<=(eE k v).2
 rest:∀ b,b∈A\/b∈B->Has D M k v h b.2/\minOf k v h<=b.2.size
 left:jI D M k v h Nl n1 L1 R1
 right:jI D M k v h Nr n2 L2 R2
 use:∀ x∈A.flatMap (·.2.cC)++(((e1.2.x7::R1)++(e2.2.x7::R2))++B.flatMap (·.2.cC)),eA M x
 nodup:(A.flatMap (·.2.cC)++(((e1.2.x7::R1)++(e2.2.x7::R2))++B.flatMap (·.2.cC))).Nodup
def tA.xu{A B:List ij}{e1 u:ij}{I J:dY}{G E:gr}{U:IT}(H:tA D M k v h A B e1 u I J n1 n2 G E R U):(∀x∈G,fT x.1 u.1)/\(∀y∈E,mr u.1 y.1)/\u.1.length=k/\eX u.1:=by have V:=pairwise_append.1 H.sep.pair;have hc:=yJ.1 V.2.1;have hk:=H.J8 u (by cases A<;>simp);exact⟨(hc.1 (u.1,⟨0,0,E,[]⟩) oL).2,H.sep.low (u.1,⟨0,0,E,[]⟩) oL,hk⟩
def qtH(hc:iE k v){A B:List ij}{e1 G:ij}(H:tA D M k v h A B e1 G Nl Nr n1 n2 L1 L2 R1 R2){r:dY×dY×Key}(hr:uh D M k v h r (L1++L2) (R1++R2))(hf:2<=M.Q3.length): ∃N M' R,od k v M (dZ (A++e1::G::B)) A.length r=((N,0),M')/\jI D M' k v (h+1) N (A.length+B.length+2) (A.flatMap (·.2.y9)++((L1++L2)++B.flatMap (·.2.y9))) R/\ Step D M M' (A.flatMap (·.2.cC)++(((e1.2.x7::R1)++(G.2.x7::R2))++B.flatMap (·.2.cC))) R/\M.Q3.length<=M'.Q3.length+2:=by
 obtain⟨m1,K1,J,m2,K2,U,aO,aP,eL,eR,aQ,aR,aT,aU,aV,aW,aC,aD⟩:=hr.DA;have bi:=hc.min h;have ae:=H.use;have av:=H.nodup;have pm:(((e1.2.x7::R1)++(G.2.x7::R2))).Perm (e1.2.x7::G.2.x7::(R1++R2)):=by rw[xK];exact (perm_middle).cons _
 rw[<- eR] at pm;have ab:∀x,x∈e1.2.x7::G.2.x7::(J++U)->x∈A.flatMap (·.2.cC)++(((e1.2.x7::R1)++(G.2.x7::R2))++B.flatMap (·.2.cC)):=λx E=>zI _ (zH _ (pm.mem_iff.2 E));have ak:(e1.2.x7::G.2.x7::(J++U)).Nodup:=pm.nodup_iff.1 (yM.1 (yM.1 av).2.1).1;have ac:=nodup_cons.1 ak;have al:=nodup_cons.1 ac.2;have aX:=ae _ (ab e1.2.x7 oL);have aF:=ae _ (ab G.2.x7 oL);obtain⟨I,M1,s1,af,H1,bk⟩:=aO.store H.wf H.Q5 oJ aX (λhm=>ac.1 (zN _ (zH _ hm))) oJ;have V:∀x,eA M x->x≠e1.2.x7->dU D M1 x=dU D M x/\eA M1 x/\x≠I:=λx E aw=>by
  have:=af.rest x E (oP aw);exact⟨this.1,this.2.1,by simpa using this.2.2⟩
 have ag:G.2.x7≠e1.2.x7:=λe=>ac.1 (by rw[e];simp);have aZ:jI D M1 k v h r.2.1 m2 K2 U:=aP.j1 λx E=>(V x (ae x (ab x (by simp[E]))) λe=>ac.1 (by rw[<- e];simp[E])).1;obtain⟨q2,M2,s2,aG,H2,bn⟩:=aZ.store af.wf af.Q5 oJ (V _ aF ag).2.1 (λhm=>al.1 (zI _ hm)) oJ;have ah:∀x,eA M1 x->x≠G.2.x7->dU D M2 x=dU D M1 x/\eA M2 x/\x≠q2:=λx E aw=>by
  have:=aG.rest x E (oP aw);exact⟨this.1,this.2.1,by simpa using this.2.2⟩
 have am:∀x∈I::J,eA M1 x/\x≠G.2.x7:=λx E=>by refine⟨H1.J6 af.Q5 x E,λe=>?_⟩;rcases zG.1 E with e'|E;rcases af.new I oL with h9|h9;exact ag (by rw[<- e,e',zE.1 h9]);exact h9 (by rw[<- e',e];exact aF);exact al.1 (zH _ (e▸E))
 have a0:Has D M2 k v h ⟨I,m1,K1,I::J⟩:=H1.j1 λx E=>(ah x (am x E).1 (am x E).2).1;have a1:∀b,b∈A\/b∈B->∀x∈b.2.cC,eA M x/\x≠e1.2.x7/\x≠G.2.x7:=λb u x E=>by
  have hd:=yM.1 av;have a2:=yM.1 hd.2.1;have aH:∀z,z=e1.2.x7\/z=G.2.x7->z∈(e1.2.x7::R1)++(G.2.x7::R2):=λz hz=>pm.mem_iff.2 (by rcases hz with rfl|rfl<;>simp);have key:∀z,z=e1.2.x7\/z=G.2.x7->x≠z:=λz hz e=>by rcases u with u|u;exact hd.2.2 x (yK.2 ⟨b,u,E⟩) z (zH _ (aH z hz)) e;exact a2.2.2 z (aH z hz) x (yK.2 ⟨b,u,E⟩) e.symm
  refine⟨ae x ?_,key _ (.inl rfl),key _ (.inr rfl)⟩;rcases u with u|u;exact zH _ (yK.2 ⟨b,u,E⟩);exact zI _ (zI _ (yK.2 ⟨b,u,E⟩))
 have ai:∀b,b∈A\/b∈B->Has D M2 k v h b.2/\minOf k v h<=b.2.size:=λb u=>⟨(H.rest b u).1.j1 λx E=>by have h9:=a1 b u x E;have h8:=V x h9.1 h9.2.1;exact ((ah x h8.2.1 h9.2.2).1).trans h8.1,(H.rest b u).2⟩;have hL:K1++K2=L1++L2:=eL;have aI:gg (A++(e1.1,(⟨I,m1,K1,I::J⟩:iK))::(r.2.2,⟨q2,m2,K2,q2::U⟩)::B):=by
  have hS:=H.sep;have hp:=pairwise_append.1 hS.pair;have aj:=yJ.1 hp.2.1;have aK:=yJ.1 aj.2;have hj:gg (A++(e1.1,(⟨0,0,L1++L2,[]⟩:iK))::B):=by refine⟨pairwise_append.2 ⟨hp.1,yJ.2 ⟨λb u=>⟨(aj.1 b (by simp[u])).1,λx E=>?_⟩,aK.2⟩,λa ha b u=>?_⟩,λb u x E=>?_⟩;rcases zD.1 E with E|E;exact (aj.1 b (by simp[u])).2 x E;exact (aK.1 b u).2 x E;rcases zG.1 u with rfl|u;exact hp.2.2 a ha (e1.1,⟨0,0,L1,[]⟩) oL;exact hp.2.2 a ha b (by simp[u]);rcases zD.1 u with u|u;exact hS.low b (by simp[u]) x E;rcases zG.1 u with rfl|u;rcases zD.1 E with E|E;exact hS.low (e1.1,⟨0,0,L1,[]⟩) oL x E;have h9:=hS.low (G.1,⟨0,0,L2,[]⟩) oL x E;exact Ad (tj (aj.1 (G.1,⟨0,0,L2,[]⟩) oL).1) h9;exact hS.low b (by simp[u]) x E
  exact hj.yw hL.symm aQ aR aC aD
 have ax:gR k (A++(e1.1,(⟨I,m1,K1,I::J⟩:iK))::(r.2.2,⟨q2,m2,K2,q2::U⟩)::B):=by
  have h9:gR k (A++e1::B):=λb u=>H.J8 b (by
   cases A with
   | nil=>exact zN _ u
   | cons a A=>
    rcases zD.1 (show b∈A++e1::B from u) with u|u;exact zH (e1::G::B) u;exact zI A ((zG.1 u).elim (λe=>by rw[e];simp) λu=>by simp[u]))
  exact qrY h9 ⟨aT,aU⟩
 have ay:((A++(e1.1,(⟨I,m1,K1,I::J⟩:iK))::(r.2.2,⟨q2,m2,K2,q2::U⟩)::B).map (·.1)).head?=some []:=by
  have h9:=H.head;cases A with
  | nil=>exact h9
  | cons a A=>exact h9
 refine⟨dZ (A++(e1.1,(⟨I,m1,K1,I::J⟩:iK))::(r.2.2,⟨q2,m2,K2,q2::U⟩)::B),M2,_,?_,⟨_,ay,rfl,by simp;omega,?_,rfl,ax,aI,H.len,λb u=>?_⟩,?_,oJ⟩;have a3:(dZ (A++e1::G::B)).Q1.getD A.length 0=e1.2.x7:=Am.1;have a4:(dZ (A++e1::G::B)).Q1.getD (A.length+1) 0=G.2.x7:=Am.2;unfold od;rw[a3,a4,s1];dsimp only;rw[iN λh=>h rfl,s2];exact IH (λN=>((N,(0:Int)),M2)) (qz0 (s1:=⟨I,m1,K1,I::J⟩) (s2:=⟨q2,m2,K2,q2::U⟩));rw[ru,yH,<- hL,zV];rcases zD.1 u with u|u;exact ai b (.inl u);rcases zG.1 u with rfl|u;exact⟨a0,aV⟩;rcases zG.1 u with rfl|u;exact⟨H2,aW⟩;exact ai b (.inr u);have t1:Step D M M1 (e1.2.x7::G.2.x7::(J++U)) ([I]++G.2.x7::(J++U)):=by
  have:=af.beside (Z:=G.2.x7::(J++U)) (λx E=>ae x (ab x (zN _ E))) (by have p9:(e1.2.x7::G.2.x7::(J++U)).Perm ((G.2.x7::(J++U))++[e1.2.x7]):=(Iq _ _).symm;exact p9.nodup_iff.1 ak);exact this.perm (Iq _ _) perm_append_comm
 have aL:∀x∈[I]++(J++U),eA M1 x:=λx E=>t1.has x (by rcases zD.1 E with E|E;exact zH _ E;exact zI _ (zN _ E));have p8:([I]++G.2.x7::(J++U)).Perm (([I]++(J++U))++[G.2.x7]):=(by exact perm_middle.trans<|(Iq _ _).symm);have t2:=aG.beside (Z:=[I]++(J++U)) aL (p8.nodup_iff.1 t1.nodup);have t3:=(t1.perm (.refl _) p8).trans t2;have p7:(([I]++(J++U))++[q2]).Perm ((I::J)++(q2::U)):=(by show (I::((J++U)++[q2])).Perm (I::(J++q2::U));refine List.Perm.cons _ ((Iq _ _).trans ?_);exact perm_middle.symm);have t4:=Step.part (D:=D) (a:=A.flatMap (·.2.cC)) (b:=B.flatMap (·.2.cC)) ae av (t3.perm pm.symm p7);rw[ru,yH];refine t4.perm (.refl _) ?_;rw[zV]
end
end
section
section
variable {D:dV} {M M':eH} {k v:Nat}
def qpF(G:M.Wf)(I:M.Q5=false)(J:eA M n):∃M',fK M n=(0,M')/\Step D M M' [n] []/\M.Q3.length<=M'.Q3.length:=by
 obtain⟨M',e,t,R,U,V⟩:=qlP (D:=D) (q:=n+1) G I J oJ;have E:∀x,x≠n->dU D M' x=dU D M x/\(eA M' x↔eA M x):=λx u=>by by_cases hq':x=n+1;rw[hq'];exact⟨R,U⟩;exact⟨t.rest x hq' u,t.use x hq' u⟩
 refine⟨M',e,⟨t.wf,t.Q5,t.Q4,t.J1,t.Q7,t.x5,t.y7,t.x8,λx u h=>?_,λx u=>?_,λx u=>(nomatch u),λx u=>(nomatch u),.nil,t.mT⟩,V⟩;have h:x≠n:=(oP h);exact⟨(E x h).1,(E x h).2.2 u,oL⟩;by_cases h:x=n;subst h;exact absurd u (t.left oJ);exact .inr ⟨(E x h).2.1 u,by simpa using h⟩
def qpT(hc:iE k v){A B:List ij}{e1 G:ij}{I J:IT}(H:tA D M k v h A B e1 G Nl Nr n1 n2 L1 L2 I J)(h1:n1+n2<=(if h=0 then (eE k v).1 else (eE k v).2))(h2:minOf k v h<=n1+n2)(hf:1<=M.Q3.length): ∃N M' R,mi k v M (dZ (A++e1::G::B)) A.length Nl Nr=((N,0),M')/\jI D M' k v (h+1) N (A.length+B.length+1) (A.flatMap (·.2.y9)++((L1++L2)++B.flatMap (·.2.y9))) R/\ Step D M M' (A.flatMap (·.2.cC)++(((e1.2.x7::I)++(G.2.x7::J))++B.flatMap (·.2.cC))) R/\M.Q3.length<=M'.Q3.length+1:=by
 obtain⟨aC,aD,aE,aF⟩:=H.xu;have hJ:=qzz H.left H.right h1 aC aD ⟨aE,aF⟩;have a2:=hc.min h;have V:=H.use;have al:=H.nodup;have pm:(((e1.2.x7::I)++(G.2.x7::J))).Perm (e1.2.x7::G.2.x7::(I++J)):=by rw[xK];exact (perm_middle).cons _
 have aa:∀x,x∈e1.2.x7::G.2.x7::(I++J)->x∈A.flatMap (·.2.cC)++(((e1.2.x7::I)++(G.2.x7::J))++B.flatMap (·.2.cC)):=λx E=>zI _ (zH _ (pm.mem_iff.2 E));have ak:(e1.2.x7::G.2.x7::(I++J)).Nodup:=pm.nodup_iff.1 (yM.1 (yM.1 al).2.1).1;have ab:=nodup_cons.1 ak;have aq:=nodup_cons.1 ab.2;have aG:=V _ (aa e1.2.x7 oL);have ar:=V _ (aa G.2.x7 oL);obtain⟨q,M1,s1,ac,H1,a4⟩:=hJ.store H.wf H.Q5 oJ aG (λhm=>ab.1 (zN _ hm)) hf;have ad:G.2.x7≠e1.2.x7:=λe=>ab.1 (by rw[e];simp);have U:∀x,eA M x->x≠e1.2.x7->dU D M1 x=dU D M x/\eA M1 x/\x≠q:=λx E am=>by
  have:=ac.rest x E (oP am);exact⟨this.1,this.2.1,by simpa using this.2.2⟩
 obtain⟨M2,s2,au,a7⟩:=qpF (D:=D) ac.wf ac.Q5 (U _ ar ad).2.1;have ae:∀x,eA M1 x->x≠G.2.x7->dU D M2 x=dU D M1 x/\eA M2 x:=λx E am=>by
  have:=au.rest x E (oP am);exact⟨this.1,this.2.1⟩
 have aH:Has D M2 k v h ⟨q,n1+n2,L1++L2,q::(I++J)⟩:=H1.j1 λx E=>(ae x (H1.J6 ac.Q5 x E) λe=>by rcases zG.1 E with e'|E;exact (U _ ar ad).2.2 (by rw[<- e,e']);exact aq.1 (e▸E)).1;have aI:∀b,b∈A\/b∈B->∀x∈b.2.cC,eA M x/\x≠e1.2.x7/\x≠G.2.x7:=λb u x E=>by
  have hd:=yM.1 al;have aJ:=yM.1 hd.2.1;have av:∀z,z=e1.2.x7\/z=G.2.x7->z∈(e1.2.x7::I)++(G.2.x7::J):=λz hz=>pm.mem_iff.2 (by rcases hz with rfl|rfl<;>simp);have key:∀z,z=e1.2.x7\/z=G.2.x7->x≠z:=λz hz e=>by rcases u with u|u;exact hd.2.2 x (yK.2 ⟨b,u,E⟩) z (zH _ (av z hz)) e;exact aJ.2.2 z (av z hz) x (yK.2 ⟨b,u,E⟩) e.symm
  refine⟨V x ?_,key _ (.inl rfl),key _ (.inr rfl)⟩;rcases u with u|u;exact zH _ (yK.2 ⟨b,u,E⟩);exact zI _ (zI _ (yK.2 ⟨b,u,E⟩))
 have af:∀b,b∈A\/b∈B->Has D M2 k v h b.2/\minOf k v h<=b.2.size:=λb u=>⟨(H.rest b u).1.j1 λx E=>by have h9:=aI b u x E;have h8:=U x h9.1 h9.2.1;exact ((ae x h8.2.1 h9.2.2).1).trans h8.1,(H.rest b u).2⟩;have hS:=H.sep;have hp:=pairwise_append.1 hS.pair;have aj:=yJ.1 hp.2.1;have ax:=yJ.1 aj.2;have ay:gg (A++(e1.1,(⟨q,n1+n2,L1++L2,q::(I++J)⟩:iK))::B):=by refine⟨pairwise_append.2 ⟨hp.1,yJ.2 ⟨λb u=>⟨(aj.1 b (by simp[u])).1,λx E=>?_⟩,ax.2⟩,λa ha b u=>?_⟩,λb u x E=>?_⟩;rcases zD.1 E with E|E;exact (aj.1 b (by simp[u])).2 x E;exact (ax.1 b u).2 x E;rcases zG.1 u with rfl|u;exact hp.2.2 a ha (e1.1,⟨0,0,L1,[]⟩) oL;exact hp.2.2 a ha b (by simp[u]);rcases zD.1 u with u|u;exact hS.low b (by simp[u]) x E;rcases zG.1 u with rfl|u;rcases zD.1 E with E|E;exact hS.low (e1.1,⟨0,0,L1,[]⟩) oL x E;have h9:=hS.low (G.1,⟨0,0,L2,[]⟩) oL x E;exact Ad (tj (aj.1 (G.1,⟨0,0,L2,[]⟩) oL).1) h9;exact hS.low b (by simp[u]) x E
 have an:gR k (A++(e1.1,(⟨q,n1+n2,L1++L2,q::(I++J)⟩:iK))::B):=by
  have h9:gR k (A++e1::B):=λb u=>H.J8 b (by
   cases A with
   | nil=>exact zN _ u
   | cons a A=>
    rcases zD.1 (show b∈A++e1::B from u) with u|u;exact zH (e1::G::B) u;exact zI A ((zG.1 u).elim (λe=>by rw[e];simp) λu=>by simp[u]))
  exact FV h9
 have ao:((A++(e1.1,(⟨q,n1+n2,L1++L2,q::(I++J)⟩:iK))::B).map (·.1)).head?=some []:=by
  have h9:=H.head;cases A with
  | nil=>exact h9
  | cons a A=>exact h9
 have aV:=H.len;refine⟨dZ (A++(e1.1,(⟨q,n1+n2,L1++L2,q::(I++J)⟩:iK))::B),M2,_,?_,⟨_,ao,rfl,by simp;omega,by rw[ru],rfl,an,ay,oJ,λb u=>?_⟩,?_,oJ⟩;have aK:(dZ (A++e1::G::B)).Q1.getD A.length 0=e1.2.x7:=Am.1;have aL:(dZ (A++e1::G::B)).Q1.getD (A.length+1) 0=G.2.x7:=Am.2;have aM:(dZ (A++e1::G::B)).J8.getD A.length []=G.1:=Gm;unfold mi;rw[aK,aL,aM,s1];dsimp only;rw[iN λh=>h rfl,s2];dsimp only;rw[iN λh=>h rfl];exact IH (λN=>((N,(0:Int)),M2)) (qzk (s:=⟨q,n1+n2,L1++L2,q::(I++J)⟩));rcases zD.1 u with u|u;exact af b (.inl u);rcases zG.1 u with rfl|u;exact⟨aH,h2⟩;exact af b (.inr u);have t1:Step D M M1 (e1.2.x7::G.2.x7::(I++J)) ([q]++G.2.x7::(I++J)):=by
  have:=ac.beside (Z:=G.2.x7::(I++J)) (λx E=>V x (aa x (zN _ E))) (by have p9:(e1.2.x7::G.2.x7::(I++J)).Perm ((G.2.x7::(I++J))++[e1.2.x7]):=(Iq _ _).symm;exact p9.nodup_iff.1 ak);exact this.perm (Iq _ _) perm_append_comm
 have p8:([q]++G.2.x7::(I++J)).Perm (([q]++(I++J))++[G.2.x7]):=(by exact perm_middle.trans<|(Iq _ _).symm);have t2:=au.beside (Z:=[q]++(I++J)) (λx E=>t1.has x (by rcases zD.1 E with E|E;exact zH _ E;exact zI _ (zN _ E))) (p8.nodup_iff.1 t1.nodup);have t3:=(t1.perm (.refl _) p8).trans t2;rw[xI] at t3;have t4:=Step.part (D:=D) (a:=A.flatMap (·.2.cC)) (b:=B.flatMap (·.2.cC)) V al (t3.perm pm.symm (.refl _));rw[ru];exact t4
def gg.swap{A B:List ij}{e:ij}{s:iK}(h:gg (A++e::B))(u:∀x∈s.y9,x∈e.2.y9):gg (A++(e.1,s)::B):=
 h.put (key:=e.1) rQ (λb E=>(h.mid.2 b E).1) λx G=>.inr (u x G)
def Fy(hc:iE k v){key:Key}:∀(h:Nat) (M:eH) (s:iK),Has D M k v h s->M.Wf->M.Q5=false->s.cC.Nodup->key∈eh s.y9->2*h<=M.Q3.length-> ∃N n M' R R',iJ D k v key (h+1) M s.x7=((N,0),M')/\s.cC=s.x7::R/\jI D M' k v h N n (gL key s.y9) R'/\Step D M M' R R'/\s.size<=n+1/\M.Q3.length<=M'.Q3.length+2*h
 | 0,M,s,hs,hW,ho,aM,am,hf=>by
  obtain⟨N,R,hl,hN,hp,bV,_⟩:=hs.load;have bW:=hN;obtain⟨rfl,hn,rfl,hL,aN,bd⟩:=hN;have an:=qnp aN am;have hm:=(zq aN).2 am;have hi:ed (eh s.y9) key<s.y9.length:=by
   have:=(zP.1 hm).1;simpa using this
  have bM:(gL key s.y9).length+1=s.y9.length:=(by rw[an,zF,yL,yB];omega);refine⟨eM (gL key s.y9),(gL key s.y9).length,M,[],[],?_,hp,⟨rfl,rfl,rfl,λx u=>hL x (HD.1 u).1,qpA aN,oJ⟩,Step.refl hW ho (λx u=>nomatch u) .nil,oJ,oJ⟩;unfold iJ;rw[hl];dsimp only;rw[iN λh=>h rfl,iP (show (eM s.y9).Q6=true from rfl),iP (show (eM s.y9).J8[ed (eM s.y9).J8 key]?=some key from hm)];refine IH (λN=>((N,(0:Int)),M)) ?_;rw[an];unfold eM iu;simp only[xO,xQ,xR]
 | h+1,M,⟨p,n,L,P⟩,⟨es,h0,h1,h2,h3,h4,h5,h6,h7⟩,hW,ho,aM,am,hf=>by
  dsimp only at h1 h2 h3 h5 aM am;subst h1 h2 h3;have hl:dW D M k v p=(dZ es,0):=h4.load h5;have ao:=h4.right.y6;obtain⟨A,e,B,ab,hA,bx,bz,aP⟩:=vM (key:=key) h0 h6;have aQ:(dZ es).Q1.getD (eP (dZ es).J8 key) 0=e.2.x7:=aP;have bA:eP (dZ es).J8 key=A.length:=hA.symm;have bB:e∈es:=(by rw[ab];simp);obtain⟨bC,bD⟩:=h7 e bB;have aj:es.flatMap (·.2.cC)=A.flatMap (·.2.cC)++(e.2.cC++B.flatMap (·.2.cC)):=(by rw[ab,ru]);have aw:es.flatMap (·.2.y9)=A.flatMap (·.2.y9)++(e.2.y9++B.flatMap (·.2.y9)):=(by rw[ab,ru]);have az:∀z∈A.flatMap (·.2.cC)++(e.2.cC++B.flatMap (·.2.cC)),eA M z:=λz hz=>by rw[<- aj] at hz;obtain⟨b,G,hz⟩:=yK.1 hz;exact (h7 b G).1.J6 ho z hz
  have ai:(A.flatMap (·.2.cC)++(e.2.cC++B.flatMap (·.2.cC))).Nodup:=(by rw[<- aj];exact (nodup_cons.1 aM).2);have ap:e.2.cC.Nodup:=(yM.1 (yM.1 ai).2.1).1;have ax:=h6;rw[ab] at ax;have aA:=ax.mid;have bg:∀x∈A.flatMap (·.2.y9),fT x.1 key:=λx u=>by obtain⟨a,ha,u⟩:=yK.1 u;exact sq (aA.1 a ha x u) bx
  have bh:∀x∈B.flatMap (·.2.y9),fT key x.1:=λx u=>by obtain⟨b,G,u⟩:=yK.1 u;exact sq (bz b G) ((aA.2 b G).2.2 x u)
  have an:gL key (es.flatMap (·.2.y9))=A.flatMap (·.2.y9)++(gL key e.2.y9++B.flatMap (·.2.y9)):=(by rw[aw,qno bg,qlN bh]);have aR:key∈eh e.2.y9:=by obtain⟨x,u,rfl⟩:=mem_map.1 am;rw[aw] at u;rcases zD.1 u with u|u;exact absurd (bg x u) rQ;rcases zD.1 u with u|u;exact zY u;exact absurd (bh x u) rQ
  obtain⟨N1,n1,M1,Re,U,ec,aT,aq,st,b1,b2⟩:=Fy hc h M e.2 bC hW ho ap aR oJ;rw[aT] at az ai ap;have ac:=gR.of h4;have aK:e.2.x7∉Re:=(nodup_cons.1 ap).1;have aU:eA M e.2.x7:=az _ oL;have bF:Step D M M1 (e.2.x7::Re) (e.2.x7::U):=st.beside (Z:=[e.2.x7]) (λx u=>by rw[zE.1 u];exact aU) (oP ap);have aV:=Step.part az ai bF;have bi:eA M1 e.2.x7:=(st.rest _ aU aK).2.1;have aW:e.2.x7∉U:=(st.rest _ aU aK).2.2;have I:∀b,b∈A\/b∈B->Has D M1 k v h b.2/\minOf k v h<=b.2.size:=λb G=>by
   have aX:b∈es:=by rw[ab];rcases G with G|G<;>simp[G]
   refine⟨(h7 b aX).1.j1 λx u=>?_,(h7 b aX).2⟩;have hd:=yM.1 ai;refine (st.rest x ((h7 b aX).1.J6 ho x u) λhm=>?_).1;rcases G with G|G;exact hd.2.2 x (yK.2 ⟨b,G,u⟩) x (zH _ (zN _ hm)) rfl;exact (yM.1 hd.2.1).2.2 x (zN _ hm) x (yK.2 ⟨b,G,u⟩) rfl
  have bd:n1<=(if h=0 then (eE k v).1 else (eE k v).2):=by
   cases h with
   | zero=>exact aq.2.2.2.2.2
   | succ h=>obtain⟨_,_,_,_,_,_,_,_,h9,_⟩:=aq;exact h9
  have b3:=hc.min h;have au:minOf k v h=(if h=0 then (eE k v).1 else (eE k v).2) / 2:=(by unfold minOf;split<;>rfl);have aB:gg (A++(e.1,(⟨0,0,gL key e.2.y9,[]⟩:iK))::B):=ax.swap λx u=>(HD.1 u).1;have E:es.length=A.length+B.length+1:=(by rw[ab];simp;omega);have aF:∀ {N:dY} {M2:eH} {n R':_},jI D M2 k v (h+1) N n (A.flatMap (·.2.y9)++(gL key e.2.y9++B.flatMap (·.2.y9))) R'->jI D M2 k v (h+1) N n (gL key (es.flatMap (·.2.y9))) R':=λh9=>by rw[an];exact h9
  have ay:∀ {M2:eH} {R':IT},Step D M1 M2 (A.flatMap (·.2.cC)++((e.2.x7::U)++B.flatMap (·.2.cC))) R'->Step D M M2 (es.flatMap (·.2.cC)) R':=λh9=>by rw[aj,aT];exact aV.trans h9
  have aL:pH N1 k v↔n1<minOf k v h:=(by unfold pH;rw[aq.size,au]);unfold iJ;rw[hl];dsimp only;rw[iN λh=>h rfl,iN (show ¬(dZ es).Q6=true from λe=>nomatch e),aQ,ec];dsimp only;rw[iN λh=>h rfl,bA];by_cases hlw:pH N1 k v;rw[iN λh=>h hlw];have b4:=aL.1 hlw;have bk:n1+1=minOf k v h:=oJ;by_cases hA0:A.length>0;rw[iP hA0];obtain⟨A',f,rfl⟩:∃A' f,A=A'++[f]:=(by have bl:A≠[]:=length_pos_iff.1 hA0;exact⟨A.dropLast,A.getLast bl,(vB bl).symm⟩);have bG:(A'++[f]).length-1=A'.length:=oL;rw[bG];have aC:=I f (.inl oL);obtain⟨Ny,Ry,aZ,av,a0,_,_⟩:=aC.1.load;have J:es=A'++f::e::B:=(by rw[ab];simp);have bH:(A'++[f]).flatMap (·.2.cC)=A'.flatMap (·.2.cC)++f.2.cC:=(by simp[yQ]);have bn:(A'++[f]).flatMap (·.2.y9)=A'.flatMap (·.2.y9)++f.2.y9:=(by simp[yQ]);have ad:(A'++[f]).flatMap (·.2.cC)++((e.2.x7::U)++B.flatMap (·.2.cC))=A'.flatMap (·.2.cC)++(((f.2.x7::Ry)++(e.2.x7::U))++B.flatMap (·.2.cC)):=(by rw[bH,a0];simp only[zV]);have ar:(A'++[f]).flatMap (·.2.y9)++(gL key e.2.y9++B.flatMap (·.2.y9))=A'.flatMap (·.2.y9)++((f.2.y9++gL key e.2.y9)++B.flatMap (·.2.y9)):=(by rw[bn];simp only[zV]);have aD:gg (A'++(f.1,(⟨0,0,f.2.y9,[]⟩:iK))::(e.1,⟨0,0,gL key e.2.y9,[]⟩)::B):=(by have h9:gg (A'++f::((e.1,(⟨0,0,gL key e.2.y9,[]⟩:iK))::B)):=(oP aB);exact h9.swap (s:=⟨0,0,f.2.y9,[]⟩) λx u=>u);have ae:=aV;rw[ad] at ae;have Hn:tA D M1 k v h A' B f e Ny N1 f.2.size n1 f.2.y9 (gL key e.2.y9) Ry U:=
   ⟨st.wf,st.Q5,by rw[<- J];exact h0,by rw[<- J];exact ac,aD,by have:=ao.2;rw[E] at this;simp at this;omega,λb G=>I b (G.imp (λG=>by simp[G]) id),av,aq,ae.has,ae.nodup⟩
  have a2:(dZ es).Q1.getD A'.length 0=f.2.x7:=(by rw[J];exact Am.1);have V:jq Ny k v↔minOf k v h<f.2.size:=(by unfold jq;rw[av.size,au]);unfold kj;rw[a2,aZ];dsimp only;rw[iN λh=>h rfl,iP (show A'.length<(A'++[f]).length by simp),J];by_cases hsq:jq Ny k v;rw[iN λh=>h hsq];obtain⟨a3,a4,a5,a6⟩:=Hn.xu;have a7:(dZ (A'++f::e::B)).J8.getD A'.length []=e.1:=Gm;rw[a7];obtain⟨N,M2,R,e2,af,aa,aH⟩:=qtH hc Hn (qzq hc av aq (V.1 hsq) bk a3 a4 ⟨a5,a6⟩) oJ;rw[<- ar] at af;rw[<- ad] at aa;rw[<- J];exact⟨N,_,M2,_,R,by rw[J];exact e2,rfl,aF af,ay aa,by rw[E];simp;omega,oJ⟩;rw[iP hsq];have bI:f.2.size<=minOf k v h:=Nat.le_of_not_lt λh9=>hsq (V.2 h9);have a8:=aC.2;obtain⟨N,M2,R,e2,af,aa,aH⟩:=qpT hc Hn oJ oJ oJ;rw[<- ar] at af;rw[<- ad] at aa;rw[<- J];exact⟨N,_,M2,_,R,by rw[J];exact e2,rfl,aF af,ay aa,by rw[E];simp;omega,oJ⟩;rw[iN hA0];obtain rfl:A=[]:=Iy oJ;obtain⟨f,B',rfl⟩:∃f B',B=f::B':=by
   cases B with
   | nil=>rw[E] at ao;simp at ao
   | cons f B'=>exact⟨f,B',rfl⟩
  have aC:=I f (.inr oL);obtain⟨Ny,Ry,aZ,av,a0,_,_⟩:=aC.1.load;have J:es=[]++e::f::B':=ab;have ad:([]:List ij).flatMap (·.2.cC)++((e.2.x7::U)++(f::B').flatMap (·.2.cC))=([]:List ij).flatMap (·.2.cC)++(((e.2.x7::U)++(f.2.x7::Ry))++B'.flatMap (·.2.cC)):=by rw[yH,a0];simp only[zV]
  have ar:([]:List ij).flatMap (·.2.y9)++(gL key e.2.y9++(f::B').flatMap (·.2.y9))=([]:List ij).flatMap (·.2.y9)++((gL key e.2.y9++f.2.y9)++B'.flatMap (·.2.y9)):=(by rw[yH];simp only[zV]);have aD:gg ([]++(e.1,(⟨0,0,gL key e.2.y9,[]⟩:iK))::(f.1,⟨0,0,f.2.y9,[]⟩)::B'):=(by have h9:gg ([(e.1,(⟨0,0,gL key e.2.y9,[]⟩:iK))]++f::B'):=aB;exact h9.swap (s:=⟨0,0,f.2.y9,[]⟩) λx u=>u);have ae:=aV;rw[ad] at ae;have Hn:tA D M1 k v h [] B' e f N1 Ny n1 f.2.size (gL key e.2.y9) f.2.y9 U Ry:=
   ⟨st.wf,st.Q5,by rw[<- J];exact h0,by rw[<- J];exact ac,aD,by have:=ao.2;rw[E] at this;simp at this⊢;omega,λb G=>I b (G.imp id λG=>by simp[G]),aq,av,ae.has,ae.nodup⟩
  have a2:(dZ es).Q1.getD (([]:List ij).length+1) 0=f.2.x7:=(by rw[J];exact Am.2);have V:jq Ny k v↔minOf k v h<f.2.size:=(by unfold jq;rw[av.size,au]);unfold kj;rw[a2,aZ];dsimp only;rw[iN λh=>h rfl,iN (show ¬([]:List ij).length+1<([]:List ij).length by simp),J];by_cases hsq:jq Ny k v;rw[iN λh=>h hsq];obtain⟨a3,a4,a5,a6⟩:=Hn.xu;have a7:(dZ ([]++e::f::B')).J8.getD ([]:List ij).length []=f.1:=Gm (A:=[]) (B:=B') (e1:=e);rw[a7];obtain⟨N,M2,R,e2,af,aa,aH⟩:=qtH hc Hn (qz4 hc aq av bk (V.1 hsq) a3 a4 ⟨a5,a6⟩) oJ;rw[<- ar] at af;rw[<- ad] at aa;rw[<- J];exact⟨N,_,M2,_,R,by rw[J];exact e2,rfl,aF af,ay aa,by rw[E];simp,oJ⟩;rw[iP hsq];have bI:f.2.size<=minOf k v h:=Nat.le_of_not_lt λh9=>hsq (V.2 h9);have a8:=aC.2;obtain⟨N,M2,R,e2,af,aa,aH⟩:=qpT hc Hn oJ oJ oJ;rw[<- ar] at af;rw[<- ad] at aa;rw[<- J];exact⟨N,_,M2,_,R,by rw[J];exact e2,rfl,aF af,ay aa,by rw[E];simp,oJ⟩;rw[iP hlw];have a8:minOf k v h<=n1:=Nat.le_of_not_lt λh9=>hlw (aL.2 h9);obtain⟨q,M2,e2,aa,H2,aH⟩:=aq.store st.wf st.Q5 oJ bi aW oJ;rw[e2];have bJ:Step D M M2 (e.2.x7::Re) (q::U):=Step.kid (Q:=[q]) (λz hz=>az z (zI _ (zH _ hz))) ap st aa;have bK:=Step.part az ai bJ;have a9:gg (A++(e.1,(⟨q,n1,gL key e.2.y9,q::U⟩:iK))::B):=ax.swap λx u=>(HD.1 u).1;have a':((A++(e.1,(⟨q,n1,gL key e.2.y9,q::U⟩:iK))::B).map (·.1)).head?=some []:=(by rw[ab] at h0;rw[xO,xP] at h0⊢;exact h0);refine⟨dZ (A++(e.1,(⟨q,n1,gL key e.2.y9,q::U⟩:iK))::B),es.length,M2,_,A.flatMap (·.2.cC)++((q::U)++B.flatMap (·.2.cC)),?_,rfl,⟨_,a',rfl,by rw[ab];simp,by rw[ru,an],by rw[ru],FV (by rw[<- ab];exact ac),a9,ao.2,λb G=>?_⟩,by rw[aj,aT];exact bK,by show es.length<=es.length+1;omega,oJ⟩;rw[ab];exact IH (λN=>((N,(0:Int)),M2)) (qzZ (s:=⟨q,n1,gL key e.2.y9,q::U⟩));have bo:∀b,b∈A\/b∈B->Has D M2 k v h b.2/\minOf k v h<=b.2.size:=λb G=>by have h9:=I b G;refine⟨h9.1.j1 λx u=>(aa.rest x (h9.1.J6 st.Q5 x u) λhm=>?_).1,h9.2⟩;have hd:=yM.1 ai;have bp:=zE.1 hm;rcases G with G|G;exact hd.2.2 x (yK.2 ⟨b,G,u⟩) x (by rw[bp];simp) rfl;exact (yM.1 hd.2.1).2.2 x (by rw[bp];simp) x (yK.2 ⟨b,G,u⟩) rfl
  rcases zD.1 G with G|G;exact bo b (.inl G);rcases zG.1 G with rfl|G;exact⟨H2,a8⟩;exact bo b (.inr G)
end
end
end
end Go.Proofs.YtpcmehldpoljfaaGreatDoor
