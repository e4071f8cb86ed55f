/- Conditions: those that stand in each line. -/
import Derived.Test.YtfneoijhmknlnaaGreatDoorCXPR2
import Derived.Test.YtfneoijhmknlnaaGreatDoorCXPR3
import Derived.Test.YtfneoijhmknlnaaGreatDoorCXPR1
import Derived.Test.YtfneoijhmknlnaaGreatDoorTie
import Derived.LaidMore
import Derived.MakeChecks
import Derived.OpenShut
import Derived.ProofKit
import Derived.Lib.Bytealg
import Derived.Lib.BytesEntry
import Derived.Laws.IdiomStrings
import Derived.Laws.BytesString
set_option linter.unusedVariables false
set_option linter.unusedSimpArgs false
set_option linter.defProp false
namespace Go.Proofs.YtfneoijhmknlnaaGreatDoor
open Go Go.Pt
attribute [local irreducible] ld dT iH pK ku fw st new idx kZ kM gb kV ke nz ig nn call eF inv run fM i9 join loop held ext kJ ft pw pQ pT IntKind.wrap
open Go.Proofs.Tryz (prog)
section
open Go Go.Pt List
open Go.IntKind (wrap)
variable {F S:KD} {K:Int->WP} {Z:List Kw} {db:Nat} {l:KE} {n:Int} {w:Kv}
abbrev nu:={l:KE // l.length=512}
def kj (b:nu):List Kw:=b.1.map (Value.int .u8)
def vp(b:nu):(kj b).length=512:=by rw[kj,zK,b.2]
def nE (x:Int×nu):List Kw:=Value.int .i64 x.1::kj x.2
def yp(x:Int×nu):(nE x).length=513:=by rw[nE,yJ,vp]
def nu.zero:nu:=⟨zs 512,rU 512⟩
structure dV where
 Q5:List nu
 Q6:List (Int×nu)
 y8:Int
 down:Bool
 writes:Int
variable {D:dV}
structure dV.Ok (D:dV):Prop where
 at_:∀ x∈D.Q6,0<=x.1/\x.1<D.Q5.length
 y8:-1<=D.y8/\D.y8<=1000000000
 Q5:D.Q5.length<=4096
 Q6:D.Q6.length<=1000000
 writes:0<=D.writes/\D.writes<=1000000000
 qv:∀ b∈D.Q5,fq b.1
 qo:∀ x∈D.Q6,fq x.2.1
abbrev DT:Kx:=262
def kP (D:dV) (sb:Nat) (h:Sl):Array Kw:=#[.slice (pW sb) D.Q5.length D.Q5.length,h.v,.i D.y8,.bool D.down,.i D.writes]
def fN (w:Kv) (db:Nat) (F:KD) (D:dV):Prop:=
 ∃(sb:Nat) (T:Kx) (h:Sl) (B:KD),F=db::sb::B/\(db::sb::B).Nodup/\w.heap[db]?=some (.c (kP D sb h) DT)/\w.heap[sb]?=some (.c (D.Q5.flatMap kj).toArray T)/\fB nE 513 w h D.Q6 B
def fN.j0{w w':Kv}{db:Nat}{F S:KD}{D:dV}(h:fN w db F D)(f:Fr S w w')(u:∀b∈F,b∉S):fN w' db F D:=by obtain⟨sb,T,C,B,rfl,I,E,G,J⟩:=h;exact⟨sb,T,C,B,rfl,I,by rw[f.block db (fl E) (u _ oM)];exact E,by rw[f.block sb (fl G) (u _ oM)];exact G,J.j0 f λb O=>u b (by simp[O])⟩
def fN.q8{w':Kv}(h:fN w db F D)(f:Fr [] w w'):fN w' db F D:=h.j0 f (λ_ _ h=>by cases h)
def fN.lt{w:Kv}{db:Nat}{F:KD}{D:dV}(h:fN w db F D):∀b∈F,b<w.heap.size:=by obtain⟨sb,T,C,B,rfl,J,E,G,I⟩:=h;intro b u;simp only[zG] at u;rcases u with rfl|rfl|u;exact fl E;exact fl G;exact I.lt b u
def fN.cell(h:fN w db F D):∃sb u,w.heap[db]?=some (.c (kP D sb u) DT):=by obtain⟨sb,T,u,B,rfl,E,C,G,I⟩:=h;exact⟨sb,u,C⟩
def fN.mem(h:fN w db F D):db∈F:=by obtain⟨sb,T,u,B,rfl,_⟩:=h;simp
def uT (D:dV) (sb c:Nat) (h:Sl):Array Kw:=#[.slice (pW sb) D.Q5.length c,h.v,.i D.y8,.bool D.down,.i D.writes]
def AH (w:Kv) (db:Nat) (F:KD) (D:dV) (c:Nat) (Z:List Kw):Prop:=
 ∃(sb:Nat) (T:Kx) (h:Sl) (B:KD),F=db::sb::B/\(db::sb::B).Nodup/\w.heap[db]?=some (.c (uT D sb c h) DT)/\w.heap[sb]?=some (.c (D.Q5.flatMap kj++Z).toArray T)/\fB nE 513 w h D.Q6 B
def fN.z(h:fN w db F D):AH w db F D D.Q5.length []:=by obtain⟨sb,T,u,B,rfl,C,E,G,I⟩:=h;exact⟨sb,T,u,B,rfl,C,E,by rw[xJ];exact G,I⟩
def fN.x5{w':Kv}{D':dV}{sb:Nat}{C:Sl}(h:fN w db F D)(V:w.heap[db]?=some (.c (kP D sb C) DT))(f:Fr [db] w w')(hs:D'.Q5=D.Q5)(hw:D'.Q6=D.Q6)(J:w'.heap[db]?=some (.c (kP D' sb C) DT)):fN w' db F D':=by
 obtain⟨E,T,u,B,rfl,G,h1,R,h3⟩:=h;have I:E=sb/\u=C:=by have q:=h1.symm.trans V;have q0:=Kr (λo=>match o with|some (Obj.cells O _ _)=>(match O[0]? with|some (Value.slice (some a) _ _)=>a.block|_=>0)|_=>0) q;have q1:=Kr (λo=>match o with|some (Obj.cells O _ _)=>O[1]? | _=>none) q;refine⟨q0,?_⟩;have U:Value.slice u.a u.len u.cap=Value.slice C.a C.len C.cap:=yP q1;cases C;cases u;simp only[Value.slice.injEq] at U;obtain⟨rfl,rfl,rfl⟩:=U;rfl
 obtain⟨rfl,rfl⟩:=I;have Q:E≠db:=λe=>by rw[e] at G;simp at G
 have hB:∀b∈B,b∉[db]:=λb hb I=>by simp at I;subst I;simp at G;exact G.1.2 hb
 exact⟨E,T,u,B,rfl,G,J,by rw[hs,f.block E (fl R) (oQ Q)];exact R,by rw[hw];exact h3.j0 f hB⟩
def Hw(h:fN w db F D)(u:K D.Q5.length w):cW 140 [dQ db] dq w K:=by refine qkt ?_;obtain⟨sb,C,E⟩:=h.cell;refine gV (jH E ⟨pW sb,D.Q5.length,D.Q5.length⟩ rfl ?_);exact u
def pA (h:Nat):dV:=⟨List.replicate h .zero,[],-1,false,0⟩
def qBk{n:Nat}(h:n<=4096):(pA n).Ok:=
 ⟨λ_ h=>(by cases h),⟨by show (-1:Int)<=-1;decide,by show (-1:Int)<=1000000000;decide⟩,by rw[pA];simpa using h,by simp[pA],by simp[pA],λb u=>by rw[eq_of_mem_replicate u];exact fq.zs 512,λ_ h=>(by cases h)⟩
def que(n:Nat)(b:nu):(List.replicate n (kj b)).flatten=(List.replicate n b).flatMap kj:=by rw[flatMap_def,map_replicate]
set_option maxRecDepth 100000 in
def qAu{h:Int}{K:Option Addr×Int->WP}(E:(h<8\/h>4096)->K (none,1) w)(J:8<=h->h<=4096->∀db F w',fN w' db F (pA h.toNat)->Fr [] w w'->(∀b∈F,w.heap.size<=b)->K (pW db,0) w'): cW 96 [.i h] dN w K:=by
 refine qt9<|jf (λb w'=>b=decide (h<8\/h>4096)/\w'=w) ?_ ?_;apply eV<;>intro C;exact⟨by rw[yA (Or.inl (zC C))],rfl⟩;have:=zB C;exact⟨by simp[this],rfl⟩;rintro b w1 ⟨rfl,rfl⟩;refine eV (λC=>E (zC C)) λC=>?_;have U:=zB C;have O:8<=h:=oK;have Q:h<=4096:=oK;obtain⟨n,rfl⟩:∃n:Nat,h=n:=⟨h.toNat,oK⟩;refine ed.Hm (zero:=kj nu.zero) (oF [] w1) (vp _) oK oK oK oK λsb w2 V u=>ed.new u λdb R e3 s3 u=>?_;have G:(List.replicate (n:Int).toNat (kj nu.zero)).flatten=((pA n).Q5).flatMap kj:=(by rw[zJ];exact que n _);refine J O Q db [db,sb] R ⟨sb,299,dR,[],rfl,?_,?_,?_,.nil _ _ _⟩ u.fr (λb I=>?_);have:=u.nodup;simpa using this;have:=u.at (i:=0) rfl;rw[this];simp[kP,pA];have:=u.at (i:=1) rfl;rw[this,zJ,<- G,zJ];simp at I;have:=u.own;rcases I with rfl|rfl;have:=u.own (b,_) (yG (i:=0) rfl);simpa using this;have:=u.own (b,_) (yG (i:=1) rfl);simpa using this
def jT (D:dV):dV×Bool:=if D.y8=0 then ({ D with down:=true },true) else if D.y8>0 then ({ D with y8:=D.y8-1 },false) else (D,false)
def qxn{K:Bool->WP}(h:fN w db F D)(V:D.y8<=1000000000)(Q:∀w',fN w' db F (jT D).1->Fr [db] w w'->K (jT D).2 w'): cW 173 [dQ db] dr w K:=by
 refine qnP ?_;obtain⟨sb,G,I⟩:=h.cell;have u:ed [db] w w [(db,.c (kP D sb G) DT)]:=⟨by simpa using I,oM,.refl _ _,oM⟩;refine gV (KA u 0 rfl D.y8 ?_);apply eV<;>intro J;have C:D.y8=0:=(oQ J);refine gV<|oI u 0 rfl _ rfl rfl rfl λw1 u _=>?_
 have:=Q w1 (by rw[jT,iP C];exact h.x5 I u.fr rfl rfl (u.at (i:=0) rfl)) u.fr;rw[jT,iP C] at this;exact this;have C:¬D.y8=0:=(oQ J);refine jf (λ_ w'=>fN w' db F (jT D).1/\Fr [db] w w') ?_ ?_;refine gV (KA u 0 rfl D.y8 ?_);apply cD<;>intro O;have E:D.y8>0:=O;refine gV (KA u 0 rfl D.y8 ?_);refine gV ?_;rw[gu _ oK];refine oI u 0 rfl _ rfl rfl rfl λw1 u _=>⟨?_,u.fr⟩;rw[jT,iN C,iP E];exact h.x5 I u.fr rfl rfl (u.at (i:=0) rfl);have E:¬D.y8>0:=O;refine⟨?_,.refl _ _⟩;rw[jT,iN C,iN E];exact h;rintro _ w1 ⟨R,U⟩;have:=Q w1 R U;have e:(jT D).2=false:=(by rw[jT,iN C];split<;>rfl);rw[e] at this;exact this
def qAm:∃i,prog.info? 301=some i/\(∃z,i.zero=some z/\z.cells.size=513)/\i.size=513/\i.bytes=520:=by have h:(prog.info? 301).map (λi=>(i.zero.map λz=>z.cells.size,i.size,i.bytes))=some (some 513,513,520):=oL;obtain⟨i,E,u⟩:=yU.1 h;simp only[Prod.mk.injEq] at u;obtain⟨z,G,C⟩:=yU.1 u.1;exact⟨i,E,⟨z,G,C⟩,u.2.1,u.2.2⟩
def qT (D:dV) (n:Int) (b:nu):dV:={ D with Q6:=D.Q6++[(n,b)],writes:=D.writes+1 }
def fL (D:dV) (n:Int) (l:KE):dV×Int:=
 if D.down then (D,7) else if n<0\/n>=D.Q5.length then (D,4) else
 if h:l.length=512 then ((jT (qT D n ⟨l,h⟩)).1,if (jT (qT D n ⟨l,h⟩)).2 then 7 else 0) else (D,1)
def qt4(n:Int)(b:nu)(w:Kv):(Instr.build 301 #[(0,.i n),(1,.agg (kj b).toArray)]).run prog w=.ok (.agg (nE (n,b)).toArray) w:=by
 obtain⟨z,hz,hzs⟩:∃z,(prog.info? 301).bind (·.zero)=some z/\z.cells.size=513:=by obtain⟨i,hi,⟨z,hz,hzs⟩,_⟩:=qAm;exact⟨z,by rw[hi];exact hz,hzs⟩
 have:=qpt (P:=prog) (a:=.i n) (b:=.agg (kj b).toArray) (o1:=1) (s0:=1) (s1:=512) hz oL (λw=>oL) rfl (by show (kj b).toArray.size=512;rw[size_toArray,vp]) rfl hzs w;exact this
def qmq(l:KE):((l.map (Value.int .u8)).all Value.oneCell')=true:=by rw[Kh];intro v h;obtain⟨x,_,rfl⟩:=mem_map.1 h;rfl
def qsD(b:nu):((kj b).all Value.oneCell')=true:=qmq _
def G5(x:Int×nu):((nE x).all Value.oneCell')=true:=by rw[nE,all_cons,qsD];rfl
def qyu{s:Sl}(h:eO S w s l)(E:l≠[]):∃b o u T C,s.a=some (dm b o)/\w.heap[b]?=some (.cells u T C)/\b∉S/\(u.toList.drop o).take l.length=l.map (Value.int .u8):=by
 rcases h.2.2 with G|⟨b,o,u,T,C,I,J,O,Q⟩;exact absurd G E;refine⟨b,o,u,T,C,I,J,O,?_⟩;apply ext_getElem?;intro i;rw[xC,zQ];by_cases hi:i<l.length;rw[iP hi,xB,zA hi];have:=Q i l[i] (zA hi);rw[xV] at this;have:=Kr (·[0]?) this;simpa using this;rw[iN hi,yT oK];rfl
def qqB{s:Sl}(h:fN w db F D)(hD:D.Ok)(hs:eO S w s l)(hk:∀F' w',fN w' db F' (fL D n l).1->Fr F w w'->(∀b∈F',b∈F\/w.heap.size<=b)->K (fL D n l).2 w'): cW 138 [dQ db,.i n,s.v] dq w K:=by
 refine qkW (d:=pW db) (b:=s) ?_;have hlen:=hs.1;have hdb:=h.mem;obtain⟨sb,T,wsl,B,hF,hn,hc,hsb,hbuf⟩:=h;have h:fN w db F D:=⟨sb,T,wsl,B,hF,hn,hc,hsb,hbuf⟩;have ho:ed F w w [(db,.c (kP D sb wsl) DT)]:=⟨by simpa using hc,oM,.refl _ _,by simp[hdb]⟩;refine gV (oA (c:=.bool) ho 0 rfl D.down rfl ?_);have same:∀ {e:Int},fL D n l=(D,e)->∀ {w'},w'=w->K e w':=by
  rintro e he w' rfl;have:=hk F w' (by rw[he];exact h) (.refl _ _) (λb hb=>.inl hb);rw[he] at this;exact this
 refine eV (λhd=>same (by rw[fL,iP hd]) rfl) λhd=>jf (λb w'=>b=decide (n<0\/n>=D.Q5.length)/\w'=w) ?_ ?_;apply eV<;>intro hc;exact⟨by rw[yA (Or.inl (zC hc))],rfl⟩;refine gV (oA (c:=.slice) ho 0 rfl ⟨pW sb,D.Q5.length,D.Q5.length⟩ rfl ⟨?_,rfl⟩);have:=zB hc;by_cases h2:n>=D.Q5.length<;>simp[this,h2];rintro b w1 ⟨rfl,rfl⟩;refine eV (λhr=>same (by rw[fL,iN (oQ hd),iP (zC hr)]) rfl) λhr=>?_;have hr':=zB hr;refine eV (λhq=>same ?_ rfl) λhq=>?_;have:¬l.length=512:=(by simp at hq;omega);rw[fL,iN (oQ hd),iN hr',dif_neg this];have h512:l.length=512:=(by simp at hq;omega);obtain⟨jz,hblk⟩:∃jz:nu,jz.1=l:=⟨⟨l,h512⟩,rfl⟩;have hw:fL D n l=((jT (qT D n jz)).1,if (jT (qT D n jz)).2 then 7 else 0):=by rw[fL,iN (oQ hd),iN hr',dif_pos h512];have:jz=⟨l,h512⟩:=Subtype.ext hblk;rw[this]
 rw[hw] at hk;have hd1:=ho.drew;refine gV (oA (c:=.slice) hd1 0 rfl wsl rfl ?_);obtain⟨sbk,so,scs,sT,sfr,hsa,hsbk,hsS,hscs⟩:=qyu hs (by rw[<- length_pos_iff];omega);obtain⟨sa,slen,scap⟩:=s;simp only at hsa hlen;subst hsa;refine qCd oK<|ou (n:=512) (w:=w1.drew) hsbk (kj jz) (vp _) (by rw[<- h512,hscs,kj,hblk])<|tP (ts:=dF) (nE (n,jz)) (qt4 n jz _)<|mI (yp _)<|oB hd1 λr w2 er fr2 ho2=>ja (ho2.cell (off:=1) 1 rfl rfl) ?_;obtain⟨iW,hi,⟨z,hz,hzs⟩,hsz,hby⟩:=qAm;have hwl:=hD.Q6;have hwr:=hD.writes;have hfz:=hD.y8;have fr2':Fr [] w1 w2:=(Fr.refl [] w1).drew.trans fr2;have hbuf2:fB nE 513 w2 wsl D.Q6 B:=hbuf.q8 fr2';have hsb2:w2.heap[sb]?=some (.c (D.Q5.flatMap kj).toArray T):=(by rw[fr2'.block sb (fl hsb) oM];exact hsb);have hBF:∀b∈B,b∈F:=λb hb=>by rw[hF];simp[hb]
 have hdbB:∀b∈B,b≠db:=λb hb e=>by subst e;simp at hn;exact hn.1.2 hb
 have hsbB:∀b∈B,b≠sb:=λb hb e=>by subst e;simp at hn;exact hn.2.1 hb
 have hrB:∀b∈B,b≠r:=λb hb e=>by have:=hbuf.lt b hb;have e1:w1.drew.heap.size=w1.heap.size:=rfl;omega
 refine fB.j2 (ys:=[(n,jz)]) (e:=301) hbuf2 yp oL hi hz hsz hzs (.ofSlice _ (e':=301) oL _ 1 1 _ ?_ ?_ ?_) rfl (by rw[hby];omega) oK λs' B' w3 g1 g2 g3 _=>?_;simp[yp];intro j u hj;rw[Addr.j1,kD (ho2.at (i:=0) rfl),xU];have:(nE (n,jz))[j]?=some u:=(oQ hj);simpa using this;intro u hu;have:u∈nE (n,jz):=(oQ hu);exact all_eq_true.1 (G5 (n,jz)) u this;have ho3:ed F w1 w3 [(r,.c (nE (n,jz)).toArray 301),(db,.c (kP D sb wsl) DT)]:=
  ho2.j0 g2 (λb hb=>.inl (hBF b hb)) (λp hp=>by simp at hp;rcases hp with rfl|rfl;exact λhb=>hrB _ hb rfl;exact λhb=>hdbB _ hb rfl)
 have hsb3:w3.heap[sb]?=some (.c (D.Q5.flatMap kj).toArray T):=(by rw[g2.block sb (fl hsb2) λhb=>hsbB _ hb rfl];exact hsb2);have hc3:=ho3.at (i:=1) rfl;refine gV<|tY hc3 (kP { D with Q6:=D.Q6++[(n,jz)] } sb s') rfl rfl (zO rfl) λw4 hc4 f4=>gV (jH (c:=.i) hc4 D.writes rfl ?_);refine gV ?_;rw[gu (D.writes+1) oK];refine tY hc4 (kP (qT D n jz) sb s') rfl rfl (zO rfl) λw5 hc5 f5=>?_;have hs2:=fr2'.size;have hs3:=g2.size;have hne:sb≠db:=λe=>by rw[e] at hn;simp at hn
 have f35:Fr [db] w3 w5:=f4.trans f5;have hB'db:∀b∈B',b≠db:=λb hb e=>by
  rcases g3 b hb with h'|h';exact hdbB b h' e;have:=fl hc;omega
 have hB'sb:∀b∈B',b≠sb:=λb hb e=>by
  rcases g3 b hb with h'|h';exact hsbB b h' e;have:=fl hsb;omega
 have hB'n:B'.Nodup:=by rcases g1 with ⟨_,_,rfl⟩|⟨b',o',cs',T',rfl,_⟩;simp;simp
 have h5:fN w5 db (db::sb::B') (qT D n jz):=(by refine⟨sb,T,s',B',rfl,?_,hc5,?_,?_⟩;simp only[JY,zG,not_or];exact⟨⟨λe=>hne e.symm,λhb=>hB'db _ hb rfl⟩,λhb=>hB'sb _ hb rfl,hB'n⟩;rw[f35.block sb (fl hsb3) (oQ hne)];exact hsb3;exact g1.j0 f35 (λb hb=>by simpa using hB'db b hb));have hF':∀b∈db::sb::B',b∈F\/w1.heap.size<=b:=λb hb=>by simp only[zG] at hb;rcases hb with rfl|rfl|hb;exact .inl hdb;exact .inl (by rw[hF];simp);rcases g3 b hb with h'|h';exact .inl (hBF b h');exact .inr oK
 have f15:Fr F w1 w5:=((fr2'.mono λi hi _=>by cases hi).j8 g2 λb hb=>.inl (hBF b hb)).j8 f35 (λb hb=>by simp at hb;subst hb;exact .inl hdb);refine qxn h5 (by show D.y8<=_;omega) λw6 h6 f6=>?_;have:=hk (db::sb::B') w6 h6 (f15.j8 f6 (λb hb=>by simp at hb;subst hb;exact .inl hdb)) hF';apply eV<;>intro ha;rw[ha] at this;exact this;rw[ha] at this;exact this
def ij (s:List nu) (x:Int×nu):List nu:=s.set x.1.toNat x.2
def Dz(l:List (Int×nu)):∀s:List nu,(l.foldl ij s).length=s.length:=by
 induction l with
 | nil=>intro s;rfl
 | cons x l ih=>intro s;rw[foldl_cons,ih,ij,xI]
def iL (D:dV):dV×Int:=
 if D.down then (D,7) else if (jT D).2 then ((jT D).1,7) else ({ (jT D).1 with Q5:=D.Q6.foldl ij D.Q5,Q6:=[] },0)
def Dl(D:dV):(jT D).1.Q5=D.Q5/\(jT D).1.Q6=D.Q6:=by unfold jT;split;exact⟨rfl,rfl⟩;split<;>exact⟨rfl,rfl⟩
def qsi(h:fN w db F D)(hD:D.Ok)(hk:∀F' w',fN w' db F' (iL D).1->Fr F w w'->(∀b∈F',b∈F)->K (iL D).2 w'): cW 139 [dQ db] dq w K:=by
 refine qmv ?_;have af:=h.mem;have aH:=hD.y8;refine jf (λb w'=>(D.down=true/\b=true/\w'=w)\/(D.down=false/\b=(jT D).2/\fN w' db F (jT D).1/\Fr [db] w w')) ?_ ?_;obtain⟨sb,C,hc⟩:=h.cell;refine gV (jH hc D.down rfl ?_);exact eV (λQ=>.inl ⟨Q,rfl,rfl⟩) λQ=>qxn h oK λw1 h1 f1=>.inr ⟨Q,rfl,h1,f1⟩;rintro b w1 (⟨Q,rfl,rfl⟩|⟨Q,rfl,h1,f1⟩);refine JT rfl ?_;have:=hk F w1 (by rw[iL,iP Q];exact h) (.refl _ _) (λb hb=>hb);rw[iL,iP Q] at this;exact this;have fF:Fr F w w1:=f1.mono (λi E _=>by simp at E;subst E;exact af);apply eV<;>intro ha;have:=hk F w1 (by rw[iL,iN (by simp[Q]),iP ha];exact h1) fF (λb hb=>hb);rw[iL,iN (by simp[Q]),iP ha] at this;exact this;have av:iL D=({ (jT D).1 with Q5:=D.Q6.foldl ij D.Q5,Q6:=[] },0):=(by rw[iL,iN (by simp[Q]),iN (by simp[ha])]);rw[av] at hk;obtain⟨U,ai⟩:=Dl D;generalize (jT D).1=D1 at h1 U ai hk;obtain⟨sb,T,C,B,hF,hn,hc,ak,G⟩:=h1;rw[U] at ak;rw[ai] at G;have ab:sb≠db:=λe=>by rw[e] at hn;simp at hn
 have hB:∀b∈B,b∉[sb]:=λb hb he=>by simp at he;subst he;simp at hn;exact hn.2.1 hb
 have aJ:=G.len;have aw:=hD.Q6;have ax:=hD.Q5;refine gV (jH hc C rfl ?_);refine kz (λx w'=>∃i:Nat,x=i/\i<=D.Q6.length/\w'.heap[sb]?=some (.c (((D.Q6.take i).foldl ij D.Q5).flatMap kj).toArray T)/\Fr [sb] w1 w') (λx _=>((D.Q6.length:Int)-x).toNat)
  ⟨0,rfl,oK,ak,.refl _ _⟩ ?_
 rintro x w2 ⟨i,rfl,E,I,f2⟩ X hX;have ac:w2.heap[db]?=some (.c (kP D1 sb C) DT):=(by rw[f2.block db (fl hc) (by simpa using λe=>ab e.symm)];exact hc);apply cD<;>intro J;have O:i<D.Q6.length:=oK;have ay:eE nE 513 [] w2 C D.Q6:=(G.j0 f2 hB).k5 yp oM;have al:=zA O;have aL:=hD.at_ D.Q6[i] (zX O);refine ay.jd yp i rfl al<|ed.uL (oF [] w2) oL (yp _) (G5 _) λr R er ho=>?_;have az:R.heap[sb]?=some (.c (((D.Q6.take i).foldl ij D.Q5).flatMap kj).toArray T):=(by rw[ho.fr.block sb (fl I) oM];exact I);have ad:R.heap[db]?=some (.c (kP D1 sb C) DT):=(by rw[ho.fr.block db (fl ac) oM];exact ac);refine gV (jH (w:=R.drew) ad ⟨pW sb,D1.Q5.length,D1.Q5.length⟩ rfl ?_);have am:=ho.at (i:=0) rfl;refine jH (w:=R.drew) am D.Q6[i].1 rfl<|ou (n:=512) (w:=R.drew) am (kj D.Q6[i].2) (vp _) (by rw[show (nE D.Q6[i]).toArray.toList.drop 1=kj D.Q6[i].2 from rfl,zS (by rw[vp];exact zM _)]) ?_;have u:=Dz (D.Q6.take i) D.Q5;refine qZ oK (by rw[U];omega)<|mI (vp _) ?_;have V:0+Int.toNat D.Q6[i].1*512+(kj D.Q6[i].2).length<=(((D.Q6.take i).foldl ij D.Q5).flatMap kj).toArray.size:=by rw[size_toArray,rR vp,vp,u];omega
 refine tY (w:=R.drew) az (((((D.Q6.take i).foldl ij D.Q5).set D.Q6[i].1.toNat D.Q6[i].2).flatMap kj).toArray) (by rw[xU];exact quC vp ((D.Q6.take i).foldl ij D.Q5) D.Q6[i].1.toNat D.Q6[i].2 (by rw[u];omega)) (qsD _) V λw4 aA f4=>?_;rw[gu _ oK];refine hX _ _ ⟨i+1,oM,oK,?_,?_⟩ oK;rw[yH O,foldl_append];exact aA;have aB:Fr [sb] w2 R.drew:=ho.fr.drew.mono (λi E _=>by cases E);exact f2.trans (aB.trans f4);have O:i=D.Q6.length:=oK;subst O;rw[vB] at I;refine gV ?_;have u:=Dz D.Q6 D.Q5;refine tY ac (kP { D1 with Q5:=D.Q6.foldl ij D.Q5,Q6:=[] } sb dR) (by simp[ef,kP,u,U]) rfl (zO rfl) λR ad f3=>?_;have aC:Fr F w R:=(fF.trans (f2.mono (λi E _=>by simp at E;subst E;rw[hF];simp))).trans (f3.mono (λi E _=>by simp at E;subst E;exact af));refine hk [db,sb] R ⟨sb,T,dR,[],rfl,by simpa using λe=>ab e.symm,ad,?_,.nil _ _ _⟩ aC (λb hb=>by rw[hF];simp at hb;rcases hb with rfl|rfl<;>simp);rw[f3.block sb (fl I) (oQ ab)];exact I
def jV (n:Int):List (Int×nu)->Option nu
 | []=>none
 | x::r=>match jV n r with|some b=>some b|none=>if x.1=n then some x.2 else none
def qq8{n:Int}:∀(l:List (Int×nu)) (i:Nat) (h:i<l.length),jV n (l.drop (i+1))=none->l[i].1=n->jV n l=some l[i].2
 | x::l,0,h,u,C=>by simp only[xU,drop_succ_cons,xH] at u;simp only[getElem_cons_zero] at C⊢;simp[jV,u,C]
 | x::l,i+1,h,u,C=>by
  have:=qq8 l i (oQ h) (oQ u) (oQ C);simp only[jV,this,getElem_cons_succ]
def qwv:∀(l:List (Int×nu)) (i:Nat) (h:i<l.length),jV n (l.drop (i+1))=none->l[i].1≠n->jV n (l.drop i)=none:=by intro l i h C u;rw[zY h,jV,C];simp[u]
def eW (D:dV) (n:Int):List Int×Int:=
 if D.down then ([],7) else if n<0\/n>=D.Q5.length then ([],4) else
 match jV n D.Q6 with|some b=>(b.1,0)|none=>((D.Q5.getD n.toNat .zero).1,0)
def qtG{b o n:Nat}{h:Nat}{K:Sl->Prop}(u:0<n)(k:K ⟨some (dm b o),n,n⟩):ke (dm b o) n none none none h K:=by unfold ke;refine⟨oM,?_⟩;simp only[xY,zJ,Int.toNat_zero,Nat.sub_zero,Nat.zero_mul];rw[iN,JD];exact k
def qsE{b o:Nat}{cs:Array Kw}{T:Kx}{h:KQ}{x:nu}(G:w.heap[b]?=some (.cells cs T h))(I:(cs.toList.drop o).take 512=kj x)(J:b∉S):eO S w ⟨some (dm b o),512,512⟩ x.1:=by
 refine⟨x.2.symm,zM _,.inr ⟨b,o,cs,T,h,rfl,G,J,λi v u=>?_⟩⟩;have C:=(zP.1 u).1;rw[x.2] at C;rw[xV];have E:(kj x)[i]?=some (.b v):=(by rw[kj,zQ,u];rfl);rw[<- I,xC,iP C,xB] at E;apply ext_getElem?;intro j;rw[xC,xB];match j with
 | 0=>simpa using E
 | j+1=>simp
def qt0{s:Sl}{K:Kw->WP}(u:∀rb w',(∀S w0 L,ed S w0 w L->ed S w0 w' ((rb,.c #[s.v] 260)::L))->K (.func (.func 226) #[] #[dQ rb]) w'): cW 195 [s.v] dC w K:=by exact qlF<|Pt.Gq (u _ _ λS w0 L h=>h.alloc _)
def qud(l:List nu)(i:Nat)(x:nu)(h:l[i]?=some x):((l.flatMap kj++Z).drop (i*512)).take 512=kj x:=by have C:=(zP.1 h).1;have u:(l.flatMap kj).length=l.length*512:=rR vp l;rw[Kf (by rw[u];omega),JX (by rw[yC,u];omega)];exact Ju vp l i x h
def qw7{c:Nat}{K:KN->WP}(h:AH w db F D c Z)(hD:D.Ok)(hk:∀s' B w',gA w' s' (eW D n).1 B->Fr [] w w'->(∀b∈B,w.heap.size<=b)->K (s',(eW D n).2) w'): cW 167 [dQ db,.i n] dt w K:=by
 refine qmu<|oB (oF [] w) λr1 w1 e1 f1 G=>oB G λr3 w2 e2 f2 G=>oB G λr5 w3 e3 f3 G=>?_;obtain⟨sb,T,aa,B,hF,hn,hc,aw,aj⟩:=h;have ag:∀ {w':Kv},Fr [] w w'->w'.heap[db]?=some (.c (uT D sb c aa) DT):=λf=>by rw[f.block db (fl hc) oM];exact hc
 have ax:∀ {w':Kv},Fr [] w w'->w'.heap[sb]?=some (.c (D.Q5.flatMap kj++Z).toArray T):=λf=>by rw[f.block sb (fl aw) oM];exact aw
 have ay:∀ {e:Int} {w':Kv} {L'},eW D n=([],e)->ed [] w w' L'->L'[1]?=some (r3,.c #[.slice none 0 0] 96)->L'[0]?=some (r5,.c #[.i e] 39)->ld Cell.slice (dm r3) w' λs=>ld .i (dm r5) w' λx=>K (s,x) w':=by
  intro e w' L' he G h1 h0;refine oA G 1 h1 dR rfl<|oA G 0 h0 e rfl ?_;have:=hk dR [] w' (by rw[he];exact .nil _ _ _) G.fr oM;rw[he] at this;exact this
 refine gV (jH (ag G.fr) D.down rfl ?_);apply eV<;>intro hd;exact oI G 1 rfl _ rfl rfl rfl λw4 G _=>oI G 0 rfl _ rfl rfl rfl λw5 G _=>ay (by rw[eW,iP hd]) G rfl rfl;refine jf (λb w'=>b=decide (n<0\/n>=D.Q5.length)/\w'=w3.drew) ?_ ?_;refine KA G.drew 2 rfl n<|eV (λhc=>?_) λaO=>?_;exact⟨by rw[yA (Or.inl (zC hc))],rfl⟩;refine KA G.drew 2 rfl n<|gV (jH (ag G.drew.fr) ⟨pW sb,D.Q5.length,c⟩ rfl ⟨?_,rfl⟩)
 have:=zB aO;by_cases h2:n>=D.Q5.length<;>simp[this,h2];rintro b w4 ⟨rfl,rfl⟩;apply cD<;>intro hr;exact oI G.drew 1 rfl _ rfl rfl rfl λw4 G _=>oI G 0 rfl _ rfl rfl rfl λw5 G _=>ay (by rw[eW,iN (oQ hd),iP (hr)]) G rfl rfl;have aQ:=hr;have aR:0<=n:=oK;have aT:n<D.Q5.length:=oK;have aU:=hD.Q6;have aV:=hD.Q5;have aW:=aj.len;have aC:eW D n=match jV n D.Q6 with|some b=>(b.1,0)|none=>((D.Q5.getD n.toNat .zero).1,0):=by rw[eW,iN (oQ hd),iN aQ]
 refine gV (jH (ag G.drew.fr) aa rfl ?_);refine qt0 λrb w5 aX=>?_;have aY:=aX _ _ _ G.drew;refine ed.kJ (lb:=[dQ rb]) aY rfl oL λDm l R Bz J E E0 w6 el eD bg aG hy=>qiU<|KA aG 2 rfl aa ?_;rw[gu _ oK];have aH:∀ {bl:nu} {s7:Sl} {Bf:KD} {ab wz:Kv} {ah:KK},eW D n=(bl.1,0)->ed [] w ab ah->gA ab s7 bl.1 Bf->(∀b∈Bf,w.heap.size<=b)->(∀b∈Bf,b∉ah.map (·.1))->Fr (ah.map (·.1)) ab wz->K (s7,0) wz:=by
  intro bl s7 Bf ab wz ah he a0 ad O Q fz;have:=hk s7 Bf wz (by rw[he];exact ad.j0 fz Q) (a0.back fz) O;rw[he] at this;exact this
 refine kz (λx w'=>∃i:Nat,x=(i:Int)-1/\i<=D.Q6.length/\jV n (D.Q6.drop i)=none/\ed [] w w' [(l,R),(Dm,.deferred (some [])),(rb,.c #[aa.v] 260),(r5,.c #[.i 0] 39),(r3,.c #[.slice none 0 0] 96),(r1,.c #[.i n] 3)]) (λx _=>(x+1).toNat)
  ⟨D.Q6.length,by rw[aW],zM _,by rw[drop_length];rfl,aG⟩ ?_
 rintro x w7 ⟨i,rfl,hi,ai,ac⟩ X hX;apply cD<;>intro am;have bj:=am;obtain⟨i,rfl⟩:∃k,i=k+1:=⟨i-1,oK⟩;have an:i<D.Q6.length:=oK;refine KA ac 2 rfl aa ?_;have a1:eE nE 513 [] w7 aa D.Q6:=(aj.q8 ac.fr).k5 yp oM;refine a1.jd yp i oK (zA an)<|hy ((((i+1:Nat):Int)-1),nE D.Q6[i]) w7 _ (ac.at (i:=0) rfl) ?_;dsimp only;refine ed.uL ac oL (yp _) (G5 _) λr w8 er I=>⟨I.at (i:=1) rfl,?_⟩;have U:=I.jy (o':=Bz) 1 rfl;refine oA U 0 rfl D.Q6[i].1 rfl<|KA U 6 rfl n ?_;apply eV<;>intro hm;have ap:D.Q6[i].1=n:=(oQ hm);have aq:=qq8 D.Q6 i an ai ap;have ae:eW D n=(D.Q6[i].2.1,0):=(by rw[aC,aq]);refine qtG oN ?_;have ar:eO [] (Pt.jy w8 l Bz) ⟨some (dm r 1),512,512⟩ D.Q6[i].2.1:=
  qsE (x:=D.Q6[i].2) (U.at (i:=0) rfl) (by rw[show (nE D.Q6[i]).toArray.toList.drop 1=kj D.Q6[i].2 from rfl,zS (by rw[vp];exact zM _)]) oM
 refine CP (s:=⟨some (dm r 1),512,512⟩) ar (by rw[D.Q6[i].2.2];decide) λs7 Bf ab ad au af _ _=>?_;have V:=U.q8 au;have u:=V.mQ;have O:∀b∈Bf,w.heap.size<=b:=λb hb=>by have h1:(Pt.jy w8 l Bz).heap.size<=b:=af b hb;have:=U.fr.size;omega
 have Q:∀b∈Bf,b∉[r,l,Dm,rb,r5,r3,r1]:=λb hb hm=>by
  have h1:(Pt.jy w8 l Bz).heap.size<=b:=af b hb;have h2:∀p∈[r,l,Dm,rb,r5,r3,r1],p<(Pt.jy w8 l Bz).heap.size:=λp hp=>by have C:=λ(k:Nat) (q:Nat×Obj) (hq:_[k]?=some q)=>fl (U.at (i:=k) hq);simp only[zG,xZ,or_false] at hp;rcases hp with rfl|rfl|rfl|rfl|rfl|rfl|rfl;exact C 0 _ rfl;exact C 1 _ rfl;exact C 2 _ rfl;exact C 3 _ rfl;exact C 4 _ rfl;exact C 5 _ rfl;exact C 6 _ rfl
  have:=h2 b hm;omega
 refine oI u 5 rfl _ rfl rfl rfl λa3 u _=>oI u 4 rfl _ rfl rfl rfl λa4 u _=>⟨u.at (i:=1) rfl,?_⟩;have u:=u.jy (o':=J 0) 1 rfl;refine JT rfl<|.inr ⟨0,_,rfl,u.at (i:=1) rfl,?_⟩;have u:=u.jy (o':=E 0) 1 rfl;exact ed.ft u 2 rfl λa5 u=>KA u 5 rfl s7<|KA u 4 rfl 0<|aH ae V ad O Q u.fr;have ap:D.Q6[i].1≠n:=(oQ hm);refine⟨U.at (i:=1) rfl,?_⟩;have a6:=U.jy (o':=R) 1 rfl;refine JU rfl ?_;rw[gu _ oK];refine hX _ _ ⟨i,oK,oK,qwv D.Q6 i an ai ap,a6.sub (Kl _ _)⟩ oK;have C:=am;obtain rfl:i=0:=by omega
 rw[xH] at ai;refine .inl ⟨ac.at (i:=0) rfl,?_⟩;have I:=(ac.jy (o':=E0) 0 rfl).drew;have ae:eW D n=((D.Q5.getD n.toNat .zero).1,0):=(by rw[aC,ai]);have aJ:n.toNat<D.Q5.length:=oK;have a7:D.Q5[n.toNat]?=some (D.Q5.getD n.toNat .zero):=(by rw[yS,zA aJ];rfl);refine gV (jH (ag I.fr) ⟨pW sb,D.Q5.length,c⟩ rfl ?_);refine KA I 5 rfl n<|qZ aR aT<|qtG oN ?_;have ar:eO [] (Pt.jy w7 l E0).drew ⟨some ⟨sb,0+n.toNat*512,none⟩,512,512⟩ (D.Q5.getD n.toNat .zero).1:=
  qsE (ax I.fr) (by rw[xU];exact qud D.Q5 n.toNat _ a7) oM
 refine CP (s:=⟨some ⟨sb,0+n.toNat*512,none⟩,512,512⟩) ar (by rw[(D.Q5.getD n.toNat .zero).2];decide) λs7 Bf ab ad au af _ _=>?_;have V:=I.q8 au;have u:=V.mQ;have O:∀b∈Bf,w.heap.size<=b:=λb hb=>by have h1:(Pt.jy w7 l E0).drew.heap.size<=b:=af b hb;have:=I.fr.size;omega
 have Q:∀b∈Bf,b∉[l,Dm,rb,r5,r3,r1]:=λb hb hm=>by
  have h1:(Pt.jy w7 l E0).drew.heap.size<=b:=af b hb;have h2:∀p∈[l,Dm,rb,r5,r3,r1],p<(Pt.jy w7 l E0).drew.heap.size:=λp hp=>by have C:=λ(k:Nat) (q:Nat×Obj) (hq:_[k]?=some q)=>fl (I.at (i:=k) hq);simp only[zG,xZ,or_false] at hp;rcases hp with rfl|rfl|rfl|rfl|rfl|rfl;exact C 0 _ rfl;exact C 1 _ rfl;exact C 2 _ rfl;exact C 3 _ rfl;exact C 4 _ rfl;exact C 5 _ rfl
  have:=h2 b hm;omega
 exact oI u 4 rfl _ rfl rfl rfl λa3 u _=>oI u 3 rfl _ rfl rfl rfl λa4 u _=>ed.ft u 1 rfl λa5 u=>KA u 4 rfl s7<|KA u 3 rfl 0<|aH ae V ad O Q u.fr
def FN{K:KN->WP}(h:fN w db F D)(C:D.Ok)(E:∀u B w',gA w' u (eW D n).1 B->Fr [] w w'->(∀b∈B,w.heap.size<=b)->K (u,(eW D n).2) w'): cW 167 [dQ db,.i n] dt w K:=qw7 h.z C E
end
section
open Go Go.Pt List
open Go.IntKind (wrap)
open Classical
variable {k v:Nat}
def bw:Nat->Int->KE
 | 0,_=>[]
 | k+1,n=>bw k (n / 256)++[n%256]
def mf:∀(k:Nat) (n:Int),(bw k n).length=k
 | 0,_=>rfl
 | k+1,n=>by rw[bw,zF,mf k];rfl
def sh:∀(k:Nat) (n:Int),fq (bw k n)
 | 0,_=>λ_ h=>nomatch h
 | k+1,n=>λx u=>(zD.1 u).elim (sh k _ x) λh=>by rw[zE.1 h];omega
def Jo(l:KE)(x:Int):li (l++[x])=li l*256+x:=by unfold li;rw[foldl_append];rfl
def vX:∀(k:Nat) {n:Int},0<=n->n<256^k->li (bw k n)=n
 | 0,n,u,h=>by have:n<1:=h;show (0:Int)=n;omega
 | k+1,n,u,h=>by rw[Int.pow_succ] at h;rw[bw,Jo,vX k oK oK];omega
def EH{a b:Int}(u:0<=a/\a<256^k)(C:0<=b/\b<256^k)(h:bw k a=bw k b):a=b:=by rw[<- vX k u.1 u.2,h,vX k C.1 C.2]
def qoO(l:KE):∀(r:Int),l.foldl (λr x=>r*256+x) r=r*256^l.length+li l:=by
 unfold li;induction l with
 | nil=>intro r;simp
 | cons x l ih=>
  intro r;rw[foldl_cons,foldl_cons,ih,ih (0*256+x),yJ,Int.pow_succ];have:(r*256+x)*256^l.length=r*(256^l.length*256)+x*256^l.length:=(by rw[Int.add_mul,Int.mul_assoc,Int.mul_comm 256]);rw[this];simp;omega
def CB(x:Int)(l:KE):li (x::l)=x*256^l.length+li l:=by
 have:=qoO l (0*256+x);rw[show (0*256+x)=x by omega] at this;unfold li;rw[foldl_cons,show (0*256+x:Int)=x by omega,this];rfl
def Ar:∀ {l:KE},fq l->0<=li l/\li l<256^l.length
 | [],_=>⟨oN,oN⟩
 | x::l,h=>by have ih:=Ar λy u=>h y (zN x u);have C:=h x oM;rw[CB,yJ,Int.pow_succ];generalize (256:Int)^l.length=c at ih;have E:x*c<=255*c:=Int.mul_le_mul_of_nonneg_right oK oK;have G:0<=x*c:=Int.mul_nonneg oK oK;omega
def qu1:∀ {a b:KE},fq a->fq b->a.length=b.length->(cmpL a b<0↔li a<li b)
 | [],[],_,_,_=>by show (0:Int)<0↔_;exact .rfl
 | [],_::_,_,_,h=>by simp at h
 | _::_,[],_,_,h=>by simp at h
 | x::a,y::b,E,G,h=>by have C:a.length=b.length:=(oQ h);have ih:=qu1 (λz u=>E z (zN _ u)) (λz u=>G z (zN _ u)) C;have I:=Ar λz u=>E z (zN _ u);have pb:=Ar λz u=>G z (zN _ u);rw[CB,CB,C];rw[C] at I;generalize (256:Int)^b.length=c at I pb;unfold cmpL;by_cases h1:x<y;rw[iP h1];have:(x+1)*c<=y*c:=Int.mul_le_mul_of_nonneg_right oK oK;rw[Int.add_mul,Int.one_mul] at this;exact⟨λ_=>oK,λ_=>oN⟩;rw[iN h1];by_cases h2:y<x;rw[iP h2];have:(y+1)*c<=x*c:=Int.mul_le_mul_of_nonneg_right oK oK;rw[Int.add_mul,Int.one_mul] at this;exact⟨λh=>absurd h oN,λh=>oK⟩;rw[iN h2,ih];have:x=y:=oK;subst this;omega
def qu0:∀ {a b c d:KE},a.length=b.length->cmpL (a++c) (b++d)=if a=b then cmpL c d else cmpL a b
 | [],[],_,_,_=>by rw[iP rfl];rfl
 | [],_::_,_,_,h=>by simp at h
 | _::_,[],_,_,h=>by simp at h
 | x::a,y::b,c,d,h=>by have ih:=qu0 (a:=a) (b:=b) (c:=c) (d:=d) (oQ h);rw[show cmpL (x::a++c) (y::b++d)=if x<y then -1 else if y<x then 1 else cmpL (a++c) (b++d) from rfl,show cmpL (x::a) (y::b)=if x<y then -1 else if y<x then 1 else cmpL a b from rfl];by_cases h1:x<y;rw[iP h1,iP h1,iN λe=>by have:=(vE e).1;omega];rw[iN h1,iN h1];by_cases h2:y<x;rw[iP h2,iP h2,iN λe=>by have:=(vE e).1;omega];have:x=y:=oK;subst this;rw[iN h2,iN h2,ih];by_cases e:a=b;rw[iP e,iP (by rw[e])];rw[iN e,iN λh=>e (vE h).2]
def vH(n:Int)(h:0<=n/\n<65536):wrap .u16 n=n:=by unfold wrap;have:(IntKind.u16.signed)=false:=rfl;simp only[this,Bool.false_and,Bool.false_eq_true,if_false];exact Int.emod_eq_of_lt h.1 h.2
abbrev gJ:=KI
def nY (a:gJ):Prop:=lA a.1/\lA a.2
def iS (a:gJ):KE:=bw 8 a.1++bw 8 a.2
def me(a:gJ):(iS a).length=16:=by rw[iS,zF,mf,mf]
def pR(a:gJ):fq (iS a):=λx h=>(zD.1 h).elim (sh _ _ x) (sh _ _ x)
def p8:(256:Int)^8=18446744073709551616:=by decide
def IR{a b:gJ}(u:nY a)(C:nY b)(h:iS a=iS b):a=b:=by obtain⟨E,G⟩:=append_inj h (by rw[mf,mf]);exact Prod.ext (EH (by rw[p8];exact u.1) (by rw[p8];exact C.1) E) (EH (by rw[p8];exact u.2) (by rw[p8];exact C.2) G)
def gO (a:gJ) (n:Int):KE:=iS a++bw 8 n
def mi (n m:Int):KE:=bw 8 n++bw 8 m
def Aa(a:gJ)(n:Int):(gO a n).length=24:=by rw[gO,zF,me,mf]
def Cv(n m:Int):(mi n m).length=16:=by rw[mi,zF,mf,mf]
def Dc(a:gJ)(n:Int):fq (gO a n):=λx h=>(zD.1 h).elim (pR _ x) (sh _ _ x)
def qtT(n m:Int):fq (mi n m):=pR (n,m)
def qyi{a b:gJ}{n m:Int}(u:nY a)(C:nY b)(E:lA n)(G:lA m)(h:gO a n=gO b m):a=b/\n=m:=by obtain⟨I,J⟩:=append_inj h (by rw[me,me]);exact⟨IR u C I,EH (by rw[p8];exact E) (by rw[p8];exact G) J⟩
def qxp{n m:Int}(h:lA n)(u:lA m):cmpL (bw 8 n) (bw 8 m)<0↔n<m:=by rw[qu1 (sh _ _) (sh _ _) (by rw[mf,mf]),vX 8 h.1 (by rw[p8];exact h.2),vX 8 u.1 (by rw[p8];exact u.2)]
def qzj{a b:Int}(h:fq [a,b]):be (jd [a,b]) 2=[a,b]/\jd [a,b]=a*256+b:=by
 have u:=h a oM;have C:=h b oM;have e:jd [a,b]=a*256+b:=by rw[FL h (zO rfl)];show ((0*256+a)*256+b)=_;omega
 refine⟨?_,e⟩;rw[e,be2 oK];congr 1;omega;congr 1;omega
structure dW where
 Q3:Bool
 J5:List Key
 J9:List Key
 J8:KE
variable {n:dW}
def jr:dW:=⟨false,[],[],[]⟩
def eG (k v:Nat):KQ:=if k<1\/k>24\/v>108 then (0,0) else (498 / (k+v),(498+k) / (4+k))
def gx (n:dW) (k v:Nat):Prop:=
 (∀a∈n.J5,a.length=k)/\(∀a∈n.J9,a.length=v)/\gz n.J5/\
 if n.Q3 then n.J8=[]/\1<=n.J5.length/\n.J5.length<=(eG k v).1/\n.J9.length=n.J5.length
 else (∀x∈n.J8,2<=x)/\n.J9=[]/\2<=n.J8.length/\n.J8.length<=(eG k v).2/\n.J5.length+1=n.J8.length
def lS (J5 J9:List Key):KE:=(J5.zip J9).flatMap λx=>x.1++x.2
def io (n:dW):KE:=if n.Q3 then be n.J5.length 2++lS n.J5 n.J9 else be n.J8.length 2++n.J8.flatMap (λx=>be x 4)++n.J5.flatten
def jJ (n:dW):Int:=if n.Q3 then 3 else 4
noncomputable def fH (n:dW) (k v:Nat):Int×List Int×Int:=if gx n k v then (jJ n,io n,0) else (0,[],1)
def jP (k v:Nat):Nat->KE->List Key×List Key
 | 0,_=>([],[])
 | c+1,b=>(b.take k::(jP k v c (b.drop (k+v))).1,(b.drop k).take v::(jP k v c (b.drop (k+v))).2)
def y9:Nat->KE->KE
 | 0,_=>[]
 | c+1,b=>jd (b.take 4)::y9 c (b.drop 4)
def mu (k:Nat):Nat->KE->List Key
 | 0,_=>[]
 | c+1,b=>b.take k::mu k c (b.drop k)
def gw (b:KE):Nat:=(b.getD 0 0*256+b.getD 1 0).toNat
def oV (k v:Nat) (b:KE):dW:=⟨true,(jP k v (gw b) (b.drop 2)).1,(jP k v (gw b) (b.drop 2)).2,[]⟩
def mB (k:Nat) (b:KE):dW:=⟨false,mu k (gw b-1) ((b.drop 2).drop (gw b*4)),[],y9 (gw b) (b.drop 2)⟩
noncomputable def jw (kind:Int) (b:KE) (k v:Nat):dW×Int:=
 if (eG k v).1=0\/b.length<2\/b.length>500 then (jr,2)
 else if kind=3/\(b.drop 2).length=gw b*(k+v)/\gx (oV k v b) k v then (oV k v b,0)
 else if kind=4/\1<=gw b/\(b.drop 2).length=gw b*4+(gw b-1)*k/\gx (mB k b) k v then (mB k b,0)
 else (jr,2)
def qtv{kind:Int}{b:KE}(h:(jw kind b k v).2=0):gx (jw kind b k v).1 k v:=by unfold jw at h⊢;split at h;cases h;rename_i E;rw[iN E];split at h;rename_i u;rw[iP u];exact u.2.2;rename_i u;rw[iN u];split at h;rename_i C;rw[iP C];exact C.2.2.2;cases h
def Hh{k v:Nat}:∀ {J5 J9:List Key},(∀a∈J5,a.length=k)->(∀a∈J9,a.length=v)->J5.length=J9.length->(lS J5 J9).length=J5.length*(k+v)
 | [],[],_,_,_=>by simp[lS]
 | a::r,b::s,C,E,G=>by
  have:=Hh (J5:=r) (J9:=s) (λx u=>C x (zN _ u)) (λx u=>E x (zN _ u)) (oQ G);unfold lS at this⊢;rw[zip_cons_cons,yI,zF,zF,C a oM,E b oM,this,yJ,xW];omega
 | [],_::_,_,_,h=>by simp at h
 | _::_,[],_,_,h=>by simp at h
def qvl{k v:Nat}:∀ {J5 J9:List Key},(∀a∈J5,a.length=k)->(∀a∈J9,a.length=v)->J5.length=J9.length->jP k v J5.length (lS J5 J9)=(J5,J9)
 | [],[],_,_,_=>rfl
 | a::r,b::s,C,E,O=>by have ih:=qvl (k:=k) (v:=v) (J5:=r) (J9:=s) (λx u=>C x (zN _ u)) (λx u=>E x (zN _ u)) (oQ O);have G:=C a oM;have I:=E b oM;have e:lS (a::r) (b::s)=a++(b++lS r s):=(by unfold lS;rw[zip_cons_cons,yI,zV]);rw[yJ,jP,e];have e1:(a++(b++lS r s)).take k=a:=(by rw[<- G,take_left'];rfl);have J:(a++(b++lS r s)).drop k=b++lS r s:=(by rw[<- G,drop_left'];rfl);have Q:(a++(b++lS r s)).drop (k+v)=lS r s:=(by rw[<- xF,J,<- I,drop_left'];rfl);have R:(b++lS r s).take v=b:=(by rw[<- I,take_left'];rfl);rw[Q,ih,e1,J,R]
 | [],_::_,_,_,h=>by simp at h
 | _::_,[],_,_,h=>by simp at h
def qvi{r:KE}:∀ {l:KE},(∀x∈l,0<=x/\x<4294967296)->y9 l.length (l.flatMap (λx=>be x 4)++r)=l
 | [],_=>rfl
 | a::l,h=>by have ih:=qvi (r:=r) (l:=l) λx C=>h x (zN _ C);have u:=lM a 4;rw[yJ,y9,yI,zV];generalize l.flatMap (λx=>be x 4)++r=R at ih⊢;have e1:(be a 4++R).take 4=be a 4:=take_left' u;have E:(be a 4++R).drop 4=R:=drop_left' u;rw[e1,E,ih,GN (h a oM)]
def qvh{k:Nat}:∀ {l:List Key},(∀a∈l,a.length=k)->mu k l.length l.flatten=l
 | [],_=>rfl
 | a::l,h=>by have ih:=qvh (k:=k) (l:=l) λx C=>h x (zN _ C);have u:=h a oM;rw[yJ,mu,flatten_cons];have e1:(a++l.flatten).take k=a:=(by rw[<- u];exact take_left);have E:(a++l.flatten).drop k=l.flatten:=(by rw[<- u];exact drop_left);rw[e1,E,ih]
def GM(l:KE):(l.flatMap λx=>be x 4).length=l.length*4:=by
 induction l with
 | nil=>rfl
 | cons a l ih=>rw[yI,zF,ih,lM,yJ];omega
def Ja{k:Nat}:∀ {l:List Key},(∀a∈l,a.length=k)->l.flatten.length=l.length*k
 | [],_=>by simp
 | a::l,h=>by rw[flatten_cons,zF,Ja λx u=>h x (zN _ u),h a oM,yJ,xW];omega
def qqI{n:Nat}(h:n<65536)(r:KE):gw (be (n:Int) 2++r)=n:=by
 have E:=lM (n:Int) 2;obtain⟨a,b,e⟩:∃a b,be (n:Int) 2=[a,b]:=by
  match be (n:Int) 2,E with
  | [a,b],_=>exact⟨a,b,rfl⟩
 have u:=u7 (n:Int) 2;have C:=qsT (n:=(n:Int)) ⟨oK,oK⟩;rw[e] at u C;have:=(qzj u).2;rw[C] at this;unfold gw;rw[e];show (a*256+b).toNat=n;omega
def qu3{n:Int}{r:KE}:(be n 2++r).drop 2=r:=by
 have:=drop_left (l₁:=be n 2) (l₂:=r);rw[lM] at this;exact this
def qmY(a b:Nat):a / b*b<=a:=Nat.div_mul_le_self a b
def qxo{c:Nat}(h:c<=(eG k v).1):c*(k+v)<=498:=by unfold eG at h;split at h;rw[show c=0 from Nat.le_zero.1 h];omega;exact zL (Kk _ h) (qmY _ _)
def qwa{c:Nat}(h:c<=(eG k v).2):c*4+(c-1)*k<=498:=by
 unfold eG at h;split at h;rw[show c=0 from Nat.le_zero.1 h];omega;have u:c*(4+k)<=498+k:=zL (Kk _ h) (qmY _ _);cases c with
 | zero=>omega
 | succ c=>
  rw[Nat.add_sub_cancel];rw[xW,Nat.mul_add] at u;rw[xW];omega
def Ev:(eG k v).1<=498/\(eG k v).2<=498:=by unfold eG;split;exact⟨oN,oN⟩;exact⟨Nat.div_le_self _ _,Nat.div_le_of_le_mul (by have:(498+k)<=(4+k)*498:=(by rw[xW];omega);exact this)⟩
def FE(h:gx n k v):2<=(io n).length/\(io n).length<=500:=by
 obtain⟨C,G,I,u⟩:=h;unfold io;cases E:n.Q3 with
 | true=>
  rw[E,iP rfl] at u;rw[iP rfl,zF,lM,Hh C G u.2.2.2.symm];have:=qxo u.2.2.1;omega
 | false=>
  rw[E,iN oN] at u;rw[iN oN,zF,zF,lM,GM,Ja C];have:=qwa u.2.2.2.1;have e:n.J5.length=n.J8.length-1:=oK;rw[e];omega
def qtc:(⟨n.Q3,n.J5,n.J9,n.J8⟩:dW)=n:=rfl
def qwN(h:gx n k v)(hk:∀x∈n.J8,x<4294967296):jw (jJ n) (io n) k v=(n,0):=by
 have R:=FE h;have U:=h;obtain⟨O,V,h3,G⟩:=h;have ad:=(Ev (k:=k) (v:=v));unfold jw;cases E:n.Q3 with
 | true=>
  rw[E,iP rfl] at G;have u:gw (io n)=n.J5.length:=(by unfold io;rw[E,iP rfl];exact qqI oK _);have C:(io n).drop 2=lS n.J5 n.J9:=(by unfold io;rw[E,iP rfl];exact qu3);have I:oV k v (io n)=n:=by unfold oV;rw[u,C,qvl O V G.2.2.2.symm];rw[<- qtc (n:=n),E,G.1]
  rw[iN,iP ⟨by unfold jJ;rw[E];rfl,by rw[u,C,Hh O V G.2.2.2.symm],by rw[I];exact U⟩,I]
 | false=>
  rw[E,iN oN] at G;have hb:io n=be n.J8.length 2++(n.J8.flatMap (λx=>be x 4)++n.J5.flatten):=(by unfold io;rw[E,iN oN,zV]);have u:gw (io n)=n.J8.length:=(by rw[hb];exact qqI oK _);have C:(io n).drop 2=n.J8.flatMap (λx=>be x 4)++n.J5.flatten:=(by rw[hb];exact qu3);have J:n.J5.length=n.J8.length-1:=oK;have I:mB k (io n)=n:=by unfold mB;have e:(n.J8.flatMap (λx=>be x 4)++n.J5.flatten).drop (n.J8.length*4)=n.J5.flatten:=(by rw[<- GM];exact drop_left);rw[u,C,qvi λx hx=>⟨by have:=G.1 x hx;omega,hk x hx⟩,e,<- J,qvh O];rw[<- qtc (n:=n),E,G.2.1]
  have ae:1<=(eG k v).1:=(by have Q:=G.2.2.2.1;have h6:=G.2.2.1;unfold eG at Q⊢;by_cases hc:k<1\/k>24\/v>108;rw[iP hc] at Q;have h8:n.J8.length<=0:=Q;omega;rw[iN hc];have h7:k+v<=498:=oK;exact (Nat.le_div_iff_mul_le (show 0<k+v by omega)).2 (by rw[Nat.one_mul];exact h7));rw[iN,iN (λh=>by unfold jJ at h;rw[E] at h;exact absurd h.1 oN),iP ⟨by unfold jJ;rw[E];rfl,by rw[u];omega,by rw[u,C,zF,GM,Ja O,J],by rw[I];exact U⟩,I]
def fq.flat{l:List Key}(h:∀a∈l,fq a):fq l.flatten:=λx u=>by obtain⟨a,C,u⟩:=mem_flatten.1 u;exact h a C x u
def qqG(u:∀a∈n.J5,fq a)(E:∀a∈n.J9,fq a):fq (io n):=by unfold io;split;refine (u7 _ _).append λx h=>?_;obtain⟨y,G,h⟩:=yL.1 h;have C:=of_mem_zip (a:=y.1) (b:=y.2) G;rcases zD.1 h with h|h;exact u _ C.1 x h;exact E _ C.2 x h;refine ((u7 _ _).append λx h=>?_).append (fq.flat u);obtain⟨y,_,h⟩:=yL.1 h;exact u7 _ _ x h
end
section
open Go.ChangeShapes Go.WideShapes Go.ChangeAt Go.RowKit Go.Pt
def qCu:ownKnob prog.godebug=none:=by kernel_rfl
def qx5:laidOutB prog=true:=by kernel_rfl
abbrev tT:List (String×DataW Unit):=[("cashbook/crc.halves",Rows.laid_cashbook_crc_halves)]
def qvb:prog.globalNamed "cashbook/crc.halves"=some HG:=by kernel_rfl
def qA0:(prog.globals[HG]?).map (·.type)=some 376:=by kernel_rfl
def qA1:prog.underlying 376=some (.array 16 44):=by kernel_rfl
def qzE:prog.underlying 44=some (.int .u32):=by kernel_rfl
set_option maxRecDepth 100000 in
def qzu(h:Os)(args:Array Kw):laidMetH prog tT ((World.doorLaid prog 4000 h).forCall (λ_ _=>0) ⟨#[],args,[]⟩).memory:=
 laidMetH_of_parts3 (fuel:=8) (laidMet_of_run' 8 oL oL) oL oL
def qwo{W:Kv}(h:laidMetH prog tT W):Hv W:=by
 rw[MakeChecks.laidMetH_plain _ _ _ oL] at h;obtain⟨ps,⟨g0,t0,cs0,f0,p0,q0,hg0,ht0,hv0,hd0,_,_⟩,_,_⟩:=h;obtain rfl:=yP (qvb.symm.trans hg0);obtain rfl:=yP (qA0.symm.trans ht0);obtain⟨xs,m1,rfl,hx1,hlen,hn3,hel⟩:=DataW.trod_array qA1 hd0;simp only[Prod.mk.injEq] at hx1;have hx:=hx1.1;unfold Rows.laid_cashbook_crc_halves at hx;rw[DataW.agg.injEq] at hx;have c31:prog.cellsOf 44=1:=oL;have hcl:prog.cellsOf 376=16:=oL;have hb:∃T fr,W.heap[HG]?=some (.cells cs0 T fr):=by unfold World.var? at hv0;rw[qvb,Option.bind_some] at hv0;split at hv0;rename_i cs T fr hb;cases hv0;exact⟨T,fr,hb⟩;cases hv0
 obtain⟨T,fr,hb⟩:=hb;have key:∀(i:Nat) (n:Int),(xs.map (·.1))[i]?=some (DataW.lit (.int .u32 n))->cs0.toList[i]?=some (.int .u32 n):=by
  intro i n hi;rw[zQ] at hi;obtain⟨y,hy,hyn⟩:=yU.1 hi;have hil:i<xs.length:=(zP.1 hy).1;have h1:=hel i oK;rw[c31] at h1;rw[hy] at h1;obtain⟨k,e1,e2,_⟩:=DataW.trod_int qzE h1;rw[e2] at hyn;have hk:k=n:=(oQ hyn);subst hk;have:=Kr (·[0]?) e1;simpa using this
 refine⟨T,fr,?_⟩;rw[hb];refine Kr (λc=>some (Obj.cells c T fr)) ?_;apply Array.ext';apply List.ext_getElem?;intro i;have hsz:cs0.toList.length=16:=hlen.trans hcl;have hx':xs.map (·.1)=mn.map (λn=>DataW.lit (.int .u32 n)):=hx.symm;by_cases hi:i<mn.length;have h1:=key i mn[i] (by rw[hx',zQ,zA hi];rfl);rw[h1];show _=(mn.map (Value.int .u32))[i]?;rw[zQ,zA hi];rfl;have h16:mn.length=16:=rfl;rw[yT oK];exact (yT (by rw[zK];omega)).symm
def GQ{x:Int}(h:IntKind.u8.has x):0<=x/\x<256:=by have u:(0:Int)<=x/\x<=255:=h;omega
def wZ{x:Int}(h:IntKind.u16.has x):0<=x/\x<65536:=by have u:(0:Int)<=x/\x<=65535:=h;omega
def BK{x:Int}(h:IntKind.u32.has x):0<=x/\x<4294967296:=by have u:(0:Int)<=x/\x<=4294967295:=h;omega
end
section
open Go Go.Pt List
open Go.IntKind (wrap)
def qAJ(x i:Nat):x&&& 2^i=if x / 2^i%2=1 then 2^i else 0:=by apply Nat.eq_of_testBit_eq;intro j;rw[Nat.testBit_and,Nat.testBit_two_pow];by_cases h:x / 2^i%2=1;rw[iP h,Nat.testBit_two_pow];by_cases e:i=j;subst e;simp[Nat.testBit_eq_decide_div_mod_eq,h];simp[e];rw[iN h,Nat.zero_testBit];by_cases e:i=j;subst e;simp[Nat.testBit_eq_decide_div_mod_eq,h];simp[e]
def hasB (x k:Int):Bool:=decide (x / k%2=1)
def nP (x k:Int):Int:=if hasB x k then x-k else x
def Ej(n:Nat)(h:n<65536):(BitVec.ofInt 16 (n:Int)).toNat=n:=by rw[BitVec.ofInt_natCast,BitVec.toNat_ofNat];exact Nat.mod_eq_of_lt h
def GG{x:Int}(i:Nat)(C:0<=x/\x<65536)(hi:i<16):bits .and .u16 x ((2^i:Nat):Int)=if hasB x ((2^i:Nat):Int) then ((2^i:Nat):Int) else 0:=by
 obtain⟨n,rfl⟩:∃n:Nat,x=n:=⟨x.toNat,oK⟩;have u:2^i<65536:=Nat.pow_lt_pow_right oN hi;show wrap .u16 ((BitVec.ofInt 16 (n:Int)&&& BitVec.ofInt 16 ((2^i:Nat):Int)).toNat:Nat)=_;rw[BitVec.toNat_and,Ej n oK,Ej _ u,qAJ];have e:hasB (n:Int) ((2^i:Nat):Int)=decide (n / 2^i%2=1):=by unfold hasB;rw[decide_eq_decide,<- Int.natCast_ediv];omega
 rw[e];by_cases h:n / 2^i%2=1;rw[iP h,iP (yA h),vH _ ⟨Int.natCast_nonneg _,Int.ofNat_lt.2 u⟩];rw[iN h,iN (oQ h),vH _ oK];rfl
def quS{x:Int}(i:Nat)(I:0<=x/\x<65536)(hi:i<16):bits .andNot .u16 x ((2^i:Nat):Int)=nP x ((2^i:Nat):Int):=by
 have C:=GG i I hi;obtain⟨n,rfl⟩:∃n:Nat,x=n:=⟨x.toNat,oK⟩;have Q:2^i<65536:=Nat.pow_lt_pow_right oN hi;have J:n<65536:=oK;have e1:bits .andNot .u16 (n:Int) ((2^i:Nat):Int)=wrap .u16 ((BitVec.ofInt 16 (n:Int)&&& ~~~ BitVec.ofInt 16 ((2^i:Nat):Int)).toNat:Nat):=rfl;have E:bits .and .u16 (n:Int) ((2^i:Nat):Int)=wrap .u16 ((BitVec.ofInt 16 (n:Int)&&& BitVec.ofInt 16 ((2^i:Nat):Int)).toNat:Nat):=rfl;have u:=Ej n J;generalize BitVec.ofInt 16 (n:Int)=X at e1 E u;generalize BitVec.ofInt 16 ((2^i:Nat):Int)=Y at e1 E;have O:(X&&& ~~~ Y)+(X&&& Y)=X:=by rw[BitVec.add_eq_or_of_and_eq_zero _ _ (by ext k hk;simp;cases X[k]<;>cases Y[k]<;>simp)];ext k hk;simp;cases X[k]<;>cases Y[k]<;>rfl
 have R:(X&&& ~~~ Y).toNat<=n:=(by rw[BitVec.toNat_and,<- u];exact Nat.and_le_left);have U:(X&&& Y).toNat<=n:=(by rw[BitVec.toNat_and,<- u];exact Nat.and_le_left);have G:=Kr BitVec.toNat O;rw[BitVec.toNat_add,u] at G;rw[e1,vH _ oK];rw[E,vH _ oK] at C;unfold nP;have:(2:Nat)^16=65536:=rfl;split
 ·next h=>rw[iP h] at C;omega
 ·next h=>rw[iN h] at C;omega
def wv (a:gJ):Int:=a.1*18446744073709551616+a.2
def vj (n:Int):gJ:=(n / 18446744073709551616,n%18446744073709551616)
def mO (a b:gJ):Option gJ:=if wv a+wv b<18446744073709551616*18446744073709551616 then some (vj (wv a+wv b)) else none
def qO (a b:gJ):Option gJ:=if wv b<=wv a then some (vj (wv a-wv b)) else none
def qyV{n:Int}(h:0<=n/\n<18446744073709551616*18446744073709551616):wv (vj n)=n/\nY (vj n):=by unfold wv vj nY lA;dsimp only;omega
def Al{a:gJ}(h:nY a):0<=wv a/\wv a<18446744073709551616*18446744073709551616:=by have u:=h.1;have C:=h.2;unfold wv;omega
def qrE{a b c:gJ}(u:nY a)(C:nY b)(h:mO a b=some c):wv c=wv a+wv b/\nY c:=by unfold mO at h;split at h;cases h;have E:=Al u;have G:=Al C;exact qyV ⟨oK,by assumption⟩;cases h
def FS{a b c:gJ}(u:nY a)(C:nY b)(h:qO a b=some c):wv c=wv a-wv b/\nY c:=by unfold qO at h;split at h;cases h;have E:=Al u;have G:=Al C;exact qyV ⟨oK,oK⟩;cases h
end
section
open Go Go.Pt Go.Sort List
section
variable {w:Kv} {X:KD} {pb:Nat} {db:Option Addr} {F:KD} {M:eZ}
end
end
section
open Go Go.Pt List
open Go.IntKind (wrap)
variable {D:dV} {F1 FD S X:KD} {K:Int->WP} {M:eZ} {Q1 body l l' numbers y7:KE} {Q2:Bool} {a r:dV×Int} {db:Option Addr} {dbk k:Nat} {f:dV->dV×Int} {j9 s:rf} {m:Option Nat} {n:Int} {offs:Array (KQ)} {parts:List (Nat×Kw)} {sl sn:Sl} {w w1:Kv} {wk:List Kw}
def vr{A X Y Z:List Kw}(h:X.length=Y.length):ef (A++X++Z).toArray A.length Y=(A++Y++Z).toArray:=by apply Array.ext';rw[sP _ _ _ (by rw[size_toArray];simp only[zF];omega)];exact Hs A X Y Z h
def wQ{cells:Array Kw}{i o s:Nat}{v:Kw}{u:List (Nat×Kw)}(h:offs[i]?=some (o,s))(C:v.cells.size=s)(G:o+s<=cells.size): Instr.fill (offs[·]?) cells ((i,v)::u)=Instr.fill (offs[·]?) (ef cells o v.cells.toList) u:=by have E:=Ff o v.cells cells;simp only[Instr.fill,h];rw[iN (by simp[C];omega),E]
def ID{P:Ky}{t:Kx}{z:Kw}{cs:Array Kw}(u:(P.info? t).bind (·.zero)=some z)(C:P.underlying t=some (.struct (fieldsOf P t)))(h:∀w,((fieldsOf P t).mapM λf=>do pure (f.offset,<- sizeOf f.type):Sem (Array (KQ))).run P w=.ok offs w)(E:Instr.fill (offs[·]?) z.cells parts=some cs)(w:Kv):(Instr.build t parts.toArray).run P w=.ok (.agg cs) w:=by simp only[Instr.build,Kb,xw u,Kc,run_underlying C,h,E,Sem.run_pure]
abbrev Jq:Kx:=242
def k7 (x y:Option Addr) (m:Option Nat) (Q1:KE):List Kw:=[.pointer x,.pointer y,.map m]++Q1.map (Value.int .u32)
def Dh{x y:Option Addr}(h:Q1.length=24):(k7 x y m Q1).length=27:=by simp[k7,h]
def qCz:(prog.info? Jq).bind (·.zero)=some (.agg (k7 none none none (zs 24)).toArray):=by kernel_rfl
def qv9{x y:Option Addr}(h:Q1.length=24)(w:Kv): (Instr.build Jq #[(0,.pointer x),(1,.pointer y),(2,.map m),(3,.agg (Q1.map (Value.int .u32)).toArray)]).run prog w=.ok (.agg (k7 x y m Q1).toArray) w:=by refine ID (parts:=[(0,.pointer x),(1,.pointer y),(2,.map m),(3,.agg (Q1.map (Value.int .u32)).toArray)]) (offs:=#[(0,1),(1,1),(2,1),(3,24)]) qCz oL (λw=>oL) ?_ w;have u:(Value.agg (Q1.map (Value.int .u32)).toArray).cells.size=24:=(by show (Q1.map (Value.int .u32)).toArray.size=24;simp[h]);rw[wQ (o:=0) (s:=1) rfl rfl (zO rfl),wQ (o:=1) (s:=1) rfl rfl (zO rfl),wQ (o:=2) (s:=1) rfl rfl (zO rfl),wQ (o:=3) (s:=24) rfl u (zO rfl)];show some _=_;congr 1;exact vr (A:=[.pointer x,.pointer y,.map m]) (X:=(zs 24).map (Value.int .u32)) (Z:=[]) (Y:=Q1.map (Value.int .u32)) (by simp[h,rU]) |>.trans (by rw[xJ];rfl)
def gM (db:Option Addr) (j9:rf) (sl sn:Sl) (x5:Int) (Q2:Bool) (wk:List Kw):Array Kw:=
 ((Value.pointer db::gh j9.1 j9.2)++([sl.v,sn.v,.i x5,.bool Q2]:List Kw)++wk).toArray
def qut{x5:Int}{fb defb mb:Nat}: gM db j9 sl sn x5 Q2 (k7 (pW fb) (pW defb) (some mb) Q1)=gQ db j9 sl sn x5 Q2 fb defb mb Q1:=by simp[gM,gQ,pB,k7]
section
variable {db:Option Addr} {j9:rf} {sl sn:Sl} {x5:Int} {Q2:Bool} {wk:List Kw}
def FZ(h:j9.2.length=27):(gM db j9 sl sn x5 Q2 wk).size=33+wk.length:=by rw[gM,size_toArray,zF,zF,uV h];rfl
def zy(u:j9.2.length=27)(j:Nat)(h:j<4):(gM db j9 sl sn x5 Q2 wk)[29+j]?=([sl.v,sn.v,.i x5,.bool Q2]:List Kw)[j]?:=by rw[gM,List.getElem?_toArray,zV,yZ (by rw[uV u];omega),uV u,vF,xA (by exact h)]
def qCw:(gM db j9 sl sn x5 Q2 wk)[0]?=some (.pointer db):=rfl
def Fc(C:j9.2.length=27)(n:Nat)(h:n<27):(gM db j9 sl sn x5 Q2 wk)[n+2]?=some (.u (j9.2.getD n 0)):=by
 rw[gM,List.getElem?_toArray,zV,xA (by rw[uV C];omega),List.getElem?_cons_succ];have:=Ek (q:=j9.1) (t:=j9.2) n oK;rw[List.getElem?_toArray] at this;exact this
def qrt(h:j9.2.length=27):((gM db j9 sl sn x5 Q2 wk).toList.drop 5).take 24=(j9.2.drop 3).map (Value.int .u32):=by have u:((j9.2.drop 3).map (Value.int .u32)).length=24:=(by rw[zK,yC,h]);have e:(gM db j9 sl sn x5 Q2 wk).toList.drop 5=(j9.2.drop 3).map (Value.int .u32)++([sl.v,sn.v,.i x5,.bool Q2]++wk):=(by show List.drop 3 ((j9.2.map (Value.int .u32))++[_,_,_,_]++wk)=_;rw[zV,Kf (by rw[zK,h];decide),xS]);rw[e,JX (Nat.le_of_eq u.symm),zS (Nat.le_of_eq u)]
def qz2(C:j9.2.length=27){u:Int}:ef (gM db j9 sl sn x5 Q2 wk) 31 [.i u]=gM db j9 sl sn u Q2 wk:=by
 have h:((Value.pointer db::gh j9.1 j9.2)++([sl.v,sn.v]:List Kw)).length=31:=by rw[zF,uV C];rfl
 have:=vr (A:=(Value.pointer db::gh j9.1 j9.2)++([sl.v,sn.v]:List Kw)) (X:=[.i x5]) (Y:=[.i u]) (Z:=.bool Q2::wk) rfl;rw[h] at this;simpa[gM] using this
def qz3(C:j9.2.length=27){u:List Kw}(E:wk.length=u.length):ef (gM db j9 sl sn x5 Q2 wk) 33 u=gM db j9 sl sn x5 Q2 u:=by
 have h:((Value.pointer db::gh j9.1 j9.2)++([sl.v,sn.v,.i x5,.bool Q2]:List Kw)).length=33:=by rw[zF,uV C];rfl
 have:=vr (A:=(Value.pointer db::gh j9.1 j9.2)++([sl.v,sn.v,.i x5,.bool Q2]:List Kw)) (X:=wk) (Y:=u) (Z:=[]) E;rw[h,xJ,xJ] at this;exact this
end
def kQ (l:KE):KE:=l.foldl (λa n=>ins n a) []
def qvd(n:Int):∀l:KE,(ins n l).length<=l.length+1
 | []=>by simp[ins]
 | a::l=>by
  have:=qvd n l;simp only[ins];split;simp;split;simp;simp only[yJ];omega
def quh{i:Nat}(h:i<l.length):kQ (l.take (i+1))=ins l[i] (kQ (l.take i)):=by rw[kQ,yH h,foldl_append];rfl
def qwp(l:KE):(kQ l).length<=l.length:=by
 unfold kQ;have:∀(l a:KE),(l.foldl (λa n=>ins n a) a).length<=a.length+l.length:=by
  intro l;induction l with
  | nil=>intro a;simp
  | cons x l ih=>
   intro a;have h:=ih (ins x a);have u:=qvd x a;rw[foldl_cons,yJ];omega
 simpa using this l []
def qpX(l:KE):∀a:KE,a.Pairwise (· < ·)->(l.foldl (λa n=>ins n a) a).Pairwise (· < ·):=by
 induction l with
 | nil=>intro a h;exact h
 | cons x l ih=>intro a h;exact ih _ (Dy h)
def qsO(l:KE):∀a:KE,(a++l).Nodup->(l.foldl (λa n=>ins n a) a).Perm (a++l):=by
 induction l with
 | nil=>intro a h;rw[xJ];exact .refl _
 | cons x l ih=>
  intro a h;have C:x∉a:=λE=>by rw[yN] at h;exact h.2.2 x E x oM rfl
  have G:=CG C;have u:(ins x a++l).Perm (a++x::l):=(G.append_right l).trans (perm_middle.symm);exact (ih (ins x a) (u.nodup_iff.2 h)).trans u
def qrR(l:KE):(kQ l).Pairwise (· < ·):=qpX l [] .nil
def qug(h:l.Nodup):(kQ l).Perm l:=by
 have:=qsO l [] (oQ h);simpa[kQ] using this
def qAn(h:l.Pairwise (· < ·)):l.Pairwise (·<=·):=h.imp Int.le_of_lt
def FK(h:l.Pairwise (· < ·)):l.Nodup:=h.imp (λh=>Int.ne_of_lt h)
def qp1(h:l'.Perm l)(u:l'.Pairwise (·<=·))(C:l.Nodup):l'=kQ l:=
 qiE (h.trans (qug C).symm) u (qAn (qrR l))
def qxV(h:l.Pairwise (· < ·)):kQ l=l:=(qp1 (.refl _) (qAn h) (FK h)).symm
def DB{x y:Int}:∀ {l:KE},y∈ins x l↔y=x\/y∈l
 | []=>by simp[ins]
 | a::l=>by
  have:=DB (x:=x) (y:=y) (l:=l);simp only[ins];split;simp;split;rename_i h;subst h;simp;simp only[zG,this];constructor;rintro (h|h|h);exact .inr (.inl h);exact .inl h;exact .inr (.inr h);rintro (h|h|h);exact .inr (.inl h);exact .inl h;exact .inr (.inr h)
def andThen (r:dV×Int) (f:dV->dV×Int):dV×Int:=if r.2=0 then f r.1 else r
def kR:List (KW)->dV->dV×Int
 | [],D=>(D,0)
 | x::r,D=>andThen (fL D x.1 x.2) (kR r)
def i8 (D:dV) (numbers y7:KE):dV×Int:=
 if (iu numbers y7).2≠0 then (D,(iu numbers y7).2)
 else andThen (kR ((y7.zip (iu numbers y7).1).map λx=>(x.1,fS x.1 2 x.2)) D) iL
def ju (s:rf):KW:=(Int.tmod s.1 2,fS (wrap .u32 (Int.tmod s.1 2)) 1 (iE s.1 s.2))
def ru (D:dV) (s:rf):dV×Int:=andThen (fL D (ju s).1 (ju s).2) iL
def gr (n:Nat):KE:=(List.range (n-2)).map λ(i:Nat)=>(i:Int)+2
def lU (n:Nat):rf:=(1,[wrap .u32 n,2,wrap .u32 ((gr n).length-gW (gr n).length:Int)]++zs 24)
def mU (D:dV):dV×Int:=
 andThen (fL D 0 (zs 512)) λD=>andThen (fL D 1 (zs 512)) λD=>andThen (iL D) λD=>
 andThen (i8 D ((gr D.Q5.length).drop (gW (gr D.Q5.length).length)) ((gr D.Q5.length).take (gW (gr D.Q5.length).length))) λD=>ru D (lU D.Q5.length)
def nS (D:dV) (u:Int):Nat->Int->KE->KE->Option (List Int×List Int)
 | 0,_,_,_=>none
 | f+1,a,h,Q8=>
  if a=0 then some (h,Q8) else
  if a<2\/a>=u\/a∈h then none else
  if (eW D a).2≠0 then none else
  if (fP a (eW D a).1).2.2≠0\/(fP a (eW D a).1).1≠2 then none else
  if (jl (fP a (eW D a).1).2.1).2.2≠0 then none else
  nS D u f (jl (fP a (eW D a).1).2.1).1 (h++[a]) (Q8++(jl (fP a (eW D a).1).2.1).2.1)
def lR (h:Int) (u:KE):Int->KE->Bool
 | _,[]=>true
 | C,n::r=>!(decide (n<=C)||decide (n>=h)||decide (n∈u))&&lR h u n r
def qJ (D:dV) (s:rf):Option (List Int×List Int):=
 match nS D (s.2.getD 0 0) ((s.2.getD 0 0).toNat+1) (s.2.getD 1 0) [] [] with
 | none=>none
 | some x=>if lR (s.2.getD 0 0) x.1 0 x.2=true/\(x.2.length:Int)=s.2.getD 2 0 then some x else none
def lE (j9:rf) (h Q8:KE) (x5:Int) (Q2:Bool) (u:KE):eZ:=⟨j9,h,Q8,x5,Q2,u,[],[],j9.2.drop 3⟩
def oW (D:dV):Option eZ×Int:=
 if (eW D 0).2≠0 then (none,(eW D 0).2) else
 if (eW D 1).2≠0 then (none,(eW D 1).2) else
 if (i6 (eW D 0).1 (eW D 1).1).2≠0 then (none,(i6 (eW D 0).1 (eW D 1).1).2) else
 if (i6 (eW D 0).1 (eW D 1).1).1.2.getD 0 0≠D.Q5.length then (none,2) else
 match qJ D (i6 (eW D 0).1 (eW D 1).1).1 with
 | none=>(none,2)
 | some x=>(some (lE (i6 (eW D 0).1 (eW D 1).1).1 x.1 x.2 1 false x.2),0)
def qh (pb:Nat) (x y:Option Addr) (mb:Nat) (vs:List Kw) (K:Unit->WP) (w:Kv):Prop:=
 fM [i3.pF] (λ(w':Go.World)=>(Instr.build Jq (#[(0,Value.pointer x),(1,Value.pointer y),(2,Value.map (some mb)),(3,Value.agg (List.toArray vs))])).run prog w') w<|
 λ(u:List Kw)=>
 nn (pW pb)<|
 λ(E:Addr)=>
 ig (List.length u=27)<|
 st ({ block:=E.block,off:=E.off+33 }) u w<|
 λ(G:Kv)=>
 nn (pW pb)<|
 λ(I:Addr)=>
 ld Cell.slice ({ block:=I.block,off:=I.off+30 }) G<|
 λ(J:Sl)=>
 loop (Int) (λ(Q:Int->WP) (C:Int) (h:Kv)=>
  cond (decide (C<(↑J.len:Int)))
   (idx J C 1<|
   λ(R:Addr)=>
   ld (Cell.int IntKind.u32) R h<|
   λ(U:Int)=>
   nn (pW pb)<|
   λ(O:Addr)=>
   ld Cell.ptr ({ block:=O.block,off:=O.off+33 }) h<|
   λ(V:Option Addr)=>
   cW 180 ([Value.pointer V,Value.int IntKind.u32 U]) ([i3.one Cell.bool]) h<|
   λ(ab:Bool) (aa:Kv)=>
   Q (wrap IntKind.i64 (C+1)) aa)
   (K () h)) 0 G
def qv6{w3:Kv}{pb fb defb mb:Nat}{x5:Int}{C Q8:KE}{F2:KD}{K:Unit->WP}(V:j9.2.length=27)(hw:wk.length=27)(hX:∀b∈X,b<w.heap.size/\b≠pb)(J:Rd (X++[pb]) w sl C)(G:Rd (X++[pb]) w sn Q8)(hn:Q8.length<=100000)(ho:ed [pb] w w3 [(pb,.c (gM db j9 sl sn x5 Q2 wk) uW)])(h1:i4 w3 fb F1 [])(h2:i4 w3 defb F2 [])(h3:kG lK w3 mb [])(n1:∀b∈F1,w.heap.size<=b)(n2:∀b∈F2,w.heap.size<=b)(n3:w.heap.size<=mb)(aC:pb<w.heap.size)(ae:mb∉F1)(af:mb∉F2)(ag:∀b∈F1,b∉F2)(hk:∀F' w',gd w' X pb db F' (lE j9 C Q8 x5 Q2 (kQ Q8))->Fr [pb] w w'->(∀b∈F',b=pb\/w.heap.size<=b)->K () w'): qh pb (pW fb) (pW defb) mb ((j9.2.drop 3).map (Value.int .u32)) K w3:=by
 have E:(j9.2.drop 3).length=24:=(by rw[yC,V]);unfold qh;refine tP (ts:=[i3.pF]) (k7 (pW fb) (pW defb) (some mb) (j9.2.drop 3)) (qv9 E w3)<|gV<|mI (Dh E) ?_;have aa:(k7 (pW fb) (pW defb) (some mb) (j9.2.drop 3)).all Value.oneCell'=true:=by rw[Kh];intro v hv;simp only[k7,zD,zG,mem_map,xZ,or_false] at hv;rcases hv with (rfl|rfl|rfl)|⟨x,_,rfl⟩<;>rfl
 refine oH ho 0 rfl (gQ db j9 sl sn x5 Q2 fb defb mb (j9.2.drop 3)) (by rw[<- qut];exact qz3 V (by rw[hw,Dh E])) aa (by rw[FZ V,Dh E,hw];exact zO rfl) λw4 O f4=>?_;have R:∀b∈F1,b≠pb:=λb u e=>by have:=n1 b u;omega
 have U:∀b∈F2,b≠pb:=λb u e=>by have:=n2 b u;omega
 have hS:∀b∈pb::mb::(F1++F2),b∈[pb]\/w.heap.size<=b:=λb u=>by simp only[zG,zD] at u;rcases u with rfl|rfl|u|u;exact .inl oM;exact .inr n3;exact .inr (n1 b u);exact .inr (n2 b u)
 have hx:qr w4 X pb db (lE j9 C Q8 x5 Q2 []) fb defb mb sl sn F1 F2 []:={
  cell:=O.at (i:=0) rfl
  Q0:=h1.j0 f4 λb u=>by simpa using R b u
  J6:=h2.j0 f4 λb u=>by simpa using U b u
  map:=h3.j0 f4 oP
  J7:=rfl
  rows:=by have hf:Fr (X++[pb]) w w4:=O.fr.mono λb u _=>zI _ u;exact⟨J.j0 hf (Cr hS),G.j0 hf (Cr hS),λe he=>by cases he⟩
  si:=λb u=>yE (hX b u).1 O.fr.size
  pu:=Iu (λb u=>(hX b u).1) (λb u=>by simpa using (hX b u).2) hS
  sep:=⟨oK,λb u=>⟨R b u,λe=>ae (e▸u),ag b u⟩,λb u=>⟨U b u,λe=>af (e▸u)⟩⟩
  Q7:=V
  x6:=E }
 refine gV (jH hx.cell sn (qzV V) ?_);have aF:=G.1;refine kz (λx w'=>∃(i:Nat) (Q:KD),x=i/\i<=Q8.length/\qr w' X pb db (lE j9 C Q8 x5 Q2 (kQ (Q8.take i))) fb defb mb sl sn Q F2 []/\Fr [pb] w w'/\∀b∈Q,w.heap.size<=b) (λx _=>((Q8.length:Int)-x).toNat)
  ⟨0,F1,rfl,oK,hx,O.fr,n1⟩ ?_
 rintro x w5 ⟨i,Q,rfl,hi,I,f5,n5⟩ Z hZ;apply cD<;>intro hc;have ab:i<Q8.length:=oK;refine Rd.at I.rows.Q8 i rfl (zA ab)<|gV (jH I.cell (pW fb) (Em V) ?_);have am:=qwp (Q8.take i);rw[yM] at am;refine Ig I.Q0 (by show (kQ (Q8.take i)).length<=_;omega) λac w6 an f6 n6=>?_;have ao:=I.sZ f6 an n6;rw[gu _ oK];refine hZ _ _ ⟨i+1,ac,oM,oK,?_,f5.j8 f6 λb u=>.inr (n5 b u),λb u=>?_⟩ oK;rw[quh ab];exact ao;rcases n6 b u with h|h;exact n5 b h;exact zL f5.size h;have:i=Q8.length:=oK;subst this;rw[vB] at I;refine hk _ w5 ⟨fb,defb,mb,sl,sn,Q,F2,[],rfl,I⟩ f5 λb u=>?_;simp only[zG,zD] at u;rcases u with rfl|rfl|u|u;exact .inl rfl;exact .inr n3;exact .inr (n5 b u);exact .inr (n2 b u)
def qxc{pb:Nat}{x5:Int}{Q4 Q8:KE}{K:Unit->WP}(hc:w.heap[pb]?=some (.c (gM db j9 sl sn x5 Q2 wk) uW))(hs:j9.2.length=27)(hw:wk.length=27)(ht:0<=x5/\x5<=1000000000)(hX:∀b∈X,b<w.heap.size/\b≠pb)(hlists:Rd (X++[pb]) w sl Q4)(hnamed:Rd (X++[pb]) w sn Q8)(hn:Q8.length<=100000)(hk:∀F' w',gd w' X pb db F' (lE j9 Q4 Q8 (x5+1) Q2 (kQ Q8))->Fr [pb] w w'->(∀b∈F',b=pb\/w.heap.size<=b)->K () w'): cW 146 [dQ pb] [] w K:=by
 have hpb:=fl hc;have ho:ed [pb] w w [(pb,.c (gM db j9 sl sn x5 Q2 wk) uW)]:=⟨by simpa using hc,oM,.refl _ _,oM⟩;refine qjF (p:=pW pb)<|gV (oA (c:=.i) ho 0 rfl x5 (zy hs 2 oN) ?_);rw[gu _ oK];refine gV (oH ho 0 rfl (gM db j9 sl sn (x5+1) Q2 wk) (qz2 hs) rfl (by rw[FZ hs,hw];exact zO rfl) λw1 ho f1=>?_);have hrl:((j9.2.drop 3).map (Value.int .u32)).length=24:=(by rw[zK,yC,hs]);have hcA:∀ {w':Kv},w'.heap[pb]?=some (.c (gM db j9 sl sn (x5+1) Q2 wk) uW)->kx w' (dm pb 5) 0 ((j9.2.drop 3).map (Value.int .u32)):=λh=>vP h _ 5 0 (by rw[hrl];exact qrt hs);have tail:=λ{w3:Kv} {fb defb mb:Nat} {F1 F2:KD}=>qv6 (w:=w) (w3:=w3) (X:=X) (pb:=pb) (fb:=fb) (defb:=defb) (mb:=mb) (F1:=F1) (F2:=F2) hs hw hX hlists hnamed hn (K:=K) (x5:=x5+1) (Q2:=Q2) (wk:=wk) (db:=db);have hs1:=f1.size;have ho':=ho.drew;generalize w1.drew=wd at ho';have hld:∀ {K':List Kw->Prop},K' ((j9.2.drop 3).map (Value.int .u32))->iH 24 (dm pb 5) wd K':=λk=>ou (ho'.at (i:=0) rfl) _ hrl (qrt hs) k;have hsd:w.heap.size<=wd.heap.size:=ho'.fr.size;have fin:∀ {w3:Kv} {fb defb mb:Nat} {F1 F2:KD},Fr [] wd w3->i4 w3 fb F1 []->i4 w3 defb F2 []->kG lK w3 mb []->(∀b∈F1,wd.heap.size<=b)->(∀b∈F2,wd.heap.size<=b)->wd.heap.size<=mb->mb∉F1->mb∉F2->(∀b∈F1,b∉F2)->
   qh pb (pW fb) (pW defb) mb ((j9.2.drop 3).map (Value.int .u32)) K w3:=λf p1 p2 p3 n1 n2 n3 s1 s2 s3=>
  tail (ho'.q8 f) p1 p2 p3 (λb hb=>zL hsd (n1 b hb)) (λb hb=>zL hsd (n2 b hb)) (zL hsd n3) hpb s1 s2 s3 hk
 refine⟨?_,?_,?_⟩;refine gV ?_;simp only[Addr.j1];refine hld<|BS λfb F1 w2 p1 f2 n1=>ja (hcA ((ho'.q8 f2).at (i:=0) rfl))<|BS λdefb F2 w3 p2 f3 n2=>ja (hcA ((ho'.q8 (f2.trans f3)).at (i:=0) rfl))<|oB (ho'.q8 (f2.trans f3)) λmb w4 e4 f4 ho4=>ja (hcA (ho4.at (i:=1) rfl))<|fin ((f2.trans f3).trans f4) (p1.j0 (f3.trans f4) oM) (p2.j0 f4 oM) (.empty (ho4.at (i:=0) rfl)) n1 (λb hb=>zL f2.size (n2 b hb)) (by rw[e4];exact (f2.trans f3).size) (λhm=>?_) (λhm=>?_) (λb hb hb2=>?_)
 have:=(p1.j0 f3 oM).lt mb hm;omega;have:=p2.lt mb hm;omega;have:=p1.lt b hb;have:=n2 b hb2;omega;refine gV ?_;simp only[Addr.j1];refine hld<|BS λfb F1 w2 p1 f2 n1=>ja (hcA ((ho'.q8 f2).at (i:=0) rfl))<|oB (ho'.q8 f2) λmb w3 e3 f3 ho3=>ja (hcA (ho3.at (i:=1) rfl))<|BS λdefb F2 w4 p2 f4 n2=>?_;have ho4:=ho3.q8 f4;refine ja (hcA (ho4.at (i:=1) rfl)) ?_;have hmb:=fl (ho3.at (i:=0) rfl);refine fin ((f2.trans f3).trans f4) (p1.j0 (f3.trans f4) oM) p2 (.empty (ho4.at (i:=0) rfl)) n1 (λb hb=>zL (f2.trans f3).size (n2 b hb)) (by rw[e3];exact f2.size) (λhm=>?_) (λhm=>?_) (λb hb hb2=>?_)
 have:=p1.lt mb hm;omega;have:=n2 mb hm;omega;have:=(p1.j0 f3 oM).lt b hb;have:=n2 b hb2;omega;refine gV ?_;simp only[Addr.j1];refine hld<|oB ho' λmb w2 e2 f2 ho2=>ja (hcA (ho2.at (i:=1) rfl)) ?_;have hmb:=fl (ho2.at (i:=0) rfl);refine BS λfb F1 w3 p1 f3 n1=>?_;have ho3:=ho2.q8 f3;refine ja (hcA (ho3.at (i:=1) rfl))<|BS λdefb F2 w4 p2 f4 n2=>?_;have ho4:=ho3.q8 f4;refine ja (hcA (ho4.at (i:=1) rfl))<|fin ((f2.trans f3).trans f4) (p1.j0 f4 oM) p2 (.empty (ho4.at (i:=0) rfl)) (λb hb=>zL f2.size (n1 b hb)) (λb hb=>zL (f2.trans f3).size (n2 b hb)) (by rw[e2];exact zM _) (λhm=>?_) (λhm=>?_) (λb hb hb2=>?_)
 have:=n1 mb hm;omega;have:=n2 mb hm;have:=f3.size;omega;have:=p1.lt b hb;have:=n2 b hb2;omega
def view (D:dV) (n:Int):KE:=match jV n D.Q6 with|some b=>b.1|none=>(D.Q5.getD n.toNat .zero).1
def dV.size (D:dV):Int:=D.Q5.length
def Hc(h:D.down=false)(u:0<=n/\n<D.size):eW D n=(view D n,0):=by have C:n<(D.Q5.length:Int):=u.2;rw[eW,iN (by rw[h];decide),iN,view];cases jV n D.Q6<;>rfl
def qlk(n:Int):∀(l:List (Int×nu)) (x:Int×nu),jV n (l++[x])=if x.1=n then some x.2 else jV n l
 | [],x=>rfl
 | y::l,x=>by simp only[xL,jV];rw[qlk n l x];by_cases h:x.1=n;simp[h];simp[h]
def qs5(n:Nat):∀(l:List (Int×nu)) (s:List nu),(∀x∈l,0<=x.1/\x.1<s.length)->(l.foldl ij s).getD n .zero=match jV n l with|some b=>b|none=>s.getD n .zero
 | [],s,_=>rfl
 | x::l,s,h=>by
  have C:=h x oM;rw[foldl_cons,qs5 n l (ij s x) (λy u=>by rw[ij,xI];exact h y (zN _ u)),jV];cases jV (n:Int) l with
  | some b=>rfl
  | none=>
   dsimp only;by_cases he:x.1=n;rw[iP he,ij,yS];have:x.1.toNat=n:=oK;rw[this,List.getElem?_set_self oK];rfl;rw[iN he,ij,yS,List.getElem?_set_ne oK,yS]
structure fK (D:dV):Prop where
 down:D.down=false
 y8:D.y8=-1
 at_:∀ x∈D.Q6,0<=x.1/\x.1<D.Q5.length
def fK.act(h:fK D):jT D=(D,false):=by rw[jT,iN (by rw[h.y8];decide),iN (by rw[h.y8];decide)]
def fK.write(h:fK D)(E:0<=n/\n<D.size)(C:l.length=512): ∃D',fL D n l=(D',0)/\fK D'/\D'.size=D.size/\∀m,view D' m=if m=n then l else view D m:=by have I:n<(D.Q5.length:Int):=E.2;have G:fK (qT D n ⟨l,C⟩):=⟨h.down,h.y8,λx u=>by rcases zD.1 u with u|u;exact h.at_ x u;simp at u;subst u;exact⟨E.1,I⟩⟩;refine⟨qT D n ⟨l,C⟩,?_,G,rfl,λm=>?_⟩;rw[fL,iN (by rw[h.down];decide),iN,dif_pos C,G.act];rfl;rw[view,qT];dsimp only;rw[qlk];by_cases hm:m=n;rw[iP hm,iP hm.symm];rw[iN hm,iN λe=>hm e.symm,view]
def fK.sync(h:fK D):∃D',iL D=(D',0)/\fK D'/\D'.size=D.size/\D'.Q6=[]/\∀m,0<=m->view D' m=view D m:=by refine⟨{ D with Q5:=D.Q6.foldl ij D.Q5,Q6:=[] },?_,⟨h.down,h.y8,λx u=>by cases u⟩,?_,rfl,λm C=>?_⟩;rw[iL,iN (by rw[h.down];decide),h.act];rfl;show ((D.Q6.foldl ij D.Q5).length:Int)=_;rw[Dz];rfl;obtain⟨k,rfl⟩:∃k:Nat,m=k:=⟨m.toNat,oK⟩;show ((D.Q6.foldl ij D.Q5).getD (k:Int).toNat .zero).1=_;rw[zJ,qs5 k _ _ h.at_,view,zJ];cases jV (k:Int) D.Q6<;>rfl
def fK.writes:∀ {l:List (KW)} {D:dV},fK D->(∀x∈l,(0<=x.1/\x.1<D.size)/\x.2.length=512)->(l.map (·.1)).Nodup-> ∃D',kR l D=(D',0)/\fK D'/\D'.size=D.size/\(∀x∈l,view D' x.1=x.2)/\∀m,m∉l.map (·.1)->view D' m=view D m
 | [],D,h,_,_=>⟨D,rfl,h,rfl,(λx u=>by cases u),λm _=>rfl⟩
 | y::l,D,h,I,C=>by obtain⟨Q,E⟩:=I y oM;obtain⟨D1,e1,R,J,O⟩:=h.write Q E;rw[xQ,JY] at C;obtain⟨U,V,q2,s2,v2,u2⟩:=fK.writes (l:=l) R (λx u=>by rw[J];exact I x (zN _ u)) C.2;refine⟨U,?_,q2,s2.trans J,λx u=>?_,λm G=>?_⟩;rw[kR,e1];exact V;rcases zG.1 u with rfl|u;rw[u2 _ C.1,O,iP rfl];exact v2 x u;rw[xQ,zG,not_or] at G;rw[u2 m G.2,O,iN G.1]
def chunk (numbers:KE) (i:Nat):KE:=(numbers.drop (123*i)).take 123
def th (D:dV) (numbers y7:KE):Prop:=∀(i:Nat) p,y7[i]?=some p->view D p=fS p 2 (kr (y7.getD (i+1) 0) (chunk numbers i))
def qow(numbers y7:KE)(k i:Nat):(iR numbers y7 k)[i]?=if i<k then some (kr (y7.getD (i+1) 0) (chunk numbers i)) else none:=by rw[iR,zQ];by_cases h:i<k;rw[iP h,List.getElem?_range h];rfl;rw[iN h,yT (oQ h)];rfl
def qmT(numbers y7:KE)(k:Nat):(iR numbers y7 k).length=k:=by simp[iR]
def G3(numbers:KE)(i:Nat):(chunk numbers i).length<=123:=by rw[chunk,yM];omega
structure py (n:Int) (numbers y7:KE):Prop where
 cY:numbers.Pairwise (· < ·)
 pS:∀ x∈numbers,2<=x/\x<n
 vv:∀ x∈y7,2<=x/\x<n
 nodup:y7.Nodup
 J2:∀ x∈y7,x∉numbers
 room:numbers.length<=123*y7.length
def I8:∀(l:KE) (a:Int),jI a l=true↔(∀x∈l,a<x)/\l.Pairwise (· < ·)
 | [],a=>by simp[jI]
 | x::l,a=>by rw[jI,yB,yO,I8 l x,yK];constructor;rintro⟨h,u,C⟩;refine⟨λy E=>?_,u,C⟩;rcases zG.1 E with rfl|E;exact h;exact Int.lt_trans h (u y E);rintro⟨h,u,C⟩;exact⟨h x oM,u,C⟩
def py.cA(h:py n numbers y7):iu numbers y7=(iR numbers y7 y7.length,0):=by
 have u:jI 1 numbers=true:=(I8 _ _).2 ⟨λx C=>by have:=h.pS x C;omega,h.cY⟩;rw[iu,iN (by rw[u];have:=h.room;simp;omega),if_neg];rintro⟨p,E,G⟩;have:=h.vv p E;omega
def qnf{α β:Type}{x:α×β}:∀ {l:List α} {r:List β},x∈l.zip r->∃i:Nat,l[i]?=some x.1/\r[i]?=some x.2
 | [],_,h=>by simp at h
 | _::_,[],h=>by simp at h
 | a::l,b::r,h=>by rw[zip_cons_cons,zG] at h;rcases h with rfl|h;exact⟨0,rfl,rfl⟩;obtain⟨i,u,C⟩:=qnf h;exact⟨i+1,by simpa using u,by simpa using C⟩
def qvC{α β:Type}:∀ {l:List α} {r:List β},l.length=r.length->(l.zip r).map (·.1)=l
 | [],[],_=>rfl
 | a::l,b::r,h=>by rw[zip_cons_cons,xQ,qvC (oQ h)]
def fK.spread(h:fK D)(G:py D.size numbers y7): ∃D',i8 D numbers y7=(D',0)/\fK D'/\D'.size=D.size/\D'.Q6=[]/\th D' numbers y7/\∀m,0<=m->m∉y7->view D' m=view D m:=by
 have O:((y7.zip (iR numbers y7 y7.length)).map λx=>(x.1,fS x.1 2 x.2)).map (·.1)=y7:=(by rw[map_map];exact qvC (by rw[qmT]));obtain⟨D1,e1,U,V,v1,Q⟩:=h.writes (l:=(y7.zip (iR numbers y7 y7.length)).map λx=>(x.1,fS x.1 2 x.2)) (λx hx=>by
  obtain⟨y,hy,rfl⟩:=mem_map.1 hx;obtain⟨i,h1,u⟩:=qnf hy;rw[qow] at u;have C:=G.vv _ (yG h1);refine⟨⟨by show 0<=y.1;omega,C.2⟩,C3 ?_⟩;by_cases I:i<y7.length;rw[iP I] at u;have u:=yP u;rw[<- u,Ge];have:=G3 numbers i;omega;rw[iN I] at u;cases u) (by rw[O];exact G.nodup)
 rw[O] at Q;obtain⟨D2,e2,q2,s2,w2,R⟩:=U.sync;refine⟨D2,?_,q2,s2.trans V,w2,λi p C=>?_,λm hm J=>by rw[R m hm,Q m J]⟩;rw[i8,G.cA,iN oM];show andThen _ _=_;rw[e1];exact e2;have I:=(zP.1 C).1;have E:(p,fS p 2 (kr (y7.getD (i+1) 0) (chunk numbers i)))∈(y7.zip (iR numbers y7 y7.length)).map λx=>(x.1,fS x.1 2 x.2):=by refine mem_map.2 ⟨(p,kr (y7.getD (i+1) 0) (chunk numbers i)),?_,rfl⟩;refine yG (i:=i) ?_;rw[List.getElem?_zip_eq_some];exact⟨C,by rw[qow,iP I]⟩
 have aj:=G.vv _ (yG C);rw[R p oK];exact v1 _ E
def qm5(numbers:KE):∀k,(List.range k).flatMap (chunk numbers)=numbers.take (123*k)
 | 0=>by simp
 | k+1=>by rw[range_succ,yR,qm5 numbers k,flatMap_singleton,chunk,Nat.mul_succ,<- xG (123*k) (numbers.take (123*k+123))];congr 1;rw[take_take,xT oK];rw[drop_take,vF]
def qvB{D:dV}{numbers y7:KE}{n:Int}(hd:D.down=false)(hs:D.size=n)(hn:n<=4096)(I:py n numbers y7)(hl:th D numbers y7): ∀(k i f:Nat),i+k=y7.length->k<f->nS D n f (y7.getD i 0) (y7.take i) ((List.range i).flatMap (chunk numbers))=some (y7,numbers)
 | 0,i,f+1,hi,hf=>by have:y7.getD i 0=0:=(by rw[yS,yT oK];rfl);have hr:=I.room;have U:i=y7.length:=oK;subst U;rw[this,nS,iP rfl,qm5,vB,zS hr]
 | k+1,i,f+1,hi,hf=>by
  have u:i<y7.length:=oK;have hp:y7.getD i 0=y7[i]:=(by rw[yS,zA u];rfl);have hr:=I.vv _ (zX u);have O:y7[i]∉y7.take i:=λhm=>by
   obtain⟨j,hj,he⟩:=getElem_of_mem hm;rw[getElem_take] at he;rw[yM] at hj;have:=pairwise_iff_getElem.1 I.nodup j i oK u oK;exact this he
  have hv:=hl i _ (zA u);have C:=Hc hd (n:=y7[i]) (by rw[hs];omega);rw[hv] at C;have V:=G3 numbers i;have J:=qno (number:=y7[i]) (kind:=2) (body:=kr (y7.getD (i+1) 0) (chunk numbers i)) oK (by rw[Ge];omega);have Q:∀x∈chunk numbers i,x∈numbers:=λx R=>yV (yW R);have E:iZ (y7.getD (i+1) 0)/\y7.getD (i+1) 0≠1:=by
   rw[yS];cases h:y7[i+1]? with
   | none=>exact⟨⟨oN,oN⟩,oN⟩
   | some p=>
    have:=I.vv p (yG h);constructor;constructor<;>(simp;omega);simp;omega
  have G:=qtl E.1 E.2 (c:=chunk numbers i) (λx R=>by have:=I.pS x (Q x R);constructor<;>omega)
   ((I8 _ _).2 ⟨λx R=>by have:=I.pS x (Q x R);omega,I.cY.sublist ((take_sublist _ _).trans (drop_sublist _ _))⟩) V
  rw[hp,nS,iN,iN (by intro h;rcases h with h|h|h;omega;omega;exact O h),C,J,iN oM,iN oM,G,iN oM];have:=qvB hd hs hn I hl k (i+1) f oK oK;rw[yH u,range_succ,yR,flatMap_singleton] at this;exact this
def I6(n:Int)(h:KE):∀(l:KE) (a:Int),lR n h a l=true↔(∀x∈l,a<x/\x<n/\x∉h)/\l.Pairwise (· < ·)
 | [],a=>by simp[lR]
 | x::l,a=>by
  rw[lR,yB,I6 n h l x,yK];simp only[zT,Km,Kn,Int.not_le,Int.not_lt,ge_iff_le];constructor;rintro⟨⟨⟨C,E⟩,G⟩,I,J⟩;refine⟨λy u=>?_,λy u=>(I y u).1,J⟩;rcases zG.1 u with rfl|u;exact⟨C,E,G⟩;have:=I y u;exact⟨oK,this.2⟩;rintro⟨C,E,G⟩;have:=C x oM;exact⟨⟨⟨this.1,this.2.1⟩,this.2.2⟩,λy u=>⟨E y u,(C y (zN _ u)).2⟩,G⟩
def II:∀(n:Nat) (l:KD),l.Nodup->(∀x∈l,x<n)->l.length<=n
 | 0,l,_,h=>by cases l with
  | nil=>simp
  | cons a l=>exact absurd (h a oM) oK
 | n+1,l,C,h=>by
  by_cases hm:n∈l;have G:=II n (l.erase n) (C.erase n) (λx u=>by
   have E:=(C.mem_erase_iff).1 u;have:=h x E.2;have:=E.1;omega)
  have:=length_erase_of_mem hm;have:=length_pos_of_mem hm;omega;have:=II n l C (λx u=>by
   have:=h x u;have:x≠n:=λe=>hm (e▸u);omega)
  omega
def EO(E:l.Nodup)(h:∀x∈l,2<=x/\x<n):(l.length:Int)<=n-2\/l=[]:=by
 by_cases h0:l=[];exact .inr h0;left;obtain⟨a,G⟩:=exists_mem_of_ne_nil l h0;have J:=h a G;have:=II (n-2).toNat (l.map λx=>(x-2).toNat) (by
  refine pairwise_map.2 (E.imp_of_mem λ{x y} u C I=>?_);have:=h x u;have:=h y C;omega) (λx u=>by
  obtain⟨y,C,rfl⟩:=mem_map.1 u;have:=h y C;omega)
 rw[zK] at this;omega
structure rz (D:dV) (s:rf) (y7 numbers:KE):Prop where
 down:D.down=false
 size:8<=D.size/\D.size<=4096
 ws:i6 (view D 0) (view D 1)=(s,0)
 blocks:s.2.getD 0 0=D.size
 list:s.2.getD 1 0=y7.headD 0
 Q0:s.2.getD 2 0=numbers.length
 ok:py D.size numbers y7
 listed:th D numbers y7
def rz.load(h:rz D s y7 numbers):qJ D s=some (y7,numbers):=by
 have E:nS D D.size (D.size.toNat+1) (y7.headD 0) [] []=some (y7,numbers):=by
  have:=qvB h.down rfl h.size.2 h.ok h.listed y7.length 0 (D.size.toNat+1) oK (by
   have:=EO h.ok.nodup h.ok.vv;have I:=h.size;rcases this with C|C;omega;rw[C];simp)
  have e:y7.headD 0=y7.getD 0 0:=(by cases y7<;>rfl);rw[e];exact this
 rw[qJ,h.blocks,h.list,E];dsimp only;rw[if_pos];exact⟨(I6 _ _ _ _).2 ⟨λx u=>⟨by have:=h.ok.pS x u;omega,(h.ok.pS x u).2,λG=>h.ok.J2 x G u⟩,h.ok.cY⟩,h.Q0.symm⟩
def rz.open(h:rz D s y7 numbers):oW D=(some (lE s y7 numbers 1 false numbers),0):=by have u:=Hc h.down (n:=0) ⟨oN,by have:=h.size;omega⟩;have r1:=Hc h.down (n:=1) ⟨oN,by have:=h.size;omega⟩;have C:s.2.getD 0 0=(D.Q5.length:Int):=h.blocks;rw[oW,u,r1,h.ws,iN oM,iN oM,iN oM,iN (by rw[C];simp),h.load]
def wF{α:Type}{enc:α->List Kw}{P:Ky}{s:Sl}{l:List α}{tx e':Kx}(h:eE enc k S w s l)(C:∀x,(enc x).length=k)(E:∀x,∀u∈enc x,u.oneCell'=true)(I:P.underlying tx=some (.slice e')): Src P k tx s.v s.len (l.flatMap enc) w:=by
 obtain⟨a,len,cap⟩:=s;have G:=h.1;simp only at G;cases a with
 | none=>
  have:l=[]:=by rcases h.2.2 with h|⟨b,o,R,T,U,J,_⟩;exact h;cases J
  subst this;simp at G;subst G;exact .ofNil w I cap
 | some a=>
  refine .ofSlice w I a len cap _ (by rw[rR C,G]) (h.cells C rfl) λu O=>?_;obtain⟨x,_,Q⟩:=yL.1 O;exact E x u Q
def qBE{s src:Sl}{ys:KE}{B:KD}{K:Sl->WP}(h:tc w s l B)(J:Rd S w src ys)(hl:l.length+ys.length<=1000000)(Q:∀E B' w',tc w' E (l++ys) B'->Fr B w w'->(∀b∈B',b∈B\/w.heap.size<=b)->K E w'): Pt.run dp ((Builtin.append_ #[174,174] 174 #[s.v,src.v]).run prog w) K:=by obtain⟨i,R,U,G,I⟩:=BF;have C:=J.1;refine fB.j2 (e:=44) h u9 oL R U G rfl (wF (e':=44) J u9 (λx u O=>by simp at O;subst O;rfl) oL) C (by rw[I];omega) oK λE B' w' b' V n' _=>Q E B' w' b' V n'
def zt(h:D.Ok)(n:Int):fq (eW D n).1/\(eW D n).1.length<=512:=by
 have I:fq (zs 512):=fq.zs 512;unfold eW;split;exact⟨(λx C=>by cases C),oM⟩;split;exact⟨(λx C=>by cases C),oM⟩;split;rename_i b J;refine⟨?_,Nat.le_of_eq b.2⟩;have:∀l:List (Int×nu),(∀x∈l,fq x.2.1)->jV n l=some b->fq b.1:=by
  intro l;induction l with
  | nil=>intro _ h;cases h
  | cons x l ih=>
   intro G u;rw[jV] at u;cases E:jV n l with
   | some c=>rw[E] at u;exact ih (λy O=>G y (zN _ O)) (by rw[E];exact u)
   | none=>
    rw[E] at u;dsimp only at u;split at u;cases u;exact G x oM;cases u
 exact this _ h.qo J;refine⟨?_,Nat.le_of_eq (D.Q5.getD n.toNat .zero).2⟩;rw[yS];cases Q:D.Q5[n.toNat]? with
 | none=>exact I
 | some b=>exact h.qv b (yG Q)
def qrh(h:fq l)(n:Int):fq (fP n l).2.1/\(fP n l).2.1.length<=l.length:=by
 have u:fq ([]:KE):=λx C=>by cases C
 unfold fP;split;exact⟨u,oM⟩;split;exact⟨u,oM⟩;split;exact⟨u,oM⟩;split;exact⟨u,oM⟩;split;exact⟨u,oM⟩;refine⟨(h.take _).drop _,?_⟩;rw[yC,yM];omega
abbrev MIT:Kx:=307
def qB1:prog.underlying MIT=some (.map 44 3):=by kernel_rfl
def qCJ:∀w,(zeroValue 3).run prog w=.ok (.i 0) w:=λw=>by kernel_rfl
def mM (l:KE):List (Int×Kw):=l.map λn=>(n,.i 1)
def IJ(n:Int):∀l:KE,(n∈l->∃i,look n (mM l)=some (i,.i 1))/\(n∉l->look n (mM l)=none)
 | []=>⟨(λh=>by cases h),λ_=>rfl⟩
 | a::l=>by
  obtain⟨G,I⟩:=IJ n l;simp only[mM,xQ,look];by_cases h:n=a;rw[iP h];exact⟨λ_=>⟨0,rfl⟩,λJ=>absurd (by rw[h];simp) J⟩;rw[iN h];refine⟨λu=>?_,λu=>?_⟩;rcases zG.1 u with e|u;exact absurd e h;obtain⟨i,E⟩:=G u;unfold mM at E;exact⟨i+1,by rw[E];rfl⟩;have:=I (λC=>u (zN _ C));unfold mM at this;rw[this];rfl
def qsY{r:Nat}{C:KE}{K:Int->Prop}(h:kG lK w r (mM C))(k:∀x:Int,decide (x>0)=decide (n∈C)->K x): fM [i3.one .i] (λw'=>(Instr.lookup MIT (.map (some r)) (.u n) false).run prog w') w K:=by
 have:=Jg (P:=prog) qB1 qCJ zq h.at n;rw[CL] at this;obtain⟨E,G⟩:=IJ n C;by_cases hn:n∈C;obtain⟨i,I⟩:=E hn;rw[I] at this;exact tP (ts:=[i3.one .i]) (1:Int) this (k 1 (by simp[hn]));rw[G hn] at this;exact tP (ts:=[i3.one .i]) (0:Int) this (k 0 (by simp[hn]))
def qys{u:Sl}{x5:Int}(C:j9.2.length=27):ef (gM db j9 sl sn x5 Q2 wk) 29 [u.v]=gM db j9 u sn x5 Q2 wk:=by
 have h:=uV (db:=db) C;have:=vr (A:=(Value.pointer db::gh j9.1 j9.2)) (X:=[sl.v]) (Y:=[u.v]) (Z:=sn.v::.i x5::.bool Q2::wk) rfl;rw[h] at this;simpa[gM] using this
def qyt{u:Sl}{x5:Int}(C:j9.2.length=27):ef (gM db j9 sl sn x5 Q2 wk) 30 [u.v]=gM db j9 sl u x5 Q2 wk:=by
 have h:((Value.pointer db::gh j9.1 j9.2)++([sl.v]:List Kw)).length=30:=by rw[zF,uV C];rfl
 have:=vr (A:=(Value.pointer db::gh j9.1 j9.2)++([sl.v]:List Kw)) (X:=[sn.v]) (Y:=[u.v]) (Z:=.i x5::.bool Q2::wk) rfl;rw[h] at this;simpa[gM] using this
def qk6:iZ (fZ l):=by unfold fZ qM;exact Fu _ _ _
def qwE(l:KE):iZ (jl l).1:=by unfold jl;split;constructor<;>decide;split;constructor<;>decide;split;exact qk6;constructor<;>decide
def qwF(l:KE):(jl l).2.1.length<=123:=by unfold jl;split;simp;split;simp;rename_i h;split;simp only[lG,zK,length_range];omega;simp
structure HI (w:Kv) (FD:KD) (pb r:Nat) (db:Option Addr) (j9:rf) (x5:Int) (Q2:Bool) (wk:List Kw) (a:Int) (Q4 Q8:KE) (w':Kv) (sl sn:Sl) (B1 B2:KD):Prop where
 own:ed [pb] w w' [(pb,.c (gM db j9 sl sn x5 Q2 wk) uW)]
 b1:tc w' sl Q4 B1
 b2:tc w' sn Q8 B2
 map:kG lK w' r (mM Q4)
 n1:∀ b∈B1,w.heap.size<=b/\b≠r/\b∉B2
 n2:∀ b∈B2,w.heap.size<=b/\b≠r
 nr:w.heap.size<=r
 at_:iZ a
 nodup:Q4.Nodup
 range:∀ x∈Q4,2<=x/\x<j9.2.getD 0 0
 len:Q8.length<=123*Q4.length
def qy1{pb:Nat}{x5:Int}{K:Bool->WP}(hc:w.heap[pb]?=some (.c (gM (pW dbk) j9 dR dR x5 Q2 wk) uW))(O:j9.2.length=27)(hw:wk.length=27)(hd:fN w dbk FD D)(hD:D.Ok)(hv:Hv w)(a9:pb∉FD)(a':pb≠HG)(bR:j9.2.getD 0 0<=4096)(ba:iZ (j9.2.getD 1 0))(bS:iZ (j9.2.getD 2 0))(R:qJ D j9=none->∀w',Fr [pb] w w'->K false w')(hk:∀sl sn u Q8 w',qJ D j9=some (u,Q8)->ed [pb] w w' [(pb,.c (gM (pW dbk) j9 sl sn x5 Q2 wk) uW)]->(∀G:KD,(∀b∈G,b<w.heap.size)->Rd G w' sl u/\Rd G w' sn Q8)->K true w'): cW 145 [dQ pb] dr w K:=by
 have bH:=fl hc;have ho:ed [pb] w w [(pb,.c (gM (pW dbk) j9 dR dR x5 Q2 wk) uW)]:=⟨by simpa using hc,oM,.refl _ _,oM⟩;refine qkA<|oB ho λr w1 e1 f1 aa=>?_;have am:kG lK w1 r (mM []):=.empty (aa.at (i:=0) rfl);have aa:=aa.sub (L':=[(pb,_)]) (List.Sublist.cons _ (List.Sublist.refl _));refine gV (oA aa 0 rfl (j9.2.getD 1 0) (Fc O 1 oN) ?_);have aD:∀ {w':Kv},Fr [pb] w w'->fN w' dbk FD D:=λf=>hd.j0 f λb E=>by simp only[zE];rintro rfl;exact a9 E
 have half:∀ {w':Kv},Fr [pb] w w'->Hv w':=λf=>hv.j0 f (by simpa using λe=>a' e.symm);generalize bb:(j9.2.getD 0 0).toNat+1=F0;have I:qJ D j9=match nS D (j9.2.getD 0 0) F0 (j9.2.getD 1 0) [] [] with|none=>none|some x=>if lR (j9.2.getD 0 0) x.1 0 x.2=true/\(x.2.length:Int)=j9.2.getD 2 0 then some x else none:=by rw[<- bb];rfl
 refine kz (λa w'=>∃u Q8 sl sn B1 B2 f,HI w FD pb r (pW dbk) j9 x5 Q2 wk a u Q8 w' sl sn B1 B2/\f+u.length=F0/\nS D (j9.2.getD 0 0) f a u Q8=nS D (j9.2.getD 0 0) F0 (j9.2.getD 1 0) [] [])
  (λa w'=>match w'.heap[r]? with|some (.map es _)=>F0-es.size|_=>0) ⟨[],[],dR,dR,[],[],F0,⟨aa,.nil _ _ _,.nil _ _ _,am,oM,oM,by rw[e1];exact zM _,ba,.nil,oM,oM⟩,rfl,rfl⟩ ?_
 rintro a w2 ⟨u,Q8,sl,sn,B1,B2,f,H,hf,C⟩ X hX;have bI:u.length<F0:=by rcases EO H.nodup H.range with h|h;omega;rw[h];simp;omega
 obtain⟨f,rfl⟩:∃g,f=g+1:=⟨f-1,oK⟩;have aE:=H.own.fr;apply eV<;>intro an;have ao:a≠0:=(oQ an);rw[nS,iN ao] at C;refine jf (λb w'=>b=decide (a<2\/a>=j9.2.getD 0 0\/a∈u)/\w'=w2) ?_ ?_;refine eV (λh=>⟨by rw[yA (Or.inl (zC h))],rfl⟩) λh=>?_;have h1:=zB h;refine gV (oA H.own 0 rfl (j9.2.getD 0 0) (Fc O 0 oN) ?_);refine eV (λh=>⟨by rw[yA (Or.inr (Or.inl (zC h)))],rfl⟩) λh=>?_;have U:=zB h;refine qsY H.map λx hx=>⟨?_,rfl⟩;rw[hx];refine decide_eq_decide.2 ⟨λh=>.inr (.inr h),λh=>?_⟩;rcases h with h|h|h;exact absurd h h1;exact absurd h U;exact h;rintro b w3 ⟨rfl,rfl⟩;apply eV<;>intro h;have h:=zC h;rw[iP h] at C;exact R (by rw[I,<- C]) w3 aE;have ag:=zB h;rw[iN ag] at C;have bf:2<=a:=oK;have bg:a<j9.2.getD 0 0:=oK;have aF:a∉u:=λh=>ag (.inr (.inr h));obtain⟨o,hr,hm⟩:=H9 (v:=.i 1) qB1 H.map a;refine Gz _ hr ?_;have ap:iV a (.i 1) (mM u)=mM (u++[a]):=by rw[iV,(IJ a u).2 aF];simp[mM]
 rw[ap] at hm;have aG:=H.map.lt;have fm:Fr [r] w3 (jy w3 r o):=Bg aG o;have aH:r≠pb:=(by have:=H.nr;omega);have ac:=H.own.j0 fm (λb E=>by simp only[zE] at E;subst E;exact .inr H.nr) (λp hp=>by simp at hp;subst hp;simpa using λe=>aH e.symm);have aq:=H.b1.j0 fm (λb E=>by simpa using (H.n1 b E).2.1);have aI:=H.b2.j0 fm (λb E=>by simpa using (H.n2 b E).2);generalize jy w3 r o=w4 at hm fm ac aq aI;refine gV (oA ac 0 rfl (pW dbk) qCw ?_);rw[gu a oK];refine FN (aD ac.fr) hD λs5 B5 w5 b5 f5 n5=>?_;have ar:=ac.q8 f5;apply eV<;>intro h;have h:(eW D a).2≠0:=(oQ h);rw[iP h] at C;exact R (by rw[I,<- C]) w5 ar.fr;have h:¬(eW D a).2≠0:=(oQ h);rw[iN h] at C;refine HE (b5.k5 mW (S:=[]) oM) (half ar.fr) (zt hD a).1 (by have:=(zt hD a).2;omega) λs6 B6 w6 b6 f6 n6=>?_;have aK:=ar.q8 f6;refine jf (λb w'=>b=decide ((fP a (eW D a).1).2.2≠0\/(fP a (eW D a).1).1≠2)/\w'=w6) ?_ ?_;apply eV<;>intro h;have h:(fP a (eW D a).1).2.2≠0:=(oQ h);exact⟨by rw[yA (Or.inl h)],rfl⟩;have h:(fP a (eW D a).1).2.2=0:=(oQ h);refine⟨?_,rfl⟩;by_cases U:(fP a (eW D a).1).1=2<;>simp[h,U];rintro b bj ⟨rfl,rfl⟩;apply eV<;>intro h;have h:=zC h;rw[iP h] at C;exact R (by rw[I,<- C]) bj aK.fr;have h:=zB h;rw[iN h] at C;have aL:=qrh (zt hD a).1 a;refine qw8 (b6.k5 mW (S:=[]) oM) aL.1 (by have:=aL.2;have:=(zt hD a).2;omega) λs7 B7 w7 b7 f7 n7=>?_;have aM:=aK.q8 f7;apply eV<;>intro h;have h:(jl (fP a (eW D a).1).2.1).2.2≠0:=(oQ h);rw[iP h] at C;exact R (by rw[I,<- C]) w7 aM.fr;have h:¬(jl (fP a (eW D a).1).2.1).2.2≠0:=(oQ h);rw[iN h] at C;have bk:=qwF (fP a (eW D a).1).2.1;have aN:=qwE (fP a (eW D a).1).2.1;generalize jl (fP a (eW D a).1).2.1=pv at C b7 bk aN;have bl:=(f5.trans f6).trans f7;have bm:=H.len;have bn:u.length<=4096:=oK;have J:=aM.drew;have ad:Fr [] w4 w7.drew:=bl.drew;have au:=aq.q8 ad;have av:=aI.q8 ad;have aO:=hm.j0 ad oM;have aP:=b7.q8 ((Fr.refl [] w7).drew);have l7:∀b∈B7,w4.heap.size<=b:=λb E=>zL (f5.trans f6).size (n7 b E);have cc:r<w4.heap.size:=hm.lt;generalize w7.drew=wd at J ad au av aO aP;refine gV (oA J 0 rfl sl (zy O 0 oN) ?_);refine gV (oA J 0 rfl sn (zy O 1 oN) ?_);refine oB J λrn w8 e8 f8 ae=>kH (ae.cell 1 rfl (zy O 1 oN)) (ae.cell 1 rfl (zy O 0 oN)) ?_;have aT:Rd [] w8 ⟨pW rn,1,1⟩ [a]:=by
  refine⟨rfl,zM _,.inr ⟨rn,0,_,_,_,rfl,ae.at (i:=0) rfl,oM,λi x hx=>?_⟩⟩;match i with
  | 0=>simp at hx;subst hx;rfl
  | i+1=>simp at hx
 refine qBE (s:=sl) (src:=⟨pW rn,1,1⟩) (au.q8 f8) aT oP λs9 B9 w9 b9 f9 n9=>?_;have cd:∀b∈B1,b<wd.heap.size:=λb E=>au.lt b E;have bu:∀b∈B2,b<wd.heap.size:=λb E=>av.lt b E;have bv:wd.heap.size<=w8.heap.size:=f8.size;have ce:w4.heap.size<=wd.heap.size:=ad.size;have cf:w.heap.size<=w4.heap.size:=ac.fr.size;have aV:=(ae.sub (L':=[(pb,_)]) (List.Sublist.cons _ (List.Sublist.refl _))).j0 f9 (λb E=>.inr (H.n1 b E).1) (λp hp E=>by simp at hp;subst hp;have:=(H.n1 _ E).1;dsimp only at this;omega);refine ja (aV.cell 0 rfl (zy O 1 oN)) ?_;have bx:=(av.q8 f8).j0 f9 λb E aw=>(H.n1 b aw).2.2 E;have bz:Rd [] w9 s7 pv.2.1:=((aP.q8 f8).j0 f9 λb E aw=>by have:=l7 b E;have:=aq.lt b aw;omega).k5 u9 oM;refine qBE bx bz oK λaW ax cg bA ay aX=>?_;have bN:wd.heap.size<=w9.heap.size:=zL bv f9.size;have aY:=aV.j0 ay (λb E=>.inr (H.n2 b E).1) (λp hp E=>by simp at hp;subst hp;have:=(H.n2 _ E).1;dsimp only at this;omega);have V:∀b∈B9,w.heap.size<=b/\b≠r/\b∉B2/\b<w9.heap.size:=λb E=>by refine⟨?_,?_,?_,b9.lt b E⟩;rcases n9 b E with h|h;exact (H.n1 b h).1;omega;rcases n9 b E with h|h;exact (H.n1 b h).2.1;omega;rcases n9 b E with h|h;exact (H.n1 b h).2.2;intro U;have:=bu b U;omega
 have ai:∀b∈ax,w.heap.size<=b/\b≠r:=λb E=>by rcases aX b E with h|h;exact H.n2 b h;constructor<;>omega
 have aZ:=b9.j0 ay λb E U=>(V b E).2.2.1 U;have bB:∀b∈B9,b∉ax:=λb E bC=>by
  rcases aX b bC with h|h;exact (V b E).2.2.1 h;have:=(V b E).2.2.2;omega
 refine gV (oH aY 0 rfl (gM (pW dbk) j9 s9 sn x5 Q2 wk) (qys O) rfl (by rw[FZ O,hw];exact zO rfl) λch a0 bD=>?_);refine gV (oH a0 0 rfl (gM (pW dbk) j9 s9 aW x5 Q2 wk) (qyt O) rfl (by rw[FZ O,hw];exact zO rfl) λci a1 bE=>?_);have Q:=bD.trans bE;have az:∀b,w.heap.size<=b->b∉[pb]:=λb E=>by simp;omega
 have aj:=(((aO.j0 f8 oM).j0 f9 λh=>(H.n1 r h).2.1 rfl).j0 ay λh=>(H.n2 r h).2 rfl).j0 Q (az r H.nr);refine hX _ _ ⟨u++[a],Q8++pv.2.1,s9,aW,B9,ax,f,⟨a1,aZ.j0 Q λb E=>az b (V b E).1,bA.j0 Q λb E=>az b (ai b E).1,aj,λb E=>⟨(V b E).1,(V b E).2.1,bB b E⟩,ai,H.nr,aN,?_,?_,?_⟩,?_,C⟩ ?_;rw[yN];exact⟨H.nodup,oM,λx hx y hy=>by simp at hy;subst hy;exact λe=>aF (e▸hx)⟩;intro x hx;rcases zD.1 hx with h|h;exact H.range x h;simp at h;subst h;exact⟨bf,bg⟩;rw[zF,zF];have:[a].length=1:=rfl;omega;rw[zF];have:[a].length=1:=rfl;omega;have key:∀ {w':Kv} {l:KE},kG lK w' r (mM l)->(match w'.heap[r]? with|some (.map es _)=>F0-es.size|_=>0)=F0-l.length:=by
  rintro w' l ⟨es,c,h1,U,_⟩;rw[h1];have:=Kr List.length U;simp[mM] at this;simp[this]
 rw[key aj,key H.map,zF];have:[a].length=1:=rfl;omega;have ao:a=0:=(oQ an);subst ao;rw[nS,iP rfl] at C;rw[<- C] at I;dsimp only at I;refine gV (oA H.own 0 rfl sn (zy O 1 oN) ?_);have rn:Rd [] w2 sn Q8:=H.b2.k5 u9 oM;have cj:=rn.1;have bm:=H.len;have bn:u.length<=4096:=oK;refine kz (λx w'=>w'=w2/\∃i:Nat,x.2=i/\i<=Q8.length/\lR (j9.2.getD 0 0) u x.1 (Q8.drop i)=lR (j9.2.getD 0 0) u 0 Q8) (λx _=>((Q8.length:Int)-x.2).toNat) ⟨rfl,0,rfl,oK,rfl⟩ ?_;rintro⟨a2,ii⟩ w' ⟨rfl,i,a3,hi,hn⟩ Z hZ;simp only at a3 hn;subst a3;apply cD<;>intro hc;have a4:i<Q8.length:=(by have:=hc;dsimp only at this;omega);refine Rd.at rn i rfl (zA a4) ?_;rw[zY a4,lR] at hn;refine jf (λb w3=>b=(decide (Q8[i]<=a2)||decide (Q8[i]>=j9.2.getD 0 0)||decide (Q8[i]∈u))/\w3=w') ?_ ?_;refine eV (λh=>⟨by rw[h];rfl,rfl⟩) λh=>gV (oA H.own 0 rfl (j9.2.getD 0 0) (Fc O 0 oN) ?_);refine eV (λU=>⟨by rw[h,U];rfl,rfl⟩) λU=>qsY H.map λx hx=>⟨?_,rfl⟩;rw[hx,h,U];rfl;rintro b w3 ⟨rfl,rfl⟩;apply eV<;>intro h;rw[h] at hn;refine R ?_ w3 aE;rw[I,if_neg];rw[<- hn];simp;rw[h] at hn;rw[gu _ oO];exact hZ _ _ ⟨rfl,i+1,oM,oK,by simpa using hn⟩ oO;have:i=Q8.length:=(by have:=hc;dsimp only at this;omega);subst this;rw[drop_length] at hn;have bF:lR (j9.2.getD 0 0) u 0 Q8=true:=hn.symm;have J:=H.own.drew;refine gV (oA J 0 rfl sn (zy O 1 oN) ?_);refine gV (oA J 0 rfl (j9.2.getD 2 0) (Fc O 2 oN) ?_);rw[gu _ oK];by_cases hfree:(Q8.length:Int)=j9.2.getD 2 0;rw[iP ⟨bF,hfree⟩] at I;have e:((sn.len:Int)==j9.2.getD 2 0)=true:=(by rw[yQ];omega);rw[e];refine hk sl sn u Q8 _ I J λG hG=>?_;have al:∀b,w.heap.size<=b->b∉G:=λb E h=>by have:=hG b h;omega
 exact⟨(H.b1.q8 ((Fr.refl [] w').drew)).k5 u9 λb E=>al b (H.n1 b E).1,(H.b2.q8 ((Fr.refl [] w').drew)).k5 u9 λb E=>al b (H.n2 b E).1⟩;have e:((sn.len:Int)==j9.2.getD 2 0)=false:=(by rw[zR];omega);rw[e];exact R (by rw[I,iN λh=>hfree h.2]) _ J.fr
def qmV{s:Sl}(h:eO S w s l):(Extern.Bytes.bytesOf (.slice s.a s.len s.cap)).run prog w=.ok ⟨(Lib.bytesOf l).toArray⟩ w:=by
 have hlen:=h.1;cases ha:s.a with
 | none=>
  have hl0:l=[]:=by rcases h.2.2 with h3|⟨b,o,cs,T,fr,ha',_⟩;exact h3;rw[ha] at ha';cases ha'
  subst hl0;rfl
 | some a=>
  have hc:=h.cells mW ha;have:=Lib.run_loadBytesX (P:=prog) w l a .empty (λj x hj=>hc j (.int .u8 x) (by rw[ug,zQ,hj];rfl));rw[hlen];show (Extern.Bytes.loadBytes a l.length .empty).run prog w=_;rw[this];have e:(#[]:Array UInt8)++(Lib.bytesOf l).toArray=(Lib.bytesOf l).toArray:=oM;exact Kr (λd=>Result.ok (ByteArray.mk d) w) e
def qg7:∀ {a b:KE},fq a->fq b->Lib.compareBytes (Lib.bytesOf a) (Lib.bytesOf b)=cmpL a b
 | [],[],_,_=>rfl
 | [],y::b,_,_=>rfl
 | x::a,[],_,_=>rfl
 | x::a,y::b,I,J=>by
  have C:=I x oM;have E:=J y oM;have ih:=qg7 (a:=a) (b:=b) (λz G=>I z (zN _ G)) λz G=>J z (zN _ G);have e:∀ {u v:Int},(0<=u/\u<256)->(0<=v/\v<256)->(u.toNat.toUInt8<v.toNat.toUInt8↔u<v):=λ{u v} O Q=>by rw[UInt8.lt_iff_toNat_lt];simp;omega
  show (if x.toNat.toUInt8<y.toNat.toUInt8 then (-1:Int) else if y.toNat.toUInt8<x.toNat.toUInt8 then 1 else Lib.compareBytes (Lib.bytesOf a) (Lib.bytesOf b))=cmpL (x::a) (y::b);rw[cmpL,ih];by_cases h1:x<y;rw[iP ((e C E).2 h1),iP h1];rw[iN λh=>h1 ((e C E).1 h),iN h1];by_cases h2:y<x;rw[iP ((e E C).2 h2),iP h2];rw[iN λh=>h2 ((e E C).1 h),iN h2]
def qt6{S':KD}{s u:Sl}(h:eO S w s l)(E:eO S' w u l')(G:fq l)(C:fq l'): (Extern.BytealgCompare.compare #[s.v,u.v]).run prog w=.ok (.i (cmpL l l')) w:=by show Sem.run prog (do pure (goInt (Extern.BytealgCompare.cmp (<- Extern.Bytes.bytesOf s.v) (<- Extern.Bytes.bytesOf u.v)))) w=_;have e:=qg7 G C;simp only[Kb,qmV h,Kc,qmV E,Lib.cmp_eq];rw[e];rfl
def EB{S':KD}{s C:Sl}(h:eO S w s l)(E:eO S' w C l')(G:fq l)(u:fq l')(I:K (cmpL l l') w): cW 131 [s.v,C.v] dq w K:=by exact qwt<|qnN<|Et (e:=Extern.BytealgCompare.compare) Tryz.func204 oL oL oL oL (cmpL l l') w (qt6 h E G u) I
def iv (s:Sl):List Kw:=[s.v]
def zu(s:Sl):(iv s).length=1:=rfl
def qxH(s:Sl):∀u∈iv s,u.oneCell'=true:=λu h=>by rw[zE.1 h];rfl
abbrev rP:=List (Sl×Key)
abbrev jt (ps:rP):List Sl:=ps.map (·.1)
abbrev ik (ps:rP):List Key:=ps.map (·.2)
def kF (S:KD) (w:Kv) (s:Sl) (ps:rP):Prop:=eE iv 1 S w s (jt ps)/\∀p∈ps,eO S w p.1 p.2
def kF.j0{S S':KD}{w w':Kv}{s:Sl}{ps:rP}(h:kF S w s ps)(f:Fr S w w')(u:∀b∈S',b∈S\/w.heap.size<=b):kF S' w' s ps:=⟨h.1.j0 f u,λp C=>(h.2 p C).j0 f u⟩
def kF.q8{S:KD}{w w':Kv}{s:Sl}{ps:rP}(h:kF S w s ps)(f:Fr [] w w'):kF S w' s ps:=⟨h.1.q8 f,λp u=>(h.2 p u).q8 f⟩
def kF.len{S:KD}{w:Kv}{s:Sl}{ps:rP}(h:kF S w s ps):s.len=ps.length:=by rw[h.1.1,zK]
def kF.nil(S:KD)(w:Kv):kF S w dR []:=⟨.nil _ _ _ _,λp h=>nomatch h⟩
def kF.get{S:KD}{w:Kv}{s:Sl}{ps:rP}(h:kF S w s ps)(n:Nat){i:Int}{K:Sl->Prop}(hi:i=n)(u:n<ps.length)(C:K ps[n].1):idx s i 1 λa=>ld .slice a w K:=
 eE.get h.1 n hi (x:=ps[n].1) (by rw[zQ,zA u];rfl) (y:=ps[n].1) rfl C
def andThen_ok:andThen (D,0) f=f D:=iP rfl
structure pc (s:rf):Prop where
 seq:0<=s.1/\s.1<4611686018427387904
 len:s.2.length=27
 u32:∀ x∈s.2,iZ x
def pc.place(h:pc s):Int.tmod s.1 2=s.1%2:=Kj h.seq.1
def pc.ju{s:rf}(h:pc s):ju s=(s.1%2,fS (s.1%2) 1 (iE s.1 s.2)):=by rw[Go.Proofs.YtfneoijhmknlnaaGreatDoor.ju,h.place,nR _ oK]
def pc.read(h:pc s):fR (s.1%2) (fS (s.1%2) 1 (iE s.1 s.2))=(s,0):=by
 have:=h.seq;exact qux (by constructor<;>omega) h.len h.u32 h.place
def pc.xj(h:pc s)(p:Int):(fS p 1 (iE s.1 s.2)).length=512:=C3 (by rw[Cp h.len];decide)
def fK.BG(h:fK D)(C:pc s)(hz:8<=D.size): ∃D',ru D s=(D',0)/\fK D'/\D'.size=D.size/\D'.Q6=[]/\view D' (s.1%2)=fS (s.1%2) 1 (iE s.1 s.2)/\∀m,0<=m->m≠s.1%2->view D' m=view D m:=by obtain⟨D1,e1,I,J,E⟩:=h.write (n:=s.1%2) (l:=fS (s.1%2) 1 (iE s.1 s.2)) oK (C.xj _);obtain⟨O,Q,R,U,w2,G⟩:=I.sync;refine⟨O,?_,R,U.trans J,w2,by rw[G _ oK,E,iP rfl],λm V u=>by rw[G m V,E,iN u]⟩;rw[ru,C.ju];show andThen (fL D (s.1%2) _) iL=_;rw[e1];exact Q
def quy{p:Int}:(fR p (zs 512)).2≠0:=by have u:(fP p (zs 512)).1=0:=(by unfold fP;split<;>(try rfl);split<;>(try rfl);split<;>(try rfl);split<;>(try rfl);split<;>rfl);unfold fR;generalize fP p (zs 512)=o at u⊢;by_cases h:o.2.2≠0;rw[iP h];exact h;have C:o.1≠1\/o.2.1.length≠116:=.inl (by rw[u];decide);rw[iN h,iP C];exact (by decide:(2:Int)≠0)
def quR{n i:Nat}(h:i<n-2):(gr n)[i]?=some ((i:Int)+2):=by rw[gr,zQ,List.getElem?_range h];rfl
def FC(n:Nat):(gr n).length=n-2:=by simp[gr]
def FQ{n:Nat}{x:Int}:x∈gr n↔2<=x/\x<n:=by rw[gr,mem_map];constructor;rintro⟨i,h,rfl⟩;rw[mem_range] at h;omega;rintro⟨u,C⟩;exact⟨(x-2).toNat,by rw[mem_range];omega,oK⟩
def G4(n:Nat):(gr n).Pairwise (· < ·):=by rw[gr,pairwise_map];exact pairwise_lt_range.imp (λh=>oK)
def qo3{n:Nat}:n<=124*gW n:=by
 unfold gW;split;omega;have:=Nat.div_add_mod (n-1) 124;have:=Nat.mod_lt (n-1) (show 0<124 by decide);omega
def Hl{n:Nat}:gW n<=n:=by
 unfold gW;split;omega;have:=Nat.div_le_self (n-1) 124;omega
def qoN{n:Nat}:py n ((gr n).drop (gW (gr n).length)) ((gr n).take (gW (gr n).length)) where
 cY:=(G4 n).sublist (drop_sublist _ _)
 pS:=λx u=>FQ.1 (yV u)
 vv:=λx u=>FQ.1 (yW u)
 nodup:=(FK (G4 n)).sublist (take_sublist _ _)
 J2:=λx u C=>by have h:=FK (G4 n);rw[<- xG (gW (gr n).length) (gr n),yN] at h;exact h.2.2 x u x C rfl
 room:=by have G:=qo3 (n:=(gr n).length);have E:=Hl (n:=(gr n).length);rw[yC,yM,xT E];omega
def Hu{n:Nat}(u:8<=n)(C:n<=4096):pc (lU n) where
 seq:=⟨(by decide:(0:Int)<=1),(by decide:(1:Int)<4611686018427387904)⟩
 len:=rfl
 u32:=λx h=>by
  simp only[lU,zD,zG,xZ,or_false] at h;rcases h with (rfl|rfl|rfl)|h;exact AM _;exact⟨oN,oN⟩;exact AM _;have:=eq_of_mem_replicate h;subst this;exact⟨oN,oN⟩
def qsQ{n:Nat}(h:fK D)(hn:D.size=n)(h8:8<=n)(h4:n<=4096): ∃D',mU D=(D',0)/\fK D'/\D'.size=n/\D'.Q6=[]/\rz D' (lU n) ((gr n).take (gW (gr n).length)) ((gr n).drop (gW (gr n).length))/\view D' 0=zs 512:=by
 have ak:D.Q5.length=n:=(by have:(D.Q5.length:Int)=n:=hn;omega);obtain⟨D1,e1,q1,s1,v1⟩:=h.write (n:=0) (l:=zs 512) oK (rU _);obtain⟨D2,e2,q2,s2,v2⟩:=q1.write (n:=1) (l:=zs 512) oK (rU _);obtain⟨J,e3,q3,s3,w3,v3⟩:=q2.sync;have C:J.size=n:=oK;have O:J.Q5.length=n:=(by have:(J.Q5.length:Int)=n:=C;omega);have u:=qoN (n:=n);rw[<- C] at u;obtain⟨Q,e4,q4,s4,w4,l4,v4⟩:=q3.spread u;have R:Q.size=n:=oK;have U:Q.Q5.length=n:=(by have:(Q.Q5.length:Int)=n:=R;omega);obtain⟨V,e5,q5,s5,w5,p5,v5⟩:=q4.BG (Hu h8 h4) oK;have E:(lU n).1%2=1:=rfl;rw[E] at p5 v5;have G:=u.vv;have z0:view V 0=zs 512:=(by rw[v5 0 oN oN,v4 0 oN (λhm=>by have:=G 0 hm;omega),v3 0 oN,v2,iN oN,v1,iP rfl]);refine⟨V,?_,q5,oK,w5,?_,z0⟩;rw[mU,e1,andThen_ok,e2,andThen_ok,e3,andThen_ok,O,e4,andThen_ok,U,e5];have aC:1<=gW (gr n).length:=by
  have:=qo3 (n:=(gr n).length);rw[FC] at this⊢;omega
 refine { down:=q5.down,size:=by omega,ws:=?_,blocks:=?_,list:=?_,Q0:=?_,ok:=by rw[show V.size=J.size by omega];exact u,listed:=λi p hp=>?_ };have hr:=(Hu h8 h4).read;rw[E] at hr;rw[z0,p5,i6,hr,iN oM,iP (.inl quy)];show wrap .u32 (n:Int)=_;rw[nR _ oK];omega;have:(gr n).take (gW (gr n).length)=2::((gr n).take (gW (gr n).length)).drop 1:=by
  have I:(gr n)[0]?=some 2:=(by rw[quR oK];rfl);obtain⟨k,hk⟩:∃k,gW (gr n).length=k+1:=⟨gW (gr n).length-1,oK⟩;rw[hk];cases hA:gr n with
  | nil=>rw[hA] at I;cases I
  | cons a r=>rw[hA] at I;simp at I;subst I;rfl
 rw[this];rfl;show wrap .u32 _=_;have:=Hl (n:=(gr n).length);rw[yC,nR _ (by rw[FC] at *;omega)];omega;have:=G p (yG hp);rw[v5 p oK oK];exact l4 i p hp
def qwC(n:Nat):fK (pA n):=⟨rfl,rfl,λx h=>by cases h⟩
def qyf(n:Nat):(pA n).size=n:=by show ((List.replicate n nu.zero).length:Int)=n;simp
def i7 (D:dV):rf×Int:=
 if (eW D 0).2≠0 then (jX,(eW D 0).2) else if (eW D 1).2≠0 then (jX,(eW D 1).2) else i6 (eW D 0).1 (eW D 1).1
def qun(D:dV):(i7 D).1.2.length=27:=by unfold i7;split;rfl;split;rfl;exact qng _ _
def qvS{K:List Kw×Int->WP}(h:fN w dbk FD D)(I:D.Ok)(R:Hv w)(O:∀w',Fr [] w w'->K (gh (i7 D).1.1 (i7 D).1.2,(i7 D).2) w'): cW 144 [dQ dbk] dJ w K:=by
 refine qpg<|oJ (oF [] w) xn λr w1 e1 C=>FN (h.q8 C.fr) I λs2 B2 w2 U V n2=>?_;have C:=C.q8 V;apply eV<;>intro u;have u:(eW D 0).2≠0:=(oQ u);refine CE<|wS C 0 rfl rfl rfl λJ E=>?_
 have:=O J E;rw[i7,iP u] at this;exact this;have G:¬(eW D 0).2≠0:=(oQ u);refine FN (h.q8 C.fr) I λs3 B3 J b3 E n3=>?_;have C:=C.q8 E;apply eV<;>intro u;have u:(eW D 1).2≠0:=(oQ u);refine CE<|wS C 0 rfl rfl rfl λJ E=>?_
 have:=O J E;rw[i7,iN G,iP u] at this;exact this;have Q:¬(eW D 1).2≠0:=(oQ u);have i0:=zt I 0;have i1:=zt I 1;refine qv0 ((U.q8 E).k5 mW (S:=[]) oM) (b3.k5 mW (S:=[]) oM) (R.q8 C.fr) i0.1 i1.1 oK oK λw4 f4=>wS (C.q8 f4) 0 rfl rfl (qng _ _) λw5 f5=>?_;have:=O w5 f5;rw[i7,iN G,iN Q] at this;exact this
def qtg(D:dV):oW D=if (i7 D).2≠0 then (none,(i7 D).2) else if (i7 D).1.2.getD 0 0≠D.Q5.length then (none,2) else match qJ D (i7 D).1 with|none=>(none,2)|some x=>(some (lE (i7 D).1 x.1 x.2 1 false x.2),0):=by unfold oW i7;by_cases h0:(eW D 0).2≠0;rw[iP h0,iP h0];exact (iP h0).symm;rw[iN h0,iN h0];by_cases h1:(eW D 1).2≠0;rw[iP h1,iP h1];exact (iP h1).symm;rw[iN h1,iN h1]<;>rfl
def pgZ:(prog.info? uW).bind (·.zero)=some (.agg (gM none jX dR dR 0 false (k7 none none none (zs 24)))):=by kernel_rfl
def qzn{d:Option Addr}{q:Int}{t:KE}(h:t.length=27)(w:Kv): (Instr.build uW #[(0,.pointer d),(1,.agg (gh q t).toArray)]).run prog w=.ok (.agg (gM d (q,t) dR dR 0 false (k7 none none none (zs 24)))) w:=by
 refine ID (parts:=[(0,.pointer d),(1,.agg (gh q t).toArray)]) (offs:=#[(0,1),(1,28),(29,1),(30,1),(31,1),(32,1),(33,27)]) pgZ oL (λw=>oL) ?_ w;have u:(Value.agg (gh q t).toArray).cells.size=28:=IX h;rw[wQ (o:=0) (s:=1) rfl rfl (zO rfl),wQ (o:=1) (s:=28) rfl u (zO rfl)];show some _=_;congr 1;have C:ef (Value.agg (gM none jX dR dR 0 false (k7 none none none (zs 24)))).cells 0 (Value.pointer d).cells.toList=gM d jX dR dR 0 false (k7 none none none (zs 24)):=rfl;rw[C];have:=vr (A:=[Value.pointer d]) (X:=gh 0 (zs 27)) (Y:=gh q t) (Z:=[.slice none 0 0,.slice none 0 0,.i 0,.bool false]++k7 none none none (zs 24)) (by rw[ue h];rfl);refine Eq.trans ?_ (this.trans ?_);show ef (gM d jX dR dR 0 false (k7 none none none (zs 24))) 1 (gh q t)=_;congr 1;simp[gM]
def qpn(place:Int)(l:KE):∀x∈(fR place l).1.2,iZ x:=by
 have h:∀x∈jX.2,iZ x:=λx u=>by
  have:=eq_of_mem_replicate (show x∈List.replicate 27 (0:Int) from u);subst this;exact⟨oN,oN⟩
 unfold fR;split;exact h;split;exact h;split;exact h;intro x u;obtain⟨i,_,rfl⟩:=mem_map.1 u;exact qk6
def qup(D:dV):∀x∈(i7 D).1.2,iZ x:=by
 have h:∀x∈jX.2,iZ x:=λx u=>by
  have:=eq_of_mem_replicate (show x∈List.replicate 27 (0:Int) from u);subst this;exact⟨oN,oN⟩
 unfold i7;split;exact h;split;exact h;unfold i6;split;exact h;split;exact qpn _ _;exact qpn _ _
def qzB(h:∀x∈l,iZ x)(n:Nat):iZ (l.getD n 0):=by
 rw[yS];cases u:l[n]? with
 | none=>exact⟨oN,oN⟩
 | some x=>exact h x (yG u)
def qxd{K:Option Addr×Int->WP}(X:KD)(aq:∀b∈X,b<w.heap.size)(h:fN w dbk FD D)(hD:D.Ok)(hv:Hv w)(aj:(oW D).1=none->∀w',Fr [] w w'->K (none,(oW D).2) w')(hk:∀pb F M w',oW D=(some M,0)->gd w' X pb (pW dbk) F M->Fr [] w w'->(∀b∈F,w.heap.size<=b)->K (pW pb,0) w'): cW 98 [dQ dbk] dN w K:=by
 refine qrZ<|qvS h hD hv λw1 f1=>?_;have O:=qun D;have hu:=qzB (qup D);have C:=qtg D;generalize hs:i7 D=sm at O hu C;obtain⟨j9,e⟩:=sm;simp only at O hu C;refine oJ ((oF [] w).q8 f1) xn λr w2 e2 ho=>Ep ho 0 rfl rfl O λw3 ho=>?_;apply eV<;>intro Q;have Q:e≠0:=(oQ Q);rw[iP Q] at C
 have:=aj (by rw[C]) w3 ho.fr;rw[C] at this;exact this;have av:¬e≠0:=(oQ Q);rw[iN av] at C;refine CC (ho.at (i:=0) rfl) O<|tP (ts:=[i3.pF]) (gM (pW dbk) (j9.1,j9.2) dR dR 0 false (k7 none none none (zs 24))).toList (qzn O w3)<|oB ho λpb R e4 f4 ah=>?_;have J:=ah.fr;have ak:=h.q8 J;have al:∀b∈FD,b<R.heap.size/\b≠pb:=λb E=>by
  have h1:=h.lt b E;have:=J.size;have:=ho.fr.size;constructor<;>omega
 have ai:∀b∈X,b<R.heap.size/\b≠pb:=λb E=>by
  have h1:=aq b E;have:=J.size;have:=ho.fr.size;constructor<;>omega
 have ax:=hD.Q5;have U:R.heap[pb]?=some (.c (gM (pW dbk) j9 dR dR 0 false (k7 none none none (zs 24))) uW):=ah.at (i:=0) rfl;have af:R.heap[r]?=some (.c (gh j9.1 j9.2).toArray 238):=ah.at (i:=1) rfl;have ab:w.heap.size<=pb:=(by have:=ho.fr.size;omega);have ay:pb≠HG:=(by have:=hv.lt;omega);refine jf (λb w'=>(b=true/\(oW D).1=none/\(oW D).2=2/\Fr [] w w')\/(b=false/\∃sl sn G Q8,oW D=(some (lE j9 G Q8 1 false Q8),0)/\ed [pb] R w' [(pb,.c (gM (pW dbk) j9 sl sn 0 false (k7 none none none (zs 24))) uW)]/\Rd (X++[pb]) w' sl G/\Rd (X++[pb]) w' sn Q8/\Q8.Pairwise (· < ·)/\Q8.length<=100000)) ?_ ?_;refine jH (w:=R.drew) (c:=.u) af (j9.2.getD 0 0) (Ek 0 oK)<|Hw (ak.q8 (Fr.refl [] R).drew)<|ja (by show _=_;rw[kD (w:=R.drew) af];exact Ek 0 oK) ?_;rw[nR (D.Q5.length:Int) oK];apply eV<;>intro Q;have Q:j9.2.getD 0 0≠(D.Q5.length:Int):=by intro h;rw[h] at Q;simp at Q
 rw[iP Q] at C;exact .inl ⟨rfl,by rw[C],by rw[C],J.drew⟩;have Q:j9.2.getD 0 0=(D.Q5.length:Int):=by by_cases h:j9.2.getD 0 0=(D.Q5.length:Int);exact h;rw[show ((j9.2.getD 0 0==(D.Q5.length:Int))=false) by rw[zR];exact h] at Q;cases Q
 rw[iN (by rw[Q];simp)] at C;have ac:Fr [] R R.drew:=(Fr.refl [] R).drew;refine qy1 (pb:=pb) (D:=D) (j9:=j9) (FD:=FD) (w:=R.drew) U O (Dh (by rfl)) (ak.q8 ac) hD ((hv.q8 J).q8 ac) (λE=>(al pb E).2 rfl) ay oK (hu 1) (hu 2) (λhl w5 f5=>?_) λsl sn G Q8 w5 hl I am=>?_;rw[hl] at C;refine .inl ⟨rfl,by rw[C],by rw[C],(J.trans ac).j8 f5 λb E=>by simp at E;subst E;exact .inr ab⟩;rw[hl] at C;have V:lR (j9.2.getD 0 0) G 0 Q8=true:=by unfold qJ at hl;split at hl;cases hl;rename_i x hx;split at hl;rename_i hh;cases hl;exact hh.1;cases hl
 have V:=(I6 _ _ _ _).1 V;have aa:Q8.length<=100000:=by
  have:=EO (n:=j9.2.getD 0 0+1) (l:=Q8.map (·+1)) (by
   rw[List.Nodup,pairwise_map];exact V.2.imp λh=>oK) (λx hx=>by
   obtain⟨y,hy,rfl⟩:=mem_map.1 hx;have:=V.1 y hy;omega)
  rcases this with h|h;rw[zK] at h;omega;have:=Kr List.length h;simp at this;simp[this]
 have ag:∀b∈X++[pb],b<R.drew.heap.size:=λb E=>by rcases zD.1 E with E|E;exact (ai b E).1;rw[zE.1 E];exact fl U
 refine .inr ⟨rfl,sl,sn,G,Q8,C,⟨I.jz,I.nodup,(ac.mono λb E=>by cases E).trans I.fr,I.own⟩,(am _ ag).1,(am _ ag).2,V.2,aa⟩;rintro b w5 (⟨rfl,h1,h2,f5⟩|⟨rfl,sl,sn,G,Q8,aA,I,r1,r2,hp,aa⟩);refine JT rfl ?_;have:=aj h1 w5 f5;rw[h2] at this;exact this;refine JU rfl ?_;have hX:∀b∈X,b<w5.heap.size/\b≠pb:=λb E=>⟨yE (ai b E).1 I.fr.size,(ai b E).2⟩;refine qxc (X:=X) (I.at (i:=0) rfl) O (Dh (by rfl)) oN hX r1 r2 aa λF w6 an f6 n6=>?_;rw[qxV hp] at an;refine hk pb F _ w6 aA an ((J.j8 I.fr λb E=>by simp at E;subst E;exact .inr ab).j8 f6 λb E=>by simp at E;subst E;exact .inr ab) λb E=>?_;rcases n6 b E with h|h;rw[h];exact ab;exact zL (zL J.size I.fr.size) h
structure nK (D:dV) (k:Nat):Prop where
 ok:D.Ok
 Q6:D.Q6.length<=k
 writes:D.writes<=k
def quQ(h:D.Ok):(jT D).1.Ok/\(jT D).1.writes=D.writes:=by have u:=h.y8;unfold jT;split;exact⟨⟨h.at_,u,h.Q5,h.Q6,h.writes,h.qv,h.qo⟩,rfl⟩;split;exact⟨⟨h.at_,⟨by show -1<=D.y8-1;omega,by show D.y8-1<=_;omega⟩,h.Q5,h.Q6,h.writes,h.qv,h.qo⟩,rfl⟩;exact⟨h,rfl⟩
def nK.mono{u:Nat}(h:nK D k)(C:k<=u):nK D u:=⟨h.ok,zL h.Q6 C,by have:=h.writes;omega⟩
def nK.write(h:nK D k)(O:k<1000000)(E:fq l):nK (fL D n l).1 (k+1):=by
 unfold fL;split;exact h.mono oK;split;exact h.mono oK;split;rename_i Q R C;have G:(qT D n ⟨l,C⟩).Ok:={
  at_:=λx u=>by rcases zD.1 u with u|u;exact h.ok.at_ x u;simp at u;subst u;show 0<=n/\n<(D.Q5.length:Int);omega
  y8:=h.ok.y8
  Q5:=h.ok.Q5
  Q6:=by show (D.Q6++[_]).length<=_;have:=h.Q6;simp;omega
  writes:=⟨by show 0<=D.writes+1;have:=h.ok.writes;omega,by show D.writes+1<=_;have:=h.writes;omega⟩
  qv:=h.ok.qv
  qo:=λx u=>by rcases zD.1 u with u|u;exact h.ok.qo x u;simp at u;subst u;exact E }
 obtain⟨I,J⟩:=quQ G;refine⟨I,?_,?_⟩;show (jT (qT D n ⟨l,C⟩)).1.Q6.length<=k+1;rw[(Dl _).2];show (D.Q6++[_]).length<=_;have:=h.Q6;simp;omega;show (jT (qT D n ⟨l,C⟩)).1.writes<=((k+1:Nat):Int);rw[J];show D.writes+1<=_;have:=h.writes;omega;exact h.mono oK
def qvk:∀(l:List (Int×nu)) (s:List nu),(∀x∈l,fq x.2.1)->(∀b∈s,fq b.1)->∀b∈l.foldl ij s,fq b.1
 | [],s,_,h=>h
 | x::l,s,C,h=>qvk l (ij s x) (λy E=>C y (zN _ E)) λb u=>by rcases mem_or_eq_of_mem_set u with u|rfl;exact h b u;exact C x oM
def nK.sync(h:nK D k):nK (iL D).1 k:=by obtain⟨u,E⟩:=quQ h.ok;unfold iL;split;exact h;split;exact⟨u,by show (jT D).1.Q6.length<=k;rw[(Dl D).2];exact h.Q6,by show (jT D).1.writes<=_;rw[E];exact h.writes⟩;refine⟨⟨(λx C=>by cases C),u.y8,?_,oM,u.writes,?_,(λx C=>by cases C)⟩,oM,by show (jT D).1.writes<=_;rw[E];exact h.writes⟩;show (D.Q6.foldl ij D.Q5).length<=4096;rw[Dz];exact h.ok.Q5;exact qvk _ _ h.ok.qo h.ok.qv
def nK.then{u:Nat}(h:nK r.1 k)(C:k<=u)(E:∀D,nK D k->nK (f D).1 u):nK (andThen r f).1 u:=by unfold andThen;split;exact E _ h;exact h.mono C
def nK.uY:∀ {l:List (KW)} {D:dV} {k:Nat},nK D k->k+l.length<=1000000->(∀x∈l,fq x.2)->nK (kR l D).1 (k+l.length)
 | [],D,k,h,_,_=>h
 | x::l,D,k,h,C,u=>by
  rw[yJ] at C⊢;refine nK.then (k:=k+1) (h.write oK (u x oM)) oK λD' E=>?_;have:=nK.uY (l:=l) E oK (λy G=>u y (zN _ G));rw[Nat.add_right_comm] at this;exact this
def HV:(fL D n l).1.Q5.length=D.Q5.length:=by unfold fL;split;rfl;split;rfl;split;show (jT _).1.Q5.length=_;rw[(Dl _).1];rfl;rfl
def qrA:(iL D).1.Q5.length=D.Q5.length:=by unfold iL;split;rfl;split;show (jT _).1.Q5.length=_;rw[(Dl _).1];show (D.Q6.foldl ij D.Q5).length=_;rw[Dz]
def qrB{n:Nat}(h:r.1.Q5.length=n)(u:∀D:dV,D.Q5.length=n->(f D).1.Q5.length=n):(andThen r f).1.Q5.length=n:=by unfold andThen;split;exact u _ h;exact h
def qnw:∀ {l:List (KW)} {D:dV},(kR l D).1.Q5.length=D.Q5.length
 | [],D=>rfl
 | x::l,D=>qrB HV λD' h=>by rw[qnw,h]
def quB{a b:KE}:(i8 D a b).1.Q5.length=D.Q5.length:=by unfold i8;split;rfl;exact qrB qnw λD' h=>by rw[qrA,h]
def quD:∀x∈(y7.zip (iu numbers y7).1).map λx=>(x.1,fS x.1 2 x.2),fq x.2:=by intro x u;obtain⟨y,h,rfl⟩:=mem_map.1 u;refine Hk oN ?_;have h:=(of_mem_zip h).2;unfold iu at h;split at h;cases h;split at h;cases h;obtain⟨i,_,C⟩:=mem_map.1 h;rw[<- C];exact qqH _ _
def qpJ{α β:Type}(a:List α)(b:List β):(a.zip b).length<=a.length:=by rw[length_zip];exact Nat.min_le_left _ _
def nK.spread(h:nK D k)(E:k+y7.length<=1000000):nK (i8 D numbers y7).1 (k+y7.length):=by
 unfold i8;split;exact h.mono oK;have u:=qpJ y7 (iu numbers y7).1;refine nK.then (k:=k+y7.length) ?_ (zM _) λD' C=>C.sync;refine (nK.uY h (by rw[zK];omega) quD).mono ?_;rw[zK];omega
def qw2(s:rf):fq (ju s).2:=Hk oN (qw1 _ _)
def qr9{numbers y7:KE}{i:Nat}{bs:List (KE)}(h:i<y7.length)(u:i<bs.length):(y7.zip bs).drop i=(y7[i],bs[i])::(y7.zip bs).drop (i+1):=by rw[zY (by rw[length_zip];omega)];simp
def qvU{sp:Sl}(h:fN w dbk FD D)(hD:nK D k)(aP:k+y7.length<=1000000)(hv:Hv w)(hg:HG∉FD)(hn:Rd FD w sn numbers)(hp:Rd FD w sp y7)(au:numbers.length<=100000)(av:y7.length<=100000)(aw:∀x∈y7,iZ x)(hk:∀F' w',fN w' dbk F' (i8 D numbers y7).1->Fr FD w w'->(∀b∈F',b∈FD\/w.heap.size<=b)->K (i8 D numbers y7).2 w'): cW 142 [dQ dbk,sn.v,sp.v] dq w K:=by
 refine qph<|qvF (G:=FD) hn hp au av h.lt λs1 B1 w1 b1 f1 n1=>?_;apply eV<;>intro C;have C:(iu numbers y7).2≠0:=by simpa using C
 have:=hk FD w1 (by rw[i8,iP C];exact h.q8 f1) (f1.mono λb u=>by cases u) (λb u=>.inl u);rw[i8,iP C] at this;exact this;have E:¬(iu numbers y7).2≠0:=(oQ C);rw[i8,iN E] at hk;have O:(iu numbers y7).1.length=y7.length/\∀b∈(iu numbers y7).1,b.length<=500/\fq b:=by
  unfold iu at E⊢;split;rename_i h1;rw[iP h1] at E;exact absurd oN E;rename_i h1;rw[iN h1] at E;split;rename_i h1;rw[iP h1] at E;exact absurd oN E;refine⟨qmT _ _ _,λb u=>?_⟩;obtain⟨i,_,rfl⟩:=mem_map.1 u;rw[Ge];have:=G3 numbers i;unfold chunk at this;exact⟨oK,qqH _ _⟩
 generalize (iu numbers y7).1=bs at hk O b1;obtain⟨J,q1,q2,q3⟩:=b1;have aW:=q1.len;have aL:=O.1;have aX:=hp.1;refine kz (λx w'=>∃(i j:Nat) (F':KD) (D':dV),x=i/\i<=y7.length/\fN w' dbk F' D'/\nK D' (k+i)/\Fr FD w w'/\Fr FD w1 w'/\(∀b∈F',b∈FD\/w1.heap.size<=b)/\
   andThen (kR ((y7.zip bs).map λx=>(x.1,fS x.1 2 x.2)) D) iL=andThen (kR (((y7.zip bs).drop i).map λx=>(x.1,fS x.1 2 x.2)) D') iL) (λx _=>((y7.length:Int)-x).toNat)
  ⟨0,0,FD,D,rfl,oK,h.q8 f1,hD,f1.mono (λb u=>by cases u),.refl _ _,λb u=>.inl u,rfl⟩ ?_
 rintro x w2 ⟨i,j,F',D',rfl,hi,ag,ab,f2,Q,n2,he⟩ X hX;have ax:=hv.j0 f2 hg;have aZ:=f1.size;apply eV<;>intro C;have R:i<y7.length:=(by have:=zC C;dsimp only at this;omega);have U:i<bs.length:=oK;have ai:i<J.length:=oK;have ay:eE v6 1 FD w1 s1 J:=q1.k5 qsF (λb u hm=>by have:=h.lt b hm;have:=n1 b u;omega);have aj:eE v6 1 FD w2 s1 J:=ay.j0 Q λb u=>.inl u;have ak:Rd FD w2 sp y7:=hp.j0 f2 λb u=>.inl u;refine eE.get (y:=J[i]) aj i rfl (zA ai) rfl<|Rd.at ak i rfl (zA R) ?_;have al:eO FD w1 J[i] bs[i]:=(q3 i _ _ (zA ai) (zA U)).j6 λb u=>.inl (zH _ u);have ac:eO FD w2 J[i] bs[i]:=al.j0 Q λb u=>.inl u;have az:=(O.2 _ (zX U)).1;have a1:=aw _ (zX R);refine qvv ac ax oK (λh=>oK) λ_ b3 T3 w3 c3 f3 n3=>Rd.at (ak.q8 f3) i rfl (zA R) ?_;rw[gu y7[i] oK];have V:=C3 (number:=y7[i]) (kind:=2) az;refine qqB (S:=[]) (ag.q8 f3) ab.ok (AZ (o:=0) (n:=512) c3 (by rw[V];exact zM _) (zM _) oM) λF4 w4 d4 f4 n4=>?_;rw[xH,zS (by rw[V];exact zM _)] at d4⊢;have I:∀b∈F',b∈FD\/w.heap.size<=b:=λb u=>by rcases n2 b u with h|h;exact .inl h;exact .inr oK
 have a4:w2.heap.size<=w3.heap.size:=f3.size;have a5:=Q.size;have am:Fr FD w w4:=(f2.j8 f3 oM).j8 f4 I;have aE:Fr FD w1 w4:=(Q.j8 f3 oM).j8 f4 n2;have an:∀b∈F4,b∈FD\/w1.heap.size<=b:=λb u=>by rcases n4 b u with h|h;exact n2 b h;exact .inr oK
 rw[qr9 R U (numbers:=numbers),xQ,kR] at he;apply eV<;>intro C;have C:(fL D' y7[i] (fS y7[i] 2 bs[i])).2≠0:=(oQ C);have aF:andThen (kR ((y7.zip bs).map λx=>(x.1,fS x.1 2 x.2)) D) iL=fL D' y7[i] (fS y7[i] 2 bs[i]):=by rw[he];show andThen (andThen (fL D' y7[i] (fS y7[i] 2 bs[i])) _) iL=_;rw[show ∀f,andThen (fL D' y7[i] (fS y7[i] 2 bs[i])) f=fL D' y7[i] (fS y7[i] 2 bs[i]) from λf=>iN C];exact iN C
 rw[aF] at hk;exact hk F4 w4 d4 am (λb u=>by rcases an b u with h|h;exact .inl h;exact .inr oK);have C:(fL D' y7[i] (fS y7[i] 2 bs[i])).2=0:=(oQ C);rw[gu _ oK];refine hX _ _ ⟨i+1,0,F4,(fL D' y7[i] (fS y7[i] 2 bs[i])).1,oM,oK,d4,?_,am,aE,an,?_⟩ oK;have:=ab.write (n:=y7[i]) (l:=fS y7[i] 2 bs[i]) oK (Hk oN (O.2 _ (zX U)).2);rw[Nat.add_assoc] at this;exact this;rw[he];show andThen (andThen (fL D' y7[i] (fS y7[i] 2 bs[i])) _) iL=_;rw[show ∀f,andThen (fL D' y7[i] (fS y7[i] 2 bs[i])) f=f (fL D' y7[i] (fS y7[i] 2 bs[i])).1 from λf=>iP C];have:i=y7.length:=(by have:=zB C;dsimp only at this;omega);subst this;have aG:(y7.zip bs).drop y7.length=[]:=vG (qpJ _ _);rw[aG] at he;have aH:andThen (kR ((y7.zip bs).map λx=>(x.1,fS x.1 2 x.2)) D) iL=iL D':=he;rw[aH] at hk;refine qsi ag ab.ok λF3 w3 d3 f3 n3=>?_;have I:∀b∈F',b∈FD\/w.heap.size<=b:=λb u=>by rcases n2 b u with h|h;exact .inl h;exact .inr oK
 exact hk F3 w3 d3 (f2.j8 f3 I) λb u=>I b (n3 b u)
section
structure DS (dbk:Nat) (w:Kv) (FD:KD) (w':Kv) (F':KD) (D':dV) (k:Nat):Prop where
 at_:fN w' dbk F' D'
 lim:nK D' k
 fr:Fr FD w w'
 nw:∀ b∈F',b∈FD\/w.heap.size<=b
variable {dbk:Nat}
def DS.refl{w:Kv}{FD:KD}{D:dV}{k:Nat}(h:fN w dbk FD D)(u:nK D k):DS dbk w FD w FD D k:=⟨h,u,.refl _ _,λb C=>.inl C⟩
def DS.trans{w2:Kv}{F2:KD}{E C:dV}{G k2:Nat}(h:DS dbk w FD w1 F1 E G)(g:DS dbk w1 F1 w2 F2 C k2):DS dbk w FD w2 F2 C k2:=
 ⟨g.at_,g.lim,h.fr.j8 g.fr h.nw,λb I=>by rcases g.nw b I with u|u;exact h.nw b u;exact .inr (zL h.fr.size u)⟩
def DS.q8{w w1 w2:Kv}{FD F1:KD}{u:dV}{C:Nat}(h:DS dbk w FD w1 F1 u C)(f:Fr [] w1 w2):DS dbk w FD w2 F1 u C:=
 ⟨h.at_.q8 f,h.lim,h.fr.j8 f oM,h.nw⟩
def DS.hv{G:dV}{I:Nat}(h:DS dbk w FD w1 F1 G I)(u:Hv w)(C:HG∉FD):Hv w1/\HG∉F1:=
 ⟨u.j0 h.fr C,λJ=>by
  rcases h.nw _ J with E|E;exact C E;have:=u.lt;omega⟩
def DS.vq{u:dV}{C k2:Nat}(h:DS dbk w FD w1 F1 u C)(E:C<=k2):DS dbk w FD w1 F1 u k2:=⟨h.at_,h.lim.mono E,h.fr,h.nw⟩
def Jm{s:Sl}(h:DS dbk w FD w1 F1 D k)(E:k<1000000)(G:eO S w1 s l)(I:fq l)(J:∀w2 F2,DS dbk w FD w2 F2 (fL D n l).1 (k+1)->Fr F1 w1 w2->(∀b∈F2,b∈F1\/w1.heap.size<=b)->K (fL D n l).2 w2): cW 138 [dQ dbk,.i n,s.v] dq w1 K:=by exact qqB h.at_ h.lim.ok G λF2 w2 O u C=>J w2 F2 (h.trans ⟨O,h.lim.write E I,u,C⟩) u C
def qsh(h:DS dbk w FD w1 F1 D k)(G:∀w2 F2,DS dbk w FD w2 F2 (iL D).1 k->Fr F1 w1 w2->(∀b∈F2,b∈F1\/w1.heap.size<=b)->K (iL D).2 w2): cW 139 [dQ dbk] dq w1 K:=by exact qsi h.at_ h.lim.ok λF2 w2 I C E=>G w2 F2 (h.trans ⟨I,h.lim.sync,C,λb u=>.inl (E b u)⟩) C (λb u=>.inl (E b u))
def qy5(h:DS dbk w FD w1 F1 D k)(hk:k<1000000)(hv:Hv w1)(Q:s.2.length=27)(hq:0<=s.1)(I:∀w2 F2,DS dbk w FD w2 F2 (ru D s).1 (k+1)->Fr F1 w1 w2->(∀b∈F2,b∈F1\/w1.heap.size<=b)->K (ru D s).2 w2): cW 143 [dQ dbk,.agg (gh s.1 s.2).toArray] dq w1 K:=by
 refine qr0<|oB (oF [] w1) λr w2 e2 f2 J=>?_;have V:(gh s.1 s.2).toArray[0]?=some (.w s.1):=rfl;refine oA J.drew 0 rfl s.1 V<|CC (J.drew.at (i:=0) rfl) Q<|qxl (hv.q8 J.drew.fr) Q λb T w3 c3 f3 n3=>?_;have u:=J.drew.q8 f3;refine ja (u.cell 0 rfl V) ?_;have ht:=Kj (b:=2) hq;rw[gu (Int.tmod s.1 2) oK];have C:(fS (wrap .u32 (Int.tmod s.1 2)) 1 (iE s.1 s.2)).length=512:=C3 (by rw[Cp Q];decide);have R:eO [] w3 ⟨pW b,512,512⟩ (ju s).2:=by
  have:=AZ (S:=[]) (o:=0) (n:=512) (cap:=512) c3 (by rw[C];exact zM _) (zM _) oM;rw[xH,zS (Nat.le_of_eq C)] at this;exact this
 show cW 138 [dQ dbk,.i (ju s).1,_] _ _ _;refine Jm (h.q8 u.fr) hk R (qw2 s) λw4 F4 O f4 n4=>?_;have al:=u.fr.size;apply eV<;>intro E;have E:(fL D (ju s).1 (ju s).2).2≠0:=(oQ E);have e:ru D s=fL D (ju s).1 (ju s).2:=iN E;rw[e] at I;exact I w4 F4 O ((u.fr.mono λb G=>by cases G).trans f4) λb G=>by rcases n4 b G with h|h;exact .inl h;exact .inr oK
 have E:(fL D (ju s).1 (ju s).2).2=0:=(oQ E);have e:ru D s=iL (fL D (ju s).1 (ju s).2).1:=iP E;rw[e] at I;refine qsh O λw5 F5 U f5 n5=>?_;have g4:DS dbk w1 F1 w4 F4 (fL D (ju s).1 (ju s).2).1 (k+1):=⟨O.at_,O.lim,(u.fr.mono (T:=F1) λb G=>by cases G).trans f4,λb G=>by rcases n4 b G with h|h;exact .inl h;exact .inr oK⟩;have g5:=g4.trans ⟨U.at_,U.lim,f5,n5⟩;exact I w5 F5 U g5.fr g5.nw
def qvT{I:Sl}(h:DS dbk w FD w1 F1 D k)(u:k+y7.length<=1000000)(Q:Hv w1)(R:HG∉F1)(U:Rd F1 w1 sn numbers)(V:Rd F1 w1 I y7)(C:numbers.length<=100000)(E:y7.length<=100000)(G:∀x∈y7,iZ x)(kk:∀w2 F2,DS dbk w FD w2 F2 (i8 D numbers y7).1 (k+y7.length)->Fr F1 w1 w2->(∀b∈F2,b∈F1\/w1.heap.size<=b)->K (i8 D numbers y7).2 w2): cW 142 [dQ dbk,sn.v,I.v] dq w1 K:=by exact qvU h.at_ h.lim u Q R U V C E G λF2 w2 d2 J O=>kk w2 F2 (h.trans ⟨d2,h.lim.spread u,J,O⟩) J O
def EF(h:a.2≠0):andThen a f=a:=iN h
def Fd(h:a.2=0):andThen a f=f a.1:=iP h
def qv8{a b c:Int}(w:Kv):(Instr.build 238 #[(0,.w 1),(1,.u a),(2,.u b),(3,.u c)]).run prog w=.ok (.agg (gh 1 ([a,b,c]++zs 24)).toArray) w:=by obtain⟨z,E,h⟩:=yU.1 xn;have C:z.cells=(gh 0 (zs 27)).toArray:=(by rw[<- h]);refine ID (parts:=[(0,.w 1),(1,.u a),(2,.u b),(3,.u c)]) (offs:=#[(0,1),(1,1),(2,1),(3,1),(4,24)]) E oL (λw=>oL) ?_ w;rw[C,wQ (o:=0) (s:=1) rfl rfl (zO rfl),wQ (o:=1) (s:=1) rfl rfl (zO rfl),wQ (o:=2) (s:=1) rfl rfl (zO rfl),wQ (o:=3) (s:=1) rfl rfl (zO rfl)];rfl
def qvR(h:fN w dbk FD D)(hl:nK D k)(hk:k<=900000)(h8:2<=D.Q5.length)(hv:Hv w)(hg:HG∉FD)(C:∀w' F',DS dbk w FD w' F' (mU D).1 (k+5000)->K (mU D).2 w'): cW 97 [dQ dbk] dq w K:=by
 refine qpf ?_;have aj:=hl.ok.Q5;have h0:=DS.refl h hl;have G:(zs 512).length=512:=rU _;have Q:∀ {S0:KD} {w0 w':Kv} {L:KK} {b:Nat} {T:Kx},ed S0 w0 w' ((b,.c (List.replicate (512:Int).toNat (Value.int .u8 0)).toArray T)::L)->eO [] w' ⟨pW b,(512:Int).toNat,(512:Int).toNat⟩ (zs 512):=λho=>by
  have E:=ho.at (i:=0) rfl;rw[qtZ] at E;have:=AZ (S:=[]) (o:=0) (n:=512) (cap:=512) E (by rw[show (512:Int).toNat=512 from rfl,G];exact zM _) (zM _) oM;rw[xH,zS (by rw[show (512:Int).toNat=512 from rfl,G];exact zM _)] at this;exact this
 refine Ay λX hX=>JT rfl<|ed.IN (oF [] w) oN oN oN oN λb1 w1 e1 R=>Jm (h0.q8 R.fr) oK (Q R) (fq.zs 512) λw2 F2 d2 f2 n2=>?_;apply eV<;>intro u;have u:(fL D 0 (zs 512)).2≠0:=(oQ u);have e:mU D=fL D 0 (zs 512):=EF u;rw[e] at C;exact C w2 F2 (d2.vq oK);have am:(fL D 0 (zs 512)).2=0:=(oQ u);rw[mU,Fd am] at C;have an:=HV (D:=D) (n:=0) (l:=zs 512);generalize (fL D 0 (zs 512)).1=D2 at d2 C an;rw[gu (0+1) oN];refine hX _ _ (qra 1 rfl λX hX=>?_);refine JT rfl<|ed.IN (oF [] w2) oN oN oN oN λb3 w3 e3 U=>Jm (d2.q8 U.fr) oK (Q U) (fq.zs 512) λw4 F4 d4 f4 n4=>?_;apply eV<;>intro u;have u:(fL D2 1 (zs 512)).2≠0:=(oQ u);rw[EF u] at C;exact C w4 F4 (d4.vq oK);have ap:(fL D2 1 (zs 512)).2=0:=(oQ u);rw[Fd ap] at C;have aq:=HV (D:=D2) (n:=1) (l:=zs 512);generalize (fL D2 1 (zs 512)).1=D4 at d4 C aq;rw[gu (1+1) oN];refine hX _ _ (qra 2 rfl λX hX=>?_);refine JU rfl<|qsh d4 λw5 F5 V f5 n5=>?_;apply eV<;>intro u;have u:(iL D4).2≠0:=(oQ u);rw[EF u] at C;exact C w5 F5 (V.vq oK);have av:(iL D4).2=0:=(oQ u);rw[Fd av] at C;have aw:=qrA (D:=D4);generalize (iL D4).1=D5 at V C aw;have ax:D5.Q5.length=D.Q5.length:=oK;have al:=FC D.Q5.length;obtain⟨ay,az⟩:=V.hv hv hg;refine kz (λx w'=>∃(i:Nat) (B:KD),x.2=((i+2:Nat):Int)/\i<=D.Q5.length-2/\tc w' x.1 ((gr D.Q5.length).take i) B/\Fr [] w5 w'/\∀b∈B,w5.heap.size<=b) (λx _=>((D.Q5.length:Int)-x.2).toNat)
  ⟨0,[],rfl,oK,.nil _ _ _,.refl _ _,oM⟩ ?_
 rintro⟨s,x⟩ w6 ⟨i,B,hx,hi,E,f6,n6⟩ Y hY;simp only at hx E;subst hx;have d6:=V.q8 f6;refine Hw d6.at_ ?_;dsimp only;apply eV<;>intro u;have aB:i<D.Q5.length-2:=(by have:=zC u;omega);rw[nR ((i+2:Nat):Int) oK];refine qAr E (by rw[yM];omega) λs7 B7 w7 b7 f7 n7=>?_;rw[gu _ oK];refine hY _ _ ⟨i+1,B7,by simp;omega,oK,?_,f6.j8 f7 λb E=>.inr (n6 b E),λb E=>?_⟩ oO;have e:(gr D.Q5.length).take (i+1)=(gr D.Q5.length).take i++[((i+2:Nat):Int)]:=by rw[yH oK];congr 2;have h1:=quR aB;have h2:=zA (l:=gr D.Q5.length) (i:=i) oK;rw[h2] at h1;rw[yP h1];simp
 rw[e];exact b7;rcases n7 b E with h|h;exact n6 b h;exact zL f6.size h;have aC:i=D.Q5.length-2:=(by have:=zB u;omega);subst aC;rw[zS oK] at E;have aD:=E.len;rw[aD];refine qyW oK ?_;have ab:=Hl (n:=(gr D.Q5.length).length);have ac:∀b∈B,b∉F5:=λb E hm=>by have:=n6 b E;have:=V.at_.lt b hm;omega
 have I:Rd F5 w6.drew s (gr D.Q5.length):=(E.q8 (Fr.refl [] w6).drew).k5 u9 ac;refine eE.part (k:=1) I (gW (gr D.Q5.length).length) (gr D.Q5.length).length rfl (by show (s.len:Int)=_;omega) ab (zM _) λsn a2 rn _=>eE.part (k:=1) I 0 (gW (gr D.Q5.length).length) rfl rfl oK ab λsp a3 rp _=>?_;rw[vB] at rn;rw[xH] at rp;have aE:=d6.q8 (Fr.refl [] w6).drew;have aF:=(ay.q8 f6).q8 (Fr.refl [] w6).drew;rw[ax] at C;refine qvT aE (by rw[yM];omega) aF az rn rp (by rw[yC];omega) (by rw[yM];omega) (λx hx=>by
  have:=FQ.1 (yW hx);constructor<;>omega) λw7 F7 J f7 n7=>?_
 have J:=J.vq (k2:=k+2+4096) (by rw[yM];omega);apply eV<;>intro u;have u:(i8 D5 ((gr D.Q5.length).drop (gW (gr D.Q5.length).length)) ((gr D.Q5.length).take (gW (gr D.Q5.length).length))).2≠0:=(oQ u);rw[EF u] at C;exact C w7 F7 (J.vq oK);have aG:(i8 D5 ((gr D.Q5.length).drop (gW (gr D.Q5.length).length)) ((gr D.Q5.length).take (gW (gr D.Q5.length).length))).2=0:=(oQ u);rw[Fd aG] at C;have aH:=quB (D:=D5) (a:=(gr D.Q5.length).drop (gW (gr D.Q5.length).length)) (b:=(gr D.Q5.length).take (gW (gr D.Q5.length).length));generalize (i8 D5 ((gr D.Q5.length).drop (gW (gr D.Q5.length).length)) ((gr D.Q5.length).take (gW (gr D.Q5.length).length))).1=D7 at J C aH;have aI:D7.Q5.length=D.Q5.length:=oK;refine Hw J.at_ ?_;rw[aI] at C⊢;have O:wrap .i64 (((gr D.Q5.length).length:Int)-(gW (gr D.Q5.length).length:Int))=((gr D.Q5.length).length:Int)-(gW (gr D.Q5.length).length:Int):=gu _ oK;rw[O];exact tP (ts:=[i3.pF]) (gh (lU D.Q5.length).1 (lU D.Q5.length).2) (qv8 w7)<|qy5 (s:=lU D.Q5.length) J oK (J.hv hv hg).1 rfl (by show (0:Int)<=1;decide) λw8 F8 d8 f8 n8=>C w8 F8 (d8.vq oK)
end
section
structure eZ.Wf (M:eZ):Prop where
 n4:M.j9.2.getD 0 0<=4096
 u32:∀ x∈M.j9.2,iZ x
 Q1:∀ x∈M.Q1,iZ x
 cO:M.Q8.Pairwise (· < ·)
 Q8:∀ x∈M.Q8,2<=x/\x<M.j9.2.getD 0 0
 cV:M.Q0.Pairwise (· < ·)
 tJ:M.J6.Pairwise (· < ·)
 nodup:(M.Q0++(M.J6++(M.Q4++M.J7.map (·.1)))).Nodup
 range:∀ x∈M.Q0++(M.J6++(M.Q4++M.J7.map (·.1))),2<=x/\x<M.j9.2.getD 0 0
 body:∀ e∈M.J7,(0<=e.2.1/\e.2.1<256)/\e.2.2.length<=500/\fq e.2.2
def small(u:l.Nodup)(h:∀x∈l,2<=x/\x<n)(C:n<=4096):l.length<=4096:=by rcases EO u h with h|h;omega;rw[h];simp
def eZ.Wf.all(M:eZ)(h:M.Wf):M.Q0.length+M.J6.length+M.Q4.length+M.J7.length<=4096:=by
 have:=small h.nodup h.range h.n4;simp only[zF,zK] at this;omega
section
variable {w:Kv} {X:KD} {pb:Nat} {db:Option Addr} {F:KD} {M:eZ}
def eE.Av{α:Type}{enc:α->List Kw}{w:Kv}{s:Sl}{l:List α}(h:eE enc k S w s l){hi:Int}(b:Nat){K:Sl->Prop}(C:hi=b)(hb:b<=l.length)(J:∀I,eE enc k S w I (l.take b)->K I):gb s none (some hi) (some hi) k K:=by
 subst C;obtain⟨h1,h2,E⟩:=h;unfold gb;refine⟨by simp;omega,J _ ?_⟩;simp only[xY,xX,Int.toNat_zero,zJ,Nat.zero_mul,Nat.sub_zero];have e:(if b=0 then s.a else s.a.map (·.add 0))=s.a:=by
  split;rfl;cases s.a with
  | none=>rfl
  | some a=>simp[JD]
 rw[e];refine⟨by rw[yM];dsimp only;omega,zM _,?_⟩;rcases E with E|⟨O,o,Q,T,R,U,G,V,hc⟩;left;rw[E];simp;refine .inr ⟨O,o,Q,T,R,U,G,V,λi x u=>?_⟩;rw[xC] at u;split at u;exact hc i x u;cases u
def gd.si{w:Kv}{X:KD}{pb:Nat}{db:Option Addr}{F:KD}{M:eZ}(h:gd w X pb db F M):∀b∈X,b<w.heap.size:=by obtain⟨fb,defb,mb,sl,sn,C,F2,E,rfl,u⟩:=h;exact u.si
end
end
structure EM (D D':dV) (M:eZ) (y7 Q8:KE) (next:rf):Prop where
 down:D'.down=false
 Q6:D'.Q6=[]
 listed:th D' Q8 y7
 JK:view D' (next.1%2)=fS (next.1%2) 1 (iE next.1 next.2)
 J7:∀ e∈M.J7,view D' e.1=fS e.1 e.2.1 e.2.2
 rest:∀ m,0<=m->m∉M.J7.map (·.1)->m∉y7->m≠next.1%2->view D' m=view D m
def eZ.Wf.cC(h:M.Wf):(M.J7.map (·.1)).Nodup:=h.nodup.sublist (((sublist_append_right _ _).trans (sublist_append_right _ _)).trans (sublist_append_right _ _))
def eZ.all (M:eZ):KE:=M.Q0++(M.J6++(M.Q4++M.J7.map (·.1)))
def qzk{t:Int}{ov:Bool}(h:py (s.2.getD 0 0) numbers y7)(E:s.2.getD 0 0<=4096)(C:∀x∈s.2,iZ x):(lE s y7 numbers t ov numbers).Wf where
 n4:=E
 u32:=C
 Q1:=λx u=>C x (yV u)
 cO:=h.cY
 Q8:=h.pS
 cV:=h.cY
 tJ:=.nil
 nodup:=by show (numbers++([]++(y7++[]))).Nodup;rw[xK,xJ,yN];exact⟨FK h.cY,h.nodup,λx u y G e=>h.J2 y G (e▸u)⟩
 range:=λx u=>by have u:x∈numbers++([]++(y7++[])):=u;rw[xK,xJ,zD] at u;rcases u with u|u;exact h.pS x u;exact h.vv x u
 body:=λe I=>by cases I
def qtE{β:Type}{v:β}{l:List (Int×β)}(h:n∉l.map (·.1)):iV n v l=l++[(n,v)]:=by rw[iV,Ai.2 h]
def qry{β:Type}{v:β}{l:List (Int×β)}(h:n∈l.map (·.1)):(iV n v l).map (·.1)=l.map (·.1):=by
 unfold iV;cases C:look n l with
 | none=>exact absurd h (Ai.1 C)
 | some q=>
  dsimp only;rw[map_set];apply ext_getElem?;intro j;rw[List.getElem?_set];by_cases hj:q.1=j;subst hj;have E:=(vT C).1;obtain⟨u,G⟩:=zP.1 E;simp[u,G];rw[iN hj]
def qqN{β:Type}{l:List (Int×β)}(h:n∈l.map (·.1)):(l.map (·.1)).Perm (n::(kL n l).map (·.1)):=by
 unfold kL;cases E:look n l with
 | none=>exact absurd h (Ai.1 E)
 | some q=>
  dsimp only;have G:=(vT E).1;obtain⟨u,I⟩:=zP.1 G;rw[xf];have J:(l.map (·.1))[q.1]'(oQ u)=n:=(by simp[I]);have C:q.1<(l.map (·.1)).length:=(oQ u);have O:l.map (·.1)=(l.map (·.1)).take q.1++n::(l.map (·.1)).drop (q.1+1):=by rw[<- J,<- zY C,xG]
  rw[eraseIdx_eq_take_drop_succ];conv=>lhs;rw[O]
  exact perm_middle
def qAg:iy M n=true↔(2<=n/\n<M.j9.2.getD 0 0)/\n∉M.all:=by unfold iy eZ.all;simp only[yB,zT,Km,Kn,Option.isNone_iff_eq_none,Ai,zD,not_or];constructor;rintro⟨⟨⟨⟨⟨G,I⟩,h⟩,u⟩,C⟩,E⟩;exact⟨⟨oK,oK⟩,u,C,h,E⟩;rintro⟨⟨G,I⟩,h,u,C,E⟩;exact⟨⟨⟨⟨⟨oK,oK⟩,C⟩,h⟩,u⟩,E⟩
def qyc{r:KE}{v:KW}(u:M.Q0=n::r)(E:M.Wf):(r++(M.J6++(M.Q4++(iV n v M.J7).map (·.1)))).Perm M.all:=by
 have h:n∉M.J7.map (·.1):=λG=>by have C:=E.nodup;rw[u,xL,JY] at C;exact C.1 (zI _ (zI _ (zI _ G)))
 rw[qtE h,xP,eZ.all,u];show (r++(M.J6++(M.Q4++(M.J7.map (·.1)++[n])))).Perm (n::(r++(M.J6++(M.Q4++M.J7.map (·.1)))));rw[<- zV M.Q4,<- zV M.J6,<- zV r];exact JW n _
def HB{M':eZ}(h:M.Wf)(u:M'.j9=M.j9)(C:M'.Q8=M.Q8)(G:∀x∈M'.Q1,iZ x)(E:M'.all.Perm M.all)(I:M'.Q0.Pairwise (· < ·))(J:M'.J6.Pairwise (· < ·))(O:∀e∈M'.J7,(0<=e.2.1/\e.2.1<256)/\e.2.2.length<=500/\fq e.2.2):M'.Wf where
 n4:=by rw[u];exact h.n4
 u32:=by rw[u];exact h.u32
 Q1:=G
 cO:=by rw[C];exact h.cO
 Q8:=by rw[C,u];exact h.Q8
 cV:=I
 tJ:=J
 nodup:=E.nodup_iff.2 h.nodup
 range:=λx Q=>by rw[u];exact h.range x (E.mem_iff.1 Q)
 body:=O
def qvn{kind:Int}(u:M.Wf)(G:0<=kind/\kind<256)(I:fq body):(ia M kind body).2.Wf/\(ia M kind body).2.all.Perm M.all:=by
 unfold ia;split;exact⟨u,.refl _⟩;split;exact⟨u,.refl _⟩;rename_i O;split;exact⟨u,.refl _⟩;rename_i n r C;have E:=qyc (v:=(kind,body)) C u;refine⟨HB u rfl rfl u.Q1 E ?_ u.tJ λe J=>?_,E⟩;have:=u.cV;rw[C,yK] at this;exact this.2;rcases FB J with h|h;exact u.body e h;rw[h];exact⟨G,by show body.length<=500;omega,I⟩
def qyq{kind:Int}(u:M.Wf)(E:0<=kind/\kind<256)(G:fq body):(kB M n kind body).2.Wf/\(kB M n kind body).2.all.Perm M.all:=by
 unfold kB;split;exact⟨u,.refl _⟩;split;exact⟨u,.refl _⟩;rename_i q I;split;exact⟨u,.refl _⟩;rename_i Q;have J:n∈M.J7.map (·.1):=mem_map.2 ⟨_,(vT I).2,rfl⟩;have C:({ M with J7:=iV n (kind,body) M.J7 }:eZ).all=M.all:=by show M.Q0++(M.J6++(M.Q4++(iV n (kind,body) M.J7).map (·.1)))=_;rw[qry J];rfl
 refine⟨HB u rfl rfl u.Q1 (by rw[C]) u.cV u.tJ λe O=>?_,by rw[C]⟩;rcases FB O with h|h;exact u.body e h;rw[h];exact⟨E,by show body.length<=500;omega,G⟩
def qu4(u:M.Wf):(fX M n).2.Wf:=by
 unfold fX;split;exact u;split;rename_i q J;have O:n∈M.J7.map (·.1):=mem_map.2 ⟨_,(vT J).2,rfl⟩;have Q:=u.nodup;have G:n∉M.Q0:=λh=>by rw[yN] at Q;exact Q.2.2 n h n (zI _ (zI _ O)) rfl
 have E:({ M with J7:=kL n M.J7,Q0:=ins n M.Q0 }:eZ).all.Perm M.all:=by
  show (ins n M.Q0++(M.J6++(M.Q4++(kL n M.J7).map (·.1)))).Perm (M.Q0++(M.J6++(M.Q4++M.J7.map (·.1))));refine ((CG G).append_right _).trans ?_;have R:=qqN O;have U:(M.J6++(M.Q4++M.J7.map (·.1))).Perm (n::(M.J6++(M.Q4++(kL n M.J7).map (·.1)))):=by refine ((R.append_left M.Q4).append_left M.J6).trans ?_;rw[<- zV,<- zV];exact perm_middle
  exact (perm_middle.symm.trans (U.symm.append_left M.Q0))
 exact HB u rfl rfl u.Q1 E (Dy u.cV) u.tJ λe V=>u.body e (qs8 V);rename_i J;split;rename_i C;have C:=qAg.1 C;have I:n∉M.J6:=λh=>C.2 (zI _ (zH _ h));have E:({ M with J6:=ins n M.J6 }:eZ).all.Perm (n::M.all):=by show (M.Q0++(ins n M.J6++(M.Q4++M.J7.map (·.1)))).Perm (n::(M.Q0++(M.J6++(M.Q4++M.J7.map (·.1)))));exact (((CG I).append_right _).append_left M.Q0).trans perm_middle
 refine { n4:=u.n4,u32:=u.u32,Q1:=u.Q1,cO:=u.cO,Q8:=u.Q8,cV:=u.cV,tJ:=Dy u.tJ,nodup:=E.nodup_iff.2 (nodup_cons.2 ⟨C.2,u.nodup⟩),range:=λx hx=>?_,body:=u.body };rcases zG.1 (E.mem_iff.1 hx) with rfl|h;exact C.1;exact u.range x h;exact u
section
section
variable {db:Option Addr} {j9:rf} {sl sn:Sl} {x5:Int} {Q2:Bool} {fb defb mb:Nat} {Q1:KE} {wk:List Kw}
def qzW(u:j9.2.length=27)(C:Q1.length=24):((gQ db j9 sl sn x5 Q2 fb defb mb Q1).toList.drop 36).take 24=Q1.map (Value.int .u32):=by have h:((Value.pointer db::gh j9.1 j9.2)++pB sl sn x5 Q2 fb defb mb).length=36:=(by rw[zF,uV u];rfl);show (((Value.pointer db::gh j9.1 j9.2)++pB sl sn x5 Q2 fb defb mb++Q1.map (Value.int .u32)).drop 36).take 24=_;rw[<- h,Kf (zM _),drop_length,xK,zS (by rw[zK,C];exact zM _)]
end
def t5 (dbk:Nat) (M:eZ):Option Addr:=if M.Q2 then none else pW dbk
structure JN (w:Kv) (dbk pb:Nat) (FD F:KD) (D:dV) (M:eZ) (k:Nat):Prop where
 cQ:fN w dbk FD D
 lim:nK D k
 x7:gd w FD pb (t5 dbk M) F M
end
def fO (M:eZ) (t h r1 u:Int):Int×eZ:=
 if M.Q2 then (7,M) else if t<0\/t>7 then (4,M) else (0,{ M with Q1:=M.Q1.take (3*t.toNat)++[h,r1,u]++M.Q1.drop (3*t.toNat+3) })
def dS (D:dV) (M:eZ) (n:Int):Int×List Int×Int:=
 if M.Q2 then (0,[],7) else match look n M.J7 with
 | some q=>(q.2.1,q.2.2,0)
 | none=>if iy M n=false then (0,[],10) else if (eW D n).2≠0 then (0,[],(eW D n).2) else fP n (eW D n).1
def qiD(u:D.Ok)(C:∀e∈M.J7,fq e.2.2)(n:Int):fq (dS D M n).2.1:=by have h:fq ([]:KE):=λx E=>nomatch E;unfold dS;split;exact h;split;rename_i q G;exact C _ (vT G).2;split;exact h;split;exact h;exact (qrh (zt u n).1 n).1
def eZ.x9 (M:eZ):Prop:=(M.Q0++M.J7.map (·.1)).Perm M.Q8
def qt3(s:rf)(y7 numbers:KE)(t:Int)(ov:Bool):(lE s y7 numbers t ov numbers).x9:=by show (numbers++[]).Perm numbers;rw[xJ]
def qwy{kd:Int}(G:M.Wf)(h:M.x9):(ia M kd l).2.x9:=by
 unfold ia;split;exact h;split;exact h;split;exact h;rename_i n r C;have u:n∉M.J7.map (·.1):=λI=>by have E:=G.nodup;rw[C,xL,JY] at E;exact E.1 (zI _ (zI _ (zI _ I)))
 show (r++(iV n (kd,l) M.J7).map (·.1)).Perm M.Q8;rw[qtE u,xP,<- zV];refine (JW n _).trans ?_;have:=h;rw[eZ.x9,C] at this;exact this
def qyo{kd:Int}(h:M.x9):(kB M n kd l).2.x9:=by unfold kB;split;exact h;split;exact h;rename_i q u;split;exact h;have C:n∈M.J7.map (·.1):=mem_map.2 ⟨_,(vT u).2,rfl⟩;show (M.Q0++(iV n (kd,l) M.J7).map (·.1)).Perm M.Q8;rw[qry C];exact h
def qwh(G:M.Wf)(h:M.x9):(fX M n).2.x9:=by
 unfold fX;split;exact h;split;rename_i q I;have C:n∈M.J7.map (·.1):=mem_map.2 ⟨_,(vT I).2,rfl⟩;have E:=G.nodup;have u:n∉M.Q0:=λh=>by rw[yN] at E;exact E.2.2 n h n (zI _ (zI _ C)) rfl
 show (ins n M.Q0++(kL n M.J7).map (·.1)).Perm M.Q8;refine (((CG u).append_right _).trans ?_).trans h;exact perm_middle.symm.trans ((qqN C).symm.append_left M.Q0);split;exact h;exact h
def eZ.x9.mem(h:M.x9)(x:Int):x∈M.Q8↔x∈M.Q0\/x∈M.J7.map (·.1):=by rw[<- h.mem_iff,zD]
def Ez (l:KE):ByteArray:=⟨(Lib.bytesOf l).toArray⟩
end
section
open Go Go.Pt List
open Go.IntKind (wrap)
open Classical
variable {D:dV} {L L2:gH} {M:eZ} {N Nl Nr:dW} {R R1 R2 b:KE} {h n1 n2:Nat} {kd n p q:Int} {key m:Key} {r:KW}
def iQ {β:Type} (n:Int) (l:List (Int×β)):Option β:=(look n l).map (·.2)
def AF{β:Type}(n:Int)(p:Int×β)(r:List (Int×β)):iQ n (p::r)=if n=p.1 then some p.2 else iQ n r:=by unfold iQ;rw[look];split;rfl;cases look n r<;>rfl
def qyI{β:Type}(n:Int)(v:β)(p:Int×β)(r:List (Int×β)):iV n v (p::r)=if n=p.1 then (n,v)::r else p::iV n v r:=by by_cases h:n=p.1;rw[iP h];unfold iV;rw[look,iP h];rfl;rw[iN h];unfold iV;rw[look,iN h];cases look n r<;>rfl
def qxz{β:Type}(n:Int)(p:Int×β)(r:List (Int×β)):kL n (p::r)=if n=p.1 then r else p::kL n r:=by by_cases h:n=p.1;rw[iP h];unfold kL;rw[look,iP h];rfl;rw[iN h];unfold kL;rw[look,iN h];cases look n r<;>rfl
def GS{β:Type}(n q:Int)(v:β):∀l:List (Int×β),iQ q (iV n v l)=if q=n then some v else iQ q l
 | []=>by show iQ q [(n,v)]=_;rw[AF]
 | p::r=>by rw[qyI];by_cases h:n=p.1;rw[iP h,AF,AF,<- h];by_cases h2:q=n;rw[iP h2,iP h2];rw[iN h2,iN h2,iN h2];rw[iN h,AF,GS n q v r,AF];by_cases h2:q=p.1;rw[iP h2,iN (λe=>h (by rw[<- e,h2])),iP h2];rw[iN h2,iN h2]
def JI{β:Type}{l:List (Int×β)}:iQ n l=none↔n∉l.map (·.1):=by unfold iQ;rw[Option.map_eq_none_iff,Ai]
def qq9{β:Type}(n q:Int):∀l:List (Int×β),(l.map (·.1)).Nodup->iQ q (kL n l)=if q=n then none else iQ q l
 | [],_=>by show iQ q []=_;split<;>rfl
 | p::r,C=>by have u:=nodup_cons.1 (show (p.1::r.map (·.1)).Nodup from C);rw[qxz];by_cases h:n=p.1;rw[iP h,AF];by_cases h2:q=n;rw[iP h2,h2,h];exact JI.2 u.1;rw[iN h2,iN λe=>h2 (by rw[e,h])];rw[iN h,AF,qq9 n q r u.2,AF];by_cases h2:q=p.1;rw[iP h2,iN (λe=>h (by rw[<- e,h2])),iP h2];rw[iN h2,iN h2]
def qxY(n:Int):∀l:KE,l.length<=(ins n l).length
 | []=>yY _
 | a::l=>by
  have:=qxY n l;simp only[ins];split;simp;split;exact zM _;simp only[yJ];omega
def uv:iy M n=true↔2<=n/\n<M.j9.2.getD 0 0/\n∉M.Q4/\n∉M.Q0/\n∉M.J6/\iQ n M.J7=none:=by unfold iy iQ;rw[Option.map_eq_none_iff];simp only[yB,zT,Km,Kn,Option.isNone_iff_eq_none];constructor;rintro⟨⟨⟨⟨⟨G,I⟩,h⟩,u⟩,C⟩,E⟩;exact⟨oK,oK,h,u,C,E⟩;rintro⟨G,I,h,u,C,E⟩;exact⟨⟨⟨⟨⟨oK,oK⟩,h⟩,u⟩,C⟩,E⟩
def eH (M:eZ) (x:Int):Prop:=x∈M.J7.map (·.1)\/iy M x=true
def cM{x:Int}:x∈M.J7.map (·.1)↔∃q,iQ x M.J7=some q:=by
 constructor;intro h;cases e:iQ x M.J7 with
 | none=>exact absurd h (JI.1 e)
 | some q=>exact⟨q,rfl⟩
 rintro⟨q,e⟩;exact Classical.byContradiction λh=>by rw[JI.2 h] at e;cases e
def E7(h:M.Q2=false)(n:Int):dS D M n=match iQ n M.J7 with
  | some q=>(q.1,q.2,0)
  | none=>if iy M n=false then (0,[],10) else if (eW D n).2≠0 then (0,[],(eW D n).2) else fP n (eW D n).1:=by
 unfold dS iQ;rw[iN (by rw[h];decide)];cases look n M.J7<;>rfl
def Jz(u:M.Q2=false)(h:(dS D M n).2.2=0):eH M n:=by
 rw[E7 u] at h;cases e:iQ n M.J7 with
 | some q=>exact .inl (cM.2 ⟨q,e⟩)
 | none=>
  rw[e] at h;dsimp only at h;split at h;cases h;rename_i C;exact .inr (oQ C)
def qyv(M:eZ)(u:M.Q2=false){q:KW}(h:iQ n M.J7=some q):dS D M n=(q.1,q.2,0):=by rw[E7 u,h]
def FX(M':eZ)(u:M.Q2=false)(h:M'.Q2=false)(C:iQ n M'.J7=iQ n M.J7)(E:iy M' n=iy M n):dS D M' n=dS D M n:=by rw[E7 u,E7 h,C,E]
def FU(M':eZ)(h:iQ n M'.J7=iQ n M.J7)(u:iy M' n=iy M n):eH M' n↔eH M n:=by unfold eH;rw[cM,cM,h,u]
def Dx(u:M.Wf){x:Int}(h:eH M x):2<=x/\x<M.j9.2.getD 0 0:=by rcases h with h|h;exact u.range x (by simp only[zD];exact .inr (.inr (.inr h)));exact⟨(uv.1 h).1,(uv.1 h).2.1⟩
structure od (D:dV) (M M':eZ) (q p:Int) (r:Option (KW)):Prop where
 wf:M'.Wf
 Q2:M'.Q2=false
 Q1:M'.Q1=M.Q1
 j9:M'.j9=M.j9
 Q4:M'.Q4=M.Q4
 Q8:M'.Q8=M.Q8
 x9:M.x9->M'.x9
 x5:M'.x5=M.x5
 rest:∀ x,x≠q->x≠p->dS D M' x=dS D M x
 use:∀ x,x≠q->x≠p->(eH M' x↔eH M x)
 nt:∀ x,iy M' x=true->iy M x=true
 wrote:∀ y,r=some y->dS D M' q=(y.1,y.2,0)/\eH M' q
 left:p≠q->¬ eH M' p
section
variable {D:dV} {M:eZ}
def quk{E:KE}(O:M.Wf)(I:M.Q2=false)(hk:0<=kd/\kd<256)(hB:fq b)(hl:b.length<=500)(J:M.Q0=n::E): ∃M',ia M kd b=((n,0),M')/\od D M M' n n (some (kd,b))/\¬eH M n/\M'.Q0=E/\M'.J6=M.J6:=by
 have e:ia M kd b=((n,0),{ M with Q0:=E,J7:=iV n (kd,b) M.J7 }):=(by rw[ia,iN (by rw[I];decide),iN,J]);have hw:=(qvn (kind:=kd) (body:=b) O hk hB).1;rw[e] at hw;have Q:(n::(E++(M.J6++(M.Q4++M.J7.map (·.1))))).Nodup:=(by have:=O.nodup;rw[J] at this;exact this);have R:=nodup_cons.1 Q;have U:n∉M.J7.map (·.1):=λh=>R.1 (by simp only[zD];exact .inr (.inr (.inr h)));have V:¬eH M n:=λh=>by rcases h with h|h;exact U h;exact (uv.1 h).2.2.2.1 (by rw[J];simp)
 have u:∀x,iQ x (iV n (kd,b) M.J7)=if x=n then some (kd,b) else iQ x M.J7:=λx=>GS n x _ _
 have G:∀x,x≠n->iy { M with Q0:=E,J7:=iV n (kd,b) M.J7 } x=iy M x:=λx C=>by rw[Ka,uv,uv];dsimp only;rw[u,iN C,J,zG];constructor;rintro⟨h1,h2,h3,h4,h5⟩;exact⟨h1,h2,h3,λh=>h.elim C h4,h5⟩;rintro⟨h1,h2,h3,h4,h5⟩;exact⟨h1,h2,h3,λh=>h4 (.inr h),h5⟩
 refine⟨_,e,⟨hw,I,rfl,rfl,rfl,rfl,λh=>?_,rfl,λx C _=>FX { M with Q0:=E,J7:=iV n (kd,b) M.J7 } I I (by dsimp only;rw[u,iN C]) (G x C),λx C _=>FU { M with Q0:=E,J7:=iV n (kd,b) M.J7 } (by dsimp only;rw[u,iN C]) (G x C),λx C=>?_,λy hy=>?_,λh=>absurd rfl h⟩,V,rfl,rfl⟩;have:=qwy (kd:=kd) (l:=b) O h;rw[e] at this;exact this;by_cases hxn:x=n;have:=(uv.1 C).2.2.2.2.2;dsimp only at this;rw[u,iP hxn] at this;cases this;rw[G x hxn] at C;exact C;cases hy;refine⟨?_,.inl (cM.2 ⟨(kd,b),by dsimp only;rw[u,iP rfl]⟩)⟩;exact qyv { M with Q0:=E,J7:=iV n (kd,b) M.J7 } I (by dsimp only;rw[u,iP rfl])
def qwK(O:M.Wf)(G:M.Q2=false)(Q:0<=kd/\kd<256)(R:fq b)(hl:b.length<=500)(U:n∈M.J7.map (·.1)): ∃M',kB M n kd b=(0,M')/\od D M M' n n (some (kd,b))/\M'.Q0=M.Q0/\M'.J6=M.J6:=by
 obtain⟨v,I⟩:=cM.1 U;have e:kB M n kd b=(0,{ M with J7:=iV n (kd,b) M.J7 }):=by unfold iQ at I;obtain⟨q,V,_⟩:=yU.1 I;rw[kB,iN (by rw[G];decide),V];dsimp only;rw[iN]
 have J:=(qyq (n:=n) (kind:=kd) (body:=b) O Q R).1;rw[e] at J;have u:∀x,iQ x (iV n (kd,b) M.J7)=if x=n then some (kd,b) else iQ x M.J7:=λx=>GS n x _ _
 have E:∀x,iy { M with J7:=iV n (kd,b) M.J7 } x=iy M x:=λx=>by rw[Ka,uv,uv];dsimp only;rw[u];by_cases C:x=n;rw[iP C,C,I];simp;rw[iN C]
 refine⟨_,e,⟨J,G,rfl,rfl,rfl,rfl,λh=>?_,rfl,λx C _=>FX { M with J7:=iV n (kd,b) M.J7 } G G (by dsimp only;rw[u,iN C]) (E x),λx C _=>FU { M with J7:=iV n (kd,b) M.J7 } (by dsimp only;rw[u,iN C]) (E x),λx C=>by rw[E x] at C;exact C,λy hy=>?_,λh=>absurd rfl h⟩,rfl,rfl⟩;have:=qyo (n:=n) (kd:=kd) (l:=b) h;rw[e] at this;exact this;cases hy;refine⟨?_,.inl (cM.2 ⟨(kd,b),by dsimp only;rw[u,iP rfl]⟩)⟩;exact qyv { M with J7:=iV n (kd,b) M.J7 } G (by dsimp only;rw[u,iP rfl])
def qyp(h:M.Q2=false)(u:n∉M.J7.map (·.1)):kB M n kd b=(10,M):=by rw[kB,iN (by rw[h];decide),Ai.2 u]
def qmZ(hW:M.Wf)(R:M.Q2=false)(hu:eH M n)(J:n≠q): ∃M',fX M n=(0,M')/\od D M M' q n none/\(dS D M' q=dS D M q)/\(eH M' q↔eH M q)/\M.Q0.length<=M'.Q0.length:=by
 have hw:=qu4 (n:=n) hW;by_cases hf:n∈M.J7.map (·.1);obtain⟨v,hv⟩:=cM.1 hf;have ag:(M.J7.map (·.1)).Nodup:=hW.cC;have e:fX M n=(0,{ M with J7:=kL n M.J7,Q0:=ins n M.Q0 }):=by unfold iQ at hv;obtain⟨y,O,_⟩:=yU.1 hv;rw[fX,iN (by rw[R];decide),O]
 rw[e] at hw;have Q:∀x,iQ x (kL n M.J7)=if x=n then none else iQ x M.J7:=λx=>qq9 n x _ ag
 have E:∀x,x≠n->iy { M with J7:=kL n M.J7,Q0:=ins n M.Q0 } x=iy M x:=λx u=>by rw[Ka,uv,uv];dsimp only;rw[Q,iN u,DB];constructor;rintro⟨U,V,h3,h4,h5⟩;exact⟨U,V,h3,λh=>h4 (.inr h),h5⟩;rintro⟨U,V,h3,h4,h5⟩;exact⟨U,V,h3,λh=>h.elim u h4,h5⟩
 have G:¬eH { M with J7:=kL n M.J7,Q0:=ins n M.Q0 } n:=λh=>by rcases h with h|h;obtain⟨y,O⟩:=cM.1 h;dsimp only at O;rw[Q,iP rfl] at O;cases O;exact (uv.1 h).2.2.2.1 (DB.2 (.inl rfl))
 have I:∀x,x≠n->dS D { M with J7:=kL n M.J7,Q0:=ins n M.Q0 } x=dS D M x:=λx u=>FX { M with J7:=kL n M.J7,Q0:=ins n M.Q0 } R R (by dsimp only;rw[Q,iN u]) (E x u);have C:∀x,x≠n->(eH { M with J7:=kL n M.J7,Q0:=ins n M.Q0 } x↔eH M x):=λx u=>FU { M with J7:=kL n M.J7,Q0:=ins n M.Q0 } (by dsimp only;rw[Q,iN u]) (E x u);refine⟨_,e,⟨hw,R,rfl,rfl,rfl,rfl,λh=>?_,rfl,λx _ u=>I x u,λx _ u=>C x u,λx u=>?_,λy O=>(nomatch O),λ_=>G⟩,I q λe=>J e.symm,C q λe=>J e.symm,?_⟩;have:=qwh (n:=n) hW h;rw[e] at this;exact this;by_cases hxn:x=n;subst hxn;exact absurd (.inr u) G;rw[E x hxn] at u;exact u;exact qxY n M.Q0;have ad:iy M n=true:=hu.resolve_left hf;have e:fX M n=(0,{ M with J6:=ins n M.J6 }):=by rw[fX,iN (by rw[R];decide),Ai.2 hf];dsimp only;rw[iP ad]
 rw[e] at hw;have E:∀x,x≠n->iy { M with J6:=ins n M.J6 } x=iy M x:=λx u=>by rw[Ka,uv,uv];dsimp only;rw[DB];constructor;rintro⟨U,V,h3,h4,h5,h6⟩;exact⟨U,V,h3,h4,λh=>h5 (.inr h),h6⟩;rintro⟨U,V,h3,h4,h5,h6⟩;exact⟨U,V,h3,h4,λh=>h.elim u h5,h6⟩
 have G:¬eH { M with J6:=ins n M.J6 } n:=λh=>by rcases h with h|h;exact hf h;exact (uv.1 h).2.2.2.2.1 (DB.2 (.inl rfl))
 have I:∀x,x≠n->dS D { M with J6:=ins n M.J6 } x=dS D M x:=λx u=>FX { M with J6:=ins n M.J6 } R R rfl (E x u);have C:∀x,x≠n->(eH { M with J6:=ins n M.J6 } x↔eH M x):=λx u=>FU { M with J6:=ins n M.J6 } rfl (E x u);refine⟨_,e,⟨hw,R,rfl,rfl,rfl,rfl,λh=>?_,rfl,λx _ u=>I x u,λx _ u=>C x u,λx u=>?_,λy O=>(nomatch O),λ_=>G⟩,I q λe=>J e.symm,C q λe=>J e.symm,zM _⟩;exact h;by_cases hxn:x=n;subst hxn;exact absurd (.inr u) G;rw[E x hxn] at u;exact u
end
noncomputable def dU (D:dV) (M:eZ) (k v:Nat) (p:Int):dW×Int:=
 if (dS D M p).2.2≠0 then (jr,(dS D M p).2.2) else jw (dS D M p).1 (dS D M p).2.1 k v
noncomputable def ee (k v:Nat) (M:eZ) (p:Int) (n:dW):KI×eZ:=
 if (fH n k v).2.2≠0 then ((0,2),M)
 else if p≠0/\(kB M p (fH n k v).1 (fH n k v).2.1).1≠10 then ((p,(kB M p (fH n k v).1 (fH n k v).2.1).1),(kB M p (fH n k v).1 (fH n k v).2.1).2)
 else if (ia M (fH n k v).1 (fH n k v).2.1).1.2=0/\p≠0 then (((ia M (fH n k v).1 (fH n k v).2.1).1.1,(fX (ia M (fH n k v).1 (fH n k v).2.1).2 p).1),(fX (ia M (fH n k v).1 (fH n k v).2.1).2 p).2)
 else ia M (fH n k v).1 (fH n k v).2.1
structure jm (n:dW) (k v:Nat):Prop where
 right:gx n k v
 J5:∀ a∈n.J5,fq a
 J9:∀ a∈n.J9,fq a
 J8:∀ x∈n.J8,x<4294967296
def jm.load{k v:Nat}{n:dW}(h:jm n k v)(u:dS D M p=(jJ n,io n,0)):dU D M k v p=(n,0):=by unfold dU;rw[u];exact (iN λh=>h rfl).trans (qwN h.right h.J8)
def qtJ{k v:Nat}{n:dW}(hW:M.Wf)(ho:M.Q2=false)(hn:jm n k v)(U:p=0\/eH M p)(hf:M.Q0≠[]): ∃q M',ee k v M p n=((q,0),M')/\od D M M' q (if p=0 then q else p) (some (jJ n,io n))/\(q=p\/¬eH M q)/\M.Q0.length<=M'.Q0.length+1/\(p∈M.J7.map (·.1)->q=p/\M'.Q0=M.Q0):=by
 have hw:fH n k v=(jJ n,io n,0):=(by unfold fH;rw[iP hn.right]);have hB:=qqG hn.J5 hn.J9;have hl:=(FE hn.right).2;have hk:0<=jJ n/\jJ n<256:=(by unfold jJ;split<;>exact⟨oN,oN⟩);unfold ee;rw[hw];dsimp only;rw[iN λh=>h rfl];obtain⟨q,fr,I⟩:∃q fr,M.Q0=q::fr:=by
  cases e:M.Q0 with
  | nil=>exact absurd e hf
  | cons q fr=>exact⟨q,fr,rfl⟩
 obtain⟨M1,e1,u,J,V,_⟩:=quk (D:=D) hW ho hk hB hl I;rcases U with rfl|U;rw[iN λh=>h.1 rfl,iN λh=>h.2 rfl,e1];refine⟨q,M1,rfl,by rw[iP rfl];exact u,.inr J,by rw[I,V];exact zM _,λh=>?_⟩;have:=(Dx hW (.inl h)).1;omega;have E:p≠0:=(by have:=(Dx hW U).1;omega);by_cases hfp:p∈M.J7.map (·.1);obtain⟨M2,e2,C,O,_⟩:=qwK (D:=D) hW ho hk hB hl hfp;rw[e2,iP ⟨E,(show (0:Int)≠10 by decide)⟩];exact⟨p,M2,rfl,by rw[iN E];exact C,.inl rfl,by rw[O];omega,λ_=>⟨rfl,O⟩⟩;rw[qyp ho hfp,iN λh=>h.2 rfl,e1,iP ⟨rfl,E⟩];have Q:p≠q:=λe=>J (e▸U);have ag:eH M1 p:=(u.use p Q Q).2 U;obtain⟨M2,e2,C,ah,ai,O⟩:=qmZ (D:=D) u.wf u.Q2 ag Q;dsimp only;rw[e2];refine⟨q,M2,rfl,?_,.inr J,by rw[I,yJ,<- V];omega,λh=>absurd h hfp⟩;rw[iN E];exact⟨C.wf,C.Q2,C.Q1.trans u.Q1,C.j9.trans u.j9,C.Q4.trans u.Q4,C.Q8.trans u.Q8,λh=>C.x9 (u.x9 h),C.x5.trans u.x5,λx G R=>(C.rest x G R).trans (u.rest x G G),λx G R=>(C.use x G R).trans (u.use x G G),λx G=>u.nt x (C.nt x G),λy hy=>by
  have:=u.wrote y hy;exact⟨ah.trans this.1,ai.2 this.2⟩,λh=>C.left h⟩
section
structure Grown where
 x4:Int
 J7:Bool
 key:Key
 Q9:Int
def qI:Grown:=⟨0,false,[],0⟩
def gy {α:Type} (l:List α) (i:Nat) (x:α):List α:=l.take i++[x]++l.drop i
def fI (n:dW) (k v:Nat):KQ:=if n.Q3 then (n.J5.length,(eG k v).1) else (n.J8.length,(eG k v).2)
def eP (n:dW) (mid:Nat):dW×dW×Key:=
 if n.Q3 then ({ n with J5:=n.J5.take mid,J9:=n.J9.take mid },{ n with J5:=n.J5.drop mid,J9:=n.J9.drop mid },n.J5.getD mid [])
 else ({ n with J8:=n.J8.take mid,J5:=n.J5.take (mid-1) },{ n with J8:=n.J8.drop mid,J5:=n.J5.drop mid },n.J5.getD (mid-1) [])
noncomputable def gY (k v:Nat) (M:eZ) (p:Int) (n:dW) (J7:Bool):(Grown×Int)×eZ:=
 if (fI n k v).1>(fI n k v).2 then
  if (ee k v M 0 (eP n ((fI n k v).1 / 2)).2.1).1.2≠0 then ((qI,(ee k v M 0 (eP n ((fI n k v).1 / 2)).2.1).1.2),(ee k v M 0 (eP n ((fI n k v).1 / 2)).2.1).2)
  else ((⟨(ee k v (ee k v M 0 (eP n ((fI n k v).1 / 2)).2.1).2 p (eP n ((fI n k v).1 / 2)).1).1.1,J7,(eP n ((fI n k v).1 / 2)).2.2,(ee k v M 0 (eP n ((fI n k v).1 / 2)).2.1).1.1⟩,
    (ee k v (ee k v M 0 (eP n ((fI n k v).1 / 2)).2.1).2 p (eP n ((fI n k v).1 / 2)).1).1.2),
    (ee k v (ee k v M 0 (eP n ((fI n k v).1 / 2)).2.1).2 p (eP n ((fI n k v).1 / 2)).1).2)
 else ((⟨(ee k v M p n).1.1,J7,[],0⟩,(ee k v M p n).1.2),(ee k v M p n).2)
def iC (n:dW) (c:Nat) (g:Grown):dW:=
 if g.Q9≠0 then { n with J8:=gy (n.J8.set c g.x4) (c+1) g.Q9,J5:=gy n.J5 c g.key } else { n with J8:=n.J8.set c g.x4 }
noncomputable def jc (D:dV) (k v:Nat) (key val:Key):Nat->eZ->Int->(Grown×Int)×eZ
 | 0,M,_=>((qI,-1),M)
 | f+1,M,p=>
  if (dU D M k v p).2≠0 then ((qI,(dU D M k v p).2),M)
  else if (dU D M k v p).1.Q3 then
   if (dU D M k v p).1.J5[dY (dU D M k v p).1.J5 key]?=some key then gY k v M p { (dU D M k v p).1 with J9:=(dU D M k v p).1.J9.set (dY (dU D M k v p).1.J5 key) val } false
   else gY k v M p { (dU D M k v p).1 with J5:=gy (dU D M k v p).1.J5 (dY (dU D M k v p).1.J5 key) key,J9:=gy (dU D M k v p).1.J9 (dY (dU D M k v p).1.J5 key) val } true
  else if (jc D k v key val f M ((dU D M k v p).1.J8.getD (eT (dU D M k v p).1.J5 key) 0)).1.2≠0 then
   ((qI,(jc D k v key val f M ((dU D M k v p).1.J8.getD (eT (dU D M k v p).1.J5 key) 0)).1.2),(jc D k v key val f M ((dU D M k v p).1.J8.getD (eT (dU D M k v p).1.J5 key) 0)).2)
  else if (jc D k v key val f M ((dU D M k v p).1.J8.getD (eT (dU D M k v p).1.J5 key) 0)).1.1.x4=(dU D M k v p).1.J8.getD (eT (dU D M k v p).1.J5 key) 0/\(jc D k v key val f M ((dU D M k v p).1.J8.getD (eT (dU D M k v p).1.J5 key) 0)).1.1.Q9=0 then
   ((⟨p,(jc D k v key val f M ((dU D M k v p).1.J8.getD (eT (dU D M k v p).1.J5 key) 0)).1.1.J7,[],0⟩,0),(jc D k v key val f M ((dU D M k v p).1.J8.getD (eT (dU D M k v p).1.J5 key) 0)).2)
  else gY k v (jc D k v key val f M ((dU D M k v p).1.J8.getD (eT (dU D M k v p).1.J5 key) 0)).2 p (iC (dU D M k v p).1 (eT (dU D M k v p).1.J5 key) (jc D k v key val f M ((dU D M k v p).1.J8.getD (eT (dU D M k v p).1.J5 key) 0)).1.1) (jc D k v key val f M ((dU D M k v p).1.J8.getD (eT (dU D M k v p).1.J5 key) 0)).1.1.J7
structure jh where
 x4:Int
 size:Nat
 y6:gH
 y7:KE
abbrev iO:=Key×jh
def eQ (L:gH):dW:=⟨true,L.map (·.1),L.map (·.2),[]⟩
def dX (es:List iO):dW:=⟨false,(es.map (·.1)).tail,[],es.map (·.2.x4)⟩
structure gB (es:List iO):Prop where
 pair:es.Pairwise λa b=>gq a.1 b.1/\∀ x∈a.2.y6,gq x.1 b.1
 low:∀ e∈es,∀ x∈e.2.y6,nm e.1 x.1
def minOf (k v:Nat) (h:Nat):Nat:=if h=0 then (eG k v).1 / 2 else (eG k v).2 / 2
def Has (D:dV) (M:eZ) (k v:Nat):Nat->jh->Prop
 | 0,s=>s.y7=[s.x4]/\s.size=s.y6.length/\jm (eQ s.y6) k v/\dS D M s.x4=(3,io (eQ s.y6),0)
 | h+1,s=>∃u:List iO,(u.map (·.1)).head?=some []/\s.size=u.length/\s.y6=u.flatMap (·.2.y6)/\s.y7=s.x4::u.flatMap (·.2.y7)/\jm (dX u) k v/\dS D M s.x4=(4,io (dX u),0)/\gB u/\
   ∀e∈u,Has D M k v h e.2/\minOf k v h<=e.2.size
def DG(x:Key):nm [] x:=by unfold nm gq;cases x<;>simp[cmpL]
def qnn{x:Key}:¬gq x []:=DG x
section
variable {D:dV} {M M':eZ} {k v:Nat}
def Has.mem:∀ {h:Nat} {s:jh},Has D M k v h s->s.x4∈s.y7
 | 0,s,u=>by rw[u.1];simp
 | h+1,s,⟨E,_,_,_,C,_⟩=>by rw[C];simp
def Has.j0:∀ {h:Nat} {s:jh},Has D M k v h s->(∀x∈s.y7,dS D M' x=dS D M x)->Has D M' k v h s
 | 0,s,⟨C,G,u,I⟩,E=>⟨C,G,u,by rw[E s.x4 (by rw[C];simp)];exact I⟩
 | h+1,s,⟨Q,R,C,G,u,I,U,V,O⟩,E=>⟨Q,R,C,G,u,I,by rw[E s.x4 (by rw[u];simp)];exact U,V,λe J=>⟨(O e J).1.j0 λx hx=>E x (by rw[u];exact zN _ (yL.2 ⟨e,J,hx⟩)),(O e J).2⟩⟩
def Has.read:∀ {h:Nat} {s:jh},Has D M k v h s->∀x∈s.y7,(dS D M x).2.2=0
 | 0,s,⟨C,I,E,G⟩,x,u=>by rw[C] at u;rw[zE.1 u,G]
 | h+1,s,⟨R,U,C,I,E,G,J,V,O⟩,x,u=>by rw[E] at u;rcases zG.1 u with rfl|u;rw[J];obtain⟨e,Q,u⟩:=yL.1 u;exact (O e Q).1.read x u
def Has.J3(u:M.Q2=false){s:jh}(C:Has D M k v h s):∀x∈s.y7,eH M x:=λx E=>Jz u (C.read x E)
def gx.BE(h:gx (eQ L) k v):L≠[]:=λe=>by
 have:=h.2.2.2;rw[iP (show (eQ L).Q3=true from rfl)] at this;have u:=this.2.1;rw[e] at u;exact absurd u oN
def gx.x8{es:List iO}(h:gx (dX es) k v):2<=es.length/\es.length<=(eG k v).2:=by
 have:=h.2.2.2;rw[iN (show ¬(dX es).Q3=true from λe=>nomatch e)] at this;have u:=this.2.2.1;have C:=this.2.2.2.1;have e:(dX es).J8.length=es.length:=(by show (es.map _).length=_;rw[zK]);rw[e] at u C;exact⟨u,C⟩
def Has.ne:∀ {h:Nat} {s:jh},Has D M k v h s->s.y6≠[]
 | 0,s,⟨G,u,C,E⟩=>C.right.BE
 | h+1,s,⟨I,O,G,u,C,E,Q,R,J⟩=>λe=>by
  have:=E.right.x8
  cases I with
  | nil=>simp at this
  | cons a r=>
   rw[u,yI] at e;exact (J a oM).1.ne (append_eq_nil_iff.1 e).1
def gB.mid{A B:List iO}{e:iO}(h:gB (A++e::B)):(∀a∈A,∀x∈a.2.y6,gq x.1 e.1)/\(∀b∈B,gq e.1 b.1/\(∀x∈e.2.y6,gq x.1 b.1)/\∀y∈b.2.y6,nm b.1 y.1):=by
 have u:=pairwise_append.1 h.pair;refine⟨λa E x G=>(u.2.2 a E e oM).2 x G,λb C=>?_⟩;have:=(yK.1 u.2.1).1 b C;exact⟨this.1,this.2,h.low b (by simp[C])⟩
def gB.sort:∀ {es:List iO},gB es->(∀e∈es,fT e.2.y6)->fT (es.flatMap (·.2.y6))
 | [],_,_=>.nil
 | e::es,h,E=>by rw[yI,fT.vO];have G:=yK.1 h.pair;refine⟨E e oM,gB.sort ⟨G.2,λe u=>h.low e (zN _ u)⟩ λe u=>E e (zN _ u),λx J y C=>?_⟩;obtain⟨b,I,C⟩:=yL.1 C;exact uf ((G.1 b I).2 x J) (h.low b (zN _ I) y C)
def Has.sort:∀ {h:Nat} {s:jh},Has D M k v h s->fT s.y6
 | 0,s,⟨E,u,C,G⟩=>C.right.2.2.1
 | h+1,s,⟨Q,R,E,u,C,G,U,I,J⟩=>by rw[u];exact I.sort λe O=>(J e O).1.sort
def nX (k v:Nat) (L:gH):Prop:=∀x∈L,x.1.length=k/\x.2.length=v/\fq x.1/\fq x.2
def Has.Ax:∀ {h:Nat} {s:jh},Has D M k v h s->nX k v s.y6
 | 0,s,⟨G,E,C,I⟩=>λx u=>⟨C.right.1 x.1 (zZ u),C.right.2.1 x.2 (zZ u),C.J5 x.1 (zZ u),C.J9 x.2 (zZ u)⟩
 | h+1,s,⟨Q,R,G,E,C,I,U,V,J⟩=>λx u=>by rw[E] at u;obtain⟨e,O,u⟩:=yL.1 u;exact (J e O).1.Ax x u
def C6(C:nX k v L)(E:fT L)(G:1<=L.length)(I:L.length<=(eG k v).1):jm (eQ L) k v:=by refine⟨⟨λa u=>?_,λa u=>?_,E,?_⟩,λa u=>?_,λa u=>?_,λx h=>nomatch h⟩;obtain⟨x,h,rfl⟩:=mem_map.1 u;exact (C x h).1;obtain⟨x,h,rfl⟩:=mem_map.1 u;exact (C x h).2.1;rw[iP (show (eQ L).Q3=true from rfl)];refine⟨rfl,?_,?_,?_⟩;show 1<=(L.map _).length;rw[zK];exact G;show (L.map _).length<=_;rw[zK];exact I;show (L.map _).length=(L.map _).length;rw[zK,zK];obtain⟨x,h,rfl⟩:=mem_map.1 u;exact (C x h).2.2.1;obtain⟨x,h,rfl⟩:=mem_map.1 u;exact (C x h).2.2.2
def qA3{es:List iO}(E:∀a∈(es.map (·.1)).tail,a.length=k/\fq a)(I:gz (es.map (·.1)).tail)(J:2<=es.length)(O:es.length<=(eG k v).2)(G:∀e∈es,2<=e.2.x4/\e.2.x4<4294967296):jm (dX es) k v:=by refine⟨⟨λa h=>(E a h).1,λa h=>(nomatch h),I,?_⟩,λa h=>(E a h).2,λa h=>(nomatch h),λx u=>?_⟩;rw[iN (show ¬(dX es).Q3=true from λe=>nomatch e)];have e1:(dX es).J8.length=es.length:=(by show (es.map _).length=_;rw[zK]);have Q:(dX es).J5.length=es.length-1:=(by show ((es.map _).tail).length=_;rw[length_tail,zK]);refine⟨λx u=>?_,rfl,by rw[e1];exact J,by rw[e1];exact O,by rw[e1,Q];omega⟩;obtain⟨e,C,rfl⟩:=mem_map.1 u;exact (G e C).1;obtain⟨e,C,rfl⟩:=mem_map.1 u;exact (G e C).2
def gB.rising{es:List iO}(h:gB es):gz (es.map (·.1)).tail:=by have u:(es.map (·.1)).Pairwise gq:=pairwise_map.2 (h.pair.imp λh=>h.1);exact List.Pairwise.sublist (tail_sublist _) u
structure Step (D:dV) (M M':eZ) (P P':KE):Prop where
 wf:M'.Wf
 Q2:M'.Q2=false
 Q1:M'.Q1=M.Q1
 j9:M'.j9=M.j9
 Q4:M'.Q4=M.Q4
 Q8:M'.Q8=M.Q8
 x9:M.x9->M'.x9
 x5:M'.x5=M.x5
 rest:∀ x,eH M x->x∉P->dS D M' x=dS D M x/\eH M' x/\x∉P'
 use:∀ x,eH M' x->x∈P'\/(eH M x/\x∉P)
 has:∀ x∈P',eH M' x
 new:∀ x∈P',x∈P\/¬ eH M x
 nodup:P'.Nodup
 nt:∀ x,iy M' x=true->iy M x=true
def Step.refl(C:M.Wf)(E:M.Q2=false){P:KE}(G:∀x∈P,eH M x)(I:P.Nodup):Step D M M P P:=
 ⟨C,E,rfl,rfl,rfl,rfl,id,rfl,λx u J=>⟨rfl,u,J⟩,λx u=>by by_cases h:x∈P;exact .inl h;exact .inr ⟨u,h⟩,G,λx u=>.inl u,I,λx u=>u⟩
def Step.perm{P P' Q I:KE}(h:Step D M M' P P')(G:P.Perm Q)(u:P'.Perm I):Step D M M' Q I:=
 ⟨h.wf,h.Q2,h.Q1,h.j9,h.Q4,h.Q8,h.x9,h.x5,λx C J=>by obtain⟨O,R,U⟩:=h.rest x C λE=>J (G.mem_iff.1 E);exact⟨O,R,λE=>U (u.mem_iff.2 E)⟩,λx C=>(h.use x C).imp (λh=>u.mem_iff.1 h) λh=>⟨h.1,λE=>h.2 (G.mem_iff.2 E)⟩,λx C=>h.has x (u.mem_iff.2 C),λx C=>(h.new x (u.mem_iff.2 C)).imp (λh=>G.mem_iff.1 h) id,u.nodup_iff.1 h.nodup,h.nt⟩
def Step.beside{P P' Z:KE}(h:Step D M M' P P')(O:∀x∈Z,eH M x)(R:(Z++P).Nodup):Step D M M' (Z++P) (Z++P'):=by have Q:=yN.1 R;have E:∀x∈Z,x∉P:=λx u I=>Q.2.2 x u x I rfl;refine⟨h.wf,h.Q2,h.Q1,h.j9,h.Q4,h.Q8,h.x9,h.x5,λx u I=>?_,λx u=>?_,λx u=>?_,λx u=>?_,?_,h.nt⟩;obtain⟨G,J,U⟩:=h.rest x u λC=>I (zI _ C);exact⟨G,J,λC=>(zD.1 C).elim (λC=>I (zH _ C)) U⟩;rcases h.use x u with G|⟨G,J⟩;exact .inl (zI _ G);by_cases hz:x∈Z;exact .inl (zH _ hz);exact .inr ⟨G,λC=>(zD.1 C).elim hz J⟩;rcases zD.1 u with u|u;exact (h.rest x (O x u) (E x u)).2.1;exact h.has x u;rcases zD.1 u with u|u;exact .inl (zH _ u);exact (h.new x u).imp (λh=>zI _ h) id;rw[yN];exact⟨Q.1,h.nodup,λx u y V e=>(h.rest x (O x u) (E x u)).2.2 (e▸V)⟩
def Step.trans{M1:eZ}{P Q R:KE}(h:Step D M M1 P Q)(g:Step D M1 M' Q R):Step D M M' P R:=
 ⟨g.wf,g.Q2,g.Q1.trans h.Q1,g.j9.trans h.j9,g.Q4.trans h.Q4,g.Q8.trans h.Q8,λx=>g.x9 (h.x9 x),g.x5.trans h.x5,λx C I=>by
  obtain⟨u,E,G⟩:=h.rest x C I;obtain⟨J,O,U⟩:=g.rest x E G;exact⟨J.trans u,O,U⟩,λx C=>by
  rcases g.use x C with u|⟨u,E⟩;exact .inl u;exact (h.use x u).elim (λG=>absurd G E) .inr,g.has,λx C=>by
  rcases g.new x C with u|u;exact h.new x u;by_cases hP:x∈P;exact .inl hP;by_cases hu:eH M x;exact absurd (h.rest x hu hP).2.1 u;exact .inr hu,g.nodup,λx C=>h.nt x (g.nt x C)⟩
def od.step(J:M.Q2=false)(h:od D M M' q p (some r))(O:eH M p)(E:q=p\/¬eH M q):Step D M M' [p] [q]:=by
 have I:=h.wrote r rfl;refine⟨h.wf,h.Q2,h.Q1,h.j9,h.Q4,h.Q8,h.x9,h.x5,λx G u=>?_,λx G=>?_,λx G=>?_,λx G=>?_,oM,h.nt⟩;have u:x≠p:=(oQ u);have C:x≠q:=λe=>by rcases E with E|E;exact u (e.trans E);exact E (e▸G)
 exact⟨h.rest x C u,(h.use x C u).2 G,by simpa using C⟩;by_cases C:x=q;exact .inl (by simp[C]);by_cases u:x=p;subst u;exact absurd G (h.left λe=>C e);exact .inr ⟨(h.use x C u).1 G,by simpa using u⟩;rw[zE.1 G];exact I.2;rw[zE.1 G];rcases E with E|E;exact .inl (by simp[E]);exact .inr E
def od.J7(I:M.Q2=false)(h:od D M M' q q (some r))(E:¬eH M q):Step D M M' [] [q]:=by have G:=h.wrote r rfl;refine⟨h.wf,h.Q2,h.Q1,h.j9,h.Q4,h.Q8,h.x9,h.x5,λx C _=>?_,λx C=>?_,λx C=>?_,λx C=>?_,oM,h.nt⟩;have u:x≠q:=λe=>E (e▸C);exact⟨h.rest x u u,(h.use x u u).2 C,by simpa using u⟩;by_cases u:x=q;exact .inl (by simp[u]);exact .inr ⟨(h.use x u u).1 C,oM⟩;rw[zE.1 C];exact G.2;rw[zE.1 C];exact .inr E
end
end
section
section
variable {D:dV} {M M':eZ} {k v:Nat}
def I0{n:dW}(C:M.Wf)(E:M.Q2=false)(G:jm n k v)(h:eH M p)(I:M.Q0≠[]): ∃q M',ee k v M p n=((q,0),M')/\Step D M M' [p] [q]/\dS D M' q=(jJ n,io n,0)/\M.Q0.length<=M'.Q0.length+1/\(p∈M.J7.map (·.1)->q=p/\M'.Q0=M.Q0):=by obtain⟨q,M',e,t,J,O,Q⟩:=qtJ (D:=D) C E G (.inr h) I;have u:p≠0:=(by have:=(Dx C h).1;omega);rw[iN u] at t;exact⟨q,M',e,t.step E h J,(t.wrote _ rfl).1,O,Q⟩
def Ip{n:dW}(E:M.Wf)(u:M.Q2=false)(G:jm n k v)(I:M.Q0≠[]): ∃q M',ee k v M 0 n=((q,0),M')/\Step D M M' [] [q]/\dS D M' q=(jJ n,io n,0)/\M.Q0.length<=M'.Q0.length+1/\q≠0:=by obtain⟨q,M',e,t,J,O,_⟩:=qtJ (D:=D) E u G (.inl rfl) I;rw[iP rfl] at t;have C:=t.wrote _ rfl;have Q:=(Dx t.wf C.2).1;have h:¬eH M q:=J.resolve_left oK;exact⟨q,M',e,t.J7 u h,C.1,O,oK⟩
def qnx{n:dW}{J7:Bool}(h:M.Wf)(u:M.Q2=false)(C:jm n k v)(O:(fI n k v).1<=(fI n k v).2)(E:eH M p)(G:M.Q0≠[]): ∃q M',gY k v M p n J7=((⟨q,J7,[],0⟩,0),M')/\Step D M M' [p] [q]/\dS D M' q=(jJ n,io n,0)/\M.Q0.length<=M'.Q0.length+1:=by obtain⟨q,M',e,st,I,J,_⟩:=I0 (D:=D) h u C E G;refine⟨q,M',?_,st,I,J⟩;unfold gY;rw[iN,e]
def qrC{n:dW}{J7:Bool}{mid:Nat}(hW:M.Wf)(ho:M.Q2=false)(C:(fI n k v).1 / 2=mid)(h1:jm (eP n mid).1 k v)(h2:jm (eP n mid).2.1 k v)(hs:(fI n k v).1>(fI n k v).2)(hp:eH M p)(hf:2<=M.Q0.length): ∃q o M',gY k v M p n J7=((⟨q,J7,(eP n mid).2.2,o⟩,0),M')/\o≠0/\Step D M M' [p] [q,o]/\dS D M' q=(jJ (eP n mid).1,io (eP n mid).1,0)/\dS D M' o=(jJ (eP n mid).2.1,io (eP n mid).2.1,0)/\M.Q0.length<=M'.Q0.length+2:=by
 subst C;obtain⟨o,M1,e1,u,O,E,Q⟩:=Ip (D:=D) hW ho h2 (λe=>by rw[e] at hf;exact absurd hf oN);have s1:=u.beside (Z:=[p]) (λx R=>by rw[zE.1 R];exact hp) oM;have U:eH M1 p:=s1.has p oM;obtain⟨q,M2,e2,G,V,ak,_⟩:=I0 (D:=D) u.wf u.Q2 h1 U (λe=>by rw[e] at E;simp at E;omega);have I:o≠p:=λe=>by rcases u.new o oM with h|h;cases h;exact h (e▸hp)
 have J:eH M1 o:=u.has o oM;have s2:=G.beside (Z:=[o]) (λx R=>by rw[zE.1 R];exact J) (oQ I);refine⟨q,o,M2,?_,Q,(s1.perm (.refl _) (List.Perm.swap _ _ _)).trans (s2.perm (.refl _) (List.Perm.swap _ _ _)),V,?_,oK⟩;unfold gY;rw[iP hs,e1];dsimp only;rw[iN λh=>h rfl,e2];rw[(G.rest o J (oQ I)).1];exact O
def qBY{val:Key}{i:Nat}(h:(eh L)[i]?=some key):(⟨(eQ L).Q3,eh L,(eQ L).J9.set i val,(eQ L).J8⟩:dW)=eQ (L.set i (key,val)):=by
 unfold eQ;rw[map_set,map_set];have:(L.map (·.1)).set i key=L.map (·.1):=by obtain⟨u,C⟩:=zP.1 h;rw[<- C];exact set_getElem_self u
 rw[this]
def qBe{val:Key}{i:Nat}:(⟨(eQ L).Q3,gy (eh L) i key,gy (eQ L).J9 i val,(eQ L).J8⟩:dW)=eQ (L.take i++[(key,val)]++L.drop i):=by unfold eQ gy;simp only[xP,xR,xS,xQ,map_nil]
def qx6{mid:Nat}(h:mid<L.length):eP (eQ L) mid=(eQ (L.take mid),eQ (L.drop mid),L[mid].1):=by unfold eP;rw[iP (show (eQ L).Q3=true from rfl)];unfold eQ;simp only[xR,xS,Prod.mk.injEq,true_and];rw[yS,zQ,zA h];rfl
def EJ:fI (eQ L) k v=(L.length,(eG k v).1):=by unfold fI;rw[iP (show (eQ L).Q3=true from rfl)];show ((L.map _).length,_)=_;rw[zK]
def nX.sub{L':gH}(h:nX k v L)(u:∀x∈L',x∈L):nX k v L':=λx C=>h x (u x C)
def fT.take{L:gH}(h:fT L)(n:Nat):fT (L.take n):=by unfold fT eh;rw[xR];exact gz.take h n
def fT.drop{L:gH}(h:fT L)(n:Nat):fT (L.drop n):=by unfold fT eh;rw[xS];exact gz.drop h n
def DI(h:jm (eQ L) k v)(u:dS D M q=(3,io (eQ L),0)):Has D M k v 0 ⟨q,L.length,L,[q]⟩:=⟨rfl,rfl,h,u⟩
structure zj (D:dV) (M:eZ) (k v:Nat) (h:Nat) (s:jh) (key val:Key) (g:Grown) (M':eZ):Prop where
 J7:g.J7=decide (key∉eh s.y6)
 Q0:M.Q0.length<=M'.Q0.length+2*(h+1)
 Fv:(g.Q9=0/\∃ n P,Has D M' k v h ⟨g.x4,n,gI key val s.y6,P⟩/\Step D M M' s.y7 P/\s.size<=n)\/
  (g.Q9≠0/\∃ n1 L1 P1 n2 L2 P2,Has D M' k v h ⟨g.x4,n1,L1,P1⟩/\Has D M' k v h ⟨g.Q9,n2,L2,P2⟩/\L1++L2=gI key val s.y6/\(∀ x∈L1,gq x.1 g.key)/\(∀ y∈L2,nm g.key y.1)/\g.key.length=k/\fq g.key/\minOf k v h<=n1/\minOf k v h<=n2/\Step D M M' s.y7 (P1++P2))
structure je (k v:Nat):Prop where
 Q3:2<=(eG k v).1
 inner:4<=(eG k v).2
def qtr{L':gH}{val:Key}{J7:Bool}(hc:je k v)(hW:M.Wf)(ho:M.Q2=false)(hp:eH M p)(V:2<=M.Q0.length)(Q:nX k v L')(R:fT L')(h1:1<=L'.length)(h2:L'.length<=(eG k v).1+1)(h3:L.length<=L'.length)(he:L'=gI key val L)(C:J7=decide (key∉eh L)): ∃g M',gY k v M p (eQ L') J7=((g,0),M')/\zj D M k v 0 ⟨p,L.length,L,[p]⟩ key val g M':=by by_cases hb:L'.length<=(eG k v).1;have hn:=C6 Q R h1 hb;obtain⟨q,M',e,st,hr,hl⟩:=qnx (D:=D) (J7:=J7) hW ho hn (by rw[EJ];exact hb) hp (λe=>by rw[e] at V;exact absurd V oN);refine⟨_,M',e,C,by show M.Q0.length<=M'.Q0.length+2;omega,.inl ⟨rfl,L'.length,[q],?_,st,h3⟩⟩;rw[<- he];exact DI hn hr;have ah:L'.length=(eG k v).1+1:=oK;have ar:=hc.Q3;have h:L'.length / 2<L'.length:=oK;have hh:=qx6 h;have n1:jm (eQ (L'.take (L'.length / 2))) k v:=C6 (Q.sub λx E=>yW E) (R.take _) (by rw[yM];omega) (by rw[yM];omega);have n2:jm (eQ (L'.drop (L'.length / 2))) k v:=C6 (Q.sub λx E=>yV E) (R.drop _) (by rw[yC];omega) (by rw[yC];omega);obtain⟨q,o,M',e,ab,st,G,I,hl⟩:=qrC (D:=D) (k:=k) (v:=v) (p:=p) (J7:=J7) (mid:=L'.length / 2) (n:=eQ L') hW ho (by rw[EJ]) (by rw[hh];exact n1) (by rw[hh];exact n2) (by rw[EJ];show L'.length>_;omega) hp V;rw[hh] at e G I;have J:L'=L'.take (L'.length / 2)++L'.drop (L'.length / 2):=(xG _ _).symm;have hd:=zY h;have u:=R;rw[J] at u;have u:=fT.vO.1 u;have O:=Q _ (zX h);refine⟨⟨q,J7,L'[L'.length / 2].1,o⟩,M',e,C,by show M.Q0.length<=M'.Q0.length+2;omega,.inr ⟨ab,(L'.take (L'.length / 2)).length,_,[q],(L'.drop (L'.length / 2)).length,_,[o],DI n1 G,DI n2 I,by rw[<- J];exact he,λx E=>u.2.2 x E _ (by rw[hd];exact JZ),λy U=>?_,O.1,O.2.2.1,?_,?_,st⟩⟩;have h5:=u.2.1;rw[hd] at U h5;rcases zG.1 U with rfl|U;exact tX;exact uH (BB (x:=L'[L'.length / 2].1) (r:=eh _) h5 y.1 (zZ U));rw[yM];show (eG k v).1 / 2<=_;omega;rw[yC];show (eG k v).1 / 2<=_;omega
def xi{es:List iO}(u:(es.map (·.1)).head?=some [])(O:gB es):∃A e B,es=A++e::B/\A.length=eT ((es.map (·.1)).tail) key/\nm e.1 key/\(∀b∈B,gq key b.1)/\(es.map (·.2.x4)).getD (eT ((es.map (·.1)).tail) key) 0=e.2.x4:=by
 have Q:=O.rising;have C:=Ce ((es.map (·.1)).tail) key;have E:es≠[]:=λe=>by rw[e] at u;cases u
 have I:0<es.length:=length_pos_iff.2 E;have h:eT ((es.map (·.1)).tail) key<es.length:=(by rw[length_tail,zK] at C;omega);generalize J:eT ((es.map (·.1)).tail) key=c at h;have G:es=es.take c++es[c]::es.drop (c+1):=(by rw[<- zY h,xG]);refine⟨es.take c,es[c],es.drop (c+1),G,by rw[yM];omega,?_,λb R=>?_,?_⟩;cases c with
 | zero=>
  have:es[0].1=[]:=by
   cases es with
   | nil=>cases u
   | cons a r=>simpa using u
  rw[this];exact DG _
 | succ c=>
  refine qoZ (l:=(es.map (·.1)).tail) (k:=key) ?_;rw[J];have U:(es.map (·.1)).tail[c]?=some es[c+1].1:=(by rw[List.getElem?_tail,zQ,zA h];rfl);refine yG (i:=c) ?_;rw[xC,iP];exact U
 refine qnd (l:=(es.map (·.1)).tail) Q ?_;rw[J];have:(es.map (·.1)).tail.drop c=(es.drop (c+1)).map (·.1):=(by rw[<- drop_one,xF,xS,Nat.add_comm]);rw[this];exact zZ R;rw[yS,zQ,zA h];rfl
def tF{α:Type}{f:iO->List α}{A B:List iO}{e:iO}:(A++e::B).flatMap f=A.flatMap f++(f e++B.flatMap f):=by rw[yR,yI]
def gB.put{A B:List iO}{e:iO}{s:jh}(h:gB (A++e::B))(I:nm e.1 key)(J:∀b∈B,gq key b.1)(Q:∀x∈s.y6,x.1=key\/x∈e.2.y6):gB (A++(e.1,s)::B):=by have G:=pairwise_append.1 h.pair;have O:=yK.1 G.2.1;refine⟨pairwise_append.2 ⟨G.1,yK.2 ⟨λb u=>⟨(O.1 b u).1,λx E=>?_⟩,O.2⟩,λa R b u=>?_⟩,λb u x E=>?_⟩;rcases Q x E with C|C;rw[C];exact J b u;exact (O.1 b u).2 x C;rcases zG.1 u with rfl|u;exact G.2.2 a R e oM;exact G.2.2 a R b (by simp[u]);rcases zD.1 u with u|u;exact h.low b (by simp[u]) x E;rcases zG.1 u with rfl|u;rcases Q x E with C|C;rw[C];exact I;exact h.low e oM x C;exact h.low b (by simp[u]) x E
def gB.Bm{A B:List iO}{lo:Key}{s s1 s2:jh}(h:gB (A++(lo,s)::B))(G:s.y6=s1.y6++s2.y6)(h1:∀x∈s1.y6,gq x.1 m)(h2:∀y∈s2.y6,nm m y.1)(I:s1.y6≠[])(J:s2.y6≠[]):gB (A++(lo,s1)::(m,s2)::B):=by have V:=pairwise_append.1 h.pair;have O:=yK.1 V.2.1;have Q:=h.low (lo,s) oM;obtain⟨x1,R⟩:=exists_mem_of_ne_nil _ I;obtain⟨y1,U⟩:=exists_mem_of_ne_nil _ J;have hm:gq lo m:=Ex (Q x1 (by show x1∈s.y6;rw[G];exact zH _ R)) (h1 x1 R);have ad:∀b∈B,gq m b.1:=λb u=>Ex (h2 y1 U) ((O.1 b u).2 y1 (by show y1∈s.y6;rw[G];exact zI _ U));refine⟨pairwise_append.2 ⟨V.1,yK.2 ⟨λb u=>?_,yK.2 ⟨λb u=>⟨ad b u,λx C=>(O.1 b u).2 x (by show x∈s.y6;rw[G];exact zI _ C)⟩,O.2⟩⟩,λa ha b u=>?_⟩,λb u x C=>?_⟩;rcases zG.1 u with rfl|u;exact⟨hm,λx C=>h1 x C⟩;exact⟨(O.1 b u).1,λx C=>(O.1 b u).2 x (by show x∈s.y6;rw[G];exact zH _ C)⟩;have E:=V.2.2 a ha (lo,s) oM;rcases zG.1 u with rfl|u;exact E;rcases zG.1 u with rfl|u;exact⟨rL E.1 hm,λx C=>rL (E.2 x C) hm⟩;exact V.2.2 a ha b (by simp[u]);rcases zD.1 u with u|u;exact h.low b (by simp[u]) x C;rcases zG.1 u with rfl|u;exact Q x (by show x∈s.y6;rw[G];exact zH _ C);rcases zG.1 u with rfl|u;exact h2 x C;exact h.low b (by simp[u]) x C
def Fb{es:List iO}:fI (dX es) k v=(es.length,(eG k v).2):=by unfold fI;rw[iN (show ¬(dX es).Q3=true from λe=>nomatch e)];show ((es.map _).length,_)=_;rw[zK]
def lc:List iO->List iO
 | []=>[]
 | e::r=>([],e.2)::r
def qzH(es:List iO):dX (lc es)=dX es:=by cases es<;>rfl
def qxR{es:List iO}{mid:Nat}(E:1<=mid)(h:mid<es.length):eP (dX es) mid=(dX (es.take mid),dX (lc (es.drop mid)),es[mid].1):=by
 unfold eP;rw[iN (show ¬(dX es).Q3=true from λe=>nomatch e),qzH];unfold dX;have e1:(es.map (·.1)).tail.take (mid-1)=((es.take mid).map (·.1)).tail:=by rw[<- drop_one,<- drop_one,xR,drop_take]
 have u:(es.map (·.1)).tail.drop mid=((es.drop mid).map (·.1)).tail:=(by rw[<- drop_one,<- drop_one,xS,xF,xF,Nat.add_comm]);have C:(es.map (·.1)).tail.getD (mid-1) []=es[mid].1:=(by rw[yS,List.getElem?_tail,zQ,show mid-1+1=mid by omega,zA h];rfl);dsimp only;rw[e1,u,C];simp only[xR,xS]
def gB.take{es:List iO}(h:gB es)(n:Nat):gB (es.take n):=⟨List.Pairwise.sublist (take_sublist n es) h.pair,λe u=>h.low e (yW u)⟩
def gB.drop{es:List iO}(h:gB es)(n:Nat):gB (es.drop n):=⟨List.Pairwise.sublist (drop_sublist n es) h.pair,λe u=>h.low e (yV u)⟩
def gB.lc{es:List iO}(h:gB es):gB (lc es):=by
 cases es with
 | nil=>exact h
 | cons e r=>
  have C:=yK.1 h.pair;refine⟨yK.2 ⟨λb u=>⟨?_,(C.1 b u).2⟩,C.2⟩,λb u x G=>?_⟩;have:=(C.1 b u).1
  cases E:b.1 with
  | nil=>rw[E] at this;exact absurd this qnn
  | cons y l=>show cmpL [] (y::l)<0;simp[cmpL]
  rcases zG.1 u with rfl|u;exact DG _;exact h.low b (zN _ u) x G
def qpq{α:Type}{f:jh->List α}(es:List iO):(lc es).flatMap (λe=>f e.2)=es.flatMap λe=>f e.2:=by cases es<;>rfl
def qrv{P:jh->Prop}{es:List iO}(h:∀e∈es,P e.2):∀e∈lc es,P e.2:=by
 cases es with
 | nil=>exact h
 | cons a r=>
  intro e u;rcases zG.1 u with rfl|u;exact h a oM;exact h e (zN _ u)
def qwO{es:List iO}(h:es≠[]):((lc es).map (·.1)).head?=some []:=by cases es with|nil=>exact absurd rfl h|cons a r=>rfl
def qyz(es:List iO):(lc es).length=es.length:=by cases es<;>rfl
def iz (k:Nat) (es:List iO):Prop:=∀e∈es.tail,e.1.length=k/\fq e.1
def iz.tail{es:List iO}(h:iz k es):∀a∈(es.map (·.1)).tail,a.length=k/\fq a:=λa u=>by rw[<- map_tail] at u;obtain⟨e,C,rfl⟩:=mem_map.1 u;exact h e C
def iz.of{es:List iO}(h:jm (dX es) k v):iz k es:=λe u=>by have:e.1∈(dX es).J5:=(by show e.1∈(es.map (·.1)).tail;rw[<- map_tail];exact zZ u);exact⟨h.right.1 _ this,h.J5 _ this⟩
def wR(u:M.Wf){x:Int}(h:eH M x):2<=x/\x<4294967296:=by have C:=Dx u h;have E:=u.n4;omega
def Cc{es:List iO}(u:(es.map (·.1)).head?=some [])(C:jm (dX es) k v)(E:dS D M q=(4,io (dX es),0))(G:gB es)(I:∀e∈es,Has D M k v h e.2/\minOf k v h<=e.2.size): Has D M k v (h+1) ⟨q,es.length,es.flatMap (·.2.y6),q::es.flatMap (·.2.y7)⟩:=⟨es,u,rfl,rfl,rfl,C,E,G,I⟩
def qzG{A B:List iO}{e:iO}{s1 s2:jh}(O:((A++e::B).map (·.1)).head?=some []){g:Grown}(u:g.x4=s1.x4)(C:g.Q9=s2.x4)(E:g.key=m)(G:g.Q9≠0):iC (dX (A++e::B)) A.length g=dX (A++(e.1,s1)::(m,s2)::B):=by
 unfold iC;rw[iP G,u,C,E];unfold dX gy;dsimp only;congr 1;cases A with
 | nil=>simp
 | cons a A=>
  have:(A.map (·.1)++e.1::B.map (·.1)).take (A.length+1)=A.map (·.1)++[e.1]:=(by rw[show A.map (·.1)++e.1::B.map (·.1)=(A.map (·.1)++[e.1])++B.map (·.1) by simp];exact take_left' oM);have I:(A.map (·.1)++e.1::B.map (·.1)).drop (A.length+1)=B.map (·.1):=(by rw[show A.map (·.1)++e.1::B.map (·.1)=(A.map (·.1)++[e.1])++B.map (·.1) by simp];exact drop_left' oM);simp only[xP,xQ,xL,tail_cons,yJ];rw[this,I];simp
 have J:(A.map (·.2.x4)).length=A.length:=zK _;have h:(A.map (·.2.x4)++e.2.x4::B.map (·.2.x4)).set A.length s1.x4=(A.map (·.2.x4)++[s1.x4])++B.map (·.2.x4):=(by rw[set_append_right _ _ oK,J,Nat.sub_self];simp);simp only[xP,xQ];rw[h,take_left' oM,drop_left' oM];simp
def qxQ{A B:List iO}{e:iO}{s1:jh}{g:Grown}(u:g.x4=s1.x4)(C:g.Q9=0):iC (dX (A++e::B)) A.length g=dX (A++(e.1,s1)::B):=by unfold iC;rw[iN λh=>h C,u];unfold dX;dsimp only;have E:(A.map (·.2.x4)).length=A.length:=zK _;congr 1;simp;simp only[xP,xQ];rw[set_append_right _ _ oK,E,Nat.sub_self];rfl
def EG{α:Type}{a x b z:List α}:(a++(x++b)).Perm ((a++b)++x):=by rw[zV];exact List.Perm.append_left a perm_append_comm
def Step.node{M1 G:eZ}{a x y:KE}{Q:KE}(I:∀z∈p::(a++(x++b)),eH M z)(J:(p::(a++(x++b))).Nodup)(O:Step D M M1 x y)(R:Step D M1 G [p] Q):Step D M G (p::(a++(x++b))) (Q++(a++(y++b))):=by have h:(p::(a++(x++b))).Perm ((p::(a++b))++x):=(by rw[xL];exact (EG (z:=a)).cons p);have C:=(O.beside (Z:=p::(a++b)) (λz E=>I z (h.mem_iff.2 (zH _ E))) (h.nodup_iff.1 J));have u:((p::(a++b))++y).Perm ((a++(y++b))++[p]):=(by refine List.Perm.trans ?_ perm_append_comm;rw[xL];exact ((EG (z:=a)).symm).cons p);have U:=R.beside (Z:=a++(y++b)) (λz E=>C.has z (u.mem_iff.2 (zH _ E))) (u.nodup_iff.1 C.nodup);exact ((C.perm (h.symm) u).trans U).perm (.refl _) perm_append_comm
def qm8{es:List iO}{J7:Bool}(R:M.Wf)(I:M.Q2=false)(U:(es.map (·.1)).head?=some [])(J:jm (dX es) k v)(u:es.length<=(eG k v).2)(V:gB es)(E:∀e∈es,Has D M k v h e.2/\minOf k v h<=e.2.size)(hu:eH M p)(G:p∉es.flatMap (·.2.y7))(O:1<=M.Q0.length): ∃q M',gY k v M p (dX es) J7=((⟨q,J7,[],0⟩,0),M')/\Step D M M' [p] [q]/\Has D M' k v (h+1) ⟨q,es.length,es.flatMap (·.2.y6),q::es.flatMap (·.2.y7)⟩/\M.Q0.length<=M'.Q0.length+1:=by obtain⟨q,M',e,st,hr,hl⟩:=qnx (D:=D) (J7:=J7) R I J (by rw[Fb];exact u) hu (λe=>by rw[e] at O;exact absurd O oN);refine⟨q,M',e,st,Cc U J hr V λb C=>⟨(E b C).1.j0 λx Q=>?_,(E b C).2⟩,hl⟩;exact (st.rest x ((E b C).1.J3 I x Q) λhm=>G (yL.2 ⟨b,C,by rw[<- zE.1 hm];exact Q⟩)).1
def CD{es:List iO}(E:M.Wf)(G:M.Q2=false)(I:iz k es)(J:gB es)(O:2<=es.length)(Q:es.length<=(eG k v).2)(u:∀e∈es,Has D M k v h e.2):jm (dX es) k v:=
 qA3 I.tail J.rising O Q λe C=>wR E ((u e C).J3 G e.2.x4 (u e C).mem)
def qwP{es:List iO}(h:iz k es):iz k (lc es):=by cases es<;>exact h
def qxT{es:List iO}{J7:Bool}(hc:je k v)(hW:M.Wf)(ho:M.Q2=false)(h0:(es.map (·.1)).head?=some [])(hk:iz k es)(az:es.length=(eG k v).2+1)(hs:gB es)(O:∀e∈es,Has D M k v h e.2/\minOf k v h<=e.2.size)(hu:eH M p)(am:p∉es.flatMap (·.2.y7))(hf:2<=M.Q0.length): ∃q o m M' Q L1 P1 R L2 P2,gY k v M p (dX es) J7=((⟨q,J7,m,o⟩,0),M')/\o≠0/\Step D M M' [p] [q,o]/\Has D M' k v (h+1) ⟨q,Q,L1,q::P1⟩/\Has D M' k v (h+1) ⟨o,R,L2,o::P2⟩/\L1++L2=es.flatMap (·.2.y6)/\P1++P2=es.flatMap (·.2.y7)/\(∀x∈L1,gq x.1 m)/\(∀y∈L2,nm m y.1)/\m.length=k/\fq m/\minOf k v (h+1)<=Q/\minOf k v (h+1)<=R/\M.Q0.length<=M'.Q0.length+2:=by
 have aH:=hc.inner;have C:es.length / 2<es.length:=oK;have hh:=qxR (es:=es) (mid:=es.length / 2) oK C;have lt:(es.take (es.length / 2)).length=es.length / 2:=(by rw[yM];omega);have ld:(lc (es.drop (es.length / 2))).length=es.length-es.length / 2:=(by rw[qyz,yC]);have E:∀e∈es.take (es.length / 2),Has D M k v h e.2/\minOf k v h<=e.2.size:=λe u=>O e (yW u);have aq:∀e∈lc (es.drop (es.length / 2)),Has D M k v h e.2/\minOf k v h<=e.2.size:=qrv (P:=λs=>Has D M k v h s/\minOf k v h<=s.size) λe u=>O e (yV u);have U:=hs.take (es.length / 2);have V:=(hs.drop (es.length / 2)).lc;have ar:iz k (es.take (es.length / 2)):=λe u=>by refine hk e ?_;rw[<- drop_one,drop_take] at u;rw[<- drop_one];exact yW u
 have au:iz k (lc (es.drop (es.length / 2))):=qwP λe u=>by refine hk e ?_;rw[<- drop_one,xF,show es.length / 2+1=1+es.length / 2 by omega,<- xF] at u;rw[<- drop_one];exact yV u
 have Q:=CD hW ho ar U oK oK λe u=>(E e u).1;have R:=CD hW ho au V oK oK λe u=>(aq e u).1;have G:es.take (es.length / 2)++es.drop (es.length / 2)=es:=xG _ _;have hd:=zY C;obtain⟨q,o,M',e,aw,st,aa,ab,hl⟩:=qrC (D:=D) (k:=k) (v:=v) (p:=p) (J7:=J7) (mid:=es.length / 2) (n:=dX es) hW ho (by rw[Fb]) (by rw[hh];exact Q) (by rw[hh];exact R) (by rw[Fb];show es.length>_;omega) hu hf;rw[hh] at e aa ab;have fr:∀b∈es,∀x∈b.2.y7,dS D M' x=dS D M x:=λb I x J=>
  (st.rest x ((O b I).1.J3 ho x J) λhm=>am (yL.2 ⟨b,I,by rw[<- zE.1 hm];exact J⟩)).1
 have f1:∀e∈es.take (es.length / 2),Has D M' k v h e.2/\minOf k v h<=e.2.size:=λe u=>⟨(E e u).1.j0 (fr e (yW u)),(E e u).2⟩;have f2:∀e∈lc (es.drop (es.length / 2)),Has D M' k v h e.2/\minOf k v h<=e.2.size:=qrv (P:=λs=>Has D M' k v h s/\minOf k v h<=s.size) λe u=>⟨(O e (yV u)).1.j0 (fr e (yV u)),(O e (yV u)).2⟩;have ax:((es.take (es.length / 2)).map (·.1)).head?=some []:=by
  rw[xR];cases ad:es.map (·.1) with
  | nil=>rw[ad] at h0;cases h0
  | cons a r=>
   rw[ad] at h0;rw[show es.length / 2=(es.length / 2-1)+1 by omega,take_succ_cons];exact h0
 have ay:((lc (es.drop (es.length / 2))).map (·.1)).head?=some []:=qwO (by rw[hd];exact cons_ne_nil _ _);have ae:=hs;rw[<- G,hd] at ae;have hm:=ae.mid;have af:=hk es[es.length / 2] (by rw[<- drop_one];exact yG (i:=es.length / 2-1) (by rw[xB,show 1+(es.length / 2-1)=es.length / 2 by omega,zA C]));have ep:(lc (es.drop (es.length / 2))).flatMap (·.2.y6)=(es.drop (es.length / 2)).flatMap (·.2.y6):=qpq (f:=jh.y6) _;have eg:(lc (es.drop (es.length / 2))).flatMap (·.2.y7)=(es.drop (es.length / 2)).flatMap (·.2.y7):=qpq (f:=jh.y7) _;have H2:=Cc ay R ab V f2;refine⟨q,o,es[es.length / 2].1,M',_,_,_,_,_,_,e,aw,st,Cc ax Q aa U f1,H2,?_,?_,λx J=>?_,λy hy=>?_,af.1,af.2,?_,?_,hl⟩;rw[ep,<- yR,G];rw[eg,<- yR,G];obtain⟨a,ha,J⟩:=yL.1 J;exact hm.1 a ha x J;rw[ep,hd] at hy;obtain⟨b,I,hy⟩:=yL.1 hy;rcases zG.1 I with rfl|I;exact hs.low _ (zX C) y hy;exact CA (uH (hm.2 b I).1) ((hm.2 b I).2.2 y hy);show (eG k v).2 / 2<=_;omega;show (eG k v).2 / 2<=_;omega
def HU{A B:List iO}{e:iO}{s:jh}(h:iz k (A++e::B)):iz k (A++(e.1,s)::B):=by
 cases A with
 | nil=>exact h
 | cons a A=>
  intro b u;rcases zD.1 (show b∈A++(e.1,s)::B from u) with u|u;exact h b (show b∈A++e::B from zH _ u);rcases zG.1 u with rfl|u;exact h e (show e∈A++e::B from zI _ JZ);exact h b (show b∈A++e::B from zI _ (zN _ u))
def qs4{A B:List iO}{e:iO}{s1 s2:jh}(h:iz k (A++e::B))(G:m.length=k/\fq m):iz k (A++(e.1,s1)::(m,s2)::B):=by
 have E:∀b∈(m,s2)::B,(∀c∈B,c.1.length=k/\fq c.1)->b.1.length=k/\fq b.1:=λb u I=>(zG.1 u).elim (λe=>by rw[e];exact G) (I b);cases A with
 | nil=>exact λb u=>E b u λc C=>h c C
 | cons a A=>
  intro b u;rcases zD.1 (show b∈A++(e.1,s1)::(m,s2)::B from u) with u|u;exact h b (show b∈A++e::B from zH _ u);rcases zG.1 u with rfl|u;exact h e (show e∈A++e::B from zI _ JZ);exact E b u λc C=>h c (show c∈A++e::B from zI _ (zN _ C))
def qvy(hc:je k v){key val:Key}(hk:key.length=k/\fq key)(hv:val.length=v/\fq val):∀(h:Nat) (M:eZ) (s:jh),Has D M k v h s->M.Wf->M.Q2=false->s.y7.Nodup->s.size<=1000->2*(h+1)<=M.Q0.length-> ∃g M',jc D k v key val (h+1) M s.x4=((g,0),M')/\zj D M k v h s key val g M'
 | 0,M,⟨p,n,L,P⟩,⟨h1,h2,h3,h4⟩,hW,ho,aR,_,hf=>by
  dsimp only at h1 h2 h3 h4;subst h1 h2;have hp:eH M p:=Jz ho (by rw[h4]);have hl:dU D M k v p=(eQ L,0):=h3.load h4;have hs:fT L:=h3.right.2.2.1;have hL:nX k v L:=λx E=>⟨h3.right.1 x.1 (zZ E),h3.right.2.1 x.2 (zZ E),h3.J5 x.1 (zZ E),h3.J9 x.2 (zZ E)⟩;have I:=h3.right.2.2.2;rw[iP (show (eQ L).Q3=true from rfl)] at I;have a2:1<=L.length/\L.length<=(eG k v).1:=by have e:(eQ L).J5.length=L.length:=zK _;rw[e] at I;exact⟨I.2.1,I.2.2.1⟩
  have aT:(eQ L).J5=eh L:=rfl;have ai:=qwq (v:=val) (k:=key) hs;have ay:nX k v (gI key val L):=λx E=>(DV E).elim (λe=>by rw[e];exact⟨hk.1,hv.1,hk.2,hv.2⟩) (hL x);have az:=Fh (k:=key) (v:=val) hs;unfold jc;rw[hl];dsimp only;rw[iN λh=>h rfl,iP (show (eQ L).Q3=true from rfl),aT];by_cases O:(eh L)[dY (eh L) key]?=some key;rw[iP O,qBY O];rw[iP O] at ai;have aj:=E9 (v:=val) hs ((AP hs).1 O);rw[ai] at ay az aj;exact qtr hc hW ho hp oK ay az oK oK oK ai.symm (by rw[zU λh=>h ((AP hs).1 O)]);rw[iN O,qBe];rw[iN O] at ai;have a3:key∉eh L:=λh=>O ((AP hs).2 h);have aj:=Fg (v:=val) a3;rw[ai] at ay az aj;exact qtr hc hW ho hp oK ay az oK oK oK ai.symm (by rw[yA a3])
 | h+1,M,⟨p,n,L,P⟩,⟨J,h0,h1,h2,h3,h4,h5,h6,h7⟩,hW,ho,aR,h8,hf=>by
  dsimp only at h1 h2 h3 h5 aR h8;subst h1 h2 h3;have hp:eH M p:=Jz ho (by rw[h5]);have hl:dU D M k v p=(dX J,0):=h4.load h5;have bS:=h4.right.x8;obtain⟨A,e,B,G,hA,aU,aV,aW⟩:=xi (key:=key) h0 h6;have aX:(dX J).J8.getD (eT (dX J).J5 key) 0=e.2.x4:=aW;have bC:eT (dX J).J5 key=A.length:=hA.symm;have bD:e∈J:=(by rw[G];simp);obtain⟨aB,an⟩:=h7 e bD;have ab:∀z∈p::J.flatMap (·.2.y7),eH M z:=λz hz=>(zG.1 hz).elim (λe=>by rw[e];exact hp) λhz=>by obtain⟨b,u,hz⟩:=yL.1 hz;exact (h7 b u).1.J3 ho z hz
  have ae:J.flatMap (·.2.y7)=A.flatMap (·.2.y7)++(e.2.y7++B.flatMap (·.2.y7)):=(by rw[G,tF]);have ac:J.flatMap (·.2.y6)=A.flatMap (·.2.y6)++(e.2.y6++B.flatMap (·.2.y6)):=(by rw[G,tF]);have R:=aR;have ag:=ab;rw[ae] at R ag;have bE:e.2.size<=1000:=by
   have:=Ev (k:=k) (v:=v)
   cases h with
   | zero=>
    have h9:=aB.2.2.1.right.2.2.2;rw[iP (show (eQ e.2.y6).Q3=true from rfl)] at h9;have bF:=h9.2.2.1;have e1:(eQ e.2.y6).J5.length=e.2.y6.length:=zK _;rw[e1] at bF;rw[aB.2.1];omega
   | succ h=>
    obtain⟨bZ,_,g1,_,_,g4,_⟩:=aB;have:=g4.right.x8;rw[g1];omega
  have a4:e.2.y7.Nodup:=(yN.1 (yN.1 (nodup_cons.1 R).2).2.1).1;obtain⟨g,M1,eg,ok⟩:=qvy hc hk hv h M e.2 aB hW ho a4 bE oK;have bH:=ok.Q0;have ah:=h6;rw[G] at ah;have ao:=ah.mid;have a5:∀x∈A.flatMap (·.2.y6),gq x.1 key:=λx E=>by obtain⟨a,ha,E⟩:=yL.1 E;exact uf (ao.1 a ha x E) aU
  have a6:∀x∈B.flatMap (·.2.y6),gq key x.1:=λx E=>by obtain⟨b,u,E⟩:=yL.1 E;exact uf (aV b u) ((ao.2 b u).2.2 x E)
  have aL:gI key val (J.flatMap (·.2.y6))=A.flatMap (·.2.y6)++(gI key val e.2.y6++B.flatMap (·.2.y6)):=(by rw[ac,Db a5,qm9 a6]);have aC:g.J7=decide (key∉eh (J.flatMap (·.2.y6))):=by rw[ok.J7];refine decide_eq_decide.2 (not_congr ⟨λO=>?_,λO=>?_⟩);obtain⟨x,E,rfl⟩:=mem_map.1 O;exact zZ (by rw[ac];exact zI _ (zH _ E));obtain⟨x,E,rfl⟩:=mem_map.1 O;rw[ac] at E;rcases zD.1 E with E|E;exact absurd (a5 x E) tX;rcases zD.1 E with E|E;exact zZ E;exact absurd (a6 x E) tX
  have ap:p∉e.2.y7:=λO=>(nodup_cons.1 R).1 (zI _ (zH _ O));have a7:∀b,b∈A\/b∈B->∀z∈b.2.y7,z∉e.2.y7:=λb u z hz O=>by have h9:=yN.1 (nodup_cons.1 R).2;rcases u with u|u;exact h9.2.2 z (yL.2 ⟨b,u,hz⟩) z (zH _ O) rfl;exact (yN.1 h9.2.1).2.2 z O z (yL.2 ⟨b,u,hz⟩) rfl
  have ad:=iz.of h4;have a8:∀ {MM:eZ} {Q:KE},Step D M MM e.2.y7 Q->p∉A.flatMap (·.2.y7)++(Q++B.flatMap (·.2.y7)):=λst O=>by have h9:=(nodup_cons.1 R).1;rcases zD.1 O with O|O;exact h9 (zH _ O);rcases zD.1 O with O|O;exact (st.rest p hp ap).2.2 O;exact h9 (zI _ (zI _ O))
  unfold jc;rw[hl];dsimp only;rw[iN λh=>h rfl,iN (show ¬(dX J).Q3=true from λe=>nomatch e),aX,eg];dsimp only;rw[iN λh=>h rfl,bC];have aa:∀ {MM:eZ},(∀x∈p::J.flatMap (·.2.y7),x∉e.2.y7->dS D MM x=dS D M x)->∀b,b∈A\/b∈B->Has D MM k v h b.2/\minOf k v h<=b.2.size:=λhr b u=>by
   have aY:b∈J:=by rw[G];rcases u with u|u<;>simp[u]
   exact⟨(h7 b aY).1.j0 λx E=>hr x (zN _ (yL.2 ⟨b,aY,E⟩)) (a7 b u x E),(h7 b aY).2⟩
  rcases ok.Fv with ⟨aD,n',P',aM,st,aN⟩|⟨aD,n1,L1,P1,n2,L2,P2,a9,a',aO,ba,bb,bc,bd,bI,bJ,st⟩;have U:((A++(e.1,(⟨g.x4,n',gI key val e.2.y6,P'⟩:jh))::B).map (·.1)).head?=some []:=by rw[G] at h0;rw[xP,xQ] at h0⊢;exact h0
  have V:gB (A++(e.1,(⟨g.x4,n',gI key val e.2.y6,P'⟩:jh))::B):=ah.put aU aV λx E=>(DV E).imp (λe=>by rw[e]) id;have C:∀x∈p::J.flatMap (·.2.y7),x∉e.2.y7->dS D M1 x=dS D M x:=λx E aZ=>(st.rest x (ab x E) aZ).1;have I:(A++(e.1,(⟨g.x4,n',gI key val e.2.y6,P'⟩:jh))::B).length=J.length:=(by rw[G];simp);have ar:(A++(e.1,(⟨g.x4,n',gI key val e.2.y6,P'⟩:jh))::B).flatMap (·.2.y6)=gI key val (J.flatMap (·.2.y6)):=(by rw[tF,aL]);have af:(A++(e.1,(⟨g.x4,n',gI key val e.2.y6,P'⟩:jh))::B).flatMap (·.2.y7)=A.flatMap (·.2.y7)++(P'++B.flatMap (·.2.y7)):=(by rw[tF]);by_cases hsame:g.x4=e.2.x4/\g.Q9=0;rw[iP hsame];have bf:dX (A++(e.1,(⟨g.x4,n',gI key val e.2.y6,P'⟩:jh))::B)=dX J:=(by rw[G];unfold dX;simp[hsame.1]);have bK:dS D M1 p=(4,io (dX (A++(e.1,(⟨g.x4,n',gI key val e.2.y6,P'⟩:jh))::B)),0):=(by rw[C p oM ap,h5,bf]);refine⟨_,M1,rfl,aC,oK,.inl ⟨rfl,J.length,p::(A.flatMap (·.2.y7)++(P'++B.flatMap (·.2.y7))),?_,?_,zM _⟩⟩;have:=Cc U (by rw[bf];exact h4) bK V (h:=h) λb u=>?_;rw[I,ar,af] at this;exact this;rcases zD.1 u with u|u;exact aa C b (.inl u);rcases zG.1 u with rfl|u;exact⟨aM,zL an aN⟩;exact aa C b (.inr u);show Step D M M1 (p::J.flatMap (·.2.y7)) _;rw[ae];have h9:=Step.node (p:=p) ag R st (Step.refl (D:=D) st.wf st.Q2 (P:=[p]) (λx E=>by rw[zE.1 E];exact (st.rest p hp ap).2.1) oM);exact h9;rw[iN hsame,G,qxQ (s1:=⟨g.x4,n',gI key val e.2.y6,P'⟩) rfl aD];have ak:∀b∈A++(e.1,(⟨g.x4,n',gI key val e.2.y6,P'⟩:jh))::B,Has D M1 k v h b.2/\minOf k v h<=b.2.size:=λb u=>by rcases zD.1 u with u|u;exact aa C b (.inl u);rcases zG.1 u with rfl|u;exact⟨aM,zL an aN⟩;exact aa C b (.inr u)
  have aG:iz k (A++(e.1,(⟨g.x4,n',gI key val e.2.y6,P'⟩:jh))::B):=HU (by rw[<- G];exact ad);have hN:=CD st.wf st.Q2 aG V oK oK λb u=>(ak b u).1;obtain⟨q,M2,e2,au,H2,aj⟩:=qm8 (J7:=g.J7) st.wf st.Q2 U hN oK V ak (st.rest p hp ap).2.1 (by rw[af];exact a8 st) oK;refine⟨_,M2,e2,by rw[<- G];exact aC,oK,.inl ⟨rfl,J.length,q::(A.flatMap (·.2.y7)++(P'++B.flatMap (·.2.y7))),?_,?_,Nat.le_of_eq (by rw[G])⟩⟩;rw[I,ar,af] at H2;rw[<- G];exact H2;show Step D M M2 (p::(A++e::B).flatMap (·.2.y7)) _;rw[tF];exact Step.node (p:=p) ag R st au;have bi:L1≠[]:=a9.ne;have bj:L2≠[]:=a'.ne;rw[iN λh=>aD h.2];have V:gB (A++(e.1,(⟨g.x4,n1,L1,P1⟩:jh))::(g.key,⟨g.Q9,n2,L2,P2⟩)::B):=
   (ah.put (s:=⟨0,0,gI key val e.2.y6,[]⟩) aU aV λx E=>(DV E).imp (λe=>by rw[e]) id).Bm aO.symm ba bb bi bj
  have U:((A++(e.1,(⟨g.x4,n1,L1,P1⟩:jh))::(g.key,⟨g.Q9,n2,L2,P2⟩)::B).map (·.1)).head?=some []:=by
   rw[G] at h0;rw[xP,xQ] at h0⊢;cases A with
   | nil=>exact h0
   | cons a A=>exact h0
  have C:∀x∈p::J.flatMap (·.2.y7),x∉e.2.y7->dS D M1 x=dS D M x:=λx E aZ=>(st.rest x (ab x E) aZ).1;have I:(A++(e.1,(⟨g.x4,n1,L1,P1⟩:jh))::(g.key,⟨g.Q9,n2,L2,P2⟩)::B).length=J.length+1:=(by rw[G];simp;omega);have ar:(A++(e.1,(⟨g.x4,n1,L1,P1⟩:jh))::(g.key,⟨g.Q9,n2,L2,P2⟩)::B).flatMap (·.2.y6)=gI key val (J.flatMap (·.2.y6)):=(by rw[tF,yI,aL,<- aO,zV]);have af:(A++(e.1,(⟨g.x4,n1,L1,P1⟩:jh))::(g.key,⟨g.Q9,n2,L2,P2⟩)::B).flatMap (·.2.y7)=A.flatMap (·.2.y7)++((P1++P2)++B.flatMap (·.2.y7)):=(by rw[tF,yI,zV P1]);have ak:∀b∈A++(e.1,(⟨g.x4,n1,L1,P1⟩:jh))::(g.key,⟨g.Q9,n2,L2,P2⟩)::B,Has D M1 k v h b.2/\minOf k v h<=b.2.size:=λb u=>by rcases zD.1 u with u|u;exact aa C b (.inl u);rcases zG.1 u with rfl|u;exact⟨a9,bI⟩;rcases zG.1 u with rfl|u;exact⟨a',bJ⟩;exact aa C b (.inr u)
  have aG:iz k (A++(e.1,(⟨g.x4,n1,L1,P1⟩:jh))::(g.key,⟨g.Q9,n2,L2,P2⟩)::B):=qs4 (by rw[<- G];exact ad) ⟨bc,bd⟩;have bk:p∉(A++(e.1,(⟨g.x4,n1,L1,P1⟩:jh))::(g.key,⟨g.Q9,n2,L2,P2⟩)::B).flatMap (·.2.y7):=(by rw[af];exact a8 st);have bl:=(st.rest p hp ap).2.1;have bM:iC (dX J) A.length g=dX (A++(e.1,(⟨g.x4,n1,L1,P1⟩:jh))::(g.key,⟨g.Q9,n2,L2,P2⟩)::B):=(by rw[G];exact qzG (by rw[<- G];exact h0) rfl rfl rfl aD);rw[bM];have bm:∀ {M2:eZ} {Q:KE},Step D M1 M2 [p] Q->Step D M M2 (p::J.flatMap (·.2.y7)) (Q++(A.flatMap (·.2.y7)++((P1++P2)++B.flatMap (·.2.y7)))):=λh2=>by rw[ae];exact Step.node (p:=p) ag R st h2
  by_cases u:J.length+1<=(eG k v).2;have hN:=CD st.wf st.Q2 aG V oK oK λb u=>(ak b u).1;obtain⟨q,M2,e2,au,H2,aj⟩:=qm8 (J7:=g.J7) st.wf st.Q2 U hN oK V ak bl bk oK;rw[I,ar,af] at H2;exact⟨_,M2,e2,aC,oK,.inl ⟨rfl,_,_,H2,bm au,by show J.length<=J.length+1;omega⟩⟩;obtain⟨q,o,m,M2,n3,L3,P3,n4,L4,P4,e2,bN,au,H3,H4,hL,hP,bO,a2,bn,bo,bP,bQ,aj⟩:=qxT (J7:=g.J7) hc st.wf st.Q2 U aG oK V ak bl bk oK;rw[ar] at hL;rw[af] at hP;refine⟨_,M2,e2,aC,oK,.inr ⟨bN,_,_,_,_,_,_,H3,H4,hL,bO,a2,bn,bo,bP,bQ,?_⟩⟩;have:=bm au;rw[<- hP] at this;refine this.perm (.refl _) ?_;show (q::o::(P3++P4)).Perm (q::(P3++o::P4));exact (perm_middle.symm).cons q
end
end
section
def iX {α:Type} (l:List α) (i:Nat):List α:=l.take i++l.drop (i+1)
def qS (n:dW) (k v:Nat):Prop:=(fI n k v).1<(fI n k v).2 / 2
def jS (n:dW) (k v:Nat):Prop:=(fI n k v).1>(fI n k v).2 / 2
def jU (l r:dW) (key:Key):dW×dW×Key:=
 if l.Q3 then
  ({ l with J5:=l.J5.take (l.J5.length-1),J9:=l.J9.take (l.J5.length-1) },
  { r with J5:=l.J5.getD (l.J5.length-1) []::r.J5,J9:=l.J9.getD (l.J5.length-1) []::r.J9 },l.J5.getD (l.J5.length-1) [])
 else
  ({ l with J5:=l.J5.take (l.J5.length-1),J8:=l.J8.take (l.J5.length-1+1) },
  { r with J5:=key::r.J5,J8:=l.J8.getD (l.J5.length-1+1) 0::r.J8 },l.J5.getD (l.J5.length-1) [])
def takeN (l r:dW) (key:Key):dW×dW×Key:=
 if l.Q3 then
  ({ l with J5:=l.J5++[r.J5.getD 0 []],J9:=l.J9++[r.J9.getD 0 []] },{ r with J5:=r.J5.drop 1,J9:=r.J9.drop 1 },(r.J5.drop 1).getD 0 [])
 else
  ({ l with J5:=l.J5++[key],J8:=l.J8++[r.J8.getD 0 0] },{ r with J5:=r.J5.drop 1,J8:=r.J8.drop 1 },r.J5.getD 0 [])
def mc (l r:dW) (key:Key):dW:=⟨l.Q3,(if l.Q3 then l.J5 else l.J5++[key])++r.J5,l.J9++r.J9,l.J8++r.J8⟩
noncomputable def mZ (k v:Nat) (M:eZ) (n:dW) (i:Nat) (l r:dW):(dW×Int)×eZ:=
 if (ee k v M (n.J8.getD i 0) (mc l r (n.J5.getD i []))).1.2≠0 then ((jr,(ee k v M (n.J8.getD i 0) (mc l r (n.J5.getD i []))).1.2),(ee k v M (n.J8.getD i 0) (mc l r (n.J5.getD i []))).2)
 else if (fX (ee k v M (n.J8.getD i 0) (mc l r (n.J5.getD i []))).2 (n.J8.getD (i+1) 0)).1≠0 then ((jr,(fX (ee k v M (n.J8.getD i 0) (mc l r (n.J5.getD i []))).2 (n.J8.getD (i+1) 0)).1),(fX (ee k v M (n.J8.getD i 0) (mc l r (n.J5.getD i []))).2 (n.J8.getD (i+1) 0)).2)
 else (({ n with J8:=iX (n.J8.set i (ee k v M (n.J8.getD i 0) (mc l r (n.J5.getD i []))).1.1) (i+1),J5:=iX n.J5 i },0),(fX (ee k v M (n.J8.getD i 0) (mc l r (n.J5.getD i []))).2 (n.J8.getD (i+1) 0)).2)
noncomputable def pJ (k v:Nat) (M:eZ) (n:dW) (i:Nat) (r:dW×dW×Key):(dW×Int)×eZ:=
 if (ee k v M (n.J8.getD i 0) r.1).1.2≠0 then ((jr,(ee k v M (n.J8.getD i 0) r.1).1.2),(ee k v M (n.J8.getD i 0) r.1).2)
 else (({ n with J5:=n.J5.set i r.2.2,J8:=(n.J8.set i (ee k v M (n.J8.getD i 0) r.1).1.1).set (i+1) (ee k v (ee k v M (n.J8.getD i 0) r.1).2 (n.J8.getD (i+1) 0) r.2.1).1.1 },(ee k v (ee k v M (n.J8.getD i 0) r.1).2 (n.J8.getD (i+1) 0) r.2.1).1.2),(ee k v (ee k v M (n.J8.getD i 0) r.1).2 (n.J8.getD (i+1) 0) r.2.1).2)
noncomputable def k9 (D:dV) (k v:Nat) (M:eZ) (n:dW) (side c:Nat) (x:dW):(dW×Int)×eZ:=
 if (dU D M k v (n.J8.getD side 0)).2≠0 then ((jr,(dU D M k v (n.J8.getD side 0)).2),M)
 else if side<c then
  if ¬jS (dU D M k v (n.J8.getD side 0)).1 k v then mZ k v M n side (dU D M k v (n.J8.getD side 0)).1 x
  else pJ k v M n side (jU (dU D M k v (n.J8.getD side 0)).1 x (n.J5.getD side []))
 else
  if ¬jS (dU D M k v (n.J8.getD side 0)).1 k v then mZ k v M n c x (dU D M k v (n.J8.getD side 0)).1
  else pJ k v M n c (takeN x (dU D M k v (n.J8.getD side 0)).1 (n.J5.getD c []))
noncomputable def jg (D:dV) (k v:Nat) (key:Key):Nat->eZ->Int->(dW×Int)×eZ
 | 0,M,_=>((jr,-1),M)
 | f+1,M,p=>
  if (dU D M k v p).2≠0 then ((jr,(dU D M k v p).2),M)
  else if (dU D M k v p).1.Q3 then
   if (dU D M k v p).1.J5[dY (dU D M k v p).1.J5 key]?=some key then (({ (dU D M k v p).1 with J5:=iX (dU D M k v p).1.J5 (dY (dU D M k v p).1.J5 key),J9:=iX (dU D M k v p).1.J9 (dY (dU D M k v p).1.J5 key) },0),M)
   else ((jr,5),M)
  else if (jg D k v key f M ((dU D M k v p).1.J8.getD (eT (dU D M k v p).1.J5 key) 0)).1.2≠0 then
   ((jr,(jg D k v key f M ((dU D M k v p).1.J8.getD (eT (dU D M k v p).1.J5 key) 0)).1.2),(jg D k v key f M ((dU D M k v p).1.J8.getD (eT (dU D M k v p).1.J5 key) 0)).2)
  else if ¬qS (jg D k v key f M ((dU D M k v p).1.J8.getD (eT (dU D M k v p).1.J5 key) 0)).1.1 k v then
   (({ (dU D M k v p).1 with J8:=(dU D M k v p).1.J8.set (eT (dU D M k v p).1.J5 key) (ee k v (jg D k v key f M ((dU D M k v p).1.J8.getD (eT (dU D M k v p).1.J5 key) 0)).2 ((dU D M k v p).1.J8.getD (eT (dU D M k v p).1.J5 key) 0) (jg D k v key f M ((dU D M k v p).1.J8.getD (eT (dU D M k v p).1.J5 key) 0)).1.1).1.1 },
    (ee k v (jg D k v key f M ((dU D M k v p).1.J8.getD (eT (dU D M k v p).1.J5 key) 0)).2 ((dU D M k v p).1.J8.getD (eT (dU D M k v p).1.J5 key) 0) (jg D k v key f M ((dU D M k v p).1.J8.getD (eT (dU D M k v p).1.J5 key) 0)).1.1).1.2),
    (ee k v (jg D k v key f M ((dU D M k v p).1.J8.getD (eT (dU D M k v p).1.J5 key) 0)).2 ((dU D M k v p).1.J8.getD (eT (dU D M k v p).1.J5 key) 0) (jg D k v key f M ((dU D M k v p).1.J8.getD (eT (dU D M k v p).1.J5 key) 0)).1.1).2)
  else if eT (dU D M k v p).1.J5 key>0 then
   k9 D k v (jg D k v key f M ((dU D M k v p).1.J8.getD (eT (dU D M k v p).1.J5 key) 0)).2 (dU D M k v p).1 (eT (dU D M k v p).1.J5 key-1) (eT (dU D M k v p).1.J5 key) (jg D k v key f M ((dU D M k v p).1.J8.getD (eT (dU D M k v p).1.J5 key) 0)).1.1
  else k9 D k v (jg D k v key f M ((dU D M k v p).1.J8.getD (eT (dU D M k v p).1.J5 key) 0)).2 (dU D M k v p).1 (eT (dU D M k v p).1.J5 key+1) (eT (dU D M k v p).1.J5 key) (jg D k v key f M ((dU D M k v p).1.J8.getD (eT (dU D M k v p).1.J5 key) 0)).1.1
section
variable {D:dV} {M M':eZ} {k v:Nat}
def kA (D:dV) (M:eZ) (k v:Nat):Nat->dW->Nat->gH->KE->Prop
 | 0,N,n,L,R=>N=eQ L/\n=L.length/\R=[]/\nX k v L/\fT L/\n<=(eG k v).1
 | h+1,N,n,L,R=>∃u:List iO,(u.map (·.1)).head?=some []/\N=dX u/\n=u.length/\L=u.flatMap (·.2.y6)/\R=u.flatMap (·.2.y7)/\iz k u/\gB u/\n<=(eG k v).2/\∀e∈u,Has D M k v h e.2/\minOf k v h<=e.2.size
def oneOf (h:Nat):Nat:=if h=0 then 1 else 2
def kA.size{n:Nat}(u:kA D M k v h N n L R):fI N k v=(n,if h=0 then (eG k v).1 else (eG k v).2):=by
 cases h with
 | zero=>
  obtain⟨rfl,rfl,_⟩:=u;exact EJ
 | succ h=>
  obtain⟨C,_,rfl,rfl,_⟩:=u;exact Fb
def kA.J3{h:Nat}{N:dW}{n:Nat}{L:gH}{R:KE}(E:M.Q2=false)(C:kA D M k v h N n L R):∀x∈R,eH M x:=by
 cases h with
 | zero=>obtain⟨_,_,rfl,_⟩:=C;exact λx u=>nomatch u
 | succ h=>
  obtain⟨J,_,_,_,_,rfl,_,_,_,G⟩:=C;intro x u;obtain⟨e,I,u⟩:=yL.1 u;exact (G e I).1.J3 E x u
def kA.j0{h:Nat}{N:dW}{n:Nat}{L:gH}{R:KE}(C:kA D M k v h N n L R)(G:∀x∈R,dS D M' x=dS D M x):kA D M' k v h N n L R:=by
 cases h with
 | zero=>exact C
 | succ h=>
  obtain⟨I,J,O,Q,U,rfl,V,h7,h8,E⟩:=C;exact⟨I,J,O,Q,U,rfl,V,h7,h8,λe u=>⟨(E e u).1.j0 λx hx=>G x (yL.2 ⟨e,u,hx⟩),(E e u).2⟩⟩
def kA.ok{n:Nat}(E:M.Wf)(G:M.Q2=false)(u:kA D M k v h N n L R)(C:oneOf h<=n):jm N k v:=by
 cases h with
 | zero=>
  obtain⟨rfl,rfl,_,I,J,O⟩:=u;exact C6 I J C O
 | succ h=>
  obtain⟨es,h2,rfl,rfl,h4,rfl,Q,U,V,he⟩:=u;exact CD E G Q U C V λe hm=>(he e hm).1
def kA.stored{n:Nat}(G:M.Wf)(I:M.Q2=false)(C:kA D M k v h N n L R)(J:oneOf h<=n)(E:dS D M q=(jJ N,io N,0)):Has D M k v h ⟨q,n,L,q::R⟩:=by
 have u:=C.ok G I J;cases h with
 | zero=>
  obtain⟨rfl,rfl,rfl,V,hs,hl⟩:=C;exact DI u E
 | succ h=>
  obtain⟨es,O,rfl,rfl,rfl,rfl,h6,Q,h8,U⟩:=C;exact Cc O u E Q U
def Has.load{h:Nat}{s:jh}(Q:Has D M k v h s):∃N R,dU D M k v s.x4=(N,0)/\kA D M k v h N s.size s.y6 R/\s.y7=s.x4::R/\N.Q3=decide (h=0)/\oneOf h<=s.size:=by
 cases h with
 | zero=>
  obtain⟨G,I,C,J⟩:=Q;have u:=C.right.2.2.2;rw[iP (show (eQ s.y6).Q3=true from rfl)] at u;have e:(eQ s.y6).J5.length=s.y6.length:=zK _;rw[e] at u;exact⟨eQ s.y6,[],C.load J,⟨rfl,I,rfl,λx O=>⟨C.right.1 x.1 (zZ O),C.right.2.1 x.2 (zZ O),C.J5 x.1 (zZ O),C.J9 x.2 (zZ O)⟩,C.right.2.2.1,by rw[I];exact u.2.2.1⟩,G,rfl,by rw[I];exact u.2.1⟩
 | succ h=>
  obtain⟨U,V,G,I,C,J,h5,h6,h7⟩:=Q;have E:=J.right.x8;exact⟨dX U,_,J.load h5,⟨U,V,rfl,G,I,rfl,iz.of J,h6,by rw[G];exact E.2,h7⟩,C,rfl,by rw[G];exact E.1⟩
def kA.store{n:Nat}(G:M.Wf)(u:M.Q2=false)(C:kA D M k v h N n L R)(I:oneOf h<=n)(Q:eH M p)(E:p∉R)(J:1<=M.Q0.length): ∃q M',ee k v M p N=((q,0),M')/\Step D M M' [p] [q]/\Has D M' k v h ⟨q,n,L,q::R⟩/\M.Q0.length<=M'.Q0.length+1:=by obtain⟨q,M',e,st,U,V,_⟩:=I0 (D:=D) G u (C.ok G u I) Q (λe=>by rw[e] at J;exact absurd J oN);exact⟨q,M',e,st,(C.j0 λx O=>(st.rest x (C.J3 u x O) λhm=>E (by rw[<- zE.1 hm];exact O)).1).stored st.wf st.Q2 I U,V⟩
def qBc{h u:gH}{z:Key×Key}:jU (eQ (h++[z])) (eQ u) key=(eQ h,eQ (z::u),z.1):=by unfold jU;rw[iP (show (eQ _).Q3=true from rfl)];unfold eQ;simp
def qBf{h u:gH}{z y:Key×Key}:takeN (eQ h) (eQ (z::y::u)) key=(eQ (h++[z]),eQ (y::u),y.1):=by unfold takeN;rw[iP (show (eQ _).Q3=true from rfl)];unfold eQ;simp
def qBd{h u:gH}:mc (eQ h) (eQ u) key=eQ (h++u):=by unfold mc;unfold eQ;simp
def qA4{a z b:iO}{h u:List iO}:jU (dX (a::h++[z])) (dX (b::u)) key=(dX (a::h),dX (([],z.2)::(key,b.2)::u),z.1):=by unfold jU;rw[iN (show ¬(dX _).Q3=true from λe=>nomatch e)];unfold dX;simp
def qA6{h u:List iO}{a z y:iO}:takeN (dX (a::h)) (dX (z::y::u)) key=(dX (a::h++[(key,z.2)]),dX (([],y.2)::u),y.1):=by unfold takeN;rw[iN (show ¬(dX _).Q3=true from λe=>nomatch e)];unfold dX;simp
def qA5{h u:List iO}{a b:iO}:mc (dX (a::h)) (dX (b::u)) key=dX (a::h++(key,b.2)::u):=by unfold mc;unfold dX;simp
def gB.vO{a b:List iO}(u:gB a)(C:gB b)(h:∀x∈a,∀y∈b,gq x.1 y.1/\∀z∈x.2.y6,gq z.1 y.1):gB (a++b):=
 ⟨pairwise_append.2 ⟨u.pair,C.pair,λx E y G=>h x E y G⟩,λe I=>(zD.1 I).elim (u.low e) (C.low e)⟩
def gB.sub{a b:List iO}(h:gB b)(u:a.Sublist b):gB a:=⟨h.pair.sublist u,λe C=>h.low e (u.subset C)⟩
def Ha{e:iO}(h:∀x∈e.2.y6,nm e.1 x.1):gB [e]:=⟨pairwise_singleton _ _,λa u=>by rw[zE.1 u];exact h⟩
def qvj{a b:Key}(h:gq a b):gq [] b:=by
 cases b with
 | nil=>exact absurd h qnn
 | cons y l=>show cmpL [] (y::l)<0;simp[cmpL]
def gB.head{x:iO}{r:List iO}(h:gB (x::r))(E:∀b∈r,gq m b.1)(G:∀y∈x.2.y6,nm m y.1):gB ((m,x.2)::r):=by have C:=yK.1 h.pair;exact⟨yK.2 ⟨λb u=>⟨E b u,(C.1 b u).2⟩,C.2⟩,λb u=>(zG.1 u).elim (λe=>by rw[e];exact G) λu=>h.low b (zN _ u)⟩
def GJ{x:iO}{r:List iO}(C:gB (x::r))(E:Has D M k v h x.2)(G:∀y∈x.2.y6,nm m y.1):∀b∈r,gq m b.1:=λb I=>by obtain⟨y,u⟩:=exists_mem_of_ne_nil _ E.ne;exact Ex (G y u) (((yK.1 C.pair).1 b I).2 y u)
structure wl (D:dV) (M:eZ) (k v:Nat) (h:Nat) (r:dW×dW×Key) (L:gH) (P:KE):Prop where
 Fv:∃ n1 L1 R1 n2 L2 R2,kA D M k v h r.1 n1 L1 R1/\kA D M k v h r.2.1 n2 L2 R2/\L1++L2=L/\R1++R2=P/\(∀ x∈L1,gq x.1 r.2.2)/\(∀ y∈L2,nm r.2.2 y.1)/\r.2.2.length=k/\fq r.2.2/\minOf k v h<=n1/\minOf k v h<=n2/\L1≠[]/\L2≠[]
def je.min(u:je k v)(h:Nat):oneOf h<=minOf k v h/\1<=minOf k v h:=by have C:=u.Q3;have E:=u.inner;unfold oneOf minOf;split<;>omega
def qAX{es:List iO}(C:∀e∈es,Has D M k v h e.2/\minOf k v h<=e.2.size)(u:es≠[]):es.flatMap (·.2.y6)≠[]:=by
 cases es with
 | nil=>exact absurd rfl u
 | cons a r=>intro e;rw[yI] at e;exact (C a oM).1.ne (append_eq_nil_iff.1 e).1
def qAZ(E:je k v){U:gH}(hl:kA D M k v h Nl n1 U R1)(hr:kA D M k v h Nr n2 L2 R2)(V:minOf k v h<n1)(h2:n2+1=minOf k v h)(h3:∀x∈U,gq x.1 key)(h4:∀y∈L2,nm key y.1)(hk:key.length=k/\fq key): wl D M k v h (jU Nl Nr key) (U++L2) (R1++R2):=by
 have ar:=E.min h;cases h with
 | zero=>
  obtain⟨rfl,rfl,rfl,ai,J,O⟩:=hl;obtain⟨rfl,rfl,rfl,au,Q,aj⟩:=hr;have ak:U≠[]:=λe=>by rw[e] at V;simp at V
  obtain⟨L,z,rfl⟩:∃L z,U=L++[z]:=⟨U.dropLast,U.getLast ak,(vC ak).symm⟩;rw[qBc];have hz:=ai z oM;have al:=fT.vO.1 J;rw[zF] at V O;have av:fT (z::L2):=by refine yK.2 ⟨λa ha=>?_,Q⟩;obtain⟨y,C,rfl⟩:=mem_map.1 ha;exact uf (h3 z oM) (h4 y C)
  have aw:minOf k v 0=(eG k v).1 / 2:=rfl;refine⟨L.length,L,[],L2.length+1,z::L2,[],⟨rfl,rfl,rfl,ai.sub λx I=>zH _ I,al.1,?_⟩,⟨rfl,rfl,rfl,λx I=>(zG.1 I).elim (λe=>by rw[e];exact hz) (au x),av,oK⟩,oM,rfl,λx I=>al.2.2 x I z oM,λy C=>?_,hz.1,hz.2.2.1,?_,oK,?_,oM⟩;simp at O;omega;rcases zG.1 C with rfl|C;exact tX;exact uH (uf (h3 z oM) (h4 y C));simp at V;omega;intro e;rw[e] at V;simp at V;omega
 | succ h=>
  obtain⟨ab,ax,rfl,rfl,rfl,rfl,am,J,O,ac⟩:=hl;obtain⟨u,ay,rfl,rfl,rfl,rfl,az,Q,aj,ad⟩:=hr;obtain⟨a,G,z,rfl⟩:∃a G z,ab=a::G++[z]:=by
   have:2<=ab.length:=(by have:=ar.1;unfold oneOf at this;rw[iN] at this;omega);match ab,this with
   | a::b::r,_=>exact⟨a,(b::r).dropLast,(b::r).getLast oM,by rw[xL,vC]⟩
  obtain⟨b,u,rfl⟩:∃b G,u=b::G:=by
   cases u with
   | nil=>cases ay
   | cons b r=>exact⟨b,r,rfl⟩
  rw[qA4];have hz:=ac z oM;have an:=am z (show z∈G++[z] by simp);have ao:=gB.mid (A:=a::G) (e:=z) (B:=[]) J;have R:gq z.1 key:=by obtain⟨x,I⟩:=exists_mem_of_ne_nil _ hz.1.ne;exact Ex (J.low z oM x I) (h3 x (yL.2 ⟨z,oM,I⟩))
  have ap:∀y∈b.2.y6,nm key y.1:=λy C=>h4 y (by rw[yI];exact zH _ C);have ae:∀c∈u,gq key c.1:=GJ Q (ad b oM).1 ap;have af:gB (([],z.2)::(key,b.2)::u):=by refine gB.vO (a:=[([],z.2)]) (Ha λx _=>DG _) (Q.head ae ap) λx I y C=>?_;rw[zE.1 I];rcases zG.1 C with rfl|C;exact⟨qvj R,λw hw=>h3 w (yL.2 ⟨z,oM,hw⟩)⟩;exact⟨qvj (ae y C),λw hw=>rL (h3 w (yL.2 ⟨z,oM,hw⟩)) (ae y C)⟩
  have aw:minOf k v (h+1)=(eG k v).2 / 2:=rfl;simp only[zF,yJ,xM] at V h2 O aj;have aB:(a::G++[z]).flatMap (·.2.y6)=(a::G).flatMap (·.2.y6)++z.2.y6:=(by simp[yR]);have aC:(a::G++[z]).flatMap (·.2.y7)=(a::G).flatMap (·.2.y7)++z.2.y7:=(by simp[yR]);refine⟨G.length+1,(a::G).flatMap (·.2.y6),(a::G).flatMap (·.2.y7),u.length+2,z.2.y6++(b.2.y6++u.flatMap (·.2.y6)),z.2.y7++(b.2.y7++u.flatMap (·.2.y7)),⟨a::G,ax,rfl,rfl,rfl,rfl,λc E=>am c (show c∈G++[z] from zH _ E),J.sub (sublist_append_left _ _),oK,λc E=>ac c (zH _ E)⟩,⟨([],z.2)::(key,b.2)::u,rfl,rfl,rfl,rfl,rfl,λc E=>(zG.1 E).elim (λe=>by rw[e];exact hk) (az c),af,oK,λc E=>?_⟩,?_,?_,λx I=>?_,λy C=>?_,an.1,an.2,oK,oK,?_,?_⟩;rcases zG.1 E with rfl|E;exact hz;rcases zG.1 E with rfl|E;exact ad b oM;exact ad c (by simp[E]);rw[aB];simp only[yI,zV];rw[aC];simp only[yI,zV];obtain⟨c,E,I⟩:=yL.1 I;exact ao.1 c E x I;rcases zD.1 C with C|C;exact J.low z oM y C;exact CA (uH R) (h4 y (by rw[yI];exact C));exact qAX (λc E=>ac c (zH _ E)) oM;intro e;exact hz.1.ne (append_eq_nil_iff.1 e).1
def qx3{es:List iO}(E:gB es)(G:∀e∈es,Has D M k v h e.2/\minOf k v h<=e.2.size)(I:∀x∈es.flatMap (·.2.y6),gq x.1 key):∀e∈es,gq e.1 key:=λe u=>by obtain⟨x,C⟩:=exists_mem_of_ne_nil _ (G e u).1.ne;exact Ex (E.low e u x C) (I x (yL.2 ⟨e,u,C⟩))
def qBx(hc:je k v){L1:gH}(hl:kA D M k v h Nl n1 L1 R1)(hr:kA D M k v h Nr n2 L2 R2)(h1:n1+1=minOf k v h)(h2:minOf k v h<n2)(h3:∀x∈L1,gq x.1 key)(h4:∀y∈L2,nm key y.1)(hk:key.length=k/\fq key): wl D M k v h (takeN Nl Nr key) (L1++L2) (R1++R2):=by
 have hmn:=hc.min h;cases h with
 | zero=>
  obtain⟨rfl,rfl,rfl,hL1,hs1,hb1⟩:=hl;obtain⟨rfl,rfl,rfl,hL2,hs2,hb2⟩:=hr;obtain⟨z,y,L,rfl⟩:∃z y L,L2=z::y::L:=by
   match L2,h2 with
   | [],h=>simp at h
   | [_],h=>simp at h;omega
   | z::y::L,_=>exact⟨z,y,L,rfl⟩
  rw[qBf];have hz:=hL2 z oM;have hy:=hL2 y oM;have hcs:=yK.1 (show (z.1::eh (y::L)).Pairwise gq from hs2);simp only[yJ] at h2 hb2;have hml:minOf k v 0=(eG k v).1 / 2:=rfl;have hzy:gq z.1 y.1:=hcs.1 y.1 oM;refine⟨L1.length+1,L1++[z],[],L.length+1,y::L,[],⟨rfl,oM,rfl,λx hx=>(zD.1 hx).elim (hL1 x) λhx=>by rw[zE.1 hx];exact hz,?_,oK⟩,⟨rfl,oM,rfl,λx hx=>hL2 x (zN _ hx),hcs.2,oK⟩,oM,rfl,λx hx=>?_,λw hw=>?_,hy.1,hy.2.2.1,oK,oK,oM,oM⟩;exact fT.vO.2 ⟨hs1,pairwise_singleton _ _,λx hx w hw=>by rw[zE.1 hw];exact uf (h3 x hx) (h4 z oM)⟩;rcases zD.1 hx with hx|hx;exact rL (uf (h3 x hx) (h4 z oM)) hzy;rw[zE.1 hx];exact hzy;rcases zG.1 hw with rfl|hw;exact tX;exact uH ((yK.1 (show (y.1::eh L).Pairwise gq from hcs.2)).1 w.1 (zZ hw))
 | succ h=>
  obtain⟨es1,hh1,rfl,rfl,rfl,rfl,hk1,hs1,hb1,hp1⟩:=hl;obtain⟨es2,hh2,rfl,rfl,rfl,rfl,hk2,hs2,hb2,hp2⟩:=hr;obtain⟨a,es,rfl⟩:∃a es,es1=a::es:=by
   cases es1 with
   | nil=>cases hh1
   | cons b r=>exact⟨b,r,rfl⟩
  obtain⟨z,y,es2,rfl⟩:∃z y es,es2=z::y::es:=by
   have h9:=hmn.2;match es2,h2 with
   | [],h=>simp at h
   | [_],h=>simp at h;omega
   | z::y::L,_=>exact⟨z,y,L,rfl⟩
  rw[qA6];have hz:=hp2 z oM;have hyk:=hk2 y (show y∈y::es2 by simp);have hz4:∀w∈z.2.y6,nm key w.1:=λw hw=>h4 w (by rw[yI];exact zH _ hw);have hky:gq key y.1:=GJ hs2 hz.1 hz4 y oM;have hcs:=yK.1 hs2.pair;have hcy:=yK.1 hcs.2;have hsl:gB (a::es++[(key,z.2)]):=gB.vO hs1 (Ha hz4) λx hx w hw=>by rw[zE.1 hw];exact⟨qx3 hs1 hp1 h3 x hx,λq hq=>h3 q (yL.2 ⟨x,hx,hq⟩)⟩
  have hsr:gB (([],y.2)::es2):=gB.lc (es:=y::es2) (hs2.sub (Kl _ _));have hml:minOf k v (h+1)=(eG k v).2 / 2:=rfl;simp only[yJ] at h1 h2 hb1 hb2;refine⟨es.length+2,(a::es).flatMap (·.2.y6)++z.2.y6,(a::es).flatMap (·.2.y7)++z.2.y7,es2.length+1,y.2.y6++es2.flatMap (·.2.y6),y.2.y7++es2.flatMap (·.2.y7),⟨a::es++[(key,z.2)],hh1,rfl,oM,by simp[yR],by simp[yR],λc hc=>?_,hsl,oK,λc hc=>?_⟩,⟨([],y.2)::es2,rfl,rfl,rfl,rfl,rfl,λc hc=>hk2 c (show c∈y::es2 from zN _ hc),hsr,oK,λc hc=>?_⟩,?_,?_,λx hx=>?_,λw hw=>?_,hyk.1,hyk.2,oK,oK,?_,?_⟩;rcases zD.1 (show c∈es++[(key,z.2)] from hc) with hc|hc;exact hk1 c hc;rw[zE.1 hc];exact hk;rcases zD.1 hc with hc|hc;exact hp1 c hc;rw[zE.1 hc];exact hz;rcases zG.1 hc with rfl|hc;exact hp2 y oM;exact hp2 c (by simp[hc]);simp only[yI,zV];simp only[yI,zV];rcases zD.1 hx with hx|hx;exact rL (h3 x hx) hky;exact (hcs.1 y oM).2 x hx;rcases zD.1 hw with hw|hw;exact hs2.low y oM w hw;obtain⟨c,hc,hw⟩:=yL.1 hw;exact CA (uH (hcy.1 c hc).1) (hs2.low c (by simp[hc]) w hw);intro e;exact hz.1.ne (append_eq_nil_iff.1 e).2;intro e;exact (hp2 y oM).1.ne (append_eq_nil_iff.1 e).1
def qA7{L1:gH}(hl:kA D M k v h Nl n1 L1 R1)(hr:kA D M k v h Nr n2 L2 R2)(h1:n1+n2<=(if h=0 then (eG k v).1 else (eG k v).2))(h3:∀x∈L1,gq x.1 key)(h4:∀y∈L2,nm key y.1)(hk:key.length=k/\fq key): kA D M k v h (mc Nl Nr key) (n1+n2) (L1++L2) (R1++R2):=by
 cases h with
 | zero=>
  obtain⟨rfl,rfl,rfl,ah,E,ai⟩:=hl;obtain⟨rfl,rfl,rfl,aj,G,ak⟩:=hr;rw[qBd];exact⟨rfl,oM,rfl,λx Q=>(zD.1 Q).elim (ah x) (aj x),fT.vO.2 ⟨E,G,λx Q y I=>uf (h3 x Q) (h4 y I)⟩,h1⟩
 | succ h=>
  obtain⟨U,V,rfl,rfl,rfl,rfl,al,E,ai,aa⟩:=hl;obtain⟨C,am,rfl,rfl,rfl,rfl,an,G,ak,J⟩:=hr;obtain⟨a,R,rfl⟩:∃a R,U=a::R:=by
   cases U with
   | nil=>cases V
   | cons b r=>exact⟨b,r,rfl⟩
  obtain⟨b,C,rfl⟩:∃b R,C=b::R:=by
   cases C with
   | nil=>cases am
   | cons b r=>exact⟨b,r,rfl⟩
  rw[qA5];have ab:∀y∈b.2.y6,nm key y.1:=λy I=>h4 y (by rw[yI];exact zH _ I);have O:=GJ G (J b oM).1 ab;refine⟨a::R++(key,b.2)::C,V,rfl,by simp;omega,by simp[yR],by simp[yR],λc u=>?_,gB.vO E (G.head O ab) λx Q y I=>?_,by simpa using h1,λc u=>?_⟩;rcases zD.1 (show c∈R++(key,b.2)::C from u) with u|u;exact al c u;rcases zG.1 u with rfl|u;exact hk;exact an c u;have ac:=qx3 E aa h3 x Q;have ad:∀w∈x.2.y6,gq w.1 key:=λw hw=>h3 w (yL.2 ⟨x,Q,hw⟩);rcases zG.1 I with rfl|I;exact⟨ac,ad⟩;exact⟨rL ac (O y I),λw hw=>rL (ad w hw) (O y I)⟩;rcases zD.1 u with u|u;exact aa c u;rcases zG.1 u with rfl|u;exact J b oM;exact J c (by simp[u])
end
end
section
section
variable {D:dV} {M M':eZ} {k v:Nat}
def Step.part{M1:eZ}{a x y:KE}(C:∀z∈a++(x++b),eH M z)(E:(a++(x++b)).Nodup)(h:Step D M M1 x y):Step D M M1 (a++(x++b)) (a++(y++b)):=by have u:(a++(x++b)).Perm ((a++b)++x):=EG (z:=a);exact ((h.beside (Z:=a++b) (λz G=>C z (u.mem_iff.2 (zH _ G))) (u.nodup_iff.1 E)).perm u.symm (EG (z:=a)).symm)
def Step.kid{M1 u:eZ}{h Q:KE}(C:∀z∈p::R,eH M z)(E:(p::R).Nodup)(G:Step D M M1 R h)(I:Step D M1 u [p] Q):Step D M u (p::R) (Q++h):=by
 have:=Step.node (D:=D) (p:=p) (a:=[]) (b:=[]) (x:=R) (y:=h) (Q:=Q) (oQ C) (oQ E) G I;simpa using this
def Hx{A B:List iO}{e1 h:iO}:((A++e1::h::B).map (·.1)).tail.getD A.length []=h.1:=by
 cases A with
 | nil=>rfl
 | cons a A=>simp
def CO{A B:List iO}{e1 h:iO}:((A++e1::h::B).map (·.2.x4)).getD A.length 0=e1.2.x4/\((A++e1::h::B).map (·.2.x4)).getD (A.length+1) 0=h.2.x4:=by constructor;simp;simp
def qBt{A B:List iO}{e1 h:iO}{s1 s2:jh}:(⟨false,((A++e1::h::B).map (·.1)).tail.set A.length m,[],(((A++e1::h::B).map (·.2.x4)).set A.length s1.x4).set (A.length+1) s2.x4⟩:dW)=dX (A++(e1.1,s1)::(m,s2)::B):=by
 unfold dX;congr 1;cases A with
 | nil=>rfl
 | cons a A=>simp[set_append_right]
 simp[set_append_right]
def qAS{A B:List iO}{e1 C:iO}{s:jh}:(⟨false,iX ((A++e1::C::B).map (·.1)).tail A.length,[],iX (((A++e1::C::B).map (·.2.x4)).set A.length s.x4) (A.length+1)⟩:dW)=dX (A++(e1.1,s)::B):=by
 have G:(A.map (·.2.x4)).length=A.length:=zK _;unfold dX iX;congr 1;cases A with
 | nil=>rfl
 | cons a A=>
  have u:((a::A++e1::C::B).map (·.1)).tail=(A.map (·.1)++[e1.1])++(C.1::B.map (·.1)):=oM;have E:((a::A++(e1.1,s)::B).map (·.1)).tail=(A.map (·.1)++[e1.1])++B.map (·.1):=oM;have h:(A.map (·.1)++[e1.1]).length=(a::A).length:=oM;rw[u,E,take_left' h,<- h,drop_length_add_append];rfl
 have u:((A++e1::C::B).map (·.2.x4)).set A.length s.x4=(A.map (·.2.x4)++[s.x4])++(C.2.x4::B.map (·.2.x4)):=(by rw[xP,set_append_right _ _ oK,G,Nat.sub_self];simp);have h:(A.map (·.2.x4)++[s.x4]).length=A.length+1:=oM;rw[u,take_left' h,<- h,drop_length_add_append];simp
def qBs{A B:List iO}{e:iO}{s:jh}:(⟨false,((A++e::B).map (·.1)).tail,[],((A++e::B).map (·.2.x4)).set A.length s.x4⟩:dW)=dX (A++(e.1,s)::B):=by
 have h:(A.map (·.2.x4)).length=A.length:=zK _;unfold dX;congr 1;cases A with
 | nil=>rfl
 | cons a A=>simp
 rw[xP,set_append_right _ _ oK,h,Nat.sub_self];simp
structure ve (D:dV) (M:eZ) (k v:Nat) (h:Nat) (A B:List iO) (e1 e2:iO) (Nl Nr:dW) (n1 n2:Nat) (L1 L2:gH) (R1 R2:KE):Prop where
 wf:M.Wf
 Q2:M.Q2=false
 head:((A++e1::e2::B).map (·.1)).head?=some []
 J5:iz k (A++e1::e2::B)
 sep:gB (A++(e1.1,⟨0,0,L1,[]⟩)::(e2.1,⟨0,0,L2,[]⟩)::B)
 len:A.length+B.length+2<=(eG k v).2
 rest:∀ b,b∈A\/b∈B->Has D M k v h b.2/\minOf k v h<=b.2.size
 left:kA D M k v h Nl n1 L1 R1
 right:kA D M k v h Nr n2 L2 R2
 use:∀ x∈A.flatMap (·.2.y7)++(((e1.2.x4::R1)++(e2.2.x4::R2))++B.flatMap (·.2.y7)),eH M x
 nodup:(A.flatMap (·.2.y7)++(((e1.2.x4::R1)++(e2.2.x4::R2))++B.flatMap (·.2.y7))).Nodup
def ve.A1{A B:List iO}{e1 u:iO}{G I:dW}{E C:gH}{J O:KE}(H:ve D M k v h A B e1 u G I n1 n2 E C J O):(∀x∈E,gq x.1 u.1)/\(∀y∈C,nm u.1 y.1)/\u.1.length=k/\fq u.1:=by have Q:=pairwise_append.1 H.sep.pair;have R:=yK.1 Q.2.1;have U:=H.J5 u (by cases A<;>simp);exact⟨(R.1 (u.1,⟨0,0,C,[]⟩) oM).2,H.sep.low (u.1,⟨0,0,C,[]⟩) oM,U⟩
def quX(hc:je k v){A B:List iO}{e1 E:iO}{L1:gH}(H:ve D M k v h A B e1 E Nl Nr n1 n2 L1 L2 R1 R2){r:dW×dW×Key}(hr:wl D M k v h r (L1++L2) (R1++R2))(hf:2<=M.Q0.length): ∃N M' R,pJ k v M (dX (A++e1::E::B)) A.length r=((N,0),M')/\kA D M' k v (h+1) N (A.length+B.length+2) (A.flatMap (·.2.y6)++((L1++L2)++B.flatMap (·.2.y6))) R/\ Step D M M' (A.flatMap (·.2.y7)++(((e1.2.x4::R1)++(E.2.x4::R2))++B.flatMap (·.2.y7))) R/\M.Q0.length<=M'.Q0.length+2:=by
 obtain⟨m1,K1,I,m2,K2,J,aL,aM,eL,eR,aN,aO,aP,aQ,aR,aT,az,aA⟩:=hr.Fv;have bf:=hc.min h;have ab:=H.use;have aq:=H.nodup;have pm:(((e1.2.x4::R1)++(E.2.x4::R2))).Perm (e1.2.x4::E.2.x4::(R1++R2)):=by rw[xL];exact (perm_middle).cons _
 rw[<- eR] at pm;have U:∀x,x∈e1.2.x4::E.2.x4::(I++J)->x∈A.flatMap (·.2.y7)++(((e1.2.x4::R1)++(E.2.x4::R2))++B.flatMap (·.2.y7)):=λx C=>zI _ (zH _ (pm.mem_iff.2 C));have ah:(e1.2.x4::E.2.x4::(I++J)).Nodup:=pm.nodup_iff.1 (yN.1 (yN.1 aq).2.1).1;have V:=nodup_cons.1 ah;have ai:=nodup_cons.1 V.2;have aU:=ab _ (U e1.2.x4 oM);have aC:=ab _ (U E.2.x4 oM);obtain⟨G,M1,s1,ac,H1,bh⟩:=aL.store H.wf H.Q2 oK aU (λhm=>V.1 (zN _ (zH _ hm))) oK;have O:∀x,eH M x->x≠e1.2.x4->dS D M1 x=dS D M x/\eH M1 x/\x≠G:=λx C ar=>by
  have:=ac.rest x C (oQ ar);exact⟨this.1,this.2.1,by simpa using this.2.2⟩
 have ad:E.2.x4≠e1.2.x4:=λe=>V.1 (by rw[e];simp);have aW:kA D M1 k v h r.2.1 m2 K2 J:=aM.j0 λx C=>(O x (ab x (U x (by simp[C]))) λe=>V.1 (by rw[<- e];simp[C])).1;obtain⟨Q,M2,s2,aD,H2,bk⟩:=aW.store ac.wf ac.Q2 oK (O _ aC ad).2.1 (λhm=>ai.1 (zI _ hm)) oK;have ae:∀x,eH M1 x->x≠E.2.x4->dS D M2 x=dS D M1 x/\eH M2 x/\x≠Q:=λx C ar=>by
  have:=aD.rest x C (oQ ar);exact⟨this.1,this.2.1,by simpa using this.2.2⟩
 have aj:∀x∈G::I,eH M1 x/\x≠E.2.x4:=λx C=>by refine⟨H1.J3 ac.Q2 x C,λe=>?_⟩;rcases zG.1 C with e'|C;rcases ac.new G oM with h9|h9;exact ad (by rw[<- e,e',zE.1 h9]);exact h9 (by rw[<- e',e];exact aC);exact ai.1 (zH _ (e▸C))
 have aX:Has D M2 k v h ⟨G,m1,K1,G::I⟩:=H1.j0 λx C=>(ae x (aj x C).1 (aj x C).2).1;have aY:∀b,b∈A\/b∈B->∀x∈b.2.y7,eH M x/\x≠e1.2.x4/\x≠E.2.x4:=λb u x C=>by
  have hd:=yN.1 aq;have aZ:=yN.1 hd.2.1;have aE:∀z,z=e1.2.x4\/z=E.2.x4->z∈(e1.2.x4::R1)++(E.2.x4::R2):=λz hz=>pm.mem_iff.2 (by rcases hz with rfl|rfl<;>simp);have key:∀z,z=e1.2.x4\/z=E.2.x4->x≠z:=λz hz e=>by rcases u with u|u;exact hd.2.2 x (yL.2 ⟨b,u,C⟩) z (zH _ (aE z hz)) e;exact aZ.2.2 z (aE z hz) x (yL.2 ⟨b,u,C⟩) e.symm
  refine⟨ab x ?_,key _ (.inl rfl),key _ (.inr rfl)⟩;rcases u with u|u;exact zH _ (yL.2 ⟨b,u,C⟩);exact zI _ (zI _ (yL.2 ⟨b,u,C⟩))
 have af:∀b,b∈A\/b∈B->Has D M2 k v h b.2/\minOf k v h<=b.2.size:=λb u=>⟨(H.rest b u).1.j0 λx C=>by have h9:=aY b u x C;have h8:=O x h9.1 h9.2.1;exact ((ae x h8.2.1 h9.2.2).1).trans h8.1,(H.rest b u).2⟩;have hL:K1++K2=L1++L2:=eL;have aF:gB (A++(e1.1,(⟨G,m1,K1,G::I⟩:jh))::(r.2.2,⟨Q,m2,K2,Q::J⟩)::B):=by
  have hS:=H.sep;have hp:=pairwise_append.1 hS.pair;have ag:=yK.1 hp.2.1;have aH:=yK.1 ag.2;have hj:gB (A++(e1.1,(⟨0,0,L1++L2,[]⟩:jh))::B):=by refine⟨pairwise_append.2 ⟨hp.1,yK.2 ⟨λb u=>⟨(ag.1 b (by simp[u])).1,λx C=>?_⟩,aH.2⟩,λa ha b u=>?_⟩,λb u x C=>?_⟩;rcases zD.1 C with C|C;exact (ag.1 b (by simp[u])).2 x C;exact (aH.1 b u).2 x C;rcases zG.1 u with rfl|u;exact hp.2.2 a ha (e1.1,⟨0,0,L1,[]⟩) oM;exact hp.2.2 a ha b (by simp[u]);rcases zD.1 u with u|u;exact hS.low b (by simp[u]) x C;rcases zG.1 u with rfl|u;rcases zD.1 C with C|C;exact hS.low (e1.1,⟨0,0,L1,[]⟩) oM x C;have h9:=hS.low (E.1,⟨0,0,L2,[]⟩) oM x C;exact CA (uH (ag.1 (E.1,⟨0,0,L2,[]⟩) oM).1) h9;exact hS.low b (by simp[u]) x C
  exact hj.Bm hL.symm aN aO az aA
 have au:iz k (A++(e1.1,(⟨G,m1,K1,G::I⟩:jh))::(r.2.2,⟨Q,m2,K2,Q::J⟩)::B):=by
  have h9:iz k (A++e1::B):=λb u=>H.J5 b (by
   cases A with
   | nil=>exact zN _ u
   | cons a A=>
    rcases zD.1 (show b∈A++e1::B from u) with u|u;exact zH (e1::E::B) u;exact zI A ((zG.1 u).elim (λe=>by rw[e];simp) λu=>by simp[u]))
  exact qs4 h9 ⟨aP,aQ⟩
 have av:((A++(e1.1,(⟨G,m1,K1,G::I⟩:jh))::(r.2.2,⟨Q,m2,K2,Q::J⟩)::B).map (·.1)).head?=some []:=by
  have h9:=H.head;cases A with
  | nil=>exact h9
  | cons a A=>exact h9
 refine⟨dX (A++(e1.1,(⟨G,m1,K1,G::I⟩:jh))::(r.2.2,⟨Q,m2,K2,Q::J⟩)::B),M2,_,?_,⟨_,av,rfl,by simp;omega,?_,rfl,au,aF,H.len,λb u=>?_⟩,?_,oK⟩;have a0:(dX (A++e1::E::B)).J8.getD A.length 0=e1.2.x4:=CO.1;have a1:(dX (A++e1::E::B)).J8.getD (A.length+1) 0=E.2.x4:=CO.2;unfold pJ;rw[a0,a1,s1];dsimp only;rw[iN λh=>h rfl,s2];exact Kr (λN=>((N,(0:Int)),M2)) (qBt (s1:=⟨G,m1,K1,G::I⟩) (s2:=⟨Q,m2,K2,Q::J⟩));rw[tF,yI,<- hL,zV];rcases zD.1 u with u|u;exact af b (.inl u);rcases zG.1 u with rfl|u;exact⟨aX,aR⟩;rcases zG.1 u with rfl|u;exact⟨H2,aT⟩;exact af b (.inr u);have t1:Step D M M1 (e1.2.x4::E.2.x4::(I++J)) ([G]++E.2.x4::(I++J)):=by
  have:=ac.beside (Z:=E.2.x4::(I++J)) (λx C=>ab x (U x (zN _ C))) (by have p9:(e1.2.x4::E.2.x4::(I++J)).Perm ((E.2.x4::(I++J))++[e1.2.x4]):=(JW _ _).symm;exact p9.nodup_iff.1 ah);exact this.perm (JW _ _) perm_append_comm
 have aI:∀x∈[G]++(I++J),eH M1 x:=λx C=>t1.has x (by rcases zD.1 C with C|C;exact zH _ C;exact zI _ (zN _ C));have p8:([G]++E.2.x4::(I++J)).Perm (([G]++(I++J))++[E.2.x4]):=(by exact perm_middle.trans<|(JW _ _).symm);have t2:=aD.beside (Z:=[G]++(I++J)) aI (p8.nodup_iff.1 t1.nodup);have t3:=(t1.perm (.refl _) p8).trans t2;have p7:(([G]++(I++J))++[Q]).Perm ((G::I)++(Q::J)):=(by show (G::((I++J)++[Q])).Perm (G::(I++Q::J));refine List.Perm.cons _ ((JW _ _).trans ?_);exact perm_middle.symm);have t4:=Step.part (D:=D) (a:=A.flatMap (·.2.y7)) (b:=B.flatMap (·.2.y7)) ab aq (t3.perm pm.symm p7);rw[tF,yI];refine t4.perm (.refl _) ?_;rw[zV]
end
end
section
section
variable {D:dV} {M M':eZ} {k v:Nat}
def qqP(E:M.Wf)(G:M.Q2=false)(I:eH M n):∃M',fX M n=(0,M')/\Step D M M' [n] []/\M.Q0.length<=M'.Q0.length:=by
 obtain⟨M',e,t,J,O,Q⟩:=qmZ (D:=D) (q:=n+1) E G I oK;have C:∀x,x≠n->dS D M' x=dS D M x/\(eH M' x↔eH M x):=λx u=>by by_cases hq':x=n+1;rw[hq'];exact⟨J,O⟩;exact⟨t.rest x hq' u,t.use x hq' u⟩
 refine⟨M',e,⟨t.wf,t.Q2,t.Q1,t.j9,t.Q4,t.Q8,t.x9,t.x5,λx u h=>?_,λx u=>?_,λx u=>(nomatch u),λx u=>(nomatch u),.nil,t.nt⟩,Q⟩;have h:x≠n:=(oQ h);exact⟨(C x h).1,(C x h).2.2 u,oM⟩;by_cases h:x=n;subst h;exact absurd u (t.left oK);exact .inr ⟨(C x h).2.1 u,by simpa using h⟩
def qq3(hc:je k v){A B:List iO}{e1 E:iO}{L1:gH}{G I:KE}(H:ve D M k v h A B e1 E Nl Nr n1 n2 L1 L2 G I)(h1:n1+n2<=(if h=0 then (eG k v).1 else (eG k v).2))(h2:minOf k v h<=n1+n2)(hf:1<=M.Q0.length): ∃N M' R,mZ k v M (dX (A++e1::E::B)) A.length Nl Nr=((N,0),M')/\kA D M' k v (h+1) N (A.length+B.length+1) (A.flatMap (·.2.y6)++((L1++L2)++B.flatMap (·.2.y6))) R/\ Step D M M' (A.flatMap (·.2.y7)++(((e1.2.x4::G)++(E.2.x4::I))++B.flatMap (·.2.y7))) R/\M.Q0.length<=M'.Q0.length+1:=by
 obtain⟨az,aA,aB,aC⟩:=H.A1;have hJ:=qA7 H.left H.right h1 az aA ⟨aB,aC⟩;have aZ:=hc.min h;have O:=H.use;have ai:=H.nodup;have pm:(((e1.2.x4::G)++(E.2.x4::I))).Perm (e1.2.x4::E.2.x4::(G++I)):=by rw[xL];exact (perm_middle).cons _
 have Q:∀x,x∈e1.2.x4::E.2.x4::(G++I)->x∈A.flatMap (·.2.y7)++(((e1.2.x4::G)++(E.2.x4::I))++B.flatMap (·.2.y7)):=λx C=>zI _ (zH _ (pm.mem_iff.2 C));have ah:(e1.2.x4::E.2.x4::(G++I)).Nodup:=pm.nodup_iff.1 (yN.1 (yN.1 ai).2.1).1;have U:=nodup_cons.1 ah;have an:=nodup_cons.1 U.2;have aD:=O _ (Q e1.2.x4 oM);have ao:=O _ (Q E.2.x4 oM);obtain⟨q,M1,s1,V,H1,a1⟩:=hJ.store H.wf H.Q2 oK aD (λhm=>U.1 (zN _ hm)) hf;have aa:E.2.x4≠e1.2.x4:=λe=>U.1 (by rw[e];simp);have J:∀x,eH M x->x≠e1.2.x4->dS D M1 x=dS D M x/\eH M1 x/\x≠q:=λx C aj=>by
  have:=V.rest x C (oQ aj);exact⟨this.1,this.2.1,by simpa using this.2.2⟩
 obtain⟨M2,s2,ap,a4⟩:=qqP (D:=D) V.wf V.Q2 (J _ ao aa).2.1;have ab:∀x,eH M1 x->x≠E.2.x4->dS D M2 x=dS D M1 x/\eH M2 x:=λx C aj=>by
  have:=ap.rest x C (oQ aj);exact⟨this.1,this.2.1⟩
 have aE:Has D M2 k v h ⟨q,n1+n2,L1++L2,q::(G++I)⟩:=H1.j0 λx C=>(ab x (H1.J3 V.Q2 x C) λe=>by rcases zG.1 C with e'|C;exact (J _ ao aa).2.2 (by rw[<- e,e']);exact an.1 (e▸C)).1;have aF:∀b,b∈A\/b∈B->∀x∈b.2.y7,eH M x/\x≠e1.2.x4/\x≠E.2.x4:=λb u x C=>by
  have hd:=yN.1 ai;have aG:=yN.1 hd.2.1;have aq:∀z,z=e1.2.x4\/z=E.2.x4->z∈(e1.2.x4::G)++(E.2.x4::I):=λz hz=>pm.mem_iff.2 (by rcases hz with rfl|rfl<;>simp);have key:∀z,z=e1.2.x4\/z=E.2.x4->x≠z:=λz hz e=>by rcases u with u|u;exact hd.2.2 x (yL.2 ⟨b,u,C⟩) z (zH _ (aq z hz)) e;exact aG.2.2 z (aq z hz) x (yL.2 ⟨b,u,C⟩) e.symm
  refine⟨O x ?_,key _ (.inl rfl),key _ (.inr rfl)⟩;rcases u with u|u;exact zH _ (yL.2 ⟨b,u,C⟩);exact zI _ (zI _ (yL.2 ⟨b,u,C⟩))
 have ac:∀b,b∈A\/b∈B->Has D M2 k v h b.2/\minOf k v h<=b.2.size:=λb u=>⟨(H.rest b u).1.j0 λx C=>by have h9:=aF b u x C;have h8:=J x h9.1 h9.2.1;exact ((ab x h8.2.1 h9.2.2).1).trans h8.1,(H.rest b u).2⟩;have hS:=H.sep;have hp:=pairwise_append.1 hS.pair;have ag:=yK.1 hp.2.1;have au:=yK.1 ag.2;have av:gB (A++(e1.1,(⟨q,n1+n2,L1++L2,q::(G++I)⟩:jh))::B):=by refine⟨pairwise_append.2 ⟨hp.1,yK.2 ⟨λb u=>⟨(ag.1 b (by simp[u])).1,λx C=>?_⟩,au.2⟩,λa ha b u=>?_⟩,λb u x C=>?_⟩;rcases zD.1 C with C|C;exact (ag.1 b (by simp[u])).2 x C;exact (au.1 b u).2 x C;rcases zG.1 u with rfl|u;exact hp.2.2 a ha (e1.1,⟨0,0,L1,[]⟩) oM;exact hp.2.2 a ha b (by simp[u]);rcases zD.1 u with u|u;exact hS.low b (by simp[u]) x C;rcases zG.1 u with rfl|u;rcases zD.1 C with C|C;exact hS.low (e1.1,⟨0,0,L1,[]⟩) oM x C;have h9:=hS.low (E.1,⟨0,0,L2,[]⟩) oM x C;exact CA (uH (ag.1 (E.1,⟨0,0,L2,[]⟩) oM).1) h9;exact hS.low b (by simp[u]) x C
 have ak:iz k (A++(e1.1,(⟨q,n1+n2,L1++L2,q::(G++I)⟩:jh))::B):=by
  have h9:iz k (A++e1::B):=λb u=>H.J5 b (by
   cases A with
   | nil=>exact zN _ u
   | cons a A=>
    rcases zD.1 (show b∈A++e1::B from u) with u|u;exact zH (e1::E::B) u;exact zI A ((zG.1 u).elim (λe=>by rw[e];simp) λu=>by simp[u]))
  exact HU h9
 have al:((A++(e1.1,(⟨q,n1+n2,L1++L2,q::(G++I)⟩:jh))::B).map (·.1)).head?=some []:=by
  have h9:=H.head;cases A with
  | nil=>exact h9
  | cons a A=>exact h9
 have aR:=H.len;refine⟨dX (A++(e1.1,(⟨q,n1+n2,L1++L2,q::(G++I)⟩:jh))::B),M2,_,?_,⟨_,al,rfl,by simp;omega,by rw[tF],rfl,ak,av,oK,λb u=>?_⟩,?_,oK⟩;have aH:(dX (A++e1::E::B)).J8.getD A.length 0=e1.2.x4:=CO.1;have aI:(dX (A++e1::E::B)).J8.getD (A.length+1) 0=E.2.x4:=CO.2;have aJ:(dX (A++e1::E::B)).J5.getD A.length []=E.1:=Hx;unfold mZ;rw[aH,aI,aJ,s1];dsimp only;rw[iN λh=>h rfl,s2];dsimp only;rw[iN λh=>h rfl];exact Kr (λN=>((N,(0:Int)),M2)) (qAS (s:=⟨q,n1+n2,L1++L2,q::(G++I)⟩));rcases zD.1 u with u|u;exact ac b (.inl u);rcases zG.1 u with rfl|u;exact⟨aE,h2⟩;exact ac b (.inr u);have t1:Step D M M1 (e1.2.x4::E.2.x4::(G++I)) ([q]++E.2.x4::(G++I)):=by
  have:=V.beside (Z:=E.2.x4::(G++I)) (λx C=>O x (Q x (zN _ C))) (by have p9:(e1.2.x4::E.2.x4::(G++I)).Perm ((E.2.x4::(G++I))++[e1.2.x4]):=(JW _ _).symm;exact p9.nodup_iff.1 ah);exact this.perm (JW _ _) perm_append_comm
 have p8:([q]++E.2.x4::(G++I)).Perm (([q]++(G++I))++[E.2.x4]):=(by exact perm_middle.trans<|(JW _ _).symm);have t2:=ap.beside (Z:=[q]++(G++I)) (λx C=>t1.has x (by rcases zD.1 C with C|C;exact zH _ C;exact zI _ (zN _ C))) (p8.nodup_iff.1 t1.nodup);have t3:=(t1.perm (.refl _) p8).trans t2;rw[xJ] at t3;have t4:=Step.part (D:=D) (a:=A.flatMap (·.2.y7)) (b:=B.flatMap (·.2.y7)) O ai (t3.perm pm.symm (.refl _));rw[tF];exact t4
def gB.swap{A B:List iO}{e:iO}{s:jh}(h:gB (A++e::B))(u:∀x∈s.y6,x∈e.2.y6):gB (A++(e.1,s)::B):=
 h.put (key:=e.1) tX (λb C=>(h.mid.2 b C).1) λx E=>.inr (u x E)
def Jt(hc:je k v){key:Key}:∀(h:Nat) (M:eZ) (s:jh),Has D M k v h s->M.Wf->M.Q2=false->s.y7.Nodup->key∈eh s.y6->2*h<=M.Q0.length-> ∃N n M' R R',jg D k v key (h+1) M s.x4=((N,0),M')/\s.y7=s.x4::R/\kA D M' k v h N n (ir key s.y6) R'/\Step D M M' R R'/\s.size<=n+1/\M.Q0.length<=M'.Q0.length+2*h
 | 0,M,s,hs,hW,ho,aK,ak,hf=>by
  obtain⟨N,R,hl,hN,hp,bT,_⟩:=hs.load;have bU:=hN;obtain⟨rfl,hn,rfl,hL,aL,bb⟩:=hN;have al:=qoG aL ak;have hm:=(AP aL).2 ak;have hi:dY (eh s.y6) key<s.y6.length:=by
   have:=(zP.1 hm).1;simpa using this
  have bK:(ir key s.y6).length+1=s.y6.length:=(by rw[al,zF,yM,yC];omega);refine⟨eQ (ir key s.y6),(ir key s.y6).length,M,[],[],?_,hp,⟨rfl,rfl,rfl,λx u=>hL x (H0.1 u).1,qqL aL,oK⟩,Step.refl hW ho (λx u=>nomatch u) .nil,oK,oK⟩;unfold jg;rw[hl];dsimp only;rw[iN λh=>h rfl,iP (show (eQ s.y6).Q3=true from rfl),iP (show (eQ s.y6).J5[dY (eQ s.y6).J5 key]?=some key from hm)];refine Kr (λN=>((N,(0:Int)),M)) ?_;rw[al];unfold eQ iX;simp only[xP,xR,xS]
 | h+1,M,⟨p,n,L,P⟩,⟨es,h0,h1,h2,h3,h4,h5,h6,h7⟩,hW,ho,aK,ak,hf=>by
  dsimp only at h1 h2 h3 h5 aK ak;subst h1 h2 h3;have hl:dU D M k v p=(dX es,0):=h4.load h5;have am:=h4.right.x8;obtain⟨A,e,B,V,hA,bu,bv,aN⟩:=xi (key:=key) h0 h6;have aO:(dX es).J8.getD (eT (dX es).J5 key) 0=e.2.x4:=aN;have bx:eT (dX es).J5 key=A.length:=hA.symm;have bz:e∈es:=(by rw[V];simp);obtain⟨bA,bB⟩:=h7 e bz;have ah:es.flatMap (·.2.y7)=A.flatMap (·.2.y7)++(e.2.y7++B.flatMap (·.2.y7)):=(by rw[V,tF]);have au:es.flatMap (·.2.y6)=A.flatMap (·.2.y6)++(e.2.y6++B.flatMap (·.2.y6)):=(by rw[V,tF]);have ax:∀z∈A.flatMap (·.2.y7)++(e.2.y7++B.flatMap (·.2.y7)),eH M z:=λz hz=>by rw[<- ah] at hz;obtain⟨b,E,hz⟩:=yL.1 hz;exact (h7 b E).1.J3 ho z hz
  have ag:(A.flatMap (·.2.y7)++(e.2.y7++B.flatMap (·.2.y7))).Nodup:=(by rw[<- ah];exact (nodup_cons.1 aK).2);have an:e.2.y7.Nodup:=(yN.1 (yN.1 ag).2.1).1;have av:=h6;rw[V] at av;have ay:=av.mid;have bd:∀x∈A.flatMap (·.2.y6),gq x.1 key:=λx u=>by obtain⟨a,ha,u⟩:=yL.1 u;exact uf (ay.1 a ha x u) bu
  have bf:∀x∈B.flatMap (·.2.y6),gq key x.1:=λx u=>by obtain⟨b,E,u⟩:=yL.1 u;exact uf (bv b E) ((ay.2 b E).2.2 x u)
  have al:ir key (es.flatMap (·.2.y6))=A.flatMap (·.2.y6)++(ir key e.2.y6++B.flatMap (·.2.y6)):=(by rw[au,qoF bd,qmX bf]);have aP:key∈eh e.2.y6:=by obtain⟨x,u,rfl⟩:=mem_map.1 ak;rw[au] at u;rcases zD.1 u with u|u;exact absurd (bd x u) tX;rcases zD.1 u with u|u;exact zZ u;exact absurd (bf x u) tX
  obtain⟨N1,n1,M1,Re,J,ec,aQ,ao,st,bZ,b0⟩:=Jt hc h M e.2 bA hW ho an aP oK;rw[aQ] at ax ag an;have aa:=iz.of h4;have aI:e.2.x4∉Re:=(nodup_cons.1 an).1;have aR:eH M e.2.x4:=ax _ oM;have bD:Step D M M1 (e.2.x4::Re) (e.2.x4::J):=st.beside (Z:=[e.2.x4]) (λx u=>by rw[zE.1 u];exact aR) (oQ an);have aT:=Step.part ax ag bD;have bg:eH M1 e.2.x4:=(st.rest _ aR aI).2.1;have aU:e.2.x4∉J:=(st.rest _ aR aI).2.2;have G:∀b,b∈A\/b∈B->Has D M1 k v h b.2/\minOf k v h<=b.2.size:=λb E=>by
   have aV:b∈es:=by rw[V];rcases E with E|E<;>simp[E]
   refine⟨(h7 b aV).1.j0 λx u=>?_,(h7 b aV).2⟩;have hd:=yN.1 ag;refine (st.rest x ((h7 b aV).1.J3 ho x u) λhm=>?_).1;rcases E with E|E;exact hd.2.2 x (yL.2 ⟨b,E,u⟩) x (zH _ (zN _ hm)) rfl;exact (yN.1 hd.2.1).2.2 x (zN _ hm) x (yL.2 ⟨b,E,u⟩) rfl
  have bb:n1<=(if h=0 then (eG k v).1 else (eG k v).2):=by
   cases h with
   | zero=>exact ao.2.2.2.2.2
   | succ h=>obtain⟨_,_,_,_,_,_,_,_,h9,_⟩:=ao;exact h9
  have b1:=hc.min h;have aq:minOf k v h=(if h=0 then (eG k v).1 else (eG k v).2) / 2:=(by unfold minOf;split<;>rfl);have az:gB (A++(e.1,(⟨0,0,ir key e.2.y6,[]⟩:jh))::B):=av.swap λx u=>(H0.1 u).1;have C:es.length=A.length+B.length+1:=(by rw[V];simp;omega);have aD:∀ {N:dW} {M2:eZ} {n R':_},kA D M2 k v (h+1) N n (A.flatMap (·.2.y6)++(ir key e.2.y6++B.flatMap (·.2.y6))) R'->kA D M2 k v (h+1) N n (ir key (es.flatMap (·.2.y6))) R':=λh9=>by rw[al];exact h9
  have aw:∀ {M2:eZ} {R':KE},Step D M1 M2 (A.flatMap (·.2.y7)++((e.2.x4::J)++B.flatMap (·.2.y7))) R'->Step D M M2 (es.flatMap (·.2.y7)) R':=λh9=>by rw[ah,aQ];exact aT.trans h9
  have aJ:qS N1 k v↔n1<minOf k v h:=(by unfold qS;rw[ao.size,aq]);unfold jg;rw[hl];dsimp only;rw[iN λh=>h rfl,iN (show ¬(dX es).Q3=true from λe=>nomatch e),aO,ec];dsimp only;rw[iN λh=>h rfl,bx];by_cases hlw:qS N1 k v;rw[iN λh=>h hlw];have b2:=aJ.1 hlw;have bi:n1+1=minOf k v h:=oK;by_cases hA0:A.length>0;rw[iP hA0];obtain⟨A',f,rfl⟩:∃A' f,A=A'++[f]:=(by have bj:A≠[]:=length_pos_iff.1 hA0;exact⟨A.dropLast,A.getLast bj,(vC bj).symm⟩);have bE:(A'++[f]).length-1=A'.length:=oM;rw[bE];have aA:=G f (.inl oM);obtain⟨Ny,Ry,aX,ar,aY,_,_⟩:=aA.1.load;have I:es=A'++f::e::B:=(by rw[V];simp);have bF:(A'++[f]).flatMap (·.2.y7)=A'.flatMap (·.2.y7)++f.2.y7:=(by simp[yR]);have bl:(A'++[f]).flatMap (·.2.y6)=A'.flatMap (·.2.y6)++f.2.y6:=(by simp[yR]);have ab:(A'++[f]).flatMap (·.2.y7)++((e.2.x4::J)++B.flatMap (·.2.y7))=A'.flatMap (·.2.y7)++(((f.2.x4::Ry)++(e.2.x4::J))++B.flatMap (·.2.y7)):=(by rw[bF,aY];simp only[zV]);have ap:(A'++[f]).flatMap (·.2.y6)++(ir key e.2.y6++B.flatMap (·.2.y6))=A'.flatMap (·.2.y6)++((f.2.y6++ir key e.2.y6)++B.flatMap (·.2.y6)):=(by rw[bl];simp only[zV]);have aB:gB (A'++(f.1,(⟨0,0,f.2.y6,[]⟩:jh))::(e.1,⟨0,0,ir key e.2.y6,[]⟩)::B):=(by have h9:gB (A'++f::((e.1,(⟨0,0,ir key e.2.y6,[]⟩:jh))::B)):=(oQ az);exact h9.swap (s:=⟨0,0,f.2.y6,[]⟩) λx u=>u);have ac:=aT;rw[ab] at ac;have Hn:ve D M1 k v h A' B f e Ny N1 f.2.size n1 f.2.y6 (ir key e.2.y6) Ry J:=
   ⟨st.wf,st.Q2,by rw[<- I];exact h0,by rw[<- I];exact aa,aB,by have:=am.2;rw[C] at this;simp at this;omega,λb E=>G b (E.imp (λE=>by simp[E]) id),ar,ao,ac.has,ac.nodup⟩
  have a0:(dX es).J8.getD A'.length 0=f.2.x4:=(by rw[I];exact CO.1);have O:jS Ny k v↔minOf k v h<f.2.size:=(by unfold jS;rw[ar.size,aq]);unfold k9;rw[a0,aX];dsimp only;rw[iN λh=>h rfl,iP (show A'.length<(A'++[f]).length by simp),I];by_cases hsq:jS Ny k v;rw[iN λh=>h hsq];obtain⟨a1,a2,a3,a4⟩:=Hn.A1;have a5:(dX (A'++f::e::B)).J5.getD A'.length []=e.1:=Hx;rw[a5];obtain⟨N,M2,R,e2,ad,U,aF⟩:=quX hc Hn (qAZ hc ar ao (O.1 hsq) bi a1 a2 ⟨a3,a4⟩) oK;rw[<- ap] at ad;rw[<- ab] at U;rw[<- I];exact⟨N,_,M2,_,R,by rw[I];exact e2,rfl,aD ad,aw U,by rw[C];simp;omega,oK⟩;rw[iP hsq];have bG:f.2.size<=minOf k v h:=Nat.le_of_not_lt λh9=>hsq (O.2 h9);have a6:=aA.2;obtain⟨N,M2,R,e2,ad,U,aF⟩:=qq3 hc Hn oK oK oK;rw[<- ap] at ad;rw[<- ab] at U;rw[<- I];exact⟨N,_,M2,_,R,by rw[I];exact e2,rfl,aD ad,aw U,by rw[C];simp;omega,oK⟩;rw[iN hA0];obtain rfl:A=[]:=Kg oK;obtain⟨f,B',rfl⟩:∃f B',B=f::B':=by
   cases B with
   | nil=>rw[C] at am;simp at am
   | cons f B'=>exact⟨f,B',rfl⟩
  have aA:=G f (.inr oM);obtain⟨Ny,Ry,aX,ar,aY,_,_⟩:=aA.1.load;have I:es=[]++e::f::B':=V;have ab:([]:List iO).flatMap (·.2.y7)++((e.2.x4::J)++(f::B').flatMap (·.2.y7))=([]:List iO).flatMap (·.2.y7)++(((e.2.x4::J)++(f.2.x4::Ry))++B'.flatMap (·.2.y7)):=by rw[yI,aY];simp only[zV]
  have ap:([]:List iO).flatMap (·.2.y6)++(ir key e.2.y6++(f::B').flatMap (·.2.y6))=([]:List iO).flatMap (·.2.y6)++((ir key e.2.y6++f.2.y6)++B'.flatMap (·.2.y6)):=(by rw[yI];simp only[zV]);have aB:gB ([]++(e.1,(⟨0,0,ir key e.2.y6,[]⟩:jh))::(f.1,⟨0,0,f.2.y6,[]⟩)::B'):=(by have h9:gB ([(e.1,(⟨0,0,ir key e.2.y6,[]⟩:jh))]++f::B'):=az;exact h9.swap (s:=⟨0,0,f.2.y6,[]⟩) λx u=>u);have ac:=aT;rw[ab] at ac;have Hn:ve D M1 k v h [] B' e f N1 Ny n1 f.2.size (ir key e.2.y6) f.2.y6 J Ry:=
   ⟨st.wf,st.Q2,by rw[<- I];exact h0,by rw[<- I];exact aa,aB,by have:=am.2;rw[C] at this;simp at this⊢;omega,λb E=>G b (E.imp id λE=>by simp[E]),ao,ar,ac.has,ac.nodup⟩
  have a0:(dX es).J8.getD (([]:List iO).length+1) 0=f.2.x4:=(by rw[I];exact CO.2);have O:jS Ny k v↔minOf k v h<f.2.size:=(by unfold jS;rw[ar.size,aq]);unfold k9;rw[a0,aX];dsimp only;rw[iN λh=>h rfl,iN (show ¬([]:List iO).length+1<([]:List iO).length by simp),I];by_cases hsq:jS Ny k v;rw[iN λh=>h hsq];obtain⟨a1,a2,a3,a4⟩:=Hn.A1;have a5:(dX ([]++e::f::B')).J5.getD ([]:List iO).length []=f.1:=Hx (A:=[]) (B:=B') (e1:=e);rw[a5];obtain⟨N,M2,R,e2,ad,U,aF⟩:=quX hc Hn (qBx hc ao ar bi (O.1 hsq) a1 a2 ⟨a3,a4⟩) oK;rw[<- ap] at ad;rw[<- ab] at U;rw[<- I];exact⟨N,_,M2,_,R,by rw[I];exact e2,rfl,aD ad,aw U,by rw[C];simp,oK⟩;rw[iP hsq];have bG:f.2.size<=minOf k v h:=Nat.le_of_not_lt λh9=>hsq (O.2 h9);have a6:=aA.2;obtain⟨N,M2,R,e2,ad,U,aF⟩:=qq3 hc Hn oK oK oK;rw[<- ap] at ad;rw[<- ab] at U;rw[<- I];exact⟨N,_,M2,_,R,by rw[I];exact e2,rfl,aD ad,aw U,by rw[C];simp,oK⟩;rw[iP hlw];have a6:minOf k v h<=n1:=Nat.le_of_not_lt λh9=>hlw (aJ.2 h9);obtain⟨q,M2,e2,U,H2,aF⟩:=ao.store st.wf st.Q2 oK bg aU oK;rw[e2];have bH:Step D M M2 (e.2.x4::Re) (q::J):=Step.kid (Q:=[q]) (λz hz=>ax z (zI _ (zH _ hz))) an st U;have bI:=Step.part ax ag bH;have a7:gB (A++(e.1,(⟨q,n1,ir key e.2.y6,q::J⟩:jh))::B):=av.swap λx u=>(H0.1 u).1;have a8:((A++(e.1,(⟨q,n1,ir key e.2.y6,q::J⟩:jh))::B).map (·.1)).head?=some []:=(by rw[V] at h0;rw[xP,xQ] at h0⊢;exact h0);refine⟨dX (A++(e.1,(⟨q,n1,ir key e.2.y6,q::J⟩:jh))::B),es.length,M2,_,A.flatMap (·.2.y7)++((q::J)++B.flatMap (·.2.y7)),?_,rfl,⟨_,a8,rfl,by rw[V];simp,by rw[tF,al],by rw[tF],HU (by rw[<- V];exact aa),a7,am.2,λb E=>?_⟩,by rw[ah,aQ];exact bI,by show es.length<=es.length+1;omega,oK⟩;rw[V];exact Kr (λN=>((N,(0:Int)),M2)) (qBs (s:=⟨q,n1,ir key e.2.y6,q::J⟩));have bm:∀b,b∈A\/b∈B->Has D M2 k v h b.2/\minOf k v h<=b.2.size:=λb E=>by have h9:=G b E;refine⟨h9.1.j0 λx u=>(U.rest x (h9.1.J3 st.Q2 x u) λhm=>?_).1,h9.2⟩;have hd:=yN.1 ag;have bn:=zE.1 hm;rcases E with E|E;exact hd.2.2 x (yL.2 ⟨b,E,u⟩) x (by rw[bn];simp) rfl;exact (yN.1 hd.2.1).2.2 x (by rw[bn];simp) x (yL.2 ⟨b,E,u⟩) rfl
  rcases zD.1 E with E|E;exact bm b (.inl E);rcases zG.1 E with rfl|E;exact⟨H2,a6⟩;exact bm b (.inr E)
end
end
end
end Go.Proofs.YtfneoijhmknlnaaGreatDoor
