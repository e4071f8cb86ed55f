/- Conditions: those that stand in each line. -/
import Derived.Test.YtpcmehldpoljfaaGreatDoorCSKQ3
import Derived.Test.YtpcmehldpoljfaaGreatDoorTie
import Derived.Test.YtpcmehldpoljfaaGreatDoorCSKQ1
import Derived.LaidMore
import Derived.MakeChecks
import Derived.OpenShut
import Derived.ProofKit
import Derived.Test.YtpcmehldpoljfaaGreatDoorCSKQ2
import Derived.Lib.Bytealg
import Derived.Lib.BytesEntry
import Derived.Laws.IdiomStrings
import Derived.Laws.BytesString
set_option linter.unusedVariables false
set_option linter.unusedSimpArgs false
set_option linter.defProp false
namespace Go.Proofs.YtpcmehldpoljfaaGreatDoor
open Go Go.Pt
attribute [local irreducible] ld dK ij nM jv fg st new idx jw jL fD jO jl mF gF nn call ed inv run eW i9 join loop held ext kH eS nf mY ng IntKind.wrap
open Go.Proofs.Tryz (prog)
section
open Go Go.Pt List
open Go.IntKind (wrap)
open Classical
def bw:Nat->Int->List Int
 | 0,_=>[]
 | k+1,n=>bw k (n / 256)++[n%256]
def k8:∀(k:Nat) (n:Int),(bw k n).length=k
 | 0,_=>rfl
 | k+1,n=>by rw[bw,zF,k8 k];rfl
def po:∀(k:Nat) (n:Int),eF (bw k n)
 | 0,_=>fun _ h=>nomatch h
 | k+1,n=>fun x u=>(zD.1 u).elim (po k _ x) fun h=>by rw[zE.1 h];omega
def qrC(l:List Int)(x:Int):nP (l++[x])=nP l*256+x:=by unfold nP;rw[foldl_append];rfl
def uH:∀(k:Nat) {n:Int},0<=n->n<256^k->nP (bw k n)=n
 | 0,n,u,h=>by have:n<1:=h;show (0:Int)=n;omega
 | k+1,n,u,h=>by rw[Int.pow_succ] at h;rw[bw,qrC,uH k oJ oJ];omega
def Dw{k:Nat}{a b:Int}(u:0<=a/\a<256^k)(C:0<=b/\b<256^k)(h:bw k a=bw k b):a=b:=by rw[<- uH k u.1 u.2,h,uH k C.1 C.2]
def qvh(l:List Int):∀(r:Int),l.foldl (fun r x=>r*256+x) r=r*256^l.length+nP l:=by
 unfold nP;induction l with
 | nil=>intro r;simp
 | cons x l ih=>
  intro r;rw[foldl_cons,foldl_cons,ih,ih (0*256+x),yI,Int.pow_succ];have:(r*256+x)*256^l.length=r*(256^l.length*256)+x*256^l.length:=(by rw[Int.add_mul,Int.mul_assoc,Int.mul_comm 256]);rw[this];simp;omega
def FN(x:Int)(l:List Int):nP (x::l)=x*256^l.length+nP l:=by
 have:=qvh l (0*256+x)
 rw[show (0*256+x)=x by omega] at this;unfold nP;rw[foldl_cons,show (0*256+x:Int)=x by omega,this];rfl
def Cu:∀ {l:List Int},eF l->0<=nP l/\nP l<256^l.length
 | [],_=>⟨oM,oM⟩
 | x::l,h=>by have ih:=Cu fun y u=>h y (zN x u);have C:=h x oL;rw[FN,yI,Int.pow_succ];generalize (256:Int)^l.length=c at ih;have E:x*c<=255*c:=Int.mul_le_mul_of_nonneg_right oJ oJ;have G:0<=x*c:=Int.mul_nonneg oJ oJ;omega
def qtZ:∀ {a b:List Int},eF a->eF b->a.length=b.length->(cmpL a b<0↔nP a<nP b)
 | [],[],_,_,_=>by show (0:Int)<0↔_;exact .rfl
 | [],_::_,_,_,h=>by simp at h
 | _::_,[],_,_,h=>by simp at h
 | x::a,y::b,E,G,h=>by have C:a.length=b.length:=(oP h);have ih:=qtZ (fun z u=>E z (zN _ u)) (fun z u=>G z (zN _ u)) C;have pa:=Cu fun z u=>E z (zN _ u);have pb:=Cu fun z u=>G z (zN _ u);rw[FN,FN,C];rw[C] at pa;generalize (256:Int)^b.length=c at pa pb;unfold cmpL;by_cases h1:x<y;rw[if_pos h1];have:(x+1)*c<=y*c:=Int.mul_le_mul_of_nonneg_right oJ oJ;rw[Int.add_mul,Int.one_mul] at this;exact⟨fun _=>oJ,fun _=>oM⟩;rw[if_neg h1];by_cases h2:y<x;rw[if_pos h2];have:(y+1)*c<=x*c:=Int.mul_le_mul_of_nonneg_right oJ oJ;rw[Int.add_mul,Int.one_mul] at this;exact⟨fun h=>absurd h oM,fun h=>oJ⟩;rw[if_neg h2,ih];have:x=y:=oJ;subst this;omega
def qtY:∀ {a b c d:List Int},a.length=b.length->cmpL (a++c) (b++d)=if a=b then cmpL c d else cmpL a b
 | [],[],_,_,_=>by rw[if_pos rfl];rfl
 | [],_::_,_,_,h=>by simp at h
 | _::_,[],_,_,h=>by simp at h
 | x::a,y::b,c,d,h=>by have ih:=qtY (a:=a) (b:=b) (c:=c) (d:=d) (oP h);rw[show cmpL (x::a++c) (y::b++d)=if x<y then -1 else if y<x then 1 else cmpL (a++c) (b++d) from rfl,show cmpL (x::a) (y::b)=if x<y then -1 else if y<x then 1 else cmpL a b from rfl];by_cases h1:x<y;rw[if_pos h1,if_pos h1,if_neg (fun e=>by have:=(vC e).1;omega)];rw[if_neg h1,if_neg h1];by_cases h2:y<x;rw[if_pos h2,if_pos h2,if_neg (fun e=>by have:=(vC e).1;omega)];have:x=y:=oJ;subst this;rw[if_neg h2,if_neg h2,ih];by_cases e:a=b;rw[if_pos e,if_pos (by rw[e])];rw[if_neg e,if_neg (fun h=>e (vC h).2)]
def Dz(n:Int)(h:0<=n/\n<65536):wrap .u16 n=n:=by unfold wrap;have:(IntKind.u16.signed)=false:=rfl;simp only[this,Bool.false_and,Bool.false_eq_true,if_false];exact Int.emod_eq_of_lt h.1 h.2
abbrev iV:=Int×Int
def tI (a:iV):Prop:=np a.1/\np a.2
def iG (a:iV):List Int:=bw 8 a.1++bw 8 a.2
def lT(a:iV):(iG a).length=16:=by rw[iG,zF,k8,k8]
def oj(a:iV):eF (iG a):=fun x h=>(zD.1 h).elim (po _ _ x) (po _ _ x)
def p8:(256:Int)^8=18446744073709551616:=by decide
def FV{a b:iV}(u:tI a)(C:tI b)(h:iG a=iG b):a=b:=by obtain⟨E,G⟩:=append_inj h (by rw[k8,k8]);exact Prod.ext (Dw (by rw[p8];exact u.1) (by rw[p8];exact C.1) E) (Dw (by rw[p8];exact u.2) (by rw[p8];exact C.2) G)
def kT (a:iV) (n:Int):List Int:=iG a++bw 8 n
def kN (n m:Int):List Int:=bw 8 n++bw 8 m
def ED(a:iV)(n:Int):(kT a n).length=24:=by rw[kT,zF,lT,k8]
def wN(n m:Int):(kN n m).length=16:=by rw[kN,zF,k8,k8]
def GI(a:iV)(n:Int):eF (kT a n):=fun x h=>(zD.1 h).elim (oj _ x) (po _ _ x)
def DG(n m:Int):eF (kN n m):=oj (n,m)
def qxe{a b:iV}{n m:Int}(u:tI a)(C:tI b)(E:np n)(G:np m)(h:kT a n=kT b m):a=b/\n=m:=by obtain⟨I,J⟩:=append_inj h (by rw[lT,lT]);exact⟨FV u C I,Dw (by rw[p8];exact E) (by rw[p8];exact G) J⟩
def qwm{n m:Int}(h:np n)(u:np m):cmpL (bw 8 n) (bw 8 m)<0↔n<m:=by rw[qtZ (po _ _) (po _ _) (by rw[k8,k8]),uH 8 h.1 (by rw[p8];exact h.2),uH 8 u.1 (by rw[p8];exact u.2)]
end
section
open Go Go.Pt List
open Go.IntKind (wrap)
open Classical
end
section
open Go.ChangeShapes Go.WideShapes Go.ChangeAt Go.RowKit Go.Pt
def qA8:ownKnob prog.godebug=none:=by kernel_rfl
def qw0:laidOutB prog=true:=by kernel_rfl
abbrev qA:List (String×DataW Unit):=[("cashbook/crc.halves",Rows.laid_cashbook_crc_halves)]
def qt9:prog.globalNamed "cashbook/crc.halves"=some HG:=by kernel_rfl
def qzG:(prog.globals[HG]?).map (·.type)=some 373:=by kernel_rfl
def qzH:prog.underlying 373=some (.array 16 63):=by kernel_rfl
def qyq:prog.underlying 63=some (.int .u32):=by kernel_rfl
set_option maxRecDepth 100000 in
def qyj(h:Os)(args:Array Value):laidMetH prog qA ((World.doorLaid prog 4000 h).forCall (fun _ _=>0) ⟨#[],args,[]⟩).memory:=
 laidMetH_of_parts3 (fuel:=8) (laidMet_of_run' 8 oK oK) oK oK
def qvl{W:World}(h:laidMetH prog qA W):Hv W:=by
 rw[MakeChecks.laidMetH_plain _ _ _ oK] at h;obtain⟨ps,⟨g0,t0,cs0,f0,p0,q0,hg0,ht0,hv0,hd0,_,_⟩,_,_⟩:=h;obtain rfl:=yO (qt9.symm.trans hg0);obtain rfl:=yO (qzG.symm.trans ht0);obtain⟨xs,m1,rfl,hx1,hlen,hn3,hel⟩:=DataW.trod_array qzH hd0;simp only[Prod.mk.injEq] at hx1;have hx:=hx1.1;unfold Rows.laid_cashbook_crc_halves at hx;rw[DataW.agg.injEq] at hx;have c31:prog.cellsOf 63=1:=oK;have hcl:prog.cellsOf 373=16:=oK;have hb:∃T fr,W.heap[HG]?=some (.cells cs0 T fr):=by unfold World.var? at hv0;rw[qt9,Option.bind_some] at hv0;split at hv0;rename_i cs T fr hb;cases hv0;exact⟨T,fr,hb⟩;cases hv0
 obtain⟨T,fr,hb⟩:=hb;have key:∀(i:Nat) (n:Int),(xs.map (·.1))[i]?=some (DataW.lit (.int .u32 n))->cs0.toList[i]?=some (.int .u32 n):=by
  intro i n hi;rw[zQ] at hi;obtain⟨y,hy,hyn⟩:=yT.1 hi;have hil:i<xs.length:=(zP.1 hy).1;have h1:=hel i oJ;rw[c31] at h1;rw[hy] at h1;obtain⟨k,e1,e2,_⟩:=DataW.trod_int qyq h1;rw[e2] at hyn;have hk:k=n:=(oP hyn);subst hk
  have:=congrArg (·[0]?) e1
  simpa using this
 refine⟨T,fr,?_⟩;rw[hb];refine congrArg (fun c=>some (Obj.cells c T fr)) ?_;apply Array.ext';apply List.ext_getElem?;intro i;have hsz:cs0.toList.length=16:=hlen.trans hcl;have hx':xs.map (·.1)=kP.map (fun n=>DataW.lit (.int .u32 n)):=hx.symm;by_cases hi:i<kP.length;have h1:=key i kP[i] (by rw[hx',zQ,zA hi];rfl);rw[h1];show _=(kP.map (Value.int .u32))[i]?;rw[zQ,zA hi];rfl;have h16:kP.length=16:=rfl;rw[yS oJ];exact (yS (by rw[zK];omega)).symm
def qza{x:Int}(h:IntKind.u8.has x):0<=x/\x<256:=by have u:(0:Int)<=x/\x<=255:=h;omega
def vc{x:Int}(h:IntKind.u16.has x):0<=x/\x<65536:=by have u:(0:Int)<=x/\x<=65535:=h;omega
def zh{x:Int}(h:IntKind.u32.has x):0<=x/\x<4294967296:=by have u:(0:Int)<=x/\x<=4294967295:=h;omega
end
section
open Go Go.Pt Go.Sort List
def Ez(l:List Int):l.flatMap iu=l.map (Value.int .u32):=by
 induction l with
 | nil=>rfl
 | cons a l ih=>rw[yH,ih];rfl
def qrx{w:World}{s:Sl}{l:List Int}{B:List Nat}{K:Unit->WP}(h:lc w s l B)(hl:l.length<=1000000)(hk:∀I w',lc w' s I B->I.Perm l->I.Pairwise (·<=·)->Fr B w w'->K () w'): cW 148 [s.v] [] w K:=by
 rcases h with ⟨rfl,rfl,rfl⟩|⟨b,o,C,T,rfl,rfl,ha,hb,h1,h2,h3,J⟩;exact qry (hk [] w (.nil _ _ _) (.refl _) .nil (.refl _ _));obtain⟨a,len,cap⟩:=s;simp only at ha h1 h2 h3 J;subst ha h1;rw[xF,xT,Ez] at J;rw[xS,xT] at h3;have R:C=ib l.toArray++(C.toList.drop l.length).toArray:=by apply Array.ext';rw[Array.toList_append,ib,Array.toList_map,<- J,xE]
 have E:gG b ⟨T,some (C.toList.drop l.length).toArray⟩ w w l.toArray:=⟨.refl _ _,by rw[hb];show _=some (Obj.cells (ib l.toArray++(C.toList.drop l.length).toArray) T (0,0));rw[<- R]⟩;refine qtN (len:=l.length) E ⟨oL,oJ⟩ fun u w' s1 s2 s3=>?_;have G:u.size=l.length:=(by have:=s1.1;simpa using this);have hp:u.toList.Perm l:=by
  have:=A0 s1
  rw[zS (by rw[Array.length_toList];omega)] at this;simpa using this
 have U:u.toList.length=l.length:=(by rw[<- G];rfl);have am:C.toList.length=C.size:=rfl;refine hk u.toList w' (.inr ⟨b,0,_,T,rfl,rfl,rfl,s3.eH,?_,?_,?_,?_⟩) hp ?_ s3.fr;show l.length=u.toList.length;exact U.symm;exact h2;show 0+cap*1<=(ib u++(C.toList.drop l.length).toArray).size;have e:(C.toList.drop l.length).toArray.size=C.size-l.length:=oL;rw[Array.size_append,xq,e,G];omega;show ((ib u++(C.toList.drop l.length).toArray).toList.drop 0).take _=_;rw[xF,xT,Array.toList_append,ib,Array.toList_map,take_append_of_le_length (by rw[zK];exact zM _),zS (by rw[zK];exact zM _),Ez];rw[pairwise_iff_getElem];intro i j V hj ab;have V:i<u.size:=V;have hj:j<u.size:=hj
 have:=s2 i j (yX _) ab oJ
 rw[getElem!_pos u i V,getElem!_pos u j hj] at this;simp[ltInt] at this;simpa using this
def qrn{w:World}{mb:Nat}{f:List (Int×Value)}{K:Sl->WP}(R:i4 jh w mb f)(U:f.length<=100000)(V:∀u B h w',lc w' u h B->h.Perm (f.map (·.1))->h.Pairwise (·<=·)->Fr [] w w'->(∀b∈B,w.heap.size<=b)->K u w'): cW 180 [.map (some mb)] dv w fun v w'=> cW 179 [v] dh w' fun s w'=>K s w':=by refine qsh<|oB (oE [] w) fun rk w1 e1 C ho=>qnj<|qlM<|qqS (R.q8 C oL) (ho.at (i:=0) rfl) U fun u B h w2 b2 G f2 I=>?_;have hl:h.length=f.length:=(by have:=G.length_eq;simpa using this);refine qrx b2 oJ fun l2 w3 b3 p3 s3 f3=>?_;have J:=C.size;exact V u B l2 w3 b3 (p3.trans G) s3 ((C.trans f2).j8 f3 fun b E=>.inr (zL J (I b E))) fun b E=>zL J (I b E)
section
variable {w:World} {X:List Nat} {pb:Nat} {db:Option Addr} {F:List Nat} {M:dY}
def qv9{K:Sl->WP}(h:eG w X pb db F M)(E:M.J8.length<=100000)(G:∀s B l w',lc w' s l B->l.Perm (M.J8.map (·.1))->l.Pairwise (·<=·)->Fr [] w w'->(∀b∈B,w.heap.size<=b)->K s w'): cW 149 [dF pb] dh w K:=by obtain⟨fb,defb,mb,sl,sn,J,F2,I,rfl,u⟩:=h;refine qi3<|fv ?_;simp only[Addr.q9];refine iA u.cell (some mb) (sO u.Q8) ?_;have C:I.length<=100000:=(by rw[u.J8] at E;simpa using E);refine qrn u.map (oP C) fun s B l w' b p o f n=>G s B l w' b ?_ o f n;rw[u.J8];simpa[Function.comp_def] using p
end
end
section
open Go Go.Pt List
open Go.IntKind (wrap)
variable {D:dI} {F F1 FD S X:List Nat} {K:Int->WP} {M:dY} {Q2 Q5 Q9 body l l' numbers y4:List Int} {Q3:Bool} {a r:dI×Int} {db x y:Option Addr} {dbk k mb pb:Nat} {f:dI->dI×Int} {j9 next s:nC} {m:Option Nat} {n x6:Int} {offs:Array (Nat×Nat)} {parts:List (Nat×Value)} {sl sn:Sl} {w w1:World} {wk:List Value}
def sL{A X Y Z:List Value}(h:X.length=Y.length):dR (A++X++Z).toArray A.length Y=(A++Y++Z).toArray:=by apply Array.ext';rw[pN _ _ _ (by rw[size_toArray];simp only[zF];omega)];exact E6 A X Y Z h
def rD{cells:Array Value}{i o s:Nat}{v:Value}{u:List (Nat×Value)}(h:offs[i]?=some (o,s))(C:v.cells.size=s)(G:o+s<=cells.size): Instr.fill (offs[·]?) cells ((i,v)::u)=Instr.fill (offs[·]?) (dR cells o v.cells.toList) u:=by have E:=DB o v.cells cells;simp only[Instr.fill,h];rw[if_neg (by simp[C];omega),E]
def BO{P:Program}{t:TypeId}{z:Value}{cs:Array Value}(u:(P.info? t).bind (·.zero)=some z)(C:P.underlying t=some (.struct (fieldsOf P t)))(h:∀w,((fieldsOf P t).mapM fun f=>do pure (f.offset,<- sizeOf f.type):Sem (Array (Nat×Nat))).run P w=.ok offs w)(E:Instr.fill (offs[·]?) z.cells parts=some cs)(w:World):(Instr.build t parts.toArray).run P w=.ok (.agg cs) w:=by simp only[Instr.build,Sem.run_bind,uG u,Result.andThen_ok,run_underlying C,h,E,Sem.run_pure]
abbrev GN:TypeId:=189
def gV (x y:Option Addr) (m:Option Nat) (Q2:List Int):List Value:=[.pointer x,.pointer y,.map m]++Q2.map (Value.int .u32)
def ww(h:Q2.length=24):(gV x y m Q2).length=27:=by simp[gV,h]
def qBd:(prog.info? GN).bind (·.zero)=some (.agg (gV none none none (zs 24)).toArray):=by kernel_rfl
def qu9(h:Q2.length=24)(w:World): (Instr.build GN #[(0,.pointer x),(1,.pointer y),(2,.map m),(3,.agg (Q2.map (Value.int .u32)).toArray)]).run prog w=.ok (.agg (gV x y m Q2).toArray) w:=by refine BO (parts:=[(0,.pointer x),(1,.pointer y),(2,.map m),(3,.agg (Q2.map (Value.int .u32)).toArray)]) (offs:=#[(0,1),(1,1),(2,1),(3,24)]) qBd oK (fun w=>oK) ?_ w;have u:(Value.agg (Q2.map (Value.int .u32)).toArray).cells.size=24:=(by show (Q2.map (Value.int .u32)).toArray.size=24;simp[h]);rw[rD (o:=0) (s:=1) rfl rfl (zO rfl),rD (o:=1) (s:=1) rfl rfl (zO rfl),rD (o:=2) (s:=1) rfl rfl (zO rfl),rD (o:=3) (s:=24) rfl u (zO rfl)];show some _=_;congr 1;exact sL (A:=[.pointer x,.pointer y,.map m]) (X:=(zs 24).map (Value.int .u32)) (Z:=[]) (Y:=Q2.map (Value.int .u32)) (by simp[h,oZ]) |>.trans (by rw[xH];rfl)
def fh (db:Option Addr) (j9:nC) (sl sn:Sl) (x6:Int) (Q3:Bool) (wk:List Value):Array Value:=
 ((Value.pointer db::eT j9.1 j9.2)++([sl.v,sn.v,.i x6,.bool Q3]:List Value)++wk).toArray
def Ev{fb defb:Nat}: fh db j9 sl sn x6 Q3 (gV (pW fb) (pW defb) (some mb) Q2)=fL db j9 sl sn x6 Q3 fb defb mb Q2:=by simp[fh,fL,mN,gV]
section
variable {db:Option Addr} {j9:nC} {sl sn:Sl} {x6:Int} {Q3:Bool} {wk:List Value}
def ug(h:j9.2.length=27):(fh db j9 sl sn x6 Q3 wk).size=33+wk.length:=by rw[fh,size_toArray,zF,zF,se h];rfl
def vr(u:j9.2.length=27)(j:Nat)(h:j<4):(fh db j9 sl sn x6 Q3 wk)[29+j]?=([sl.v,sn.v,.i x6,.bool Q3]:List Value)[j]?:=by rw[fh,List.getElem?_toArray,zV,yY (by rw[se u];omega),se u,vD,yZ (by exact h)]
def qBa:(fh db j9 sl sn x6 Q3 wk)[0]?=some (.pointer db):=rfl
def Cq(C:j9.2.length=27)(n:Nat)(h:n<27):(fh db j9 sl sn x6 Q3 wk)[n+2]?=some (.u (j9.2.getD n 0)):=by
 rw[fh,List.getElem?_toArray,zV,yZ (by rw[se C];omega),List.getElem?_cons_succ]
 have:=AC (q:=j9.1) (t:=j9.2) n oJ
 rw[List.getElem?_toArray] at this;exact this
def DH(h:j9.2.length=27):((fh db j9 sl sn x6 Q3 wk).toList.drop 5).take 24=(j9.2.drop 3).map (Value.int .u32):=by have u:((j9.2.drop 3).map (Value.int .u32)).length=24:=(by rw[zK,yC,h]);have e:(fh db j9 sl sn x6 Q3 wk).toList.drop 5=(j9.2.drop 3).map (Value.int .u32)++([sl.v,sn.v,.i x6,.bool Q3]++wk):=(by show List.drop 3 ((j9.2.map (Value.int .u32))++[_,_,_,_]++wk)=_;rw[zV,drop_append_of_le_length (by rw[zK,h];decide),xQ]);rw[e,take_append_of_le_length (Nat.le_of_eq u.symm),zS (Nat.le_of_eq u)]
def qyM(C:j9.2.length=27){u:Int}:dR (fh db j9 sl sn x6 Q3 wk) 31 [.i u]=fh db j9 sl sn u Q3 wk:=by
 have h:((Value.pointer db::eT j9.1 j9.2)++([sl.v,sn.v]:List Value)).length=31:=by rw[zF,se C];rfl
 have:=sL (A:=(Value.pointer db::eT j9.1 j9.2)++([sl.v,sn.v]:List Value)) (X:=[.i x6]) (Y:=[.i u]) (Z:=.bool Q3::wk) rfl
 rw[h] at this;simpa[fh] using this
def qyN(C:j9.2.length=27){u:List Value}(E:wk.length=u.length):dR (fh db j9 sl sn x6 Q3 wk) 33 u=fh db j9 sl sn x6 Q3 u:=by
 have h:((Value.pointer db::eT j9.1 j9.2)++([sl.v,sn.v,.i x6,.bool Q3]:List Value)).length=33:=by rw[zF,se C];rfl
 have:=sL (A:=(Value.pointer db::eT j9.1 j9.2)++([sl.v,sn.v,.i x6,.bool Q3]:List Value)) (X:=wk) (Y:=u) (Z:=[]) E
 rw[h,xH,xH] at this;exact this
end
def gz (l:List Int):List Int:=l.foldl (fun a n=>ins n a) []
def qub(n:Int):∀l:List Int,(ins n l).length<=l.length+1
 | []=>by simp[ins]
 | a::l=>by
  have:=qub n l
  simp only[ins];split;simp;split;simp;simp only[yI];omega
def qtp{i:Nat}(h:i<l.length):gz (l.take (i+1))=ins l[i] (gz (l.take i)):=by rw[gz,yG h,foldl_append];rfl
def qnY(l:List Int):(gz l).length<=l.length:=by
 unfold gz;have:∀(l a:List Int),(l.foldl (fun a n=>ins n a) a).length<=a.length+l.length:=by
  intro l;induction l with
  | nil=>intro a;simp
  | cons x l ih=>
   intro a;have h:=ih (ins x a);have u:=qub x a;rw[foldl_cons,yI];omega
 simpa using this l []
def qo0(l:List Int):∀a:List Int,a.Pairwise (· < ·)->(l.foldl (fun a n=>ins n a) a).Pairwise (· < ·):=by
 induction l with
 | nil=>intro a h;exact h
 | cons x l ih=>intro a h;exact ih _ (Ax h)
def qrX(l:List Int):∀a:List Int,(a++l).Nodup->(l.foldl (fun a n=>ins n a) a).Perm (a++l):=by
 induction l with
 | nil=>intro a h;rw[xH];exact .refl _
 | cons x l ih=>
  intro a h;have C:x∉a:=fun E=>by rw[yM] at h;exact h.2.2 x E x oL rfl
  have G:=ze C;have u:(ins x a++l).Perm (a++x::l):=(G.append_right l).trans (perm_middle.symm);exact (ih (ins x a) (u.nodup_iff.2 h)).trans u
def A6(l:List Int):(gz l).Pairwise (· < ·):=qo0 l [] .nil
def G4(h:l.Nodup):(gz l).Perm l:=by
 have:=qrX l [] (oP h)
 simpa[gz] using this
def qy9(h:l.Pairwise (· < ·)):l.Pairwise (·<=·):=h.imp Int.le_of_lt
def vX(h:l.Pairwise (· < ·)):l.Nodup:=h.imp (fun h=>Int.ne_of_lt h)
def E9(h:l'.Perm l)(u:l'.Pairwise (·<=·))(C:l.Nodup):l'=gz l:=
 EW (h.trans (G4 C).symm) u (qy9 (A6 l))
def qp6(h:l.Pairwise (· < ·)):gz l=l:=(E9 (.refl _) (qy9 h) (vX h)).symm
def zd{x y:Int}:∀ {l:List Int},y∈ins x l↔y=x\/y∈l
 | []=>by simp[ins]
 | a::l=>by
  have:=zd (x:=x) (y:=y) (l:=l)
  simp only[ins];split;simp;split;rename_i h;subst h;simp;simp only[zG,this];constructor;rintro (h|h|h);exact .inr (.inl h);exact .inl h;exact .inr (.inr h);rintro (h|h|h);exact .inr (.inl h);exact .inl h;exact .inr (.inr h)
def wo{y:Int}:y∈gz l↔y∈l:=by
 have:∀(l a:List Int),y∈l.foldl (fun a n=>ins n a) a↔y∈a\/y∈l:=by
  intro l;induction l with
  | nil=>intro a;simp
  | cons x l ih=>
   intro a;rw[foldl_cons,ih,zd,zG];constructor;rintro ((h|h)|h);exact .inr (.inl h);exact .inl h;exact .inr (.inr h);rintro (h|h|h);exact .inl (.inr h);exact .inl (.inl h);exact .inr h
 rw[gz,this];simp
def andThen (r:dI×Int) (f:dI->dI×Int):dI×Int:=if r.2=0 then f r.1 else r
def fy:List (Int×List Int)->dI->dI×Int
 | [],D=>(D,0)
 | x::r,D=>andThen (eu D x.1 x.2) (fy r)
def fj (D:dI) (numbers y4:List Int):dI×Int:=
 if (gj numbers y4).2≠0 then (D,(gj numbers y4).2)
 else andThen (fy ((y4.zip (gj numbers y4).1).map fun x=>(x.1,eE x.1 2 x.2)) D) fU
def gB (s:nC):Int×List Int:=(Int.tmod s.1 2,eE (wrap .u32 (Int.tmod s.1 2)) 1 (gq s.1 s.2))
def jy (D:dI) (s:nC):dI×Int:=andThen (eu D (gB s).1 (gB s).2) fU
def fu (n:Nat):List Int:=(List.range (n-2)).map fun (i:Nat)=>(i:Int)+2
def kB (n:Nat):nC:=(1,[wrap .u32 n,2,wrap .u32 ((fu n).length-eI (fu n).length:Int)]++zs 24)
def ls (D:dI):dI×Int:=
 andThen (eu D 0 (zs 512)) fun D=>andThen (eu D 1 (zs 512)) fun D=>andThen (fU D) fun D=>
 andThen (fj D ((fu D.Q6.length).drop (eI (fu D.Q6.length).length)) ((fu D.Q6.length).take (eI (fu D.Q6.length).length))) fun D=>jy D (kB D.Q6.length)
def lV (D:dI) (u:Int):Nat->Int->List Int->List Int->Option (List Int×List Int)
 | 0,_,_,_=>none
 | f+1,a,h,Q9=>
  if a=0 then some (h,Q9) else
  if a<2\/a>=u\/a∈h then none else
  if (eB D a).2≠0 then none else
  if (eU a (eB D a).1).2.2≠0\/(eU a (eB D a).1).1≠2 then none else
  if (hU (eU a (eB D a).1).2.1).2.2≠0 then none else
  lV D u f (hU (eU a (eB D a).1).2.1).1 (h++[a]) (Q9++(hU (eU a (eB D a).1).2.1).2.1)
def ky (h:Int) (Q5:List Int):Int->List Int->Bool
 | _,[]=>true
 | u,n::r=>!(decide (n<=u)||decide (n>=h)||decide (n∈Q5))&&ky h Q5 n r
def nX (D:dI) (s:nC):Option (List Int×List Int):=
 match lV D (s.2.getD 0 0) ((s.2.getD 0 0).toNat+1) (s.2.getD 1 0) [] [] with
 | none=>none
 | some x=>if ky (s.2.getD 0 0) x.1 0 x.2=true/\(x.2.length:Int)=s.2.getD 2 0 then some x else none
def ie (j9:nC) (Q5 Q9:List Int) (x6:Int) (Q3:Bool) (h:List Int):dY:=⟨j9,Q5,Q9,x6,Q3,h,[],[],j9.2.drop 3⟩
def mC (D:dI):Option dY×Int:=
 if (eB D 0).2≠0 then (none,(eB D 0).2) else
 if (eB D 1).2≠0 then (none,(eB D 1).2) else
 if (gP (eB D 0).1 (eB D 1).1).2≠0 then (none,(gP (eB D 0).1 (eB D 1).1).2) else
 if (gP (eB D 0).1 (eB D 1).1).1.2.getD 0 0≠D.Q6.length then (none,2) else
 match nX D (gP (eB D 0).1 (eB D 1).1).1 with
 | none=>(none,2)
 | some x=>(some (ie (gP (eB D 0).1 (eB D 1).1).1 x.1 x.2 1 false x.2),0)
def js (M:dY):Option (List Int×List Int):=
 if eI (M.Q1.length+(M.J7++M.Q5).length)>M.Q1.length then none
 else some (M.Q1.take (eI (M.Q1.length+(M.J7++M.Q5).length)),gz ((M.J7++M.Q5)++M.Q1.drop (eI (M.Q1.length+(M.J7++M.Q5).length))))
def jR (J8:List (Int×Int×List Int)) (n:Int):Int×List Int:=match look n J8 with|some q=>q.2|none=>(0,[])
def kK (J8:List (Int×Int×List Int)):List (Int×List Int):=(gz (J8.map (·.1))).map fun n=>(n,eE n (jR J8 n).1 (jR J8 n).2)
def gD (D:dI) (J8:List (Int×Int×List Int)) (y4 Q9:List Int) (next:nC):dI×Int:=
 andThen (fy (kK J8) D) fun D=>andThen (fj D Q9 y4) fun D=>jy D next
def fM (M:dY) (y4 Q9:List Int):nC:=(wrap .u64 (M.j9.1+1),[M.j9.2.getD 0 0,y4.headD 0,wrap .u32 Q9.length]++M.Q2)
def tO:dY:=ie gx [] [] 1 true []
def gA (D:dI) (M:dY):(dI×dY)×Int:=
 if M.Q3 then ((D,M),7) else
 if M.J8=[]/\M.J7=[]/\M.Q2=M.j9.2.drop 3 then ((D,M),0) else
 match js M with
 | none=>((D,M),6)
 | some x=>
  if (gD D M.J8 x.1 x.2 (fM M x.1 x.2)).2≠0 then (((gD D M.J8 x.1 x.2 (fM M x.1 x.2)).1,tO),(gD D M.J8 x.1 x.2 (fM M x.1 x.2)).2)
  else (((gD D M.J8 x.1 x.2 (fM M x.1 x.2)).1,ie (fM M x.1 x.2) x.1 x.2 (M.x6+1) false x.2),0)
def nj (pb:Nat) (x y:Option Addr) (mb:Nat) (vs:List Value) (K:Unit->WP) (w:World):Prop:=
 eW [gN.kF] (fun (w':Go.World)=>(Instr.build GN (#[(0,Value.pointer x),(1,Value.pointer y),(2,Value.map (some mb)),(3,Value.agg (List.toArray vs))])).run prog w') w<|
 fun (u:List Value)=>
 nn (pW pb)<|
 fun (E:Addr)=>
 gF (List.length u=27)<|
 st ({ block:=E.block,off:=E.off+33 }) u w<|
 fun (G:World)=>
 nn (pW pb)<|
 fun (I:Addr)=>
 ld Cell.slice ({ block:=I.block,off:=I.off+30 }) G<|
 fun (J:Sl)=>
 loop (Int) (fun (U:Int->WP) (C:Int) (h:World)=>
  cond (decide (C<(↑J.len:Int)))
   (idx J C 1<|
   fun (V:Addr)=>
   ld (Cell.int IntKind.u32) V h<|
   fun (aa:Int)=>
   nn (pW pb)<|
   fun (R:Addr)=>
   ld Cell.ptr ({ block:=R.block,off:=R.off+33 }) h<|
   fun (ab:Option Addr)=>
   cW 152 ([Value.pointer ab,Value.int IntKind.u32 aa]) ([gN.one Cell.bool]) h<|
   fun (ad:Bool) (ac:World)=>
   U (wrap IntKind.i64 (C+1)) ac)
   (K () h)) 0 G
def qu4{w3:World}{fb defb:Nat}{F2:List Nat}{K:Unit->WP}(hs:j9.2.length=27)(hw:wk.length=27)(hX:∀b∈X,b<w.heap.size/\b≠pb)(I:Rd (X++[pb]) w sl Q5)(E:Rd (X++[pb]) w sn Q9)(hn:Q9.length<=100000)(ho:dQ [pb] w w3 [(pb,.cells (fh db j9 sl sn x6 Q3 wk) rB (0,0))])(h1:gJ w3 fb F1 [])(h2:gJ w3 defb F2 [])(h3:i4 jh w3 mb [])(n1:∀b∈F1,w.heap.size<=b)(n2:∀b∈F2,w.heap.size<=b)(n3:w.heap.size<=mb)(aD:pb<w.heap.size)(af:mb∉F1)(ag:mb∉F2)(ah:∀b∈F1,b∉F2)(hk:∀F' w',eG w' X pb db F' (ie j9 Q5 Q9 x6 Q3 (gz Q9))->Fr [pb] w w'->(∀b∈F',b=pb\/w.heap.size<=b)->K () w'): nj pb (pW fb) (pW defb) mb ((j9.2.drop 3).map (Value.int .u32)) K w3:=by
 have C:(j9.2.drop 3).length=24:=(by rw[yC,hs]);unfold nj;refine qm (ts:=[gN.kF]) (gV (pW fb) (pW defb) (some mb) (j9.2.drop 3)) (qu9 C w3)<|fv<|mP (ww C) ?_;have ab:(gV (pW fb) (pW defb) (some mb) (j9.2.drop 3)).all Value.oneCell'=true:=by rw[all_eq_true];intro v hv;simp only[gV,zD,zG,mem_map,xX,or_false] at hv;rcases hv with (rfl|rfl|rfl)|⟨x,_,rfl⟩<;>rfl
 refine oG ho 0 rfl (fL db j9 sl sn x6 Q3 fb defb mb (j9.2.drop 3)) (by rw[<- Ev];exact qyN hs (by rw[hw,ww C])) ab (by rw[ug hs,ww C,hw];exact zO rfl) fun w4 J f4=>?_;have U:∀b∈F1,b≠pb:=fun b u e=>by have:=n1 b u;omega
 have V:∀b∈F2,b≠pb:=fun b u e=>by have:=n2 b u;omega
 have hS:∀b∈pb::mb::(F1++F2),b∈[pb]\/w.heap.size<=b:=fun b u=>by simp only[zG,zD] at u;rcases u with rfl|rfl|u|u;exact .inl oL;exact .inr n3;exact .inr (n1 b u);exact .inr (n2 b u)
 have hx:nE w4 X pb db (ie j9 Q5 Q9 x6 Q3 []) fb defb mb sl sn F1 F2 []:={
  cell:=J.at (i:=0) rfl
  Q1:=h1.q8 f4 fun b u=>by simpa using U b u
  J7:=h2.q8 f4 fun b u=>by simpa using V b u
  map:=h3.q8 f4 oO
  J8:=rfl
  rows:=by have hf:Fr (X++[pb]) w w4:=J.fr.mono fun b u _=>zI _ u;exact⟨I.q8 hf (Ad hS),E.q8 hf (Ad hS),fun e he=>by cases he⟩
  og:=fun b u=>yD (hX b u).1 J.fr.size
  mo:=FY (fun b u=>(hX b u).1) (fun b u=>by simpa using (hX b u).2) hS
  sep:=⟨oJ,fun b u=>⟨U b u,fun e=>af (e▸u),ah b u⟩,fun b u=>⟨V b u,fun e=>ag (e▸u)⟩⟩
  Q8:=hs
  x7:=C }
 refine fv (iA hx.cell sn (qyH hs) ?_);have aG:=E.1;refine iU (fun x w'=>∃(i:Nat) (R:List Nat),x=i/\i<=Q9.length/\nE w' X pb db (ie j9 Q5 Q9 x6 Q3 (gz (Q9.take i))) fb defb mb sl sn R F2 []/\Fr [pb] w w'/\∀b∈R,w.heap.size<=b) (fun x _=>((Q9.length:Int)-x).toNat)
  ⟨0,F1,rfl,oJ,hx,J.fr,n1⟩ ?_
 rintro x w5 ⟨i,R,rfl,hi,G,f5,n5⟩ Z hZ;apply cD<;>intro hc;have ac:i<Q9.length:=oJ;refine Rd.at G.rows.Q9 i rfl (zA ac)<|fv (iA G.cell (pW fb) (yw hs) ?_);have an:=qnY (Q9.take i);rw[yL] at an;refine EP G.Q1 (by show (gz (Q9.take i)).length<=_;omega) fun ad w6 ao f6 n6=>?_;have ap:=G.pU f6 ao n6;rw[gg _ oJ];refine hZ _ _ ⟨i+1,ad,oL,oJ,?_,f5.j8 f6 (fun b u=>.inr (n5 b u)),fun b u=>?_⟩ oJ;rw[qtp ac];exact ap;rcases n6 b u with h|h;exact n5 b h;exact zL f5.size h;have:i=Q9.length:=oJ;subst this;rw[xZ] at G;refine hk _ w5 ⟨fb,defb,mb,sl,sn,R,F2,[],rfl,G⟩ f5 fun b u=>?_;simp only[zG,zD] at u;rcases u with rfl|rfl|u|u;exact .inl rfl;exact .inr n3;exact .inr (n5 b u);exact .inr (n2 b u)
def Gb{K:Unit->WP}(hc:w.heap[pb]?=some (.cells (fh db j9 sl sn x6 Q3 wk) rB (0,0)))(hs:j9.2.length=27)(hw:wk.length=27)(ht:0<=x6/\x6<=1000000000)(hX:∀b∈X,b<w.heap.size/\b≠pb)(hlists:Rd (X++[pb]) w sl Q5)(hnamed:Rd (X++[pb]) w sn Q9)(hn:Q9.length<=100000)(hk:∀F' w',eG w' X pb db F' (ie j9 Q5 Q9 (x6+1) Q3 (gz Q9))->Fr [pb] w w'->(∀b∈F',b=pb\/w.heap.size<=b)->K () w'): cW 115 [dF pb] [] w K:=by
 have hpb:=eZ hc;have ho:dQ [pb] w w [(pb,.cells (fh db j9 sl sn x6 Q3 wk) rB (0,0))]:=⟨by simpa using hc,oL,.refl _ _,oL⟩;refine qi4 (p:=pW pb)<|fv (oA (c:=.i) ho 0 rfl x6 (vr hs 2 oM) ?_);rw[gg _ oJ];refine fv (oG ho 0 rfl (fh db j9 sl sn (x6+1) Q3 wk) (qyM hs) rfl (by rw[ug hs,hw];exact zO rfl) fun w1 ho f1=>?_);have hrl:((j9.2.drop 3).map (Value.int .u32)).length=24:=(by rw[zK,yC,hs]);have hcA:∀ {w':World},w'.heap[pb]?=some (.cells (fh db j9 sl sn (x6+1) Q3 wk) rB (0,0))->jd w' (dg pb 5) 0 ((j9.2.drop 3).map (Value.int .u32)):=fun h=>vH h _ 5 0 (by rw[hrl];exact DH hs);have tail:=fun {w3:World} {fb defb mb:Nat} {F1 F2:List Nat}=>qu4 (w:=w) (w3:=w3) (X:=X) (pb:=pb) (fb:=fb) (defb:=defb) (mb:=mb) (F1:=F1) (F2:=F2) hs hw hX hlists hnamed hn (K:=K) (x6:=x6+1) (Q3:=Q3) (wk:=wk) (db:=db);have hs1:=f1.size;have ho':=ho.drew;generalize w1.drew=wd at ho';have hld:∀ {K':List Value->Prop},K' ((j9.2.drop 3).map (Value.int .u32))->ij 24 (dg pb 5) wd K':=fun k=>nJ (ho'.at (i:=0) rfl) _ hrl (DH hs) k;have hsd:w.heap.size<=wd.heap.size:=ho'.fr.size;have fin:∀ {w3:World} {fb defb mb:Nat} {F1 F2:List Nat},Fr [] wd w3->gJ w3 fb F1 []->gJ w3 defb F2 []->i4 jh w3 mb []->(∀b∈F1,wd.heap.size<=b)->(∀b∈F2,wd.heap.size<=b)->wd.heap.size<=mb->mb∉F1->mb∉F2->(∀b∈F1,b∉F2)->
   nj pb (pW fb) (pW defb) mb ((j9.2.drop 3).map (Value.int .u32)) K w3:=fun f p1 p2 p3 n1 n2 n3 s1 s2 s3=>
  tail (ho'.q7 f) p1 p2 p3 (fun b hb=>zL hsd (n1 b hb)) (fun b hb=>zL hsd (n2 b hb)) (zL hsd n3) hpb s1 s2 s3 hk
 refine⟨?_,?_,?_⟩;refine fv ?_;simp only[Addr.q9];refine hld<|ye fun fb F1 w2 p1 f2 n1=>ig (hcA ((ho'.q7 f2).at (i:=0) rfl))<|ye fun defb F2 w3 p2 f3 n2=>ig (hcA ((ho'.q7 (f2.trans f3)).at (i:=0) rfl))<|oB (ho'.q7 (f2.trans f3)) fun mb w4 e4 f4 ho4=>ig (hcA (ho4.at (i:=1) rfl))<|fin ((f2.trans f3).trans f4) (p1.q8 (f3.trans f4) oL) (p2.q8 f4 oL) (.empty (ho4.at (i:=0) rfl)) n1 (fun b hb=>zL f2.size (n2 b hb)) (by rw[e4];exact (f2.trans f3).size) (fun hm=>?_) (fun hm=>?_) (fun b hb hb2=>?_)
 have:=(p1.q8 f3 oL).lt mb hm;omega
 have:=p2.lt mb hm;omega
 have:=p1.lt b hb;have:=n2 b hb2;omega
 refine fv ?_;simp only[Addr.q9];refine hld<|ye fun fb F1 w2 p1 f2 n1=>ig (hcA ((ho'.q7 f2).at (i:=0) rfl))<|oB (ho'.q7 f2) fun mb w3 e3 f3 ho3=>ig (hcA (ho3.at (i:=1) rfl))<|ye fun defb F2 w4 p2 f4 n2=>?_;have ho4:=ho3.q7 f4;refine ig (hcA (ho4.at (i:=1) rfl)) ?_;have hmb:=eZ (ho3.at (i:=0) rfl);refine fin ((f2.trans f3).trans f4) (p1.q8 (f3.trans f4) oL) p2 (.empty (ho4.at (i:=0) rfl)) n1 (fun b hb=>zL (f2.trans f3).size (n2 b hb)) (by rw[e3];exact f2.size) (fun hm=>?_) (fun hm=>?_) (fun b hb hb2=>?_)
 have:=p1.lt mb hm;omega
 have:=n2 mb hm;omega
 have:=(p1.q8 f3 oL).lt b hb;have:=n2 b hb2;omega
 refine fv ?_;simp only[Addr.q9];refine hld<|oB ho' fun mb w2 e2 f2 ho2=>ig (hcA (ho2.at (i:=1) rfl)) ?_;have hmb:=eZ (ho2.at (i:=0) rfl);refine ye fun fb F1 w3 p1 f3 n1=>?_;have ho3:=ho2.q7 f3;refine ig (hcA (ho3.at (i:=1) rfl))<|ye fun defb F2 w4 p2 f4 n2=>?_;have ho4:=ho3.q7 f4;refine ig (hcA (ho4.at (i:=1) rfl))<|fin ((f2.trans f3).trans f4) (p1.q8 f4 oL) p2 (.empty (ho4.at (i:=0) rfl)) (fun b hb=>zL f2.size (n1 b hb)) (fun b hb=>zL (f2.trans f3).size (n2 b hb)) (by rw[e2];exact zM _) (fun hm=>?_) (fun hm=>?_) (fun b hb hb2=>?_)
 have:=n1 mb hm;omega
 have:=n2 mb hm;have:=f3.size;omega
 have:=p1.lt b hb;have:=n2 b hb2;omega
def view (D:dI) (n:Int):List Int:=match iD n D.Q7 with|some b=>b.1|none=>(D.Q6.getD n.toNat .zero).1
def dI.size (D:dI):Int:=D.Q6.length
def CC(h:D.down=false)(u:0<=n/\n<D.size):eB D n=(view D n,0):=by have C:n<(D.Q6.length:Int):=u.2;rw[eB,if_neg (by rw[h];decide),iN,view];cases iD n D.Q7<;>rfl
def Gn(n:Int):∀(l:List (Int×lM)) (x:Int×lM),iD n (l++[x])=if x.1=n then some x.2 else iD n l
 | [],x=>rfl
 | y::l,x=>by simp only[xJ,iD];rw[Gn n l x];by_cases h:x.1=n;simp[h];simp[h]
def DM(n:Nat):∀(l:List (Int×lM)) (s:List lM),(∀x∈l,0<=x.1/\x.1<s.length)->(l.foldl fX s).getD n .zero=match iD n l with|some b=>b|none=>s.getD n .zero
 | [],s,_=>rfl
 | x::l,s,h=>by
  have C:=h x oL;rw[foldl_cons,DM n l (fX s x) (fun y u=>by rw[fX,xG];exact h y (zN _ u)),iD];cases iD (n:Int) l with
  | some b=>rfl
  | none=>
   dsimp only;by_cases he:x.1=n;rw[if_pos he,fX,yR];have:x.1.toNat=n:=oJ;rw[this,List.getElem?_set_self oJ];rfl;rw[if_neg he,fX,yR,List.getElem?_set_ne oJ,yR]
structure eN (D:dI):Prop where
 down:D.down=false
 y5:D.y5=-1
 at_:∀ x∈D.Q7,0<=x.1/\x.1<D.Q6.length
def eN.act(h:eN D):gS D=(D,false):=by rw[gS,if_neg (by rw[h.y5];decide),if_neg (by rw[h.y5];decide)]
def eN.write(h:eN D)(E:0<=n/\n<D.size)(C:l.length=512): ∃D',eu D n l=(D',0)/\eN D'/\D'.size=D.size/\∀m,view D' m=if m=n then l else view D m:=by have I:n<(D.Q6.length:Int):=E.2;have G:eN (lz D n ⟨l,C⟩):=⟨h.down,h.y5,fun x u=>by rcases zD.1 u with u|u;exact h.at_ x u;simp at u;subst u;exact⟨E.1,I⟩⟩;refine⟨lz D n ⟨l,C⟩,?_,G,rfl,fun m=>?_⟩;rw[eu,if_neg (by rw[h.down];decide),iN,dif_pos C,G.act];rfl;rw[view,lz];dsimp only;rw[Gn];by_cases hm:m=n;rw[if_pos hm,if_pos hm.symm];rw[if_neg hm,if_neg (fun e=>hm e.symm),view]
def eN.sync(h:eN D):∃D',fU D=(D',0)/\eN D'/\D'.size=D.size/\D'.Q7=[]/\∀m,0<=m->view D' m=view D m:=by refine⟨{ D with Q6:=D.Q7.foldl fX D.Q6,Q7:=[] },?_,⟨h.down,h.y5,fun x u=>by cases u⟩,?_,rfl,fun m C=>?_⟩;rw[fU,if_neg (by rw[h.down];decide),h.act];rfl;show ((D.Q7.foldl fX D.Q6).length:Int)=_;rw[BE];rfl;obtain⟨k,rfl⟩:∃k:Nat,m=k:=⟨m.toNat,oJ⟩;show ((D.Q7.foldl fX D.Q6).getD (k:Int).toNat .zero).1=_;rw[zJ,DM k _ _ h.at_,view,zJ];cases iD (k:Int) D.Q7<;>rfl
def eN.writes:∀ {l:List (Int×List Int)} {D:dI},eN D->(∀x∈l,(0<=x.1/\x.1<D.size)/\x.2.length=512)->(l.map (·.1)).Nodup-> ∃D',fy l D=(D',0)/\eN D'/\D'.size=D.size/\(∀x∈l,view D' x.1=x.2)/\∀m,m∉l.map (·.1)->view D' m=view D m
 | [],D,h,_,_=>⟨D,rfl,h,rfl,(fun x u=>by cases u),fun m _=>rfl⟩
 | y::l,D,h,I,C=>by obtain⟨U,E⟩:=I y oL;obtain⟨D1,e1,V,J,R⟩:=h.write U E;rw[xO,nodup_cons] at C;obtain⟨D2,e2,q2,s2,v2,u2⟩:=eN.writes (l:=l) V (fun x u=>by rw[J];exact I x (zN _ u)) C.2;refine⟨D2,?_,q2,s2.trans J,fun x u=>?_,fun m G=>?_⟩;rw[fy,e1];exact e2;rcases zG.1 u with rfl|u;rw[u2 _ C.1,R,if_pos rfl];exact v2 x u;rw[xO,zG,not_or] at G;rw[u2 m G.2,R,if_neg G.1]
def chunk (numbers:List Int) (i:Nat):List Int:=(numbers.drop (123*i)).take 123
def oY (D:dI) (numbers y4:List Int):Prop:=∀(i:Nat) p,y4[i]?=some p->view D p=eE p 2 (iI (y4.getD (i+1) 0) (chunk numbers i))
def Ga(numbers y4:List Int)(k i:Nat):(gl numbers y4 k)[i]?=if i<k then some (iI (y4.getD (i+1) 0) (chunk numbers i)) else none:=by rw[gl,zQ];by_cases h:i<k;rw[if_pos h,List.getElem?_range h];rfl;rw[if_neg h,yS (oP h)];rfl
def DK(numbers y4:List Int)(k:Nat):(gl numbers y4 k).length=k:=by simp[gl]
def FH(numbers:List Int)(i:Nat):(chunk numbers i).length<=123:=by rw[chunk,yL];omega
structure lu (n:Int) (numbers y4:List Int):Prop where
 cU:numbers.Pairwise (· < ·)
 m8:∀ x∈numbers,2<=x/\x<n
 re:∀ x∈y4,2<=x/\x<n
 nodup:y4.Nodup
 J3:∀ x∈y4,x∉numbers
 room:numbers.length<=123*y4.length
def FU:∀(l:List Int) (a:Int),iB a l=true↔(∀x∈l,a<x)/\l.Pairwise (· < ·)
 | [],a=>by simp[iB]
 | x::l,a=>by rw[iB,yB,yN,FU l x,yJ];constructor;rintro⟨h,u,C⟩;refine⟨fun y E=>?_,u,C⟩;rcases zG.1 E with rfl|E;exact h;exact Int.lt_trans h (u y E);rintro⟨h,u,C⟩;exact⟨h x oL,u,C⟩
def lu.y7(h:lu n numbers y4):gj numbers y4=(gl numbers y4 y4.length,0):=by
 have u:iB 1 numbers=true:=(FU _ _).2 ⟨fun x C=>by have:=h.m8 x C;omega,h.cU⟩;rw[gj,if_neg (by rw[u];have:=h.room;simp;omega),if_neg];rintro⟨p,E,G⟩
 have:=h.re p E
 omega
def qmh{α β:Type}{x:α×β}:∀ {l:List α} {r:List β},x∈l.zip r->∃i:Nat,l[i]?=some x.1/\r[i]?=some x.2
 | [],_,h=>by simp at h
 | _::_,[],h=>by simp at h
 | a::l,b::r,h=>by rw[zip_cons_cons,zG] at h;rcases h with rfl|h;exact⟨0,rfl,rfl⟩;obtain⟨i,u,C⟩:=qmh h;exact⟨i+1,by simpa using u,by simpa using C⟩
def GU{α β:Type}:∀ {l:List α} {r:List β},l.length=r.length->(l.zip r).map (·.1)=l
 | [],[],_=>rfl
 | a::l,b::r,h=>by rw[zip_cons_cons,xO,GU (oP h)]
def eN.spread(h:eN D)(G:lu D.size numbers y4): ∃D',fj D numbers y4=(D',0)/\eN D'/\D'.size=D.size/\D'.Q7=[]/\oY D' numbers y4/\∀m,0<=m->m∉y4->view D' m=view D m:=by
 have R:((y4.zip (gl numbers y4 y4.length)).map fun x=>(x.1,eE x.1 2 x.2)).map (·.1)=y4:=(by rw[map_map];exact GU (by rw[DK]));obtain⟨D1,e1,q1,s1,v1,U⟩:=h.writes (l:=(y4.zip (gl numbers y4 y4.length)).map fun x=>(x.1,eE x.1 2 x.2)) (fun x hx=>by
  obtain⟨y,hy,rfl⟩:=mem_map.1 hx;obtain⟨i,h1,u⟩:=qmh hy;rw[Ga] at u;have C:=G.re _ (yF h1);refine⟨⟨by show 0<=y.1;omega,C.2⟩,wy ?_⟩;by_cases I:i<y4.length;rw[if_pos I] at u;have u:=yO u;rw[<- u,Co]
  have:=FH numbers i
  omega;rw[if_neg I] at u;cases u) (by rw[R];exact G.nodup)
 rw[R] at U;obtain⟨D2,e2,q2,s2,w2,V⟩:=q1.sync;refine⟨D2,?_,q2,s2.trans s1,w2,fun i p C=>?_,fun m hm J=>by rw[V m hm,U m J]⟩;rw[fj,G.y7,if_neg oL];show andThen _ _=_;rw[e1];exact e2;have I:=(zP.1 C).1;have E:(p,eE p 2 (iI (y4.getD (i+1) 0) (chunk numbers i)))∈(y4.zip (gl numbers y4 y4.length)).map fun x=>(x.1,eE x.1 2 x.2):=by refine mem_map.2 ⟨(p,iI (y4.getD (i+1) 0) (chunk numbers i)),?_,rfl⟩;refine yF (i:=i) ?_;rw[List.getElem?_zip_eq_some];exact⟨C,by rw[Ga,if_pos I]⟩
 have al:=G.re _ (yF C);rw[V p oJ];exact v1 _ E
def ql8(numbers:List Int):∀k,(List.range k).flatMap (chunk numbers)=numbers.take (123*k)
 | 0=>by simp
 | k+1=>by rw[range_succ,yQ,ql8 numbers k,flatMap_singleton,chunk,Nat.mul_succ,<- xE (123*k) (numbers.take (123*k+123))];congr 1;rw[take_take,xR oJ];rw[drop_take,vD]
def quy{D:dI}{numbers y4:List Int}{n:Int}(hd:D.down=false)(hs:D.size=n)(hn:n<=4096)(I:lu n numbers y4)(hl:oY D numbers y4): ∀(k i f:Nat),i+k=y4.length->k<f->lV D n f (y4.getD i 0) (y4.take i) ((List.range i).flatMap (chunk numbers))=some (y4,numbers)
 | 0,i,f+1,hi,hf=>by have:y4.getD i 0=0:=(by rw[yR,yS oJ];rfl);have hr:=I.room;have aa:i=y4.length:=oJ;subst aa;rw[this,lV,if_pos rfl,ql8,xZ,zS hr]
 | k+1,i,f+1,hi,hf=>by
  have u:i<y4.length:=oJ;have hp:y4.getD i 0=y4[i]:=(by rw[yR,zA u];rfl);have hr:=I.re _ (zX u);have R:y4[i]∉y4.take i:=fun hm=>by
   obtain⟨j,hj,he⟩:=getElem_of_mem hm;rw[getElem_take] at he;rw[yL] at hj
   have:=pairwise_iff_getElem.1 I.nodup j i oJ u oJ
   exact this he
  have hv:=hl i _ (zA u);have C:=CC hd (n:=y4[i]) (by rw[hs];omega);rw[hv] at C;have ab:=FH numbers i;have J:=D9 (number:=y4[i]) (kind:=2) (body:=iI (y4.getD (i+1) 0) (chunk numbers i)) oJ (by rw[Co];omega);have U:∀x∈chunk numbers i,x∈numbers:=fun x V=>yU (yV V);have E:gC (y4.getD (i+1) 0)/\y4.getD (i+1) 0≠1:=by
   rw[yR];cases h:y4[i+1]? with
   | none=>exact⟨⟨oM,oM⟩,oM⟩
   | some p=>
    have:=I.re p (yF h)
    constructor;constructor<;>(simp;omega);simp;omega
  have G:=qst E.1 E.2 (c:=chunk numbers i) (fun x V=>by have:=I.m8 x (U x V);constructor<;>omega)
   ((FU _ _).2 ⟨fun x V=>by have:=I.m8 x (U x V);omega,I.cU.sublist ((take_sublist _ _).trans (drop_sublist _ _))⟩) ab
  rw[hp,lV,iN,if_neg (by intro h;rcases h with h|h|h;omega;omega;exact R h),C,J,if_neg oL,if_neg oL,G,if_neg oL]
  have:=quy hd hs hn I hl k (i+1) f oJ oJ
  rw[yG u,range_succ,yQ,flatMap_singleton] at this;exact this
def DR(n:Int)(Q5:List Int):∀(l:List Int) (a:Int),ky n Q5 a l=true↔(∀x∈l,a<x/\x<n/\x∉Q5)/\l.Pairwise (· < ·)
 | [],a=>by simp[ky]
 | x::l,a=>by
  rw[ky,yB,DR n Q5 l x,yJ];simp only[zT,Bool.or_eq_false_iff,decide_eq_false_iff_not,Int.not_le,Int.not_lt,ge_iff_le];constructor;rintro⟨⟨⟨u,C⟩,E⟩,G,I⟩;refine⟨fun y h=>?_,fun y h=>(G y h).1,I⟩;rcases zG.1 h with rfl|h;exact⟨u,C,E⟩
  have:=G y h;exact⟨oJ,this.2⟩
  rintro⟨u,C,E⟩
  have:=u x oL
  exact⟨⟨⟨this.1,this.2.1⟩,this.2.2⟩,fun y h=>⟨C y h,(u y (zN _ h)).2⟩,E⟩
def Ex:∀(n:Nat) (l:List Nat),l.Nodup->(∀x∈l,x<n)->l.length<=n
 | 0,l,_,h=>by cases l with
  | nil=>simp
  | cons a l=>exact absurd (h a oL) oJ
 | n+1,l,C,h=>by
  by_cases hm:n∈l;have G:=Ex n (l.erase n) (C.erase n) (fun x u=>by
   have E:=(C.mem_erase_iff).1 u
   have:=h x E.2
   have:=E.1
   omega)
  have:=length_erase_of_mem hm
  have:=length_pos_of_mem hm
  omega
  have:=Ex n l C (fun x u=>by
   have:=h x u
   have:x≠n:=fun e=>hm (e▸u);omega)
  omega
def Ci(E:l.Nodup)(h:∀x∈l,2<=x/\x<n):(l.length:Int)<=n-2\/l=[]:=by
 by_cases h0:l=[];exact .inr h0;left;obtain⟨a,G⟩:=exists_mem_of_ne_nil l h0;have J:=h a G
 have:=Ex (n-2).toNat (l.map fun x=>(x-2).toNat) (by
  refine pairwise_map.2 (E.imp_of_mem fun {x y} u C I=>?_)
  have:=h x u
  have:=h y C
  omega) (fun x u=>by
  obtain⟨y,C,rfl⟩:=mem_map.1 u
  have:=h y C
  omega)
 rw[zK] at this;omega
structure oU (D:dI) (s:nC) (y4 numbers:List Int):Prop where
 down:D.down=false
 size:8<=D.size/\D.size<=4096
 tF:gP (view D 0) (view D 1)=(s,0)
 blocks:s.2.getD 0 0=D.size
 list:s.2.getD 1 0=y4.headD 0
 Q1:s.2.getD 2 0=numbers.length
 ok:lu D.size numbers y4
 listed:oY D numbers y4
def oU.load(h:oU D s y4 numbers):nX D s=some (y4,numbers):=by
 have E:lV D D.size (D.size.toNat+1) (y4.headD 0) [] []=some (y4,numbers):=by
  have:=quy h.down rfl h.size.2 h.ok h.listed y4.length 0 (D.size.toNat+1) oJ (by
   have:=Ci h.ok.nodup h.ok.re
   have I:=h.size;rcases this with C|C;omega;rw[C];simp)
  have e:y4.headD 0=y4.getD 0 0:=(by cases y4<;>rfl);rw[e];exact this
 rw[nX,h.blocks,h.list,E];dsimp only;rw[if_pos];exact⟨(DR _ _ _ _).2 ⟨fun x u=>⟨by have:=h.ok.m8 x u;omega,(h.ok.m8 x u).2,fun G=>h.ok.J3 x G u⟩,h.ok.cU⟩,h.Q1.symm⟩
def oU.open(h:oU D s y4 numbers):mC D=(some (ie s y4 numbers 1 false numbers),0):=by have u:=CC h.down (n:=0) ⟨oM,by have:=h.size;omega⟩;have C:=CC h.down (n:=1) ⟨oM,by have:=h.size;omega⟩;have E:s.2.getD 0 0=(D.Q6.length:Int):=h.blocks;rw[mC,u,C,h.tF,if_neg oL,if_neg oL,if_neg oL,if_neg (by rw[E];simp),h.load]
def tg{α:Type}{enc:α->List Value}{P:Program}{s:Sl}{l:List α}{tx e':TypeId}(h:dZ enc k S w s l)(C:∀x,(enc x).length=k)(E:∀x,∀u∈enc x,u.oneCell'=true)(I:P.underlying tx=some (.slice e')): Src P k tx s.v s.len (l.flatMap enc) w:=by
 obtain⟨a,len,cap⟩:=s;have G:=h.1;simp only at G;cases a with
 | none=>
  have:l=[]:=by rcases h.2.2 with h|⟨b,o,V,T,fr,J,_⟩;exact h;cases J
  subst this;simp at G;subst G;exact .ofNil w I cap
 | some a=>
  refine .ofSlice w I a len cap _ (by rw[pQ C,G]) (h.cells C rfl) fun u R=>?_;obtain⟨x,_,U⟩:=yK.1 R;exact E x u U
def BV{s src:Sl}{ys:List Int}{B:List Nat}{K:Sl->WP}(h:lc w s l B)(J:Rd S w src ys)(hl:l.length+ys.length<=1000000)(U:∀E B' w',lc w' E (l++ys) B'->Fr B w w'->(∀b∈B',b∈B\/w.heap.size<=b)->K E w'): Pt.run dh ((Builtin.append_ #[172,172] 172 #[s.v,src.v]).run prog w) K:=by obtain⟨i,V,hz,G,I⟩:=vI;have C:=J.1;refine eQ.j1 (e:=63) h qS oK V hz G rfl (tg (e':=63) J qS (fun x u R=>by simp at R;subst R;rfl) oK) C (by rw[I];omega) oJ fun E B' w' b' f' n' _=>U E B' w' b' f' n'
def vj(h:D.Ok)(n:Int):eF (eB D n).1/\(eB D n).1.length<=512:=by
 have I:eF (zs 512):=eF.zs 512;unfold eB;split;exact⟨(fun x C=>by cases C),oL⟩;split;exact⟨(fun x C=>by cases C),oL⟩;split;rename_i b J;refine⟨?_,Nat.le_of_eq b.2⟩;have:∀l:List (Int×lM),(∀x∈l,eF x.2.1)->iD n l=some b->eF b.1:=by
  intro l;induction l with
  | nil=>intro _ h;cases h
  | cons x l ih=>
   intro G u;rw[iD] at u;cases E:iD n l with
   | some c=>rw[E] at u;exact ih (fun y R=>G y (zN _ R)) (by rw[E];exact u)
   | none=>
    rw[E] at u;dsimp only at u;split at u;cases u;exact G x oL;cases u
 exact this _ h.nD J;refine⟨?_,Nat.le_of_eq (D.Q6.getD n.toNat .zero).2⟩;rw[yR];cases U:D.Q6[n.toNat]? with
 | none=>exact I
 | some b=>exact h.nH b (yF U)
def qqp(h:eF l)(n:Int):eF (eU n l).2.1/\(eU n l).2.1.length<=l.length:=by
 have u:eF ([]:List Int):=fun x C=>by cases C
 unfold eU;split;exact⟨u,oL⟩;split;exact⟨u,oL⟩;split;exact⟨u,oL⟩;split;exact⟨u,oL⟩;split;exact⟨u,oL⟩;refine⟨(h.take _).drop _,?_⟩;rw[yC,yL];omega
abbrev MIT:TypeId:=271
def qAL:prog.underlying MIT=some (.map 63 3):=by kernel_rfl
def qBk:∀w,(zeroValue 3).run prog w=.ok (.i 0) w:=fun w=>by kernel_rfl
def lh (l:List Int):List (Int×Value):=l.map fun n=>(n,.i 1)
def Gr(n:Int):∀l:List Int,(n∈l->∃i,look n (lh l)=some (i,.i 1))/\(n∉l->look n (lh l)=none)
 | []=>⟨(fun h=>by cases h),fun _=>rfl⟩
 | a::l=>by
  obtain⟨G,I⟩:=Gr n l;simp only[lh,xO,look];by_cases h:n=a;rw[if_pos h];exact⟨fun _=>⟨0,rfl⟩,fun J=>absurd (by rw[h];simp) J⟩;rw[if_neg h];refine⟨fun u=>?_,fun u=>?_⟩;rcases zG.1 u with e|u;exact absurd e h;obtain⟨i,E⟩:=G u;unfold lh at E;exact⟨i+1,by rw[E];rfl⟩
  have:=I (fun C=>u (zN _ C))
  unfold lh at this;rw[this];rfl
def qr8{r:Nat}{K:Int->Prop}(h:i4 jh w r (lh Q5))(k:∀x:Int,decide (x>0)=decide (n∈Q5)->K x): eW [gN.one .i] (fun w'=>(Instr.lookup MIT (.map (some r)) (.u n) false).run prog w') w K:=by
 have:=Cp (P:=prog) qAL qBk uQ h.at n
 rw[wW] at this;obtain⟨C,E⟩:=Gr n Q5;by_cases hn:n∈Q5;obtain⟨i,G⟩:=C hn;rw[G] at this;exact qm (ts:=[gN.one .i]) (1:Int) this (k 1 (by simp[hn]));rw[E hn] at this;exact qm (ts:=[gN.one .i]) (0:Int) this (k 0 (by simp[hn]))
def qqB{u:Sl}(C:j9.2.length=27):dR (fh db j9 sl sn x6 Q3 wk) 29 [u.v]=fh db j9 u sn x6 Q3 wk:=by
 have h:=se (db:=db) C
 have:=sL (A:=(Value.pointer db::eT j9.1 j9.2)) (X:=[sl.v]) (Y:=[u.v]) (Z:=sn.v::.i x6::.bool Q3::wk) rfl
 rw[h] at this;simpa[fh] using this
def qqC{u:Sl}(C:j9.2.length=27):dR (fh db j9 sl sn x6 Q3 wk) 30 [u.v]=fh db j9 sl u x6 Q3 wk:=by
 have h:((Value.pointer db::eT j9.1 j9.2)++([sl.v]:List Value)).length=30:=by rw[zF,se C];rfl
 have:=sL (A:=(Value.pointer db::eT j9.1 j9.2)++([sl.v]:List Value)) (X:=[sn.v]) (Y:=[u.v]) (Z:=.i x6::.bool Q3::wk) rfl
 rw[h] at this;simpa[fh] using this
def qkn:gC (fl l):=by unfold fl od;exact CT _ _ _
def qvy(l:List Int):gC (hU l).1:=by unfold hU;split;constructor<;>decide;split;constructor<;>decide;split;exact qkn;constructor<;>decide
def qvz(l:List Int):(hU l).2.1.length<=123:=by unfold hU;split;simp;split;simp;rename_i h;split;simp only[jS,zK,length_range];omega;simp
structure EJ (w:World) (FD:List Nat) (pb r:Nat) (db:Option Addr) (j9:nC) (x6:Int) (Q3:Bool) (wk:List Value) (a:Int) (Q5 Q9:List Int) (w':World) (sl sn:Sl) (B1 B2:List Nat):Prop where
 own:dQ [pb] w w' [(pb,.cells (fh db j9 sl sn x6 Q3 wk) rB (0,0))]
 b1:lc w' sl Q5 B1
 b2:lc w' sn Q9 B2
 map:i4 jh w' r (lh Q5)
 n1:∀ b∈B1,w.heap.size<=b/\b≠r/\b∉B2
 n2:∀ b∈B2,w.heap.size<=b/\b≠r
 nr:w.heap.size<=r
 at_:gC a
 nodup:Q5.Nodup
 range:∀ x∈Q5,2<=x/\x<j9.2.getD 0 0
 len:Q9.length<=123*Q5.length
def qxS{K:Bool->WP}(hc:w.heap[pb]?=some (.cells (fh (pW dbk) j9 dG dG x6 Q3 wk) rB (0,0)))(R:j9.2.length=27)(hw:wk.length=27)(hd:eO w dbk FD D)(hD:D.Ok)(hv:Hv w)(ba:pb∉FD)(bb:pb≠HG)(bT:j9.2.getD 0 0<=4096)(bc:gC (j9.2.getD 1 0))(bU:gC (j9.2.getD 2 0))(V:nX D j9=none->∀w',Fr [pb] w w'->K false w')(hk:∀sl sn u Q9 w',nX D j9=some (u,Q9)->dQ [pb] w w' [(pb,.cells (fh (pW dbk) j9 sl sn x6 Q3 wk) rB (0,0))]->(∀G:List Nat,(∀b∈G,b<w.heap.size)->Rd G w' sl u/\Rd G w' sn Q9)->K true w'): cW 145 [dF pb] dj w K:=by
 have bJ:=eZ hc;have ho:dQ [pb] w w [(pb,.cells (fh (pW dbk) j9 dG dG x6 Q3 wk) rB (0,0))]:=⟨by simpa using hc,oL,.refl _ _,oL⟩;refine qjV<|oB ho fun r w1 e1 f1 ac=>?_;have ao:i4 jh w1 r (lh []):=.empty (ac.at (i:=0) rfl);have ac:=ac.sub (L':=[(pb,_)]) (List.Sublist.cons _ (List.Sublist.refl _));refine fv (oA ac 0 rfl (j9.2.getD 1 0) (Cq R 1 oM) ?_);have aF:∀ {w':World},Fr [pb] w w'->eO w' dbk FD D:=fun f=>hd.q8 f fun b E=>by simp only[zE];rintro rfl;exact ba E
 have half:∀ {w':World},Fr [pb] w w'->Hv w':=fun f=>hv.q8 f (by simpa using fun e=>bb e.symm);generalize bd:(j9.2.getD 0 0).toNat+1=F0;have I:nX D j9=match lV D (j9.2.getD 0 0) F0 (j9.2.getD 1 0) [] [] with|none=>none|some x=>if ky (j9.2.getD 0 0) x.1 0 x.2=true/\(x.2.length:Int)=j9.2.getD 2 0 then some x else none:=by rw[<- bd];rfl
 refine iU (fun a w'=>∃u Q9 sl sn B1 B2 f,EJ w FD pb r (pW dbk) j9 x6 Q3 wk a u Q9 w' sl sn B1 B2/\f+u.length=F0/\lV D (j9.2.getD 0 0) f a u Q9=lV D (j9.2.getD 0 0) F0 (j9.2.getD 1 0) [] [])
  (fun a w'=>match w'.heap[r]? with|some (.map es _)=>F0-es.size|_=>0) ⟨[],[],dG,dG,[],[],F0,⟨ac,.nil _ _ _,.nil _ _ _,ao,oL,oL,by rw[e1];exact zM _,bc,.nil,oL,oL⟩,rfl,rfl⟩ ?_
 rintro a w2 ⟨u,Q9,sl,sn,B1,B2,f,H,hf,C⟩ X hX;have bK:u.length<F0:=by rcases Ci H.nodup H.range with h|h;omega;rw[h];simp;omega
 obtain⟨f,rfl⟩:∃g,f=g+1:=⟨f-1,oJ⟩;have aG:=H.own.fr;apply dW<;>intro ap;have aq:a≠0:=(oP ap);rw[lV,if_neg aq] at C;refine gW (fun b w'=>b=decide (a<2\/a>=j9.2.getD 0 0\/a∈u)/\w'=w2) ?_ ?_;refine dW (fun h=>⟨by rw[yA (Or.inl (zC h))],rfl⟩) (fun h=>?_);have h1:=zB h;refine fv (oA H.own 0 rfl (j9.2.getD 0 0) (Cq R 0 oM) ?_);refine dW (fun h=>⟨by rw[yA (Or.inr (Or.inl (zC h)))],rfl⟩) (fun h=>?_);have h2:=zB h;refine qr8 H.map fun x hx=>⟨?_,rfl⟩;rw[hx];refine decide_eq_decide.2 ⟨fun h=>.inr (.inr h),fun h=>?_⟩;rcases h with h|h|h;exact absurd h h1;exact absurd h h2;exact h;rintro b w3 ⟨rfl,rfl⟩;apply dW<;>intro h;have h:=zC h;rw[if_pos h] at C;exact V (by rw[I,<- C]) w3 aG;have ai:=zB h;rw[if_neg ai] at C;have bh:2<=a:=oJ;have bi:a<j9.2.getD 0 0:=oJ;have aH:a∉u:=fun h=>ai (.inr (.inr h));obtain⟨o,hr,hm⟩:=Eb (v:=.i 1) qAL H.map a;refine B0 _ hr ?_;have ar:gL a (.i 1) (lh u)=lh (u++[a]):=by rw[gL,(Gr a u).2 aH];simp[lh]
 rw[ar] at hm;have aI:=H.map.lt;have fm:Fr [r] w3 (gR w3 r o):=wX aI o;have aJ:r≠pb:=(by have:=H.nr;omega);have ae:=H.own.q8 fm (fun b E=>by simp only[zE] at E;subst E;exact .inr H.nr) (fun p hp=>by simp at hp;subst hp;simpa using fun e=>aJ e.symm);have au:=H.b1.q8 fm (fun b E=>by simpa using (H.n1 b E).2.1);have aK:=H.b2.q8 fm (fun b E=>by simpa using (H.n2 b E).2);generalize gR w3 r o=w4 at hm fm ae au aK;refine fv (oA ae 0 rfl (pW dbk) qBa ?_);rw[gg a oJ];refine CM (aF ae.fr) hD fun s5 B5 w5 b5 f5 n5=>?_;have av:=ae.q7 f5;apply dW<;>intro h;have h:(eB D a).2≠0:=(oP h);rw[if_pos h] at C;exact V (by rw[I,<- C]) w5 av.fr;have h:¬(eB D a).2≠0:=(oP h);rw[if_neg h] at C;refine EB (b5.jo kW (S:=[]) oL) (half av.fr) (vj hD a).1 (by have:=(vj hD a).2;omega) fun s6 B6 w6 b6 f6 n6=>?_;have aM:=av.q7 f6;refine gW (fun b w'=>b=decide ((eU a (eB D a).1).2.2≠0\/(eU a (eB D a).1).1≠2)/\w'=w6) ?_ ?_;apply dW<;>intro h;have h:(eU a (eB D a).1).2.2≠0:=(oP h);exact⟨by rw[yA (Or.inl h)],rfl⟩;have h:(eU a (eB D a).1).2.2=0:=(oP h);refine⟨?_,rfl⟩;by_cases h2:(eU a (eB D a).1).1=2<;>simp[h,h2];rintro b bl ⟨rfl,rfl⟩;apply dW<;>intro h;have h:=zC h;rw[if_pos h] at C;exact V (by rw[I,<- C]) bl aM.fr;have h:=zB h;rw[if_neg h] at C;have aN:=qqp (vj hD a).1 a;refine qv5 (b6.jo kW (S:=[]) oL) aN.1 (by have:=aN.2;have:=(vj hD a).2;omega) fun s7 B7 w7 b7 f7 n7=>?_;have aO:=aM.q7 f7;apply dW<;>intro h;have h:(hU (eU a (eB D a).1).2.1).2.2≠0:=(oP h);rw[if_pos h] at C;exact V (by rw[I,<- C]) w7 aO.fr;have h:¬(hU (eU a (eB D a).1).2.1).2.2≠0:=(oP h);rw[if_neg h] at C;have bm:=qvz (eU a (eB D a).1).2.1;have aP:=qvy (eU a (eB D a).1).2.1;generalize hU (eU a (eB D a).1).2.1=pv at C b7 bm aP;have bn:=(f5.trans f6).trans f7;have bo:=H.len;have bp:u.length<=4096:=oJ;have J:=aO.drew;have af:Fr [] w4 w7.drew:=bn.drew;have aw:=au.q7 af;have ax:=aK.q7 af;have aQ:=hm.q8 af oL;have aR:=b7.q7 ((Fr.refl [] w7).drew);have l7:∀b∈B7,w4.heap.size<=b:=fun b E=>zL (f5.trans f6).size (n7 b E);have ce:r<w4.heap.size:=hm.lt;generalize w7.drew=wd at J af aw ax aQ aR;refine fv (oA J 0 rfl sl (vr R 0 oM) ?_);refine fv (oA J 0 rfl sn (vr R 1 oM) ?_);refine oB J fun rn w8 e8 f8 ag=>ko (ag.cell 1 rfl (vr R 1 oM)) (ag.cell 1 rfl (vr R 0 oM)) ?_;have aV:Rd [] w8 ⟨pW rn,1,1⟩ [a]:=by
  refine⟨rfl,zM _,.inr ⟨rn,0,_,_,_,rfl,ag.at (i:=0) rfl,oL,fun i x hx=>?_⟩⟩;match i with
  | 0=>simp at hx;subst hx;rfl
  | i+1=>simp at hx
 refine BV (s:=sl) (src:=⟨pW rn,1,1⟩) (aw.q7 f8) aV oO fun s9 B9 w9 b9 f9 n9=>?_;have cf:∀b∈B1,b<wd.heap.size:=fun b E=>aw.lt b E;have bx:∀b∈B2,b<wd.heap.size:=fun b E=>ax.lt b E;have bz:wd.heap.size<=w8.heap.size:=f8.size;have cg:w4.heap.size<=wd.heap.size:=af.size;have ch:w.heap.size<=w4.heap.size:=ae.fr.size;have aX:=(ag.sub (L':=[(pb,_)]) (List.Sublist.cons _ (List.Sublist.refl _))).q8 f9 (fun b E=>.inr (H.n1 b E).1) (fun p hp E=>by simp at hp;subst hp;have:=(H.n1 _ E).1;dsimp only at this;omega);refine ig (aX.cell 0 rfl (vr R 1 oM)) ?_;have bA:=(ax.q7 f8).q8 f9 (fun b E ay=>(H.n1 b ay).2.2 E);have bB:Rd [] w9 s7 pv.2.1:=((aR.q7 f8).q8 f9 (fun b E ay=>by have:=l7 b E;have:=au.lt b ay;omega)).jo qS oL;refine BV bA bB oJ fun aY az ci bC aA aZ=>?_;have bP:wd.heap.size<=w9.heap.size:=zL bz f9.size;have a0:=aX.q8 aA (fun b E=>.inr (H.n2 b E).1) (fun p hp E=>by simp at hp;subst hp;have:=(H.n2 _ E).1;dsimp only at this;omega);have ab:∀b∈B9,w.heap.size<=b/\b≠r/\b∉B2/\b<w9.heap.size:=fun b E=>by refine⟨?_,?_,?_,b9.lt b E⟩;rcases n9 b E with h|h;exact (H.n1 b h).1;omega;rcases n9 b E with h|h;exact (H.n1 b h).2.1;omega;rcases n9 b E with h|h;exact (H.n1 b h).2.2;intro h2;have:=bx b h2;omega
 have ak:∀b∈az,w.heap.size<=b/\b≠r:=fun b E=>by rcases aZ b E with h|h;exact H.n2 b h;constructor<;>omega
 have a1:=b9.q8 aA (fun b E h2=>(ab b E).2.2.1 h2);have bD:∀b∈B9,b∉az:=fun b E bE=>by
  rcases aZ b bE with h|h;exact (ab b E).2.2.1 h
  have:=(ab b E).2.2.2;omega
 refine fv (oG a0 0 rfl (fh (pW dbk) j9 s9 sn x6 Q3 wk) (qqB R) rfl (by rw[ug R,hw];exact zO rfl) fun cj a2 bF=>?_);refine fv (oG a2 0 rfl (fh (pW dbk) j9 s9 aY x6 Q3 wk) (qqC R) rfl (by rw[ug R,hw];exact zO rfl) fun ck a3 bG=>?_);have U:=bF.trans bG;have aB:∀b,w.heap.size<=b->b∉[pb]:=fun b E=>by simp;omega
 have al:=(((aQ.q8 f8 oL).q8 f9 (fun h=>(H.n1 r h).2.1 rfl)).q8 aA (fun h=>(H.n2 r h).2 rfl)).q8 U (aB r H.nr);refine hX _ _ ⟨u++[a],Q9++pv.2.1,s9,aY,B9,az,f,⟨a3,a1.q8 U (fun b E=>aB b (ab b E).1),bC.q8 U (fun b E=>aB b (ak b E).1),al,fun b E=>⟨(ab b E).1,(ab b E).2.1,bD b E⟩,ak,H.nr,aP,?_,?_,?_⟩,?_,C⟩ ?_;rw[yM];exact⟨H.nodup,oL,fun x hx y hy=>by simp at hy;subst hy;exact fun e=>aH (e▸hx)⟩;intro x hx;rcases zD.1 hx with h|h;exact H.range x h;simp at h;subst h;exact⟨bh,bi⟩;rw[zF,zF];have:[a].length=1:=rfl;omega;rw[zF];have:[a].length=1:=rfl;omega;have key:∀ {w':World} {l:List Int},i4 jh w' r (lh l)->(match w'.heap[r]? with|some (.map es _)=>F0-es.size|_=>0)=F0-l.length:=by
  rintro w' l ⟨es,c,h1,h2,_⟩;rw[h1]
  have:=congrArg List.length h2
  simp[lh] at this;simp[this]
 rw[key al,key H.map,zF];have:[a].length=1:=rfl;omega;have aq:a=0:=(oP ap);subst aq;rw[lV,if_pos rfl] at C;rw[<- C] at I;dsimp only at I;refine fv (oA H.own 0 rfl sn (vr R 1 oM) ?_);have rn:Rd [] w2 sn Q9:=H.b2.jo qS oL;have cl:=rn.1;have bo:=H.len;have bp:u.length<=4096:=oJ;refine iU (fun x w'=>w'=w2/\∃i:Nat,x.2=i/\i<=Q9.length/\ky (j9.2.getD 0 0) u x.1 (Q9.drop i)=ky (j9.2.getD 0 0) u 0 Q9) (fun x _=>((Q9.length:Int)-x.2).toNat) ⟨rfl,0,rfl,oJ,rfl⟩ ?_;rintro⟨a4,ii⟩ w' ⟨rfl,i,a5,hi,hn⟩ Z hZ;simp only at a5 hn;subst a5;apply cD<;>intro hc;have a6:i<Q9.length:=(by have:=hc;dsimp only at this;omega);refine Rd.at rn i rfl (zA a6) ?_;rw[zY a6,ky] at hn;refine gW (fun b w3=>b=(decide (Q9[i]<=a4)||decide (Q9[i]>=j9.2.getD 0 0)||decide (Q9[i]∈u))/\w3=w') ?_ ?_;refine dW (fun h=>⟨by rw[h];rfl,rfl⟩) fun h=>fv (oA H.own 0 rfl (j9.2.getD 0 0) (Cq R 0 oM) ?_);refine dW (fun h2=>⟨by rw[h,h2];rfl,rfl⟩) fun h2=>qr8 H.map fun x hx=>⟨?_,rfl⟩;rw[hx,h,h2];rfl;rintro b w3 ⟨rfl,rfl⟩;apply dW<;>intro h;rw[h] at hn;refine V ?_ w3 aG;rw[I,if_neg];rw[<- hn];simp;rw[h] at hn;rw[gg _ oN];exact hZ _ _ ⟨rfl,i+1,oL,oJ,by simpa using hn⟩ oN;have:i=Q9.length:=(by have:=hc;dsimp only at this;omega);subst this;rw[drop_length] at hn;have bH:ky (j9.2.getD 0 0) u 0 Q9=true:=hn.symm;have J:=H.own.drew;refine fv (oA J 0 rfl sn (vr R 1 oM) ?_);refine fv (oA J 0 rfl (j9.2.getD 2 0) (Cq R 2 oM) ?_);rw[gg _ oJ];by_cases hfree:(Q9.length:Int)=j9.2.getD 2 0;rw[if_pos ⟨bH,hfree⟩] at I;have e:((sn.len:Int)==j9.2.getD 2 0)=true:=(by rw[yP];omega);rw[e];refine hk sl sn u Q9 _ I J fun G hG=>?_;have an:∀b,w.heap.size<=b->b∉G:=fun b E h=>by have:=hG b h;omega
 exact⟨(H.b1.q7 ((Fr.refl [] w').drew)).jo qS fun b E=>an b (H.n1 b E).1,(H.b2.q7 ((Fr.refl [] w').drew)).jo qS fun b E=>an b (H.n2 b E).1⟩;have e:((sn.len:Int)==j9.2.getD 2 0)=false:=(by rw[zR];omega);rw[e];exact V (by rw[I,if_neg (fun h=>hfree h.2)]) _ J.fr
def ql0{s:Sl}(h:eh S w s l):(Extern.Bytes.bytesOf (.slice s.a s.len s.cap)).run prog w=.ok ⟨(Lib.bytesOf l).toArray⟩ w:=by
 have hlen:=h.1;cases ha:s.a with
 | none=>
  have hl0:l=[]:=by rcases h.2.2 with h3|⟨b,o,cs,T,fr,ha',_⟩;exact h3;rw[ha] at ha';cases ha'
  subst hl0;rfl
 | some a=>
  have hc:=h.cells kW ha
  have:=Lib.run_loadBytesX (P:=prog) w l a .empty (fun j x hj=>hc j (.int .u8 x) (by rw[qX,zQ,hj];rfl))
  rw[hlen];show (Extern.Bytes.loadBytes a l.length .empty).run prog w=_;rw[this];have e:(#[]:Array UInt8)++(Lib.bytesOf l).toArray=(Lib.bytesOf l).toArray:=oL;exact congrArg (fun d=>Result.ok (ByteArray.mk d) w) e
def qgH:∀ {a b:List Int},eF a->eF b->Lib.compareBytes (Lib.bytesOf a) (Lib.bytesOf b)=cmpL a b
 | [],[],_,_=>rfl
 | [],y::b,_,_=>rfl
 | x::a,[],_,_=>rfl
 | x::a,y::b,I,J=>by
  have C:=I x oL;have E:=J y oL;have ih:=qgH (a:=a) (b:=b) (fun z G=>I z (zN _ G)) (fun z G=>J z (zN _ G));have e:∀ {u v:Int},(0<=u/\u<256)->(0<=v/\v<256)->(u.toNat.toUInt8<v.toNat.toUInt8↔u<v):=fun {u v} R U=>by rw[UInt8.lt_iff_toNat_lt];simp;omega
  show (if x.toNat.toUInt8<y.toNat.toUInt8 then (-1:Int) else if y.toNat.toUInt8<x.toNat.toUInt8 then 1 else Lib.compareBytes (Lib.bytesOf a) (Lib.bytesOf b))=cmpL (x::a) (y::b);rw[cmpL,ih];by_cases h1:x<y;rw[if_pos ((e C E).2 h1),if_pos h1];rw[if_neg (fun h=>h1 ((e C E).1 h)),if_neg h1];by_cases h2:y<x;rw[if_pos ((e E C).2 h2),if_pos h2];rw[if_neg (fun h=>h2 ((e E C).1 h)),if_neg h2]
def qtd{S':List Nat}{s u:Sl}(h:eh S w s l)(E:eh S' w u l')(G:eF l)(C:eF l'): (Extern.BytealgCompare.compare #[s.v,u.v]).run prog w=.ok (.i (cmpL l l')) w:=by show Sem.run prog (do pure (goInt (Extern.BytealgCompare.cmp (<- Extern.Bytes.bytesOf s.v) (<- Extern.Bytes.bytesOf u.v)))) w=_;have e:=qgH G C;simp only[Sem.run_bind,ql0 h,Result.andThen_ok,ql0 E,Lib.cmp_eq];rw[e];rfl
def BC{S':List Nat}{s C:Sl}(h:eh S w s l)(E:eh S' w C l')(G:eF l)(u:eF l')(I:K (cmpL l l') w): cW 116 [s.v,C.v] di w K:=by exact qvp<|qmN<|CR (e:=Extern.BytealgCompare.compare) Tryz.func185 oK oK oK oK (cmpL l l') w (qtd h E G u) I
def gp (s:Sl):List Value:=[s.v]
def u9(s:Sl):(gp s).length=1:=rfl
def qwE(s:Sl):∀u∈gp s,u.oneCell'=true:=fun u h=>by rw[zE.1 h];rfl
abbrev pj:=List (Sl×Key)
abbrev ir (ps:pj):List Sl:=ps.map (·.1)
abbrev ga (ps:pj):List Key:=ps.map (·.2)
def jg (S:List Nat) (w:World) (s:Sl) (ps:pj):Prop:=dZ gp 1 S w s (ir ps)/\∀p∈ps,eh S w p.1 p.2
def jg.q8{S S':List Nat}{w w':World}{s:Sl}{ps:pj}(h:jg S w s ps)(f:Fr S w w')(u:∀b∈S',b∈S\/w.heap.size<=b):jg S' w' s ps:=⟨h.1.q8 f u,fun p C=>(h.2 p C).q8 f u⟩
def jg.q7{S:List Nat}{w w':World}{s:Sl}{ps:pj}(h:jg S w s ps)(f:Fr [] w w'):jg S w' s ps:=⟨h.1.q7 f,fun p u=>(h.2 p u).q7 f⟩
def jg.len{S:List Nat}{w:World}{s:Sl}{ps:pj}(h:jg S w s ps):s.len=ps.length:=by rw[h.1.1,zK]
def jg.nil(S:List Nat)(w:World):jg S w dG []:=⟨.nil _ _ _ _,fun p h=>nomatch h⟩
def jg.get{S:List Nat}{w:World}{s:Sl}{ps:pj}(h:jg S w s ps)(n:Nat){i:Int}{K:Sl->Prop}(hi:i=n)(u:n<ps.length)(C:K ps[n].1):idx s i 1 fun a=>ld .slice a w K:=
 dZ.get h.1 n hi (x:=ps[n].1) (by rw[zQ,zA u];rfl) (y:=ps[n].1) rfl C
def andThen_ok:andThen (D,0) f=f D:=if_pos rfl
structure kU (s:nC):Prop where
 seq:0<=s.1/\s.1<4611686018427387904
 len:s.2.length=27
 u32:∀ x∈s.2,gC x
def kU.place(h:kU s):Int.tmod s.1 2=s.1%2:=Int.tmod_eq_emod_of_nonneg h.seq.1
def kU.gB{s:nC}(h:kU s):gB s=(s.1%2,eE (s.1%2) 1 (gq s.1 s.2)):=by rw[Go.Proofs.YtpcmehldpoljfaaGreatDoor.gB,h.place,lN _ oJ]
def kU.read(h:kU s):eY (s.1%2) (eE (s.1%2) 1 (gq s.1 s.2))=(s,0):=by
 have:=h.seq
 exact qtB (by constructor<;>omega) h.len h.u32 h.place
def kU.uD(h:kU s)(p:Int):(eE p 1 (gq s.1 s.2)).length=512:=wy (by rw[xv h.len];decide)
def eN.tQ(h:eN D)(C:kU s)(hz:8<=D.size): ∃D',jy D s=(D',0)/\eN D'/\D'.size=D.size/\D'.Q7=[]/\view D' (s.1%2)=eE (s.1%2) 1 (gq s.1 s.2)/\∀m,0<=m->m≠s.1%2->view D' m=view D m:=by obtain⟨D1,e1,I,J,E⟩:=h.write (n:=s.1%2) (l:=eE (s.1%2) 1 (gq s.1 s.2)) oJ (C.uD _);obtain⟨R,U,V,s2,w2,G⟩:=I.sync;refine⟨R,?_,V,s2.trans J,w2,by rw[G _ oJ,E,if_pos rfl],fun m hm u=>by rw[G m hm,E,if_neg u]⟩;rw[jy,C.gB];show andThen (eu D (s.1%2) _) fU=_;rw[e1];exact U
def qtC{p:Int}:(eY p (zs 512)).2≠0:=by have u:(eU p (zs 512)).1=0:=(by unfold eU;split<;>(try rfl);split<;>(try rfl);split<;>(try rfl);split<;>(try rfl);split<;>rfl);unfold eY;generalize eU p (zs 512)=o at u⊢;by_cases h:o.2.2≠0;rw[if_pos h];exact h;have C:o.1≠1\/o.2.1.length≠116:=.inl (by rw[u];decide);rw[if_neg h,if_pos C];exact (by decide:(2:Int)≠0)
def qtP{n i:Nat}(h:i<n-2):(fu n)[i]?=some ((i:Int)+2):=by rw[fu,zQ,List.getElem?_range h];rfl
def Ak(n:Nat):(fu n).length=n-2:=by simp[fu]
def Ab{n:Nat}{x:Int}:x∈fu n↔2<=x/\x<n:=by rw[fu,mem_map];constructor;rintro⟨i,h,rfl⟩;rw[mem_range] at h;omega;rintro⟨u,C⟩;exact⟨(x-2).toNat,by rw[mem_range];omega,oJ⟩
def BZ(n:Nat):(fu n).Pairwise (· < ·):=by rw[fu,pairwise_map];exact pairwise_lt_range.imp (fun h=>oJ)
def GA{n:Nat}:n<=124*eI n:=by
 unfold eI;split;omega
 have:=Nat.div_add_mod (n-1) 124
 have:=Nat.mod_lt (n-1) (show 0<124 by decide)
 omega
def EY{n:Nat}:eI n<=n:=by
 unfold eI;split;omega
 have:=Nat.div_le_self (n-1) 124
 omega
def qnP{n:Nat}:lu n ((fu n).drop (eI (fu n).length)) ((fu n).take (eI (fu n).length)) where
 cU:=(BZ n).sublist (drop_sublist _ _)
 m8:=fun x u=>Ab.1 (yU u)
 re:=fun x u=>Ab.1 (yV u)
 nodup:=(vX (BZ n)).sublist (take_sublist _ _)
 J3:=fun x u C=>by have h:=vX (BZ n);rw[<- xE (eI (fu n).length) (fu n),yM] at h;exact h.2.2 x u x C rfl
 room:=by have G:=GA (n:=(fu n).length);have E:=EY (n:=(fu n).length);rw[yC,yL,xR E];omega
def E5{n:Nat}(u:8<=n)(C:n<=4096):kU (kB n) where
 seq:=⟨(by decide:(0:Int)<=1),(by decide:(1:Int)<4611686018427387904)⟩
 len:=rfl
 u32:=fun x h=>by
  simp only[kB,zD,zG,xX,or_false] at h;rcases h with (rfl|rfl|rfl)|h;exact vv _;exact⟨oM,oM⟩;exact vv _
  have:=eq_of_mem_replicate h
  subst this;exact⟨oM,oM⟩
def qrZ{n:Nat}(h:eN D)(hn:D.size=n)(h8:8<=n)(h4:n<=4096): ∃D',ls D=(D',0)/\eN D'/\D'.size=n/\D'.Q7=[]/\oU D' (kB n) ((fu n).take (eI (fu n).length)) ((fu n).drop (eI (fu n).length))/\view D' 0=zs 512:=by
 have am:D.Q6.length=n:=(by have:(D.Q6.length:Int)=n:=hn;omega);obtain⟨D1,e1,q1,s1,v1⟩:=h.write (n:=0) (l:=zs 512) oJ (oZ _);obtain⟨D2,e2,q2,s2,v2⟩:=q1.write (n:=1) (l:=zs 512) oJ (oZ _);obtain⟨J,e3,q3,s3,w3,v3⟩:=q2.sync;have C:J.size=n:=oJ;have R:J.Q6.length=n:=(by have:(J.Q6.length:Int)=n:=C;omega);have u:=qnP (n:=n);rw[<- C] at u;obtain⟨U,e4,q4,s4,w4,l4,v4⟩:=q3.spread u;have V:U.size=n:=oJ;have aa:U.Q6.length=n:=(by have:(U.Q6.length:Int)=n:=V;omega);obtain⟨D5,e5,q5,s5,w5,p5,v5⟩:=q4.tQ (E5 h8 h4) oJ;have E:(kB n).1%2=1:=rfl;rw[E] at p5 v5;have G:=u.re;have z0:view D5 0=zs 512:=(by rw[v5 0 oM oM,v4 0 oM (fun hm=>by have:=G 0 hm;omega),v3 0 oM,v2,if_neg oM,v1,if_pos rfl]);refine⟨D5,?_,q5,oJ,w5,?_,z0⟩;rw[ls,e1,andThen_ok,e2,andThen_ok,e3,andThen_ok,R,e4,andThen_ok,aa,e5];have aE:1<=eI (fu n).length:=by
  have:=GA (n:=(fu n).length)
  rw[Ak] at this⊢;omega
 refine { down:=q5.down,size:=by omega,tF:=?_,blocks:=?_,list:=?_,Q1:=?_,ok:=by rw[show D5.size=J.size by omega];exact u,listed:=fun i p hp=>?_ };have hr:=(E5 h8 h4).read;rw[E] at hr;rw[z0,p5,gP,hr,if_neg oL,if_pos (.inl qtC)];show wrap .u32 (n:Int)=_;rw[lN _ oJ];omega;have:(fu n).take (eI (fu n).length)=2::((fu n).take (eI (fu n).length)).drop 1:=by
  have I:(fu n)[0]?=some 2:=(by rw[qtP oJ];rfl);obtain⟨k,hk⟩:∃k,eI (fu n).length=k+1:=⟨eI (fu n).length-1,oJ⟩;rw[hk];cases hA:fu n with
  | nil=>rw[hA] at I;cases I
  | cons a r=>rw[hA] at I;simp at I;subst I;rfl
 rw[this];rfl;show wrap .u32 _=_
 have:=EY (n:=(fu n).length)
 rw[yC,lN _ (by rw[Ak] at *;omega)];omega
 have:=G p (yF hp)
 rw[v5 p oJ oJ];exact l4 i p hp
def qvw(n:Nat):eN (mM n):=⟨rfl,rfl,fun x h=>by cases h⟩
def qxb(n:Nat):(mM n).size=n:=by show ((List.replicate n lM.zero).length:Int)=n;simp
def qsV{w':World}{s:Sl}(h:Told w w' s l):∃B,lc w' s l B/\∀b∈B,w.heap.size<=b:=by rcases h with ⟨rfl,rfl⟩|⟨b,d,T,cap,rfl,E,J,G,I,u,C⟩;exact⟨[],.nil _ _ _,oL⟩;refine⟨[b],.inr ⟨b,0,ib d,T,rfl,rfl,rfl,E,rfl,G,by rw[xq];dsimp only;omega,?_⟩,by simpa using u⟩;rw[xF,xT,ib,Array.toList_map,<- xP,I,Ez]
def gQ (D:dI):nC×Int:=
 if (eB D 0).2≠0 then (gx,(eB D 0).2) else if (eB D 1).2≠0 then (gx,(eB D 1).2) else gP (eB D 0).1 (eB D 1).1
def qtv(D:dI):(gQ D).1.2.length=27:=by unfold gQ;split;rfl;split;rfl;exact qmi _ _
def quN{K:List Value×Int->WP}(h:eO w dbk FD D)(I:D.Ok)(V:Hv w)(R:∀w',Fr [] w w'->K (eT (gQ D).1.1 (gQ D).1.2,(gQ D).2) w'): cW 144 [dF dbk] dB w K:=by
 refine qok<|oI (oE [] w) tC fun r w1 e1 C=>CM (h.q7 C.fr) I fun s2 B2 w2 b2 f2 n2=>?_;have C:=C.q7 f2;apply dW<;>intro u;have u:(eB D 0).2≠0:=(oP u);refine xp<|t9 C 0 rfl rfl rfl fun J E=>?_
 have:=R J E
 rw[gQ,if_pos u] at this;exact this;have G:¬(eB D 0).2≠0:=(oP u);refine CM (h.q7 C.fr) I fun s3 B3 J b3 E n3=>?_;have C:=C.q7 E;apply dW<;>intro u;have u:(eB D 1).2≠0:=(oP u);refine xp<|t9 C 0 rfl rfl rfl fun J E=>?_
 have:=R J E
 rw[gQ,if_neg G,if_pos u] at this;exact this;have U:¬(eB D 1).2≠0:=(oP u);have i0:=vj I 0;have i1:=vj I 1;refine quX ((b2.q7 E).jo kW (S:=[]) oL) (b3.jo kW (S:=[]) oL) (V.q7 C.fr) i0.1 i1.1 oJ oJ fun w4 f4=>t9 (C.q7 f4) 0 rfl rfl (qmi _ _) fun w5 f5=>?_
 have:=R w5 f5
 rw[gQ,if_neg G,if_neg U] at this;exact this
def qsp(D:dI):mC D=if (gQ D).2≠0 then (none,(gQ D).2) else if (gQ D).1.2.getD 0 0≠D.Q6.length then (none,2) else match nX D (gQ D).1 with|none=>(none,2)|some x=>(some (ie (gQ D).1 x.1 x.2 1 false x.2),0):=by unfold mC gQ;by_cases h0:(eB D 0).2≠0;rw[if_pos h0,if_pos h0];exact (if_pos h0).symm;rw[if_neg h0,if_neg h0];by_cases h1:(eB D 1).2≠0;rw[if_pos h1,if_pos h1];exact (if_pos h1).symm;rw[if_neg h1,if_neg h1]<;>rfl
def pgZ:(prog.info? rB).bind (·.zero)=some (.agg (fh none gx dG dG 0 false (gV none none none (zs 24)))):=by kernel_rfl
def qyb{d:Option Addr}{q:Int}{t:List Int}(h:t.length=27)(w:World): (Instr.build rB #[(0,.pointer d),(1,.agg (eT q t).toArray)]).run prog w=.ok (.agg (fh d (q,t) dG dG 0 false (gV none none none (zs 24)))) w:=by
 refine BO (parts:=[(0,.pointer d),(1,.agg (eT q t).toArray)]) (offs:=#[(0,1),(1,28),(29,1),(30,1),(31,1),(32,1),(33,27)]) pgZ oK (fun w=>oK) ?_ w;have u:(Value.agg (eT q t).toArray).cells.size=28:=CU h;rw[rD (o:=0) (s:=1) rfl rfl (zO rfl),rD (o:=1) (s:=28) rfl u (zO rfl)];show some _=_;congr 1;have C:dR (Value.agg (fh none gx dG dG 0 false (gV none none none (zs 24)))).cells 0 (Value.pointer d).cells.toList=fh d gx dG dG 0 false (gV none none none (zs 24)):=rfl;rw[C]
 have:=sL (A:=[Value.pointer d]) (X:=eT 0 (zs 27)) (Y:=eT q t) (Z:=[.slice none 0 0,.slice none 0 0,.i 0,.bool false]++gV none none none (zs 24)) (by rw[pE h];rfl)
 refine Eq.trans ?_ (this.trans ?_);show dR (fh d gx dG dG 0 false (gV none none none (zs 24))) 1 (eT q t)=_;congr 1;simp[fh]
def qos(place:Int)(l:List Int):∀x∈(eY place l).1.2,gC x:=by
 have h:∀x∈gx.2,gC x:=fun x u=>by
  have:=eq_of_mem_replicate (show x∈List.replicate 27 (0:Int) from u)
  subst this;exact⟨oM,oM⟩
 unfold eY;split;exact h;split;exact h;split;exact h;intro x u;obtain⟨i,_,rfl⟩:=mem_map.1 u;exact qkn
def qtw(D:dI):∀x∈(gQ D).1.2,gC x:=by
 have h:∀x∈gx.2,gC x:=fun x u=>by
  have:=eq_of_mem_replicate (show x∈List.replicate 27 (0:Int) from u)
  subst this;exact⟨oM,oM⟩
 unfold gQ;split;exact h;split;exact h;unfold gP;split;exact h;split;exact qos _ _;exact qos _ _
def qr2(h:∀x∈l,gC x)(n:Nat):gC (l.getD n 0):=by
 rw[yR];cases u:l[n]? with
 | none=>exact⟨oM,oM⟩
 | some x=>exact h x (yF u)
def qwa{K:Option Addr×Int->WP}(X:List Nat)(au:∀b∈X,b<w.heap.size)(h:eO w dbk FD D)(hD:D.Ok)(hv:Hv w)(al:(mC D).1=none->∀w',Fr [] w w'->K (none,(mC D).2) w')(hk:∀pb F M w',mC D=(some M,0)->eG w' X pb (pW dbk) F M->Fr [] w w'->(∀b∈F,w.heap.size<=b)->K (pW pb,0) w'): cW 108 [dF dbk] dC w K:=by
 refine qq3<|quN h hD hv fun w1 f1=>?_;have R:=qtv D;have hu:=qr2 (qtw D);have C:=qsp D;generalize hs:gQ D=sm at R hu C;obtain⟨j9,e⟩:=sm;simp only at R hu C;refine oI ((oE [] w).q7 f1) tC fun r w2 e2 ho=>Aa ho 0 rfl rfl R fun w3 ho=>?_;apply dW<;>intro U;have U:e≠0:=(oP U);rw[if_pos U] at C
 have:=al (by rw[C]) w3 ho.fr
 rw[C] at this;exact this;have ax:¬e≠0:=(oP U);rw[if_neg ax] at C;refine uL (ho.at (i:=0) rfl) R<|qm (ts:=[gN.kF]) (fh (pW dbk) (j9.1,j9.2) dG dG 0 false (gV none none none (zs 24))).toList (qyb R w3)<|oB ho fun pb V e4 f4 aj=>?_;have J:=aj.fr;have am:=h.q7 J;have an:∀b∈FD,b<V.heap.size/\b≠pb:=fun b E=>by
  have h1:=h.lt b E
  have:=J.size
  have:=ho.fr.size
  constructor<;>omega
 have ak:∀b∈X,b<V.heap.size/\b≠pb:=fun b E=>by
  have h1:=au b E
  have:=J.size
  have:=ho.fr.size
  constructor<;>omega
 have az:=hD.Q6;have aa:V.heap[pb]?=some (.cells (fh (pW dbk) j9 dG dG 0 false (gV none none none (zs 24))) rB (0,0)):=aj.at (i:=0) rfl;have ah:V.heap[r]?=some (.cells (eT j9.1 j9.2).toArray 185 (0,0)):=aj.at (i:=1) rfl;have ad:w.heap.size<=pb:=(by have:=ho.fr.size;omega);have aA:pb≠HG:=(by have:=hv.lt;omega);refine gW (fun b w'=>(b=true/\(mC D).1=none/\(mC D).2=2/\Fr [] w w')\/(b=false/\∃sl sn G Q9,mC D=(some (ie j9 G Q9 1 false Q9),0)/\dQ [pb] V w' [(pb,.cells (fh (pW dbk) j9 sl sn 0 false (gV none none none (zs 24))) rB (0,0))]/\Rd (X++[pb]) w' sl G/\Rd (X++[pb]) w' sn Q9/\Q9.Pairwise (· < ·)/\Q9.length<=100000)) ?_ ?_;refine iA (w:=V.drew) (c:=.u) ah (j9.2.getD 0 0) (AC 0 oJ)<|EQ (am.q7 (Fr.refl [] V).drew)<|ig (by show _=_;rw[ji (w:=V.drew) ah];exact AC 0 oJ) ?_;rw[lN (D.Q6.length:Int) oJ];apply dW<;>intro U;have U:j9.2.getD 0 0≠(D.Q6.length:Int):=by intro h;rw[h] at U;simp at U
 rw[if_pos U] at C;exact .inl ⟨rfl,by rw[C],by rw[C],J.drew⟩;have U:j9.2.getD 0 0=(D.Q6.length:Int):=by by_cases h:j9.2.getD 0 0=(D.Q6.length:Int);exact h;rw[show ((j9.2.getD 0 0==(D.Q6.length:Int))=false) by rw[zR];exact h] at U;cases U
 rw[if_neg (by rw[U];simp)] at C;have ae:Fr [] V V.drew:=(Fr.refl [] V).drew;refine qxS (pb:=pb) (D:=D) (j9:=j9) (FD:=FD) (w:=V.drew) aa R (ww (by rfl)) (am.q7 ae) hD ((hv.q7 J).q7 ae) (fun E=>(an pb E).2 rfl) aA oJ (hu 1) (hu 2) (fun hl w5 f5=>?_) (fun sl sn G Q9 w5 hl I ao=>?_);rw[hl] at C;refine .inl ⟨rfl,by rw[C],by rw[C],(J.trans ae).j8 f5 fun b E=>by simp at E;subst E;exact .inr ad⟩;rw[hl] at C;have ab:ky (j9.2.getD 0 0) G 0 Q9=true:=by unfold nX at hl;split at hl;cases hl;rename_i x hx;split at hl;rename_i hh;cases hl;exact hh.1;cases hl
 have ab:=(DR _ _ _ _).1 ab;have ac:Q9.length<=100000:=by
  have:=Ci (n:=j9.2.getD 0 0+1) (l:=Q9.map (·+1)) (by
   rw[List.Nodup,pairwise_map];exact ab.2.imp (fun h=>oJ)) (fun x hx=>by
   obtain⟨y,hy,rfl⟩:=mem_map.1 hx
   have:=ab.1 y hy
   omega)
  rcases this with h|h;rw[zK] at h;omega
  have:=congrArg List.length h;simp at this;simp[this]
 have ai:∀b∈X++[pb],b<V.drew.heap.size:=fun b E=>by rcases zD.1 E with E|E;exact (ak b E).1;rw[zE.1 E];exact eZ aa
 refine .inr ⟨rfl,sl,sn,G,Q9,C,⟨I.eH,I.nodup,(ae.mono (fun b E=>by cases E)).trans I.fr,I.own⟩,(ao _ ai).1,(ao _ ai).2,ab.2,ac⟩;rintro b w5 (⟨rfl,h1,h2,f5⟩|⟨rfl,sl,sn,G,Q9,aC,I,r1,r2,hp,ac⟩);refine cond_true rfl ?_
 have:=al h1 w5 f5
 rw[h2] at this;exact this;refine cond_false rfl ?_;have hX:∀b∈X,b<w5.heap.size/\b≠pb:=fun b E=>⟨yD (ak b E).1 I.fr.size,(ak b E).2⟩;refine Gb (X:=X) (I.at (i:=0) rfl) R (ww (by rfl)) oM hX r1 r2 ac fun F w6 ap f6 n6=>?_;rw[qp6 hp] at ap;refine hk pb F _ w6 aC ap ((J.j8 I.fr fun b E=>by simp at E;subst E;exact .inr ad).j8 f6 fun b E=>by simp at E;subst E;exact .inr ad) fun b E=>?_;rcases n6 b E with h|h;rw[h];exact ad;exact zL (zL J.size I.fr.size) h
structure lF (D:dI) (k:Nat):Prop where
 ok:D.Ok
 Q7:D.Q7.length<=k
 writes:D.writes<=k
def qtO(h:D.Ok):(gS D).1.Ok/\(gS D).1.writes=D.writes:=by have u:=h.y5;unfold gS;split;exact⟨⟨h.at_,u,h.Q6,h.Q7,h.writes,h.nH,h.nD⟩,rfl⟩;split;exact⟨⟨h.at_,⟨by show -1<=D.y5-1;omega,by show D.y5-1<=_;omega⟩,h.Q6,h.Q7,h.writes,h.nH,h.nD⟩,rfl⟩;exact⟨h,rfl⟩
def lF.mono{u:Nat}(h:lF D k)(C:k<=u):lF D u:=⟨h.ok,zL h.Q7 C,by have:=h.writes;omega⟩
def lF.write(h:lF D k)(R:k<1000000)(E:eF l):lF (eu D n l).1 (k+1):=by
 unfold eu;split;exact h.mono oJ;split;exact h.mono oJ;split;rename_i U V C;have G:(lz D n ⟨l,C⟩).Ok:={
  at_:=fun x u=>by rcases zD.1 u with u|u;exact h.ok.at_ x u;simp at u;subst u;show 0<=n/\n<(D.Q6.length:Int);omega
  y5:=h.ok.y5
  Q6:=h.ok.Q6
  Q7:=by show (D.Q7++[_]).length<=_;have:=h.Q7;simp;omega
  writes:=⟨by show 0<=D.writes+1;have:=h.ok.writes;omega,by show D.writes+1<=_;have:=h.writes;omega⟩
  nH:=h.ok.nH
  nD:=fun x u=>by rcases zD.1 u with u|u;exact h.ok.nD x u;simp at u;subst u;exact E }
 obtain⟨I,J⟩:=qtO G;refine⟨I,?_,?_⟩;show (gS (lz D n ⟨l,C⟩)).1.Q7.length<=k+1;rw[(xk _).2];show (D.Q7++[_]).length<=_
 have:=h.Q7
 simp;omega;show (gS (lz D n ⟨l,C⟩)).1.writes<=((k+1:Nat):Int);rw[J];show D.writes+1<=_
 have:=h.writes
 omega;exact h.mono oJ
def qui:∀(l:List (Int×lM)) (s:List lM),(∀x∈l,eF x.2.1)->(∀b∈s,eF b.1)->∀b∈l.foldl fX s,eF b.1
 | [],s,_,h=>h
 | x::l,s,C,h=>qui l (fX s x) (fun y E=>C y (zN _ E)) fun b u=>by rcases mem_or_eq_of_mem_set u with u|rfl;exact h b u;exact C x oL
def lF.sync(h:lF D k):lF (fU D).1 k:=by obtain⟨u,E⟩:=qtO h.ok;unfold fU;split;exact h;split;exact⟨u,by show (gS D).1.Q7.length<=k;rw[(xk D).2];exact h.Q7,by show (gS D).1.writes<=_;rw[E];exact h.writes⟩;refine⟨⟨(fun x C=>by cases C),u.y5,?_,oL,u.writes,?_,(fun x C=>by cases C)⟩,oL,by show (gS D).1.writes<=_;rw[E];exact h.writes⟩;show (D.Q7.foldl fX D.Q6).length<=4096;rw[BE];exact h.ok.Q6;exact qui _ _ h.ok.nD h.ok.nH
def lF.then{u:Nat}(h:lF r.1 k)(C:k<=u)(E:∀D,lF D k->lF (f D).1 u):lF (andThen r f).1 u:=by unfold andThen;split;exact E _ h;exact h.mono C
def lF.rX:∀ {l:List (Int×List Int)} {D:dI} {k:Nat},lF D k->k+l.length<=1000000->(∀x∈l,eF x.2)->lF (fy l D).1 (k+l.length)
 | [],D,k,h,_,_=>h
 | x::l,D,k,h,C,u=>by
  rw[yI] at C⊢;refine lF.then (k:=k+1) (h.write oJ (u x oL)) oJ fun D' E=>?_
  have:=lF.rX (l:=l) E oJ (fun y G=>u y (zN _ G))
  rw[Nat.add_right_comm] at this;exact this
def Fz:(eu D n l).1.Q6.length=D.Q6.length:=by unfold eu;split;rfl;split;rfl;split;show (gS _).1.Q6.length=_;rw[(xk _).1];rfl;rfl
def qqJ:(fU D).1.Q6.length=D.Q6.length:=by unfold fU;split;rfl;split;show (gS _).1.Q6.length=_;rw[(xk _).1];show (D.Q7.foldl fX D.Q6).length=_;rw[BE]
def qqK{n:Nat}(h:r.1.Q6.length=n)(u:∀D:dI,D.Q6.length=n->(f D).1.Q6.length=n):(andThen r f).1.Q6.length=n:=by unfold andThen;split;exact u _ h;exact h
def qmv:∀ {l:List (Int×List Int)} {D:dI},(fy l D).1.Q6.length=D.Q6.length
 | [],D=>rfl
 | x::l,D=>qqK Fz fun D' h=>by rw[qmv,h]
def qtE{a b:List Int}:(fj D a b).1.Q6.length=D.Q6.length:=by unfold fj;split;rfl;exact qqK qmv fun D' h=>by rw[qqJ,h]
def qtG:∀x∈(y4.zip (gj numbers y4).1).map fun x=>(x.1,eE x.1 2 x.2),eF x.2:=by intro x u;obtain⟨y,h,rfl⟩:=mem_map.1 u;refine Ch oM ?_;have h:=(of_mem_zip h).2;unfold gj at h;split at h;cases h;split at h;cases h;obtain⟨i,_,C⟩:=mem_map.1 h;rw[<- C];exact qpK _ _
def qoO{α β:Type}(a:List α)(b:List β):(a.zip b).length<=a.length:=by rw[length_zip];exact Nat.min_le_left _ _
def lF.spread(h:lF D k)(E:k+y4.length<=1000000):lF (fj D numbers y4).1 (k+y4.length):=by
 unfold fj;split;exact h.mono oJ;have u:=qoO y4 (gj numbers y4).1;refine lF.then (k:=k+y4.length) ?_ (zM _) fun D' C=>C.sync
 refine (lF.rX h (by rw[zK];omega) qtG).mono ?_;rw[zK];omega
def qvZ(s:nC):eF (gB s).2:=Ch oM (qvY _ _)
def qrd{numbers y4:List Int}{i:Nat}{bs:List (List Int)}(h:i<y4.length)(u:i<bs.length):(y4.zip bs).drop i=(y4[i],bs[i])::(y4.zip bs).drop (i+1):=by rw[zY (by rw[length_zip];omega)];simp
def quO{sp:Sl}(h:eO w dbk FD D)(hD:lF D k)(aR:k+y4.length<=1000000)(hv:Hv w)(hg:HG∉FD)(hn:Rd FD w sn numbers)(hp:Rd FD w sp y4)(aw:numbers.length<=100000)(ax:y4.length<=100000)(ay:∀x∈y4,gC x)(hk:∀F' w',eO w' dbk F' (fj D numbers y4).1->Fr FD w w'->(∀b∈F',b∈FD\/w.heap.size<=b)->K (fj D numbers y4).2 w'): cW 142 [dF dbk,sn.v,sp.v] di w K:=by
 refine qol<|quC (G:=FD) hn hp aw ax h.lt fun s1 B1 w1 b1 f1 n1=>?_;apply dW<;>intro C;have C:(gj numbers y4).2≠0:=by simpa using C
 have:=hk FD w1 (by rw[fj,if_pos C];exact h.q7 f1) (f1.mono fun b u=>by cases u) (fun b u=>.inl u)
 rw[fj,if_pos C] at this;exact this;have E:¬(gj numbers y4).2≠0:=(oP C);rw[fj,if_neg E] at hk;have R:(gj numbers y4).1.length=y4.length/\∀b∈(gj numbers y4).1,b.length<=500/\eF b:=by
  unfold gj at E⊢;split;rename_i h1;rw[if_pos h1] at E;exact absurd oM E;rename_i h1;rw[if_neg h1] at E;split;rename_i h1;rw[if_pos h1] at E;exact absurd oM E;refine⟨DK _ _ _,fun b u=>?_⟩;obtain⟨i,_,rfl⟩:=mem_map.1 u;rw[Co]
  have:=FH numbers i
  unfold chunk at this;exact⟨oJ,qpK _ _⟩
 generalize (gj numbers y4).1=bs at hk R b1;obtain⟨J,q1,q2,q3⟩:=b1;have aY:=q1.len;have aN:=R.1;have aZ:=hp.1;refine iU (fun x w'=>∃(i j:Nat) (F':List Nat) (D':dI),x=i/\i<=y4.length/\eO w' dbk F' D'/\lF D' (k+i)/\Fr FD w w'/\Fr FD w1 w'/\(∀b∈F',b∈FD\/w1.heap.size<=b)/\
   andThen (fy ((y4.zip bs).map fun x=>(x.1,eE x.1 2 x.2)) D) fU=andThen (fy (((y4.zip bs).drop i).map fun x=>(x.1,eE x.1 2 x.2)) D') fU) (fun x _=>((y4.length:Int)-x).toNat)
  ⟨0,0,FD,D,rfl,oJ,h.q7 f1,hD,f1.mono (fun b u=>by cases u),.refl _ _,fun b u=>.inl u,rfl⟩ ?_
 rintro x w2 ⟨i,j,F',D',rfl,hi,ai,ad,f2,U,n2,he⟩ X hX;have az:=hv.q8 f2 hg;have a1:=f1.size;apply dW<;>intro C;have V:i<y4.length:=(by have:=zC C;dsimp only at this;omega);have aa:i<bs.length:=oJ;have ak:i<J.length:=oJ;have aA:dZ tr 1 FD w1 s1 J:=q1.jo qrP (fun b u hm=>by have:=h.lt b hm;have:=n1 b u;omega);have al:dZ tr 1 FD w2 s1 J:=aA.q8 U (fun b u=>.inl u);have am:Rd FD w2 sp y4:=hp.q8 f2 (fun b u=>.inl u);refine dZ.get (y:=J[i]) al i rfl (zA ak) rfl<|Rd.at am i rfl (zA V) ?_;have an:eh FD w1 J[i] bs[i]:=(q3 i _ _ (zA ak) (zA aa)).j6 fun b u=>.inl (zH _ u);have ae:eh FD w2 J[i] bs[i]:=an.q8 U (fun b u=>.inl u);have aB:=(R.2 _ (zX aa)).1;have a3:=ay _ (zX V);refine E4 ae az oJ (fun h=>oJ) fun _ b3 T3 w3 c3 f3 n3=>Rd.at (am.q7 f3) i rfl (zA V) ?_;rw[gg y4[i] oJ];have ab:=wy (number:=y4[i]) (kind:=2) aB;refine qpF (S:=[]) (ai.q7 f3) ad.ok (vo (o:=0) (n:=512) c3 (by rw[ab];exact zM _) (zM _) oL) fun F4 w4 d4 f4 n4=>?_;rw[xF,zS (by rw[ab];exact zM _)] at d4⊢;have I:∀b∈F',b∈FD\/w.heap.size<=b:=fun b u=>by rcases n2 b u with h|h;exact .inl h;exact .inr oJ
 have a6:w2.heap.size<=w3.heap.size:=f3.size;have a7:=U.size;have ao:Fr FD w w4:=(f2.j8 f3 oL).j8 f4 I;have aG:Fr FD w1 w4:=(U.j8 f3 oL).j8 f4 n2;have ap:∀b∈F4,b∈FD\/w1.heap.size<=b:=fun b u=>by rcases n4 b u with h|h;exact n2 b h;exact .inr oJ
 rw[qrd V aa (numbers:=numbers),xO,fy] at he;apply dW<;>intro C;have C:(eu D' y4[i] (eE y4[i] 2 bs[i])).2≠0:=(oP C);have aH:andThen (fy ((y4.zip bs).map fun x=>(x.1,eE x.1 2 x.2)) D) fU=eu D' y4[i] (eE y4[i] 2 bs[i]):=by rw[he];show andThen (andThen (eu D' y4[i] (eE y4[i] 2 bs[i])) _) fU=_;rw[show ∀f,andThen (eu D' y4[i] (eE y4[i] 2 bs[i])) f=eu D' y4[i] (eE y4[i] 2 bs[i]) from fun f=>if_neg C];exact if_neg C
 rw[aH] at hk;exact hk F4 w4 d4 ao (fun b u=>by rcases ap b u with h|h;exact .inl h;exact .inr oJ);have C:(eu D' y4[i] (eE y4[i] 2 bs[i])).2=0:=(oP C);rw[gg _ oJ];refine hX _ _ ⟨i+1,0,F4,(eu D' y4[i] (eE y4[i] 2 bs[i])).1,oL,oJ,d4,?_,ao,aG,ap,?_⟩ oJ
 have:=ad.write (n:=y4[i]) (l:=eE y4[i] 2 bs[i]) oJ (Ch oM (R.2 _ (zX aa)).2)
 rw[Nat.add_assoc] at this;exact this;rw[he];show andThen (andThen (eu D' y4[i] (eE y4[i] 2 bs[i])) _) fU=_;rw[show ∀f,andThen (eu D' y4[i] (eE y4[i] 2 bs[i])) f=f (eu D' y4[i] (eE y4[i] 2 bs[i])).1 from fun f=>if_pos C];have:i=y4.length:=(by have:=zB C;dsimp only at this;omega);subst this;have aI:(y4.zip bs).drop y4.length=[]:=vE (qoO _ _);rw[aI] at he;have aJ:andThen (fy ((y4.zip bs).map fun x=>(x.1,eE x.1 2 x.2)) D) fU=fU D':=he;rw[aJ] at hk;refine qrl ai ad.ok fun F3 w3 d3 f3 n3=>?_;have I:∀b∈F',b∈FD\/w.heap.size<=b:=fun b u=>by rcases n2 b u with h|h;exact .inl h;exact .inr oJ
 exact hk F3 w3 d3 (f2.j8 f3 I) fun b u=>I b (n3 b u)
section
structure DS (dbk:Nat) (w:World) (FD:List Nat) (w':World) (F':List Nat) (D':dI) (k:Nat):Prop where
 at_:eO w' dbk F' D'
 lim:lF D' k
 fr:Fr FD w w'
 nw:∀ b∈F',b∈FD\/w.heap.size<=b
variable {dbk:Nat}
def DS.refl{w:World}{FD:List Nat}{D:dI}{k:Nat}(h:eO w dbk FD D)(u:lF D k):DS dbk w FD w FD D k:=⟨h,u,.refl _ _,fun b C=>.inl C⟩
def DS.trans{w2:World}{F2:List Nat}{E C:dI}{G k2:Nat}(h:DS dbk w FD w1 F1 E G)(g:DS dbk w1 F1 w2 F2 C k2):DS dbk w FD w2 F2 C k2:=
 ⟨g.at_,g.lim,h.fr.j8 g.fr h.nw,fun b I=>by rcases g.nw b I with u|u;exact h.nw b u;exact .inr (zL h.fr.size u)⟩
def DS.q7{w w1 w2:World}{FD F1:List Nat}{u:dI}{C:Nat}(h:DS dbk w FD w1 F1 u C)(f:Fr [] w1 w2):DS dbk w FD w2 F1 u C:=
 ⟨h.at_.q7 f,h.lim,h.fr.j8 f oL,h.nw⟩
def DS.hv{G:dI}{I:Nat}(h:DS dbk w FD w1 F1 G I)(u:Hv w)(C:HG∉FD):Hv w1/\HG∉F1:=
 ⟨u.q8 h.fr C,fun J=>by
  rcases h.nw _ J with E|E;exact C E
  have:=u.lt;omega⟩
def DS.rd{u:dI}{C:Nat}{s:Sl}(h:DS dbk w FD w1 F1 u C)(E:Rd FD w s l):Rd F1 w1 s l:=E.q8 h.fr h.nw
def DS.qc{u:dI}{C k2:Nat}(h:DS dbk w FD w1 F1 u C)(E:C<=k2):DS dbk w FD w1 F1 u k2:=⟨h.at_,h.lim.mono E,h.fr,h.nw⟩
def Cl{s:Sl}(h:DS dbk w FD w1 F1 D k)(E:k<1000000)(G:eh S w1 s l)(I:eF l)(J:∀w2 F2,DS dbk w FD w2 F2 (eu D n l).1 (k+1)->Fr F1 w1 w2->(∀b∈F2,b∈F1\/w1.heap.size<=b)->K (eu D n l).2 w2): cW 138 [dF dbk,.i n,s.v] di w1 K:=by exact qpF h.at_ h.lim.ok G fun F2 w2 R u C=>J w2 F2 (h.trans ⟨R,h.lim.write E I,u,C⟩) u C
def qrk(h:DS dbk w FD w1 F1 D k)(G:∀w2 F2,DS dbk w FD w2 F2 (fU D).1 k->Fr F1 w1 w2->(∀b∈F2,b∈F1\/w1.heap.size<=b)->K (fU D).2 w2): cW 139 [dF dbk] di w1 K:=by exact qrl h.at_ h.lim.ok fun F2 w2 I C E=>G w2 F2 (h.trans ⟨I,h.lim.sync,C,fun b u=>.inl (E b u)⟩) C (fun b u=>.inl (E b u))
def qrq(h:DS dbk w FD w1 F1 D k)(hk:k<1000000)(hv:Hv w1)(U:s.2.length=27)(hq:0<=s.1)(I:∀w2 F2,DS dbk w FD w2 F2 (jy D s).1 (k+1)->Fr F1 w1 w2->(∀b∈F2,b∈F1\/w1.heap.size<=b)->K (jy D s).2 w2): cW 143 [dF dbk,.agg (eT s.1 s.2).toArray] di w1 K:=by
 refine qq4<|oB (oE [] w1) fun r w2 e2 f2 J=>?_;have c0:(eT s.1 s.2).toArray[0]?=some (.int .u64 s.1):=rfl;refine oA J.drew 0 rfl s.1 c0<|uL (J.drew.at (i:=0) rfl) U<|qwi (hv.q7 J.drew.fr) U fun b T w3 c3 f3 n3=>?_;have u:=J.drew.q7 f3;refine ig (u.cell 0 rfl c0) ?_;have ht:=Int.tmod_eq_emod_of_nonneg (b:=2) hq;rw[gg (Int.tmod s.1 2) oJ];have C:(eE (wrap .u32 (Int.tmod s.1 2)) 1 (gq s.1 s.2)).length=512:=wy (by rw[xv U];decide);have V:eh [] w3 ⟨pW b,512,512⟩ (gB s).2:=by
  have:=vo (S:=[]) (o:=0) (n:=512) (cap:=512) c3 (by rw[C];exact zM _) (zM _) oL
  rw[xF,zS (Nat.le_of_eq C)] at this;exact this
 show cW 138 [dF dbk,.i (gB s).1,_] _ _ _;refine Cl (h.q7 u.fr) hk V (qvZ s) fun w4 F4 R f4 n4=>?_;have an:=u.fr.size;apply dW<;>intro E;have E:(eu D (gB s).1 (gB s).2).2≠0:=(oP E);have e:jy D s=eu D (gB s).1 (gB s).2:=if_neg E;rw[e] at I;exact I w4 F4 R ((u.fr.mono fun b G=>by cases G).trans f4) fun b G=>by rcases n4 b G with h|h;exact .inl h;exact .inr oJ
 have E:(eu D (gB s).1 (gB s).2).2=0:=(oP E);have e:jy D s=fU (eu D (gB s).1 (gB s).2).1:=if_pos E;rw[e] at I;refine qrk R fun w5 F5 d5 f5 n5=>?_;have g4:DS dbk w1 F1 w4 F4 (eu D (gB s).1 (gB s).2).1 (k+1):=⟨R.at_,R.lim,(u.fr.mono (T:=F1) fun b G=>by cases G).trans f4,fun b G=>by rcases n4 b G with h|h;exact .inl h;exact .inr oJ⟩;have g5:=g4.trans ⟨d5.at_,d5.lim,f5,n5⟩;exact I w5 F5 d5 g5.fr g5.nw
def qnt{I:Sl}(h:DS dbk w FD w1 F1 D k)(u:k+y4.length<=1000000)(U:Hv w1)(V:HG∉F1)(hn:Rd F1 w1 sn numbers)(hp:Rd F1 w1 I y4)(C:numbers.length<=100000)(E:y4.length<=100000)(G:∀x∈y4,gC x)(kk:∀w2 F2,DS dbk w FD w2 F2 (fj D numbers y4).1 (k+y4.length)->Fr F1 w1 w2->(∀b∈F2,b∈F1\/w1.heap.size<=b)->K (fj D numbers y4).2 w2): cW 142 [dF dbk,sn.v,I.v] di w1 K:=by exact quO h.at_ h.lim u U V hn hp C E G fun F2 w2 d2 J R=>kk w2 F2 (h.trans ⟨d2,h.lim.spread u,J,R⟩) J R
def qjp(a:dI×Int)(f g:dI->dI×Int):andThen (andThen a f) g=andThen a fun D=>andThen (f D) g:=by unfold andThen;by_cases h:a.2=0;rw[if_pos h,if_pos h];rw[if_neg h,if_neg h,if_neg h]
def yp(h:a.2≠0):andThen a f=a:=if_neg h
def yg(h:a.2=0):andThen a f=f a.1:=if_pos h
def qu7{a b c:Int}(w:World):(Instr.build 185 #[(0,.int .u64 1),(1,.u a),(2,.u b),(3,.u c)]).run prog w=.ok (.agg (eT 1 ([a,b,c]++zs 24)).toArray) w:=by obtain⟨z,E,h⟩:=yT.1 tC;have C:z.cells=(eT 0 (zs 27)).toArray:=(by rw[<- h]);refine BO (parts:=[(0,.int .u64 1),(1,.u a),(2,.u b),(3,.u c)]) (offs:=#[(0,1),(1,1),(2,1),(3,1),(4,24)]) E oK (fun w=>oK) ?_ w;rw[C,rD (o:=0) (s:=1) rfl rfl (zO rfl),rD (o:=1) (s:=1) rfl rfl (zO rfl),rD (o:=2) (s:=1) rfl rfl (zO rfl),rD (o:=3) (s:=1) rfl rfl (zO rfl)];rfl
def quM(h:eO w dbk FD D)(hl:lF D k)(hk:k<=900000)(h8:2<=D.Q6.length)(hv:Hv w)(hg:HG∉FD)(C:∀w' F',DS dbk w FD w' F' (ls D).1 (k+5000)->K (ls D).2 w'): cW 107 [dF dbk] di w K:=by
 refine qoj ?_;have am:=hl.ok.Q6;have h0:=DS.refl h hl;have G:(zs 512).length=512:=oZ _;have U:∀ {S0:List Nat} {w0 w':World} {L:List (Nat×Obj)} {b:Nat} {T:TypeId},dQ S0 w0 w' ((b,.cells (List.replicate (512:Int).toNat (Value.int .u8 0)).toArray T (0,0))::L)->eh [] w' ⟨pW b,(512:Int).toNat,(512:Int).toNat⟩ (zs 512):=fun ho=>by
  have E:=ho.at (i:=0) rfl;rw[qs3] at E
  have:=vo (S:=[]) (o:=0) (n:=512) (cap:=512) E (by rw[show (512:Int).toNat=512 from rfl,G];exact zM _) (zM _) oL
  rw[xF,zS (by rw[show (512:Int).toNat=512 from rfl,G];exact zM _)] at this;exact this
 refine Al fun X hX=>cond_true rfl<|dQ.Gf (oE [] w) oM oM oM oM fun b1 w1 e1 V=>Cl (h0.q7 V.fr) oJ (U V) (eF.zs 512) fun w2 F2 d2 f2 n2=>?_;apply dW<;>intro u;have u:(eu D 0 (zs 512)).2≠0:=(oP u);have e:ls D=eu D 0 (zs 512):=yp u;rw[e] at C;exact C w2 F2 (d2.qc oJ);have ao:(eu D 0 (zs 512)).2=0:=(oP u);rw[ls,yg ao] at C;have ap:=Fz (D:=D) (n:=0) (l:=zs 512);generalize (eu D 0 (zs 512)).1=D2 at d2 C ap;rw[gg (0+1) oM];refine hX _ _ (qqi 1 rfl fun X hX=>?_);refine cond_true rfl<|dQ.Gf (oE [] w2) oM oM oM oM fun b3 w3 e3 aa=>Cl (d2.q7 aa.fr) oJ (U aa) (eF.zs 512) fun w4 F4 d4 f4 n4=>?_;apply dW<;>intro u;have u:(eu D2 1 (zs 512)).2≠0:=(oP u);rw[yp u] at C;exact C w4 F4 (d4.qc oJ);have ar:(eu D2 1 (zs 512)).2=0:=(oP u);rw[yg ar] at C;have au:=Fz (D:=D2) (n:=1) (l:=zs 512);generalize (eu D2 1 (zs 512)).1=D4 at d4 C au;rw[gg (1+1) oM];refine hX _ _ (qqi 2 rfl fun X hX=>?_);refine cond_false rfl<|qrk d4 fun w5 F5 d5 f5 n5=>?_;apply dW<;>intro u;have u:(fU D4).2≠0:=(oP u);rw[yp u] at C;exact C w5 F5 (d5.qc oJ);have ax:(fU D4).2=0:=(oP u);rw[yg ax] at C;have ay:=qqJ (D:=D4);generalize (fU D4).1=D5 at d5 C ay;have az:D5.Q6.length=D.Q6.length:=oJ;have al:=Ak D.Q6.length;obtain⟨aA,aB⟩:=d5.hv hv hg;refine iU (fun x w'=>∃(i:Nat) (B:List Nat),x.2=((i+2:Nat):Int)/\i<=D.Q6.length-2/\lc w' x.1 ((fu D.Q6.length).take i) B/\Fr [] w5 w'/\∀b∈B,w5.heap.size<=b) (fun x _=>((D.Q6.length:Int)-x.2).toNat)
  ⟨0,[],rfl,oJ,.nil _ _ _,.refl _ _,oL⟩ ?_
 rintro⟨s,x⟩ w6 ⟨i,B,hx,hi,E,f6,n6⟩ Y hY;simp only at hx E;subst hx;have d6:=d5.q7 f6;refine EQ d6.at_ ?_;dsimp only;apply dW<;>intro u;have aD:i<D.Q6.length-2:=(by have:=zC u;omega);rw[lN ((i+2:Nat):Int) oJ];refine EI E (by rw[yL];omega) fun s7 B7 w7 b7 f7 n7=>?_;rw[gg _ oJ];refine hY _ _ ⟨i+1,B7,by simp;omega,oJ,?_,f6.j8 f7 (fun b E=>.inr (n6 b E)),fun b E=>?_⟩ oN;have e:(fu D.Q6.length).take (i+1)=(fu D.Q6.length).take i++[((i+2:Nat):Int)]:=by rw[yG oJ];congr 2;have h1:=qtP aD;have h2:=zA (l:=fu D.Q6.length) (i:=i) oJ;rw[h2] at h1;rw[yO h1];simp
 rw[e];exact b7;rcases n7 b E with h|h;exact n6 b h;exact zL f6.size h;have aE:i=D.Q6.length-2:=(by have:=zB u;omega);subst aE;rw[zS oJ] at E;have aF:=E.len;rw[aF];refine qrm oJ ?_;have ad:=EY (n:=(fu D.Q6.length).length);have ae:∀b∈B,b∉F5:=fun b E hm=>by have:=n6 b E;have:=d5.at_.lt b hm;omega
 have I:Rd F5 w6.drew s (fu D.Q6.length):=(E.q7 (Fr.refl [] w6).drew).jo qS ae;refine dZ.part (k:=1) I (eI (fu D.Q6.length).length) (fu D.Q6.length).length rfl (by show (s.len:Int)=_;omega) ad (zM _) fun sn a4 rn _=>dZ.part (k:=1) I 0 (eI (fu D.Q6.length).length) rfl rfl oJ ad fun sp a5 rp _=>?_;rw[xZ] at rn;rw[xF] at rp;have aG:=d6.q7 (Fr.refl [] w6).drew;have aH:=(aA.q7 f6).q7 (Fr.refl [] w6).drew;rw[az] at C;refine qnt aG (by rw[yL];omega) aH aB rn rp (by rw[yC];omega) (by rw[yL];omega) (fun x hx=>by
  have:=Ab.1 (yV hx)
  constructor<;>omega) fun w7 F7 J f7 n7=>?_
 have J:=J.qc (k2:=k+2+4096) (by rw[yL];omega);apply dW<;>intro u;have u:(fj D5 ((fu D.Q6.length).drop (eI (fu D.Q6.length).length)) ((fu D.Q6.length).take (eI (fu D.Q6.length).length))).2≠0:=(oP u);rw[yp u] at C;exact C w7 F7 (J.qc oJ);have aI:(fj D5 ((fu D.Q6.length).drop (eI (fu D.Q6.length).length)) ((fu D.Q6.length).take (eI (fu D.Q6.length).length))).2=0:=(oP u);rw[yg aI] at C;have aJ:=qtE (D:=D5) (a:=(fu D.Q6.length).drop (eI (fu D.Q6.length).length)) (b:=(fu D.Q6.length).take (eI (fu D.Q6.length).length));generalize (fj D5 ((fu D.Q6.length).drop (eI (fu D.Q6.length).length)) ((fu D.Q6.length).take (eI (fu D.Q6.length).length))).1=D7 at J C aJ;have aK:D7.Q6.length=D.Q6.length:=oJ;refine EQ J.at_ ?_;rw[aK] at C⊢;have R:wrap .i64 (((fu D.Q6.length).length:Int)-(eI (fu D.Q6.length).length:Int))=((fu D.Q6.length).length:Int)-(eI (fu D.Q6.length).length:Int):=gg _ oJ;rw[R];exact qm (ts:=[gN.kF]) (eT (kB D.Q6.length).1 (kB D.Q6.length).2) (qu7 w7)<|qrq (s:=kB D.Q6.length) J oJ (J.hv hv hg).1 rfl (by show (0:Int)<=1;decide) fun w8 F8 d8 f8 n8=>C w8 F8 (d8.qc oJ)
end
section
structure dY.Wf (M:dY):Prop where
 n4:M.j9.2.getD 0 0<=4096
 u32:∀ x∈M.j9.2,gC x
 Q2:∀ x∈M.Q2,gC x
 cL:M.Q9.Pairwise (· < ·)
 Q9:∀ x∈M.Q9,2<=x/\x<M.j9.2.getD 0 0
 cS:M.Q1.Pairwise (· < ·)
 qu:M.J7.Pairwise (· < ·)
 nodup:(M.Q1++(M.J7++(M.Q5++M.J8.map (·.1)))).Nodup
 range:∀ x∈M.Q1++(M.J7++(M.Q5++M.J8.map (·.1))),2<=x/\x<M.j9.2.getD 0 0
 body:∀ e∈M.J8,(0<=e.2.1/\e.2.1<256)/\e.2.2.length<=500/\eF e.2.2
def qBb(u:l.Nodup)(h:∀x∈l,2<=x/\x<n)(C:n<=4096):l.length<=4096:=by rcases Ci u h with h|h;omega;rw[h];simp
def dY.Wf.all(M:dY)(h:M.Wf):M.Q1.length+M.J7.length+M.Q5.length+M.J8.length<=4096:=by
 have:=qBb h.nodup h.range h.n4
 simp only[zF,zK] at this;omega
section
variable {w:World} {X:List Nat} {pb:Nat} {db:Option Addr} {F:List Nat} {M:dY}
def dZ.tK{α:Type}{enc:α->List Value}{w:World}{s:Sl}{l:List α}(h:dZ enc k S w s l){hi:Int}(b:Nat){K:Sl->Prop}(C:hi=b)(hb:b<=l.length)(J:∀I,dZ enc k S w I (l.take b)->K I):fD s none (some hi) (some hi) k K:=by
 subst C;obtain⟨h1,h2,E⟩:=h;unfold fD;refine⟨by simp;omega,J _ ?_⟩;simp only[xW,xV,Int.toNat_zero,zJ,Nat.zero_mul,Nat.sub_zero];have e:(if b=0 then s.a else s.a.map (·.add 0))=s.a:=by
  split;rfl;cases s.a with
  | none=>rfl
  | some a=>simp[FF]
 rw[e];refine⟨by rw[yL];dsimp only;omega,zM _,?_⟩;rcases E with E|⟨R,o,U,T,V,ha,G,hS,hc⟩;left;rw[E];simp;refine .inr ⟨R,o,U,T,V,ha,G,hS,fun i x u=>?_⟩;rw[xB] at u;split at u;exact hc i x u;cases u
def eG.og{w:World}{X:List Nat}{pb:Nat}{db:Option Addr}{F:List Nat}{M:dY}(h:eG w X pb db F M):∀b∈X,b<w.heap.size:=by obtain⟨fb,defb,mb,sl,sn,C,F2,E,rfl,u⟩:=h;exact u.og
def qxU{K:Sl×Sl×Bool->WP}(h:eG w X pb db F M)(hW:M.Wf)(ao:js M=none->∀w',Fr [] w w'->K (dG,dG,false) w')(hk:∀sp sn y4 Q9 w',js M=some (y4,Q9)->Fr [] w w'->(∀G:List Nat,(∀b∈G,b<w.heap.size)->Rd G w' sp y4/\Rd G w' sn Q9)->K (sp,sn,true) w'): cW 113 [dF pb] dD w K:=by
 have aD:=dY.Wf.all M hW;obtain⟨fb,defb,mb,sl,sn,F1,F2,fs,rfl,E⟩:=h;refine qjW<|fv (iA E.cell (pW fb) (yw E.Q8) ?_);refine qtL E.Q1 oJ fun I w1 t1 f1=>?_;obtain⟨B1,b1,n1⟩:=qsV t1;have ae:Fr [] w w1.drew:=f1.drew;have J:=E.q7 ae;refine fv (iA (w:=w1.drew) (c:=.ptr) J.cell (pW defb) (DC E.Q8) ?_);refine fv (iA (w:=w1.drew) (c:=.slice) J.cell sl (FR E.Q8) ?_);refine qtL J.J7 oJ fun s2 w2 t2 f2=>?_;obtain⟨B2,b2,n2⟩:=qsV t2;have af:=ae.trans f2;have ag:=E.q7 af;refine ig (by show _=_;rw[ji ag.cell];exact FR E.Q8)<|BV b2 ag.rows.Q5 oJ fun s3 B3 w3 b3 f3 n3=>?_;have R:∀b∈B1,b<w1.drew.heap.size:=fun b u=>(b1.q7 (Fr.refl [] w1).drew).lt b u;have au:=(b1.q7 (Fr.refl [] w1).drew).q7 f2;have U:lc w3 I M.Q1 B1:=au.q8 f3 (fun b u C=>by have:=R b u;have:=n2 b C;omega);have aV:w.heap.size<=w1.heap.size:=f1.size;have aW:=f2.size;have aX:w1.drew.heap.size=w1.heap.size:=rfl;have V:∀b∈B3,w1.drew.heap.size<=b:=fun b u=>by rcases n3 b u with h|h;exact n2 b h;omega
 have ah:Fr [] w w3:=af.j8 f3 fun b u=>.inr (by have:=n2 b u;omega);have l1:=U.len;have l3:=b3.len;rw[zF] at l3;rw[gg _ oJ];have e:(I.len:Int)+(s3.len:Int)=((M.Q1.length+(M.J7++M.Q5).length:Nat):Int):=(by rw[zF];omega);rw[e];refine qrm (by rw[zF];omega) ?_;generalize ai:eI (M.Q1.length+(M.J7++M.Q5).length)=k;apply cD<;>intro hc
 have:=hc
 exact ao (by rw[js,ai,iP]) w3 ah;have aj:k<=M.Q1.length:=oJ;have aa:js M=some (M.Q1.take k,gz ((M.J7++M.Q5)++M.Q1.drop k)):=(by rw[js,ai,iN]);have ab:Rd [] w3 I M.Q1:=U.jo qS oL;refine dZ.part (k:=1) ab k M.Q1.length rfl (by show (I.len:Int)=_;omega) aj (zM _) fun s4 aZ r4 _=>?_;rw[xZ] at r4;refine BV b3 r4 (by rw[zF,yC];omega) fun s5 B5 w5 b5 f5 n5=>?_;have ac:∀b∈B5,w1.drew.heap.size<=b/\b∉B1:=fun b u=>by
  have hh:w1.drew.heap.size<=b:=by
   rcases n5 b u with h|h;exact V b h
   have:=f3.size;omega
  exact⟨hh,fun C=>by have:=R b C;omega⟩
 have aw:lc w5 I M.Q1 B1:=U.q8 f5 (fun b u C=>by have:=R b u;have:=V b C;omega);refine qrx b5 (by rw[zF,zF,yC];omega) fun l6 w6 b6 p6 o6 f6=>?_;have ax:lc w6 I M.Q1 B1:=aw.q8 f6 (fun b u C=>(ac b C).2 u);have ay:((M.J7++M.Q5)++M.Q1.drop k).Nodup:=by
  have h:=hW.nodup;have hp:(M.Q1++(M.J7++(M.Q5++M.J8.map (·.1)))).Perm (((M.J7++M.Q5)++M.Q1)++M.J8.map (·.1)):=by rw[<- zV M.J7,<- zV M.Q1];exact perm_append_comm.append_right _
  have h2:=(hp.nodup_iff.1 h).sublist (sublist_append_left _ _);exact h2.sublist ((List.Sublist.refl _).append (drop_sublist _ _))
 have az:l6=gz ((M.J7++M.Q5)++M.Q1.drop k):=E9 p6 o6 ay;rw[az] at b6;have aA:Fr [] w w6:=(ah.j8 f5 fun b u=>.inr (by have:=V b u;omega)).j8 f6 fun b u=>.inr (by have:=(ac b u).1;omega);have al:∀G:List Nat,(∀b∈G,b<w.heap.size)->Rd G w6 I M.Q1/\Rd G w6 s5 (gz ((M.J7++M.Q5)++M.Q1.drop k)):=fun G hG=>
  ⟨ax.jo qS fun b u C=>by have:=hG b C;have:=n1 b u;omega,b6.jo qS fun b u C=>by have:=hG b C;have:=(ac b u).1;omega⟩
 exact dZ.tK (al (List.range w.heap.size) oL).1 k rfl aj fun s7 r7=>hk s7 s5 _ _ w6 aa aA fun G hG=>⟨r7.j6 fun b u=>.inl (mem_range.2 (hG b u)),(al G hG).2⟩
end
def qsf{C:List (Int×kY)}{K:Int×Sl->Prop}(h:kL jh w mb (C.map fun e=>(e.1,lg e.2)))(G:∀q,look n C=some q->K (q.2.1,q.2.2.1))(I:look n C≠none): eW [gN.agg [Cell.int .u8,Cell.slice]] (fun w'=>(Instr.lookup BB (.map (some mb)) (.u n) false).run prog w') w K:=by
 have:=Cp (P:=prog) xu qAK uQ h n
 rw[wW,vp] at this;cases E:look n C with
 | none=>exact absurd E I
 | some q=>
  rw[E] at this;exact qm (ts:=[gN.agg [Cell.int .u8,Cell.slice]]) (q.2.1,q.2.2.1) this (G q E)
def qv8{sp:Sl}(h:DS dbk w FD w1 F1 D k)(hp:eG w1 F1 pb (pW dbk) F M)(af:∀e∈M.J8,(0<=e.2.1/\e.2.1<256)/\e.2.2.length<=500/\eF e.2.2)(aF:(M.J8.map (·.1)).Nodup)(aG:∀x∈M.J8.map (·.1),gC x)(aH:M.J8.length<=100000)(bj:k+M.J8.length+y4.length+1<=1000000)(hv:Hv w1)(hg:HG∉F1)(hn:Rd F1 w1 sn Q9)(aJ:Rd F1 w1 sp y4)(aK:Q9.length<=100000)(aL:y4.length<=100000)(aM:∀x∈y4,gC x)(hs:next.2.length=27)(hq:0<=next.1)(kk:∀w2 F2,DS dbk w FD w2 F2 (gD D M.J8 y4 Q9 next).1 (k+M.J8.length+y4.length+1)->Fr F1 w1 w2->(∀b∈F2,b∈F1\/w1.heap.size<=b)->K (gD D M.J8 y4 Q9 next).2 w2): cW 114 [dF pb,sp.v,sn.v,.agg (eT next.1 next.2).toArray] di w1 K:=by
 refine qi5<|oB (oE [] w1) fun r w2 e2 f2 ho=>qv9 (hp.q7 f2) aH fun s3 B3 C w3 b3 p3 o3 f3 n3=>?_;have aP:C=gz (M.J8.map (·.1)):=E9 p3 o3 aF;have aQ:C.length=M.J8.length:=(by have:=p3.length_eq;rw[zK] at this;exact this);have ag:∀x∈C,x∈M.J8.map (·.1):=fun x U=>p3.mem_iff.1 U;have E:Fr [] w1 w3:=f2.trans f3;have hW:kK M.J8=C.map fun n=>(n,eE n (jR M.J8 n).1 (jR M.J8 n).2):=(by rw[kK,<- aP]);have aR:=ho.q7 f3;have bq:=b3.len;have bb:=f2.size;have ax:∀b∈F1,b<w1.heap.size:=h.at_.lt;have r3:Rd F1 w3 s3 C:=b3.jo qS fun b hb hm=>by have:=n3 b hb;have:=ax b hm;omega
 have ad:w3.heap[r]?=some (.cells (eT next.1 next.2).toArray 185 (0,0)):=aR.at (i:=0) rfl;have hr:r∉F1:=fun hm=>by have:=ax r hm;omega
 rw[gD,hW] at kk;refine iU (fun x w'=>∃(i:Nat) (F':List Nat) (D':dI),x=i/\i<=C.length/\DS dbk w3 F1 w' F' D' (k+i)/\
   andThen (fy (C.map fun n=>(n,eE n (jR M.J8 n).1 (jR M.J8 n).2)) D) (fun D=>andThen (fj D Q9 y4) fun D=>jy D next) =
    andThen (fy ((C.drop i).map fun n=>(n,eE n (jR M.J8 n).1 (jR M.J8 n).2)) D') (fun D=>andThen (fj D Q9 y4) fun D=>jy D next)) (fun x _=>((C.length:Int)-x).toNat)
  ⟨0,F1,D,rfl,oJ,DS.refl (h.at_.q7 E) h.lim,rfl⟩ ?_
 rintro x w4 ⟨i,F',D',rfl,hi,V,he⟩ Y hY;have aj:eG w4 F' pb (pW dbk) F M:=(hp.q7 E).oT V.fr V.at_.lt V.nw;have ak:=V.hv (hv.q7 E) hg;have I:∀ {G:World} {F5:List Nat} {D5:dI} {k5:Nat},DS dbk w3 F1 G F5 D5 k5->DS dbk w FD G F5 D5 k5/\Fr F1 w1 G/\∀b∈F5,b∈F1\/w1.heap.size<=b:=fun d5=>by have g:DS dbk w1 F1 _ _ _ _:=(DS.refl h.at_ h.lim).q7 E |>.trans d5;exact⟨h.trans g,g.fr,g.nw⟩
 apply dW<;>intro u;have am:i<C.length:=(by have:=zC u;omega);refine Rd.at (V.rd r3) i rfl (zA am) ?_;have an:=ag _ (zX am);have aT:=aG _ an;have J:C.drop i=C[i]::C.drop (i+1):=zY am;generalize C[i]=x at an aT J;obtain⟨fb,defb,mb,sl,sm,G1,G2,fs,rfl,U⟩:=aj;have R:=U.q7 (Fr.refl [] w4).drew;have aa:=U.cJ x;have ay:look x fs≠none:=fun hn=>by rw[hn] at aa;exact uh.1 aa an
 refine fv (iA (w:=w4.drew) (c:=.map) R.cell (some mb) (sO U.Q8) ?_);refine qsf R.map.at (fun q ao=>?_) ay;refine fv (iA (w:=w4.drew) (c:=.map) R.cell (some mb) (sO U.Q8) ?_);refine qsf R.map.at (fun q' az=>?_) ay;rw[ao] at az;cases az;rw[ao] at aa;have aV:jR M.J8 x=(q.2.1,q.2.2.2):=(by rw[jR,aa];rfl);have hm:=(sS ao).2;have ae:=R.rows.y7 _ hm;have ab:=af (x,q.2.1,q.2.2.2) (by rw[U.J8];exact mem_map.2 ⟨_,hm,rfl⟩);dsimp only at ae ab;refine E4 ae (ak.1.q7 (Fr.refl [] w4).drew) oJ (fun h=>oJ) fun _ b5 T5 G c5 f5 n5=>?_;have aA:Fr [] w4 G:=(Fr.refl [] w4).drew.trans f5;have ap:=U.q7 aA;refine fv (iA ap.cell (pW dbk) Cv ?_);rw[gg x oJ];have aB:=wy (number:=x) (kind:=q.2.1) ab.2.1;have aX:eh [] G ⟨pW b5,512,512⟩ (eE x q.2.1 q.2.2.2):=by
  have:=vo (S:=[]) (o:=0) (n:=512) (cap:=512) c5 (by rw[aB];exact zM _) (zM _) oL
  rw[xF,zS (Nat.le_of_eq aB)] at this;exact this
 rw[J,xO,aV] at he;refine Cl (V.q7 aA) oJ aX (Ch ab.1 ab.2.2) fun w6 F6 d6 f6 n6=>?_;apply dW<;>intro u;have u:(eu D' x (eE x q.2.1 q.2.2.2)).2≠0:=(oP u);rw[fy,qjp,yp u] at he;rw[he] at kk;have a6:=I d6;exact kk w6 F6 (a6.1.qc oJ) a6.2.1 a6.2.2;have u:(eu D' x (eE x q.2.1 q.2.2.2)).2=0:=(oP u);rw[fy,qjp,yg u] at he;rw[gg _ oJ];exact hY _ _ ⟨i+1,F6,_,oL,oJ,d6,he⟩ oJ
 ·have:i=C.length:=(by have:=zB u;omega);subst this;rw[drop_length,map_nil,fy,andThen_ok] at he;rw[he] at kk;obtain⟨fb,defb,mb,sl,sm,G1,G2,fs,hF,U⟩:=id aj;refine fv (iA U.cell (pW dbk) Cv ?_);have aZ:=V.rd (hn.q7 E);have aC:=V.rd (aJ.q7 E);refine qnt V oJ ak.1 ak.2 aZ aC aK aL aM fun G F5 d5 f5 n5=>?_;apply dW<;>intro u;have u:(fj D' Q9 y4).2≠0:=(oP u);rw[yp u] at kk;have a5:=I d5;exact kk G F5 (a5.1.qc oJ) a5.2.1 a5.2.2
  ·have u:(fj D' Q9 y4).2=0:=(oP u);rw[yg u] at kk;have a1:eG G F5 pb (pW dbk) F M:=aj.oT f5 d5.at_.lt n5;obtain⟨fb,defb,mb,sl,sm,G1,G2,fs,hF,ap⟩:=id a1;have a2:=ap.q7 (Fr.refl [] G).drew;refine fv (iA (w:=G.drew) (c:=.ptr) a2.cell (pW dbk) Cv ?_);have ar:G.drew.heap[r]?=some (.cells (eT next.1 next.2).toArray 185 (0,0)):=(by show G.heap[r]?=_;rw[d5.fr.block r (eZ ad) hr];exact ad);refine uL ar hs<|qrq (d5.q7 (Fr.refl [] G).drew) oJ ((d5.hv (hv.q7 E) hg).1.q7 (Fr.refl [] G).drew) hs hq fun w6 F6 d6 f6 n6=>?_;have a6:=I d6;exact kk w6 F6 (a6.1.qc oJ) a6.2.1 a6.2.2
end
def uu (D:dI):Prop:=∀x∈D.Q7,0<=x.1/\x.1<D.Q6.length
def qpH(h:(gS D).2=false)(u:D.down=false):(gS D).1.down=false:=by unfold gS at h⊢;split;rename_i C;rw[if_pos C] at h;cases h;split<;>exact u
def qmE(U:uu D)(h:(eu D n l).2=0): (eu D n l).1.down=false/\uu (eu D n l).1/\(0<=n/\n<D.size)/\∀m,view (eu D n l).1 m=if m=n then l else view D m:=by
 unfold eu at h⊢;split;rename_i G;rw[if_pos G] at h;cases h;rename_i G;rw[if_neg G] at h;split;rename_i J;rw[if_pos J] at h;cases h;rename_i J;rw[if_neg J] at h;split;rename_i u;rw[dif_pos u] at h;have E:(gS (lz D n ⟨l,u⟩)).2=false:=by
  cases V:(gS (lz D n ⟨l,u⟩)).2 with
  | false=>rfl
  | true=>simp only[V,if_true] at h;cases h
 have I:=xk (lz D n ⟨l,u⟩);have R:0<=n/\n<(D.Q6.length:Int):=oJ;refine⟨qpH E (show D.down=false by simpa using G),fun x C=>?_,R,fun m=>?_⟩;show 0<=x.1/\x.1<((gS (lz D n ⟨l,u⟩)).1.Q6.length:Int);rw[I.1];have C:x∈(gS (lz D n ⟨l,u⟩)).1.Q7:=C;rw[I.2] at C;rcases zD.1 C with C|C;exact U x C;simp at C;subst C;exact R;show view (gS (lz D n ⟨l,u⟩)).1 m=_;rw[view,I.1,I.2,lz];dsimp only;rw[Gn];by_cases hm:m=n;rw[if_pos hm,if_pos hm.symm];rw[if_neg hm,if_neg (fun e=>hm e.symm),view];rename_i u;rw[dif_neg u] at h;cases h
def qoI(G:uu D)(h:(fU D).2=0):(fU D).1.down=false/\(fU D).1.Q7=[]/\∀m,0<=m->view (fU D).1 m=view D m:=by unfold fU at h⊢;split;rename_i C;rw[if_pos C] at h;cases h;rename_i C;rw[if_neg C] at h;split;rename_i E;rw[if_pos E] at h;cases h;rename_i E;have u:(gS D).2=false:=(oP E);refine⟨qpH u (oP C),rfl,fun m I=>?_⟩;obtain⟨k,rfl⟩:∃k:Nat,m=k:=⟨m.toNat,oJ⟩;show ((D.Q7.foldl fX D.Q6).getD (k:Int).toNat .zero).1=_;rw[zJ,DM k _ _ G,view,zJ];cases iD (k:Int) D.Q7<;>rfl
def qtU(h:D.Q7=[]):uu D:=fun x u=>by rw[h] at u;cases u
def AA(h:(andThen r f).2=0):r.2=0/\(f r.1).2=0/\andThen r f=f r.1:=by unfold andThen at h⊢;by_cases h0:r.2=0;rw[if_pos h0] at h⊢;exact⟨h0,h,rfl⟩;rw[if_neg h0] at h;exact absurd h h0
def Gs:∀ {l:List (Int×List Int)} {D:dI},uu D->D.down=false->(fy l D).2=0->(l.map (·.1)).Nodup-> (fy l D).1.down=false/\uu (fy l D).1/\(∀x∈l,view (fy l D).1 x.1=x.2)/\∀m,m∉l.map (·.1)->view (fy l D).1 m=view D m
 | [],D,C,I,_,_=>⟨I,C,(fun x u=>by cases u),fun m _=>rfl⟩
 | y::l,D,C,I,h,E=>by obtain⟨R,U,V⟩:=AA (show (andThen (eu D y.1 y.2) (fy l)).2=0 from h);obtain⟨d1,a1,_,J⟩:=qmE C R;rw[xO,nodup_cons] at E;obtain⟨d2,a2,v2,u2⟩:=Gs (l:=l) a1 d1 U E.2;rw[show fy (y::l) D=fy l (eu D y.1 y.2).1 from V];refine⟨d2,a2,fun x u=>?_,fun m G=>?_⟩;rcases zG.1 u with rfl|u;rw[u2 _ E.1,J,if_pos rfl];exact v2 x u;rw[xO,zG,not_or] at G;rw[u2 m G.2,J,if_neg G.1]
def qsP(U:uu D)(V:D.down=false)(C:lu n numbers y4)(h:(fj D numbers y4).2=0): (fj D numbers y4).1.down=false/\(fj D numbers y4).1.Q7=[]/\oY (fj D numbers y4).1 numbers y4/\∀m,0<=m->m∉y4->view (fj D numbers y4).1 m=view D m:=by have I:((y4.zip (gl numbers y4 y4.length)).map fun x=>(x.1,eE x.1 2 x.2)).map (·.1)=y4:=(by rw[map_map];exact GU (by rw[DK]));have e:fj D numbers y4=andThen (fy ((y4.zip (gl numbers y4 y4.length)).map fun x=>(x.1,eE x.1 2 x.2)) D) fU:=(by rw[fj,C.y7];exact if_neg oL);rw[e] at h;obtain⟨h1,h2,h3⟩:=AA h;obtain⟨d1,a1,v1,J⟩:=Gs U V h1 (by rw[I];exact C.nodup);rw[I] at J;obtain⟨d2,w2,R⟩:=qoI a1 h2;rw[e,h3];refine⟨d2,w2,fun i p E=>?_,fun m hm G=>by rw[R m hm,J m G]⟩;have hi:=(zP.1 E).1;have u:(p,eE p 2 (iI (y4.getD (i+1) 0) (chunk numbers i)))∈(y4.zip (gl numbers y4 y4.length)).map fun x=>(x.1,eE x.1 2 x.2):=(by refine mem_map.2 ⟨(p,iI (y4.getD (i+1) 0) (chunk numbers i)),?_,rfl⟩;refine yF (i:=i) ?_;rw[List.getElem?_zip_eq_some];exact⟨E,by rw[Ga,if_pos hi]⟩);have ai:=C.re _ (yF E);rw[R p oJ];exact v1 _ u
def qvT(I:uu D)(J:kU s)(h:(jy D s).2=0): (jy D s).1.down=false/\(jy D s).1.Q7=[]/\view (jy D s).1 (s.1%2)=eE (s.1%2) 1 (gq s.1 s.2)/\∀m,0<=m->m≠s.1%2->view (jy D s).1 m=view D m:=by obtain⟨R,U,V⟩:=AA (show (andThen (eu D (gB s).1 (gB s).2) fU).2=0 from h);obtain⟨d1,a1,_,u⟩:=qmE I R;obtain⟨G,w2,C⟩:=qoI a1 U;rw[show jy D s=fU (eu D (gB s).1 (gB s).2).1 from V];rw[J.gB] at u C G w2⊢;refine⟨G,w2,by rw[C _ oJ,u,if_pos rfl],fun m hm E=>by rw[C m hm,u,if_neg E]⟩
def CA(h:js M=some (y4,Q9)): ∃k,k=eI (M.Q1.length+(M.J7++M.Q5).length)/\k<=M.Q1.length/\y4=M.Q1.take k/\Q9=gz ((M.J7++M.Q5)++M.Q1.drop k):=by unfold js at h;split at h;cases h;rename_i C;have u:=yO h;exact⟨_,rfl,oJ,(congrArg Prod.fst u).symm,(congrArg Prod.snd u).symm⟩
def dY.Wf.pF(h:M.Wf)(k:Nat):(M.Q1.take k++((M.J7++M.Q5)++M.Q1.drop k)).Nodup:=by
 have u:(M.Q1++(M.J7++(M.Q5++M.J8.map (·.1)))).Perm ((M.Q1.take k++((M.J7++M.Q5)++M.Q1.drop k))++M.J8.map (·.1)):=by
  conv=>lhs;lhs;rw[<- xE k M.Q1]
  rw[<- zV M.J7];have:(M.Q1.drop k++((M.J7++M.Q5)++M.J8.map (·.1))).Perm (((M.J7++M.Q5)++M.Q1.drop k)++M.J8.map (·.1)):=by rw[<- zV];exact perm_append_comm.append_right _
  rw[zV,zV (M.Q1.take k)];exact this.append_left _
 exact (u.nodup_iff.1 h.nodup).sublist (sublist_append_left _ _)
def CP(E:M.Wf)(h:js M=some (y4,Q9)):lu (M.j9.2.getD 0 0) Q9 y4:=by obtain⟨k,I,G,rfl,rfl⟩:=CA h;have C:=E.pF k;rw[yM] at C;have J:∀x∈(M.J7++M.Q5)++M.Q1.drop k,2<=x/\x<M.j9.2.getD 0 0:=fun x u=>E.range x (by simp only[zD] at u⊢;rcases u with (u|u)|u;exact .inr (.inl u);exact .inr (.inr (.inl u));exact .inl (yU u));refine⟨A6 _,fun x u=>J x (wo.1 u),fun x u=>E.range x (zH _ (yV u)),C.1,fun x u R=>C.2.2 x u x (wo.1 R) rfl,?_⟩;have U:=(G4 C.2.1).length_eq;have V:=GA (n:=M.Q1.length+(M.J7++M.Q5).length);rw[<- I] at V;rw[U,zF,yC,yL,xR G];omega
def qon(R:M.Wf)(h:js M=some (y4,Q9)):∀x∈M.J8.map (·.1),x∉y4/\x∉Q9:=by obtain⟨k,hk,U,rfl,rfl⟩:=CA h;intro x E;have C:=R.nodup;rw[yM] at C;have G:=C.2.1;rw[yM] at G;have I:=G.2.1;rw[yM] at I;have J:x∉M.Q1:=fun u=>C.2.2 x u x (zI _ (zI _ E)) rfl;have V:x∉M.J7:=fun u=>G.2.2 x u x (zI _ E) rfl;have a3:x∉M.Q5:=fun u=>I.2.2 x u x E rfl;refine⟨fun u=>J (yV u),fun u=>?_⟩;have u:=wo.1 u;simp only[zD] at u;rcases u with (u|u)|u;exact V u;exact a3 u;exact J (yU u)
def EZ(J8:List (Int×Int×List Int)):(kK J8).map (·.1)=gz (J8.map (·.1)):=by rw[kK,map_map];exact map_id _
def CN{β:Type}:∀ {l:List (Int×β)} {e:Int×β},(l.map (·.1)).Nodup->e∈l->∃i,look e.1 l=some (i,e.2)
 | p::r,e,C,u=>by rw[xO,nodup_cons] at C;simp only[look];rcases zG.1 u with rfl|u;exact⟨0,by rw[if_pos rfl]⟩;have E:e.1≠p.1:=fun h=>C.1 (h▸zZ u);obtain⟨i,G⟩:=CN C.2 u;exact⟨i+1,by rw[if_neg E,G];rfl⟩
def qvi{J8:List (Int×Int×List Int)}(u:(J8.map (·.1)).Nodup){e:Int×Int×List Int}(h:e∈J8):(e.1,eE e.1 e.2.1 e.2.2)∈kK J8:=by refine mem_map.2 ⟨e.1,wo.2 (zZ h),?_⟩;obtain⟨i,C⟩:=CN u h;rw[jR,C]
structure ux (D D':dI) (M:dY) (y4 Q9:List Int) (next:nC):Prop where
 down:D'.down=false
 Q7:D'.Q7=[]
 listed:oY D' Q9 y4
 Hc:view D' (next.1%2)=eE (next.1%2) 1 (gq next.1 next.2)
 J8:∀ e∈M.J8,view D' e.1=eE e.1 e.2.1 e.2.2
 rest:∀ m,0<=m->m∉M.J8.map (·.1)->m∉y4->m≠next.1%2->view D' m=view D m
def dY.Wf.y8(h:M.Wf):(M.J8.map (·.1)).Nodup:=h.nodup.sublist (((sublist_append_right _ _).trans (sublist_append_right _ _)).trans (sublist_append_right _ _))
def dY.Wf.J6(h:M.Wf):∀x∈M.J8.map (·.1),2<=x/\x<M.j9.2.getD 0 0:=fun x u=>h.range x (zI _ (zI _ (zI _ u)))
def qtm(ha:uu D)(hd:D.down=false)(G:M.Wf)(u:js M=some (y4,Q9))(hs:kU next)(h:(gD D M.J8 y4 Q9 next).2=0): ux D (gD D M.J8 y4 Q9 next).1 M y4 Q9 next:=by
 obtain⟨h1,h2,h3⟩:=AA (show (andThen (fy (kK M.J8) D) fun D=>andThen (fj D Q9 y4) fun D=>jy D next).2=0 from h);obtain⟨h4,h5,h6⟩:=AA h2;have I:((kK M.J8).map (·.1)).Nodup:=(by rw[EZ];exact vX (A6 _));obtain⟨d1,a1,v1,u1⟩:=Gs ha hd h1 I;have C:=CP G u;obtain⟨d2,w2,l2,U⟩:=qsP a1 d1 C h4;obtain⟨d3,w3,p3,J⟩:=qvT (qtU w2) hs h5;have e:gD D M.J8 y4 Q9 next=jy (fj (fy (kK M.J8) D).1 Q9 y4).1 next:=h3.trans h6
 rw[e];have au:next.1%2=0\/next.1%2=1:=by omega
 refine⟨d3,w3,fun i p V=>?_,p3,fun x R=>?_,fun m hm h7 h8 h9=>?_⟩
 have:=C.re p (yF V)
 rw[J p oJ oJ];exact l2 i p V;have hk:=G.J6 x.1 (zZ R);have hf:=qon G u x.1 (zZ R);rw[J _ oJ oJ,U _ oJ hf.1];exact v1 _ (qvi G.y8 R);rw[J m hm h9,U m hm h8];refine u1 m fun E=>h7 ?_;rw[EZ] at E;exact wo.1 E
def eN.uw(h:eN D)(E:M.Wf)(U:M.j9.2.getD 0 0=D.size)(h8:8<=D.size)(u:js M=some (y4,Q9))(V:kU next): (gD D M.J8 y4 Q9 next).2=0/\eN (gD D M.J8 y4 Q9 next).1/\(gD D M.J8 y4 Q9 next).1.size=D.size:=by
 have I:((kK M.J8).map (·.1)).Nodup:=(by rw[EZ];exact vX (A6 _));obtain⟨D1,e1,q1,s1,_⟩:=h.writes (l:=kK M.J8) (fun x hx=>by obtain⟨n,G,rfl⟩:=mem_map.1 hx;have G:=wo.1 G;have hk:=E.J6 n G;refine⟨by dsimp only;omega,wy ?_⟩;obtain⟨e,J,rfl⟩:=mem_map.1 G;obtain⟨i,hi⟩:=CN E.y8 J;rw[jR,hi];exact (E.body e J).2.1) I;have C:=CP E u;rw[U,<- s1] at C;obtain⟨D2,e2,q2,s2,_⟩:=q1.spread C;obtain⟨R,e3,q3,s3,_⟩:=q2.tQ V oJ;have:gD D M.J8 y4 Q9 next=(R,0):=by rw[gD,e1,andThen_ok,e2,andThen_ok,e3]
 rw[this];exact⟨rfl,q3,by show R.size=D.size;omega⟩
def dY.all (M:dY):List Int:=M.Q1++(M.J7++(M.Q5++M.J8.map (·.1)))
def E3{t:Int}{ov:Bool}(h:lu (s.2.getD 0 0) numbers y4)(E:s.2.getD 0 0<=4096)(C:∀x∈s.2,gC x):(ie s y4 numbers t ov numbers).Wf where
 n4:=E
 u32:=C
 Q2:=fun x u=>C x (yU u)
 cL:=h.cU
 Q9:=h.m8
 cS:=h.cU
 qu:=.nil
 nodup:=by show (numbers++([]++(y4++[]))).Nodup;rw[xI,xH,yM];exact⟨vX h.cU,h.nodup,fun x u y G e=>h.J3 y G (e▸u)⟩
 range:=fun x u=>by have u:x∈numbers++([]++(y4++[])):=u;rw[xI,xH,zD] at u;rcases u with u|u;exact h.m8 x u;exact h.re x u
 body:=fun e I=>by cases I
def qz3:tO.Wf:=by
 have u:∀x∈gx.2,gC x:=fun x h=>by
  have:=eq_of_mem_replicate (show x∈List.replicate 27 (0:Int) from h)
  subst this;exact⟨oM,oM⟩
 exact E3 (s:=gx) (y4:=[]) (numbers:=[]) ⟨.nil,(fun x h=>by cases h),(fun x h=>by cases h),.nil,(fun x h=>by cases h),oM⟩ oM u
def qsL{β:Type}{v:β}{l:List (Int×β)}(h:n∉l.map (·.1)):gL n v l=l++[(n,v)]:=by rw[gL,uh.2 h]
def qqH{β:Type}{v:β}{l:List (Int×β)}(h:n∈l.map (·.1)):(gL n v l).map (·.1)=l.map (·.1):=by
 unfold gL;cases C:look n l with
 | none=>exact absurd h (uh.1 C)
 | some q=>
  dsimp only;rw[map_set];apply ext_getElem?;intro j;rw[List.getElem?_set];by_cases hj:q.1=j;subst hj;have E:=(sS C).1;obtain⟨u,G⟩:=zP.1 E;simp[u,G];rw[if_neg hj]
def qpU{β:Type}{l:List (Int×β)}(h:n∈l.map (·.1)):(l.map (·.1)).Perm (n::(jk n l).map (·.1)):=by
 unfold jk;cases E:look n l with
 | none=>exact absurd h (uh.1 E)
 | some q=>
  dsimp only;have G:=(sS E).1;obtain⟨u,I⟩:=zP.1 G;rw[uN];have J:(l.map (·.1))[q.1]'(oP u)=n:=(by simp[I]);have C:q.1<(l.map (·.1)).length:=(oP u);have R:l.map (·.1)=(l.map (·.1)).take q.1++n::(l.map (·.1)).drop (q.1+1):=by rw[<- J,<- zY C,xE]
  rw[eraseIdx_eq_take_drop_succ];conv=>lhs;rw[R]
  exact perm_middle
def wZ:gc M n=true↔(2<=n/\n<M.j9.2.getD 0 0)/\n∉M.all:=by unfold gc dY.all;simp only[yB,zT,Bool.or_eq_false_iff,decide_eq_false_iff_not,Option.isNone_iff_eq_none,uh,zD,not_or];constructor;rintro⟨⟨⟨⟨⟨G,I⟩,h⟩,u⟩,C⟩,E⟩;exact⟨⟨oJ,oJ⟩,u,C,h,E⟩;rintro⟨⟨G,I⟩,h,u,C,E⟩;exact⟨⟨⟨⟨⟨oJ,oJ⟩,C⟩,h⟩,u⟩,E⟩
def qw7{r:List Int}{v:Int×List Int}(u:M.Q1=n::r)(E:M.Wf):(r++(M.J7++(M.Q5++(gL n v M.J8).map (·.1)))).Perm M.all:=by
 have h:n∉M.J8.map (·.1):=fun G=>by have C:=E.nodup;rw[u,xJ,nodup_cons] at C;exact C.1 (zI _ (zI _ (zI _ G)))
 rw[qsL h,xN,dY.all,u];show (r++(M.J7++(M.Q5++(M.J8.map (·.1)++[n])))).Perm (n::(r++(M.J7++(M.Q5++M.J8.map (·.1)))));rw[<- zV M.Q5,<- zV M.J7,<- zV r];exact perm_append_singleton n _
def Ey{M':dY}(h:M.Wf)(u:M'.j9=M.j9)(C:M'.Q9=M.Q9)(G:∀x∈M'.Q2,gC x)(E:M'.all.Perm M.all)(I:M'.Q1.Pairwise (· < ·))(J:M'.J7.Pairwise (· < ·))(R:∀e∈M'.J8,(0<=e.2.1/\e.2.1<256)/\e.2.2.length<=500/\eF e.2.2):M'.Wf where
 n4:=by rw[u];exact h.n4
 u32:=by rw[u];exact h.u32
 Q2:=G
 cL:=by rw[C];exact h.cL
 Q9:=by rw[C,u];exact h.Q9
 cS:=I
 qu:=J
 nodup:=E.nodup_iff.2 h.nodup
 range:=fun x U=>by rw[u];exact h.range x (E.mem_iff.1 U)
 body:=R
def quk{kind:Int}(u:M.Wf)(G:0<=kind/\kind<256)(I:eF body):(fZ M kind body).2.Wf/\(fZ M kind body).2.all.Perm M.all:=by
 unfold fZ;split;exact⟨u,.refl _⟩;split;exact⟨u,.refl _⟩;rename_i R;split;exact⟨u,.refl _⟩;rename_i n r C;have E:=qw7 (v:=(kind,body)) C u;refine⟨Ey u rfl rfl u.Q2 E ?_ u.qu fun e J=>?_,E⟩
 have:=u.cS
 rw[C,yJ] at this;exact this.2;rcases CD J with h|h;exact u.body e h;rw[h];exact⟨G,by show body.length<=500;omega,I⟩
def qxn{kind:Int}(u:M.Wf)(E:0<=kind/\kind<256)(G:eF body):(jf M n kind body).2.Wf/\(jf M n kind body).2.all.Perm M.all:=by
 unfold jf;split;exact⟨u,.refl _⟩;split;exact⟨u,.refl _⟩;rename_i q I;split;exact⟨u,.refl _⟩;rename_i U;have J:n∈M.J8.map (·.1):=mem_map.2 ⟨_,(sS I).2,rfl⟩;have C:({ M with J8:=gL n (kind,body) M.J8 }:dY).all=M.all:=by show M.Q1++(M.J7++(M.Q5++(gL n (kind,body) M.J8).map (·.1)))=_;rw[qqH J];rfl
 refine⟨Ey u rfl rfl u.Q2 (by rw[C]) u.cS u.qu fun e R=>?_,by rw[C]⟩;rcases CD R with h|h;exact u.body e h;rw[h];exact⟨E,by show body.length<=500;omega,G⟩
def qt2(u:M.Wf):(fk M n).2.Wf:=by
 unfold fk;split;exact u;split;rename_i q J;have R:n∈M.J8.map (·.1):=mem_map.2 ⟨_,(sS J).2,rfl⟩;have U:=u.nodup;have G:n∉M.Q1:=fun h=>by rw[yM] at U;exact U.2.2 n h n (zI _ (zI _ R)) rfl
 have E:({ M with J8:=jk n M.J8,Q1:=ins n M.Q1 }:dY).all.Perm M.all:=by
  show (ins n M.Q1++(M.J7++(M.Q5++(jk n M.J8).map (·.1)))).Perm (M.Q1++(M.J7++(M.Q5++M.J8.map (·.1))));refine ((ze G).append_right _).trans ?_;have V:=qpU R;have h2:(M.J7++(M.Q5++M.J8.map (·.1))).Perm (n::(M.J7++(M.Q5++(jk n M.J8).map (·.1)))):=by refine ((V.append_left M.Q5).append_left M.J7).trans ?_;rw[<- zV,<- zV];exact perm_middle
  exact (perm_middle.symm.trans (h2.symm.append_left M.Q1))
 exact Ey u rfl rfl u.Q2 E (Ax u.cS) u.qu fun e he=>u.body e (qsi he);rename_i J;split;rename_i C;have C:=wZ.1 C;have I:n∉M.J7:=fun h=>C.2 (zI _ (zH _ h));have E:({ M with J7:=ins n M.J7 }:dY).all.Perm (n::M.all):=by show (M.Q1++(ins n M.J7++(M.Q5++M.J8.map (·.1)))).Perm (n::(M.Q1++(M.J7++(M.Q5++M.J8.map (·.1)))));exact (((ze I).append_right _).append_left M.Q1).trans perm_middle
 refine { n4:=u.n4,u32:=u.u32,Q2:=u.Q2,cL:=u.cL,Q9:=u.Q9,cS:=u.cS,qu:=Ax u.qu,nodup:=E.nodup_iff.2 (nodup_cons.2 ⟨C.2,u.nodup⟩),range:=fun x hx=>?_,body:=u.body };rcases zG.1 (E.mem_iff.1 hx) with rfl|h;exact C.1;exact u.range x h;exact u
def quq{t:Int}{ov:Bool}(u:M.Wf)(h:js M=some (y4,Q9))(C:s.2.getD 0 0=M.j9.2.getD 0 0)(E:∀x∈s.2,gC x):(ie s y4 Q9 t ov Q9).Wf:=
 E3 (by rw[C];exact CP u h) (by rw[C];exact u.n4) E
def Eg(u:M.Wf)(h:js M=some (y4,Q9)):∀x∈(fM M y4 Q9).2,gC x:=by
 have E:=CP u h;have G:=u.n4;intro x C;simp only[fM,zD,zG,xX,or_false] at C;rcases C with (rfl|rfl|rfl)|C;exact qr2 u.u32 0;cases y4 with
 | nil=>exact⟨oM,oM⟩
 | cons a r=>
  have:=E.re a oL
  show 0<=a/\a<4294967296;omega
 exact vv _;exact u.Q2 x C
def qyD(u:M.Wf)(h:js M=some (y4,Q9))(C:M.Q2.length=24)(E:0<=M.j9.1/\M.j9.1<4611686018427387903):kU (fM M y4 Q9)/\(fM M y4 Q9).1=M.j9.1+1:=by have e:wrap .u64 (M.j9.1+1)=M.j9.1+1:=wQ _ oJ;refine⟨⟨?_,?_,Eg u h⟩,e⟩;show 0<=wrap .u64 (M.j9.1+1)/\wrap .u64 (M.j9.1+1)<_;rw[e];omega;show ([M.j9.2.getD 0 0,y4.headD 0,wrap .u32 (Q9.length:Int)]++M.Q2).length=27;rw[zF,C];rfl
def qwn(h:M.Wf):(gA D M).1.2.Wf:=by unfold gA;split;exact h;split;exact h;split;exact h;rename_i x u;obtain⟨y4,Q9⟩:=x;split;exact qz3;exact quq h u rfl (Eg h u)
section
def zn:List Int->List Int->Bool
 | a::b::c::r,h::b'::u::r'=>bif (bif a==h then bif b==b' then bif c==u then true else false else false else false) then zn r r' else false
 | _,_=>true
def qt3:∀(n:Nat) (l l':List Int),l.length=3*n->l'.length=3*n->zn l l'=decide (l=l')
 | 0,l,l',h,u=>by have C:l=[]:=eq_nil_of_length_eq_zero oJ;have E:l'=[]:=eq_nil_of_length_eq_zero oJ;subst C E;simp[zn]
 | n+1,l,l',h,u=>by
  match l,l',h,u with
  | a::b::c::r,G::b'::I::r',h,u=>
   have:=qt3 n r r' (by simp at h;omega) (by simp at u;omega)
   rw[zn,this];by_cases C:a=G<;>by_cases E:b=b'<;>by_cases h3:c=I<;>by_cases h4:r=r'<;>simp[C,E,h3,h4]
  | [],_,h,_=>simp at h
  | [_],_,h,_=>simp at h;omega
  | [_,_],_,h,_=>simp at h;omega
  | _::_::_::_,[],_,h=>simp at h
  | _::_::_::_,[_],_,h=>simp at h;omega
  | _::_::_::_,[_,_],_,h=>simp at h;omega
abbrev Gl:TypeId:=183
def qA3(a0 a1 a2 a3 a4 a5 a6 a7 a8 a9 h u C E G I J R U V aa ab ac ad b0 b1 b2 b3 b4 b5 b6 b7 b8 b9 ae af ag ah ai aj ak al am an ao ap aq ar:Int): sV prog 3 Gl (.agg (([a0,a1,a2,a3,a4,a5,a6,a7,a8,a9,h,u,C,E,G,I,J,R,U,V,aa,ab,ac,ad]:List Int).map (Value.int .u32)).toArray) (.agg (([b0,b1,b2,b3,b4,b5,b6,b7,b8,b9,ae,af,ag,ah,ai,aj,ak,al,am,an,ao,ap,aq,ar]:List Int).map (Value.int .u32)).toArray) = some (zn [a0,a1,a2,a3,a4,a5,a6,a7,a8,a9,h,u,C,E,G,I,J,R,U,V,aa,ab,ac,ad] [b0,b1,b2,b3,b4,b5,b6,b7,b8,b9,ae,af,ag,ah,ai,aj,ak,al,am,an,ao,ap,aq,ar]):=by kernel_rfl
def qw3(h:l.length=24):∃a0 a1 a2 a3 a4 a5 a6 a7 a8 a9 u C E G I J R U V aa ab ac ad ae,l=[a0,a1,a2,a3,a4,a5,a6,a7,a8,a9,u,C,E,G,I,J,R,U,V,aa,ab,ac,ad,ae]:=
 match l,h with
 | [a0,a1,a2,a3,a4,a5,a6,a7,a8,a9,u,C,E,G,I,J,R,U,V,aa,ab,ac,ad,ae],_=>⟨_,_,_,_,_,_,_,_,_,_,_,_,_,_,_,_,_,_,_,_,_,_,_,_,rfl⟩
def qvP{x y:Operand}{K:Bool->Prop}(u:l.length=24)(h:l'.length=24)(k:K (decide (l=l'))): eW [gN.one Cell.bool] (fun w'=>(do eqGuard .eql Gl x y (.agg (l.map (Value.int .u32)).toArray) (.agg (l'.map (Value.int .u32)).toArray);binOp .eql Gl (.agg (l.map (Value.int .u32)).toArray) (.agg (l'.map (Value.int .u32)).toArray):Sem Value).run prog w') w K:=by refine FJ 3 oM (zn l l') ?_ oK (by rw[qt3 8 l l' u h];exact k);obtain⟨a0,a1,a2,a3,a4,a5,a6,a7,a8,a9,C,E,G,I,J,R,U,V,aa,ab,ac,ad,ae,af,rfl⟩:=qw3 u;obtain⟨b0,b1,b2,b3,b4,b5,b6,b7,b8,b9,ag,ah,ai,aj,ak,al,am,an,ao,ap,aq,ar,au,av,rfl⟩:=qw3 h;exact qA3 ..
def qw8{f:List (Int×Value)}{K:Int->Prop}(h:i4 jh w mb f)(k:K f.length): eW [gN.one .i] (fun w'=>(Builtin.len_ #[BB] 3 #[Value.map (some mb)]).run prog w') w K:=by
 obtain⟨u,c,C,E,_⟩:=h;have G:(u.size:Int)=f.length:=by
  have:=congrArg List.length E
  simp at this;omega
 refine qm (ts:=[gN.one .i]) (u.size:Int) ?_ (by rw[G];exact k)
 have:=run_len_map (P:=prog) (w:=w) BB 3 mb u c oK C
 exact this
section
variable {db:Option Addr} {j9:nC} {sl sn:Sl} {x6:Int} {Q3:Bool} {fb defb mb:Nat} {Q2:List Int} {wk:List Value}
def CY(u:j9.2.length=27)(C:Q2.length=24):((fL db j9 sl sn x6 Q3 fb defb mb Q2).toList.drop 36).take 24=Q2.map (Value.int .u32):=by have h:((Value.pointer db::eT j9.1 j9.2)++mN sl sn x6 Q3 fb defb mb).length=36:=(by rw[zF,se u];rfl);show (((Value.pointer db::eT j9.1 j9.2)++mN sl sn x6 Q3 fb defb mb++Q2.map (Value.int .u32)).drop 36).take 24=_;rw[<- h,drop_append_of_le_length (zM _),drop_length,xI,zS (by rw[zK,C];exact zM _)]
def qxg(h:j9.2.length=27):((fL db j9 sl sn x6 Q3 fb defb mb Q2).toList.drop 5).take 24=(j9.2.drop 3).map (Value.int .u32):=by rw[<- Ev];exact DH h
def qvI{h:nC}(C:j9.2.length=27)(u:h.2.length=27):dR (fh db j9 sl sn x6 Q3 wk) 1 (eT h.1 h.2)=fh db h sl sn x6 Q3 wk:=by
 have:=sL (A:=[Value.pointer db]) (X:=eT j9.1 j9.2) (Y:=eT h.1 h.2) (Z:=([sl.v,sn.v,.i x6,.bool Q3]:List Value)++wk) (by rw[pE C,pE u])
 simpa[fh] using this
end
def qu8{q a c:Int}(E:Q2.length=24)(w:World):(Instr.build 185 #[(0,.int .u64 q),(1,.u a),(3,.u c),(4,.agg (Q2.map (Value.int .u32)).toArray)]).run prog w=.ok (.agg (eT q ([a,0,c]++Q2)).toArray) w:=by
 obtain⟨z,G,h⟩:=yT.1 tC;have C:z.cells=(eT 0 (zs 27)).toArray:=(by rw[<- h]);refine BO (parts:=[(0,.int .u64 q),(1,.u a),(3,.u c),(4,.agg (Q2.map (Value.int .u32)).toArray)]) (offs:=#[(0,1),(1,1),(2,1),(3,1),(4,24)]) G oK (fun w=>oK) ?_ w;have I:(Value.agg (Q2.map (Value.int .u32)).toArray).cells.size=24:=(by show (Q2.map (Value.int .u32)).toArray.size=24;simp[E]);rw[C,rD (o:=0) (s:=1) rfl rfl (zO rfl),rD (o:=1) (s:=1) rfl rfl (zO rfl),rD (o:=3) (s:=1) rfl rfl (zO rfl),rD (o:=4) (s:=24) rfl I (zO rfl)];refine congrArg some ?_
 have:=sL (A:=[.int .u64 q,.u a,.u 0,.u c]) (X:=(zs 24).map (Value.int .u32)) (Z:=[]) (Y:=Q2.map (Value.int .u32)) (by simp[E,oZ])
 refine Eq.trans ?_ (this.trans ?_);rfl;simp[eT]
def qu6(w:World):(Instr.build rB #[(5,.bool true)]).run prog w=.ok (.agg (fh none gx dG dG 0 true (gV none none none (zs 24)))) w:=by refine BO (parts:=[(5,.bool true)]) (offs:=#[(0,1),(1,28),(29,1),(30,1),(31,1),(32,1),(33,27)]) pgZ oK (fun w=>oK) ?_ w;rw[rD (o:=32) (s:=1) rfl rfl (zO rfl)];rfl
def pc (dbk:Nat) (M:dY):Option Addr:=if M.Q3 then none else pW dbk
structure Hh (w:World) (dbk pb:Nat) (FD F:List Nat) (D:dI) (M:dY) (k:Nat):Prop where
 cN:eO w dbk FD D
 lim:lF D k
 x8:eG w FD pb (pc dbk M) F M
def AQ (S:List Nat) (w w':World) (S':List Nat):Prop:=Fr S w w'/\∀b∈S',b∈S\/w.heap.size<=b
def qz1:((l.map (Value.int .u32)).all Value.oneCell')=true:=by rw[all_eq_true];intro v h;obtain⟨x,_,rfl⟩:=mem_map.1 h;rfl
def qy3:((gV x y m Q2).all Value.oneCell')=true:=by rw[gV,all_append,qz1];rfl
def qz9(h:(wk.all Value.oneCell')=true):((fh db j9 sl sn x6 Q3 wk).toList.all Value.oneCell')=true:=by show ((((Value.pointer db::eT j9.1 j9.2)++([sl.v,sn.v,.i x6,.bool Q3]:List Value))++wk).all Value.oneCell')=true;rw[all_append,all_append,h,all_cons,Cx];rfl
def eG.tk{X':List Nat}(h:eG w X pb db F M)(C:∀b∈X',b∈X):eG w X' pb db F M:=
 h.oT (.refl X w) (fun b u=>h.og b (C b u)) (fun b u=>.inl (C b u))
def qs6(hdisk:eO w dbk FD D)(hlim:lF D k)(hpag:eG w X pb (pc dbk M) F M)(hsub:∀b∈FD,b∈X)(hW:M.Wf)(hk6:k+5000<=1000000)(ht:0<=M.x6/\M.x6<=1000000000)(hv:Hv w)(hg:HG∉FD)(kk:∀FD' F' w',eO w' dbk FD' (gA D M).1.1->lF (gA D M).1.1 (k+5000)->eG w' (FD'++X) pb (pc dbk (gA D M).1.2) F' (gA D M).1.2->AQ (FD++F) w w' (FD'++F')->K (gA D M).2 w'): cW 72 [dF pb] di w K:=by
 have hall:=dY.Wf.all M hW;have same:∀ {e:Int} {w':World},gA D M=((D,M),e)->Fr [] w w'->K e w':=by
  intro e w' he hf
  have:=kk FD F w' (by rw[he];exact hdisk.q7 hf) (by rw[he];exact hlim.mono oJ) (by rw[he];exact (hpag.q7 hf).tk fun b hb=>(zD.1 hb).elim (hsub b) id) ⟨hf.mono (fun b hb=>by cases hb),fun b hb=>.inl hb⟩
  rw[he] at this;exact this
 have hpag0:=hpag;obtain⟨fb,defb,mb,sl,sn,F1,F2,fs,rfl,hx⟩:=hpag;refine qh6 (p:=pW pb)<|fv (iA (c:=.bool) hx.cell M.Q3 (yh hx.Q8) ?_);refine dW (fun hc=>same (by rw[gA,if_pos hc]) (.refl _ _)) (fun hc=>?_);have ho:¬M.Q3=true:=(by rw[hc];decide);have hof:M.Q3=false:=hc;have hdb:pc dbk M=pW dbk:=if_neg ho;rw[hdb] at hx hpag0;have hxd:=hx.q7 (Fr.refl [] w).drew;have hfl:fs.length=M.J8.length:=(by rw[hx.J8];simp);have hsr:(M.j9.2.drop 3).length=24:=(by rw[yC,hx.Q8]);refine gW (fun b w'=>b=decide (M.J8=[]/\M.J7=[]/\M.Q2=M.j9.2.drop 3)/\w'=w.drew) ?_ ?_;refine fv (iA (w:=w.drew) (c:=.map) hxd.cell (some mb) (sO hx.Q8) ?_);refine qw8 hxd.map ?_;rw[zK,hfl];apply dW<;>intro hc1;have h1:M.J8=[]:=eq_nil_of_length_eq_zero (by have:(M.J8.length:Int)=0:=(oP hc1);omega);refine fv (iA (w:=w.drew) (c:=.ptr) hxd.cell (pW defb) (DC hx.Q8) ?_);refine qtK hxd.J7 ?_;apply dW<;>intro hc2;have h2:M.J7=[]:=eq_nil_of_length_eq_zero (by have:(M.J7.length:Int)=0:=(oP hc2);omega);refine fv (nJ (b:=pb) (off:=36) hxd.cell (M.Q2.map (Value.int .u32)) (by rw[zK,hx.x7]) (CY hx.Q8 hx.x7) ?_);refine fv (nJ (b:=pb) (off:=5) hxd.cell ((M.j9.2.drop 3).map (Value.int .u32)) (by rw[zK,hsr]) (qxg hx.Q8) ?_);refine qvP hx.x7 hsr ⟨?_,rfl⟩;simp[h1,h2];have h2:M.J7≠[]:=fun e=>by rw[e] at hc2;simp at hc2
 exact⟨by simp[h2],rfl⟩;have h1:M.J8≠[]:=fun e=>by rw[e] at hc1;simp at hc1
 exact⟨by simp[h1],rfl⟩;rintro b w1 ⟨rfl,rfl⟩;have f01:Fr [] w w.drew:=(Fr.refl [] w).drew;refine dW (fun hc=>same (by rw[gA,if_neg ho,if_pos (zC hc)]) f01) (fun hc=>?_);have hne:=zB hc;refine qxU (hpag0.q7 f01) hW (fun hpl w2 f2=>?_) (fun sp sm y4 Q9 w2 hpl f2 hrd=>?_);exact cond_true rfl<|same (by rw[gA,if_neg ho,if_neg hne,hpl]) (f01.trans f2);refine cond_false rfl ?_;have hcm:gA D M=if (gD D M.J8 y4 Q9 (fM M y4 Q9)).2≠0 then (((gD D M.J8 y4 Q9 (fM M y4 Q9)).1,tO),(gD D M.J8 y4 Q9 (fM M y4 Q9)).2)
  else (((gD D M.J8 y4 Q9 (fM M y4 Q9)).1,ie (fM M y4 Q9) y4 Q9 (M.x6+1) false Q9),0):=by rw[gA,if_neg ho,if_neg hne,hpl]
 have hplan:=hpl;unfold js at hplan;split at hplan;cases hplan;rename_i hroom;have hpn:=yO hplan;have hpg:y4=M.Q1.take (eI (M.Q1.length+(M.J7++M.Q5).length)):=(congrArg Prod.fst hpn).symm;have hnm:Q9=gz ((M.J7++M.Q5)++M.Q1.drop (eI (M.Q1.length+(M.J7++M.Q5).length))):=(congrArg Prod.snd hpn).symm;have hplf:y4.length<=M.Q1.length:=(by rw[hpg,yL];omega);have hpl4:y4.length<=4096:=oJ;have hnl4:Q9.length<=4096:=by
  have:=qnY ((M.J7++M.Q5)++M.Q1.drop (eI (M.Q1.length+(M.J7++M.Q5).length)))
  rw[<- hnm] at this;simp only[zF,yC] at this;omega
 have hpm:∀x∈y4,2<=x/\x<M.j9.2.getD 0 0:=fun x hx=>by rw[hpg] at hx;exact hW.range x (zH _ (yV hx))
 have hblk4:=hW.n4;have hpu:∀x∈y4,gC x:=fun x hx=>by have:=hpm x hx;constructor<;>omega
 have hns:Q9.Pairwise (· < ·):=(by rw[hnm];exact A6 _);have f02:=f01.trans f2;have hx2:=hx.q7 f02;have hx2d:=hx2.q7 (Fr.refl [] w2).drew;refine fv (iA (w:=w2.drew) (c:=.int .u64) hx2d.cell M.j9.1 qxf ?_);refine fv (iA (w:=w2.drew) (c:=.u) hx2d.cell (M.j9.2.getD 0 0) (Gx hx.Q8 0 oM) ?_);refine fv (nJ (b:=pb) (off:=36) hx2d.cell (M.Q2.map (Value.int .u32)) (by rw[zK,hx.x7]) (CY hx.Q8 hx.x7) ?_);have hmlen:sm.len=Q9.length:=(hrd [] oL).2.1;refine qm (ts:=[gN.kF]) (eT (wrap .u64 (M.j9.1+1)) ([M.j9.2.getD 0 0,0,wrap .u32 (Q9.length:Int)]++M.Q2)) (by rw[<- hmlen];exact qu8 hx.x7 _) ?_;have hplen:sp.len=y4.length:=(hrd [] oL).1.1;refine oI (oE [] w2.drew) tC fun r w3 e3 ho3=>?_;have hx3:=hx2d.q7 ho3.fr;refine mK (vH hx3.cell _ 36 0 (by show _=_;rw[zK,hx.x7];exact CY hx.Q8 hx.x7)) (by show _=_;simp only[Addr.q9];rw[ji hx3.cell];exact Gx hx.Q8 0 oM) (by show _=_;rw[ji hx3.cell];exact qxf) ?_;have l27:([M.j9.2.getD 0 0,0,wrap .u32 (Q9.length:Int)]++M.Q2).length=27:=(by rw[zF,hx.x7];rfl);have n27:(fM M y4 Q9).2.length=27:=(by show ([M.j9.2.getD 0 0,y4.headD 0,wrap .u32 (Q9.length:Int)]++M.Q2).length=27;rw[zF,hx.x7];rfl);have hG:∀b∈FD++pb::mb::(F1++F2),b<w.heap.size:=fun b hb=>by rcases zD.1 hb with h|h;exact hdisk.lt b h;exact hx.lt b h
 have hrdG:=hrd (FD++pb::mb::(F1++F2)) hG;refine Aa ho3 0 rfl rfl l27 fun w4 ho4=>gW (fun _ w'=>dQ [] w2.drew w' [(r,.cells (eT (fM M y4 Q9).1 (fM M y4 Q9).2).toArray 185 (0,0))]) ?_ ?_;apply dW<;>intro hc;have hp0:0<y4.length:=(by have:=zC hc;dsimp only at this;omega);have f24:Fr [] w2 w4:=(Fr.refl [] w2).drew.trans ho4.fr;refine Rd.at ((hrd [] oL).1.q7 f24) 0 rfl (zA hp0)<|oG ho4 0 rfl (eT (fM M y4 Q9).1 (fM M y4 Q9).2).toArray ?_ rfl (by rw[CU l27];exact zO rfl) fun w5 ho5 f5=>ho5;have hh:y4.headD 0=y4[0]:=by
  cases y4 with
  | nil=>simp at hp0
  | cons a r=>rfl
 show dR (eT _ ([M.j9.2.getD 0 0]++0::(wrap .u32 (Q9.length:Int)::M.Q2))).toArray 2 [.u y4[0]]=_
 have:=qoC (q:=wrap .u64 (M.j9.1+1)) (x:=0) (y:=y4[0]) (A:=[M.j9.2.getD 0 0]) (Z:=wrap .u32 (Q9.length:Int)::M.Q2)
 refine this.trans ?_;rw[fM,hh];rfl;have hp0:y4=[]:=eq_nil_of_length_eq_zero (by have:=zB hc;dsimp only at this;omega);have e:eT (fM M y4 Q9).1 (fM M y4 Q9).2=eT (wrap .u64 (M.j9.1+1)) ([M.j9.2.getD 0 0,0,wrap .u32 (Q9.length:Int)]++M.Q2):=by rw[fM,hp0];rfl
 rw[e];exact ho4;rintro _ w5 ho5;refine uL (ho5.at (i:=0) rfl) n27 ?_;have f25:Fr [] w2 w5:=(Fr.refl [] w2).drew.trans ho5.fr;have f05:=f02.trans f25;have hd5:=hdisk.q7 f05;have hp5:=hpag0.q7 f05;have hq0:0<=(fM M y4 Q9).1:=by show 0<=wrap .u64 (M.j9.1+1);unfold wrap;have:(IntKind.u64.signed)=false:=rfl;simp only[this,Bool.false_and,Bool.false_eq_true,if_false];exact Int.emod_nonneg _ oM
 have hkeyU:∀x∈M.J8.map (·.1),gC x:=fun x hx=>by
  have:=hW.range x (zI _ (zI _ (zI _ hx)))
  constructor<;>omega
 have hkeyN:(M.J8.map (·.1)).Nodup:=hW.nodup.sublist (((sublist_append_right _ _).trans (sublist_append_right _ _)).trans (sublist_append_right _ _));refine qv8 (next:=fM M y4 Q9) (D:=D) (DS.refl hd5 hlim) (hp5.tk hsub) hW.body hkeyN hkeyU oJ oJ (hv.q7 f05) hg ((hrdG.2.q7 f25).j6 fun b hb=>.inl (zH _ hb)) ((hrdG.1.q7 f25).j6 fun b hb=>.inl (zH _ hb)) oJ oJ hpu n27 hq0 fun w6 FD6 d6 f6 n6=>?_;have hp6:=hp5.oT (X':=FD6++X) (f6.mono fun b hb _=>hsub b hb) (fun b hb=>(zD.1 hb).elim (d6.at_.lt b) fun hb=>yD (hp5.og b hb) f6.size) fun b hb=>(zD.1 hb).elim (fun hb=>(n6 b hb).imp (hsub b) id) .inl;obtain⟨fb6,defb6,mb6,sl6,sn6,G1,G2,fs6,hF6,hx6⟩:=id hp6;have hpbn:pb∉FD6++X:=fun hm=>hx6.mo pb hm oL;have hFD:∀b∈FD6,b∈FD++pb::mb::(F1++F2)\/w.heap.size<=b:=fun b hb=>by rcases n6 b hb with h|h;exact .inl (zH _ h);exact .inr (zL f05.size h)
 have hlt6:w.heap.size<=w6.heap.size:=zL f05.size f6.size;have f06:Fr (FD++pb::mb::(F1++F2)) w w6:=(f05.mono fun b hb=>by cases hb).trans (f6.mono fun b hb _=>zH _ hb);have hend:∀ {F':List Nat} {w8 w9:World},Fr [pb] w6 w8->Fr [pb] w8 w9->(∀b∈F',b=pb\/w8.heap.size<=b)->AQ (FD++pb::mb::(F1++F2)) w w9 (FD6++F')/\eO w9 dbk FD6 (gD D M.J8 y4 Q9 (fM M y4 Q9)).1:=by intro F' w8 w9 g8 g9 hF';have g69:=g8.trans g9;refine⟨⟨f06.trans (g69.mono fun b hb _=>by simp at hb;subst hb;simp),fun b hb=>?_⟩,d6.at_.q8 g69 fun b hb=>by simp;rintro rfl;exact hpbn (zH _ hb)⟩;rcases zD.1 hb with hb|hb;exact hFD b hb;rcases hF' b hb with h|h;exact .inl (by rw[h];simp);exact .inr (zL (zL hlt6 g8.size) h)
 have hpX:∀ {w8:World},Fr [pb] w6 w8->∀b∈FD6++X,b<w8.heap.size/\b≠pb:=fun g8 b hb=>⟨yD (hp6.og b hb) g8.size,fun e=>hpbn (e▸hb)⟩;have hcell6:=hx6.cell;rw[<- Ev] at hcell6;have hwk:(gV (pW fb6) (pW defb6) (some mb6) M.Q2).length=27:=ww hx.x7;have hlim6:lF (gD D M.J8 y4 Q9 (fM M y4 Q9)).1 (k+5000):=d6.lim.mono oJ;apply dW<;>intro hc;have hc:(gD D M.J8 y4 Q9 (fM M y4 Q9)).2≠0:=(oP hc);rw[if_pos hc] at hcm;rw[hcm] at kk;refine qm (ts:=[gN.kF]) (fh none gx dG dG 0 true (gV none none none (zs 24))).toList (qu6 w6)<|fv ?_;have hsz60:(fh none gx dG dG 0 true (gV none none none (zs 24))).toList.length=60:=(by rw[Array.length_toList,ug rfl];rfl);refine mP hsz60<|qP (b:=pb) (off:=0) hcell6 (fh none gx dG dG 0 true (gV none none none (zs 24))) (by rw[kj (by rw[hsz60,ug hx.Q8,hwk])]) (qz9 (qy3)) (by rw[hsz60,ug hx.Q8,hwk];exact zO rfl) fun w7 c7 f7=>Gb (X:=FD6++X) (Q5:=[]) (Q9:=[]) c7 rfl (ww (oZ 24)) oM (hpX f7) (.nil _ _ _ _) (.nil _ _ _ _) oM fun F' w8 hp8 f8 n8=>?_;have he:=hend f7 f8 n8;exact kk FD6 F' w8 he.2 hlim6 hp8 he.1;have hc:¬(gD D M.J8 y4 Q9 (fM M y4 Q9)).2≠0:=(oP hc);rw[if_neg hc] at hcm;rw[hcm] at kk;have hsup6:w6.heap[r]?=some (.cells (eT (fM M y4 Q9).1 (fM M y4 Q9).2).toArray 185 (0,0)):=(by rw[f6.block r (eZ (ho5.at (i:=0) rfl)) (fun hm=>by have:=hd5.lt r hm;have:=hdisk.lt r hm;have h1:w.heap.size<=w2.drew.heap.size:=f02.size;omega)];exact ho5.at (i:=0) rfl);refine uL hsup6 n27<|fv<|mP (pE n27)<|qP (b:=pb) (off:=1) hcell6 (fh (pW dbk) (fM M y4 Q9) sl6 sn6 M.x6 M.Q3 (gV (pW fb6) (pW defb6) (some mb6) M.Q2)) (qvI hx.Q8 n27) (Cx _ _) (by rw[pE n27,ug hx.Q8,hwk];exact zO rfl) fun w7 c7 f7=>fv<|qP (b:=pb) (off:=29) c7 (fh (pW dbk) (fM M y4 Q9) sp sn6 M.x6 M.Q3 (gV (pW fb6) (pW defb6) (some mb6) M.Q2)) (qqB n27) rfl (by rw[ug n27,hwk];exact zO rfl) fun w8 c8 f8=>fv<|qP (b:=pb) (off:=30) c8 (fh (pW dbk) (fM M y4 Q9) sp sm M.x6 M.Q3 (gV (pW fb6) (pW defb6) (some mb6) M.Q2)) (qqC n27) rfl (by rw[ug n27,hwk];exact zO rfl) fun w9 c9 f9=>?_;have f69:=(f7.trans f8).trans f9;have hGX:∀b∈X++[pb],b<w.heap.size:=fun b hb=>by rcases zD.1 hb with h|h;exact hx.og b h;rw[zE.1 h];exact eZ hx.cell
 have hrdX:=hrd (X++[pb]) hGX;have hst:∀ {s:Sl} {l:List Int},Rd (X++[pb]) w2 s l->Rd ((FD6++X)++[pb]) w9 s l:=fun hr=>by
  have h5:=hr.q7 f25;have h6:Rd ((FD6++X)++[pb]) w6 _ _:=h5.q8 (f6.mono fun b hb _=>zH _ (hsub b hb)) fun b hb=>by rcases zD.1 hb with hb|hb;rcases zD.1 hb with hb|hb;rcases n6 b hb with h|h;exact .inl (zH _ (hsub b h));exact .inr h;exact .inl (zH _ hb);exact .inl (zI _ hb)
  exact h6.q8 (f69.mono fun b hb _=>zI _ hb) fun b hb=>.inl hb
 refine Gb (X:=FD6++X) (Q5:=y4) (Q9:=Q9) c9 n27 hwk ht (hpX f69) (hst hrdX.1) (hst hrdX.2) oJ fun F' w10 hp10 f10 n10=>?_;rw[qp6 hns,hof] at hp10;have he:=hend f69 f10 n10;exact kk FD6 F' w10 he.2 hlim6 hp10 he.1
end
def eV (M:dY) (t h u C:Int):Int×dY:=
 if M.Q3 then (7,M) else if t<0\/t>7 then (4,M) else (0,{ M with Q2:=M.Q2.take (3*t.toNat)++[h,u,C]++M.Q2.drop (3*t.toNat+3) })
def dH (D:dI) (M:dY) (n:Int):Int×List Int×Int:=
 if M.Q3 then (0,[],7) else match look n M.J8 with
 | some q=>(q.2.1,q.2.2,0)
 | none=>if gc M n=false then (0,[],10) else if (eB D n).2≠0 then (0,[],(eB D n).2) else eU n (eB D n).1
def qh5(u:D.Ok)(C:∀e∈M.J8,eF e.2.2)(n:Int):eF (dH D M n).2.1:=by have h:eF ([]:List Int):=fun x E=>nomatch E;unfold dH;split;exact h;split;rename_i q G;exact C _ (sS G).2;split;exact h;split;exact h;exact (qqp (vj u n).1 n).1
def dY.z9 (M:dY):Prop:=(M.Q1++M.J8.map (·.1)).Perm M.Q9
def qlX(s:nC)(y4 numbers:List Int)(t:Int)(ov:Bool):(ie s y4 numbers t ov numbers).z9:=by show (numbers++[]).Perm numbers;rw[xH]
def qvu{kd:Int}(G:M.Wf)(h:M.z9):(fZ M kd l).2.z9:=by
 unfold fZ;split;exact h;split;exact h;split;exact h;rename_i n r C;have u:n∉M.J8.map (·.1):=fun I=>by have E:=G.nodup;rw[C,xJ,nodup_cons] at E;exact E.1 (zI _ (zI _ (zI _ I)))
 show (r++(gL n (kd,l) M.J8).map (·.1)).Perm M.Q9;rw[qsL u,xN,<- zV];refine (perm_append_singleton n _).trans ?_
 have:=h
 rw[dY.z9,C] at this;exact this
def qxl{kd:Int}(h:M.z9):(jf M n kd l).2.z9:=by unfold jf;split;exact h;split;exact h;rename_i q u;split;exact h;have C:n∈M.J8.map (·.1):=mem_map.2 ⟨_,(sS u).2,rfl⟩;show (M.Q1++(gL n (kd,l) M.J8).map (·.1)).Perm M.Q9;rw[qqH C];exact h
def qvf(G:M.Wf)(h:M.z9):(fk M n).2.z9:=by
 unfold fk;split;exact h;split;rename_i q I;have C:n∈M.J8.map (·.1):=mem_map.2 ⟨_,(sS I).2,rfl⟩;have E:=G.nodup;have u:n∉M.Q1:=fun h=>by rw[yM] at E;exact E.2.2 n h n (zI _ (zI _ C)) rfl
 show (ins n M.Q1++(jk n M.J8).map (·.1)).Perm M.Q9;refine (((ze u).append_right _).trans ?_).trans h;exact perm_middle.symm.trans ((qpU C).symm.append_left M.Q1);split;exact h;exact h
def dY.z9.mem(h:M.z9)(x:Int):x∈M.Q9↔x∈M.Q1\/x∈M.J8.map (·.1):=by rw[<- h.mem_iff,zD]
def BP (l:List Int):ByteArray:=⟨(Lib.bytesOf l).toArray⟩
end
section
open Go Go.Pt List
open Go.IntKind (wrap)
open Classical
variable {D:dI} {L:fN} {M:dY} {N Nl Nr:dL} {R R1 R2 b:List Int} {h n1 n2:Nat} {kd n p q:Int} {key m:Key} {r:Int×List Int}
def gI {β:Type} (n:Int) (l:List (Int×β)):Option β:=(look n l).map (·.2)
def vt{β:Type}(n:Int)(p:Int×β)(r:List (Int×β)):gI n (p::r)=if n=p.1 then some p.2 else gI n r:=by unfold gI;rw[look];split;rfl;cases look n r<;>rfl
def qxz{β:Type}(n:Int)(v:β)(p:Int×β)(r:List (Int×β)):gL n v (p::r)=if n=p.1 then (n,v)::r else p::gL n v r:=by by_cases h:n=p.1;rw[if_pos h];unfold gL;rw[look,if_pos h];rfl;rw[if_neg h];unfold gL;rw[look,if_neg h];cases look n r<;>rfl
def qww{β:Type}(n:Int)(p:Int×β)(r:List (Int×β)):jk n (p::r)=if n=p.1 then r else p::jk n r:=by by_cases h:n=p.1;rw[if_pos h];unfold jk;rw[look,if_pos h];rfl;rw[if_neg h];unfold jk;rw[look,if_neg h];cases look n r<;>rfl
def Ge{β:Type}(n q:Int)(v:β):∀l:List (Int×β),gI q (gL n v l)=if q=n then some v else gI q l
 | []=>by show gI q [(n,v)]=_;rw[vt]
 | p::r=>by rw[qxz];by_cases h:n=p.1;rw[if_pos h,vt,vt,<- h];by_cases h2:q=n;rw[if_pos h2,if_pos h2];rw[if_neg h2,if_neg h2,if_neg h2];rw[if_neg h,vt,Ge n q v r,vt];by_cases h2:q=p.1;rw[if_pos h2,if_neg (fun e=>h (by rw[<- e,h2])),if_pos h2];rw[if_neg h2,if_neg h2]
def DL{β:Type}{l:List (Int×β)}:gI n l=none↔n∉l.map (·.1):=by unfold gI;rw[Option.map_eq_none_iff,uh]
def qqh{β:Type}(n q:Int):∀l:List (Int×β),(l.map (·.1)).Nodup->gI q (jk n l)=if q=n then none else gI q l
 | [],_=>by show gI q []=_;split<;>rfl
 | p::r,C=>by have u:=nodup_cons.1 (show (p.1::r.map (·.1)).Nodup from C);rw[qww];by_cases h:n=p.1;rw[if_pos h,vt];by_cases h2:q=n;rw[if_pos h2,h2,h];exact DL.2 u.1;rw[if_neg h2,if_neg (fun e=>h2 (by rw[e,h]))];rw[if_neg h,vt,qqh n q r u.2,vt];by_cases h2:q=p.1;rw[if_pos h2,if_neg (fun e=>h (by rw[<- e,h2])),if_pos h2];rw[if_neg h2,if_neg h2]
def qwT(n:Int):∀l:List Int,l.length<=(ins n l).length
 | []=>yX _
 | a::l=>by
  have:=qwT n l
  simp only[ins];split;simp;split;exact zM _;simp only[yI];omega
def rE:gc M n=true↔2<=n/\n<M.j9.2.getD 0 0/\n∉M.Q5/\n∉M.Q1/\n∉M.J7/\gI n M.J8=none:=by unfold gc gI;rw[Option.map_eq_none_iff];simp only[yB,zT,Bool.or_eq_false_iff,decide_eq_false_iff_not,Option.isNone_iff_eq_none];constructor;rintro⟨⟨⟨⟨⟨G,I⟩,h⟩,u⟩,C⟩,E⟩;exact⟨oJ,oJ,h,u,C,E⟩;rintro⟨G,I,h,u,C,E⟩;exact⟨⟨⟨⟨⟨oJ,oJ⟩,h⟩,u⟩,C⟩,E⟩
def dT (M:dY) (x:Int):Prop:=x∈M.J8.map (·.1)\/gc M x=true
def cJ{x:Int}:x∈M.J8.map (·.1)↔∃q,gI x M.J8=some q:=by
 constructor;intro h;cases e:gI x M.J8 with
 | none=>exact absurd h (DL.1 e)
 | some q=>exact⟨q,rfl⟩
 rintro⟨q,e⟩;exact Classical.byContradiction fun h=>by rw[DL.2 h] at e;cases e
def Dt(h:M.Q3=false)(n:Int):dH D M n=match gI n M.J8 with
  | some q=>(q.1,q.2,0)
  | none=>if gc M n=false then (0,[],10) else if (eB D n).2≠0 then (0,[],(eB D n).2) else eU n (eB D n).1:=by
 unfold dH gI;rw[if_neg (by rw[h];decide)];cases look n M.J8<;>rfl
def Gm(u:M.Q3=false)(h:(dH D M n).2.2=0):dT M n:=by
 rw[Dt u] at h;cases e:gI n M.J8 with
 | some q=>exact .inl (cJ.2 ⟨q,e⟩)
 | none=>
  rw[e] at h;dsimp only at h;split at h;cases h;rename_i C;exact .inr (oP C)
def qxp(M:dY)(u:M.Q3=false){q:Int×List Int}(h:gI n M.J8=some q):dH D M n=(q.1,q.2,0):=by rw[Dt u,h]
def CK(M':dY)(u:M.Q3=false)(h:M'.Q3=false)(C:gI n M'.J8=gI n M.J8)(E:gc M' n=gc M n):dH D M' n=dH D M n:=by rw[Dt u,Dt h,C,E]
def Dj(M':dY)(h:gI n M'.J8=gI n M.J8)(u:gc M' n=gc M n):dT M' n↔dT M n:=by unfold dT;rw[cJ,cJ,h,u]
def Ba(u:M.Wf){x:Int}(h:dT M x):2<=x/\x<M.j9.2.getD 0 0:=by rcases h with h|h;exact u.range x (by simp only[zD];exact .inr (.inr (.inr h)));exact⟨(rE.1 h).1,(rE.1 h).2.1⟩
structure lZ (D:dI) (M M':dY) (q p:Int) (r:Option (Int×List Int)):Prop where
 wf:M'.Wf
 Q3:M'.Q3=false
 Q2:M'.Q2=M.Q2
 j9:M'.j9=M.j9
 Q5:M'.Q5=M.Q5
 Q9:M'.Q9=M.Q9
 z9:M.z9->M'.z9
 x6:M'.x6=M.x6
 rest:∀ x,x≠q->x≠p->dH D M' x=dH D M x
 use:∀ x,x≠q->x≠p->(dT M' x↔dT M x)
 pC:∀ x,gc M' x=true->gc M x=true
 wrote:∀ y,r=some y->dH D M' q=(y.1,y.2,0)/\dT M' q
 left:p≠q->¬ dT M' p
section
variable {D:dI} {M:dY}
def qts{E:List Int}(R:M.Wf)(I:M.Q3=false)(hk:0<=kd/\kd<256)(hB:eF b)(hl:b.length<=500)(J:M.Q1=n::E): ∃M',fZ M kd b=((n,0),M')/\lZ D M M' n n (some (kd,b))/\¬dT M n/\M'.Q1=E/\M'.J7=M.J7:=by
 have e:fZ M kd b=((n,0),{ M with Q1:=E,J8:=gL n (kd,b) M.J8 }):=(by rw[fZ,if_neg (by rw[I];decide),iN,J]);have hw:=(quk (kind:=kd) (body:=b) R hk hB).1;rw[e] at hw;have U:(n::(E++(M.J7++(M.Q5++M.J8.map (·.1))))).Nodup:=(by have:=R.nodup;rw[J] at this;exact this);have V:=nodup_cons.1 U;have aa:n∉M.J8.map (·.1):=fun h=>V.1 (by simp only[zD];exact .inr (.inr (.inr h)));have ab:¬dT M n:=fun h=>by rcases h with h|h;exact aa h;exact (rE.1 h).2.2.2.1 (by rw[J];simp)
 have u:∀x,gI x (gL n (kd,b) M.J8)=if x=n then some (kd,b) else gI x M.J8:=fun x=>Ge n x _ _
 have G:∀x,x≠n->gc { M with Q1:=E,J8:=gL n (kd,b) M.J8 } x=gc M x:=fun x C=>by rw[Bool.eq_iff_iff,rE,rE];dsimp only;rw[u,if_neg C,J,zG];constructor;rintro⟨h1,h2,h3,h4,h5⟩;exact⟨h1,h2,h3,fun h=>h.elim C h4,h5⟩;rintro⟨h1,h2,h3,h4,h5⟩;exact⟨h1,h2,h3,fun h=>h4 (.inr h),h5⟩
 refine⟨_,e,⟨hw,I,rfl,rfl,rfl,rfl,fun h=>?_,rfl,fun x C _=>CK { M with Q1:=E,J8:=gL n (kd,b) M.J8 } I I (by dsimp only;rw[u,if_neg C]) (G x C),fun x C _=>Dj { M with Q1:=E,J8:=gL n (kd,b) M.J8 } (by dsimp only;rw[u,if_neg C]) (G x C),fun x C=>?_,fun y hy=>?_,fun h=>absurd rfl h⟩,ab,rfl,rfl⟩
 have:=qvu (kd:=kd) (l:=b) R h
 rw[e] at this;exact this;by_cases hxn:x=n
 have:=(rE.1 C).2.2.2.2.2
 dsimp only at this;rw[u,if_pos hxn] at this;cases this;rw[G x hxn] at C;exact C;cases hy;refine⟨?_,.inl (cJ.2 ⟨(kd,b),by dsimp only;rw[u,if_pos rfl]⟩)⟩;exact qxp { M with Q1:=E,J8:=gL n (kd,b) M.J8 } I (by dsimp only;rw[u,if_pos rfl])
def qvG(R:M.Wf)(G:M.Q3=false)(U:0<=kd/\kd<256)(V:eF b)(hl:b.length<=500)(hf:n∈M.J8.map (·.1)): ∃M',jf M n kd b=(0,M')/\lZ D M M' n n (some (kd,b))/\M'.Q1=M.Q1/\M'.J7=M.J7:=by
 obtain⟨v,I⟩:=cJ.1 hf;have e:jf M n kd b=(0,{ M with J8:=gL n (kd,b) M.J8 }):=by unfold gI at I;obtain⟨q,hq,_⟩:=yT.1 I;rw[jf,if_neg (by rw[G];decide),hq];dsimp only;rw[iN]
 have J:=(qxn (n:=n) (kind:=kd) (body:=b) R U V).1;rw[e] at J;have u:∀x,gI x (gL n (kd,b) M.J8)=if x=n then some (kd,b) else gI x M.J8:=fun x=>Ge n x _ _
 have E:∀x,gc { M with J8:=gL n (kd,b) M.J8 } x=gc M x:=fun x=>by rw[Bool.eq_iff_iff,rE,rE];dsimp only;rw[u];by_cases C:x=n;rw[if_pos C,C,I];simp;rw[if_neg C]
 refine⟨_,e,⟨J,G,rfl,rfl,rfl,rfl,fun h=>?_,rfl,fun x C _=>CK { M with J8:=gL n (kd,b) M.J8 } G G (by dsimp only;rw[u,if_neg C]) (E x),fun x C _=>Dj { M with J8:=gL n (kd,b) M.J8 } (by dsimp only;rw[u,if_neg C]) (E x),fun x C=>by rw[E x] at C;exact C,fun y hy=>?_,fun h=>absurd rfl h⟩,rfl,rfl⟩
 have:=qxl (n:=n) (kd:=kd) (l:=b) h
 rw[e] at this;exact this;cases hy;refine⟨?_,.inl (cJ.2 ⟨(kd,b),by dsimp only;rw[u,if_pos rfl]⟩)⟩;exact qxp { M with J8:=gL n (kd,b) M.J8 } G (by dsimp only;rw[u,if_pos rfl])
def qxm(h:M.Q3=false)(u:n∉M.J8.map (·.1)):jf M n kd b=(10,M):=by rw[jf,if_neg (by rw[h];decide),uh.2 u]
def ql4(hW:M.Wf)(V:M.Q3=false)(hu:dT M n)(J:n≠q): ∃M',fk M n=(0,M')/\lZ D M M' q n none/\(dH D M' q=dH D M q)/\(dT M' q↔dT M q)/\M.Q1.length<=M'.Q1.length:=by
 have hw:=qt2 (n:=n) hW;by_cases hf:n∈M.J8.map (·.1);obtain⟨v,hv⟩:=cJ.1 hf;have ai:(M.J8.map (·.1)).Nodup:=hW.y8;have e:fk M n=(0,{ M with J8:=jk n M.J8,Q1:=ins n M.Q1 }):=by unfold gI at hv;obtain⟨y,R,_⟩:=yT.1 hv;rw[fk,if_neg (by rw[V];decide),R]
 rw[e] at hw;have U:∀x,gI x (jk n M.J8)=if x=n then none else gI x M.J8:=fun x=>qqh n x _ ai
 have E:∀x,x≠n->gc { M with J8:=jk n M.J8,Q1:=ins n M.Q1 } x=gc M x:=fun x u=>by rw[Bool.eq_iff_iff,rE,rE];dsimp only;rw[U,if_neg u,zd];constructor;rintro⟨h1,h2,h3,h4,h5⟩;exact⟨h1,h2,h3,fun h=>h4 (.inr h),h5⟩;rintro⟨h1,h2,h3,h4,h5⟩;exact⟨h1,h2,h3,fun h=>h.elim u h4,h5⟩
 have G:¬dT { M with J8:=jk n M.J8,Q1:=ins n M.Q1 } n:=fun h=>by rcases h with h|h;obtain⟨y,R⟩:=cJ.1 h;dsimp only at R;rw[U,if_pos rfl] at R;cases R;exact (rE.1 h).2.2.2.1 (zd.2 (.inl rfl))
 have I:∀x,x≠n->dH D { M with J8:=jk n M.J8,Q1:=ins n M.Q1 } x=dH D M x:=fun x u=>CK { M with J8:=jk n M.J8,Q1:=ins n M.Q1 } V V (by dsimp only;rw[U,if_neg u]) (E x u);have C:∀x,x≠n->(dT { M with J8:=jk n M.J8,Q1:=ins n M.Q1 } x↔dT M x):=fun x u=>Dj { M with J8:=jk n M.J8,Q1:=ins n M.Q1 } (by dsimp only;rw[U,if_neg u]) (E x u);refine⟨_,e,⟨hw,V,rfl,rfl,rfl,rfl,fun h=>?_,rfl,fun x _ u=>I x u,fun x _ u=>C x u,fun x u=>?_,fun y R=>(nomatch R),fun _=>G⟩,I q fun e=>J e.symm,C q fun e=>J e.symm,?_⟩
 have:=qvf (n:=n) hW h
 rw[e] at this;exact this;by_cases hxn:x=n;subst hxn;exact absurd (.inr u) G;rw[E x hxn] at u;exact u;exact qwT n M.Q1;have af:gc M n=true:=hu.resolve_left hf;have e:fk M n=(0,{ M with J7:=ins n M.J7 }):=by rw[fk,if_neg (by rw[V];decide),uh.2 hf];dsimp only;rw[if_pos af]
 rw[e] at hw;have E:∀x,x≠n->gc { M with J7:=ins n M.J7 } x=gc M x:=fun x u=>by rw[Bool.eq_iff_iff,rE,rE];dsimp only;rw[zd];constructor;rintro⟨h1,h2,h3,h4,h5,h6⟩;exact⟨h1,h2,h3,h4,fun h=>h5 (.inr h),h6⟩;rintro⟨h1,h2,h3,h4,h5,h6⟩;exact⟨h1,h2,h3,h4,fun h=>h.elim u h5,h6⟩
 have G:¬dT { M with J7:=ins n M.J7 } n:=fun h=>by rcases h with h|h;exact hf h;exact (rE.1 h).2.2.2.2.1 (zd.2 (.inl rfl))
 have I:∀x,x≠n->dH D { M with J7:=ins n M.J7 } x=dH D M x:=fun x u=>CK { M with J7:=ins n M.J7 } V V rfl (E x u);have C:∀x,x≠n->(dT { M with J7:=ins n M.J7 } x↔dT M x):=fun x u=>Dj { M with J7:=ins n M.J7 } rfl (E x u);refine⟨_,e,⟨hw,V,rfl,rfl,rfl,rfl,fun h=>?_,rfl,fun x _ u=>I x u,fun x _ u=>C x u,fun x u=>?_,fun y R=>(nomatch R),fun _=>G⟩,I q fun e=>J e.symm,C q fun e=>J e.symm,zM _⟩;exact h;by_cases hxn:x=n;subst hxn;exact absurd (.inr u) G;rw[E x hxn] at u;exact u
end
noncomputable def dJ (D:dI) (M:dY) (k v:Nat) (p:Int):dL×Int:=
 if (dH D M p).2.2≠0 then (ip,(dH D M p).2.2) else iv (dH D M p).1 (dH D M p).2.1 k v
noncomputable def dO (k v:Nat) (M:dY) (p:Int) (n:dL):(Int×Int)×dY:=
 if (eM n k v).2.2≠0 then ((0,2),M)
 else if p≠0/\(jf M p (eM n k v).1 (eM n k v).2.1).1≠10 then ((p,(jf M p (eM n k v).1 (eM n k v).2.1).1),(jf M p (eM n k v).1 (eM n k v).2.1).2)
 else if (fZ M (eM n k v).1 (eM n k v).2.1).1.2=0/\p≠0 then (((fZ M (eM n k v).1 (eM n k v).2.1).1.1,(fk (fZ M (eM n k v).1 (eM n k v).2.1).2 p).1),(fk (fZ M (eM n k v).1 (eM n k v).2.1).2 p).2)
 else fZ M (eM n k v).1 (eM n k v).2.1
structure ic (n:dL) (k v:Nat):Prop where
 right:fC n k v
 J6:∀ a∈n.J6,eF a
 Q0:∀ a∈n.Q0,eF a
 J9:∀ x∈n.J9,x<4294967296
def ic.load{k v:Nat}{n:dL}(h:ic n k v)(u:dH D M p=(iC n,gd n,0)):dJ D M k v p=(n,0):=by unfold dJ;rw[u];exact (if_neg (fun h=>h rfl)).trans (qvL h.right h.J9)
def qsR{k v:Nat}{n:dL}(hW:M.Wf)(ho:M.Q3=false)(hn:ic n k v)(hp:p=0\/dT M p)(hf:M.Q1≠[]): ∃q M',dO k v M p n=((q,0),M')/\lZ D M M' q (if p=0 then q else p) (some (iC n,gd n))/\(q=p\/¬dT M q)/\M.Q1.length<=M'.Q1.length+1/\(p∈M.J8.map (·.1)->q=p/\M'.Q1=M.Q1):=by
 have hw:eM n k v=(iC n,gd n,0):=(by unfold eM;rw[if_pos hn.right]);have hB:=qpJ hn.J6 hn.Q0;have hl:=(C7 hn.right).2;have hk:0<=iC n/\iC n<256:=(by unfold iC;split<;>exact⟨oM,oM⟩);unfold dO;rw[hw];dsimp only;rw[if_neg (fun h=>h rfl)];obtain⟨q,fr,I⟩:∃q fr,M.Q1=q::fr:=by
  cases e:M.Q1 with
  | nil=>exact absurd e hf
  | cons q fr=>exact⟨q,fr,rfl⟩
 obtain⟨M1,e1,u,J,ab,_⟩:=qts (D:=D) hW ho hk hB hl I;rcases hp with rfl|hp;rw[if_neg (fun h=>h.1 rfl),if_neg (fun h=>h.2 rfl),e1];refine⟨q,M1,rfl,by rw[if_pos rfl];exact u,.inr J,by rw[I,ab];exact zM _,fun h=>?_⟩
 have:=(Ba hW (.inl h)).1
 omega;have E:p≠0:=(by have:=(Ba hW hp).1;omega);by_cases hfp:p∈M.J8.map (·.1);obtain⟨M2,e2,C,R,_⟩:=qvG (D:=D) hW ho hk hB hl hfp;rw[e2,if_pos ⟨E,(show (0:Int)≠10 by decide)⟩];exact⟨p,M2,rfl,by rw[if_neg E];exact C,.inl rfl,by rw[R];omega,fun _=>⟨rfl,R⟩⟩;rw[qxm ho hfp,if_neg (fun h=>h.2 rfl),e1,if_pos ⟨rfl,E⟩];have U:p≠q:=fun e=>J (e▸hp);have ai:dT M1 p:=(u.use p U U).2 hp;obtain⟨M2,e2,C,aj,ak,R⟩:=ql4 (D:=D) u.wf u.Q3 ai U;dsimp only;rw[e2];refine⟨q,M2,rfl,?_,.inr J,by rw[I,yI,<- ab];omega,fun h=>absurd h hfp⟩;rw[if_neg E];exact⟨C.wf,C.Q3,C.Q2.trans u.Q2,C.j9.trans u.j9,C.Q5.trans u.Q5,C.Q9.trans u.Q9,fun h=>C.z9 (u.z9 h),C.x6.trans u.x6,fun x G V=>(C.rest x G V).trans (u.rest x G G),fun x G V=>(C.use x G V).trans (u.use x G G),fun x G=>u.pC x (C.pC x G),fun y hy=>by
  have:=u.wrote y hy
  exact⟨aj.trans this.1,ak.2 this.2⟩,fun h=>C.left h⟩
section
structure Grown where
 x5:Int
 J8:Bool
 key:Key
 x4:Int
def nW:Grown:=⟨0,false,[],0⟩
def fE {α:Type} (l:List α) (i:Nat) (x:α):List α:=l.take i++[x]++l.drop i
def eP (n:dL) (k v:Nat):Nat×Nat:=if n.Q4 then (n.J6.length,(dV k v).1) else (n.J9.length,(dV k v).2)
def ee (n:dL) (mid:Nat):dL×dL×Key:=
 if n.Q4 then ({ n with J6:=n.J6.take mid,Q0:=n.Q0.take mid },{ n with J6:=n.J6.drop mid,Q0:=n.Q0.drop mid },n.J6.getD mid [])
 else ({ n with J9:=n.J9.take mid,J6:=n.J6.take (mid-1) },{ n with J9:=n.J9.drop mid,J6:=n.J6.drop mid },n.J6.getD (mid-1) [])
noncomputable def fY (k v:Nat) (M:dY) (p:Int) (n:dL) (J8:Bool):(Grown×Int)×dY:=
 if (eP n k v).1>(eP n k v).2 then
  if (dO k v M 0 (ee n ((eP n k v).1 / 2)).2.1).1.2≠0 then ((nW,(dO k v M 0 (ee n ((eP n k v).1 / 2)).2.1).1.2),(dO k v M 0 (ee n ((eP n k v).1 / 2)).2.1).2)
  else ((⟨(dO k v (dO k v M 0 (ee n ((eP n k v).1 / 2)).2.1).2 p (ee n ((eP n k v).1 / 2)).1).1.1,J8,(ee n ((eP n k v).1 / 2)).2.2,(dO k v M 0 (ee n ((eP n k v).1 / 2)).2.1).1.1⟩,
    (dO k v (dO k v M 0 (ee n ((eP n k v).1 / 2)).2.1).2 p (ee n ((eP n k v).1 / 2)).1).1.2),
    (dO k v (dO k v M 0 (ee n ((eP n k v).1 / 2)).2.1).2 p (ee n ((eP n k v).1 / 2)).1).2)
 else ((⟨(dO k v M p n).1.1,J8,[],0⟩,(dO k v M p n).1.2),(dO k v M p n).2)
def gw (n:dL) (c:Nat) (g:Grown):dL:=
 if g.x4≠0 then { n with J9:=fE (n.J9.set c g.x5) (c+1) g.x4,J6:=fE n.J6 c g.key } else { n with J9:=n.J9.set c g.x5 }
noncomputable def gT (D:dI) (k v:Nat) (key val:Key):Nat->dY->Int->(Grown×Int)×dY
 | 0,M,_=>((nW,-1),M)
 | f+1,M,p=>
  if (dJ D M k v p).2≠0 then ((nW,(dJ D M k v p).2),M)
  else if (dJ D M k v p).1.Q4 then
   if (dJ D M k v p).1.J6[dN (dJ D M k v p).1.J6 key]?=some key then fY k v M p { (dJ D M k v p).1 with Q0:=(dJ D M k v p).1.Q0.set (dN (dJ D M k v p).1.J6 key) val } false
   else fY k v M p { (dJ D M k v p).1 with J6:=fE (dJ D M k v p).1.J6 (dN (dJ D M k v p).1.J6 key) key,Q0:=fE (dJ D M k v p).1.Q0 (dN (dJ D M k v p).1.J6 key) val } true
  else if (gT D k v key val f M ((dJ D M k v p).1.J9.getD (en (dJ D M k v p).1.J6 key) 0)).1.2≠0 then
   ((nW,(gT D k v key val f M ((dJ D M k v p).1.J9.getD (en (dJ D M k v p).1.J6 key) 0)).1.2),(gT D k v key val f M ((dJ D M k v p).1.J9.getD (en (dJ D M k v p).1.J6 key) 0)).2)
  else if (gT D k v key val f M ((dJ D M k v p).1.J9.getD (en (dJ D M k v p).1.J6 key) 0)).1.1.x5=(dJ D M k v p).1.J9.getD (en (dJ D M k v p).1.J6 key) 0/\(gT D k v key val f M ((dJ D M k v p).1.J9.getD (en (dJ D M k v p).1.J6 key) 0)).1.1.x4=0 then
   ((⟨p,(gT D k v key val f M ((dJ D M k v p).1.J9.getD (en (dJ D M k v p).1.J6 key) 0)).1.1.J8,[],0⟩,0),(gT D k v key val f M ((dJ D M k v p).1.J9.getD (en (dJ D M k v p).1.J6 key) 0)).2)
  else fY k v (gT D k v key val f M ((dJ D M k v p).1.J9.getD (en (dJ D M k v p).1.J6 key) 0)).2 p (gw (dJ D M k v p).1 (en (dJ D M k v p).1.J6 key) (gT D k v key val f M ((dJ D M k v p).1.J9.getD (en (dJ D M k v p).1.J6 key) 0)).1.1) (gT D k v key val f M ((dJ D M k v p).1.J9.getD (en (dJ D M k v p).1.J6 key) 0)).1.1.J8
structure gY where
 x5:Int
 size:Nat
 y3:fN
 y4:List Int
abbrev gH:=Key×gY
def ef (L:fN):dL:=⟨true,L.map (·.1),L.map (·.2),[]⟩
def dM (es:List gH):dL:=⟨false,(es.map (·.1)).tail,[],es.map (·.2.x5)⟩
structure fK (es:List gH):Prop where
 pair:es.Pairwise fun a b=>fI a.1 b.1/\∀ x∈a.2.y3,fI x.1 b.1
 low:∀ e∈es,∀ x∈e.2.y3,lJ e.1 x.1
def minOf (k v:Nat) (h:Nat):Nat:=if h=0 then (dV k v).1 / 2 else (dV k v).2 / 2
def Has (D:dI) (M:dY) (k v:Nat):Nat->gY->Prop
 | 0,s=>s.y4=[s.x5]/\s.size=s.y3.length/\ic (ef s.y3) k v/\dH D M s.x5=(3,gd (ef s.y3),0)
 | h+1,s=>∃u:List gH,(u.map (·.1)).head?=some []/\s.size=u.length/\s.y3=u.flatMap (·.2.y3)/\s.y4=s.x5::u.flatMap (·.2.y4)/\ic (dM u) k v/\dH D M s.x5=(4,gd (dM u),0)/\fK u/\
   ∀e∈u,Has D M k v h e.2/\minOf k v h<=e.2.size
def Bw(x:Key):lJ [] x:=by unfold lJ fI;cases x<;>simp[cmpL]
def qmp{x:Key}:¬fI x []:=Bw x
section
variable {D:dI} {M M':dY} {k v:Nat}
def Has.mem:∀ {h:Nat} {s:gY},Has D M k v h s->s.x5∈s.y4
 | 0,s,u=>by rw[u.1];simp
 | h+1,s,⟨E,_,_,_,C,_⟩=>by rw[C];simp
def Has.q8:∀ {h:Nat} {s:gY},Has D M k v h s->(∀x∈s.y4,dH D M' x=dH D M x)->Has D M' k v h s
 | 0,s,⟨C,G,u,I⟩,E=>⟨C,G,u,by rw[E s.x5 (by rw[C];simp)];exact I⟩
 | h+1,s,⟨U,V,C,G,u,I,h5,h6,R⟩,E=>⟨U,V,C,G,u,I,by rw[E s.x5 (by rw[u];simp)];exact h5,h6,fun e J=>⟨(R e J).1.q8 fun x hx=>E x (by rw[u];exact zN _ (yK.2 ⟨e,J,hx⟩)),(R e J).2⟩⟩
def Has.read:∀ {h:Nat} {s:gY},Has D M k v h s->∀x∈s.y4,(dH D M x).2.2=0
 | 0,s,⟨C,I,E,G⟩,x,u=>by rw[C] at u;rw[zE.1 u,G]
 | h+1,s,⟨V,h0,C,I,E,G,J,h6,R⟩,x,u=>by rw[E] at u;rcases zG.1 u with rfl|u;rw[J];obtain⟨e,U,u⟩:=yK.1 u;exact (R e U).1.read x u
def Has.J4(u:M.Q3=false){s:gY}(C:Has D M k v h s):∀x∈s.y4,dT M x:=fun x E=>Gm u (C.read x E)
def fC.wV(h:fC (ef L) k v):L≠[]:=fun e=>by
 have:=h.2.2.2
 rw[if_pos (show (ef L).Q4=true from rfl)] at this;have u:=this.2.1;rw[e] at u;exact absurd u oM
def fC.x9{es:List gH}(h:fC (dM es) k v):2<=es.length/\es.length<=(dV k v).2:=by
 have:=h.2.2.2
 rw[if_neg (show ¬(dM es).Q4=true from fun e=>nomatch e)] at this;have u:=this.2.2.1;have C:=this.2.2.2.1;have e:(dM es).J9.length=es.length:=(by show (es.map _).length=_;rw[zK]);rw[e] at u C;exact⟨u,C⟩
def Has.ne:∀ {h:Nat} {s:gY},Has D M k v h s->s.y3≠[]
 | 0,s,⟨G,u,C,E⟩=>C.right.wV
 | h+1,s,⟨I,R,G,u,C,E,U,V,J⟩=>fun e=>by
  have:=E.right.x9
  cases I with
  | nil=>simp at this
  | cons a r=>
   rw[u,yH] at e;exact (J a oL).1.ne (append_eq_nil_iff.1 e).1
def fK.mid{A B:List gH}{e:gH}(h:fK (A++e::B)):(∀a∈A,∀x∈a.2.y3,fI x.1 e.1)/\(∀b∈B,fI e.1 b.1/\(∀x∈e.2.y3,fI x.1 b.1)/\∀y∈b.2.y3,lJ b.1 y.1):=by
 have u:=pairwise_append.1 h.pair;refine⟨fun a E x G=>(u.2.2 a E e oL).2 x G,fun b C=>?_⟩
 have:=(yJ.1 u.2.1).1 b C
 exact⟨this.1,this.2,h.low b (by simp[C])⟩
def fK.sort:∀ {es:List gH},fK es->(∀e∈es,e9 e.2.y3)->e9 (es.flatMap (·.2.y3))
 | [],_,_=>.nil
 | e::es,h,E=>by rw[yH,e9.sY];have G:=yJ.1 h.pair;refine⟨E e oL,fK.sort ⟨G.2,fun e u=>h.low e (zN _ u)⟩ fun e u=>E e (zN _ u),fun x J y C=>?_⟩;obtain⟨b,I,C⟩:=yK.1 C;exact qY ((G.1 b I).2 x J) (h.low b (zN _ I) y C)
def Has.sort:∀ {h:Nat} {s:gY},Has D M k v h s->e9 s.y3
 | 0,s,⟨E,u,C,G⟩=>C.right.2.2.1
 | h+1,s,⟨U,V,E,u,C,G,h5,I,J⟩=>by rw[u];exact I.sort fun e R=>(J e R).1.sort
def lX (k v:Nat) (L:fN):Prop:=∀x∈L,x.1.length=k/\x.2.length=v/\eF x.1/\eF x.2
def Has.vM:∀ {h:Nat} {s:gY},Has D M k v h s->lX k v s.y3
 | 0,s,⟨G,E,C,I⟩=>fun x u=>⟨C.right.1 x.1 (zZ u),C.right.2.1 x.2 (zZ u),C.J6 x.1 (zZ u),C.Q0 x.2 (zZ u)⟩
 | h+1,s,⟨U,V,G,E,C,I,h5,h6,J⟩=>fun x u=>by rw[E] at u;obtain⟨e,R,u⟩:=yK.1 u;exact (J e R).1.vM x u
def A4(C:lX k v L)(E:e9 L)(G:1<=L.length)(I:L.length<=(dV k v).1):ic (ef L) k v:=by refine⟨⟨fun a u=>?_,fun a u=>?_,E,?_⟩,fun a u=>?_,fun a u=>?_,fun x h=>nomatch h⟩;obtain⟨x,h,rfl⟩:=mem_map.1 u;exact (C x h).1;obtain⟨x,h,rfl⟩:=mem_map.1 u;exact (C x h).2.1;rw[if_pos (show (ef L).Q4=true from rfl)];refine⟨rfl,?_,?_,?_⟩;show 1<=(L.map _).length;rw[zK];exact G;show (L.map _).length<=_;rw[zK];exact I;show (L.map _).length=(L.map _).length;rw[zK,zK];obtain⟨x,h,rfl⟩:=mem_map.1 u;exact (C x h).2.2.1;obtain⟨x,h,rfl⟩:=mem_map.1 u;exact (C x h).2.2.2
def qzK{es:List gH}(E:∀a∈(es.map (·.1)).tail,a.length=k/\eF a)(I:fJ (es.map (·.1)).tail)(J:2<=es.length)(R:es.length<=(dV k v).2)(G:∀e∈es,2<=e.2.x5/\e.2.x5<4294967296):ic (dM es) k v:=by refine⟨⟨fun a h=>(E a h).1,fun a h=>(nomatch h),I,?_⟩,fun a h=>(E a h).2,fun a h=>(nomatch h),fun x u=>?_⟩;rw[if_neg (show ¬(dM es).Q4=true from fun e=>nomatch e)];have e1:(dM es).J9.length=es.length:=(by show (es.map _).length=_;rw[zK]);have U:(dM es).J6.length=es.length-1:=(by show ((es.map _).tail).length=_;rw[length_tail,zK]);refine⟨fun x u=>?_,rfl,by rw[e1];exact J,by rw[e1];exact R,by rw[e1,U];omega⟩;obtain⟨e,C,rfl⟩:=mem_map.1 u;exact (G e C).1;obtain⟨e,C,rfl⟩:=mem_map.1 u;exact (G e C).2
def fK.rising{es:List gH}(h:fK es):fJ (es.map (·.1)).tail:=by have u:(es.map (·.1)).Pairwise fI:=pairwise_map.2 (h.pair.imp fun h=>h.1);exact List.Pairwise.sublist (tail_sublist _) u
structure Step (D:dI) (M M':dY) (P P':List Int):Prop where
 wf:M'.Wf
 Q3:M'.Q3=false
 Q2:M'.Q2=M.Q2
 j9:M'.j9=M.j9
 Q5:M'.Q5=M.Q5
 Q9:M'.Q9=M.Q9
 z9:M.z9->M'.z9
 x6:M'.x6=M.x6
 rest:∀ x,dT M x->x∉P->dH D M' x=dH D M x/\dT M' x/\x∉P'
 use:∀ x,dT M' x->x∈P'\/(dT M x/\x∉P)
 has:∀ x∈P',dT M' x
 new:∀ x∈P',x∈P\/¬ dT M x
 nodup:P'.Nodup
 pC:∀ x,gc M' x=true->gc M x=true
def Step.refl(C:M.Wf)(E:M.Q3=false){P:List Int}(G:∀x∈P,dT M x)(I:P.Nodup):Step D M M P P:=
 ⟨C,E,rfl,rfl,rfl,rfl,id,rfl,fun x u J=>⟨rfl,u,J⟩,fun x u=>by by_cases h:x∈P;exact .inl h;exact .inr ⟨u,h⟩,G,fun x u=>.inl u,I,fun x u=>u⟩
def Step.perm{P P' Q I:List Int}(h:Step D M M' P P')(G:P.Perm Q)(u:P'.Perm I):Step D M M' Q I:=
 ⟨h.wf,h.Q3,h.Q2,h.j9,h.Q5,h.Q9,h.z9,h.x6,fun x C J=>by obtain⟨R,U,V⟩:=h.rest x C (fun E=>J (G.mem_iff.1 E));exact⟨R,U,fun E=>V (u.mem_iff.2 E)⟩,fun x C=>(h.use x C).imp (fun h=>u.mem_iff.1 h) fun h=>⟨h.1,fun E=>h.2 (G.mem_iff.2 E)⟩,fun x C=>h.has x (u.mem_iff.2 C),fun x C=>(h.new x (u.mem_iff.2 C)).imp (fun h=>G.mem_iff.1 h) id,u.nodup_iff.1 h.nodup,h.pC⟩
def Step.beside{P P' Z:List Int}(h:Step D M M' P P')(R:∀x∈Z,dT M x)(V:(Z++P).Nodup):Step D M M' (Z++P) (Z++P'):=by have U:=yM.1 V;have E:∀x∈Z,x∉P:=fun x u I=>U.2.2 x u x I rfl;refine⟨h.wf,h.Q3,h.Q2,h.j9,h.Q5,h.Q9,h.z9,h.x6,fun x u I=>?_,fun x u=>?_,fun x u=>?_,fun x u=>?_,?_,h.pC⟩;obtain⟨G,J,h3⟩:=h.rest x u (fun C=>I (zI _ C));exact⟨G,J,fun C=>(zD.1 C).elim (fun C=>I (zH _ C)) h3⟩;rcases h.use x u with G|⟨G,J⟩;exact .inl (zI _ G);by_cases hz:x∈Z;exact .inl (zH _ hz);exact .inr ⟨G,fun C=>(zD.1 C).elim hz J⟩;rcases zD.1 u with u|u;exact (h.rest x (R x u) (E x u)).2.1;exact h.has x u;rcases zD.1 u with u|u;exact .inl (zH _ u);exact (h.new x u).imp (fun h=>zI _ h) id;rw[yM];exact⟨U.1,h.nodup,fun x u y hy e=>(h.rest x (R x u) (E x u)).2.2 (e▸hy)⟩
def Step.trans{M1:dY}{P Q R:List Int}(h:Step D M M1 P Q)(g:Step D M1 M' Q R):Step D M M' P R:=
 ⟨g.wf,g.Q3,g.Q2.trans h.Q2,g.j9.trans h.j9,g.Q5.trans h.Q5,g.Q9.trans h.Q9,fun x=>g.z9 (h.z9 x),g.x6.trans h.x6,fun x C I=>by
  obtain⟨u,E,G⟩:=h.rest x C I;obtain⟨J,U,V⟩:=g.rest x E G;exact⟨J.trans u,U,V⟩,fun x C=>by
  rcases g.use x C with u|⟨u,E⟩;exact .inl u;exact (h.use x u).elim (fun G=>absurd G E) .inr,g.has,fun x C=>by
  rcases g.new x C with u|u;exact h.new x u;by_cases hP:x∈P;exact .inl hP;by_cases hu:dT M x;exact absurd (h.rest x hu hP).2.1 u;exact .inr hu,g.nodup,fun x C=>h.pC x (g.pC x C)⟩
def lZ.step(J:M.Q3=false)(h:lZ D M M' q p (some r))(R:dT M p)(E:q=p\/¬dT M q):Step D M M' [p] [q]:=by
 have I:=h.wrote r rfl;refine⟨h.wf,h.Q3,h.Q2,h.j9,h.Q5,h.Q9,h.z9,h.x6,fun x G u=>?_,fun x G=>?_,fun x G=>?_,fun x G=>?_,oL,h.pC⟩;have u:x≠p:=(oP u);have C:x≠q:=fun e=>by rcases E with E|E;exact u (e.trans E);exact E (e▸G)
 exact⟨h.rest x C u,(h.use x C u).2 G,by simpa using C⟩;by_cases C:x=q;exact .inl (by simp[C]);by_cases u:x=p;subst u;exact absurd G (h.left (fun e=>C e));exact .inr ⟨(h.use x C u).1 G,by simpa using u⟩;rw[zE.1 G];exact I.2;rw[zE.1 G];rcases E with E|E;exact .inl (by simp[E]);exact .inr E
def lZ.J8(I:M.Q3=false)(h:lZ D M M' q q (some r))(E:¬dT M q):Step D M M' [] [q]:=by have G:=h.wrote r rfl;refine⟨h.wf,h.Q3,h.Q2,h.j9,h.Q5,h.Q9,h.z9,h.x6,fun x C _=>?_,fun x C=>?_,fun x C=>?_,fun x C=>?_,oL,h.pC⟩;have u:x≠q:=fun e=>E (e▸C);exact⟨h.rest x u u,(h.use x u u).2 C,by simpa using u⟩;by_cases u:x=q;exact .inl (by simp[u]);exact .inr ⟨(h.use x u u).1 C,oL⟩;rw[zE.1 C];exact G.2;rw[zE.1 C];exact .inr E
end
end
section
section
variable {D:dI} {M M':dY} {k v:Nat}
def GD{n:dL}(C:M.Wf)(E:M.Q3=false)(G:ic n k v)(h:dT M p)(I:M.Q1≠[]): ∃q M',dO k v M p n=((q,0),M')/\Step D M M' [p] [q]/\dH D M' q=(iC n,gd n,0)/\M.Q1.length<=M'.Q1.length+1/\(p∈M.J8.map (·.1)->q=p/\M'.Q1=M.Q1):=by obtain⟨q,M',e,t,J,R,U⟩:=qsR (D:=D) C E G (.inr h) I;have u:p≠0:=(by have:=(Ba C h).1;omega);rw[if_neg u] at t;exact⟨q,M',e,t.step E h J,(t.wrote _ rfl).1,R,U⟩
def GM{n:dL}(E:M.Wf)(u:M.Q3=false)(G:ic n k v)(I:M.Q1≠[]): ∃q M',dO k v M 0 n=((q,0),M')/\Step D M M' [] [q]/\dH D M' q=(iC n,gd n,0)/\M.Q1.length<=M'.Q1.length+1/\q≠0:=by obtain⟨q,M',e,t,J,R,_⟩:=qsR (D:=D) E u G (.inl rfl) I;rw[if_pos rfl] at t;have C:=t.wrote _ rfl;have U:=(Ba t.wf C.2).1;have h:¬dT M q:=J.resolve_left oJ;exact⟨q,M',e,t.J8 u h,C.1,R,oJ⟩
def qmw{n:dL}{J8:Bool}(h:M.Wf)(u:M.Q3=false)(C:ic n k v)(R:(eP n k v).1<=(eP n k v).2)(E:dT M p)(G:M.Q1≠[]): ∃q M',fY k v M p n J8=((⟨q,J8,[],0⟩,0),M')/\Step D M M' [p] [q]/\dH D M' q=(iC n,gd n,0)/\M.Q1.length<=M'.Q1.length+1:=by obtain⟨q,M',e,st,I,J,_⟩:=GD (D:=D) h u C E G;refine⟨q,M',?_,st,I,J⟩;unfold fY;rw[iN,e]
def qqM{n:dL}{J8:Bool}{mid:Nat}(hW:M.Wf)(ho:M.Q3=false)(C:(eP n k v).1 / 2=mid)(h1:ic (ee n mid).1 k v)(h2:ic (ee n mid).2.1 k v)(hs:(eP n k v).1>(eP n k v).2)(hp:dT M p)(hf:2<=M.Q1.length): ∃q o M',fY k v M p n J8=((⟨q,J8,(ee n mid).2.2,o⟩,0),M')/\o≠0/\Step D M M' [p] [q,o]/\dH D M' q=(iC (ee n mid).1,gd (ee n mid).1,0)/\dH D M' o=(iC (ee n mid).2.1,gd (ee n mid).2.1,0)/\M.Q1.length<=M'.Q1.length+2:=by
 subst C;obtain⟨o,M1,e1,u,R,E,U⟩:=GM (D:=D) hW ho h2 (fun e=>by rw[e] at hf;exact absurd hf oM);have s1:=u.beside (Z:=[p]) (fun x V=>by rw[zE.1 V];exact hp) oL;have aa:dT M1 p:=s1.has p oL;obtain⟨q,M2,e2,G,ab,am,_⟩:=GD (D:=D) u.wf u.Q3 h1 aa (fun e=>by rw[e] at E;simp at E;omega);have I:o≠p:=fun e=>by rcases u.new o oL with h|h;cases h;exact h (e▸hp)
 have J:dT M1 o:=u.has o oL;have s2:=G.beside (Z:=[o]) (fun x V=>by rw[zE.1 V];exact J) (oP I);refine⟨q,o,M2,?_,U,(s1.perm (.refl _) (List.Perm.swap _ _ _)).trans (s2.perm (.refl _) (List.Perm.swap _ _ _)),ab,?_,oJ⟩;unfold fY;rw[if_pos hs,e1];dsimp only;rw[if_neg (fun h=>h rfl),e2];rw[(G.rest o J (oP I)).1];exact R
def qAH{val:Key}{i:Nat}(h:(dP L)[i]?=some key):(⟨(ef L).Q4,dP L,(ef L).Q0.set i val,(ef L).J9⟩:dL)=ef (L.set i (key,val)):=by
 unfold ef;rw[map_set,map_set];have:(L.map (·.1)).set i key=L.map (·.1):=by obtain⟨u,C⟩:=zP.1 h;rw[<- C];exact set_getElem_self u
 rw[this]
def qzU{val:Key}{i:Nat}:(⟨(ef L).Q4,fE (dP L) i key,fE (ef L).Q0 i val,(ef L).J9⟩:dL)=ef (L.take i++[(key,val)]++L.drop i):=by unfold ef fE;simp only[xN,xP,xQ,xO,map_nil]
def qw2{mid:Nat}(h:mid<L.length):ee (ef L) mid=(ef (L.take mid),ef (L.drop mid),L[mid].1):=by unfold ee;rw[if_pos (show (ef L).Q4=true from rfl)];unfold ef;simp only[xP,xQ,Prod.mk.injEq,true_and];rw[yR,zQ,zA h];rfl
def BY:eP (ef L) k v=(L.length,(dV k v).1):=by unfold eP;rw[if_pos (show (ef L).Q4=true from rfl)];show ((L.map _).length,_)=_;rw[zK]
def lX.sub{L':fN}(h:lX k v L)(u:∀x∈L',x∈L):lX k v L':=fun x C=>h x (u x C)
def e9.take{L:fN}(h:e9 L)(n:Nat):e9 (L.take n):=by unfold e9 dP;rw[xP];exact fJ.take h n
def e9.drop{L:fN}(h:e9 L)(n:Nat):e9 (L.drop n):=by unfold e9 dP;rw[xQ];exact fJ.drop h n
def AG(h:ic (ef L) k v)(u:dH D M q=(3,gd (ef L),0)):Has D M k v 0 ⟨q,L.length,L,[q]⟩:=⟨rfl,rfl,h,u⟩
structure vg (D:dI) (M:dY) (k v:Nat) (h:Nat) (s:gY) (key val:Key) (g:Grown) (M':dY):Prop where
 J8:g.J8=decide (key∉dP s.y3)
 Q1:M.Q1.length<=M'.Q1.length+2*(h+1)
 CF:(g.x4=0/\∃ n P,Has D M' k v h ⟨g.x5,n,fH key val s.y3,P⟩/\Step D M M' s.y4 P/\s.size<=n)\/
  (g.x4≠0/\∃ n1 L1 P1 n2 L2 P2,Has D M' k v h ⟨g.x5,n1,L1,P1⟩/\Has D M' k v h ⟨g.x4,n2,L2,P2⟩/\L1++L2=fH key val s.y3/\(∀ x∈L1,fI x.1 g.key)/\(∀ y∈L2,lJ g.key y.1)/\g.key.length=k/\eF g.key/\minOf k v h<=n1/\minOf k v h<=n2/\Step D M M' s.y4 (P1++P2))
structure gU (k v:Nat):Prop where
 Q4:2<=(dV k v).1
 inner:4<=(dV k v).2
def qsz{L':fN}{val:Key}{J8:Bool}(hc:gU k v)(hW:M.Wf)(ho:M.Q3=false)(hp:dT M p)(hf:2<=M.Q1.length)(U:lX k v L')(V:e9 L')(h1:1<=L'.length)(h2:L'.length<=(dV k v).1+1)(h3:L.length<=L'.length)(he:L'=fH key val L)(C:J8=decide (key∉dP L)): ∃g M',fY k v M p (ef L') J8=((g,0),M')/\vg D M k v 0 ⟨p,L.length,L,[p]⟩ key val g M':=by by_cases hb:L'.length<=(dV k v).1;have hn:=A4 U V h1 hb;obtain⟨q,M',e,st,hr,hl⟩:=qmw (D:=D) (J8:=J8) hW ho hn (by rw[BY];exact hb) hp (fun e=>by rw[e] at hf;exact absurd hf oM);refine⟨_,M',e,C,by show M.Q1.length<=M'.Q1.length+2;omega,.inl ⟨rfl,L'.length,[q],?_,st,h3⟩⟩;rw[<- he];exact AG hn hr;have aj:L'.length=(dV k v).1+1:=oJ;have av:=hc.Q4;have h:L'.length / 2<L'.length:=oJ;have hh:=qw2 h;have n1:ic (ef (L'.take (L'.length / 2))) k v:=A4 (U.sub fun x E=>yV E) (V.take _) (by rw[yL];omega) (by rw[yL];omega);have n2:ic (ef (L'.drop (L'.length / 2))) k v:=A4 (U.sub fun x E=>yU E) (V.drop _) (by rw[yC];omega) (by rw[yC];omega);obtain⟨q,o,M',e,ad,st,G,I,hl⟩:=qqM (D:=D) (k:=k) (v:=v) (p:=p) (J8:=J8) (mid:=L'.length / 2) (n:=ef L') hW ho (by rw[BY]) (by rw[hh];exact n1) (by rw[hh];exact n2) (by rw[BY];show L'.length>_;omega) hp hf;rw[hh] at e G I;have J:L'=L'.take (L'.length / 2)++L'.drop (L'.length / 2):=(xE _ _).symm;have hd:=zY h;have u:=V;rw[J] at u;have u:=e9.sY.1 u;have R:=U _ (zX h);refine⟨⟨q,J8,L'[L'.length / 2].1,o⟩,M',e,C,by show M.Q1.length<=M'.Q1.length+2;omega,.inr ⟨ad,(L'.take (L'.length / 2)).length,_,[q],(L'.drop (L'.length / 2)).length,_,[o],AG n1 G,AG n2 I,by rw[<- J];exact he,fun x E=>u.2.2 x E _ (by rw[hd];exact mem_cons_self),fun y hy=>?_,R.1,R.2.2.1,?_,?_,st⟩⟩;have h5:=u.2.1;rw[hd] at hy h5;rcases zG.1 hy with rfl|hy;exact qC;exact sE (wn (x:=L'[L'.length / 2].1) (r:=dP _) h5 y.1 (zZ hy));rw[yL];show (dV k v).1 / 2<=_;omega;rw[yC];show (dV k v).1 / 2<=_;omega
def uv{es:List gH}(u:(es.map (·.1)).head?=some [])(R:fK es):∃A e B,es=A++e::B/\A.length=en ((es.map (·.1)).tail) key/\lJ e.1 key/\(∀b∈B,fI key b.1)/\(es.map (·.2.x5)).getD (en ((es.map (·.1)).tail) key) 0=e.2.x5:=by
 have U:=R.rising;have C:=yi ((es.map (·.1)).tail) key;have E:es≠[]:=fun e=>by rw[e] at u;cases u
 have I:0<es.length:=length_pos_iff.2 E;have h:en ((es.map (·.1)).tail) key<es.length:=(by rw[length_tail,zK] at C;omega);generalize J:en ((es.map (·.1)).tail) key=c at h;have G:es=es.take c++es[c]::es.drop (c+1):=(by rw[<- zY h,xE]);refine⟨es.take c,es[c],es.drop (c+1),G,by rw[yL];omega,?_,fun b V=>?_,?_⟩;cases c with
 | zero=>
  have:es[0].1=[]:=by
   cases es with
   | nil=>cases u
   | cons a r=>simpa using u
  rw[this];exact Bw _
 | succ c=>
  refine qn1 (l:=(es.map (·.1)).tail) (k:=key) ?_;rw[J];have h1:(es.map (·.1)).tail[c]?=some es[c+1].1:=(by rw[List.getElem?_tail,zQ,zA h];rfl);refine yF (i:=c) ?_;rw[xB,iP];exact h1
 refine qmf (l:=(es.map (·.1)).tail) U ?_;rw[J];have:(es.map (·.1)).tail.drop c=(es.drop (c+1)).map (·.1):=(by rw[<- drop_one,xD,xQ,Nat.add_comm]);rw[this];exact zZ V;rw[yR,zQ,zA h];rfl
def qn{α:Type}{f:gH->List α}{A B:List gH}{e:gH}:(A++e::B).flatMap f=A.flatMap f++(f e++B.flatMap f):=by rw[yQ,yH]
def fK.put{A B:List gH}{e:gH}{s:gY}(h:fK (A++e::B))(I:lJ e.1 key)(J:∀b∈B,fI key b.1)(U:∀x∈s.y3,x.1=key\/x∈e.2.y3):fK (A++(e.1,s)::B):=by have G:=pairwise_append.1 h.pair;have R:=yJ.1 G.2.1;refine⟨pairwise_append.2 ⟨G.1,yJ.2 ⟨fun b u=>⟨(R.1 b u).1,fun x E=>?_⟩,R.2⟩,fun a V b u=>?_⟩,fun b u x E=>?_⟩;rcases U x E with C|C;rw[C];exact J b u;exact (R.1 b u).2 x C;rcases zG.1 u with rfl|u;exact G.2.2 a V e oL;exact G.2.2 a V b (by simp[u]);rcases zD.1 u with u|u;exact h.low b (by simp[u]) x E;rcases zG.1 u with rfl|u;rcases U x E with C|C;rw[C];exact I;exact h.low e oL x C;exact h.low b (by simp[u]) x E
def fK.wJ{A B:List gH}{lo:Key}{s s1 s2:gY}(h:fK (A++(lo,s)::B))(G:s.y3=s1.y3++s2.y3)(h1:∀x∈s1.y3,fI x.1 m)(h2:∀y∈s2.y3,lJ m y.1)(I:s1.y3≠[])(J:s2.y3≠[]):fK (A++(lo,s1)::(m,s2)::B):=by have hp:=pairwise_append.1 h.pair;have R:=yJ.1 hp.2.1;have U:=h.low (lo,s) oL;obtain⟨x1,V⟩:=exists_mem_of_ne_nil _ I;obtain⟨y1,aa⟩:=exists_mem_of_ne_nil _ J;have hm:fI lo m:=Ay (U x1 (by show x1∈s.y3;rw[G];exact zH _ V)) (h1 x1 V);have af:∀b∈B,fI m b.1:=fun b u=>Ay (h2 y1 aa) ((R.1 b u).2 y1 (by show y1∈s.y3;rw[G];exact zI _ aa));refine⟨pairwise_append.2 ⟨hp.1,yJ.2 ⟨fun b u=>?_,yJ.2 ⟨fun b u=>⟨af b u,fun x C=>(R.1 b u).2 x (by show x∈s.y3;rw[G];exact zI _ C)⟩,R.2⟩⟩,fun a ha b u=>?_⟩,fun b u x C=>?_⟩;rcases zG.1 u with rfl|u;exact⟨hm,fun x C=>h1 x C⟩;exact⟨(R.1 b u).1,fun x C=>(R.1 b u).2 x (by show x∈s.y3;rw[G];exact zH _ C)⟩;have E:=hp.2.2 a ha (lo,s) oL;rcases zG.1 u with rfl|u;exact E;rcases zG.1 u with rfl|u;exact⟨pf E.1 hm,fun x C=>pf (E.2 x C) hm⟩;exact hp.2.2 a ha b (by simp[u]);rcases zD.1 u with u|u;exact h.low b (by simp[u]) x C;rcases zG.1 u with rfl|u;exact U x (by show x∈s.y3;rw[G];exact zH _ C);rcases zG.1 u with rfl|u;exact h2 x C;exact h.low b (by simp[u]) x C
def CG{es:List gH}:eP (dM es) k v=(es.length,(dV k v).2):=by unfold eP;rw[if_neg (show ¬(dM es).Q4=true from fun e=>nomatch e)];show ((es.map _).length,_)=_;rw[zK]
def jC:List gH->List gH
 | []=>[]
 | e::r=>([],e.2)::r
def qyt(es:List gH):dM (jC es)=dM es:=by cases es<;>rfl
def qwO{es:List gH}{mid:Nat}(E:1<=mid)(h:mid<es.length):ee (dM es) mid=(dM (es.take mid),dM (jC (es.drop mid)),es[mid].1):=by
 unfold ee;rw[if_neg (show ¬(dM es).Q4=true from fun e=>nomatch e),qyt];unfold dM;have e1:(es.map (·.1)).tail.take (mid-1)=((es.take mid).map (·.1)).tail:=by rw[<- drop_one,<- drop_one,xP,drop_take]
 have u:(es.map (·.1)).tail.drop mid=((es.drop mid).map (·.1)).tail:=(by rw[<- drop_one,<- drop_one,xQ,xD,xD,Nat.add_comm]);have C:(es.map (·.1)).tail.getD (mid-1) []=es[mid].1:=(by rw[yR,List.getElem?_tail,zQ,show mid-1+1=mid by omega,zA h];rfl);dsimp only;rw[e1,u,C];simp only[xP,xQ]
def fK.take{es:List gH}(h:fK es)(n:Nat):fK (es.take n):=⟨List.Pairwise.sublist (take_sublist n es) h.pair,fun e u=>h.low e (yV u)⟩
def fK.drop{es:List gH}(h:fK es)(n:Nat):fK (es.drop n):=⟨List.Pairwise.sublist (drop_sublist n es) h.pair,fun e u=>h.low e (yU u)⟩
def fK.jC{es:List gH}(h:fK es):fK (jC es):=by
 cases es with
 | nil=>exact h
 | cons e r=>
  have C:=yJ.1 h.pair;refine⟨yJ.2 ⟨fun b u=>⟨?_,(C.1 b u).2⟩,C.2⟩,fun b u x G=>?_⟩
  have:=(C.1 b u).1
  cases E:b.1 with
  | nil=>rw[E] at this;exact absurd this qmp
  | cons y l=>show cmpL [] (y::l)<0;simp[cmpL]
  rcases zG.1 u with rfl|u;exact Bw _;exact h.low b (zN _ u) x G
def qow{α:Type}{f:gY->List α}(es:List gH):(jC es).flatMap (fun e=>f e.2)=es.flatMap fun e=>f e.2:=by cases es<;>rfl
def qqF{P:gY->Prop}{es:List gH}(h:∀e∈es,P e.2):∀e∈jC es,P e.2:=by
 cases es with
 | nil=>exact h
 | cons a r=>
  intro e u;rcases zG.1 u with rfl|u;exact h a oL;exact h e (zN _ u)
def qvM{es:List gH}(h:es≠[]):((jC es).map (·.1)).head?=some []:=by cases es with|nil=>exact absurd rfl h|cons a r=>rfl
def qxt(es:List gH):(jC es).length=es.length:=by cases es<;>rfl
def gr (k:Nat) (es:List gH):Prop:=∀e∈es.tail,e.1.length=k/\eF e.1
def gr.tail{es:List gH}(h:gr k es):∀a∈(es.map (·.1)).tail,a.length=k/\eF a:=fun a u=>by rw[<- map_tail] at u;obtain⟨e,C,rfl⟩:=mem_map.1 u;exact h e C
def gr.of{es:List gH}(h:ic (dM es) k v):gr k es:=fun e u=>by have:e.1∈(dM es).J6:=(by show e.1∈(es.map (·.1)).tail;rw[<- map_tail];exact zZ u);exact⟨h.right.1 _ this,h.J6 _ this⟩
def t8(u:M.Wf){x:Int}(h:dT M x):2<=x/\x<4294967296:=by have C:=Ba u h;have E:=u.n4;omega
def yy{es:List gH}(u:(es.map (·.1)).head?=some [])(C:ic (dM es) k v)(E:dH D M q=(4,gd (dM es),0))(G:fK es)(I:∀e∈es,Has D M k v h e.2/\minOf k v h<=e.2.size): Has D M k v (h+1) ⟨q,es.length,es.flatMap (·.2.y3),q::es.flatMap (·.2.y4)⟩:=⟨es,u,rfl,rfl,rfl,C,E,G,I⟩
def qys{A B:List gH}{e:gH}{s1 s2:gY}(R:((A++e::B).map (·.1)).head?=some []){g:Grown}(u:g.x5=s1.x5)(C:g.x4=s2.x5)(E:g.key=m)(G:g.x4≠0):gw (dM (A++e::B)) A.length g=dM (A++(e.1,s1)::(m,s2)::B):=by
 unfold gw;rw[if_pos G,u,C,E];unfold dM fE;dsimp only;congr 1;cases A with
 | nil=>simp
 | cons a A=>
  have:(A.map (·.1)++e.1::B.map (·.1)).take (A.length+1)=A.map (·.1)++[e.1]:=(by rw[show A.map (·.1)++e.1::B.map (·.1)=(A.map (·.1)++[e.1])++B.map (·.1) by simp];exact take_left' oL);have I:(A.map (·.1)++e.1::B.map (·.1)).drop (A.length+1)=B.map (·.1):=(by rw[show A.map (·.1)++e.1::B.map (·.1)=(A.map (·.1)++[e.1])++B.map (·.1) by simp];exact drop_left' oL);simp only[xN,xO,xJ,tail_cons,yI];rw[this,I];simp
 have J:(A.map (·.2.x5)).length=A.length:=zK _;have h:(A.map (·.2.x5)++e.2.x5::B.map (·.2.x5)).set A.length s1.x5=(A.map (·.2.x5)++[s1.x5])++B.map (·.2.x5):=(by rw[set_append_right _ _ oJ,J,Nat.sub_self];simp);simp only[xN,xO];rw[h,take_left' oL,drop_left' oL];simp
def qwN{A B:List gH}{e:gH}{s1:gY}{g:Grown}(u:g.x5=s1.x5)(C:g.x4=0):gw (dM (A++e::B)) A.length g=dM (A++(e.1,s1)::B):=by unfold gw;rw[if_neg (fun h=>h C),u];unfold dM;dsimp only;have E:(A.map (·.2.x5)).length=A.length:=zK _;congr 1;simp;simp only[xN,xO];rw[set_append_right _ _ oJ,E,Nat.sub_self];rfl
def Ck{α:Type}{a x b z:List α}:(a++(x++b)).Perm ((a++b)++x):=by rw[zV];exact List.Perm.append_left a perm_append_comm
def Step.node{M1 G:dY}{a x y:List Int}{Q:List Int}(I:∀z∈p::(a++(x++b)),dT M z)(J:(p::(a++(x++b))).Nodup)(R:Step D M M1 x y)(U:Step D M1 G [p] Q):Step D M G (p::(a++(x++b))) (Q++(a++(y++b))):=by have h:(p::(a++(x++b))).Perm ((p::(a++b))++x):=(by rw[xJ];exact (Ck (z:=a)).cons p);have C:=(R.beside (Z:=p::(a++b)) (fun z E=>I z (h.mem_iff.2 (zH _ E))) (h.nodup_iff.1 J));have u:((p::(a++b))++y).Perm ((a++(y++b))++[p]):=(by refine List.Perm.trans ?_ perm_append_comm;rw[xJ];exact ((Ck (z:=a)).symm).cons p);have V:=U.beside (Z:=a++(y++b)) (fun z E=>C.has z (u.mem_iff.2 (zH _ E))) (u.nodup_iff.1 C.nodup);exact ((C.perm (h.symm) u).trans V).perm (.refl _) perm_append_comm
def qma{es:List gH}{J8:Bool}(V:M.Wf)(I:M.Q3=false)(h0:(es.map (·.1)).head?=some [])(J:ic (dM es) k v)(u:es.length<=(dV k v).2)(hs:fK es)(E:∀e∈es,Has D M k v h e.2/\minOf k v h<=e.2.size)(hu:dT M p)(G:p∉es.flatMap (·.2.y4))(R:1<=M.Q1.length): ∃q M',fY k v M p (dM es) J8=((⟨q,J8,[],0⟩,0),M')/\Step D M M' [p] [q]/\Has D M' k v (h+1) ⟨q,es.length,es.flatMap (·.2.y3),q::es.flatMap (·.2.y4)⟩/\M.Q1.length<=M'.Q1.length+1:=by obtain⟨q,M',e,st,hr,hl⟩:=qmw (D:=D) (J8:=J8) V I J (by rw[CG];exact u) hu (fun e=>by rw[e] at R;exact absurd R oM);refine⟨q,M',e,st,yy h0 J hr hs fun b C=>⟨(E b C).1.q8 fun x U=>?_,(E b C).2⟩,hl⟩;exact (st.rest x ((E b C).1.J4 I x U) (fun hm=>G (yK.2 ⟨b,C,by rw[<- zE.1 hm];exact U⟩))).1
def xj{es:List gH}(E:M.Wf)(G:M.Q3=false)(I:gr k es)(J:fK es)(R:2<=es.length)(U:es.length<=(dV k v).2)(u:∀e∈es,Has D M k v h e.2):ic (dM es) k v:=
 qzK I.tail J.rising R U fun e C=>t8 E ((u e C).J4 G e.2.x5 (u e C).mem)
def qvN{es:List gH}(h:gr k es):gr k (jC es):=by cases es<;>exact h
def qwP{es:List gH}{J8:Bool}(hc:gU k v)(hW:M.Wf)(ho:M.Q3=false)(h0:(es.map (·.1)).head?=some [])(hk:gr k es)(aB:es.length=(dV k v).2+1)(hs:fK es)(R:∀e∈es,Has D M k v h e.2/\minOf k v h<=e.2.size)(hu:dT M p)(ao:p∉es.flatMap (·.2.y4))(hf:2<=M.Q1.length): ∃q o m M' U L1 P1 V L2 P2,fY k v M p (dM es) J8=((⟨q,J8,m,o⟩,0),M')/\o≠0/\Step D M M' [p] [q,o]/\Has D M' k v (h+1) ⟨q,U,L1,q::P1⟩/\Has D M' k v (h+1) ⟨o,V,L2,o::P2⟩/\L1++L2=es.flatMap (·.2.y3)/\P1++P2=es.flatMap (·.2.y4)/\(∀x∈L1,fI x.1 m)/\(∀y∈L2,lJ m y.1)/\m.length=k/\eF m/\minOf k v (h+1)<=U/\minOf k v (h+1)<=V/\M.Q1.length<=M'.Q1.length+2:=by
 have aJ:=hc.inner;have C:es.length / 2<es.length:=oJ;have hh:=qwO (es:=es) (mid:=es.length / 2) oJ C;have lt:(es.take (es.length / 2)).length=es.length / 2:=(by rw[yL];omega);have ld:(jC (es.drop (es.length / 2))).length=es.length-es.length / 2:=(by rw[qxt,yC]);have E:∀e∈es.take (es.length / 2),Has D M k v h e.2/\minOf k v h<=e.2.size:=fun e u=>R e (yV u);have au:∀e∈jC (es.drop (es.length / 2)),Has D M k v h e.2/\minOf k v h<=e.2.size:=qqF (P:=fun s=>Has D M k v h s/\minOf k v h<=s.size) fun e u=>R e (yU u);have aa:=hs.take (es.length / 2);have ab:=(hs.drop (es.length / 2)).jC;have av:gr k (es.take (es.length / 2)):=fun e u=>by refine hk e ?_;rw[<- drop_one,drop_take] at u;rw[<- drop_one];exact yV u
 have aw:gr k (jC (es.drop (es.length / 2))):=qvN fun e u=>by refine hk e ?_;rw[<- drop_one,xD,show es.length / 2+1=1+es.length / 2 by omega,<- xD] at u;rw[<- drop_one];exact yU u
 have U:=xj hW ho av aa oJ oJ fun e u=>(E e u).1;have V:=xj hW ho aw ab oJ oJ fun e u=>(au e u).1;have G:es.take (es.length / 2)++es.drop (es.length / 2)=es:=xE _ _;have hd:=zY C;obtain⟨q,o,M',e,ay,st,ac,ad,hl⟩:=qqM (D:=D) (k:=k) (v:=v) (p:=p) (J8:=J8) (mid:=es.length / 2) (n:=dM es) hW ho (by rw[CG]) (by rw[hh];exact U) (by rw[hh];exact V) (by rw[CG];show es.length>_;omega) hu hf;rw[hh] at e ac ad;have fr:∀b∈es,∀x∈b.2.y4,dH D M' x=dH D M x:=fun b I x J=>
  (st.rest x ((R b I).1.J4 ho x J) (fun hm=>ao (yK.2 ⟨b,I,by rw[<- zE.1 hm];exact J⟩))).1
 have f1:∀e∈es.take (es.length / 2),Has D M' k v h e.2/\minOf k v h<=e.2.size:=fun e u=>⟨(E e u).1.q8 (fr e (yV u)),(E e u).2⟩;have f2:∀e∈jC (es.drop (es.length / 2)),Has D M' k v h e.2/\minOf k v h<=e.2.size:=qqF (P:=fun s=>Has D M' k v h s/\minOf k v h<=s.size) fun e u=>⟨(R e (yU u)).1.q8 (fr e (yU u)),(R e (yU u)).2⟩;have az:((es.take (es.length / 2)).map (·.1)).head?=some []:=by
  rw[xP];cases af:es.map (·.1) with
  | nil=>rw[af] at h0;cases h0
  | cons a r=>
   rw[af] at h0;rw[show es.length / 2=(es.length / 2-1)+1 by omega,take_succ_cons];exact h0
 have aA:((jC (es.drop (es.length / 2))).map (·.1)).head?=some []:=qvM (by rw[hd];exact cons_ne_nil _ _);have ag:=hs;rw[<- G,hd] at ag;have hm:=ag.mid;have ah:=hk es[es.length / 2] (by rw[<- drop_one];exact yF (i:=es.length / 2-1) (by rw[xA,show 1+(es.length / 2-1)=es.length / 2 by omega,zA C]));have ep:(jC (es.drop (es.length / 2))).flatMap (·.2.y3)=(es.drop (es.length / 2)).flatMap (·.2.y3):=qow (f:=gY.y3) _;have eg:(jC (es.drop (es.length / 2))).flatMap (·.2.y4)=(es.drop (es.length / 2)).flatMap (·.2.y4):=qow (f:=gY.y4) _;have H2:=yy aA V ad ab f2;refine⟨q,o,es[es.length / 2].1,M',_,_,_,_,_,_,e,ay,st,yy az U ac aa f1,H2,?_,?_,fun x J=>?_,fun y hy=>?_,ah.1,ah.2,?_,?_,hl⟩;rw[ep,<- yQ,G];rw[eg,<- yQ,G];obtain⟨a,ha,J⟩:=yK.1 J;exact hm.1 a ha x J;rw[ep,hd] at hy;obtain⟨b,I,hy⟩:=yK.1 hy;rcases zG.1 I with rfl|I;exact hs.low _ (zX C) y hy;exact zt (sE (hm.2 b I).1) ((hm.2 b I).2.2 y hy);show (dV k v).2 / 2<=_;omega;show (dV k v).2 / 2<=_;omega
def Fk{A B:List gH}{e:gH}{s:gY}(h:gr k (A++e::B)):gr k (A++(e.1,s)::B):=by
 cases A with
 | nil=>exact h
 | cons a A=>
  intro b u;rcases zD.1 (show b∈A++(e.1,s)::B from u) with u|u;exact h b (show b∈A++e::B from zH _ u);rcases zG.1 u with rfl|u;exact h e (show e∈A++e::B from zI _ mem_cons_self);exact h b (show b∈A++e::B from zI _ (zN _ u))
def qsd{A B:List gH}{e:gH}{s1 s2:gY}(h:gr k (A++e::B))(G:m.length=k/\eF m):gr k (A++(e.1,s1)::(m,s2)::B):=by
 have E:∀b∈(m,s2)::B,(∀c∈B,c.1.length=k/\eF c.1)->b.1.length=k/\eF b.1:=fun b u I=>(zG.1 u).elim (fun e=>by rw[e];exact G) (I b);cases A with
 | nil=>exact fun b u=>E b u fun c C=>h c C
 | cons a A=>
  intro b u;rcases zD.1 (show b∈A++(e.1,s1)::(m,s2)::B from u) with u|u;exact h b (show b∈A++e::B from zH _ u);rcases zG.1 u with rfl|u;exact h e (show e∈A++e::B from zI _ mem_cons_self);exact E b u fun c C=>h c (show c∈A++e::B from zI _ (zN _ C))
def quv(hc:gU k v){key val:Key}(hk:key.length=k/\eF key)(hv:val.length=v/\eF val):∀(h:Nat) (M:dY) (s:gY),Has D M k v h s->M.Wf->M.Q3=false->s.y4.Nodup->s.size<=1000->2*(h+1)<=M.Q1.length-> ∃g M',gT D k v key val (h+1) M s.x5=((g,0),M')/\vg D M k v h s key val g M'
 | 0,M,⟨p,n,L,P⟩,⟨h1,h2,h3,h4⟩,hW,ho,aT,_,hf=>by
  dsimp only at h1 h2 h3 h4;subst h1 h2;have hp:dT M p:=Gm ho (by rw[h4]);have hl:dJ D M k v p=(ef L,0):=h3.load h4;have hs:e9 L:=h3.right.2.2.1;have hL:lX k v L:=fun x E=>⟨h3.right.1 x.1 (zZ E),h3.right.2.1 x.2 (zZ E),h3.J6 x.1 (zZ E),h3.Q0 x.2 (zZ E)⟩;have I:=h3.right.2.2.2;rw[if_pos (show (ef L).Q4=true from rfl)] at I;have a3:1<=L.length/\L.length<=(dV k v).1:=by have e:(ef L).J6.length=L.length:=zK _;rw[e] at I;exact⟨I.2.1,I.2.2.1⟩
  have aU:(ef L).J6=dP L:=rfl;have aj:=qvm (v:=val) (k:=key) hs;have az:lX k v (fH key val L):=fun x E=>(Ar E).elim (fun e=>by rw[e];exact⟨hk.1,hv.1,hk.2,hv.2⟩) (hL x);have aA:=Dd (k:=key) (v:=val) hs;unfold gT;rw[hl];dsimp only;rw[if_neg (fun h=>h rfl),if_pos (show (ef L).Q4=true from rfl),aU];by_cases R:(dP L)[dN (dP L) key]?=some key;rw[if_pos R,qAH R];rw[if_pos R] at aj;have ak:=DF (v:=val) hs ((vZ hs).1 R);rw[aj] at az aA ak;exact qsz hc hW ho hp oJ az aA oJ oJ oJ aj.symm (by rw[zU (fun h=>h ((vZ hs).1 R))]);rw[if_neg R,qzU];rw[if_neg R] at aj;have a4:key∉dP L:=fun h=>R ((vZ hs).2 h);have ak:=Dl (v:=val) a4;rw[aj] at az aA ak;exact qsz hc hW ho hp oJ az aA oJ oJ oJ aj.symm (by rw[yA a4])
 | h+1,M,⟨p,n,L,P⟩,⟨J,h0,h1,h2,h3,h4,h5,h6,h7⟩,hW,ho,aT,h8,hf=>by
  dsimp only at h1 h2 h3 h5 aT h8;subst h1 h2 h3;have hp:dT M p:=Gm ho (by rw[h5]);have hl:dJ D M k v p=(dM J,0):=h4.load h5;have bT:=h4.right.x9;obtain⟨A,e,B,G,hA,aV,aW,aX⟩:=uv (key:=key) h0 h6;have aY:(dM J).J9.getD (en (dM J).J6 key) 0=e.2.x5:=aX;have bD:en (dM J).J6 key=A.length:=hA.symm;have bE:e∈J:=(by rw[G];simp);obtain⟨aC,ao⟩:=h7 e bE;have ac:∀z∈p::J.flatMap (·.2.y4),dT M z:=fun z hz=>(zG.1 hz).elim (fun e=>by rw[e];exact hp) fun hz=>by obtain⟨b,u,hz⟩:=yK.1 hz;exact (h7 b u).1.J4 ho z hz
  have af:J.flatMap (·.2.y4)=A.flatMap (·.2.y4)++(e.2.y4++B.flatMap (·.2.y4)):=(by rw[G,qn]);have ad:J.flatMap (·.2.y3)=A.flatMap (·.2.y3)++(e.2.y3++B.flatMap (·.2.y3)):=(by rw[G,qn]);have U:=aT;have ah:=ac;rw[af] at U ah;have bF:e.2.size<=1000:=by
   have:=AS (k:=k) (v:=v)
   cases h with
   | zero=>
    have h9:=aC.2.2.1.right.2.2.2;rw[if_pos (show (ef e.2.y3).Q4=true from rfl)] at h9;have bG:=h9.2.2.1;have e1:(ef e.2.y3).J6.length=e.2.y3.length:=zK _;rw[e1] at bG;rw[aC.2.1];omega
   | succ h=>
    obtain⟨b0,_,g1,_,_,g4,_⟩:=aC
    have:=g4.right.x9
    rw[g1];omega
  have a5:e.2.y4.Nodup:=(yM.1 (yM.1 (nodup_cons.1 U).2).2.1).1;obtain⟨g,M1,eg,ok⟩:=quv hc hk hv h M e.2 aC hW ho a5 bF oJ;have bI:=ok.Q1;have ai:=h6;rw[G] at ai;have ap:=ai.mid;have a6:∀x∈A.flatMap (·.2.y3),fI x.1 key:=fun x E=>by obtain⟨a,ha,E⟩:=yK.1 E;exact qY (ap.1 a ha x E) aV
  have a7:∀x∈B.flatMap (·.2.y3),fI key x.1:=fun x E=>by obtain⟨b,u,E⟩:=yK.1 E;exact qY (aW b u) ((ap.2 b u).2.2 x E)
  have aM:fH key val (J.flatMap (·.2.y3))=A.flatMap (·.2.y3)++(fH key val e.2.y3++B.flatMap (·.2.y3)):=(by rw[ad,AR a6,qmb a7]);have aD:g.J8=decide (key∉dP (J.flatMap (·.2.y3))):=by rw[ok.J8];refine decide_eq_decide.2 (not_congr ⟨fun R=>?_,fun R=>?_⟩);obtain⟨x,E,rfl⟩:=mem_map.1 R;exact zZ (by rw[ad];exact zI _ (zH _ E));obtain⟨x,E,rfl⟩:=mem_map.1 R;rw[ad] at E;rcases zD.1 E with E|E;exact absurd (a6 x E) qC;rcases zD.1 E with E|E;exact zZ E;exact absurd (a7 x E) qC
  have aq:p∉e.2.y4:=fun R=>(nodup_cons.1 U).1 (zI _ (zH _ R));have a8:∀b,b∈A\/b∈B->∀z∈b.2.y4,z∉e.2.y4:=fun b u z hz R=>by have h9:=yM.1 (nodup_cons.1 U).2;rcases u with u|u;exact h9.2.2 z (yK.2 ⟨b,u,hz⟩) z (zH _ R) rfl;exact (yM.1 h9.2.1).2.2 z R z (yK.2 ⟨b,u,hz⟩) rfl
  have ae:=gr.of h4;have a9:∀ {MM:dY} {Q:List Int},Step D M MM e.2.y4 Q->p∉A.flatMap (·.2.y4)++(Q++B.flatMap (·.2.y4)):=fun st R=>by have h9:=(nodup_cons.1 U).1;rcases zD.1 R with R|R;exact h9 (zH _ R);rcases zD.1 R with R|R;exact (st.rest p hp aq).2.2 R;exact h9 (zI _ (zI _ R))
  unfold gT;rw[hl];dsimp only;rw[if_neg (fun h=>h rfl),if_neg (show ¬(dM J).Q4=true from fun e=>nomatch e),aY,eg];dsimp only;rw[if_neg (fun h=>h rfl),bD];have ab:∀ {MM:dY},(∀x∈p::J.flatMap (·.2.y4),x∉e.2.y4->dH D MM x=dH D M x)->∀b,b∈A\/b∈B->Has D MM k v h b.2/\minOf k v h<=b.2.size:=fun hr b u=>by
   have aZ:b∈J:=by rw[G];rcases u with u|u<;>simp[u]
   exact⟨(h7 b aZ).1.q8 fun x E=>hr x (zN _ (yK.2 ⟨b,aZ,E⟩)) (a8 b u x E),(h7 b aZ).2⟩
  rcases ok.CF with ⟨aE,n',P',aN,st,aO⟩|⟨aE,n1,L1,P1,n2,L2,P2,a',ba,aP,bb,bc,bd,bf,bJ,bK,st⟩;have V:((A++(e.1,(⟨g.x5,n',fH key val e.2.y3,P'⟩:gY))::B).map (·.1)).head?=some []:=by rw[G] at h0;rw[xN,xO] at h0⊢;exact h0
  have aa:fK (A++(e.1,(⟨g.x5,n',fH key val e.2.y3,P'⟩:gY))::B):=ai.put aV aW fun x E=>(Ar E).imp (fun e=>by rw[e]) id;have C:∀x∈p::J.flatMap (·.2.y4),x∉e.2.y4->dH D M1 x=dH D M x:=fun x E a0=>(st.rest x (ac x E) a0).1;have I:(A++(e.1,(⟨g.x5,n',fH key val e.2.y3,P'⟩:gY))::B).length=J.length:=(by rw[G];simp);have au:(A++(e.1,(⟨g.x5,n',fH key val e.2.y3,P'⟩:gY))::B).flatMap (·.2.y3)=fH key val (J.flatMap (·.2.y3)):=(by rw[qn,aM]);have ag:(A++(e.1,(⟨g.x5,n',fH key val e.2.y3,P'⟩:gY))::B).flatMap (·.2.y4)=A.flatMap (·.2.y4)++(P'++B.flatMap (·.2.y4)):=(by rw[qn]);by_cases hsame:g.x5=e.2.x5/\g.x4=0;rw[if_pos hsame];have bg:dM (A++(e.1,(⟨g.x5,n',fH key val e.2.y3,P'⟩:gY))::B)=dM J:=(by rw[G];unfold dM;simp[hsame.1]);have bL:dH D M1 p=(4,gd (dM (A++(e.1,(⟨g.x5,n',fH key val e.2.y3,P'⟩:gY))::B)),0):=(by rw[C p oL aq,h5,bg]);refine⟨_,M1,rfl,aD,oJ,.inl ⟨rfl,J.length,p::(A.flatMap (·.2.y4)++(P'++B.flatMap (·.2.y4))),?_,?_,zM _⟩⟩
  have:=yy V (by rw[bg];exact h4) bL aa (h:=h) fun b u=>?_
  rw[I,au,ag] at this;exact this;rcases zD.1 u with u|u;exact ab C b (.inl u);rcases zG.1 u with rfl|u;exact⟨aN,zL ao aO⟩;exact ab C b (.inr u);show Step D M M1 (p::J.flatMap (·.2.y4)) _;rw[af];have h9:=Step.node (p:=p) ah U st (Step.refl (D:=D) st.wf st.Q3 (P:=[p]) (fun x E=>by rw[zE.1 E];exact (st.rest p hp aq).2.1) oL);exact h9;rw[if_neg hsame,G,qwN (s1:=⟨g.x5,n',fH key val e.2.y3,P'⟩) rfl aE];have al:∀b∈A++(e.1,(⟨g.x5,n',fH key val e.2.y3,P'⟩:gY))::B,Has D M1 k v h b.2/\minOf k v h<=b.2.size:=fun b u=>by rcases zD.1 u with u|u;exact ab C b (.inl u);rcases zG.1 u with rfl|u;exact⟨aN,zL ao aO⟩;exact ab C b (.inr u)
  have aH:gr k (A++(e.1,(⟨g.x5,n',fH key val e.2.y3,P'⟩:gY))::B):=Fk (by rw[<- G];exact ae);have hN:=xj st.wf st.Q3 aH aa oJ oJ fun b u=>(al b u).1;obtain⟨q,M2,e2,av,H2,ak⟩:=qma (J8:=g.J8) st.wf st.Q3 V hN oJ aa al (st.rest p hp aq).2.1 (by rw[ag];exact a9 st) oJ;refine⟨_,M2,e2,by rw[<- G];exact aD,oJ,.inl ⟨rfl,J.length,q::(A.flatMap (·.2.y4)++(P'++B.flatMap (·.2.y4))),?_,?_,Nat.le_of_eq (by rw[G])⟩⟩;rw[I,au,ag] at H2;rw[<- G];exact H2;show Step D M M2 (p::(A++e::B).flatMap (·.2.y4)) _;rw[qn];exact Step.node (p:=p) ah U st av;have bj:L1≠[]:=a'.ne;have bk:L2≠[]:=ba.ne;rw[if_neg (fun h=>aE h.2)];have aa:fK (A++(e.1,(⟨g.x5,n1,L1,P1⟩:gY))::(g.key,⟨g.x4,n2,L2,P2⟩)::B):=
   (ai.put (s:=⟨0,0,fH key val e.2.y3,[]⟩) aV aW fun x E=>(Ar E).imp (fun e=>by rw[e]) id).wJ aP.symm bb bc bj bk
  have V:((A++(e.1,(⟨g.x5,n1,L1,P1⟩:gY))::(g.key,⟨g.x4,n2,L2,P2⟩)::B).map (·.1)).head?=some []:=by
   rw[G] at h0;rw[xN,xO] at h0⊢;cases A with
   | nil=>exact h0
   | cons a A=>exact h0
  have C:∀x∈p::J.flatMap (·.2.y4),x∉e.2.y4->dH D M1 x=dH D M x:=fun x E a0=>(st.rest x (ac x E) a0).1;have I:(A++(e.1,(⟨g.x5,n1,L1,P1⟩:gY))::(g.key,⟨g.x4,n2,L2,P2⟩)::B).length=J.length+1:=(by rw[G];simp;omega);have au:(A++(e.1,(⟨g.x5,n1,L1,P1⟩:gY))::(g.key,⟨g.x4,n2,L2,P2⟩)::B).flatMap (·.2.y3)=fH key val (J.flatMap (·.2.y3)):=(by rw[qn,yH,aM,<- aP,zV]);have ag:(A++(e.1,(⟨g.x5,n1,L1,P1⟩:gY))::(g.key,⟨g.x4,n2,L2,P2⟩)::B).flatMap (·.2.y4)=A.flatMap (·.2.y4)++((P1++P2)++B.flatMap (·.2.y4)):=(by rw[qn,yH,zV P1]);have al:∀b∈A++(e.1,(⟨g.x5,n1,L1,P1⟩:gY))::(g.key,⟨g.x4,n2,L2,P2⟩)::B,Has D M1 k v h b.2/\minOf k v h<=b.2.size:=fun b u=>by rcases zD.1 u with u|u;exact ab C b (.inl u);rcases zG.1 u with rfl|u;exact⟨a',bJ⟩;rcases zG.1 u with rfl|u;exact⟨ba,bK⟩;exact ab C b (.inr u)
  have aH:gr k (A++(e.1,(⟨g.x5,n1,L1,P1⟩:gY))::(g.key,⟨g.x4,n2,L2,P2⟩)::B):=qsd (by rw[<- G];exact ae) ⟨bd,bf⟩;have bl:p∉(A++(e.1,(⟨g.x5,n1,L1,P1⟩:gY))::(g.key,⟨g.x4,n2,L2,P2⟩)::B).flatMap (·.2.y4):=(by rw[ag];exact a9 st);have bm:=(st.rest p hp aq).2.1;have bN:gw (dM J) A.length g=dM (A++(e.1,(⟨g.x5,n1,L1,P1⟩:gY))::(g.key,⟨g.x4,n2,L2,P2⟩)::B):=(by rw[G];exact qys (by rw[<- G];exact h0) rfl rfl rfl aE);rw[bN];have bn:∀ {M2:dY} {Q:List Int},Step D M1 M2 [p] Q->Step D M M2 (p::J.flatMap (·.2.y4)) (Q++(A.flatMap (·.2.y4)++((P1++P2)++B.flatMap (·.2.y4)))):=fun h2=>by rw[af];exact Step.node (p:=p) ah U st h2
  by_cases u:J.length+1<=(dV k v).2;have hN:=xj st.wf st.Q3 aH aa oJ oJ fun b u=>(al b u).1;obtain⟨q,M2,e2,av,H2,ak⟩:=qma (J8:=g.J8) st.wf st.Q3 V hN oJ aa al bm bl oJ;rw[I,au,ag] at H2;exact⟨_,M2,e2,aD,oJ,.inl ⟨rfl,_,_,H2,bn av,by show J.length<=J.length+1;omega⟩⟩;obtain⟨q,o,m,M2,n3,L3,P3,n4,L4,P4,e2,bO,av,H3,H4,hL,hP,bP,a3,bo,bp,bQ,bR,ak⟩:=qwP (J8:=g.J8) hc st.wf st.Q3 V aH oJ aa al bm bl oJ;rw[au] at hL;rw[ag] at hP;refine⟨_,M2,e2,aD,oJ,.inr ⟨bO,_,_,_,_,_,_,H3,H4,hL,bP,a3,bo,bp,bQ,bR,?_⟩⟩
  have:=bn av
  rw[<- hP] at this;refine this.perm (.refl _) ?_;show (q::o::(P3++P4)).Perm (q::(P3++o::P4));exact (perm_middle.symm).cons q
end
end
section
def gM {α:Type} (l:List α) (i:Nat):List α:=l.take i++l.drop (i+1)
def oi (n:dL) (k v:Nat):Prop:=(eP n k v).1<(eP n k v).2 / 2
def iO (n:dL) (k v:Nat):Prop:=(eP n k v).1>(eP n k v).2 / 2
def iQ (l r:dL) (key:Key):dL×dL×Key:=
 if l.Q4 then
  ({ l with J6:=l.J6.take (l.J6.length-1),Q0:=l.Q0.take (l.J6.length-1) },
  { r with J6:=l.J6.getD (l.J6.length-1) []::r.J6,Q0:=l.Q0.getD (l.J6.length-1) []::r.Q0 },l.J6.getD (l.J6.length-1) [])
 else
  ({ l with J6:=l.J6.take (l.J6.length-1),J9:=l.J9.take (l.J6.length-1+1) },
  { r with J6:=key::r.J6,J9:=l.J9.getD (l.J6.length-1+1) 0::r.J9 },l.J6.getD (l.J6.length-1) [])
def takeN (l r:dL) (key:Key):dL×dL×Key:=
 if l.Q4 then
  ({ l with J6:=l.J6++[r.J6.getD 0 []],Q0:=l.Q0++[r.Q0.getD 0 []] },{ r with J6:=r.J6.drop 1,Q0:=r.Q0.drop 1 },(r.J6.drop 1).getD 0 [])
 else
  ({ l with J6:=l.J6++[key],J9:=l.J9++[r.J9.getD 0 0] },{ r with J6:=r.J6.drop 1,J9:=r.J9.drop 1 },r.J6.getD 0 [])
def kM (l r:dL) (key:Key):dL:=⟨l.Q4,(if l.Q4 then l.J6 else l.J6++[key])++r.J6,l.Q0++r.Q0,l.J9++r.J9⟩
noncomputable def lD (k v:Nat) (M:dY) (n:dL) (i:Nat) (l r:dL):(dL×Int)×dY:=
 if (dO k v M (n.J9.getD i 0) (kM l r (n.J6.getD i []))).1.2≠0 then ((ip,(dO k v M (n.J9.getD i 0) (kM l r (n.J6.getD i []))).1.2),(dO k v M (n.J9.getD i 0) (kM l r (n.J6.getD i []))).2)
 else if (fk (dO k v M (n.J9.getD i 0) (kM l r (n.J6.getD i []))).2 (n.J9.getD (i+1) 0)).1≠0 then ((ip,(fk (dO k v M (n.J9.getD i 0) (kM l r (n.J6.getD i []))).2 (n.J9.getD (i+1) 0)).1),(fk (dO k v M (n.J9.getD i 0) (kM l r (n.J6.getD i []))).2 (n.J9.getD (i+1) 0)).2)
 else (({ n with J9:=gM (n.J9.set i (dO k v M (n.J9.getD i 0) (kM l r (n.J6.getD i []))).1.1) (i+1),J6:=gM n.J6 i },0),(fk (dO k v M (n.J9.getD i 0) (kM l r (n.J6.getD i []))).2 (n.J9.getD (i+1) 0)).2)
noncomputable def mV (k v:Nat) (M:dY) (n:dL) (i:Nat) (r:dL×dL×Key):(dL×Int)×dY:=
 if (dO k v M (n.J9.getD i 0) r.1).1.2≠0 then ((ip,(dO k v M (n.J9.getD i 0) r.1).1.2),(dO k v M (n.J9.getD i 0) r.1).2)
 else (({ n with J6:=n.J6.set i r.2.2,J9:=(n.J9.set i (dO k v M (n.J9.getD i 0) r.1).1.1).set (i+1) (dO k v (dO k v M (n.J9.getD i 0) r.1).2 (n.J9.getD (i+1) 0) r.2.1).1.1 },(dO k v (dO k v M (n.J9.getD i 0) r.1).2 (n.J9.getD (i+1) 0) r.2.1).1.2),(dO k v (dO k v M (n.J9.getD i 0) r.1).2 (n.J9.getD (i+1) 0) r.2.1).2)
noncomputable def jB (D:dI) (k v:Nat) (M:dY) (n:dL) (side c:Nat) (x:dL):(dL×Int)×dY:=
 if (dJ D M k v (n.J9.getD side 0)).2≠0 then ((ip,(dJ D M k v (n.J9.getD side 0)).2),M)
 else if side<c then
  if ¬iO (dJ D M k v (n.J9.getD side 0)).1 k v then lD k v M n side (dJ D M k v (n.J9.getD side 0)).1 x
  else mV k v M n side (iQ (dJ D M k v (n.J9.getD side 0)).1 x (n.J6.getD side []))
 else
  if ¬iO (dJ D M k v (n.J9.getD side 0)).1 k v then lD k v M n c x (dJ D M k v (n.J9.getD side 0)).1
  else mV k v M n c (takeN x (dJ D M k v (n.J9.getD side 0)).1 (n.J6.getD c []))
noncomputable def gX (D:dI) (k v:Nat) (key:Key):Nat->dY->Int->(dL×Int)×dY
 | 0,M,_=>((ip,-1),M)
 | f+1,M,p=>
  if (dJ D M k v p).2≠0 then ((ip,(dJ D M k v p).2),M)
  else if (dJ D M k v p).1.Q4 then
   if (dJ D M k v p).1.J6[dN (dJ D M k v p).1.J6 key]?=some key then (({ (dJ D M k v p).1 with J6:=gM (dJ D M k v p).1.J6 (dN (dJ D M k v p).1.J6 key),Q0:=gM (dJ D M k v p).1.Q0 (dN (dJ D M k v p).1.J6 key) },0),M)
   else ((ip,5),M)
  else if (gX D k v key f M ((dJ D M k v p).1.J9.getD (en (dJ D M k v p).1.J6 key) 0)).1.2≠0 then
   ((ip,(gX D k v key f M ((dJ D M k v p).1.J9.getD (en (dJ D M k v p).1.J6 key) 0)).1.2),(gX D k v key f M ((dJ D M k v p).1.J9.getD (en (dJ D M k v p).1.J6 key) 0)).2)
  else if ¬oi (gX D k v key f M ((dJ D M k v p).1.J9.getD (en (dJ D M k v p).1.J6 key) 0)).1.1 k v then
   (({ (dJ D M k v p).1 with J9:=(dJ D M k v p).1.J9.set (en (dJ D M k v p).1.J6 key) (dO k v (gX D k v key f M ((dJ D M k v p).1.J9.getD (en (dJ D M k v p).1.J6 key) 0)).2 ((dJ D M k v p).1.J9.getD (en (dJ D M k v p).1.J6 key) 0) (gX D k v key f M ((dJ D M k v p).1.J9.getD (en (dJ D M k v p).1.J6 key) 0)).1.1).1.1 },
    (dO k v (gX D k v key f M ((dJ D M k v p).1.J9.getD (en (dJ D M k v p).1.J6 key) 0)).2 ((dJ D M k v p).1.J9.getD (en (dJ D M k v p).1.J6 key) 0) (gX D k v key f M ((dJ D M k v p).1.J9.getD (en (dJ D M k v p).1.J6 key) 0)).1.1).1.2),
    (dO k v (gX D k v key f M ((dJ D M k v p).1.J9.getD (en (dJ D M k v p).1.J6 key) 0)).2 ((dJ D M k v p).1.J9.getD (en (dJ D M k v p).1.J6 key) 0) (gX D k v key f M ((dJ D M k v p).1.J9.getD (en (dJ D M k v p).1.J6 key) 0)).1.1).2)
  else if en (dJ D M k v p).1.J6 key>0 then
   jB D k v (gX D k v key f M ((dJ D M k v p).1.J9.getD (en (dJ D M k v p).1.J6 key) 0)).2 (dJ D M k v p).1 (en (dJ D M k v p).1.J6 key-1) (en (dJ D M k v p).1.J6 key) (gX D k v key f M ((dJ D M k v p).1.J9.getD (en (dJ D M k v p).1.J6 key) 0)).1.1
  else jB D k v (gX D k v key f M ((dJ D M k v p).1.J9.getD (en (dJ D M k v p).1.J6 key) 0)).2 (dJ D M k v p).1 (en (dJ D M k v p).1.J6 key+1) (en (dJ D M k v p).1.J6 key) (gX D k v key f M ((dJ D M k v p).1.J9.getD (en (dJ D M k v p).1.J6 key) 0)).1.1
section
variable {D:dI} {M M':dY} {k v:Nat}
def je (D:dI) (M:dY) (k v:Nat):Nat->dL->Nat->fN->List Int->Prop
 | 0,N,n,L,R=>N=ef L/\n=L.length/\R=[]/\lX k v L/\e9 L/\n<=(dV k v).1
 | h+1,N,n,L,R=>∃u:List gH,(u.map (·.1)).head?=some []/\N=dM u/\n=u.length/\L=u.flatMap (·.2.y3)/\R=u.flatMap (·.2.y4)/\gr k u/\fK u/\n<=(dV k v).2/\∀e∈u,Has D M k v h e.2/\minOf k v h<=e.2.size
def oneOf (h:Nat):Nat:=if h=0 then 1 else 2
def je.size{n:Nat}(u:je D M k v h N n L R):eP N k v=(n,if h=0 then (dV k v).1 else (dV k v).2):=by
 cases h with
 | zero=>
  obtain⟨rfl,rfl,_⟩:=u;exact BY
 | succ h=>
  obtain⟨C,_,rfl,rfl,_⟩:=u;exact CG
def je.J4{h:Nat}{N:dL}{n:Nat}{L:fN}{R:List Int}(E:M.Q3=false)(C:je D M k v h N n L R):∀x∈R,dT M x:=by
 cases h with
 | zero=>obtain⟨_,_,rfl,_⟩:=C;exact fun x u=>nomatch u
 | succ h=>
  obtain⟨J,_,_,_,_,rfl,_,_,_,G⟩:=C;intro x u;obtain⟨e,I,u⟩:=yK.1 u;exact (G e I).1.J4 E x u
def je.q8{h:Nat}{N:dL}{n:Nat}{L:fN}{R:List Int}(C:je D M k v h N n L R)(G:∀x∈R,dH D M' x=dH D M x):je D M' k v h N n L R:=by
 cases h with
 | zero=>exact C
 | succ h=>
  obtain⟨I,J,U,V,h4,rfl,h6,h7,h8,E⟩:=C;exact⟨I,J,U,V,h4,rfl,h6,h7,h8,fun e u=>⟨(E e u).1.q8 fun x hx=>G x (yK.2 ⟨e,u,hx⟩),(E e u).2⟩⟩
def je.ok{n:Nat}(E:M.Wf)(G:M.Q3=false)(u:je D M k v h N n L R)(C:oneOf h<=n):ic N k v:=by
 cases h with
 | zero=>
  obtain⟨rfl,rfl,_,I,J,U⟩:=u;exact A4 I J C U
 | succ h=>
  obtain⟨es,h2,rfl,rfl,h4,rfl,V,h7,h8,he⟩:=u;exact xj E G V h7 C h8 fun e hm=>(he e hm).1
def je.stored{n:Nat}(G:M.Wf)(I:M.Q3=false)(C:je D M k v h N n L R)(J:oneOf h<=n)(E:dH D M q=(iC N,gd N,0)):Has D M k v h ⟨q,n,L,q::R⟩:=by
 have u:=C.ok G I J;cases h with
 | zero=>
  obtain⟨rfl,rfl,rfl,hL,hs,hl⟩:=C;exact AG u E
 | succ h=>
  obtain⟨es,U,rfl,rfl,rfl,rfl,h6,V,h8,he⟩:=C;exact yy U u E V he
def Has.load{h:Nat}{s:gY}(V:Has D M k v h s):∃N R,dJ D M k v s.x5=(N,0)/\je D M k v h N s.size s.y3 R/\s.y4=s.x5::R/\N.Q4=decide (h=0)/\oneOf h<=s.size:=by
 cases h with
 | zero=>
  obtain⟨G,I,C,J⟩:=V;have u:=C.right.2.2.2;rw[if_pos (show (ef s.y3).Q4=true from rfl)] at u;have e:(ef s.y3).J6.length=s.y3.length:=zK _;rw[e] at u;exact⟨ef s.y3,[],C.load J,⟨rfl,I,rfl,fun x U=>⟨C.right.1 x.1 (zZ U),C.right.2.1 x.2 (zZ U),C.J6 x.1 (zZ U),C.Q0 x.2 (zZ U)⟩,C.right.2.2.1,by rw[I];exact u.2.2.1⟩,G,rfl,by rw[I];exact u.2.1⟩
 | succ h=>
  obtain⟨es,h0,G,I,C,J,h5,h6,h7⟩:=V;have E:=J.right.x9;exact⟨dM es,_,J.load h5,⟨es,h0,rfl,G,I,rfl,gr.of J,h6,by rw[G];exact E.2,h7⟩,C,rfl,by rw[G];exact E.1⟩
def je.store{n:Nat}(G:M.Wf)(u:M.Q3=false)(C:je D M k v h N n L R)(I:oneOf h<=n)(V:dT M p)(E:p∉R)(J:1<=M.Q1.length): ∃q M',dO k v M p N=((q,0),M')/\Step D M M' [p] [q]/\Has D M' k v h ⟨q,n,L,q::R⟩/\M.Q1.length<=M'.Q1.length+1:=by obtain⟨q,M',e,st,hr,hl,_⟩:=GD (D:=D) G u (C.ok G u I) V (fun e=>by rw[e] at J;exact absurd J oM);exact⟨q,M',e,st,(C.q8 fun x U=>(st.rest x (C.J4 u x U) (fun hm=>E (by rw[<- zE.1 hm];exact U))).1).stored st.wf st.Q3 I hr,hl⟩
def qzS{h u:fN}{z:Key×Key}:iQ (ef (h++[z])) (ef u) key=(ef h,ef (z::u),z.1):=by unfold iQ;rw[if_pos (show (ef _).Q4=true from rfl)];unfold ef;simp
def qzV{h u:fN}{z y:Key×Key}:takeN (ef h) (ef (z::y::u)) key=(ef (h++[z]),ef (y::u),y.1):=by unfold takeN;rw[if_pos (show (ef _).Q4=true from rfl)];unfold ef;simp
def qzT{h u:fN}:kM (ef h) (ef u) key=ef (h++u):=by unfold kM;unfold ef;simp
def qzL{a z b:gH}{h u:List gH}:iQ (dM (a::h++[z])) (dM (b::u)) key=(dM (a::h),dM (([],z.2)::(key,b.2)::u),z.1):=by unfold iQ;rw[if_neg (show ¬(dM _).Q4=true from fun e=>nomatch e)];unfold dM;simp
def qzN{h u:List gH}{a z y:gH}:takeN (dM (a::h)) (dM (z::y::u)) key=(dM (a::h++[(key,z.2)]),dM (([],y.2)::u),y.1):=by unfold takeN;rw[if_neg (show ¬(dM _).Q4=true from fun e=>nomatch e)];unfold dM;simp
def qzM{h u:List gH}{a b:gH}:kM (dM (a::h)) (dM (b::u)) key=dM (a::h++(key,b.2)::u):=by unfold kM;unfold dM;simp
def fK.sY{a b:List gH}(u:fK a)(C:fK b)(h:∀x∈a,∀y∈b,fI x.1 y.1/\∀z∈x.2.y3,fI z.1 y.1):fK (a++b):=
 ⟨pairwise_append.2 ⟨u.pair,C.pair,fun x E y G=>h x E y G⟩,fun e I=>(zD.1 I).elim (u.low e) (C.low e)⟩
def fK.sub{a b:List gH}(h:fK b)(u:a.Sublist b):fK a:=⟨h.pair.sublist u,fun e C=>h.low e (u.subset C)⟩
def EU{e:gH}(h:∀x∈e.2.y3,lJ e.1 x.1):fK [e]:=⟨pairwise_singleton _ _,fun a u=>by rw[zE.1 u];exact h⟩
def quh{a b:Key}(h:fI a b):fI [] b:=by
 cases b with
 | nil=>exact absurd h qmp
 | cons y l=>show cmpL [] (y::l)<0;simp[cmpL]
def fK.head{x:gH}{r:List gH}(h:fK (x::r))(E:∀b∈r,fI m b.1)(G:∀y∈x.2.y3,lJ m y.1):fK ((m,x.2)::r):=by have C:=yJ.1 h.pair;exact⟨yJ.2 ⟨fun b u=>⟨E b u,(C.1 b u).2⟩,C.2⟩,fun b u=>(zG.1 u).elim (fun e=>by rw[e];exact G) fun u=>h.low b (zN _ u)⟩
def Gu{x:gH}{r:List gH}(C:fK (x::r))(E:Has D M k v h x.2)(G:∀y∈x.2.y3,lJ m y.1):∀b∈r,fI m b.1:=fun b I=>by obtain⟨y,u⟩:=exists_mem_of_ne_nil _ E.ne;exact Ay (G y u) (((yJ.1 C.pair).1 b I).2 y u)
structure tu (D:dI) (M:dY) (k v:Nat) (h:Nat) (r:dL×dL×Key) (L:fN) (P:List Int):Prop where
 CF:∃ n1 L1 R1 n2 L2 R2,je D M k v h r.1 n1 L1 R1/\je D M k v h r.2.1 n2 L2 R2/\L1++L2=L/\R1++R2=P/\(∀ x∈L1,fI x.1 r.2.2)/\(∀ y∈L2,lJ r.2.2 y.1)/\r.2.2.length=k/\eF r.2.2/\minOf k v h<=n1/\minOf k v h<=n2/\L1≠[]/\L2≠[]
def gU.min(u:gU k v)(h:Nat):oneOf h<=minOf k v h/\1<=minOf k v h:=by have C:=u.Q4;have E:=u.inner;unfold oneOf minOf;split<;>omega
def qzD{es:List gH}(C:∀e∈es,Has D M k v h e.2/\minOf k v h<=e.2.size)(u:es≠[]):es.flatMap (·.2.y3)≠[]:=by
 cases es with
 | nil=>exact absurd rfl u
 | cons a r=>intro e;rw[yH] at e;exact (C a oL).1.ne (append_eq_nil_iff.1 e).1
def qzF(E:gU k v){L1 L2:fN}(hl:je D M k v h Nl n1 L1 R1)(hr:je D M k v h Nr n2 L2 R2)(h1:minOf k v h<n1)(h2:n2+1=minOf k v h)(h3:∀x∈L1,fI x.1 key)(h4:∀y∈L2,lJ key y.1)(hk:key.length=k/\eF key): tu D M k v h (iQ Nl Nr key) (L1++L2) (R1++R2):=by
 have av:=E.min h;cases h with
 | zero=>
  obtain⟨rfl,rfl,rfl,ak,J,R⟩:=hl;obtain⟨rfl,rfl,rfl,aw,U,al⟩:=hr;have am:L1≠[]:=fun e=>by rw[e] at h1;simp at h1
  obtain⟨L,z,rfl⟩:∃L z,L1=L++[z]:=⟨L1.dropLast,L1.getLast am,(vA am).symm⟩;rw[qzS];have hz:=ak z oL;have an:=e9.sY.1 J;rw[zF] at h1 R;have ax:e9 (z::L2):=by refine yJ.2 ⟨fun a ha=>?_,U⟩;obtain⟨y,C,rfl⟩:=mem_map.1 ha;exact qY (h3 z oL) (h4 y C)
  have ay:minOf k v 0=(dV k v).1 / 2:=rfl;refine⟨L.length,L,[],L2.length+1,z::L2,[],⟨rfl,rfl,rfl,ak.sub fun x I=>zH _ I,an.1,?_⟩,⟨rfl,rfl,rfl,fun x I=>(zG.1 I).elim (fun e=>by rw[e];exact hz) (aw x),ax,oJ⟩,oL,rfl,fun x I=>an.2.2 x I z oL,fun y C=>?_,hz.1,hz.2.2.1,?_,oJ,?_,oL⟩;simp at R;omega;rcases zG.1 C with rfl|C;exact qC;exact sE (qY (h3 z oL) (h4 y C));simp at h1;omega;intro e;rw[e] at h1;simp at h1;omega
 | succ h=>
  obtain⟨ad,az,rfl,rfl,rfl,rfl,ao,J,R,ae⟩:=hl;obtain⟨u,aA,rfl,rfl,rfl,rfl,aB,U,al,af⟩:=hr;obtain⟨a,G,z,rfl⟩:∃a G z,ad=a::G++[z]:=by
   have:2<=ad.length:=(by have:=av.1;unfold oneOf at this;rw[iN] at this;omega);match ad,this with
   | a::b::r,_=>exact⟨a,(b::r).dropLast,(b::r).getLast oL,by rw[xJ,vA]⟩
  obtain⟨b,u,rfl⟩:∃b G,u=b::G:=by
   cases u with
   | nil=>cases aA
   | cons b r=>exact⟨b,r,rfl⟩
  rw[qzL];have hz:=ae z oL;have ap:=ao z (show z∈G++[z] by simp);have aq:=fK.mid (A:=a::G) (e:=z) (B:=[]) J;have V:fI z.1 key:=by obtain⟨x,I⟩:=exists_mem_of_ne_nil _ hz.1.ne;exact Ay (J.low z oL x I) (h3 x (yK.2 ⟨z,oL,I⟩))
  have ar:∀y∈b.2.y3,lJ key y.1:=fun y C=>h4 y (by rw[yH];exact zH _ C);have ag:∀c∈u,fI key c.1:=Gu U (af b oL).1 ar;have ah:fK (([],z.2)::(key,b.2)::u):=by refine fK.sY (a:=[([],z.2)]) (EU fun x _=>Bw _) (U.head ag ar) fun x I y C=>?_;rw[zE.1 I];rcases zG.1 C with rfl|C;exact⟨quh V,fun w hw=>h3 w (yK.2 ⟨z,oL,hw⟩)⟩;exact⟨quh (ag y C),fun w hw=>pf (h3 w (yK.2 ⟨z,oL,hw⟩)) (ag y C)⟩
  have ay:minOf k v (h+1)=(dV k v).2 / 2:=rfl;simp only[zF,yI,xK] at h1 h2 R al;have aD:(a::G++[z]).flatMap (·.2.y3)=(a::G).flatMap (·.2.y3)++z.2.y3:=(by simp[yQ]);have aE:(a::G++[z]).flatMap (·.2.y4)=(a::G).flatMap (·.2.y4)++z.2.y4:=(by simp[yQ]);refine⟨G.length+1,(a::G).flatMap (·.2.y3),(a::G).flatMap (·.2.y4),u.length+2,z.2.y3++(b.2.y3++u.flatMap (·.2.y3)),z.2.y4++(b.2.y4++u.flatMap (·.2.y4)),⟨a::G,az,rfl,rfl,rfl,rfl,fun c E=>ao c (show c∈G++[z] from zH _ E),J.sub (sublist_append_left _ _),oJ,fun c E=>ae c (zH _ E)⟩,⟨([],z.2)::(key,b.2)::u,rfl,rfl,rfl,rfl,rfl,fun c E=>(zG.1 E).elim (fun e=>by rw[e];exact hk) (aB c),ah,oJ,fun c E=>?_⟩,?_,?_,fun x I=>?_,fun y C=>?_,ap.1,ap.2,oJ,oJ,?_,?_⟩;rcases zG.1 E with rfl|E;exact hz;rcases zG.1 E with rfl|E;exact af b oL;exact af c (by simp[E]);rw[aD];simp only[yH,zV];rw[aE];simp only[yH,zV];obtain⟨c,E,I⟩:=yK.1 I;exact aq.1 c E x I;rcases zD.1 C with C|C;exact J.low z oL y C;exact zt (sE V) (h4 y (by rw[yH];exact C));exact qzD (fun c E=>ae c (zH _ E)) oL;intro e;exact hz.1.ne (append_eq_nil_iff.1 e).1
def qwY{es:List gH}(E:fK es)(G:∀e∈es,Has D M k v h e.2/\minOf k v h<=e.2.size)(I:∀x∈es.flatMap (·.2.y3),fI x.1 key):∀e∈es,fI e.1 key:=fun e u=>by obtain⟨x,C⟩:=exists_mem_of_ne_nil _ (G e u).1.ne;exact Ay (E.low e u x C) (I x (yK.2 ⟨e,u,C⟩))
def qAf(hc:gU k v){L1 L2:fN}(hl:je D M k v h Nl n1 L1 R1)(hr:je D M k v h Nr n2 L2 R2)(h1:n1+1=minOf k v h)(h2:minOf k v h<n2)(h3:∀x∈L1,fI x.1 key)(h4:∀y∈L2,lJ key y.1)(hk:key.length=k/\eF key): tu D M k v h (takeN Nl Nr key) (L1++L2) (R1++R2):=by
 have hmn:=hc.min h;cases h with
 | zero=>
  obtain⟨rfl,rfl,rfl,hL1,hs1,hb1⟩:=hl;obtain⟨rfl,rfl,rfl,hL2,hs2,hb2⟩:=hr;obtain⟨z,y,L,rfl⟩:∃z y L,L2=z::y::L:=by
   match L2,h2 with
   | [],h=>simp at h
   | [_],h=>simp at h;omega
   | z::y::L,_=>exact⟨z,y,L,rfl⟩
  rw[qzV];have hz:=hL2 z oL;have hy:=hL2 y oL;have hcs:=yJ.1 (show (z.1::dP (y::L)).Pairwise fI from hs2);simp only[yI] at h2 hb2;have hml:minOf k v 0=(dV k v).1 / 2:=rfl;have hzy:fI z.1 y.1:=hcs.1 y.1 oL;refine⟨L1.length+1,L1++[z],[],L.length+1,y::L,[],⟨rfl,oL,rfl,fun x hx=>(zD.1 hx).elim (hL1 x) fun hx=>by rw[zE.1 hx];exact hz,?_,oJ⟩,⟨rfl,oL,rfl,fun x hx=>hL2 x (zN _ hx),hcs.2,oJ⟩,oL,rfl,fun x hx=>?_,fun w hw=>?_,hy.1,hy.2.2.1,oJ,oJ,oL,oL⟩;exact e9.sY.2 ⟨hs1,pairwise_singleton _ _,fun x hx w hw=>by rw[zE.1 hw];exact qY (h3 x hx) (h4 z oL)⟩;rcases zD.1 hx with hx|hx;exact pf (qY (h3 x hx) (h4 z oL)) hzy;rw[zE.1 hx];exact hzy;rcases zG.1 hw with rfl|hw;exact qC;exact sE ((yJ.1 (show (y.1::dP L).Pairwise fI from hcs.2)).1 w.1 (zZ hw))
 | succ h=>
  obtain⟨es1,hh1,rfl,rfl,rfl,rfl,hk1,hs1,hb1,hp1⟩:=hl;obtain⟨es2,hh2,rfl,rfl,rfl,rfl,hk2,hs2,hb2,hp2⟩:=hr;obtain⟨a,es,rfl⟩:∃a es,es1=a::es:=by
   cases es1 with
   | nil=>cases hh1
   | cons b r=>exact⟨b,r,rfl⟩
  obtain⟨z,y,es2,rfl⟩:∃z y es,es2=z::y::es:=by
   have h9:=hmn.2;match es2,h2 with
   | [],h=>simp at h
   | [_],h=>simp at h;omega
   | z::y::L,_=>exact⟨z,y,L,rfl⟩
  rw[qzN];have hz:=hp2 z oL;have hyk:=hk2 y (show y∈y::es2 by simp);have hz4:∀w∈z.2.y3,lJ key w.1:=fun w hw=>h4 w (by rw[yH];exact zH _ hw);have hky:fI key y.1:=Gu hs2 hz.1 hz4 y oL;have hcs:=yJ.1 hs2.pair;have hcy:=yJ.1 hcs.2;have hsl:fK (a::es++[(key,z.2)]):=fK.sY hs1 (EU hz4) fun x hx w hw=>by rw[zE.1 hw];exact⟨qwY hs1 hp1 h3 x hx,fun q hq=>h3 q (yK.2 ⟨x,hx,hq⟩)⟩
  have hsr:fK (([],y.2)::es2):=fK.jC (es:=y::es2) (hs2.sub (sublist_cons_self _ _));have hml:minOf k v (h+1)=(dV k v).2 / 2:=rfl;simp only[yI] at h1 h2 hb1 hb2;refine⟨es.length+2,(a::es).flatMap (·.2.y3)++z.2.y3,(a::es).flatMap (·.2.y4)++z.2.y4,es2.length+1,y.2.y3++es2.flatMap (·.2.y3),y.2.y4++es2.flatMap (·.2.y4),⟨a::es++[(key,z.2)],hh1,rfl,oL,by simp[yQ],by simp[yQ],fun c hc=>?_,hsl,oJ,fun c hc=>?_⟩,⟨([],y.2)::es2,rfl,rfl,rfl,rfl,rfl,fun c hc=>hk2 c (show c∈y::es2 from zN _ hc),hsr,oJ,fun c hc=>?_⟩,?_,?_,fun x hx=>?_,fun w hw=>?_,hyk.1,hyk.2,oJ,oJ,?_,?_⟩;rcases zD.1 (show c∈es++[(key,z.2)] from hc) with hc|hc;exact hk1 c hc;rw[zE.1 hc];exact hk;rcases zD.1 hc with hc|hc;exact hp1 c hc;rw[zE.1 hc];exact hz;rcases zG.1 hc with rfl|hc;exact hp2 y oL;exact hp2 c (by simp[hc]);simp only[yH,zV];simp only[yH,zV];rcases zD.1 hx with hx|hx;exact pf (h3 x hx) hky;exact (hcs.1 y oL).2 x hx;rcases zD.1 hw with hw|hw;exact hs2.low y oL w hw;obtain⟨c,hc,hw⟩:=yK.1 hw;exact zt (sE (hcy.1 c hc).1) (hs2.low c (by simp[hc]) w hw);intro e;exact hz.1.ne (append_eq_nil_iff.1 e).2;intro e;exact (hp2 y oL).1.ne (append_eq_nil_iff.1 e).1
def qzO{L1 L2:fN}(hl:je D M k v h Nl n1 L1 R1)(hr:je D M k v h Nr n2 L2 R2)(h1:n1+n2<=(if h=0 then (dV k v).1 else (dV k v).2))(h3:∀x∈L1,fI x.1 key)(h4:∀y∈L2,lJ key y.1)(hk:key.length=k/\eF key): je D M k v h (kM Nl Nr key) (n1+n2) (L1++L2) (R1++R2):=by
 cases h with
 | zero=>
  obtain⟨rfl,rfl,rfl,aj,E,ak⟩:=hl;obtain⟨rfl,rfl,rfl,al,G,am⟩:=hr;rw[qzT];exact⟨rfl,oL,rfl,fun x U=>(zD.1 U).elim (aj x) (al x),e9.sY.2 ⟨E,G,fun x U y I=>qY (h3 x U) (h4 y I)⟩,h1⟩
 | succ h=>
  obtain⟨aa,ab,rfl,rfl,rfl,rfl,an,E,ak,ac⟩:=hl;obtain⟨C,ao,rfl,rfl,rfl,rfl,ap,G,am,J⟩:=hr;obtain⟨a,V,rfl⟩:∃a V,aa=a::V:=by
   cases aa with
   | nil=>cases ab
   | cons b r=>exact⟨b,r,rfl⟩
  obtain⟨b,C,rfl⟩:∃b V,C=b::V:=by
   cases C with
   | nil=>cases ao
   | cons b r=>exact⟨b,r,rfl⟩
  rw[qzM];have ad:∀y∈b.2.y3,lJ key y.1:=fun y I=>h4 y (by rw[yH];exact zH _ I);have R:=Gu G (J b oL).1 ad;refine⟨a::V++(key,b.2)::C,ab,rfl,by simp;omega,by simp[yQ],by simp[yQ],fun c u=>?_,fK.sY E (G.head R ad) fun x U y I=>?_,by simpa using h1,fun c u=>?_⟩;rcases zD.1 (show c∈V++(key,b.2)::C from u) with u|u;exact an c u;rcases zG.1 u with rfl|u;exact hk;exact ap c u;have ae:=qwY E ac h3 x U;have af:∀w∈x.2.y3,fI w.1 key:=fun w hw=>h3 w (yK.2 ⟨x,U,hw⟩);rcases zG.1 I with rfl|I;exact⟨ae,af⟩;exact⟨pf ae (R y I),fun w hw=>pf (af w hw) (R y I)⟩;rcases zD.1 u with u|u;exact ac c u;rcases zG.1 u with rfl|u;exact J b oL;exact J c (by simp[u])
end
end
section
section
variable {D:dI} {M M':dY} {k v:Nat}
def Step.part{M1:dY}{a x y:List Int}(C:∀z∈a++(x++b),dT M z)(E:(a++(x++b)).Nodup)(h:Step D M M1 x y):Step D M M1 (a++(x++b)) (a++(y++b)):=by have u:(a++(x++b)).Perm ((a++b)++x):=Ck (z:=a);exact ((h.beside (Z:=a++b) (fun z G=>C z (u.mem_iff.2 (zH _ G))) (u.nodup_iff.1 E)).perm u.symm (Ck (z:=a)).symm)
def Step.kid{M1 u:dY}{h Q:List Int}(C:∀z∈p::R,dT M z)(E:(p::R).Nodup)(G:Step D M M1 R h)(I:Step D M1 u [p] Q):Step D M u (p::R) (Q++h):=by
 have:=Step.node (D:=D) (p:=p) (a:=[]) (b:=[]) (x:=R) (y:=h) (Q:=Q) (oP C) (oP E) G I
 simpa using this
def DY{A B:List gH}{e1 h:gH}:((A++e1::h::B).map (·.1)).tail.getD A.length []=h.1:=by
 cases A with
 | nil=>rfl
 | cons a A=>simp
def xb{A B:List gH}{e1 h:gH}:((A++e1::h::B).map (·.2.x5)).getD A.length 0=e1.2.x5/\((A++e1::h::B).map (·.2.x5)).getD (A.length+1) 0=h.2.x5:=by constructor;simp;simp
def qAb{A B:List gH}{e1 h:gH}{s1 s2:gY}:(⟨false,((A++e1::h::B).map (·.1)).tail.set A.length m,[],(((A++e1::h::B).map (·.2.x5)).set A.length s1.x5).set (A.length+1) s2.x5⟩:dL)=dM (A++(e1.1,s1)::(m,s2)::B):=by
 unfold dM;congr 1;cases A with
 | nil=>rfl
 | cons a A=>simp[set_append_right]
 simp[set_append_right]
def qzz{A B:List gH}{e1 C:gH}{s:gY}:(⟨false,gM ((A++e1::C::B).map (·.1)).tail A.length,[],gM (((A++e1::C::B).map (·.2.x5)).set A.length s.x5) (A.length+1)⟩:dL)=dM (A++(e1.1,s)::B):=by
 have G:(A.map (·.2.x5)).length=A.length:=zK _;unfold dM gM;congr 1;cases A with
 | nil=>rfl
 | cons a A=>
  have u:((a::A++e1::C::B).map (·.1)).tail=(A.map (·.1)++[e1.1])++(C.1::B.map (·.1)):=oL;have E:((a::A++(e1.1,s)::B).map (·.1)).tail=(A.map (·.1)++[e1.1])++B.map (·.1):=oL;have h:(A.map (·.1)++[e1.1]).length=(a::A).length:=oL;rw[u,E,take_left' h,<- h,drop_length_add_append];rfl
 have u:((A++e1::C::B).map (·.2.x5)).set A.length s.x5=(A.map (·.2.x5)++[s.x5])++(C.2.x5::B.map (·.2.x5)):=(by rw[xN,set_append_right _ _ oJ,G,Nat.sub_self];simp);have h:(A.map (·.2.x5)++[s.x5]).length=A.length+1:=oL;rw[u,take_left' h,<- h,drop_length_add_append];simp
def qAa{A B:List gH}{e:gH}{s:gY}:(⟨false,((A++e::B).map (·.1)).tail,[],((A++e::B).map (·.2.x5)).set A.length s.x5⟩:dL)=dM (A++(e.1,s)::B):=by
 have h:(A.map (·.2.x5)).length=A.length:=zK _;unfold dM;congr 1;cases A with
 | nil=>rfl
 | cons a A=>simp
 rw[xN,set_append_right _ _ oJ,h,Nat.sub_self];simp
structure sA (D:dI) (M:dY) (k v:Nat) (h:Nat) (A B:List gH) (e1 e2:gH) (Nl Nr:dL) (n1 n2:Nat) (L1 L2:fN) (R1 R2:List Int):Prop where
 wf:M.Wf
 Q3:M.Q3=false
 head:((A++e1::e2::B).map (·.1)).head?=some []
 J6:gr k (A++e1::e2::B)
 sep:fK (A++(e1.1,⟨0,0,L1,[]⟩)::(e2.1,⟨0,0,L2,[]⟩)::B)
 len:A.length+B.length+2<=(dV k v).2
 rest:∀ b,b∈A\/b∈B->Has D M k v h b.2/\minOf k v h<=b.2.size
 left:je D M k v h Nl n1 L1 R1
 right:je D M k v h Nr n2 L2 R2
 use:∀ x∈A.flatMap (·.2.y4)++(((e1.2.x5::R1)++(e2.2.x5::R2))++B.flatMap (·.2.y4)),dT M x
 nodup:(A.flatMap (·.2.y4)++(((e1.2.x5::R1)++(e2.2.x5::R2))++B.flatMap (·.2.y4))).Nodup
def sA.wh{A B:List gH}{e1 u:gH}{G I:dL}{E C:fN}{J:List Int}(H:sA D M k v h A B e1 u G I n1 n2 E C J R):(∀x∈E,fI x.1 u.1)/\(∀y∈C,lJ u.1 y.1)/\u.1.length=k/\eF u.1:=by have U:=pairwise_append.1 H.sep.pair;have V:=yJ.1 U.2.1;have hk:=H.J6 u (by cases A<;>simp);exact⟨(V.1 (u.1,⟨0,0,C,[]⟩) oL).2,H.sep.low (u.1,⟨0,0,C,[]⟩) oL,hk⟩
def qtV(hc:gU k v){A B:List gH}{e1 E:gH}{L1 L2:fN}(H:sA D M k v h A B e1 E Nl Nr n1 n2 L1 L2 R1 R2){r:dL×dL×Key}(hr:tu D M k v h r (L1++L2) (R1++R2))(hf:2<=M.Q1.length): ∃N M' R,mV k v M (dM (A++e1::E::B)) A.length r=((N,0),M')/\je D M' k v (h+1) N (A.length+B.length+2) (A.flatMap (·.2.y3)++((L1++L2)++B.flatMap (·.2.y3))) R/\ Step D M M' (A.flatMap (·.2.y4)++(((e1.2.x5::R1)++(E.2.x5::R2))++B.flatMap (·.2.y4))) R/\M.Q1.length<=M'.Q1.length+2:=by
 obtain⟨m1,K1,I,m2,K2,J,aN,aO,eL,eR,aP,aQ,aR,aT,aU,aV,aB,aC⟩:=hr.CF;have bh:=hc.min h;have ad:=H.use;have au:=H.nodup;have pm:(((e1.2.x5::R1)++(E.2.x5::R2))).Perm (e1.2.x5::E.2.x5::(R1++R2)):=by rw[xJ];exact (perm_middle).cons _
 rw[<- eR] at pm;have aa:∀x,x∈e1.2.x5::E.2.x5::(I++J)->x∈A.flatMap (·.2.y4)++(((e1.2.x5::R1)++(E.2.x5::R2))++B.flatMap (·.2.y4)):=fun x C=>zI _ (zH _ (pm.mem_iff.2 C));have aj:(e1.2.x5::E.2.x5::(I++J)).Nodup:=pm.nodup_iff.1 (yM.1 (yM.1 au).2.1).1;have ab:=nodup_cons.1 aj;have ak:=nodup_cons.1 ab.2;have aW:=ad _ (aa e1.2.x5 oL);have aE:=ad _ (aa E.2.x5 oL);obtain⟨G,M1,s1,ae,H1,bj⟩:=aN.store H.wf H.Q3 oJ aW (fun hm=>ab.1 (zN _ (zH _ hm))) oJ;have U:∀x,dT M x->x≠e1.2.x5->dH D M1 x=dH D M x/\dT M1 x/\x≠G:=fun x C av=>by
  have:=ae.rest x C (oP av)
  exact⟨this.1,this.2.1,by simpa using this.2.2⟩
 have af:E.2.x5≠e1.2.x5:=fun e=>ab.1 (by rw[e];simp);have aY:je D M1 k v h r.2.1 m2 K2 J:=aO.q8 fun x C=>(U x (ad x (aa x (by simp[C]))) (fun e=>ab.1 (by rw[<- e];simp[C]))).1;obtain⟨V,M2,s2,aF,H2,bm⟩:=aY.store ae.wf ae.Q3 oJ (U _ aE af).2.1 (fun hm=>ak.1 (zI _ hm)) oJ;have ag:∀x,dT M1 x->x≠E.2.x5->dH D M2 x=dH D M1 x/\dT M2 x/\x≠V:=fun x C av=>by
  have:=aF.rest x C (oP av)
  exact⟨this.1,this.2.1,by simpa using this.2.2⟩
 have al:∀x∈G::I,dT M1 x/\x≠E.2.x5:=fun x C=>by refine⟨H1.J4 ae.Q3 x C,fun e=>?_⟩;rcases zG.1 C with e'|C;rcases ae.new G oL with h9|h9;exact af (by rw[<- e,e',zE.1 h9]);exact h9 (by rw[<- e',e];exact aE);exact ak.1 (zH _ (e▸C))
 have aZ:Has D M2 k v h ⟨G,m1,K1,G::I⟩:=H1.q8 fun x C=>(ag x (al x C).1 (al x C).2).1;have a0:∀b,b∈A\/b∈B->∀x∈b.2.y4,dT M x/\x≠e1.2.x5/\x≠E.2.x5:=fun b u x C=>by
  have hd:=yM.1 au;have a1:=yM.1 hd.2.1;have aG:∀z,z=e1.2.x5\/z=E.2.x5->z∈(e1.2.x5::R1)++(E.2.x5::R2):=fun z hz=>pm.mem_iff.2 (by rcases hz with rfl|rfl<;>simp);have key:∀z,z=e1.2.x5\/z=E.2.x5->x≠z:=fun z hz e=>by rcases u with u|u;exact hd.2.2 x (yK.2 ⟨b,u,C⟩) z (zH _ (aG z hz)) e;exact a1.2.2 z (aG z hz) x (yK.2 ⟨b,u,C⟩) e.symm
  refine⟨ad x ?_,key _ (.inl rfl),key _ (.inr rfl)⟩;rcases u with u|u;exact zH _ (yK.2 ⟨b,u,C⟩);exact zI _ (zI _ (yK.2 ⟨b,u,C⟩))
 have ah:∀b,b∈A\/b∈B->Has D M2 k v h b.2/\minOf k v h<=b.2.size:=fun b u=>⟨(H.rest b u).1.q8 fun x C=>by have h9:=a0 b u x C;have h8:=U x h9.1 h9.2.1;exact ((ag x h8.2.1 h9.2.2).1).trans h8.1,(H.rest b u).2⟩;have hL:K1++K2=L1++L2:=eL;have aH:fK (A++(e1.1,(⟨G,m1,K1,G::I⟩:gY))::(r.2.2,⟨V,m2,K2,V::J⟩)::B):=by
  have hS:=H.sep;have hp:=pairwise_append.1 hS.pair;have ai:=yJ.1 hp.2.1;have aJ:=yJ.1 ai.2;have hj:fK (A++(e1.1,(⟨0,0,L1++L2,[]⟩:gY))::B):=by refine⟨pairwise_append.2 ⟨hp.1,yJ.2 ⟨fun b u=>⟨(ai.1 b (by simp[u])).1,fun x C=>?_⟩,aJ.2⟩,fun a ha b u=>?_⟩,fun b u x C=>?_⟩;rcases zD.1 C with C|C;exact (ai.1 b (by simp[u])).2 x C;exact (aJ.1 b u).2 x C;rcases zG.1 u with rfl|u;exact hp.2.2 a ha (e1.1,⟨0,0,L1,[]⟩) oL;exact hp.2.2 a ha b (by simp[u]);rcases zD.1 u with u|u;exact hS.low b (by simp[u]) x C;rcases zG.1 u with rfl|u;rcases zD.1 C with C|C;exact hS.low (e1.1,⟨0,0,L1,[]⟩) oL x C;have h9:=hS.low (E.1,⟨0,0,L2,[]⟩) oL x C;exact zt (sE (ai.1 (E.1,⟨0,0,L2,[]⟩) oL).1) h9;exact hS.low b (by simp[u]) x C
  exact hj.wJ hL.symm aP aQ aB aC
 have aw:gr k (A++(e1.1,(⟨G,m1,K1,G::I⟩:gY))::(r.2.2,⟨V,m2,K2,V::J⟩)::B):=by
  have h9:gr k (A++e1::B):=fun b u=>H.J6 b (by
   cases A with
   | nil=>exact zN _ u
   | cons a A=>
    rcases zD.1 (show b∈A++e1::B from u) with u|u;exact zH (e1::E::B) u;exact zI A ((zG.1 u).elim (fun e=>by rw[e];simp) fun u=>by simp[u]))
  exact qsd h9 ⟨aR,aT⟩
 have ax:((A++(e1.1,(⟨G,m1,K1,G::I⟩:gY))::(r.2.2,⟨V,m2,K2,V::J⟩)::B).map (·.1)).head?=some []:=by
  have h9:=H.head;cases A with
  | nil=>exact h9
  | cons a A=>exact h9
 refine⟨dM (A++(e1.1,(⟨G,m1,K1,G::I⟩:gY))::(r.2.2,⟨V,m2,K2,V::J⟩)::B),M2,_,?_,⟨_,ax,rfl,by simp;omega,?_,rfl,aw,aH,H.len,fun b u=>?_⟩,?_,oJ⟩;have a2:(dM (A++e1::E::B)).J9.getD A.length 0=e1.2.x5:=xb.1;have a3:(dM (A++e1::E::B)).J9.getD (A.length+1) 0=E.2.x5:=xb.2;unfold mV;rw[a2,a3,s1];dsimp only;rw[if_neg (fun h=>h rfl),s2];exact congrArg (fun N=>((N,(0:Int)),M2)) (qAb (s1:=⟨G,m1,K1,G::I⟩) (s2:=⟨V,m2,K2,V::J⟩));rw[qn,yH,<- hL,zV];rcases zD.1 u with u|u;exact ah b (.inl u);rcases zG.1 u with rfl|u;exact⟨aZ,aU⟩;rcases zG.1 u with rfl|u;exact⟨H2,aV⟩;exact ah b (.inr u);have t1:Step D M M1 (e1.2.x5::E.2.x5::(I++J)) ([G]++E.2.x5::(I++J)):=by
  have:=ae.beside (Z:=E.2.x5::(I++J)) (fun x C=>ad x (aa x (zN _ C))) (by have p9:(e1.2.x5::E.2.x5::(I++J)).Perm ((E.2.x5::(I++J))++[e1.2.x5]):=(perm_append_singleton _ _).symm;exact p9.nodup_iff.1 aj)
  exact this.perm (perm_append_singleton _ _) perm_append_comm
 have aK:∀x∈[G]++(I++J),dT M1 x:=fun x C=>t1.has x (by rcases zD.1 C with C|C;exact zH _ C;exact zI _ (zN _ C));have p8:([G]++E.2.x5::(I++J)).Perm (([G]++(I++J))++[E.2.x5]):=(by exact perm_middle.trans<|(perm_append_singleton _ _).symm);have t2:=aF.beside (Z:=[G]++(I++J)) aK (p8.nodup_iff.1 t1.nodup);have t3:=(t1.perm (.refl _) p8).trans t2;have p7:(([G]++(I++J))++[V]).Perm ((G::I)++(V::J)):=(by show (G::((I++J)++[V])).Perm (G::(I++V::J));refine List.Perm.cons _ ((perm_append_singleton _ _).trans ?_);exact perm_middle.symm);have t4:=Step.part (D:=D) (a:=A.flatMap (·.2.y4)) (b:=B.flatMap (·.2.y4)) ad au (t3.perm pm.symm p7);rw[qn,yH];refine t4.perm (.refl _) ?_;rw[zV]
end
end
end
end Go.Proofs.YtpcmehldpoljfaaGreatDoor
