/- Conditions: those that stand in each line. -/
import Derived.Test.YtpcmehldpoljfaaGreatDoorCSAR3
import Derived.Test.YtpcmehldpoljfaaGreatDoorTie
import Derived.Test.YtpcmehldpoljfaaGreatDoorCSAR1
import Derived.LaidMore
import Derived.MakeChecks
import Derived.OpenShut
import Derived.ProofKit
import Derived.Test.YtpcmehldpoljfaaGreatDoorCSAR2
import Derived.Lib.Bytealg
import Derived.Lib.BytesEntry
import Derived.Laws.IdiomStrings
import Derived.Laws.BytesString
set_option linter.unusedVariables false
set_option linter.unusedSimpArgs false
set_option linter.defProp false
namespace Go.Proofs.YtpcmehldpoljfaaGreatDoor
open Go Go.Pt
attribute [local irreducible] ld dL gZ mP i3 fc st new idx i4 jg fB jk iO lS gB nn call dZ inv run eW iC join loop held ext jU eH mv mp mA IntKind.wrap
open Go.Proofs.Tryz (prog)
section
open Go Go.Pt List
open Go.IntKind (wrap)
open Classical
variable {k v:Nat}
structure dM where
 Q4:Bool
 J6:List Key
 Q0:List Key
 J9:Il
variable {n:dM}
def ir:dM:=⟨false,[],[],[]⟩
def dY (k v:Nat):Iu:=if k<1\/k>24\/v>108 then (0,0) else (498 / (k+v),(498+k) / (4+k))
def fH (n:dM) (k v:Nat):Prop:=
 (∀a∈n.J6,a.length=k)/\(∀a∈n.Q0,a.length=v)/\fL n.J6/\
 if n.Q4 then n.J9=[]/\1<=n.J6.length/\n.J6.length<=(dY k v).1/\n.Q0.length=n.J6.length
 else (∀x∈n.J9,2<=x)/\n.Q0=[]/\2<=n.J9.length/\n.J9.length<=(dY k v).2/\n.J6.length+1=n.J9.length
def kE (J6 Q0:List Key):Il:=(J6.zip Q0).flatMap λx=>x.1++x.2
def gd (n:dM):Il:=if n.Q4 then be n.J6.length 2++kE n.J6 n.Q0 else be n.J9.length 2++n.J9.flatMap (λx=>be x 4)++n.J6.flatten
def iE (n:dM):Int:=if n.Q4 then 3 else 4
noncomputable def eO (n:dM) (k v:Nat):Int×List Int×Int:=if fH n k v then (iE n,gd n,0) else (0,[],1)
def iQ (k v:Nat):Nat->Il->List Key×List Key
 | 0,_=>([],[])
 | c+1,b=>(b.take k::(iQ k v c (b.drop (k+v))).1,(b.drop k).take v::(iQ k v c (b.drop (k+v))).2)
def y6:Nat->Il->Il
 | 0,_=>[]
 | c+1,b=>gW (b.take 4)::y6 c (b.drop 4)
def kZ (k:Nat):Nat->Il->List Key
 | 0,_=>[]
 | c+1,b=>b.take k::kZ k c (b.drop k)
def fG (b:Il):Nat:=(b.getD 0 0*256+b.getD 1 0).toNat
def mF (k v:Nat) (b:Il):dM:=⟨true,(iQ k v (fG b) (b.drop 2)).1,(iQ k v (fG b) (b.drop 2)).2,[]⟩
def lh (k:Nat) (b:Il):dM:=⟨false,kZ k (fG b-1) ((b.drop 2).drop (fG b*4)),[],y6 (fG b) (b.drop 2)⟩
noncomputable def iy (kind:Int) (b:Il) (k v:Nat):dM×Int:=
 if (dY k v).1=0\/b.length<2\/b.length>500 then (ir,2)
 else if kind=3/\(b.drop 2).length=fG b*(k+v)/\fH (mF k v b) k v then (mF k v b,0)
 else if kind=4/\1<=fG b/\(b.drop 2).length=fG b*4+(fG b-1)*k/\fH (lh k b) k v then (lh k b,0)
 else (ir,2)
def qsZ{kind:Int}{b:Il}(h:(iy kind b k v).2=0):fH (iy kind b k v).1 k v:=by unfold iy at h⊢;split at h;cases h;rename_i E;rw[iN E];split at h;rename_i u;rw[iP u];exact u.2.2;rename_i u;rw[iN u];split at h;rename_i C;rw[iP C];exact C.2.2.2;cases h
def EG{k v:Nat}:∀ {J6 Q0:List Key},(∀a∈J6,a.length=k)->(∀a∈Q0,a.length=v)->J6.length=Q0.length->(kE J6 Q0).length=J6.length*(k+v)
 | [],[],_,_,_=>by simp[kE]
 | a::r,b::s,C,E,G=>by
  have:=EG (J6:=r) (Q0:=s) (λx u=>C x (zN _ u)) (λx u=>E x (zN _ u)) (oP G);unfold kE at this⊢;rw[zip_cons_cons,yG,zF,zF,C a oL,E b oL,this,yH,xT];omega
 | [],_::_,_,_,h=>by simp at h
 | _::_,[],_,_,h=>by simp at h
def quH{k v:Nat}:∀ {J6 Q0:List Key},(∀a∈J6,a.length=k)->(∀a∈Q0,a.length=v)->J6.length=Q0.length->iQ k v J6.length (kE J6 Q0)=(J6,Q0)
 | [],[],_,_,_=>rfl
 | a::r,b::s,C,E,R=>by have ih:=quH (k:=k) (v:=v) (J6:=r) (Q0:=s) (λx u=>C x (zN _ u)) (λx u=>E x (zN _ u)) (oP R);have G:=C a oL;have I:=E b oL;have e:kE (a::r) (b::s)=a++(b++kE r s):=(by unfold kE;rw[zip_cons_cons,yG,zV]);rw[yH,iQ,e];have e1:(a++(b++kE r s)).take k=a:=(by rw[<- G,take_left'];rfl);have J:(a++(b++kE r s)).drop k=b++kE r s:=(by rw[<- G,drop_left'];rfl);have U:(a++(b++kE r s)).drop (k+v)=kE r s:=(by rw[<- xC,J,<- I,drop_left'];rfl);have V:(b++kE r s).take v=b:=(by rw[<- I,take_left'];rfl);rw[U,ih,e1,J,V]
 | [],_::_,_,_,h=>by simp at h
 | _::_,[],_,_,h=>by simp at h
def quE{r:Il}:∀ {l:Il},(∀x∈l,0<=x/\x<4294967296)->y6 l.length (l.flatMap (λx=>be x 4)++r)=l
 | [],_=>rfl
 | a::l,h=>by have ih:=quE (r:=r) (l:=l) λx C=>h x (zN _ C);have u:=ko a 4;rw[yH,y6,yG,zV];generalize l.flatMap (λx=>be x 4)++r=R at ih⊢;have e1:(be a 4++R).take 4=be a 4:=take_left' u;have E:(be a 4++R).drop 4=R:=drop_left' u;rw[e1,E,ih,Ew (h a oL)]
def quD{k:Nat}:∀ {l:List Key},(∀a∈l,a.length=k)->kZ k l.length l.flatten=l
 | [],_=>rfl
 | a::l,h=>by have ih:=quD (k:=k) (l:=l) λx C=>h x (zN _ C);have u:=h a oL;rw[yH,kZ,flatten_cons];have e1:(a++l.flatten).take k=a:=(by rw[<- u];exact take_left);have E:(a++l.flatten).drop k=l.flatten:=(by rw[<- u];exact drop_left);rw[e1,E,ih]
def Gz(l:Il):(l.flatMap λx=>be x 4).length=l.length*4:=by
 induction l with
 | nil=>rfl
 | cons a l ih=>rw[yG,zF,ih,ko,yH];omega
def Ee{k:Nat}:∀ {l:List Key},(∀a∈l,a.length=k)->l.flatten.length=l.length*k
 | [],_=>by simp
 | a::l,h=>by rw[flatten_cons,zF,Ee λx u=>h x (zN _ u),h a oL,yH,xT];omega
def qp3{n:Nat}(h:n<65536)(r:Il):fG (be (n:Int) 2++r)=n:=by
 have E:=ko (n:Int) 2;obtain⟨a,b,e⟩:∃a b,be (n:Int) 2=[a,b]:=by
  match be (n:Int) 2,E with
  | [a,b],_=>exact⟨a,b,rfl⟩
 have u:=sR (n:Int) 2;have C:=qso (n:=(n:Int)) ⟨oJ,oJ⟩;rw[e] at u C;have:=(qyu u).2;rw[C] at this;unfold fG;rw[e];show (a*256+b).toNat=n;omega
def qun{n:Int}{r:Il}:(be n 2++r).drop 2=r:=by
 have:=drop_left (l₁:=be n 2) (l₂:=r);rw[ko] at this;exact this
def qmc(a b:Nat):a / b*b<=a:=Nat.div_mul_le_self a b
def qwG{c:Nat}(h:c<=(dY k v).1):c*(k+v)<=498:=by unfold dY at h;split at h;rw[show c=0 from Nat.le_zero.1 h];omega;exact zL (HZ _ h) (qmc _ _)
def qvu{c:Nat}(h:c<=(dY k v).2):c*4+(c-1)*k<=498:=by
 unfold dY at h;split at h;rw[show c=0 from Nat.le_zero.1 h];omega;have u:c*(4+k)<=498+k:=zL (HZ _ h) (qmc _ _);cases c with
 | zero=>omega
 | succ c=>
  rw[Nat.add_sub_cancel];rw[xT,Nat.mul_add] at u;rw[xT];omega
def Cd:(dY k v).1<=498/\(dY k v).2<=498:=by unfold dY;split;exact⟨oM,oM⟩;exact⟨Nat.div_le_self _ _,Nat.div_le_of_le_mul (by have:(498+k)<=(4+k)*498:=(by rw[xT];omega);exact this)⟩
def CA(h:fH n k v):2<=(gd n).length/\(gd n).length<=500:=by
 obtain⟨C,G,I,u⟩:=h;unfold gd;cases E:n.Q4 with
 | true=>
  rw[E,iP rfl] at u;rw[iP rfl,zF,ko,EG C G u.2.2.2.symm];have:=qwG u.2.2.1;omega
 | false=>
  rw[E,iN oM] at u;rw[iN oM,zF,zF,ko,Gz,Ee C];have:=qvu u.2.2.2.1;have e:n.J6.length=n.J9.length-1:=oJ;rw[e];omega
def qsI:(⟨n.Q4,n.J6,n.Q0,n.J9⟩:dM)=n:=rfl
def qv4(h:fH n k v)(hk:∀x∈n.J9,x<4294967296):iy (iE n) (gd n) k v=(n,0):=by
 have V:=CA h;have h0:=h;obtain⟨R,h2,h3,G⟩:=h;have af:=(Cd (k:=k) (v:=v));unfold iy;cases E:n.Q4 with
 | true=>
  rw[E,iP rfl] at G;have u:fG (gd n)=n.J6.length:=(by unfold gd;rw[E,iP rfl];exact qp3 oJ _);have C:(gd n).drop 2=kE n.J6 n.Q0:=(by unfold gd;rw[E,iP rfl];exact qun);have I:mF k v (gd n)=n:=by unfold mF;rw[u,C,quH R h2 G.2.2.2.symm];rw[<- qsI (n:=n),E,G.1]
  rw[iN,iP ⟨by unfold iE;rw[E];rfl,by rw[u,C,EG R h2 G.2.2.2.symm],by rw[I];exact h0⟩,I]
 | false=>
  rw[E,iN oM] at G;have hb:gd n=be n.J9.length 2++(n.J9.flatMap (λx=>be x 4)++n.J6.flatten):=(by unfold gd;rw[E,iN oM,zV]);have u:fG (gd n)=n.J9.length:=(by rw[hb];exact qp3 oJ _);have C:(gd n).drop 2=n.J9.flatMap (λx=>be x 4)++n.J6.flatten:=(by rw[hb];exact qun);have J:n.J6.length=n.J9.length-1:=oJ;have I:lh k (gd n)=n:=by unfold lh;have e:(n.J9.flatMap (λx=>be x 4)++n.J6.flatten).drop (n.J9.length*4)=n.J6.flatten:=(by rw[<- Gz];exact drop_left);rw[u,C,quE λx hx=>⟨by have:=G.1 x hx;omega,hk x hx⟩,e,<- J,quD R];rw[<- qsI (n:=n),E,G.2.1]
  have ag:1<=(dY k v).1:=(by have U:=G.2.2.2.1;have h6:=G.2.2.1;unfold dY at U⊢;by_cases hc:k<1\/k>24\/v>108;rw[iP hc] at U;have h8:n.J9.length<=0:=U;omega;rw[iN hc];have h7:k+v<=498:=oJ;exact (Nat.le_div_iff_mul_le (show 0<k+v by omega)).2 (by rw[Nat.one_mul];exact h7));rw[iN,iN (λh=>by unfold iE at h;rw[E] at h;exact absurd h.1 oM),iP ⟨by unfold iE;rw[E];rfl,by rw[u];omega,by rw[u,C,zF,Gz,Ee R,J],by rw[I];exact h0⟩,I]
def eI.flat{l:List Key}(h:∀a∈l,eI a):eI l.flatten:=λx u=>by obtain⟨a,C,u⟩:=mem_flatten.1 u;exact h a C x u
def qpZ(u:∀a∈n.J6,eI a)(E:∀a∈n.Q0,eI a):eI (gd n):=by unfold gd;split;refine (sR _ _).append λx h=>?_;obtain⟨y,G,h⟩:=yJ.1 h;have C:=of_mem_zip (a:=y.1) (b:=y.2) G;rcases zD.1 h with h|h;exact u _ C.1 x h;exact E _ C.2 x h;refine ((sR _ _).append λx h=>?_).append (eI.flat u);obtain⟨y,_,h⟩:=yJ.1 h;exact sR _ _ x h
def bw:Nat->Int->Il
 | 0,_=>[]
 | k+1,n=>bw k (n / 256)++[n%256]
def ll:∀(k:Nat) (n:Int),(bw k n).length=k
 | 0,_=>rfl
 | k+1,n=>by rw[bw,zF,ll k];rfl
def pA:∀(k:Nat) (n:Int),eI (bw k n)
 | 0,_=>λ_ h=>nomatch h
 | k+1,n=>λx u=>(zD.1 u).elim (pA k _ x) λh=>by rw[zE.1 h];omega
def qrY(l:Il)(x:Int):og (l++[x])=og l*256+x:=by unfold og;rw[foldl_append];rfl
def ve:∀(k:Nat) {n:Int},0<=n->n<256^k->og (bw k n)=n
 | 0,n,u,h=>by have:n<1:=h;show (0:Int)=n;omega
 | k+1,n,u,h=>by rw[Int.pow_succ] at h;rw[bw,qrY,ve k oJ oJ];omega
def Dt{a b:Int}(u:0<=a/\a<256^k)(C:0<=b/\b<256^k)(h:bw k a=bw k b):a=b:=by rw[<- ve k u.1 u.2,h,ve k C.1 C.2]
def qvz(l:Il):∀(r:Int),l.foldl (λr x=>r*256+x) r=r*256^l.length+og l:=by
 unfold og;induction l with
 | nil=>intro r;simp
 | cons x l ih=>
  intro r;rw[foldl_cons,foldl_cons,ih,ih (0*256+x),yH,Int.pow_succ];have:(r*256+x)*256^l.length=r*(256^l.length*256)+x*256^l.length:=(by rw[Int.add_mul,Int.mul_assoc,Int.mul_comm 256]);rw[this];simp;omega
def Gv(x:Int)(l:Il):og (x::l)=x*256^l.length+og l:=by
 have:=qvz l (0*256+x);rw[show (0*256+x)=x by omega] at this;unfold og;rw[foldl_cons,show (0*256+x:Int)=x by omega,this];rfl
def Dz:∀ {l:Il},eI l->0<=og l/\og l<256^l.length
 | [],_=>⟨oM,oM⟩
 | x::l,h=>by have ih:=Dz λy u=>h y (zN x u);have C:=h x oL;rw[Gv,yH,Int.pow_succ];generalize (256:Int)^l.length=c at ih;have E:x*c<=255*c:=Int.mul_le_mul_of_nonneg_right oJ oJ;have G:0<=x*c:=Int.mul_nonneg oJ oJ;omega
def qul:∀ {a b:Il},eI a->eI b->a.length=b.length->(cmpL a b<0↔og a<og b)
 | [],[],_,_,_=>by show (0:Int)<0↔_;exact .rfl
 | [],_::_,_,_,h=>by simp at h
 | _::_,[],_,_,h=>by simp at h
 | x::a,y::b,E,G,h=>by have C:a.length=b.length:=(oP h);have ih:=qul (λz u=>E z (zN _ u)) (λz u=>G z (zN _ u)) C;have pa:=Dz λz u=>E z (zN _ u);have pb:=Dz λz u=>G z (zN _ u);rw[Gv,Gv,C];rw[C] at pa;generalize (256:Int)^b.length=c at pa pb;unfold cmpL;by_cases h1:x<y;rw[iP h1];have:(x+1)*c<=y*c:=Int.mul_le_mul_of_nonneg_right oJ oJ;rw[Int.add_mul,Int.one_mul] at this;exact⟨λ_=>oJ,λ_=>oM⟩;rw[iN h1];by_cases h2:y<x;rw[iP h2];have:(y+1)*c<=x*c:=Int.mul_le_mul_of_nonneg_right oJ oJ;rw[Int.add_mul,Int.one_mul] at this;exact⟨λh=>absurd h oM,λh=>oJ⟩;rw[iN h2,ih];have:x=y:=oJ;subst this;omega
def quk:∀ {a b c d:Il},a.length=b.length->cmpL (a++c) (b++d)=if a=b then cmpL c d else cmpL a b
 | [],[],_,_,_=>by rw[iP rfl];rfl
 | [],_::_,_,_,h=>by simp at h
 | _::_,[],_,_,h=>by simp at h
 | x::a,y::b,c,d,h=>by have ih:=quk (a:=a) (b:=b) (c:=c) (d:=d) (oP h);rw[show cmpL (x::a++c) (y::b++d)=if x<y then -1 else if y<x then 1 else cmpL (a++c) (b++d) from rfl,show cmpL (x::a) (y::b)=if x<y then -1 else if y<x then 1 else cmpL a b from rfl];by_cases h1:x<y;rw[iP h1,iP h1,iN λe=>by have:=(vB e).1;omega];rw[iN h1,iN h1];by_cases h2:y<x;rw[iP h2,iP h2,iN λe=>by have:=(vB e).1;omega];have:x=y:=oJ;subst this;rw[iN h2,iN h2,ih];by_cases e:a=b;rw[iP e,iP (by rw[e])];rw[iN e,iN λh=>e (vB h).2]
def Dv(n:Int)(h:0<=n/\n<65536):wrap .u16 n=n:=by unfold wrap;have:(IntKind.u16.signed)=false:=rfl;simp only[this,Bool.false_and,Bool.false_eq_true,if_false];exact Int.emod_eq_of_lt h.1 h.2
abbrev je:=Io
def tL (a:je):Prop:=nf a.1/\nf a.2
def iH (a:je):Il:=bw 8 a.1++bw 8 a.2
def mo(a:je):(iH a).length=16:=by rw[iH,zF,ll,ll]
def oY(a:je):eI (iH a):=λx h=>(zD.1 h).elim (pA _ _ x) (pA _ _ x)
def p8:(256:Int)^8=18446744073709551616:=by decide
def EO{a b:je}(u:tL a)(C:tL b)(h:iH a=iH b):a=b:=by obtain⟨E,G⟩:=append_inj h (by rw[ll,ll]);exact Prod.ext (Dt (by rw[p8];exact u.1) (by rw[p8];exact C.1) E) (Dt (by rw[p8];exact u.2) (by rw[p8];exact C.2) G)
def kW (a:je) (n:Int):Il:=iH a++bw 8 n
def kQ (n m:Int):Il:=bw 8 n++bw 8 m
def EW(a:je)(n:Int):(kW a n).length=24:=by rw[kW,zF,mo,ll]
def wZ(n m:Int):(kQ n m).length=16:=by rw[kQ,zF,ll,ll]
def Ej(a:je)(n:Int):eI (kW a n):=λx h=>(zD.1 h).elim (oY _ x) (pA _ _ x)
def Fu(n m:Int):eI (kQ n m):=oY (n,m)
def qxz{a b:je}{n m:Int}(u:tL a)(C:tL b)(E:nf n)(G:nf m)(h:kW a n=kW b m):a=b/\n=m:=by obtain⟨I,J⟩:=append_inj h (by rw[mo,mo]);exact⟨EO u C I,Dt (by rw[p8];exact E) (by rw[p8];exact G) J⟩
def qwI{n m:Int}(h:nf n)(u:nf m):cmpL (bw 8 n) (bw 8 m)<0↔n<m:=by rw[qul (pA _ _) (pA _ _) (by rw[ll,ll]),ve 8 h.1 (by rw[p8];exact h.2),ve 8 u.1 (by rw[p8];exact u.2)]
end
section
open Go Go.Pt List
open Go.IntKind (wrap)
open Classical
end
section
open Go.ChangeShapes Go.WideShapes Go.ChangeAt Go.RowKit Go.Pt
def qBs:ownKnob prog.godebug=none:=by kernel_rfl
def qxl:laidOutB prog=true:=by kernel_rfl
abbrev qG:List (String×DataW Unit):=[("cashbook/crc.halves",Rows.laid_cashbook_crc_halves)]
def quw:prog.globalNamed "cashbook/crc.halves"=some HG:=by kernel_rfl
def qzY:(prog.globals[HG]?).map (·.type)=some 373:=by kernel_rfl
def qzZ:prog.underlying 373=some (.array 16 63):=by kernel_rfl
def qyO:prog.underlying 63=some (.int .u32):=by kernel_rfl
set_option maxRecDepth 100000 in
def qyF(h:Os)(args:Array Ie):laidMetH prog qG ((World.doorLaid prog 4000 h).forCall (λ_ _=>0) ⟨#[],args,[]⟩).memory:=
 laidMetH_of_parts3 (fuel:=8) (laidMet_of_run' 8 oK oK) oK oK
def qvD{W:Ic}(h:laidMetH prog qG W):Hv W:=by
 rw[MakeChecks.laidMetH_plain _ _ _ oK] at h;obtain⟨ps,⟨g0,t0,cs0,f0,p0,q0,hg0,ht0,hv0,hd0,_,_⟩,_,_⟩:=h;obtain rfl:=yN (quw.symm.trans hg0);obtain rfl:=yN (qzY.symm.trans ht0);obtain⟨xs,m1,rfl,hx1,hlen,hn3,hel⟩:=DataW.trod_array qzZ hd0;simp only[Prod.mk.injEq] at hx1;have hx:=hx1.1;unfold Rows.laid_cashbook_crc_halves at hx;rw[DataW.agg.injEq] at hx;have c31:prog.cellsOf 63=1:=oK;have hcl:prog.cellsOf 373=16:=oK;have hb:∃T fr,W.heap[HG]?=some (.cells cs0 T fr):=by unfold World.var? at hv0;rw[quw,Option.bind_some] at hv0;split at hv0;rename_i cs T fr hb;cases hv0;exact⟨T,fr,hb⟩;cases hv0
 obtain⟨T,fr,hb⟩:=hb;have key:∀(i:Nat) (n:Int),(xs.map (·.1))[i]?=some (DataW.lit (.int .u32 n))->cs0.toList[i]?=some (.int .u32 n):=by
  intro i n hi;rw[zQ] at hi;obtain⟨y,hy,hyn⟩:=yS.1 hi;have hil:i<xs.length:=(zP.1 hy).1;have h1:=hel i oJ;rw[c31] at h1;rw[hy] at h1;obtain⟨k,e1,e2,_⟩:=DataW.trod_int qyO h1;rw[e2] at hyn;have hk:k=n:=(oP hyn);subst hk;have:=H9 (·[0]?) e1;simpa using this
 refine⟨T,fr,?_⟩;rw[hb];refine H9 (λc=>some (Obj.cells c T fr)) ?_;apply Array.ext';apply List.ext_getElem?;intro i;have hsz:cs0.toList.length=16:=hlen.trans hcl;have hx':xs.map (·.1)=kS.map (λn=>DataW.lit (.int .u32 n)):=hx.symm;by_cases hi:i<kS.length;have h1:=key i kS[i] (by rw[hx',zQ,zA hi];rfl);rw[h1];show _=(kS.map (Value.int .u32))[i]?;rw[zQ,zA hi];rfl;have h16:kS.length=16:=rfl;rw[yR oJ];exact (yR (by rw[zK];omega)).symm
def qzx{x:Int}(h:IntKind.u8.has x):0<=x/\x<256:=by have u:(0:Int)<=x/\x<=255:=h;omega
def v9{x:Int}(h:IntKind.u16.has x):0<=x/\x<65536:=by have u:(0:Int)<=x/\x<=65535:=h;omega
def zi{x:Int}(h:IntKind.u32.has x):0<=x/\x<4294967296:=by have u:(0:Int)<=x/\x<=4294967295:=h;omega
end
section
open Go Go.Pt Go.Sort List
def Gy(l:Il):l.flatMap iw=l.map (Value.int .u32):=by
 induction l with
 | nil=>rfl
 | cons a l ih=>rw[yG,ih];rfl
def qrT{w:Ic}{s:Sl}{l:Il}{B:Ik}{K:Unit->WP}(h:ln w s l B)(hl:l.length<=1000000)(hk:∀I w',ln w' s I B->I.Perm l->I.Pairwise (·<=·)->Fr B w w'->K () w'): cW 148 [s.v] [] w K:=by
 rcases h with ⟨rfl,rfl,rfl⟩|⟨b,o,C,T,rfl,rfl,ha,hb,h1,h2,h3,J⟩;exact qrU (hk [] w (.nil _ _ _) (.refl _) .nil (.refl _ _));obtain⟨a,len,cap⟩:=s;simp only at ha h1 h2 h3 J;subst ha h1;rw[xE,xS,Gy] at J;rw[xR,xS] at h3;have R:C=gX l.toArray++(C.toList.drop l.length).toArray:=by apply Array.ext';rw[Array.toList_append,gX,Array.toList_map,<- J,xD]
 have E:gI b ⟨T,some (C.toList.drop l.length).toArray⟩ w w l.toArray:=⟨.refl _ _,by rw[hb];show _=some (Obj.cells (gX l.toArray++(C.toList.drop l.length).toArray) T (0,0));rw[<- R]⟩;refine qt9 (len:=l.length) E ⟨oL,oJ⟩ λu w' s1 s2 s3=>?_;have G:u.size=l.length:=(by have:=s1.1;simpa using this);have hp:u.toList.Perm l:=by
  have:=BO s1;rw[zS (by rw[Ib];omega)] at this;simpa using this
 have U:u.toList.length=l.length:=(by rw[<- G];rfl);have am:C.toList.length=C.size:=rfl;refine hk u.toList w' (.inr ⟨b,0,_,T,rfl,rfl,rfl,s3.eJ,?_,?_,?_,?_⟩) hp ?_ s3.fr;show l.length=u.toList.length;exact U.symm;exact h2;show 0+cap*1<=(gX u++(C.toList.drop l.length).toArray).size;have e:(C.toList.drop l.length).toArray.size=C.size-l.length:=oL;rw[Array.size_append,zy,e,G];omega;show ((gX u++(C.toList.drop l.length).toArray).toList.drop 0).take _=_;rw[xE,xS,Array.toList_append,gX,Array.toList_map,HP (by rw[zK];exact zM _),zS (by rw[zK];exact zM _),Gy];rw[pairwise_iff_getElem];intro i j V hj ab;have V:i<u.size:=V;have hj:j<u.size:=hj;have:=s2 i j (yW _) ab oJ;rw[getElem!_pos u i V,getElem!_pos u j hj] at this;simp[ltInt] at this;simpa using this
def qrJ{w:Ic}{mb:Nat}{f:List (Int×Ie)}{K:Sl->WP}(R:iG i8 w mb f)(U:f.length<=100000)(V:∀u B h w',ln w' u h B->h.Perm (f.map (·.1))->h.Pairwise (·<=·)->Fr [] w w'->(∀b∈B,w.heap.size<=b)->K u w'): cW 180 [.map (some mb)] dw w λv w'=> cW 179 [v] dh w' λs w'=>K s w':=by refine qsD<|oB (oE [] w) λrk w1 e1 C ho=>qnx<|qlT<|qrc (R.q8 C oL) (ho.at (i:=0) rfl) U λu B h w2 b2 G f2 I=>?_;have hl:h.length=f.length:=(by have:=G.length_eq;simpa using this);refine qrT b2 oJ λl2 w3 b3 p3 s3 f3=>?_;have J:=C.size;exact V u B l2 w3 b3 (p3.trans G) s3 ((C.trans f2).j8 f3 λb E=>.inr (zL J (I b E))) λb E=>zL J (I b E)
section
variable {w:Ic} {X:Ik} {pb:Nat} {db:Option Addr} {F:Ik} {M:dV}
def qws{K:Sl->WP}(h:eB w X pb db F M)(E:M.J8.length<=100000)(G:∀s B l w',ln w' s l B->l.Perm (M.J8.map (·.1))->l.Pairwise (·<=·)->Fr [] w w'->(∀b∈B,w.heap.size<=b)->K s w'): cW 149 [dG pb] dh w K:=by obtain⟨fb,defb,mb,sl,sn,J,F2,I,rfl,u⟩:=h;refine qi2<|fu ?_;simp only[Addr.q9];refine io u.cell (some mb) (sS u.Q8) ?_;have C:I.length<=100000:=(by rw[u.J8] at E;simpa using E);refine qrJ u.map (oP C) λs B l w' b p o f n=>G s B l w' b ?_ o f n;rw[u.J8];simpa[Function.comp_def] using p
end
end
section
open Go Go.Pt List
open Go.IntKind (wrap)
variable {D:dJ} {F F1 FD S X:Ik} {K:Int->WP} {M:dV} {Q2 Q5 Q9 body l l' numbers y4:Il} {Q3:Bool} {a r:dJ×Int} {db x y:Option Addr} {dbk k mb pb:Nat} {f:dJ->dJ×Int} {j9 next s:nI} {m:Option Nat} {n x6:Int} {offs:Array (Iu)} {parts:List (Nat×Ie)} {sl sn:Sl} {w w1:Ic} {wk:List Ie}
def se{A X Y Z:List Ie}(h:X.length=Y.length):dS (A++X++Z).toArray A.length Y=(A++Y++Z).toArray:=by apply Array.ext';rw[pX _ _ _ (by rw[size_toArray];simp only[zF];omega)];exact FY A X Y Z h
def qo{cells:Array Ie}{i o s:Nat}{v:Ie}{u:List (Nat×Ie)}(h:offs[i]?=some (o,s))(C:v.cells.size=s)(G:o+s<=cells.size): Instr.fill (offs[·]?) cells ((i,v)::u)=Instr.fill (offs[·]?) (dS cells o v.cells.toList) u:=by have E:=Cu o v.cells cells;simp only[Instr.fill,h];rw[iN (by simp[C];omega),E]
def xv{P:Ig}{t:If}{z:Ie}{cs:Array Ie}(u:(P.info? t).bind (·.zero)=some z)(C:P.underlying t=some (.struct (fieldsOf P t)))(h:∀w,((fieldsOf P t).mapM λf=>do pure (f.offset,<- sizeOf f.type):Sem (Array (Iu))).run P w=.ok offs w)(E:Instr.fill (offs[·]?) z.cells parts=some cs)(w:Ic):(Instr.build t parts.toArray).run P w=.ok (.agg cs) w:=by simp only[Instr.build,HS,u9 u,HT,run_underlying C,h,E,Sem.run_pure]
abbrev DI:If:=189
def e9 (x y:Option Addr) (m:Option Nat) (Q2:Il):List Ie:=[.pointer x,.pointer y,.map m]++Q2.map (Value.int .u32)
def py(h:Q2.length=24):(e9 x y m Q2).length=27:=by simp[e9,h]
def qBx:(prog.info? DI).bind (·.zero)=some (.agg (e9 none none none (zs 24)).toArray):=by kernel_rfl
def qvs(h:Q2.length=24)(w:Ic): (Instr.build DI #[(0,.pointer x),(1,.pointer y),(2,.map m),(3,.agg (Q2.map (Value.int .u32)).toArray)]).run prog w=.ok (.agg (e9 x y m Q2).toArray) w:=by refine xv (parts:=[(0,.pointer x),(1,.pointer y),(2,.map m),(3,.agg (Q2.map (Value.int .u32)).toArray)]) (offs:=#[(0,1),(1,1),(2,1),(3,24)]) qBx oK (λw=>oK) ?_ w;have u:(Value.agg (Q2.map (Value.int .u32)).toArray).cells.size=24:=(by show (Q2.map (Value.int .u32)).toArray.size=24;simp[h]);rw[qo (o:=0) (s:=1) rfl rfl (zO rfl),qo (o:=1) (s:=1) rfl rfl (zO rfl),qo (o:=2) (s:=1) rfl rfl (zO rfl),qo (o:=3) (s:=24) rfl u (zO rfl)];show some _=_;congr 1;exact se (A:=[.pointer x,.pointer y,.map m]) (X:=(zs 24).map (Value.int .u32)) (Z:=[]) (Y:=Q2.map (Value.int .u32)) (by simp[h,ot]) |>.trans (by rw[xG];rfl)
def fj (db:Option Addr) (j9:nI) (sl sn:Sl) (x6:Int) (Q3:Bool) (wk:List Ie):Array Ie:=
 ((Value.pointer db::eS j9.1 j9.2)++([sl.v,sn.v,.i x6,.bool Q3]:List Ie)++wk).toArray
def Ai{fb defb:Nat}: fj db j9 sl sn x6 Q3 (e9 (pW fb) (pW defb) (some mb) Q2)=fw db j9 sl sn x6 Q3 fb defb mb Q2:=by simp[fj,fw,mT,e9]
section
variable {db:Option Addr} {j9:nI} {sl sn:Sl} {x6:Int} {Q3:Bool} {wk:List Ie}
def uw(h:j9.2.length=27):(fj db j9 sl sn x6 Q3 wk).size=33+wk.length:=by rw[fj,size_toArray,zF,zF,rL h];rfl
def vS(u:j9.2.length=27)(j:Nat)(h:j<4):(fj db j9 sl sn x6 Q3 wk)[29+j]?=([sl.v,sn.v,.i x6,.bool Q3]:List Ie)[j]?:=by rw[fj,List.getElem?_toArray,zV,yX (by rw[rL u];omega),rL u,vC,yY (by exact h)]
def qBu:(fj db j9 sl sn x6 Q3 wk)[0]?=some (.pointer db):=rfl
def DE(C:j9.2.length=27)(n:Nat)(h:n<27):(fj db j9 sl sn x6 Q3 wk)[n+2]?=some (.u (j9.2.getD n 0)):=by
 rw[fj,List.getElem?_toArray,zV,yY (by rw[rL C];omega),List.getElem?_cons_succ];have:=A2 (q:=j9.1) (t:=j9.2) n oJ;rw[List.getElem?_toArray] at this;exact this
def GS(h:j9.2.length=27):((fj db j9 sl sn x6 Q3 wk).toList.drop 5).take 24=(j9.2.drop 3).map (Value.int .u32):=by have u:((j9.2.drop 3).map (Value.int .u32)).length=24:=(by rw[zK,yB,h]);have e:(fj db j9 sl sn x6 Q3 wk).toList.drop 5=(j9.2.drop 3).map (Value.int .u32)++([sl.v,sn.v,.i x6,.bool Q3]++wk):=(by show List.drop 3 ((j9.2.map (Value.int .u32))++[_,_,_,_]++wk)=_;rw[zV,HV (by rw[zK,h];decide),xP]);rw[e,HP (Nat.le_of_eq u.symm),zS (Nat.le_of_eq u)]
def qzb(C:j9.2.length=27){u:Int}:dS (fj db j9 sl sn x6 Q3 wk) 31 [.i u]=fj db j9 sl sn u Q3 wk:=by
 have h:((Value.pointer db::eS j9.1 j9.2)++([sl.v,sn.v]:List Ie)).length=31:=by rw[zF,rL C];rfl
 have:=se (A:=(Value.pointer db::eS j9.1 j9.2)++([sl.v,sn.v]:List Ie)) (X:=[.i x6]) (Y:=[.i u]) (Z:=.bool Q3::wk) rfl;rw[h] at this;simpa[fj] using this
def qsW(C:j9.2.length=27){u:List Ie}(E:wk.length=u.length):dS (fj db j9 sl sn x6 Q3 wk) 33 u=fj db j9 sl sn x6 Q3 u:=by
 have h:((Value.pointer db::eS j9.1 j9.2)++([sl.v,sn.v,.i x6,.bool Q3]:List Ie)).length=33:=by rw[zF,rL C];rfl
 have:=se (A:=(Value.pointer db::eS j9.1 j9.2)++([sl.v,sn.v,.i x6,.bool Q3]:List Ie)) (X:=wk) (Y:=u) (Z:=[]) E;rw[h,xG,xG] at this;exact this
end
def gA (l:Il):Il:=l.foldl (λa n=>ins n a) []
def quz(n:Int):∀l:Il,(ins n l).length<=l.length+1
 | []=>by simp[ins]
 | a::l=>by
  have:=quz n l;simp only[ins];split;simp;split;simp;simp only[yH];omega
def qtJ{i:Nat}(h:i<l.length):gA (l.take (i+1))=ins l[i] (gA (l.take i)):=by rw[gA,yF h,foldl_append];rfl
def qoc(l:Il):(gA l).length<=l.length:=by
 unfold gA;have:∀(l a:Il),(l.foldl (λa n=>ins n a) a).length<=a.length+l.length:=by
  intro l;induction l with
  | nil=>intro a;simp
  | cons x l ih=>
   intro a;have h:=ih (ins x a);have u:=quz x a;rw[foldl_cons,yH];omega
 simpa using this l []
def qpe(l:Il):∀a:Il,a.Pairwise (· < ·)->(l.foldl (λa n=>ins n a) a).Pairwise (· < ·):=by
 induction l with
 | nil=>intro a h;exact h
 | cons x l ih=>intro a h;exact ih _ (A4 h)
def qsi(l:Il):∀a:Il,(a++l).Nodup->(l.foldl (λa n=>ins n a) a).Perm (a++l):=by
 induction l with
 | nil=>intro a h;rw[xG];exact .refl _
 | cons x l ih=>
  intro a h;have C:x∉a:=λE=>by rw[yL] at h;exact h.2.2 x E x oL rfl
  have G:=wn C;have u:(ins x a++l).Perm (a++x::l):=(G.append_right l).trans (perm_middle.symm);exact (ih (ins x a) (u.nodup_iff.2 h)).trans u
def AV(l:Il):(gA l).Pairwise (· < ·):=qpe l [] .nil
def Gl(h:l.Nodup):(gA l).Perm l:=by
 have:=qsi l [] (oP h);simpa[gA] using this
def qzw(h:l.Pairwise (· < ·)):l.Pairwise (·<=·):=h.imp Int.le_of_lt
def wo(h:l.Pairwise (· < ·)):l.Nodup:=h.imp (λh=>Int.ne_of_lt h)
def FN(h:l'.Perm l)(u:l'.Pairwise (·<=·))(C:l.Nodup):l'=gA l:=
 DM (h.trans (Gl C).symm) u (qzw (AV l))
def qqn(h:l.Pairwise (· < ·)):gA l=l:=(FN (.refl _) (qzw h) (wo h)).symm
def ze{x y:Int}:∀ {l:Il},y∈ins x l↔y=x\/y∈l
 | []=>by simp[ins]
 | a::l=>by
  have:=ze (x:=x) (y:=y) (l:=l);simp only[ins];split;simp;split;rename_i h;subst h;simp;simp only[zG,this];constructor;rintro (h|h|h);exact .inr (.inl h);exact .inl h;exact .inr (.inr h);rintro (h|h|h);exact .inr (.inl h);exact .inl h;exact .inr (.inr h)
def wR{y:Int}:y∈gA l↔y∈l:=by
 have:∀(l a:Il),y∈l.foldl (λa n=>ins n a) a↔y∈a\/y∈l:=by
  intro l;induction l with
  | nil=>intro a;simp
  | cons x l ih=>
   intro a;rw[foldl_cons,ih,ze,zG];constructor;rintro ((h|h)|h);exact .inr (.inl h);exact .inl h;exact .inr (.inr h);rintro (h|h|h);exact .inl (.inr h);exact .inl (.inl h);exact .inr h
 rw[gA,this];simp
def andThen (r:dJ×Int) (f:dJ->dJ×Int):dJ×Int:=if r.2=0 then f r.1 else r
def fE:List (Iz)->dJ->dJ×Int
 | [],D=>(D,0)
 | x::r,D=>andThen (eA D x.1 x.2) (fE r)
def fl (D:dJ) (numbers y4:Il):dJ×Int:=
 if (gl numbers y4).2≠0 then (D,(gl numbers y4).2)
 else andThen (fE ((y4.zip (gl numbers y4).1).map λx=>(x.1,eG x.1 2 x.2)) D) fV
def gD (s:nI):Iz:=(Int.tmod s.1 2,eG (wrap .u32 (Int.tmod s.1 2)) 1 (gr s.1 s.2))
def jD (D:dJ) (s:nI):dJ×Int:=andThen (eA D (gD s).1 (gD s).2) fV
def fy (n:Nat):Il:=(List.range (n-2)).map λ(i:Nat)=>(i:Int)+2
def kH (n:Nat):nI:=(1,[wrap .u32 n,2,wrap .u32 ((fy n).length-eK (fy n).length:Int)]++zs 24)
def lC (D:dJ):dJ×Int:=
 andThen (eA D 0 (zs 512)) λD=>andThen (eA D 1 (zs 512)) λD=>andThen (fV D) λD=>
 andThen (fl D ((fy D.Q6.length).drop (eK (fy D.Q6.length).length)) ((fy D.Q6.length).take (eK (fy D.Q6.length).length))) λD=>jD D (kH D.Q6.length)
def ma (D:dJ) (u:Int):Nat->Int->Il->Il->Option (List Int×List Int)
 | 0,_,_,_=>none
 | f+1,a,h,Q9=>
  if a=0 then some (h,Q9) else
  if a<2\/a>=u\/a∈h then none else
  if (eE D a).2≠0 then none else
  if (eV a (eE D a).1).2.2≠0\/(eV a (eE D a).1).1≠2 then none else
  if (ic (eV a (eE D a).1).2.1).2.2≠0 then none else
  ma D u f (ic (eV a (eE D a).1).2.1).1 (h++[a]) (Q9++(ic (eV a (eE D a).1).2.1).2.1)
def kD (h:Int) (Q5:Il):Int->Il->Bool
 | _,[]=>true
 | u,n::r=>!(decide (n<=u)||decide (n>=h)||decide (n∈Q5))&&kD h Q5 n r
def ou (D:dJ) (s:nI):Option (List Int×List Int):=
 match ma D (s.2.getD 0 0) ((s.2.getD 0 0).toNat+1) (s.2.getD 1 0) [] [] with
 | none=>none
 | some x=>if kD (s.2.getD 0 0) x.1 0 x.2=true/\(x.2.length:Int)=s.2.getD 2 0 then some x else none
def ij (j9:nI) (Q5 Q9:Il) (x6:Int) (Q3:Bool) (h:Il):dV:=⟨j9,Q5,Q9,x6,Q3,h,[],[],j9.2.drop 3⟩
def mH (D:dJ):Option dV×Int:=
 if (eE D 0).2≠0 then (none,(eE D 0).2) else
 if (eE D 1).2≠0 then (none,(eE D 1).2) else
 if (gQ (eE D 0).1 (eE D 1).1).2≠0 then (none,(gQ (eE D 0).1 (eE D 1).1).2) else
 if (gQ (eE D 0).1 (eE D 1).1).1.2.getD 0 0≠D.Q6.length then (none,2) else
 match ou D (gQ (eE D 0).1 (eE D 1).1).1 with
 | none=>(none,2)
 | some x=>(some (ij (gQ (eE D 0).1 (eE D 1).1).1 x.1 x.2 1 false x.2),0)
def jv (M:dV):Option (List Int×List Int):=
 if eK (M.Q1.length+(M.J7++M.Q5).length)>M.Q1.length then none
 else some (M.Q1.take (eK (M.Q1.length+(M.J7++M.Q5).length)),gA ((M.J7++M.Q5)++M.Q1.drop (eK (M.Q1.length+(M.J7++M.Q5).length))))
def jY (J8:List (IA)) (n:Int):Iz:=match look n J8 with|some q=>q.2|none=>(0,[])
def kM (J8:List (IA)):List (Iz):=(gA (J8.map (·.1))).map λn=>(n,eG n (jY J8 n).1 (jY J8 n).2)
def gF (D:dJ) (J8:List (IA)) (y4 Q9:Il) (next:nI):dJ×Int:=
 andThen (fE (kM J8) D) λD=>andThen (fl D Q9 y4) λD=>jD D next
def fO (M:dV) (y4 Q9:Il):nI:=(wrap .u64 (M.j9.1+1),[M.j9.2.getD 0 0,y4.headD 0,wrap .u32 Q9.length]++M.Q2)
def tW:dV:=ij gy [] [] 1 true []
def gC (D:dJ) (M:dV):(dJ×dV)×Int:=
 if M.Q3 then ((D,M),7) else
 if M.J8=[]/\M.J7=[]/\M.Q2=M.j9.2.drop 3 then ((D,M),0) else
 match jv M with
 | none=>((D,M),6)
 | some x=>
  if (gF D M.J8 x.1 x.2 (fO M x.1 x.2)).2≠0 then (((gF D M.J8 x.1 x.2 (fO M x.1 x.2)).1,tW),(gF D M.J8 x.1 x.2 (fO M x.1 x.2)).2)
  else (((gF D M.J8 x.1 x.2 (fO M x.1 x.2)).1,ij (fO M x.1 x.2) x.1 x.2 (M.x6+1) false x.2),0)
def nM (pb:Nat) (x y:Option Addr) (mb:Nat) (vs:List Ie) (K:Unit->WP) (w:Ic):Prop:=
 eW [gU.jX] (λ(w':Go.World)=>(Instr.build DI (#[(0,Value.pointer x),(1,Value.pointer y),(2,Value.map (some mb)),(3,Value.agg (List.toArray vs))])).run prog w') w<|
 λ(u:List Ie)=>
 nn (pW pb)<|
 λ(E:Addr)=>
 gB (List.length u=27)<|
 st ({ block:=E.block,off:=E.off+33 }) u w<|
 λ(G:Ic)=>
 nn (pW pb)<|
 λ(I:Addr)=>
 ld Cell.slice ({ block:=I.block,off:=I.off+30 }) G<|
 λ(J:Sl)=>
 loop (Int) (λ(U:Int->WP) (C:Int) (h:Ic)=>
  cond (decide (C<(↑J.len:Int)))
   (idx J C 1<|
   λ(V:Addr)=>
   ld (Cell.int IntKind.u32) V h<|
   λ(aa:Int)=>
   nn (pW pb)<|
   λ(R:Addr)=>
   ld Cell.ptr ({ block:=R.block,off:=R.off+33 }) h<|
   λ(ab:Option Addr)=>
   cW 152 ([Value.pointer ab,Value.int IntKind.u32 aa]) ([gU.one Cell.bool]) h<|
   λ(ad:Bool) (ac:Ic)=>
   U (wrap IntKind.i64 (C+1)) ac)
   (K () h)) 0 G
def qvn{w3:Ic}{fb defb:Nat}{F2:Ik}{K:Unit->WP}(hs:j9.2.length=27)(hw:wk.length=27)(hX:∀b∈X,b<w.heap.size/\b≠pb)(I:Rd (X++[pb]) w sl Q5)(E:Rd (X++[pb]) w sn Q9)(hn:Q9.length<=100000)(ho:dR [pb] w w3 [(pb,.c (fj db j9 sl sn x6 Q3 wk) rh)])(h1:fY w3 fb F1 [])(h2:fY w3 defb F2 [])(h3:iG i8 w3 mb [])(n1:∀b∈F1,w.heap.size<=b)(n2:∀b∈F2,w.heap.size<=b)(n3:w.heap.size<=mb)(aD:pb<w.heap.size)(af:mb∉F1)(ag:mb∉F2)(ah:∀b∈F1,b∉F2)(hk:∀F' w',eB w' X pb db F' (ij j9 Q5 Q9 x6 Q3 (gA Q9))->Fr [pb] w w'->(∀b∈F',b=pb\/w.heap.size<=b)->K () w'): nM pb (pW fb) (pW defb) mb ((j9.2.drop 3).map (Value.int .u32)) K w3:=by
 have C:(j9.2.drop 3).length=24:=(by rw[yB,hs]);unfold nM;refine qu (ts:=[gU.jX]) (e9 (pW fb) (pW defb) (some mb) (j9.2.drop 3)) (qvs C w3)<|fu<|m8 (py C) ?_;have ab:(e9 (pW fb) (pW defb) (some mb) (j9.2.drop 3)).all Value.oneCell'=true:=by rw[HX];intro v hv;simp only[e9,zD,zG,mem_map,xW,or_false] at hv;rcases hv with (rfl|rfl|rfl)|⟨x,_,rfl⟩<;>rfl
 refine oG ho 0 rfl (fw db j9 sl sn x6 Q3 fb defb mb (j9.2.drop 3)) (by rw[<- Ai];exact qsW hs (by rw[hw,py C])) ab (by rw[uw hs,py C,hw];exact zO rfl) λw4 J f4=>?_;have U:∀b∈F1,b≠pb:=λb u e=>by have:=n1 b u;omega
 have V:∀b∈F2,b≠pb:=λb u e=>by have:=n2 b u;omega
 have hS:∀b∈pb::mb::(F1++F2),b∈[pb]\/w.heap.size<=b:=λb u=>by simp only[zG,zD] at u;rcases u with rfl|rfl|u|u;exact .inl oL;exact .inr n3;exact .inr (n1 b u);exact .inr (n2 b u)
 have hx:nA w4 X pb db (ij j9 Q5 Q9 x6 Q3 []) fb defb mb sl sn F1 F2 []:={
  cell:=J.at (i:=0) rfl
  Q1:=h1.q8 f4 λb u=>by simpa using U b u
  J7:=h2.q8 f4 λb u=>by simpa using V b u
  map:=h3.q8 f4 oO
  J8:=rfl
  rows:=by have hf:Fr (X++[pb]) w w4:=J.fr.mono λb u _=>zI _ u;exact⟨I.q8 hf (yk hS),E.q8 hf (yk hS),λe he=>by cases he⟩
  nH:=λb u=>yC (hX b u).1 J.fr.size
  lQ:=GD (λb u=>(hX b u).1) (λb u=>by simpa using (hX b u).2) hS
  sep:=⟨oJ,λb u=>⟨U b u,λe=>af (e▸u),ah b u⟩,λb u=>⟨V b u,λe=>ag (e▸u)⟩⟩
  Q8:=hs
  x7:=C }
 refine fu (io hx.cell sn (qy5 hs) ?_);have aG:=E.1;refine iX (λx w'=>∃(i:Nat) (R:Ik),x=i/\i<=Q9.length/\nA w' X pb db (ij j9 Q5 Q9 x6 Q3 (gA (Q9.take i))) fb defb mb sl sn R F2 []/\Fr [pb] w w'/\∀b∈R,w.heap.size<=b) (λx _=>((Q9.length:Int)-x).toNat)
  ⟨0,F1,rfl,oJ,hx,J.fr,n1⟩ ?_
 rintro x w5 ⟨i,R,rfl,hi,G,f5,n5⟩ Z hZ;apply cD<;>intro hc;have ac:i<Q9.length:=oJ;refine Rd.at G.rows.Q9 i rfl (zA ac)<|fu (io G.cell (pW fb) (zm hs) ?_);have an:=qoc (Q9.take i);rw[yK] at an;refine Dh G.Q1 (by show (gA (Q9.take i)).length<=_;omega) λad w6 ao f6 n6=>?_;have ap:=G.qa f6 ao n6;rw[gi _ oJ];refine hZ _ _ ⟨i+1,ad,oL,oJ,?_,f5.j8 f6 λb u=>.inr (n5 b u),λb u=>?_⟩ oJ;rw[qtJ ac];exact ap;rcases n6 b u with h|h;exact n5 b h;exact zL f5.size h;have:i=Q9.length:=oJ;subst this;rw[xY] at G;refine hk _ w5 ⟨fb,defb,mb,sl,sn,R,F2,[],rfl,G⟩ f5 λb u=>?_;simp only[zG,zD] at u;rcases u with rfl|rfl|u|u;exact .inl rfl;exact .inr n3;exact .inr (n5 b u);exact .inr (n2 b u)
def Eo{K:Unit->WP}(hc:w.heap[pb]?=some (.c (fj db j9 sl sn x6 Q3 wk) rh))(hs:j9.2.length=27)(hw:wk.length=27)(ht:0<=x6/\x6<=1000000000)(hX:∀b∈X,b<w.heap.size/\b≠pb)(hlists:Rd (X++[pb]) w sl Q5)(hnamed:Rd (X++[pb]) w sn Q9)(hn:Q9.length<=100000)(hk:∀F' w',eB w' X pb db F' (ij j9 Q5 Q9 (x6+1) Q3 (gA Q9))->Fr [pb] w w'->(∀b∈F',b=pb\/w.heap.size<=b)->K () w'): cW 115 [dG pb] [] w K:=by
 have hpb:=eX hc;have ho:dR [pb] w w [(pb,.c (fj db j9 sl sn x6 Q3 wk) rh)]:=⟨by simpa using hc,oL,.refl _ _,oL⟩;refine qi3 (p:=pW pb)<|fu (oA (c:=.i) ho 0 rfl x6 (vS hs 2 oM) ?_);rw[gi _ oJ];refine fu (oG ho 0 rfl (fj db j9 sl sn (x6+1) Q3 wk) (qzb hs) rfl (by rw[uw hs,hw];exact zO rfl) λw1 ho f1=>?_);have hrl:((j9.2.drop 3).map (Value.int .u32)).length=24:=(by rw[zK,yB,hs]);have hcA:∀ {w':Ic},w'.heap[pb]?=some (.c (fj db j9 sl sn (x6+1) Q3 wk) rh)->jd w' (dg pb 5) 0 ((j9.2.drop 3).map (Value.int .u32)):=λh=>vv h _ 5 0 (by rw[hrl];exact GS hs);have tail:=λ{w3:Ic} {fb defb mb:Nat} {F1 F2:Ik}=>qvn (w:=w) (w3:=w3) (X:=X) (pb:=pb) (fb:=fb) (defb:=defb) (mb:=mb) (F1:=F1) (F2:=F2) hs hw hX hlists hnamed hn (K:=K) (x6:=x6+1) (Q3:=Q3) (wk:=wk) (db:=db);have hs1:=f1.size;have ho':=ho.drew;generalize w1.drew=wd at ho';have hld:∀ {K':List Ie->Prop},K' ((j9.2.drop 3).map (Value.int .u32))->gZ 24 (dg pb 5) wd K':=λk=>nP (ho'.at (i:=0) rfl) _ hrl (GS hs) k;have hsd:w.heap.size<=wd.heap.size:=ho'.fr.size;have fin:∀ {w3:Ic} {fb defb mb:Nat} {F1 F2:Ik},Fr [] wd w3->fY w3 fb F1 []->fY w3 defb F2 []->iG i8 w3 mb []->(∀b∈F1,wd.heap.size<=b)->(∀b∈F2,wd.heap.size<=b)->wd.heap.size<=mb->mb∉F1->mb∉F2->(∀b∈F1,b∉F2)->
   nM pb (pW fb) (pW defb) mb ((j9.2.drop 3).map (Value.int .u32)) K w3:=λf p1 p2 p3 n1 n2 n3 s1 s2 s3=>
  tail (ho'.q7 f) p1 p2 p3 (λb hb=>zL hsd (n1 b hb)) (λb hb=>zL hsd (n2 b hb)) (zL hsd n3) hpb s1 s2 s3 hk
 refine⟨?_,?_,?_⟩;refine fu ?_;simp only[Addr.q9];refine hld<|wF λfb F1 w2 p1 f2 n1=>ik (hcA ((ho'.q7 f2).at (i:=0) rfl))<|wF λdefb F2 w3 p2 f3 n2=>ik (hcA ((ho'.q7 (f2.trans f3)).at (i:=0) rfl))<|oB (ho'.q7 (f2.trans f3)) λmb w4 e4 f4 ho4=>ik (hcA (ho4.at (i:=1) rfl))<|fin ((f2.trans f3).trans f4) (p1.q8 (f3.trans f4) oL) (p2.q8 f4 oL) (.empty (ho4.at (i:=0) rfl)) n1 (λb hb=>zL f2.size (n2 b hb)) (by rw[e4];exact (f2.trans f3).size) (λhm=>?_) (λhm=>?_) (λb hb hb2=>?_)
 have:=(p1.q8 f3 oL).lt mb hm;omega;have:=p2.lt mb hm;omega;have:=p1.lt b hb;have:=n2 b hb2;omega;refine fu ?_;simp only[Addr.q9];refine hld<|wF λfb F1 w2 p1 f2 n1=>ik (hcA ((ho'.q7 f2).at (i:=0) rfl))<|oB (ho'.q7 f2) λmb w3 e3 f3 ho3=>ik (hcA (ho3.at (i:=1) rfl))<|wF λdefb F2 w4 p2 f4 n2=>?_;have ho4:=ho3.q7 f4;refine ik (hcA (ho4.at (i:=1) rfl)) ?_;have hmb:=eX (ho3.at (i:=0) rfl);refine fin ((f2.trans f3).trans f4) (p1.q8 (f3.trans f4) oL) p2 (.empty (ho4.at (i:=0) rfl)) n1 (λb hb=>zL (f2.trans f3).size (n2 b hb)) (by rw[e3];exact f2.size) (λhm=>?_) (λhm=>?_) (λb hb hb2=>?_)
 have:=p1.lt mb hm;omega;have:=n2 mb hm;omega;have:=(p1.q8 f3 oL).lt b hb;have:=n2 b hb2;omega;refine fu ?_;simp only[Addr.q9];refine hld<|oB ho' λmb w2 e2 f2 ho2=>ik (hcA (ho2.at (i:=1) rfl)) ?_;have hmb:=eX (ho2.at (i:=0) rfl);refine wF λfb F1 w3 p1 f3 n1=>?_;have ho3:=ho2.q7 f3;refine ik (hcA (ho3.at (i:=1) rfl))<|wF λdefb F2 w4 p2 f4 n2=>?_;have ho4:=ho3.q7 f4;refine ik (hcA (ho4.at (i:=1) rfl))<|fin ((f2.trans f3).trans f4) (p1.q8 f4 oL) p2 (.empty (ho4.at (i:=0) rfl)) (λb hb=>zL f2.size (n1 b hb)) (λb hb=>zL (f2.trans f3).size (n2 b hb)) (by rw[e2];exact zM _) (λhm=>?_) (λhm=>?_) (λb hb hb2=>?_)
 have:=n1 mb hm;omega;have:=n2 mb hm;have:=f3.size;omega;have:=p1.lt b hb;have:=n2 b hb2;omega
def view (D:dJ) (n:Int):Il:=match iF n D.Q7 with|some b=>b.1|none=>(D.Q6.getD n.toNat .zero).1
def dJ.size (D:dJ):Int:=D.Q6.length
def Cw(h:D.down=false)(u:0<=n/\n<D.size):eE D n=(view D n,0):=by have C:n<(D.Q6.length:Int):=u.2;rw[eE,iN (by rw[h];decide),iN,view];cases iF n D.Q7<;>rfl
def Ef(n:Int):∀(l:List (Int×lU)) (x:Int×lU),iF n (l++[x])=if x.1=n then some x.2 else iF n l
 | [],x=>rfl
 | y::l,x=>by simp only[xI,iF];rw[Ef n l x];by_cases h:x.1=n;simp[h];simp[h]
def GY(n:Nat):∀(l:List (Int×lU)) (s:List lU),(∀x∈l,0<=x.1/\x.1<s.length)->(l.foldl fW s).getD n .zero=match iF n l with|some b=>b|none=>s.getD n .zero
 | [],s,_=>rfl
 | x::l,s,h=>by
  have C:=h x oL;rw[foldl_cons,GY n l (fW s x) (λy u=>by rw[fW,xF];exact h y (zN _ u)),iF];cases iF (n:Int) l with
  | some b=>rfl
  | none=>
   dsimp only;by_cases he:x.1=n;rw[iP he,fW,yQ];have:x.1.toNat=n:=oJ;rw[this,List.getElem?_set_self oJ];rfl;rw[iN he,fW,yQ,List.getElem?_set_ne oJ,yQ]
structure eP (D:dJ):Prop where
 down:D.down=false
 y5:D.y5=-1
 at_:∀ x∈D.Q7,0<=x.1/\x.1<D.Q6.length
def eP.act(h:eP D):gT D=(D,false):=by rw[gT,iN (by rw[h.y5];decide),iN (by rw[h.y5];decide)]
def eP.write(h:eP D)(E:0<=n/\n<D.size)(C:l.length=512): ∃D',eA D n l=(D',0)/\eP D'/\D'.size=D.size/\∀m,view D' m=if m=n then l else view D m:=by have I:n<(D.Q6.length:Int):=E.2;have G:eP (lF D n ⟨l,C⟩):=⟨h.down,h.y5,λx u=>by rcases zD.1 u with u|u;exact h.at_ x u;simp at u;subst u;exact⟨E.1,I⟩⟩;refine⟨lF D n ⟨l,C⟩,?_,G,rfl,λm=>?_⟩;rw[eA,iN (by rw[h.down];decide),iN,dif_pos C,G.act];rfl;rw[view,lF];dsimp only;rw[Ef];by_cases hm:m=n;rw[iP hm,iP hm.symm];rw[iN hm,iN λe=>hm e.symm,view]
def eP.sync(h:eP D):∃D',fV D=(D',0)/\eP D'/\D'.size=D.size/\D'.Q7=[]/\∀m,0<=m->view D' m=view D m:=by refine⟨{ D with Q6:=D.Q7.foldl fW D.Q6,Q7:=[] },?_,⟨h.down,h.y5,λx u=>by cases u⟩,?_,rfl,λm C=>?_⟩;rw[fV,iN (by rw[h.down];decide),h.act];rfl;show ((D.Q7.foldl fW D.Q6).length:Int)=_;rw[A0];rfl;obtain⟨k,rfl⟩:∃k:Nat,m=k:=⟨m.toNat,oJ⟩;show ((D.Q7.foldl fW D.Q6).getD (k:Int).toNat .zero).1=_;rw[zJ,GY k _ _ h.at_,view,zJ];cases iF (k:Int) D.Q7<;>rfl
def eP.writes:∀ {l:List (Iz)} {D:dJ},eP D->(∀x∈l,(0<=x.1/\x.1<D.size)/\x.2.length=512)->(l.map (·.1)).Nodup-> ∃D',fE l D=(D',0)/\eP D'/\D'.size=D.size/\(∀x∈l,view D' x.1=x.2)/\∀m,m∉l.map (·.1)->view D' m=view D m
 | [],D,h,_,_=>⟨D,rfl,h,rfl,(λx u=>by cases u),λm _=>rfl⟩
 | y::l,D,h,I,C=>by obtain⟨U,E⟩:=I y oL;obtain⟨D1,e1,V,J,R⟩:=h.write U E;rw[xN,nodup_cons] at C;obtain⟨D2,e2,q2,s2,v2,u2⟩:=eP.writes (l:=l) V (λx u=>by rw[J];exact I x (zN _ u)) C.2;refine⟨D2,?_,q2,s2.trans J,λx u=>?_,λm G=>?_⟩;rw[fE,e1];exact e2;rcases zG.1 u with rfl|u;rw[u2 _ C.1,R,iP rfl];exact v2 x u;rw[xN,zG,not_or] at G;rw[u2 m G.2,R,iN G.1]
def chunk (numbers:Il) (i:Nat):Il:=(numbers.drop (123*i)).take 123
def pp (D:dJ) (numbers y4:Il):Prop:=∀(i:Nat) p,y4[i]?=some p->view D p=eG p 2 (iL (y4.getD (i+1) 0) (chunk numbers i))
def GQ(numbers y4:Il)(k i:Nat):(gp numbers y4 k)[i]?=if i<k then some (iL (y4.getD (i+1) 0) (chunk numbers i)) else none:=by rw[gp,zQ];by_cases h:i<k;rw[iP h,List.getElem?_range h];rfl;rw[iN h,yR (oP h)];rfl
def GA(numbers y4:Il)(k:Nat):(gp numbers y4 k).length=k:=by simp[gp]
def FH(numbers:Il)(i:Nat):(chunk numbers i).length<=123:=by rw[chunk,yK];omega
structure lD (n:Int) (numbers y4:Il):Prop where
 cU:numbers.Pairwise (· < ·)
 nu:∀ x∈numbers,2<=x/\x<n
 rq:∀ x∈y4,2<=x/\x<n
 nodup:y4.Nodup
 J3:∀ x∈y4,x∉numbers
 room:numbers.length<=123*y4.length
def Ek:∀(l:Il) (a:Int),iD a l=true↔(∀x∈l,a<x)/\l.Pairwise (· < ·)
 | [],a=>by simp[iD]
 | x::l,a=>by rw[iD,yA,yM,Ek l x,yI];constructor;rintro⟨h,u,C⟩;refine⟨λy E=>?_,u,C⟩;rcases zG.1 E with rfl|E;exact h;exact Int.lt_trans h (u y E);rintro⟨h,u,C⟩;exact⟨h x oL,u,C⟩
def lD.y7(h:lD n numbers y4):gl numbers y4=(gp numbers y4 y4.length,0):=by
 have u:iD 1 numbers=true:=(Ek _ _).2 ⟨λx C=>by have:=h.nu x C;omega,h.cU⟩;rw[gl,iN (by rw[u];have:=h.room;simp;omega),if_neg];rintro⟨p,E,G⟩;have:=h.rq p E;omega
def qmr{α β:Type}{x:α×β}:∀ {l:List α} {r:List β},x∈l.zip r->∃i:Nat,l[i]?=some x.1/\r[i]?=some x.2
 | [],_,h=>by simp at h
 | _::_,[],h=>by simp at h
 | a::l,b::r,h=>by rw[zip_cons_cons,zG] at h;rcases h with rfl|h;exact⟨0,rfl,rfl⟩;obtain⟨i,u,C⟩:=qmr h;exact⟨i+1,by simpa using u,by simpa using C⟩
def GI{α β:Type}:∀ {l:List α} {r:List β},l.length=r.length->(l.zip r).map (·.1)=l
 | [],[],_=>rfl
 | a::l,b::r,h=>by rw[zip_cons_cons,xN,GI (oP h)]
def eP.spread(h:eP D)(G:lD D.size numbers y4): ∃D',fl D numbers y4=(D',0)/\eP D'/\D'.size=D.size/\D'.Q7=[]/\pp D' numbers y4/\∀m,0<=m->m∉y4->view D' m=view D m:=by
 have R:((y4.zip (gp numbers y4 y4.length)).map λx=>(x.1,eG x.1 2 x.2)).map (·.1)=y4:=(by rw[map_map];exact GI (by rw[GA]));obtain⟨D1,e1,q1,s1,v1,U⟩:=h.writes (l:=(y4.zip (gp numbers y4 y4.length)).map λx=>(x.1,eG x.1 2 x.2)) (λx hx=>by
  obtain⟨y,hy,rfl⟩:=mem_map.1 hx;obtain⟨i,h1,u⟩:=qmr hy;rw[GQ] at u;have C:=G.rq _ (yE h1);refine⟨⟨by show 0<=y.1;omega,C.2⟩,wM ?_⟩;by_cases I:i<y4.length;rw[iP I] at u;have u:=yN u;rw[<- u,Ds];have:=FH numbers i;omega;rw[iN I] at u;cases u) (by rw[R];exact G.nodup)
 rw[R] at U;obtain⟨D2,e2,q2,s2,w2,V⟩:=q1.sync;refine⟨D2,?_,q2,s2.trans s1,w2,λi p C=>?_,λm hm J=>by rw[V m hm,U m J]⟩;rw[fl,G.y7,iN oL];show andThen _ _=_;rw[e1];exact e2;have I:=(zP.1 C).1;have E:(p,eG p 2 (iL (y4.getD (i+1) 0) (chunk numbers i)))∈(y4.zip (gp numbers y4 y4.length)).map λx=>(x.1,eG x.1 2 x.2):=by refine mem_map.2 ⟨(p,iL (y4.getD (i+1) 0) (chunk numbers i)),?_,rfl⟩;refine yE (i:=i) ?_;rw[List.getElem?_zip_eq_some];exact⟨C,by rw[GQ,iP I]⟩
 have al:=G.rq _ (yE C);rw[V p oJ];exact v1 _ E
def qmh(numbers:Il):∀k,(List.range k).flatMap (chunk numbers)=numbers.take (123*k)
 | 0=>by simp
 | k+1=>by rw[range_succ,yP,qmh numbers k,flatMap_singleton,chunk,Nat.mul_succ,<- xD (123*k) (numbers.take (123*k+123))];congr 1;rw[take_take,xQ oJ];rw[drop_take,vC]
def quU{D:dJ}{numbers y4:Il}{n:Int}(hd:D.down=false)(hs:D.size=n)(hn:n<=4096)(I:lD n numbers y4)(hl:pp D numbers y4): ∀(k i f:Nat),i+k=y4.length->k<f->ma D n f (y4.getD i 0) (y4.take i) ((List.range i).flatMap (chunk numbers))=some (y4,numbers)
 | 0,i,f+1,hi,hf=>by have:y4.getD i 0=0:=(by rw[yQ,yR oJ];rfl);have hr:=I.room;have aa:i=y4.length:=oJ;subst aa;rw[this,ma,iP rfl,qmh,xY,zS hr]
 | k+1,i,f+1,hi,hf=>by
  have u:i<y4.length:=oJ;have hp:y4.getD i 0=y4[i]:=(by rw[yQ,zA u];rfl);have hr:=I.rq _ (zW u);have R:y4[i]∉y4.take i:=λhm=>by
   obtain⟨j,hj,he⟩:=getElem_of_mem hm;rw[getElem_take] at he;rw[yK] at hj;have:=pairwise_iff_getElem.1 I.nodup j i oJ u oJ;exact this he
  have hv:=hl i _ (zA u);have C:=Cw hd (n:=y4[i]) (by rw[hs];omega);rw[hv] at C;have ab:=FH numbers i;have J:=Fm (number:=y4[i]) (kind:=2) (body:=iL (y4.getD (i+1) 0) (chunk numbers i)) oJ (by rw[Ds];omega);have U:∀x∈chunk numbers i,x∈numbers:=λx V=>yT (yU V);have E:gE (y4.getD (i+1) 0)/\y4.getD (i+1) 0≠1:=by
   rw[yQ];cases h:y4[i+1]? with
   | none=>exact⟨⟨oM,oM⟩,oM⟩
   | some p=>
    have:=I.rq p (yE h);constructor;constructor<;>(simp;omega);simp;omega
  have G:=qsP E.1 E.2 (c:=chunk numbers i) (λx V=>by have:=I.nu x (U x V);constructor<;>omega)
   ((Ek _ _).2 ⟨λx V=>by have:=I.nu x (U x V);omega,I.cU.sublist ((take_sublist _ _).trans (drop_sublist _ _))⟩) ab
  rw[hp,ma,iN,iN (by intro h;rcases h with h|h|h;omega;omega;exact R h),C,J,iN oL,iN oL,G,iN oL];have:=quU hd hs hn I hl k (i+1) f oJ oJ;rw[yF u,range_succ,yP,flatMap_singleton] at this;exact this
def Fl(n:Int)(Q5:Il):∀(l:Il) (a:Int),kD n Q5 a l=true↔(∀x∈l,a<x/\x<n/\x∉Q5)/\l.Pairwise (· < ·)
 | [],a=>by simp[kD]
 | x::l,a=>by
  rw[kD,yA,Fl n Q5 l x,yI];simp only[zT,H5,H6,Int.not_le,Int.not_lt,ge_iff_le];constructor;rintro⟨⟨⟨u,C⟩,E⟩,G,I⟩;refine⟨λy h=>?_,λy h=>(G y h).1,I⟩;rcases zG.1 h with rfl|h;exact⟨u,C,E⟩;have:=G y h;exact⟨oJ,this.2⟩;rintro⟨u,C,E⟩;have:=u x oL;exact⟨⟨⟨this.1,this.2.1⟩,this.2.2⟩,λy h=>⟨C y h,(u y (zN _ h)).2⟩,E⟩
def Ho:∀(n:Nat) (l:Ik),l.Nodup->(∀x∈l,x<n)->l.length<=n
 | 0,l,_,h=>by cases l with
  | nil=>simp
  | cons a l=>exact absurd (h a oL) oJ
 | n+1,l,C,h=>by
  by_cases hm:n∈l;have G:=Ho n (l.erase n) (C.erase n) (λx u=>by
   have E:=(C.mem_erase_iff).1 u;have:=h x E.2;have:=E.1;omega)
  have:=length_erase_of_mem hm;have:=length_pos_of_mem hm;omega;have:=Ho n l C (λx u=>by
   have:=h x u;have:x≠n:=λe=>hm (e▸u);omega)
  omega
def CG(E:l.Nodup)(h:∀x∈l,2<=x/\x<n):(l.length:Int)<=n-2\/l=[]:=by
 by_cases h0:l=[];exact .inr h0;left;obtain⟨a,G⟩:=exists_mem_of_ne_nil l h0;have J:=h a G;have:=Ho (n-2).toNat (l.map λx=>(x-2).toNat) (by
  refine pairwise_map.2 (E.imp_of_mem λ{x y} u C I=>?_);have:=h x u;have:=h y C;omega) (λx u=>by
  obtain⟨y,C,rfl⟩:=mem_map.1 u;have:=h y C;omega)
 rw[zK] at this;omega
structure pf (D:dJ) (s:nI) (y4 numbers:Il):Prop where
 down:D.down=false
 size:8<=D.size/\D.size<=4096
 tJ:gQ (view D 0) (view D 1)=(s,0)
 blocks:s.2.getD 0 0=D.size
 list:s.2.getD 1 0=y4.headD 0
 Q1:s.2.getD 2 0=numbers.length
 ok:lD D.size numbers y4
 listed:pp D numbers y4
def pf.load(h:pf D s y4 numbers):ou D s=some (y4,numbers):=by
 have E:ma D D.size (D.size.toNat+1) (y4.headD 0) [] []=some (y4,numbers):=by
  have:=quU h.down rfl h.size.2 h.ok h.listed y4.length 0 (D.size.toNat+1) oJ (by
   have:=CG h.ok.nodup h.ok.rq;have I:=h.size;rcases this with C|C;omega;rw[C];simp)
  have e:y4.headD 0=y4.getD 0 0:=(by cases y4<;>rfl);rw[e];exact this
 rw[ou,h.blocks,h.list,E];dsimp only;rw[if_pos];exact⟨(Fl _ _ _ _).2 ⟨λx u=>⟨by have:=h.ok.nu x u;omega,(h.ok.nu x u).2,λG=>h.ok.J3 x G u⟩,h.ok.cU⟩,h.Q1.symm⟩
def pf.open(h:pf D s y4 numbers):mH D=(some (ij s y4 numbers 1 false numbers),0):=by have u:=Cw h.down (n:=0) ⟨oM,by have:=h.size;omega⟩;have C:=Cw h.down (n:=1) ⟨oM,by have:=h.size;omega⟩;have E:s.2.getD 0 0=(D.Q6.length:Int):=h.blocks;rw[mH,u,C,h.tJ,iN oL,iN oL,iN oL,iN (by rw[E];simp),h.load]
def ui{α:Type}{enc:α->List Ie}{P:Ig}{s:Sl}{l:List α}{tx e':If}(h:ee enc k S w s l)(C:∀x,(enc x).length=k)(E:∀x,∀u∈enc x,u.oneCell'=true)(I:P.underlying tx=some (.slice e')): Src P k tx s.v s.len (l.flatMap enc) w:=by
 obtain⟨a,len,cap⟩:=s;have G:=h.1;simp only at G;cases a with
 | none=>
  have:l=[]:=by rcases h.2.2 with h|⟨b,o,V,T,fr,J,_⟩;exact h;cases J
  subst this;simp at G;subst G;exact .ofNil w I cap
 | some a=>
  refine .ofSlice w I a len cap _ (by rw[qx C,G]) (h.cells C rfl) λu R=>?_;obtain⟨x,_,U⟩:=yJ.1 R;exact E x u U
def Dc{s src:Sl}{ys:Il}{B:Ik}{K:Sl->WP}(h:ln w s l B)(J:Rd S w src ys)(hl:l.length+ys.length<=1000000)(U:∀E B' w',ln w' E (l++ys) B'->Fr B w w'->(∀b∈B',b∈B\/w.heap.size<=b)->K E w'): Pt.run dh ((Builtin.append_ #[172,172] 172 #[s.v,src.v]).run prog w) K:=by obtain⟨i,V,hz,G,I⟩:=vF;have C:=J.1;refine eU.j1 (e:=63) h qZ oK V hz G rfl (ui (e':=63) J qZ (λx u R=>by simp at R;subst R;rfl) oK) C (by rw[I];omega) oJ λE B' w' b' f' n' _=>U E B' w' b' f' n'
def vi(h:D.Ok)(n:Int):eI (eE D n).1/\(eE D n).1.length<=512:=by
 have I:eI (zs 512):=eI.zs 512;unfold eE;split;exact⟨(λx C=>by cases C),oL⟩;split;exact⟨(λx C=>by cases C),oL⟩;split;rename_i b J;refine⟨?_,Nat.le_of_eq b.2⟩;have:∀l:List (Int×lU),(∀x∈l,eI x.2.1)->iF n l=some b->eI b.1:=by
  intro l;induction l with
  | nil=>intro _ h;cases h
  | cons x l ih=>
   intro G u;rw[iF] at u;cases E:iF n l with
   | some c=>rw[E] at u;exact ih (λy R=>G y (zN _ R)) (by rw[E];exact u)
   | none=>
    rw[E] at u;dsimp only at u;split at u;cases u;exact G x oL;cases u
 exact this _ h.nW J;refine⟨?_,Nat.le_of_eq (D.Q6.getD n.toNat .zero).2⟩;rw[yQ];cases U:D.Q6[n.toNat]? with
 | none=>exact I
 | some b=>exact h.nY b (yE U)
def qqH(h:eI l)(n:Int):eI (eV n l).2.1/\(eV n l).2.1.length<=l.length:=by
 have u:eI ([]:Il):=λx C=>by cases C
 unfold eV;split;exact⟨u,oL⟩;split;exact⟨u,oL⟩;split;exact⟨u,oL⟩;split;exact⟨u,oL⟩;split;exact⟨u,oL⟩;refine⟨(h.take _).drop _,?_⟩;rw[yB,yK];omega
abbrev MIT:If:=271
def qA3:prog.underlying MIT=some (.map 63 3):=by kernel_rfl
def qBE:∀w,(zeroValue 3).run prog w=.ok (.i 0) w:=λw=>by kernel_rfl
def lr (l:Il):List (Int×Ie):=l.map λn=>(n,.i 1)
def GN(n:Int):∀l:Il,(n∈l->∃i,look n (lr l)=some (i,.i 1))/\(n∉l->look n (lr l)=none)
 | []=>⟨(λh=>by cases h),λ_=>rfl⟩
 | a::l=>by
  obtain⟨G,I⟩:=GN n l;simp only[lr,xN,look];by_cases h:n=a;rw[iP h];exact⟨λ_=>⟨0,rfl⟩,λJ=>absurd (by rw[h];simp) J⟩;rw[iN h];refine⟨λu=>?_,λu=>?_⟩;rcases zG.1 u with e|u;exact absurd e h;obtain⟨i,E⟩:=G u;unfold lr at E;exact⟨i+1,by rw[E];rfl⟩;have:=I (λC=>u (zN _ C));unfold lr at this;rw[this];rfl
def qst{r:Nat}{K:Int->Prop}(h:iG i8 w r (lr Q5))(k:∀x:Int,decide (x>0)=decide (n∈Q5)->K x): eW [gU.one .i] (λw'=>(Instr.lookup MIT (.map (some r)) (.u n) false).run prog w') w K:=by
 have:=Cy (P:=prog) qA3 qBE uH h.at n;rw[wh] at this;obtain⟨C,E⟩:=GN n Q5;by_cases hn:n∈Q5;obtain⟨i,G⟩:=C hn;rw[G] at this;exact qu (ts:=[gU.one .i]) (1:Int) this (k 1 (by simp[hn]));rw[E hn] at this;exact qu (ts:=[gU.one .i]) (0:Int) this (k 0 (by simp[hn]))
def qqT{u:Sl}(C:j9.2.length=27):dS (fj db j9 sl sn x6 Q3 wk) 29 [u.v]=fj db j9 u sn x6 Q3 wk:=by
 have h:=rL (db:=db) C;have:=se (A:=(Value.pointer db::eS j9.1 j9.2)) (X:=[sl.v]) (Y:=[u.v]) (Z:=sn.v::.i x6::.bool Q3::wk) rfl;rw[h] at this;simpa[fj] using this
def qqU{u:Sl}(C:j9.2.length=27):dS (fj db j9 sl sn x6 Q3 wk) 30 [u.v]=fj db j9 sl u x6 Q3 wk:=by
 have h:((Value.pointer db::eS j9.1 j9.2)++([sl.v]:List Ie)).length=30:=by rw[zF,rL C];rfl
 have:=se (A:=(Value.pointer db::eS j9.1 j9.2)++([sl.v]:List Ie)) (X:=[sn.v]) (Y:=[u.v]) (Z:=.i x6::.bool Q3::wk) rfl;rw[h] at this;simpa[fj] using this
def qks:gE (fv l):=by unfold fv oS;exact CX _ _ _
def qvR(l:Il):gE (ic l).1:=by unfold ic;split;constructor<;>decide;split;constructor<;>decide;split;exact qks;constructor<;>decide
def qvS(l:Il):(ic l).2.1.length<=123:=by unfold ic;split;simp;split;simp;rename_i h;split;simp only[jZ,zK,length_range];omega;simp
structure EV (w:Ic) (FD:Ik) (pb r:Nat) (db:Option Addr) (j9:nI) (x6:Int) (Q3:Bool) (wk:List Ie) (a:Int) (Q5 Q9:Il) (w':Ic) (sl sn:Sl) (B1 B2:Ik):Prop where
 own:dR [pb] w w' [(pb,.c (fj db j9 sl sn x6 Q3 wk) rh)]
 b1:ln w' sl Q5 B1
 b2:ln w' sn Q9 B2
 map:iG i8 w' r (lr Q5)
 n1:∀ b∈B1,w.heap.size<=b/\b≠r/\b∉B2
 n2:∀ b∈B2,w.heap.size<=b/\b≠r
 nr:w.heap.size<=r
 at_:gE a
 nodup:Q5.Nodup
 range:∀ x∈Q5,2<=x/\x<j9.2.getD 0 0
 len:Q9.length<=123*Q5.length
def qyd{K:Bool->WP}(hc:w.heap[pb]?=some (.c (fj (pW dbk) j9 dH dH x6 Q3 wk) rh))(R:j9.2.length=27)(hw:wk.length=27)(hd:eQ w dbk FD D)(hD:D.Ok)(hv:Hv w)(ba:pb∉FD)(bb:pb≠HG)(bT:j9.2.getD 0 0<=4096)(bc:gE (j9.2.getD 1 0))(bU:gE (j9.2.getD 2 0))(V:ou D j9=none->∀w',Fr [pb] w w'->K false w')(hk:∀sl sn u Q9 w',ou D j9=some (u,Q9)->dR [pb] w w' [(pb,.c (fj (pW dbk) j9 sl sn x6 Q3 wk) rh)]->(∀G:Ik,(∀b∈G,b<w.heap.size)->Rd G w' sl u/\Rd G w' sn Q9)->K true w'): cW 145 [dG pb] dj w K:=by
 have bJ:=eX hc;have ho:dR [pb] w w [(pb,.c (fj (pW dbk) j9 dH dH x6 Q3 wk) rh)]:=⟨by simpa using hc,oL,.refl _ _,oL⟩;refine qjY<|oB ho λr w1 e1 f1 ac=>?_;have ao:iG i8 w1 r (lr []):=.empty (ac.at (i:=0) rfl);have ac:=ac.sub (L':=[(pb,_)]) (List.Sublist.cons _ (List.Sublist.refl _));refine fu (oA ac 0 rfl (j9.2.getD 1 0) (DE R 1 oM) ?_);have aF:∀ {w':Ic},Fr [pb] w w'->eQ w' dbk FD D:=λf=>hd.q8 f λb E=>by simp only[zE];rintro rfl;exact ba E
 have half:∀ {w':Ic},Fr [pb] w w'->Hv w':=λf=>hv.q8 f (by simpa using λe=>bb e.symm);generalize bd:(j9.2.getD 0 0).toNat+1=F0;have I:ou D j9=match ma D (j9.2.getD 0 0) F0 (j9.2.getD 1 0) [] [] with|none=>none|some x=>if kD (j9.2.getD 0 0) x.1 0 x.2=true/\(x.2.length:Int)=j9.2.getD 2 0 then some x else none:=by rw[<- bd];rfl
 refine iX (λa w'=>∃u Q9 sl sn B1 B2 f,EV w FD pb r (pW dbk) j9 x6 Q3 wk a u Q9 w' sl sn B1 B2/\f+u.length=F0/\ma D (j9.2.getD 0 0) f a u Q9=ma D (j9.2.getD 0 0) F0 (j9.2.getD 1 0) [] [])
  (λa w'=>match w'.heap[r]? with|some (.map es _)=>F0-es.size|_=>0) ⟨[],[],dH,dH,[],[],F0,⟨ac,.nil _ _ _,.nil _ _ _,ao,oL,oL,by rw[e1];exact zM _,bc,.nil,oL,oL⟩,rfl,rfl⟩ ?_
 rintro a w2 ⟨u,Q9,sl,sn,B1,B2,f,H,hf,C⟩ X hX;have bK:u.length<F0:=by rcases CG H.nodup H.range with h|h;omega;rw[h];simp;omega
 obtain⟨f,rfl⟩:∃g,f=g+1:=⟨f-1,oJ⟩;have aG:=H.own.fr;apply dX<;>intro ap;have aq:a≠0:=(oP ap);rw[ma,iN aq] at C;refine gP (λb w'=>b=decide (a<2\/a>=j9.2.getD 0 0\/a∈u)/\w'=w2) ?_ ?_;refine dX (λh=>⟨by rw[zZ (Or.inl (zC h))],rfl⟩) λh=>?_;have h1:=zB h;refine fu (oA H.own 0 rfl (j9.2.getD 0 0) (DE R 0 oM) ?_);refine dX (λh=>⟨by rw[zZ (Or.inr (Or.inl (zC h)))],rfl⟩) λh=>?_;have h2:=zB h;refine qst H.map λx hx=>⟨?_,rfl⟩;rw[hx];refine decide_eq_decide.2 ⟨λh=>.inr (.inr h),λh=>?_⟩;rcases h with h|h|h;exact absurd h h1;exact absurd h h2;exact h;rintro b w3 ⟨rfl,rfl⟩;apply dX<;>intro h;have h:=zC h;rw[iP h] at C;exact V (by rw[I,<- C]) w3 aG;have ai:=zB h;rw[iN ai] at C;have bh:2<=a:=oJ;have bi:a<j9.2.getD 0 0:=oJ;have aH:a∉u:=λh=>ai (.inr (.inr h));obtain⟨o,hr,hm⟩:=Ea (v:=.i 1) qA3 H.map a;refine Dk _ hr ?_;have ar:gM a (.i 1) (lr u)=lr (u++[a]):=by rw[gM,(GN a u).2 aH];simp[lr]
 rw[ar] at hm;have aI:=H.map.lt;have fm:Fr [r] w3 (gS w3 r o):=wS aI o;have aJ:r≠pb:=(by have:=H.nr;omega);have ae:=H.own.q8 fm (λb E=>by simp only[zE] at E;subst E;exact .inr H.nr) (λp hp=>by simp at hp;subst hp;simpa using λe=>aJ e.symm);have au:=H.b1.q8 fm (λb E=>by simpa using (H.n1 b E).2.1);have aK:=H.b2.q8 fm (λb E=>by simpa using (H.n2 b E).2);generalize gS w3 r o=w4 at hm fm ae au aK;refine fu (oA ae 0 rfl (pW dbk) qBu ?_);rw[gi a oJ];refine Dn (aF ae.fr) hD λs5 B5 w5 b5 f5 n5=>?_;have av:=ae.q7 f5;apply dX<;>intro h;have h:(eE D a).2≠0:=(oP h);rw[iP h] at C;exact V (by rw[I,<- C]) w5 av.fr;have h:¬(eE D a).2≠0:=(oP h);rw[iN h] at C;refine Fe (b5.jz lc (S:=[]) oL) (half av.fr) (vi hD a).1 (by have:=(vi hD a).2;omega) λs6 B6 w6 b6 f6 n6=>?_;have aM:=av.q7 f6;refine gP (λb w'=>b=decide ((eV a (eE D a).1).2.2≠0\/(eV a (eE D a).1).1≠2)/\w'=w6) ?_ ?_;apply dX<;>intro h;have h:(eV a (eE D a).1).2.2≠0:=(oP h);exact⟨by rw[zZ (Or.inl h)],rfl⟩;have h:(eV a (eE D a).1).2.2=0:=(oP h);refine⟨?_,rfl⟩;by_cases h2:(eV a (eE D a).1).1=2<;>simp[h,h2];rintro b bl ⟨rfl,rfl⟩;apply dX<;>intro h;have h:=zC h;rw[iP h] at C;exact V (by rw[I,<- C]) bl aM.fr;have h:=zB h;rw[iN h] at C;have aN:=qqH (vi hD a).1 a;refine qwo (b6.jz lc (S:=[]) oL) aN.1 (by have:=aN.2;have:=(vi hD a).2;omega) λs7 B7 w7 b7 f7 n7=>?_;have aO:=aM.q7 f7;apply dX<;>intro h;have h:(ic (eV a (eE D a).1).2.1).2.2≠0:=(oP h);rw[iP h] at C;exact V (by rw[I,<- C]) w7 aO.fr;have h:¬(ic (eV a (eE D a).1).2.1).2.2≠0:=(oP h);rw[iN h] at C;have bm:=qvS (eV a (eE D a).1).2.1;have aP:=qvR (eV a (eE D a).1).2.1;generalize ic (eV a (eE D a).1).2.1=pv at C b7 bm aP;have bn:=(f5.trans f6).trans f7;have bo:=H.len;have bp:u.length<=4096:=oJ;have J:=aO.drew;have af:Fr [] w4 w7.drew:=bn.drew;have aw:=au.q7 af;have ax:=aK.q7 af;have aQ:=hm.q8 af oL;have aR:=b7.q7 ((Fr.refl [] w7).drew);have l7:∀b∈B7,w4.heap.size<=b:=λb E=>zL (f5.trans f6).size (n7 b E);have ce:r<w4.heap.size:=hm.lt;generalize w7.drew=wd at J af aw ax aQ aR;refine fu (oA J 0 rfl sl (vS R 0 oM) ?_);refine fu (oA J 0 rfl sn (vS R 1 oM) ?_);refine oB J λrn w8 e8 f8 ag=>ky (ag.cell 1 rfl (vS R 1 oM)) (ag.cell 1 rfl (vS R 0 oM)) ?_;have aV:Rd [] w8 ⟨pW rn,1,1⟩ [a]:=by
  refine⟨rfl,zM _,.inr ⟨rn,0,_,_,_,rfl,ag.at (i:=0) rfl,oL,λi x hx=>?_⟩⟩;match i with
  | 0=>simp at hx;subst hx;rfl
  | i+1=>simp at hx
 refine Dc (s:=sl) (src:=⟨pW rn,1,1⟩) (aw.q7 f8) aV oO λs9 B9 w9 b9 f9 n9=>?_;have cf:∀b∈B1,b<wd.heap.size:=λb E=>aw.lt b E;have bx:∀b∈B2,b<wd.heap.size:=λb E=>ax.lt b E;have bz:wd.heap.size<=w8.heap.size:=f8.size;have cg:w4.heap.size<=wd.heap.size:=af.size;have ch:w.heap.size<=w4.heap.size:=ae.fr.size;have aX:=(ag.sub (L':=[(pb,_)]) (List.Sublist.cons _ (List.Sublist.refl _))).q8 f9 (λb E=>.inr (H.n1 b E).1) (λp hp E=>by simp at hp;subst hp;have:=(H.n1 _ E).1;dsimp only at this;omega);refine ik (aX.cell 0 rfl (vS R 1 oM)) ?_;have bA:=(ax.q7 f8).q8 f9 λb E ay=>(H.n1 b ay).2.2 E;have bB:Rd [] w9 s7 pv.2.1:=((aR.q7 f8).q8 f9 λb E ay=>by have:=l7 b E;have:=au.lt b ay;omega).jz qZ oL;refine Dc bA bB oJ λaY az ci bC aA aZ=>?_;have bP:wd.heap.size<=w9.heap.size:=zL bz f9.size;have a0:=aX.q8 aA (λb E=>.inr (H.n2 b E).1) (λp hp E=>by simp at hp;subst hp;have:=(H.n2 _ E).1;dsimp only at this;omega);have ab:∀b∈B9,w.heap.size<=b/\b≠r/\b∉B2/\b<w9.heap.size:=λb E=>by refine⟨?_,?_,?_,b9.lt b E⟩;rcases n9 b E with h|h;exact (H.n1 b h).1;omega;rcases n9 b E with h|h;exact (H.n1 b h).2.1;omega;rcases n9 b E with h|h;exact (H.n1 b h).2.2;intro h2;have:=bx b h2;omega
 have ak:∀b∈az,w.heap.size<=b/\b≠r:=λb E=>by rcases aZ b E with h|h;exact H.n2 b h;constructor<;>omega
 have a1:=b9.q8 aA λb E h2=>(ab b E).2.2.1 h2;have bD:∀b∈B9,b∉az:=λb E bE=>by
  rcases aZ b bE with h|h;exact (ab b E).2.2.1 h;have:=(ab b E).2.2.2;omega
 refine fu (oG a0 0 rfl (fj (pW dbk) j9 s9 sn x6 Q3 wk) (qqT R) rfl (by rw[uw R,hw];exact zO rfl) λcj a2 bF=>?_);refine fu (oG a2 0 rfl (fj (pW dbk) j9 s9 aY x6 Q3 wk) (qqU R) rfl (by rw[uw R,hw];exact zO rfl) λck a3 bG=>?_);have U:=bF.trans bG;have aB:∀b,w.heap.size<=b->b∉[pb]:=λb E=>by simp;omega
 have al:=(((aQ.q8 f8 oL).q8 f9 λh=>(H.n1 r h).2.1 rfl).q8 aA λh=>(H.n2 r h).2 rfl).q8 U (aB r H.nr);refine hX _ _ ⟨u++[a],Q9++pv.2.1,s9,aY,B9,az,f,⟨a3,a1.q8 U λb E=>aB b (ab b E).1,bC.q8 U λb E=>aB b (ak b E).1,al,λb E=>⟨(ab b E).1,(ab b E).2.1,bD b E⟩,ak,H.nr,aP,?_,?_,?_⟩,?_,C⟩ ?_;rw[yL];exact⟨H.nodup,oL,λx hx y hy=>by simp at hy;subst hy;exact λe=>aH (e▸hx)⟩;intro x hx;rcases zD.1 hx with h|h;exact H.range x h;simp at h;subst h;exact⟨bh,bi⟩;rw[zF,zF];have:[a].length=1:=rfl;omega;rw[zF];have:[a].length=1:=rfl;omega;have key:∀ {w':Ic} {l:Il},iG i8 w' r (lr l)->(match w'.heap[r]? with|some (.map es _)=>F0-es.size|_=>0)=F0-l.length:=by
  rintro w' l ⟨es,c,h1,h2,_⟩;rw[h1];have:=H9 List.length h2;simp[lr] at this;simp[this]
 rw[key al,key H.map,zF];have:[a].length=1:=rfl;omega;have aq:a=0:=(oP ap);subst aq;rw[ma,iP rfl] at C;rw[<- C] at I;dsimp only at I;refine fu (oA H.own 0 rfl sn (vS R 1 oM) ?_);have rn:Rd [] w2 sn Q9:=H.b2.jz qZ oL;have cl:=rn.1;have bo:=H.len;have bp:u.length<=4096:=oJ;refine iX (λx w'=>w'=w2/\∃i:Nat,x.2=i/\i<=Q9.length/\kD (j9.2.getD 0 0) u x.1 (Q9.drop i)=kD (j9.2.getD 0 0) u 0 Q9) (λx _=>((Q9.length:Int)-x.2).toNat) ⟨rfl,0,rfl,oJ,rfl⟩ ?_;rintro⟨a4,ii⟩ w' ⟨rfl,i,a5,hi,hn⟩ Z hZ;simp only at a5 hn;subst a5;apply cD<;>intro hc;have a6:i<Q9.length:=(by have:=hc;dsimp only at this;omega);refine Rd.at rn i rfl (zA a6) ?_;rw[zX a6,kD] at hn;refine gP (λb w3=>b=(decide (Q9[i]<=a4)||decide (Q9[i]>=j9.2.getD 0 0)||decide (Q9[i]∈u))/\w3=w') ?_ ?_;refine dX (λh=>⟨by rw[h];rfl,rfl⟩) λh=>fu (oA H.own 0 rfl (j9.2.getD 0 0) (DE R 0 oM) ?_);refine dX (λh2=>⟨by rw[h,h2];rfl,rfl⟩) λh2=>qst H.map λx hx=>⟨?_,rfl⟩;rw[hx,h,h2];rfl;rintro b w3 ⟨rfl,rfl⟩;apply dX<;>intro h;rw[h] at hn;refine V ?_ w3 aG;rw[I,if_neg];rw[<- hn];simp;rw[h] at hn;rw[gi _ oN];exact hZ _ _ ⟨rfl,i+1,oL,oJ,by simpa using hn⟩ oN;have:i=Q9.length:=(by have:=hc;dsimp only at this;omega);subst this;rw[drop_length] at hn;have bH:kD (j9.2.getD 0 0) u 0 Q9=true:=hn.symm;have J:=H.own.drew;refine fu (oA J 0 rfl sn (vS R 1 oM) ?_);refine fu (oA J 0 rfl (j9.2.getD 2 0) (DE R 2 oM) ?_);rw[gi _ oJ];by_cases hfree:(Q9.length:Int)=j9.2.getD 2 0;rw[iP ⟨bH,hfree⟩] at I;have e:((sn.len:Int)==j9.2.getD 2 0)=true:=(by rw[yO];omega);rw[e];refine hk sl sn u Q9 _ I J λG hG=>?_;have an:∀b,w.heap.size<=b->b∉G:=λb E h=>by have:=hG b h;omega
 exact⟨(H.b1.q7 ((Fr.refl [] w').drew)).jz qZ λb E=>an b (H.n1 b E).1,(H.b2.q7 ((Fr.refl [] w').drew)).jz qZ λb E=>an b (H.n2 b E).1⟩;have e:((sn.len:Int)==j9.2.getD 2 0)=false:=(by rw[zR];omega);rw[e];exact V (by rw[I,iN λh=>hfree h.2]) _ J.fr
def ql9{s:Sl}(h:en S w s l):(Extern.Bytes.bytesOf (.slice s.a s.len s.cap)).run prog w=.ok ⟨(Lib.bytesOf l).toArray⟩ w:=by
 have hlen:=h.1;cases ha:s.a with
 | none=>
  have hl0:l=[]:=by rcases h.2.2 with h3|⟨b,o,cs,T,fr,ha',_⟩;exact h3;rw[ha] at ha';cases ha'
  subst hl0;rfl
 | some a=>
  have hc:=h.cells lc ha;have:=Lib.run_loadBytesX (P:=prog) w l a .empty (λj x hj=>hc j (.int .u8 x) (by rw[rm,zQ,hj];rfl));rw[hlen];show (Extern.Bytes.loadBytes a l.length .empty).run prog w=_;rw[this];have e:(#[]:Array UInt8)++(Lib.bytesOf l).toArray=(Lib.bytesOf l).toArray:=oL;exact H9 (λd=>Result.ok (ByteArray.mk d) w) e
def qgL:∀ {a b:Il},eI a->eI b->Lib.compareBytes (Lib.bytesOf a) (Lib.bytesOf b)=cmpL a b
 | [],[],_,_=>rfl
 | [],y::b,_,_=>rfl
 | x::a,[],_,_=>rfl
 | x::a,y::b,I,J=>by
  have C:=I x oL;have E:=J y oL;have ih:=qgL (a:=a) (b:=b) (λz G=>I z (zN _ G)) λz G=>J z (zN _ G);have e:∀ {u v:Int},(0<=u/\u<256)->(0<=v/\v<256)->(u.toNat.toUInt8<v.toNat.toUInt8↔u<v):=λ{u v} R U=>by rw[UInt8.lt_iff_toNat_lt];simp;omega
  show (if x.toNat.toUInt8<y.toNat.toUInt8 then (-1:Int) else if y.toNat.toUInt8<x.toNat.toUInt8 then 1 else Lib.compareBytes (Lib.bytesOf a) (Lib.bytesOf b))=cmpL (x::a) (y::b);rw[cmpL,ih];by_cases h1:x<y;rw[iP ((e C E).2 h1),iP h1];rw[iN λh=>h1 ((e C E).1 h),iN h1];by_cases h2:y<x;rw[iP ((e E C).2 h2),iP h2];rw[iN λh=>h2 ((e E C).1 h),iN h2]
def qtx{S':Ik}{s u:Sl}(h:en S w s l)(E:en S' w u l')(G:eI l)(C:eI l'): (Extern.BytealgCompare.compare #[s.v,u.v]).run prog w=.ok (.i (cmpL l l')) w:=by show Sem.run prog (do pure (goInt (Extern.BytealgCompare.cmp (<- Extern.Bytes.bytesOf s.v) (<- Extern.Bytes.bytesOf u.v)))) w=_;have e:=qgL G C;simp only[HS,ql9 h,HT,ql9 E,Lib.cmp_eq];rw[e];rfl
def Az{S':Ik}{s C:Sl}(h:en S w s l)(E:en S' w C l')(G:eI l)(u:eI l')(I:K (cmpL l l') w): cW 116 [s.v,C.v] di w K:=by exact qvH<|qmY<|A6 (e:=Extern.BytealgCompare.compare) Tryz.func185 oK oK oK oK (cmpL l l') w (qtx h E G u) I
def gq (s:Sl):List Ie:=[s.v]
def vQ(s:Sl):(gq s).length=1:=rfl
def qwZ(s:Sl):∀u∈gq s,u.oneCell'=true:=λu h=>by rw[zE.1 h];rfl
abbrev ph:=List (Sl×Key)
abbrev iv (ps:ph):List Sl:=ps.map (·.1)
abbrev ga (ps:ph):List Key:=ps.map (·.2)
def jq (S:Ik) (w:Ic) (s:Sl) (ps:ph):Prop:=ee gq 1 S w s (iv ps)/\∀p∈ps,en S w p.1 p.2
def jq.q8{S S':Ik}{w w':Ic}{s:Sl}{ps:ph}(h:jq S w s ps)(f:Fr S w w')(u:∀b∈S',b∈S\/w.heap.size<=b):jq S' w' s ps:=⟨h.1.q8 f u,λp C=>(h.2 p C).q8 f u⟩
def jq.q7{S:Ik}{w w':Ic}{s:Sl}{ps:ph}(h:jq S w s ps)(f:Fr [] w w'):jq S w' s ps:=⟨h.1.q7 f,λp u=>(h.2 p u).q7 f⟩
def jq.len{S:Ik}{w:Ic}{s:Sl}{ps:ph}(h:jq S w s ps):s.len=ps.length:=by rw[h.1.1,zK]
def jq.nil(S:Ik)(w:Ic):jq S w dH []:=⟨.nil _ _ _ _,λp h=>nomatch h⟩
def jq.get{S:Ik}{w:Ic}{s:Sl}{ps:ph}(h:jq S w s ps)(n:Nat){i:Int}{K:Sl->Prop}(hi:i=n)(u:n<ps.length)(C:K ps[n].1):idx s i 1 λa=>ld .slice a w K:=
 ee.get h.1 n hi (x:=ps[n].1) (by rw[zQ,zA u];rfl) (y:=ps[n].1) rfl C
def andThen_ok:andThen (D,0) f=f D:=iP rfl
structure kY (s:nI):Prop where
 seq:0<=s.1/\s.1<4611686018427387904
 len:s.2.length=27
 u32:∀ x∈s.2,gE x
def kY.place(h:kY s):Int.tmod s.1 2=s.1%2:=Int.tmod_eq_emod_of_nonneg h.seq.1
def kY.gD{s:nI}(h:kY s):gD s=(s.1%2,eG (s.1%2) 1 (gr s.1 s.2)):=by rw[Go.Proofs.YtpcmehldpoljfaaGreatDoor.gD,h.place,nD _ oJ]
def kY.read(h:kY s):eZ (s.1%2) (eG (s.1%2) 1 (gr s.1 s.2))=(s,0):=by
 have:=h.seq;exact qtV (by constructor<;>omega) h.len h.u32 h.place
def kY.uI(h:kY s)(p:Int):(eG p 1 (gr s.1 s.2)).length=512:=wM (by rw[zu h.len];decide)
def eP.tX(h:eP D)(C:kY s)(hz:8<=D.size): ∃D',jD D s=(D',0)/\eP D'/\D'.size=D.size/\D'.Q7=[]/\view D' (s.1%2)=eG (s.1%2) 1 (gr s.1 s.2)/\∀m,0<=m->m≠s.1%2->view D' m=view D m:=by obtain⟨D1,e1,I,J,E⟩:=h.write (n:=s.1%2) (l:=eG (s.1%2) 1 (gr s.1 s.2)) oJ (C.uI _);obtain⟨R,U,V,s2,w2,G⟩:=I.sync;refine⟨R,?_,V,s2.trans J,w2,by rw[G _ oJ,E,iP rfl],λm hm u=>by rw[G m hm,E,iN u]⟩;rw[jD,C.gD];show andThen (eA D (s.1%2) _) fV=_;rw[e1];exact U
def qtW{p:Int}:(eZ p (zs 512)).2≠0:=by have u:(eV p (zs 512)).1=0:=(by unfold eV;split<;>(try rfl);split<;>(try rfl);split<;>(try rfl);split<;>(try rfl);split<;>rfl);unfold eZ;generalize eV p (zs 512)=o at u⊢;by_cases h:o.2.2≠0;rw[iP h];exact h;have C:o.1≠1\/o.2.1.length≠116:=.inl (by rw[u];decide);rw[iN h,iP C];exact (by decide:(2:Int)≠0)
def qub{n i:Nat}(h:i<n-2):(fy n)[i]?=some ((i:Int)+2):=by rw[fy,zQ,List.getElem?_range h];rfl
def yv(n:Nat):(fy n).length=n-2:=by simp[fy]
def yj{n:Nat}{x:Int}:x∈fy n↔2<=x/\x<n:=by rw[fy,mem_map];constructor;rintro⟨i,h,rfl⟩;rw[mem_range] at h;omega;rintro⟨u,C⟩;exact⟨(x-2).toNat,by rw[mem_range];omega,oJ⟩
def Dl(n:Nat):(fy n).Pairwise (· < ·):=by rw[fy,pairwise_map];exact pairwise_lt_range.imp (λh=>oJ)
def D8{n:Nat}:n<=124*eK n:=by
 unfold eK;split;omega;have:=Nat.div_add_mod (n-1) 124;have:=Nat.mod_lt (n-1) (show 0<124 by decide);omega
def Gm{n:Nat}:eK n<=n:=by
 unfold eK;split;omega;have:=Nat.div_le_self (n-1) 124;omega
def qn3{n:Nat}:lD n ((fy n).drop (eK (fy n).length)) ((fy n).take (eK (fy n).length)) where
 cU:=(Dl n).sublist (drop_sublist _ _)
 nu:=λx u=>yj.1 (yT u)
 rq:=λx u=>yj.1 (yU u)
 nodup:=(wo (Dl n)).sublist (take_sublist _ _)
 J3:=λx u C=>by have h:=wo (Dl n);rw[<- xD (eK (fy n).length) (fy n),yL] at h;exact h.2.2 x u x C rfl
 room:=by have G:=D8 (n:=(fy n).length);have E:=Gm (n:=(fy n).length);rw[yB,yK,xQ E];omega
def DW{n:Nat}(u:8<=n)(C:n<=4096):kY (kH n) where
 seq:=⟨(by decide:(0:Int)<=1),(by decide:(1:Int)<4611686018427387904)⟩
 len:=rfl
 u32:=λx h=>by
  simp only[kH,zD,zG,xW,or_false] at h;rcases h with (rfl|rfl|rfl)|h;exact vE _;exact⟨oM,oM⟩;exact vE _;have:=eq_of_mem_replicate h;subst this;exact⟨oM,oM⟩
def qsk{n:Nat}(h:eP D)(hn:D.size=n)(h8:8<=n)(h4:n<=4096): ∃D',lC D=(D',0)/\eP D'/\D'.size=n/\D'.Q7=[]/\pf D' (kH n) ((fy n).take (eK (fy n).length)) ((fy n).drop (eK (fy n).length))/\view D' 0=zs 512:=by
 have am:D.Q6.length=n:=(by have:(D.Q6.length:Int)=n:=hn;omega);obtain⟨D1,e1,q1,s1,v1⟩:=h.write (n:=0) (l:=zs 512) oJ (ot _);obtain⟨D2,e2,q2,s2,v2⟩:=q1.write (n:=1) (l:=zs 512) oJ (ot _);obtain⟨J,e3,q3,s3,w3,v3⟩:=q2.sync;have C:J.size=n:=oJ;have R:J.Q6.length=n:=(by have:(J.Q6.length:Int)=n:=C;omega);have u:=qn3 (n:=n);rw[<- C] at u;obtain⟨U,e4,q4,s4,w4,l4,v4⟩:=q3.spread u;have V:U.size=n:=oJ;have aa:U.Q6.length=n:=(by have:(U.Q6.length:Int)=n:=V;omega);obtain⟨D5,e5,q5,s5,w5,p5,v5⟩:=q4.tX (DW h8 h4) oJ;have E:(kH n).1%2=1:=rfl;rw[E] at p5 v5;have G:=u.rq;have z0:view D5 0=zs 512:=(by rw[v5 0 oM oM,v4 0 oM (λhm=>by have:=G 0 hm;omega),v3 0 oM,v2,iN oM,v1,iP rfl]);refine⟨D5,?_,q5,oJ,w5,?_,z0⟩;rw[lC,e1,andThen_ok,e2,andThen_ok,e3,andThen_ok,R,e4,andThen_ok,aa,e5];have aE:1<=eK (fy n).length:=by
  have:=D8 (n:=(fy n).length);rw[yv] at this⊢;omega
 refine { down:=q5.down,size:=by omega,tJ:=?_,blocks:=?_,list:=?_,Q1:=?_,ok:=by rw[show D5.size=J.size by omega];exact u,listed:=λi p hp=>?_ };have hr:=(DW h8 h4).read;rw[E] at hr;rw[z0,p5,gQ,hr,iN oL,iP (.inl qtW)];show wrap .u32 (n:Int)=_;rw[nD _ oJ];omega;have:(fy n).take (eK (fy n).length)=2::((fy n).take (eK (fy n).length)).drop 1:=by
  have I:(fy n)[0]?=some 2:=(by rw[qub oJ];rfl);obtain⟨k,hk⟩:∃k,eK (fy n).length=k+1:=⟨eK (fy n).length-1,oJ⟩;rw[hk];cases hA:fy n with
  | nil=>rw[hA] at I;cases I
  | cons a r=>rw[hA] at I;simp at I;subst I;rfl
 rw[this];rfl;show wrap .u32 _=_;have:=Gm (n:=(fy n).length);rw[yB,nD _ (by rw[yv] at *;omega)];omega;have:=G p (yE hp);rw[v5 p oJ oJ];exact l4 i p hp
def qvP(n:Nat):eP (mS n):=⟨rfl,rfl,λx h=>by cases h⟩
def qxw(n:Nat):(mS n).size=n:=by show ((List.replicate n lU.zero).length:Int)=n;simp
def qth{w':Ic}{s:Sl}(h:Told w w' s l):∃B,ln w' s l B/\∀b∈B,w.heap.size<=b:=by rcases h with ⟨rfl,rfl⟩|⟨b,d,T,cap,rfl,E,J,G,I,u,C⟩;exact⟨[],.nil _ _ _,oL⟩;refine⟨[b],.inr ⟨b,0,gX d,T,rfl,rfl,rfl,E,rfl,G,by rw[zy];dsimp only;omega,?_⟩,by simpa using u⟩;rw[xE,xS,gX,Array.toList_map,<- xO,I,Gy]
def gR (D:dJ):nI×Int:=
 if (eE D 0).2≠0 then (gy,(eE D 0).2) else if (eE D 1).2≠0 then (gy,(eE D 1).2) else gQ (eE D 0).1 (eE D 1).1
def qtP(D:dJ):(gR D).1.2.length=27:=by unfold gR;split;rfl;split;rfl;exact qms _ _
def qu9{K:List Ie×Int->WP}(h:eQ w dbk FD D)(I:D.Ok)(V:Hv w)(R:∀w',Fr [] w w'->K (eS (gR D).1.1 (gR D).1.2,(gR D).2) w'): cW 144 [dG dbk] dB w K:=by
 refine qox<|oI (oE [] w) t5 λr w1 e1 C=>Dn (h.q7 C.fr) I λs2 B2 w2 b2 f2 n2=>?_;have C:=C.q7 f2;apply dX<;>intro u;have u:(eE D 0).2≠0:=(oP u);refine za<|ul C 0 rfl rfl rfl λJ E=>?_
 have:=R J E;rw[gR,iP u] at this;exact this;have G:¬(eE D 0).2≠0:=(oP u);refine Dn (h.q7 C.fr) I λs3 B3 J b3 E n3=>?_;have C:=C.q7 E;apply dX<;>intro u;have u:(eE D 1).2≠0:=(oP u);refine za<|ul C 0 rfl rfl rfl λJ E=>?_
 have:=R J E;rw[gR,iN G,iP u] at this;exact this;have U:¬(eE D 1).2≠0:=(oP u);have i0:=vi I 0;have i1:=vi I 1;refine qvi ((b2.q7 E).jz lc (S:=[]) oL) (b3.jz lc (S:=[]) oL) (V.q7 C.fr) i0.1 i1.1 oJ oJ λw4 f4=>ul (C.q7 f4) 0 rfl rfl (qms _ _) λw5 f5=>?_;have:=R w5 f5;rw[gR,iN G,iN U] at this;exact this
def qsL(D:dJ):mH D=if (gR D).2≠0 then (none,(gR D).2) else if (gR D).1.2.getD 0 0≠D.Q6.length then (none,2) else match ou D (gR D).1 with|none=>(none,2)|some x=>(some (ij (gR D).1 x.1 x.2 1 false x.2),0):=by unfold mH gR;by_cases h0:(eE D 0).2≠0;rw[iP h0,iP h0];exact (iP h0).symm;rw[iN h0,iN h0];by_cases h1:(eE D 1).2≠0;rw[iP h1,iP h1];exact (iP h1).symm;rw[iN h1,iN h1]<;>rfl
def pgZ:(prog.info? rh).bind (·.zero)=some (.agg (fj none gy dH dH 0 false (e9 none none none (zs 24)))):=by kernel_rfl
def qyx{d:Option Addr}{q:Int}{t:Il}(h:t.length=27)(w:Ic): (Instr.build rh #[(0,.pointer d),(1,.agg (eS q t).toArray)]).run prog w=.ok (.agg (fj d (q,t) dH dH 0 false (e9 none none none (zs 24)))) w:=by
 refine xv (parts:=[(0,.pointer d),(1,.agg (eS q t).toArray)]) (offs:=#[(0,1),(1,28),(29,1),(30,1),(31,1),(32,1),(33,27)]) pgZ oK (λw=>oK) ?_ w;have u:(Value.agg (eS q t).toArray).cells.size=28:=CW h;rw[qo (o:=0) (s:=1) rfl rfl (zO rfl),qo (o:=1) (s:=28) rfl u (zO rfl)];show some _=_;congr 1;have C:dS (Value.agg (fj none gy dH dH 0 false (e9 none none none (zs 24)))).cells 0 (Value.pointer d).cells.toList=fj d gy dH dH 0 false (e9 none none none (zs 24)):=rfl;rw[C];have:=se (A:=[Value.pointer d]) (X:=eS 0 (zs 27)) (Y:=eS q t) (Z:=[.slice none 0 0,.slice none 0 0,.i 0,.bool false]++e9 none none none (zs 24)) (by rw[pS h];rfl);refine Eq.trans ?_ (this.trans ?_);show dS (fj d gy dH dH 0 false (e9 none none none (zs 24))) 1 (eS q t)=_;congr 1;simp[fj]
def qoF(place:Int)(l:Il):∀x∈(eZ place l).1.2,gE x:=by
 have h:∀x∈gy.2,gE x:=λx u=>by
  have:=eq_of_mem_replicate (show x∈List.replicate 27 (0:Int) from u);subst this;exact⟨oM,oM⟩
 unfold eZ;split;exact h;split;exact h;split;exact h;intro x u;obtain⟨i,_,rfl⟩:=mem_map.1 u;exact qks
def qtQ(D:dJ):∀x∈(gR D).1.2,gE x:=by
 have h:∀x∈gy.2,gE x:=λx u=>by
  have:=eq_of_mem_replicate (show x∈List.replicate 27 (0:Int) from u);subst this;exact⟨oM,oM⟩
 unfold gR;split;exact h;split;exact h;unfold gQ;split;exact h;split;exact qoF _ _;exact qoF _ _
def qsn(h:∀x∈l,gE x)(n:Nat):gE (l.getD n 0):=by
 rw[yQ];cases u:l[n]? with
 | none=>exact⟨oM,oM⟩
 | some x=>exact h x (yE u)
def qwt{K:Option Addr×Int->WP}(X:Ik)(au:∀b∈X,b<w.heap.size)(h:eQ w dbk FD D)(hD:D.Ok)(hv:Hv w)(al:(mH D).1=none->∀w',Fr [] w w'->K (none,(mH D).2) w')(hk:∀pb F M w',mH D=(some M,0)->eB w' X pb (pW dbk) F M->Fr [] w w'->(∀b∈F,w.heap.size<=b)->K (pW pb,0) w'): cW 108 [dG dbk] dD w K:=by
 refine qrp<|qu9 h hD hv λw1 f1=>?_;have R:=qtP D;have hu:=qsn (qtQ D);have C:=qsL D;generalize hs:gR D=sm at R hu C;obtain⟨j9,e⟩:=sm;simp only at R hu C;refine oI ((oE [] w).q7 f1) t5 λr w2 e2 ho=>Al ho 0 rfl rfl R λw3 ho=>?_;apply dX<;>intro U;have U:e≠0:=(oP U);rw[iP U] at C
 have:=al (by rw[C]) w3 ho.fr;rw[C] at this;exact this;have ax:¬e≠0:=(oP U);rw[iN ax] at C;refine uM (ho.at (i:=0) rfl) R<|qu (ts:=[gU.jX]) (fj (pW dbk) (j9.1,j9.2) dH dH 0 false (e9 none none none (zs 24))).toList (qyx R w3)<|oB ho λpb V e4 f4 aj=>?_;have J:=aj.fr;have am:=h.q7 J;have an:∀b∈FD,b<V.heap.size/\b≠pb:=λb E=>by
  have h1:=h.lt b E;have:=J.size;have:=ho.fr.size;constructor<;>omega
 have ak:∀b∈X,b<V.heap.size/\b≠pb:=λb E=>by
  have h1:=au b E;have:=J.size;have:=ho.fr.size;constructor<;>omega
 have az:=hD.Q6;have aa:V.heap[pb]?=some (.c (fj (pW dbk) j9 dH dH 0 false (e9 none none none (zs 24))) rh):=aj.at (i:=0) rfl;have ah:V.heap[r]?=some (.c (eS j9.1 j9.2).toArray 185):=aj.at (i:=1) rfl;have ad:w.heap.size<=pb:=(by have:=ho.fr.size;omega);have aA:pb≠HG:=(by have:=hv.lt;omega);refine gP (λb w'=>(b=true/\(mH D).1=none/\(mH D).2=2/\Fr [] w w')\/(b=false/\∃sl sn G Q9,mH D=(some (ij j9 G Q9 1 false Q9),0)/\dR [pb] V w' [(pb,.c (fj (pW dbk) j9 sl sn 0 false (e9 none none none (zs 24))) rh)]/\Rd (X++[pb]) w' sl G/\Rd (X++[pb]) w' sn Q9/\Q9.Pairwise (· < ·)/\Q9.length<=100000)) ?_ ?_;refine io (w:=V.drew) (c:=.u) ah (j9.2.getD 0 0) (A2 0 oJ)<|Gn (am.q7 (Fr.refl [] V).drew)<|ik (by show _=_;rw[jp (w:=V.drew) ah];exact A2 0 oJ) ?_;rw[nD (D.Q6.length:Int) oJ];apply dX<;>intro U;have U:j9.2.getD 0 0≠(D.Q6.length:Int):=by intro h;rw[h] at U;simp at U
 rw[iP U] at C;exact .inl ⟨rfl,by rw[C],by rw[C],J.drew⟩;have U:j9.2.getD 0 0=(D.Q6.length:Int):=by by_cases h:j9.2.getD 0 0=(D.Q6.length:Int);exact h;rw[show ((j9.2.getD 0 0==(D.Q6.length:Int))=false) by rw[zR];exact h] at U;cases U
 rw[iN (by rw[U];simp)] at C;have ae:Fr [] V V.drew:=(Fr.refl [] V).drew;refine qyd (pb:=pb) (D:=D) (j9:=j9) (FD:=FD) (w:=V.drew) aa R (py (by rfl)) (am.q7 ae) hD ((hv.q7 J).q7 ae) (λE=>(an pb E).2 rfl) aA oJ (hu 1) (hu 2) (λhl w5 f5=>?_) λsl sn G Q9 w5 hl I ao=>?_;rw[hl] at C;refine .inl ⟨rfl,by rw[C],by rw[C],(J.trans ae).j8 f5 λb E=>by simp at E;subst E;exact .inr ad⟩;rw[hl] at C;have ab:kD (j9.2.getD 0 0) G 0 Q9=true:=by unfold ou at hl;split at hl;cases hl;rename_i x hx;split at hl;rename_i hh;cases hl;exact hh.1;cases hl
 have ab:=(Fl _ _ _ _).1 ab;have ac:Q9.length<=100000:=by
  have:=CG (n:=j9.2.getD 0 0+1) (l:=Q9.map (·+1)) (by
   rw[List.Nodup,pairwise_map];exact ab.2.imp λh=>oJ) (λx hx=>by
   obtain⟨y,hy,rfl⟩:=mem_map.1 hx;have:=ab.1 y hy;omega)
  rcases this with h|h;rw[zK] at h;omega;have:=H9 List.length h;simp at this;simp[this]
 have ai:∀b∈X++[pb],b<V.drew.heap.size:=λb E=>by rcases zD.1 E with E|E;exact (ak b E).1;rw[zE.1 E];exact eX aa
 refine .inr ⟨rfl,sl,sn,G,Q9,C,⟨I.eJ,I.nodup,(ae.mono λb E=>by cases E).trans I.fr,I.own⟩,(ao _ ai).1,(ao _ ai).2,ab.2,ac⟩;rintro b w5 (⟨rfl,h1,h2,f5⟩|⟨rfl,sl,sn,G,Q9,aC,I,r1,r2,hp,ac⟩);refine HK rfl ?_;have:=al h1 w5 f5;rw[h2] at this;exact this;refine HM rfl ?_;have hX:∀b∈X,b<w5.heap.size/\b≠pb:=λb E=>⟨yC (ak b E).1 I.fr.size,(ak b E).2⟩;refine Eo (X:=X) (I.at (i:=0) rfl) R (py (by rfl)) oM hX r1 r2 ac λF w6 ap f6 n6=>?_;rw[qqn hp] at ap;refine hk pb F _ w6 aC ap ((J.j8 I.fr λb E=>by simp at E;subst E;exact .inr ad).j8 f6 λb E=>by simp at E;subst E;exact .inr ad) λb E=>?_;rcases n6 b E with h|h;rw[h];exact ad;exact zL (zL J.size I.fr.size) h
structure lK (D:dJ) (k:Nat):Prop where
 ok:D.Ok
 Q7:D.Q7.length<=k
 writes:D.writes<=k
def qua(h:D.Ok):(gT D).1.Ok/\(gT D).1.writes=D.writes:=by have u:=h.y5;unfold gT;split;exact⟨⟨h.at_,u,h.Q6,h.Q7,h.writes,h.nY,h.nW⟩,rfl⟩;split;exact⟨⟨h.at_,⟨by show -1<=D.y5-1;omega,by show D.y5-1<=_;omega⟩,h.Q6,h.Q7,h.writes,h.nY,h.nW⟩,rfl⟩;exact⟨h,rfl⟩
def lK.mono{u:Nat}(h:lK D k)(C:k<=u):lK D u:=⟨h.ok,zL h.Q7 C,by have:=h.writes;omega⟩
def lK.write(h:lK D k)(R:k<1000000)(E:eI l):lK (eA D n l).1 (k+1):=by
 unfold eA;split;exact h.mono oJ;split;exact h.mono oJ;split;rename_i U V C;have G:(lF D n ⟨l,C⟩).Ok:={
  at_:=λx u=>by rcases zD.1 u with u|u;exact h.ok.at_ x u;simp at u;subst u;show 0<=n/\n<(D.Q6.length:Int);omega
  y5:=h.ok.y5
  Q6:=h.ok.Q6
  Q7:=by show (D.Q7++[_]).length<=_;have:=h.Q7;simp;omega
  writes:=⟨by show 0<=D.writes+1;have:=h.ok.writes;omega,by show D.writes+1<=_;have:=h.writes;omega⟩
  nY:=h.ok.nY
  nW:=λx u=>by rcases zD.1 u with u|u;exact h.ok.nW x u;simp at u;subst u;exact E }
 obtain⟨I,J⟩:=qua G;refine⟨I,?_,?_⟩;show (gT (lF D n ⟨l,C⟩)).1.Q7.length<=k+1;rw[(yg _).2];show (D.Q7++[_]).length<=_;have:=h.Q7;simp;omega;show (gT (lF D n ⟨l,C⟩)).1.writes<=((k+1:Nat):Int);rw[J];show D.writes+1<=_;have:=h.writes;omega;exact h.mono oJ
def quG:∀(l:List (Int×lU)) (s:List lU),(∀x∈l,eI x.2.1)->(∀b∈s,eI b.1)->∀b∈l.foldl fW s,eI b.1
 | [],s,_,h=>h
 | x::l,s,C,h=>quG l (fW s x) (λy E=>C y (zN _ E)) λb u=>by rcases mem_or_eq_of_mem_set u with u|rfl;exact h b u;exact C x oL
def lK.sync(h:lK D k):lK (fV D).1 k:=by obtain⟨u,E⟩:=qua h.ok;unfold fV;split;exact h;split;exact⟨u,by show (gT D).1.Q7.length<=k;rw[(yg D).2];exact h.Q7,by show (gT D).1.writes<=_;rw[E];exact h.writes⟩;refine⟨⟨(λx C=>by cases C),u.y5,?_,oL,u.writes,?_,(λx C=>by cases C)⟩,oL,by show (gT D).1.writes<=_;rw[E];exact h.writes⟩;show (D.Q7.foldl fW D.Q6).length<=4096;rw[A0];exact h.ok.Q6;exact quG _ _ h.ok.nW h.ok.nY
def lK.then{u:Nat}(h:lK r.1 k)(C:k<=u)(E:∀D,lK D k->lK (f D).1 u):lK (andThen r f).1 u:=by unfold andThen;split;exact E _ h;exact h.mono C
def lK.si:∀ {l:List (Iz)} {D:dJ} {k:Nat},lK D k->k+l.length<=1000000->(∀x∈l,eI x.2)->lK (fE l D).1 (k+l.length)
 | [],D,k,h,_,_=>h
 | x::l,D,k,h,C,u=>by
  rw[yH] at C⊢;refine lK.then (k:=k+1) (h.write oJ (u x oL)) oJ λD' E=>?_;have:=lK.si (l:=l) E oJ (λy G=>u y (zN _ G));rw[Nat.add_right_comm] at this;exact this
def Ep:(eA D n l).1.Q6.length=D.Q6.length:=by unfold eA;split;rfl;split;rfl;split;show (gT _).1.Q6.length=_;rw[(yg _).1];rfl;rfl
def qq1:(fV D).1.Q6.length=D.Q6.length:=by unfold fV;split;rfl;split;show (gT _).1.Q6.length=_;rw[(yg _).1];show (D.Q7.foldl fW D.Q6).length=_;rw[A0]
def qq2{n:Nat}(h:r.1.Q6.length=n)(u:∀D:dJ,D.Q6.length=n->(f D).1.Q6.length=n):(andThen r f).1.Q6.length=n:=by unfold andThen;split;exact u _ h;exact h
def qmF:∀ {l:List (Iz)} {D:dJ},(fE l D).1.Q6.length=D.Q6.length
 | [],D=>rfl
 | x::l,D=>qq2 Ep λD' h=>by rw[qmF,h]
def qtY{a b:Il}:(fl D a b).1.Q6.length=D.Q6.length:=by unfold fl;split;rfl;exact qq2 qmF λD' h=>by rw[qq1,h]
def qt0:∀x∈(y4.zip (gl numbers y4).1).map λx=>(x.1,eG x.1 2 x.2),eI x.2:=by intro x u;obtain⟨y,h,rfl⟩:=mem_map.1 u;refine Do oM ?_;have h:=(of_mem_zip h).2;unfold gl at h;split at h;cases h;split at h;cases h;obtain⟨i,_,C⟩:=mem_map.1 h;rw[<- C];exact qp0 _ _
def qo1{α β:Type}(a:List α)(b:List β):(a.zip b).length<=a.length:=by rw[length_zip];exact Nat.min_le_left _ _
def lK.spread(h:lK D k)(E:k+y4.length<=1000000):lK (fl D numbers y4).1 (k+y4.length):=by
 unfold fl;split;exact h.mono oJ;have u:=qo1 y4 (gl numbers y4).1;refine lK.then (k:=k+y4.length) ?_ (zM _) λD' C=>C.sync;refine (lK.si h (by rw[zK];omega) qt0).mono ?_;rw[zK];omega
def qwi(s:nI):eI (gD s).2:=Do oM (qwh _ _)
def qrz{numbers y4:Il}{i:Nat}{bs:List (Il)}(h:i<y4.length)(u:i<bs.length):(y4.zip bs).drop i=(y4[i],bs[i])::(y4.zip bs).drop (i+1):=by rw[zX (by rw[length_zip];omega)];simp
def qva{sp:Sl}(h:eQ w dbk FD D)(hD:lK D k)(aR:k+y4.length<=1000000)(hv:Hv w)(hg:HG∉FD)(hn:Rd FD w sn numbers)(hp:Rd FD w sp y4)(aw:numbers.length<=100000)(ax:y4.length<=100000)(ay:∀x∈y4,gE x)(hk:∀F' w',eQ w' dbk F' (fl D numbers y4).1->Fr FD w w'->(∀b∈F',b∈FD\/w.heap.size<=b)->K (fl D numbers y4).2 w'): cW 142 [dG dbk,sn.v,sp.v] di w K:=by
 refine qoy<|quY (G:=FD) hn hp aw ax h.lt λs1 B1 w1 b1 f1 n1=>?_;apply dX<;>intro C;have C:(gl numbers y4).2≠0:=by simpa using C
 have:=hk FD w1 (by rw[fl,iP C];exact h.q7 f1) (f1.mono λb u=>by cases u) (λb u=>.inl u);rw[fl,iP C] at this;exact this;have E:¬(gl numbers y4).2≠0:=(oP C);rw[fl,iN E] at hk;have R:(gl numbers y4).1.length=y4.length/\∀b∈(gl numbers y4).1,b.length<=500/\eI b:=by
  unfold gl at E⊢;split;rename_i h1;rw[iP h1] at E;exact absurd oM E;rename_i h1;rw[iN h1] at E;split;rename_i h1;rw[iP h1] at E;exact absurd oM E;refine⟨GA _ _ _,λb u=>?_⟩;obtain⟨i,_,rfl⟩:=mem_map.1 u;rw[Ds];have:=FH numbers i;unfold chunk at this;exact⟨oJ,qp0 _ _⟩
 generalize (gl numbers y4).1=bs at hk R b1;obtain⟨J,q1,q2,q3⟩:=b1;have aY:=q1.len;have aN:=R.1;have aZ:=hp.1;refine iX (λx w'=>∃(i j:Nat) (F':Ik) (D':dJ),x=i/\i<=y4.length/\eQ w' dbk F' D'/\lK D' (k+i)/\Fr FD w w'/\Fr FD w1 w'/\(∀b∈F',b∈FD\/w1.heap.size<=b)/\
   andThen (fE ((y4.zip bs).map λx=>(x.1,eG x.1 2 x.2)) D) fV=andThen (fE (((y4.zip bs).drop i).map λx=>(x.1,eG x.1 2 x.2)) D') fV) (λx _=>((y4.length:Int)-x).toNat)
  ⟨0,0,FD,D,rfl,oJ,h.q7 f1,hD,f1.mono (λb u=>by cases u),.refl _ _,λb u=>.inl u,rfl⟩ ?_
 rintro x w2 ⟨i,j,F',D',rfl,hi,ai,ad,f2,U,n2,he⟩ X hX;have az:=hv.q8 f2 hg;have a1:=f1.size;apply dX<;>intro C;have V:i<y4.length:=(by have:=zC C;dsimp only at this;omega);have aa:i<bs.length:=oJ;have ak:i<J.length:=oJ;have aA:ee tt 1 FD w1 s1 J:=q1.jz qsa (λb u hm=>by have:=h.lt b hm;have:=n1 b u;omega);have al:ee tt 1 FD w2 s1 J:=aA.q8 U λb u=>.inl u;have am:Rd FD w2 sp y4:=hp.q8 f2 λb u=>.inl u;refine ee.get (y:=J[i]) al i rfl (zA ak) rfl<|Rd.at am i rfl (zA V) ?_;have an:en FD w1 J[i] bs[i]:=(q3 i _ _ (zA ak) (zA aa)).j6 λb u=>.inl (zH _ u);have ae:en FD w2 J[i] bs[i]:=an.q8 U λb u=>.inl u;have aB:=(R.2 _ (zW aa)).1;have a3:=ay _ (zW V);refine Em ae az oJ (λh=>oJ) λ_ b3 T3 w3 c3 f3 n3=>Rd.at (am.q7 f3) i rfl (zA V) ?_;rw[gi y4[i] oJ];have ab:=wM (number:=y4[i]) (kind:=2) aB;refine qpV (S:=[]) (ai.q7 f3) ad.ok (vR (o:=0) (n:=512) c3 (by rw[ab];exact zM _) (zM _) oL) λF4 w4 d4 f4 n4=>?_;rw[xE,zS (by rw[ab];exact zM _)] at d4⊢;have I:∀b∈F',b∈FD\/w.heap.size<=b:=λb u=>by rcases n2 b u with h|h;exact .inl h;exact .inr oJ
 have a6:w2.heap.size<=w3.heap.size:=f3.size;have a7:=U.size;have ao:Fr FD w w4:=(f2.j8 f3 oL).j8 f4 I;have aG:Fr FD w1 w4:=(U.j8 f3 oL).j8 f4 n2;have ap:∀b∈F4,b∈FD\/w1.heap.size<=b:=λb u=>by rcases n4 b u with h|h;exact n2 b h;exact .inr oJ
 rw[qrz V aa (numbers:=numbers),xN,fE] at he;apply dX<;>intro C;have C:(eA D' y4[i] (eG y4[i] 2 bs[i])).2≠0:=(oP C);have aH:andThen (fE ((y4.zip bs).map λx=>(x.1,eG x.1 2 x.2)) D) fV=eA D' y4[i] (eG y4[i] 2 bs[i]):=by rw[he];show andThen (andThen (eA D' y4[i] (eG y4[i] 2 bs[i])) _) fV=_;rw[show ∀f,andThen (eA D' y4[i] (eG y4[i] 2 bs[i])) f=eA D' y4[i] (eG y4[i] 2 bs[i]) from λf=>iN C];exact iN C
 rw[aH] at hk;exact hk F4 w4 d4 ao (λb u=>by rcases ap b u with h|h;exact .inl h;exact .inr oJ);have C:(eA D' y4[i] (eG y4[i] 2 bs[i])).2=0:=(oP C);rw[gi _ oJ];refine hX _ _ ⟨i+1,0,F4,(eA D' y4[i] (eG y4[i] 2 bs[i])).1,oL,oJ,d4,?_,ao,aG,ap,?_⟩ oJ;have:=ad.write (n:=y4[i]) (l:=eG y4[i] 2 bs[i]) oJ (Do oM (R.2 _ (zW aa)).2);rw[Nat.add_assoc] at this;exact this;rw[he];show andThen (andThen (eA D' y4[i] (eG y4[i] 2 bs[i])) _) fV=_;rw[show ∀f,andThen (eA D' y4[i] (eG y4[i] 2 bs[i])) f=f (eA D' y4[i] (eG y4[i] 2 bs[i])).1 from λf=>iP C];have:i=y4.length:=(by have:=zB C;dsimp only at this;omega);subst this;have aI:(y4.zip bs).drop y4.length=[]:=vD (qo1 _ _);rw[aI] at he;have aJ:andThen (fE ((y4.zip bs).map λx=>(x.1,eG x.1 2 x.2)) D) fV=fV D':=he;rw[aJ] at hk;refine qrH ai ad.ok λF3 w3 d3 f3 n3=>?_;have I:∀b∈F',b∈FD\/w.heap.size<=b:=λb u=>by rcases n2 b u with h|h;exact .inl h;exact .inr oJ
 exact hk F3 w3 d3 (f2.j8 f3 I) λb u=>I b (n3 b u)
section
structure DS (dbk:Nat) (w:Ic) (FD:Ik) (w':Ic) (F':Ik) (D':dJ) (k:Nat):Prop where
 at_:eQ w' dbk F' D'
 lim:lK D' k
 fr:Fr FD w w'
 nw:∀ b∈F',b∈FD\/w.heap.size<=b
variable {dbk:Nat}
def DS.refl{w:Ic}{FD:Ik}{D:dJ}{k:Nat}(h:eQ w dbk FD D)(u:lK D k):DS dbk w FD w FD D k:=⟨h,u,.refl _ _,λb C=>.inl C⟩
def DS.trans{w2:Ic}{F2:Ik}{E C:dJ}{G k2:Nat}(h:DS dbk w FD w1 F1 E G)(g:DS dbk w1 F1 w2 F2 C k2):DS dbk w FD w2 F2 C k2:=
 ⟨g.at_,g.lim,h.fr.j8 g.fr h.nw,λb I=>by rcases g.nw b I with u|u;exact h.nw b u;exact .inr (zL h.fr.size u)⟩
def DS.q7{w w1 w2:Ic}{FD F1:Ik}{u:dJ}{C:Nat}(h:DS dbk w FD w1 F1 u C)(f:Fr [] w1 w2):DS dbk w FD w2 F1 u C:=
 ⟨h.at_.q7 f,h.lim,h.fr.j8 f oL,h.nw⟩
def DS.hv{G:dJ}{I:Nat}(h:DS dbk w FD w1 F1 G I)(u:Hv w)(C:HG∉FD):Hv w1/\HG∉F1:=
 ⟨u.q8 h.fr C,λJ=>by
  rcases h.nw _ J with E|E;exact C E;have:=u.lt;omega⟩
def DS.rd{u:dJ}{C:Nat}{s:Sl}(h:DS dbk w FD w1 F1 u C)(E:Rd FD w s l):Rd F1 w1 s l:=E.q8 h.fr h.nw
def DS.qj{u:dJ}{C k2:Nat}(h:DS dbk w FD w1 F1 u C)(E:C<=k2):DS dbk w FD w1 F1 u k2:=⟨h.at_,h.lim.mono E,h.fr,h.nw⟩
def Dy{s:Sl}(h:DS dbk w FD w1 F1 D k)(E:k<1000000)(G:en S w1 s l)(I:eI l)(J:∀w2 F2,DS dbk w FD w2 F2 (eA D n l).1 (k+1)->Fr F1 w1 w2->(∀b∈F2,b∈F1\/w1.heap.size<=b)->K (eA D n l).2 w2): cW 138 [dG dbk,.i n,s.v] di w1 K:=by exact qpV h.at_ h.lim.ok G λF2 w2 R u C=>J w2 F2 (h.trans ⟨R,h.lim.write E I,u,C⟩) u C
def qrG(h:DS dbk w FD w1 F1 D k)(G:∀w2 F2,DS dbk w FD w2 F2 (fV D).1 k->Fr F1 w1 w2->(∀b∈F2,b∈F1\/w1.heap.size<=b)->K (fV D).2 w2): cW 139 [dG dbk] di w1 K:=by exact qrH h.at_ h.lim.ok λF2 w2 I C E=>G w2 F2 (h.trans ⟨I,h.lim.sync,C,λb u=>.inl (E b u)⟩) C (λb u=>.inl (E b u))
def qrM(h:DS dbk w FD w1 F1 D k)(hk:k<1000000)(hv:Hv w1)(U:s.2.length=27)(hq:0<=s.1)(I:∀w2 F2,DS dbk w FD w2 F2 (jD D s).1 (k+1)->Fr F1 w1 w2->(∀b∈F2,b∈F1\/w1.heap.size<=b)->K (jD D s).2 w2): cW 143 [dG dbk,.agg (eS s.1 s.2).toArray] di w1 K:=by
 refine qrq<|oB (oE [] w1) λr w2 e2 f2 J=>?_;have c0:(eS s.1 s.2).toArray[0]?=some (.w s.1):=rfl;refine oA J.drew 0 rfl s.1 c0<|uM (J.drew.at (i:=0) rfl) U<|qwB (hv.q7 J.drew.fr) U λb T w3 c3 f3 n3=>?_;have u:=J.drew.q7 f3;refine ik (u.cell 0 rfl c0) ?_;have ht:=Int.tmod_eq_emod_of_nonneg (b:=2) hq;rw[gi (Int.tmod s.1 2) oJ];have C:(eG (wrap .u32 (Int.tmod s.1 2)) 1 (gr s.1 s.2)).length=512:=wM (by rw[zu U];decide);have V:en [] w3 ⟨pW b,512,512⟩ (gD s).2:=by
  have:=vR (S:=[]) (o:=0) (n:=512) (cap:=512) c3 (by rw[C];exact zM _) (zM _) oL;rw[xE,zS (Nat.le_of_eq C)] at this;exact this
 show cW 138 [dG dbk,.i (gD s).1,_] _ _ _;refine Dy (h.q7 u.fr) hk V (qwi s) λw4 F4 R f4 n4=>?_;have an:=u.fr.size;apply dX<;>intro E;have E:(eA D (gD s).1 (gD s).2).2≠0:=(oP E);have e:jD D s=eA D (gD s).1 (gD s).2:=iN E;rw[e] at I;exact I w4 F4 R ((u.fr.mono λb G=>by cases G).trans f4) λb G=>by rcases n4 b G with h|h;exact .inl h;exact .inr oJ
 have E:(eA D (gD s).1 (gD s).2).2=0:=(oP E);have e:jD D s=fV (eA D (gD s).1 (gD s).2).1:=iP E;rw[e] at I;refine qrG R λw5 F5 d5 f5 n5=>?_;have g4:DS dbk w1 F1 w4 F4 (eA D (gD s).1 (gD s).2).1 (k+1):=⟨R.at_,R.lim,(u.fr.mono (T:=F1) λb G=>by cases G).trans f4,λb G=>by rcases n4 b G with h|h;exact .inl h;exact .inr oJ⟩;have g5:=g4.trans ⟨d5.at_,d5.lim,f5,n5⟩;exact I w5 F5 d5 g5.fr g5.nw
def qnG{I:Sl}(h:DS dbk w FD w1 F1 D k)(u:k+y4.length<=1000000)(U:Hv w1)(V:HG∉F1)(hn:Rd F1 w1 sn numbers)(hp:Rd F1 w1 I y4)(C:numbers.length<=100000)(E:y4.length<=100000)(G:∀x∈y4,gE x)(kk:∀w2 F2,DS dbk w FD w2 F2 (fl D numbers y4).1 (k+y4.length)->Fr F1 w1 w2->(∀b∈F2,b∈F1\/w1.heap.size<=b)->K (fl D numbers y4).2 w2): cW 142 [dG dbk,sn.v,I.v] di w1 K:=by exact qva h.at_ h.lim u U V hn hp C E G λF2 w2 d2 J R=>kk w2 F2 (h.trans ⟨d2,h.lim.spread u,J,R⟩) J R
def qjq(a:dJ×Int)(f g:dJ->dJ×Int):andThen (andThen a f) g=andThen a λD=>andThen (f D) g:=by unfold andThen;by_cases h:a.2=0;rw[iP h,iP h];rw[iN h,iN h,iN h]
def Ao(h:a.2≠0):andThen a f=a:=iN h
def yu(h:a.2=0):andThen a f=f a.1:=iP h
def qvq{a b c:Int}(w:Ic):(Instr.build 185 #[(0,.w 1),(1,.u a),(2,.u b),(3,.u c)]).run prog w=.ok (.agg (eS 1 ([a,b,c]++zs 24)).toArray) w:=by obtain⟨z,E,h⟩:=yS.1 t5;have C:z.cells=(eS 0 (zs 27)).toArray:=(by rw[<- h]);refine xv (parts:=[(0,.w 1),(1,.u a),(2,.u b),(3,.u c)]) (offs:=#[(0,1),(1,1),(2,1),(3,1),(4,24)]) E oK (λw=>oK) ?_ w;rw[C,qo (o:=0) (s:=1) rfl rfl (zO rfl),qo (o:=1) (s:=1) rfl rfl (zO rfl),qo (o:=2) (s:=1) rfl rfl (zO rfl),qo (o:=3) (s:=1) rfl rfl (zO rfl)];rfl
def qu8(h:eQ w dbk FD D)(hl:lK D k)(hk:k<=900000)(h8:2<=D.Q6.length)(hv:Hv w)(hg:HG∉FD)(C:∀w' F',DS dbk w FD w' F' (lC D).1 (k+5000)->K (lC D).2 w'): cW 107 [dG dbk] di w K:=by
 refine qow ?_;have am:=hl.ok.Q6;have h0:=DS.refl h hl;have G:(zs 512).length=512:=ot _;have U:∀ {S0:Ik} {w0 w':Ic} {L:Ip} {b:Nat} {T:If},dR S0 w0 w' ((b,.c (List.replicate (512:Int).toNat (Value.int .u8 0)).toArray T)::L)->en [] w' ⟨pW b,(512:Int).toNat,(512:Int).toNat⟩ (zs 512):=λho=>by
  have E:=ho.at (i:=0) rfl;rw[qtp] at E;have:=vR (S:=[]) (o:=0) (n:=512) (cap:=512) E (by rw[show (512:Int).toNat=512 from rfl,G];exact zM _) (zM _) oL;rw[xE,zS (by rw[show (512:Int).toNat=512 from rfl,G];exact zM _)] at this;exact this
 refine Ae λX hX=>HK rfl<|dR.Gr (oE [] w) oM oM oM oM λb1 w1 e1 V=>Dy (h0.q7 V.fr) oJ (U V) (eI.zs 512) λw2 F2 d2 f2 n2=>?_;apply dX<;>intro u;have u:(eA D 0 (zs 512)).2≠0:=(oP u);have e:lC D=eA D 0 (zs 512):=Ao u;rw[e] at C;exact C w2 F2 (d2.qj oJ);have ao:(eA D 0 (zs 512)).2=0:=(oP u);rw[lC,yu ao] at C;have ap:=Ep (D:=D) (n:=0) (l:=zs 512);generalize (eA D 0 (zs 512)).1=D2 at d2 C ap;rw[gi (0+1) oM];refine hX _ _ (qqA 1 rfl λX hX=>?_);refine HK rfl<|dR.Gr (oE [] w2) oM oM oM oM λb3 w3 e3 aa=>Dy (d2.q7 aa.fr) oJ (U aa) (eI.zs 512) λw4 F4 d4 f4 n4=>?_;apply dX<;>intro u;have u:(eA D2 1 (zs 512)).2≠0:=(oP u);rw[Ao u] at C;exact C w4 F4 (d4.qj oJ);have ar:(eA D2 1 (zs 512)).2=0:=(oP u);rw[yu ar] at C;have au:=Ep (D:=D2) (n:=1) (l:=zs 512);generalize (eA D2 1 (zs 512)).1=D4 at d4 C au;rw[gi (1+1) oM];refine hX _ _ (qqA 2 rfl λX hX=>?_);refine HM rfl<|qrG d4 λw5 F5 d5 f5 n5=>?_;apply dX<;>intro u;have u:(fV D4).2≠0:=(oP u);rw[Ao u] at C;exact C w5 F5 (d5.qj oJ);have ax:(fV D4).2=0:=(oP u);rw[yu ax] at C;have ay:=qq1 (D:=D4);generalize (fV D4).1=D5 at d5 C ay;have az:D5.Q6.length=D.Q6.length:=oJ;have al:=yv D.Q6.length;obtain⟨aA,aB⟩:=d5.hv hv hg;refine iX (λx w'=>∃(i:Nat) (B:Ik),x.2=((i+2:Nat):Int)/\i<=D.Q6.length-2/\ln w' x.1 ((fy D.Q6.length).take i) B/\Fr [] w5 w'/\∀b∈B,w5.heap.size<=b) (λx _=>((D.Q6.length:Int)-x.2).toNat)
  ⟨0,[],rfl,oJ,.nil _ _ _,.refl _ _,oL⟩ ?_
 rintro⟨s,x⟩ w6 ⟨i,B,hx,hi,E,f6,n6⟩ Y hY;simp only at hx E;subst hx;have d6:=d5.q7 f6;refine Gn d6.at_ ?_;dsimp only;apply dX<;>intro u;have aD:i<D.Q6.length-2:=(by have:=zC u;omega);rw[nD ((i+2:Nat):Int) oJ];refine Ei E (by rw[yK];omega) λs7 B7 w7 b7 f7 n7=>?_;rw[gi _ oJ];refine hY _ _ ⟨i+1,B7,by simp;omega,oJ,?_,f6.j8 f7 λb E=>.inr (n6 b E),λb E=>?_⟩ oN;have e:(fy D.Q6.length).take (i+1)=(fy D.Q6.length).take i++[((i+2:Nat):Int)]:=by rw[yF oJ];congr 2;have h1:=qub aD;have h2:=zA (l:=fy D.Q6.length) (i:=i) oJ;rw[h2] at h1;rw[yN h1];simp
 rw[e];exact b7;rcases n7 b E with h|h;exact n6 b h;exact zL f6.size h;have aE:i=D.Q6.length-2:=(by have:=zB u;omega);subst aE;rw[zS oJ] at E;have aF:=E.len;rw[aF];refine qrI oJ ?_;have ad:=Gm (n:=(fy D.Q6.length).length);have ae:∀b∈B,b∉F5:=λb E hm=>by have:=n6 b E;have:=d5.at_.lt b hm;omega
 have I:Rd F5 w6.drew s (fy D.Q6.length):=(E.q7 (Fr.refl [] w6).drew).jz qZ ae;refine ee.part (k:=1) I (eK (fy D.Q6.length).length) (fy D.Q6.length).length rfl (by show (s.len:Int)=_;omega) ad (zM _) λsn a4 rn _=>ee.part (k:=1) I 0 (eK (fy D.Q6.length).length) rfl rfl oJ ad λsp a5 rp _=>?_;rw[xY] at rn;rw[xE] at rp;have aG:=d6.q7 (Fr.refl [] w6).drew;have aH:=(aA.q7 f6).q7 (Fr.refl [] w6).drew;rw[az] at C;refine qnG aG (by rw[yK];omega) aH aB rn rp (by rw[yB];omega) (by rw[yK];omega) (λx hx=>by
  have:=yj.1 (yU hx);constructor<;>omega) λw7 F7 J f7 n7=>?_
 have J:=J.qj (k2:=k+2+4096) (by rw[yK];omega);apply dX<;>intro u;have u:(fl D5 ((fy D.Q6.length).drop (eK (fy D.Q6.length).length)) ((fy D.Q6.length).take (eK (fy D.Q6.length).length))).2≠0:=(oP u);rw[Ao u] at C;exact C w7 F7 (J.qj oJ);have aI:(fl D5 ((fy D.Q6.length).drop (eK (fy D.Q6.length).length)) ((fy D.Q6.length).take (eK (fy D.Q6.length).length))).2=0:=(oP u);rw[yu aI] at C;have aJ:=qtY (D:=D5) (a:=(fy D.Q6.length).drop (eK (fy D.Q6.length).length)) (b:=(fy D.Q6.length).take (eK (fy D.Q6.length).length));generalize (fl D5 ((fy D.Q6.length).drop (eK (fy D.Q6.length).length)) ((fy D.Q6.length).take (eK (fy D.Q6.length).length))).1=D7 at J C aJ;have aK:D7.Q6.length=D.Q6.length:=oJ;refine Gn J.at_ ?_;rw[aK] at C⊢;have R:wrap .i64 (((fy D.Q6.length).length:Int)-(eK (fy D.Q6.length).length:Int))=((fy D.Q6.length).length:Int)-(eK (fy D.Q6.length).length:Int):=gi _ oJ;rw[R];exact qu (ts:=[gU.jX]) (eS (kH D.Q6.length).1 (kH D.Q6.length).2) (qvq w7)<|qrM (s:=kH D.Q6.length) J oJ (J.hv hv hg).1 rfl (by show (0:Int)<=1;decide) λw8 F8 d8 f8 n8=>C w8 F8 (d8.qj oJ)
end
section
structure dV.Wf (M:dV):Prop where
 n4:M.j9.2.getD 0 0<=4096
 u32:∀ x∈M.j9.2,gE x
 Q2:∀ x∈M.Q2,gE x
 cL:M.Q9.Pairwise (· < ·)
 Q9:∀ x∈M.Q9,2<=x/\x<M.j9.2.getD 0 0
 cS:M.Q1.Pairwise (· < ·)
 qA:M.J7.Pairwise (· < ·)
 nodup:(M.Q1++(M.J7++(M.Q5++M.J8.map (·.1)))).Nodup
 range:∀ x∈M.Q1++(M.J7++(M.Q5++M.J8.map (·.1))),2<=x/\x<M.j9.2.getD 0 0
 body:∀ e∈M.J8,(0<=e.2.1/\e.2.1<256)/\e.2.2.length<=500/\eI e.2.2
def qBv(u:l.Nodup)(h:∀x∈l,2<=x/\x<n)(C:n<=4096):l.length<=4096:=by rcases CG u h with h|h;omega;rw[h];simp
def dV.Wf.all(M:dV)(h:M.Wf):M.Q1.length+M.J7.length+M.Q5.length+M.J8.length<=4096:=by
 have:=qBv h.nodup h.range h.n4;simp only[zF,zK] at this;omega
section
variable {w:Ic} {X:Ik} {pb:Nat} {db:Option Addr} {F:Ik} {M:dV}
def ee.tO{α:Type}{enc:α->List Ie}{w:Ic}{s:Sl}{l:List α}(h:ee enc k S w s l){hi:Int}(b:Nat){K:Sl->Prop}(C:hi=b)(hb:b<=l.length)(J:∀I,ee enc k S w I (l.take b)->K I):fB s none (some hi) (some hi) k K:=by
 subst C;obtain⟨h1,h2,E⟩:=h;unfold fB;refine⟨by simp;omega,J _ ?_⟩;simp only[xV,xU,Int.toNat_zero,zJ,Nat.zero_mul,Nat.sub_zero];have e:(if b=0 then s.a else s.a.map (·.add 0))=s.a:=by
  split;rfl;cases s.a with
  | none=>rfl
  | some a=>simp[Fj]
 rw[e];refine⟨by rw[yK];dsimp only;omega,zM _,?_⟩;rcases E with E|⟨R,o,U,T,V,ha,G,hS,hc⟩;left;rw[E];simp;refine .inr ⟨R,o,U,T,V,ha,G,hS,λi x u=>?_⟩;rw[xA] at u;split at u;exact hc i x u;cases u
def eB.nH{w:Ic}{X:Ik}{pb:Nat}{db:Option Addr}{F:Ik}{M:dV}(h:eB w X pb db F M):∀b∈X,b<w.heap.size:=by obtain⟨fb,defb,mb,sl,sn,C,F2,E,rfl,u⟩:=h;exact u.nH
def qyf{K:Sl×Sl×Bool->WP}(h:eB w X pb db F M)(hW:M.Wf)(ao:jv M=none->∀w',Fr [] w w'->K (dH,dH,false) w')(hk:∀sp sn y4 Q9 w',jv M=some (y4,Q9)->Fr [] w w'->(∀G:Ik,(∀b∈G,b<w.heap.size)->Rd G w' sp y4/\Rd G w' sn Q9)->K (sp,sn,true) w'): cW 113 [dG pb] dE w K:=by
 have aD:=dV.Wf.all M hW;obtain⟨fb,defb,mb,sl,sn,F1,F2,fs,rfl,E⟩:=h;refine qjZ<|fu (io E.cell (pW fb) (zm E.Q8) ?_);refine qt6 E.Q1 oJ λI w1 t1 f1=>?_;obtain⟨B1,b1,n1⟩:=qth t1;have ae:Fr [] w w1.drew:=f1.drew;have J:=E.q7 ae;refine fu (io (w:=w1.drew) (c:=.ptr) J.cell (pW defb) (Cx E.Q8) ?_);refine fu (io (w:=w1.drew) (c:=.slice) J.cell sl (Gw E.Q8) ?_);refine qt6 J.J7 oJ λs2 w2 t2 f2=>?_;obtain⟨B2,b2,n2⟩:=qth t2;have af:=ae.trans f2;have ag:=E.q7 af;refine ik (by show _=_;rw[jp ag.cell];exact Gw E.Q8)<|Dc b2 ag.rows.Q5 oJ λs3 B3 w3 b3 f3 n3=>?_;have R:∀b∈B1,b<w1.drew.heap.size:=λb u=>(b1.q7 (Fr.refl [] w1).drew).lt b u;have au:=(b1.q7 (Fr.refl [] w1).drew).q7 f2;have U:ln w3 I M.Q1 B1:=au.q8 f3 (λb u C=>by have:=R b u;have:=n2 b C;omega);have aV:w.heap.size<=w1.heap.size:=f1.size;have aW:=f2.size;have aX:w1.drew.heap.size=w1.heap.size:=rfl;have V:∀b∈B3,w1.drew.heap.size<=b:=λb u=>by rcases n3 b u with h|h;exact n2 b h;omega
 have ah:Fr [] w w3:=af.j8 f3 λb u=>.inr (by have:=n2 b u;omega);have l1:=U.len;have l3:=b3.len;rw[zF] at l3;rw[gi _ oJ];have e:(I.len:Int)+(s3.len:Int)=((M.Q1.length+(M.J7++M.Q5).length:Nat):Int):=(by rw[zF];omega);rw[e];refine qrI (by rw[zF];omega) ?_;generalize ai:eK (M.Q1.length+(M.J7++M.Q5).length)=k;apply cD<;>intro hc;have:=hc;exact ao (by rw[jv,ai,iP]) w3 ah;have aj:k<=M.Q1.length:=oJ;have aa:jv M=some (M.Q1.take k,gA ((M.J7++M.Q5)++M.Q1.drop k)):=(by rw[jv,ai,iN]);have ab:Rd [] w3 I M.Q1:=U.jz qZ oL;refine ee.part (k:=1) ab k M.Q1.length rfl (by show (I.len:Int)=_;omega) aj (zM _) λs4 aZ r4 _=>?_;rw[xY] at r4;refine Dc b3 r4 (by rw[zF,yB];omega) λs5 B5 w5 b5 f5 n5=>?_;have ac:∀b∈B5,w1.drew.heap.size<=b/\b∉B1:=λb u=>by
  have hh:w1.drew.heap.size<=b:=by
   rcases n5 b u with h|h;exact V b h;have:=f3.size;omega
  exact⟨hh,λC=>by have:=R b C;omega⟩
 have aw:ln w5 I M.Q1 B1:=U.q8 f5 (λb u C=>by have:=R b u;have:=V b C;omega);refine qrT b5 (by rw[zF,zF,yB];omega) λl6 w6 b6 p6 o6 f6=>?_;have ax:ln w6 I M.Q1 B1:=aw.q8 f6 λb u C=>(ac b C).2 u;have ay:((M.J7++M.Q5)++M.Q1.drop k).Nodup:=by
  have h:=hW.nodup;have hp:(M.Q1++(M.J7++(M.Q5++M.J8.map (·.1)))).Perm (((M.J7++M.Q5)++M.Q1)++M.J8.map (·.1)):=by rw[<- zV M.J7,<- zV M.Q1];exact perm_append_comm.append_right _
  have h2:=(hp.nodup_iff.1 h).sublist (sublist_append_left _ _);exact h2.sublist ((List.Sublist.refl _).append (drop_sublist _ _))
 have az:l6=gA ((M.J7++M.Q5)++M.Q1.drop k):=FN p6 o6 ay;rw[az] at b6;have aA:Fr [] w w6:=(ah.j8 f5 λb u=>.inr (by have:=V b u;omega)).j8 f6 λb u=>.inr (by have:=(ac b u).1;omega);have al:∀G:Ik,(∀b∈G,b<w.heap.size)->Rd G w6 I M.Q1/\Rd G w6 s5 (gA ((M.J7++M.Q5)++M.Q1.drop k)):=λG hG=>
  ⟨ax.jz qZ λb u C=>by have:=hG b C;have:=n1 b u;omega,b6.jz qZ λb u C=>by have:=hG b C;have:=(ac b u).1;omega⟩
 exact ee.tO (al (List.range w.heap.size) oL).1 k rfl aj λs7 r7=>hk s7 s5 _ _ w6 aa aA λG hG=>⟨r7.j6 λb u=>.inl (mem_range.2 (hG b u)),(al G hG).2⟩
end
def qsA{C:List (Int×jR)}{K:Int×Sl->Prop}(h:kN i8 w mb (C.map λe=>(e.1,kX e.2)))(G:∀q,look n C=some q->K (q.2.1,q.2.2.1))(I:look n C≠none): eW [gU.agg [Cell.int .u8,Cell.slice]] (λw'=>(Instr.lookup tN (.map (some mb)) (.u n) false).run prog w') w K:=by
 have:=Cy (P:=prog) ye qA2 uH h n;rw[wh,vz] at this;cases E:look n C with
 | none=>exact absurd E I
 | some q=>
  rw[E] at this;exact qu (ts:=[gU.agg [Cell.int .u8,Cell.slice]]) (q.2.1,q.2.2.1) this (G q E)
def qwr{sp:Sl}(h:DS dbk w FD w1 F1 D k)(hp:eB w1 F1 pb (pW dbk) F M)(af:∀e∈M.J8,(0<=e.2.1/\e.2.1<256)/\e.2.2.length<=500/\eI e.2.2)(aF:(M.J8.map (·.1)).Nodup)(aG:∀x∈M.J8.map (·.1),gE x)(aH:M.J8.length<=100000)(bj:k+M.J8.length+y4.length+1<=1000000)(hv:Hv w1)(hg:HG∉F1)(hn:Rd F1 w1 sn Q9)(aJ:Rd F1 w1 sp y4)(aK:Q9.length<=100000)(aL:y4.length<=100000)(aM:∀x∈y4,gE x)(hs:next.2.length=27)(hq:0<=next.1)(kk:∀w2 F2,DS dbk w FD w2 F2 (gF D M.J8 y4 Q9 next).1 (k+M.J8.length+y4.length+1)->Fr F1 w1 w2->(∀b∈F2,b∈F1\/w1.heap.size<=b)->K (gF D M.J8 y4 Q9 next).2 w2): cW 114 [dG pb,sp.v,sn.v,.agg (eS next.1 next.2).toArray] di w1 K:=by
 refine qi4<|oB (oE [] w1) λr w2 e2 f2 ho=>qws (hp.q7 f2) aH λs3 B3 C w3 b3 p3 o3 f3 n3=>?_;have aP:C=gA (M.J8.map (·.1)):=FN p3 o3 aF;have aQ:C.length=M.J8.length:=(by have:=p3.length_eq;rw[zK] at this;exact this);have ag:∀x∈C,x∈M.J8.map (·.1):=λx U=>p3.mem_iff.1 U;have E:Fr [] w1 w3:=f2.trans f3;have hW:kM M.J8=C.map λn=>(n,eG n (jY M.J8 n).1 (jY M.J8 n).2):=(by rw[kM,<- aP]);have aR:=ho.q7 f3;have bq:=b3.len;have bb:=f2.size;have ax:∀b∈F1,b<w1.heap.size:=h.at_.lt;have r3:Rd F1 w3 s3 C:=b3.jz qZ λb hb hm=>by have:=n3 b hb;have:=ax b hm;omega
 have ad:w3.heap[r]?=some (.c (eS next.1 next.2).toArray 185):=aR.at (i:=0) rfl;have hr:r∉F1:=λhm=>by have:=ax r hm;omega
 rw[gF,hW] at kk;refine iX (λx w'=>∃(i:Nat) (F':Ik) (D':dJ),x=i/\i<=C.length/\DS dbk w3 F1 w' F' D' (k+i)/\
   andThen (fE (C.map λn=>(n,eG n (jY M.J8 n).1 (jY M.J8 n).2)) D) (λD=>andThen (fl D Q9 y4) λD=>jD D next) =
    andThen (fE ((C.drop i).map λn=>(n,eG n (jY M.J8 n).1 (jY M.J8 n).2)) D') λD=>andThen (fl D Q9 y4) λD=>jD D next) (λx _=>((C.length:Int)-x).toNat)
  ⟨0,F1,D,rfl,oJ,DS.refl (h.at_.q7 E) h.lim,rfl⟩ ?_
 rintro x w4 ⟨i,F',D',rfl,hi,V,he⟩ Y hY;have aj:eB w4 F' pb (pW dbk) F M:=(hp.q7 E).pd V.fr V.at_.lt V.nw;have ak:=V.hv (hv.q7 E) hg;have I:∀ {G:Ic} {F5:Ik} {D5:dJ} {k5:Nat},DS dbk w3 F1 G F5 D5 k5->DS dbk w FD G F5 D5 k5/\Fr F1 w1 G/\∀b∈F5,b∈F1\/w1.heap.size<=b:=λd5=>by have g:DS dbk w1 F1 _ _ _ _:=(DS.refl h.at_ h.lim).q7 E |>.trans d5;exact⟨h.trans g,g.fr,g.nw⟩
 apply dX<;>intro u;have am:i<C.length:=(by have:=zC u;omega);refine Rd.at (V.rd r3) i rfl (zA am) ?_;have an:=ag _ (zW am);have aT:=aG _ an;have J:C.drop i=C[i]::C.drop (i+1):=zX am;generalize C[i]=x at an aT J;obtain⟨fb,defb,mb,sl,sm,G1,G2,fs,rfl,U⟩:=aj;have R:=U.q7 (Fr.refl [] w4).drew;have aa:=U.cJ x;have ay:look x fs≠none:=λhn=>by rw[hn] at aa;exact uv.1 aa an
 refine fu (io (w:=w4.drew) (c:=.map) R.cell (some mb) (sS U.Q8) ?_);refine qsA R.map.at (λq ao=>?_) ay;refine fu (io (w:=w4.drew) (c:=.map) R.cell (some mb) (sS U.Q8) ?_);refine qsA R.map.at (λq' az=>?_) ay;rw[ao] at az;cases az;rw[ao] at aa;have aV:jY M.J8 x=(q.2.1,q.2.2.2):=(by rw[jY,aa];rfl);have hm:=(tg ao).2;have ae:=R.rows.y7 _ hm;have ab:=af (x,q.2.1,q.2.2.2) (by rw[U.J8];exact mem_map.2 ⟨_,hm,rfl⟩);dsimp only at ae ab;refine Em ae (ak.1.q7 (Fr.refl [] w4).drew) oJ (λh=>oJ) λ_ b5 T5 G c5 f5 n5=>?_;have aA:Fr [] w4 G:=(Fr.refl [] w4).drew.trans f5;have ap:=U.q7 aA;refine fu (io ap.cell (pW dbk) DK ?_);rw[gi x oJ];have aB:=wM (number:=x) (kind:=q.2.1) ab.2.1;have aX:en [] G ⟨pW b5,512,512⟩ (eG x q.2.1 q.2.2.2):=by
  have:=vR (S:=[]) (o:=0) (n:=512) (cap:=512) c5 (by rw[aB];exact zM _) (zM _) oL;rw[xE,zS (Nat.le_of_eq aB)] at this;exact this
 rw[J,xN,aV] at he;refine Dy (V.q7 aA) oJ aX (Do ab.1 ab.2.2) λw6 F6 d6 f6 n6=>?_;apply dX<;>intro u;have u:(eA D' x (eG x q.2.1 q.2.2.2)).2≠0:=(oP u);rw[fE,qjq,Ao u] at he;rw[he] at kk;have a6:=I d6;exact kk w6 F6 (a6.1.qj oJ) a6.2.1 a6.2.2;have u:(eA D' x (eG x q.2.1 q.2.2.2)).2=0:=(oP u);rw[fE,qjq,yu u] at he;rw[gi _ oJ];exact hY _ _ ⟨i+1,F6,_,oL,oJ,d6,he⟩ oJ
 ·have:i=C.length:=(by have:=zB u;omega);subst this;rw[drop_length,map_nil,fE,andThen_ok] at he;rw[he] at kk;obtain⟨fb,defb,mb,sl,sm,G1,G2,fs,hF,U⟩:=id aj;refine fu (io U.cell (pW dbk) DK ?_);have aZ:=V.rd (hn.q7 E);have aC:=V.rd (aJ.q7 E);refine qnG V oJ ak.1 ak.2 aZ aC aK aL aM λG F5 d5 f5 n5=>?_;apply dX<;>intro u;have u:(fl D' Q9 y4).2≠0:=(oP u);rw[Ao u] at kk;have a5:=I d5;exact kk G F5 (a5.1.qj oJ) a5.2.1 a5.2.2
  ·have u:(fl D' Q9 y4).2=0:=(oP u);rw[yu u] at kk;have a1:eB G F5 pb (pW dbk) F M:=aj.pd f5 d5.at_.lt n5;obtain⟨fb,defb,mb,sl,sm,G1,G2,fs,hF,ap⟩:=id a1;have a2:=ap.q7 (Fr.refl [] G).drew;refine fu (io (w:=G.drew) (c:=.ptr) a2.cell (pW dbk) DK ?_);have ar:G.drew.heap[r]?=some (.c (eS next.1 next.2).toArray 185):=(by show G.heap[r]?=_;rw[d5.fr.block r (eX ad) hr];exact ad);refine uM ar hs<|qrM (d5.q7 (Fr.refl [] G).drew) oJ ((d5.hv (hv.q7 E) hg).1.q7 (Fr.refl [] G).drew) hs hq λw6 F6 d6 f6 n6=>?_;have a6:=I d6;exact kk w6 F6 (a6.1.qj oJ) a6.2.1 a6.2.2
end
def uA (D:dJ):Prop:=∀x∈D.Q7,0<=x.1/\x.1<D.Q6.length
def qpX(h:(gT D).2=false)(u:D.down=false):(gT D).1.down=false:=by unfold gT at h⊢;split;rename_i C;rw[iP C] at h;cases h;split<;>exact u
def qmO(U:uA D)(h:(eA D n l).2=0): (eA D n l).1.down=false/\uA (eA D n l).1/\(0<=n/\n<D.size)/\∀m,view (eA D n l).1 m=if m=n then l else view D m:=by
 unfold eA at h⊢;split;rename_i G;rw[iP G] at h;cases h;rename_i G;rw[iN G] at h;split;rename_i J;rw[iP J] at h;cases h;rename_i J;rw[iN J] at h;split;rename_i u;rw[dif_pos u] at h;have E:(gT (lF D n ⟨l,u⟩)).2=false:=by
  cases V:(gT (lF D n ⟨l,u⟩)).2 with
  | false=>rfl
  | true=>simp only[V,if_true] at h;cases h
 have I:=yg (lF D n ⟨l,u⟩);have R:0<=n/\n<(D.Q6.length:Int):=oJ;refine⟨qpX E (show D.down=false by simpa using G),λx C=>?_,R,λm=>?_⟩;show 0<=x.1/\x.1<((gT (lF D n ⟨l,u⟩)).1.Q6.length:Int);rw[I.1];have C:x∈(gT (lF D n ⟨l,u⟩)).1.Q7:=C;rw[I.2] at C;rcases zD.1 C with C|C;exact U x C;simp at C;subst C;exact R;show view (gT (lF D n ⟨l,u⟩)).1 m=_;rw[view,I.1,I.2,lF];dsimp only;rw[Ef];by_cases hm:m=n;rw[iP hm,iP hm.symm];rw[iN hm,iN λe=>hm e.symm,view];rename_i u;rw[dif_neg u] at h;cases h
def qoV(G:uA D)(h:(fV D).2=0):(fV D).1.down=false/\(fV D).1.Q7=[]/\∀m,0<=m->view (fV D).1 m=view D m:=by unfold fV at h⊢;split;rename_i C;rw[iP C] at h;cases h;rename_i C;rw[iN C] at h;split;rename_i E;rw[iP E] at h;cases h;rename_i E;have u:(gT D).2=false:=(oP E);refine⟨qpX u (oP C),rfl,λm I=>?_⟩;obtain⟨k,rfl⟩:∃k:Nat,m=k:=⟨m.toNat,oJ⟩;show ((D.Q7.foldl fW D.Q6).getD (k:Int).toNat .zero).1=_;rw[zJ,GY k _ _ G,view,zJ];cases iF (k:Int) D.Q7<;>rfl
def qug(h:D.Q7=[]):uA D:=λx u=>by rw[h] at u;cases u
def AD(h:(andThen r f).2=0):r.2=0/\(f r.1).2=0/\andThen r f=f r.1:=by unfold andThen at h⊢;by_cases h0:r.2=0;rw[iP h0] at h⊢;exact⟨h0,h,rfl⟩;rw[iN h0] at h;exact absurd h h0
def DU:∀ {l:List (Iz)} {D:dJ},uA D->D.down=false->(fE l D).2=0->(l.map (·.1)).Nodup-> (fE l D).1.down=false/\uA (fE l D).1/\(∀x∈l,view (fE l D).1 x.1=x.2)/\∀m,m∉l.map (·.1)->view (fE l D).1 m=view D m
 | [],D,C,I,_,_=>⟨I,C,(λx u=>by cases u),λm _=>rfl⟩
 | y::l,D,C,I,h,E=>by obtain⟨R,U,V⟩:=AD (show (andThen (eA D y.1 y.2) (fE l)).2=0 from h);obtain⟨d1,a1,_,J⟩:=qmO C R;rw[xN,nodup_cons] at E;obtain⟨d2,a2,v2,u2⟩:=DU (l:=l) a1 d1 U E.2;rw[show fE (y::l) D=fE l (eA D y.1 y.2).1 from V];refine⟨d2,a2,λx u=>?_,λm G=>?_⟩;rcases zG.1 u with rfl|u;rw[u2 _ E.1,J,iP rfl];exact v2 x u;rw[xN,zG,not_or] at G;rw[u2 m G.2,J,iN G.1]
def qtb(U:uA D)(V:D.down=false)(C:lD n numbers y4)(h:(fl D numbers y4).2=0): (fl D numbers y4).1.down=false/\(fl D numbers y4).1.Q7=[]/\pp (fl D numbers y4).1 numbers y4/\∀m,0<=m->m∉y4->view (fl D numbers y4).1 m=view D m:=by have I:((y4.zip (gp numbers y4 y4.length)).map λx=>(x.1,eG x.1 2 x.2)).map (·.1)=y4:=(by rw[map_map];exact GI (by rw[GA]));have e:fl D numbers y4=andThen (fE ((y4.zip (gp numbers y4 y4.length)).map λx=>(x.1,eG x.1 2 x.2)) D) fV:=(by rw[fl,C.y7];exact iN oL);rw[e] at h;obtain⟨h1,h2,h3⟩:=AD h;obtain⟨d1,a1,v1,J⟩:=DU U V h1 (by rw[I];exact C.nodup);rw[I] at J;obtain⟨d2,w2,R⟩:=qoV a1 h2;rw[e,h3];refine⟨d2,w2,λi p E=>?_,λm hm G=>by rw[R m hm,J m G]⟩;have hi:=(zP.1 E).1;have u:(p,eG p 2 (iL (y4.getD (i+1) 0) (chunk numbers i)))∈(y4.zip (gp numbers y4 y4.length)).map λx=>(x.1,eG x.1 2 x.2):=(by refine mem_map.2 ⟨(p,iL (y4.getD (i+1) 0) (chunk numbers i)),?_,rfl⟩;refine yE (i:=i) ?_;rw[List.getElem?_zip_eq_some];exact⟨E,by rw[GQ,iP hi]⟩);have ai:=C.rq _ (yE E);rw[R p oJ];exact v1 _ u
def qwc(I:uA D)(J:kY s)(h:(jD D s).2=0): (jD D s).1.down=false/\(jD D s).1.Q7=[]/\view (jD D s).1 (s.1%2)=eG (s.1%2) 1 (gr s.1 s.2)/\∀m,0<=m->m≠s.1%2->view (jD D s).1 m=view D m:=by obtain⟨R,U,V⟩:=AD (show (andThen (eA D (gD s).1 (gD s).2) fV).2=0 from h);obtain⟨d1,a1,_,u⟩:=qmO I R;obtain⟨G,w2,C⟩:=qoV a1 U;rw[show jD D s=fV (eA D (gD s).1 (gD s).2).1 from V];rw[J.gD] at u C G w2⊢;refine⟨G,w2,by rw[C _ oJ,u,iP rfl],λm hm E=>by rw[C m hm,u,iN E]⟩
def Di(h:jv M=some (y4,Q9)): ∃k,k=eK (M.Q1.length+(M.J7++M.Q5).length)/\k<=M.Q1.length/\y4=M.Q1.take k/\Q9=gA ((M.J7++M.Q5)++M.Q1.drop k):=by unfold jv at h;split at h;cases h;rename_i C;have u:=yN h;exact⟨_,rfl,oJ,(H9 Prod.fst u).symm,(H9 Prod.snd u).symm⟩
def dV.Wf.pL(h:M.Wf)(k:Nat):(M.Q1.take k++((M.J7++M.Q5)++M.Q1.drop k)).Nodup:=by
 have u:(M.Q1++(M.J7++(M.Q5++M.J8.map (·.1)))).Perm ((M.Q1.take k++((M.J7++M.Q5)++M.Q1.drop k))++M.J8.map (·.1)):=by
  conv=>lhs;lhs;rw[<- xD k M.Q1]
  rw[<- zV M.J7];have:(M.Q1.drop k++((M.J7++M.Q5)++M.J8.map (·.1))).Perm (((M.J7++M.Q5)++M.Q1.drop k)++M.J8.map (·.1)):=by rw[<- zV];exact perm_append_comm.append_right _
  rw[zV,zV (M.Q1.take k)];exact this.append_left _
 exact (u.nodup_iff.1 h.nodup).sublist (sublist_append_left _ _)
def CU(E:M.Wf)(h:jv M=some (y4,Q9)):lD (M.j9.2.getD 0 0) Q9 y4:=by obtain⟨k,I,G,rfl,rfl⟩:=Di h;have C:=E.pL k;rw[yL] at C;have J:∀x∈(M.J7++M.Q5)++M.Q1.drop k,2<=x/\x<M.j9.2.getD 0 0:=λx u=>E.range x (by simp only[zD] at u⊢;rcases u with (u|u)|u;exact .inr (.inl u);exact .inr (.inr (.inl u));exact .inl (yT u));refine⟨AV _,λx u=>J x (wR.1 u),λx u=>E.range x (zH _ (yU u)),C.1,λx u R=>C.2.2 x u x (wR.1 R) rfl,?_⟩;have U:=(Gl C.2.1).length_eq;have V:=D8 (n:=M.Q1.length+(M.J7++M.Q5).length);rw[<- I] at V;rw[U,zF,yB,yK,xQ G];omega
def qoA(R:M.Wf)(h:jv M=some (y4,Q9)):∀x∈M.J8.map (·.1),x∉y4/\x∉Q9:=by obtain⟨k,hk,U,rfl,rfl⟩:=Di h;intro x E;have C:=R.nodup;rw[yL] at C;have G:=C.2.1;rw[yL] at G;have I:=G.2.1;rw[yL] at I;have J:x∉M.Q1:=λu=>C.2.2 x u x (zI _ (zI _ E)) rfl;have V:x∉M.J7:=λu=>G.2.2 x u x (zI _ E) rfl;have a3:x∉M.Q5:=λu=>I.2.2 x u x E rfl;refine⟨λu=>J (yU u),λu=>?_⟩;have u:=wR.1 u;simp only[zD] at u;rcases u with (u|u)|u;exact V u;exact a3 u;exact J (yT u)
def FB(J8:List (IA)):(kM J8).map (·.1)=gA (J8.map (·.1)):=by rw[kM,map_map];exact map_id _
def Dd{β:Type}:∀ {l:List (Int×β)} {e:Int×β},(l.map (·.1)).Nodup->e∈l->∃i,look e.1 l=some (i,e.2)
 | p::r,e,C,u=>by rw[xN,nodup_cons] at C;simp only[look];rcases zG.1 u with rfl|u;exact⟨0,by rw[iP rfl]⟩;have E:e.1≠p.1:=λh=>C.1 (h▸zY u);obtain⟨i,G⟩:=Dd C.2 u;exact⟨i+1,by rw[iN E,G];rfl⟩
def qvA{J8:List (IA)}(u:(J8.map (·.1)).Nodup){e:IA}(h:e∈J8):(e.1,eG e.1 e.2.1 e.2.2)∈kM J8:=by refine mem_map.2 ⟨e.1,wR.2 (zY h),?_⟩;obtain⟨i,C⟩:=Dd u h;rw[jY,C]
structure uC (D D':dJ) (M:dV) (y4 Q9:Il) (next:nI):Prop where
 down:D'.down=false
 Q7:D'.Q7=[]
 listed:pp D' Q9 y4
 Hw:view D' (next.1%2)=eG (next.1%2) 1 (gr next.1 next.2)
 J8:∀ e∈M.J8,view D' e.1=eG e.1 e.2.1 e.2.2
 rest:∀ m,0<=m->m∉M.J8.map (·.1)->m∉y4->m≠next.1%2->view D' m=view D m
def dV.Wf.y8(h:M.Wf):(M.J8.map (·.1)).Nodup:=h.nodup.sublist (((sublist_append_right _ _).trans (sublist_append_right _ _)).trans (sublist_append_right _ _))
def dV.Wf.J6(h:M.Wf):∀x∈M.J8.map (·.1),2<=x/\x<M.j9.2.getD 0 0:=λx u=>h.range x (zI _ (zI _ (zI _ u)))
def qtG(ha:uA D)(hd:D.down=false)(G:M.Wf)(u:jv M=some (y4,Q9))(hs:kY next)(h:(gF D M.J8 y4 Q9 next).2=0): uC D (gF D M.J8 y4 Q9 next).1 M y4 Q9 next:=by
 obtain⟨h1,h2,h3⟩:=AD (show (andThen (fE (kM M.J8) D) λD=>andThen (fl D Q9 y4) λD=>jD D next).2=0 from h);obtain⟨h4,h5,h6⟩:=AD h2;have I:((kM M.J8).map (·.1)).Nodup:=(by rw[FB];exact wo (AV _));obtain⟨d1,a1,v1,u1⟩:=DU ha hd h1 I;have C:=CU G u;obtain⟨d2,w2,l2,U⟩:=qtb a1 d1 C h4;obtain⟨d3,w3,p3,J⟩:=qwc (qug w2) hs h5;have e:gF D M.J8 y4 Q9 next=jD (fl (fE (kM M.J8) D).1 Q9 y4).1 next:=h3.trans h6;rw[e];have au:next.1%2=0\/next.1%2=1:=by omega
 refine⟨d3,w3,λi p V=>?_,p3,λx R=>?_,λm hm h7 h8 h9=>?_⟩;have:=C.rq p (yE V);rw[J p oJ oJ];exact l2 i p V;have hk:=G.J6 x.1 (zY R);have hf:=qoA G u x.1 (zY R);rw[J _ oJ oJ,U _ oJ hf.1];exact v1 _ (qvA G.y8 R);rw[J m hm h9,U m hm h8];refine u1 m λE=>h7 ?_;rw[FB] at E;exact wR.1 E
def eP.uB(h:eP D)(E:M.Wf)(U:M.j9.2.getD 0 0=D.size)(h8:8<=D.size)(u:jv M=some (y4,Q9))(V:kY next): (gF D M.J8 y4 Q9 next).2=0/\eP (gF D M.J8 y4 Q9 next).1/\(gF D M.J8 y4 Q9 next).1.size=D.size:=by
 have I:((kM M.J8).map (·.1)).Nodup:=(by rw[FB];exact wo (AV _));obtain⟨D1,e1,q1,s1,_⟩:=h.writes (l:=kM M.J8) (λx hx=>by obtain⟨n,G,rfl⟩:=mem_map.1 hx;have G:=wR.1 G;have hk:=E.J6 n G;refine⟨by dsimp only;omega,wM ?_⟩;obtain⟨e,J,rfl⟩:=mem_map.1 G;obtain⟨i,hi⟩:=Dd E.y8 J;rw[jY,hi];exact (E.body e J).2.1) I;have C:=CU E u;rw[U,<- s1] at C;obtain⟨D2,e2,q2,s2,_⟩:=q1.spread C;obtain⟨R,e3,q3,s3,_⟩:=q2.tX V oJ;have:gF D M.J8 y4 Q9 next=(R,0):=by rw[gF,e1,andThen_ok,e2,andThen_ok,e3]
 rw[this];exact⟨rfl,q3,by show R.size=D.size;omega⟩
def dV.all (M:dV):Il:=M.Q1++(M.J7++(M.Q5++M.J8.map (·.1)))
def FA{t:Int}{ov:Bool}(h:lD (s.2.getD 0 0) numbers y4)(E:s.2.getD 0 0<=4096)(C:∀x∈s.2,gE x):(ij s y4 numbers t ov numbers).Wf where
 n4:=E
 u32:=C
 Q2:=λx u=>C x (yT u)
 cL:=h.cU
 Q9:=h.nu
 cS:=h.cU
 qA:=.nil
 nodup:=by show (numbers++([]++(y4++[]))).Nodup;rw[xH,xG,yL];exact⟨wo h.cU,h.nodup,λx u y G e=>h.J3 y G (e▸u)⟩
 range:=λx u=>by have u:x∈numbers++([]++(y4++[])):=u;rw[xH,xG,zD] at u;rcases u with u|u;exact h.nu x u;exact h.rq x u
 body:=λe I=>by cases I
def qAl:tW.Wf:=by
 have u:∀x∈gy.2,gE x:=λx h=>by
  have:=eq_of_mem_replicate (show x∈List.replicate 27 (0:Int) from h);subst this;exact⟨oM,oM⟩
 exact FA (s:=gy) (y4:=[]) (numbers:=[]) ⟨.nil,(λx h=>by cases h),(λx h=>by cases h),.nil,(λx h=>by cases h),oM⟩ oM u
def qs7{β:Type}{v:β}{l:List (Int×β)}(h:n∉l.map (·.1)):gM n v l=l++[(n,v)]:=by rw[gM,uv.2 h]
def qqZ{β:Type}{v:β}{l:List (Int×β)}(h:n∈l.map (·.1)):(gM n v l).map (·.1)=l.map (·.1):=by
 unfold gM;cases C:look n l with
 | none=>exact absurd h (uv.1 C)
 | some q=>
  dsimp only;rw[map_set];apply ext_getElem?;intro j;rw[List.getElem?_set];by_cases hj:q.1=j;subst hj;have E:=(tg C).1;obtain⟨u,G⟩:=zP.1 E;simp[u,G];rw[iN hj]
def qqb{β:Type}{l:List (Int×β)}(h:n∈l.map (·.1)):(l.map (·.1)).Perm (n::(jr n l).map (·.1)):=by
 unfold jr;cases E:look n l with
 | none=>exact absurd h (uv.1 E)
 | some q=>
  dsimp only;have G:=(tg E).1;obtain⟨u,I⟩:=zP.1 G;rw[uV];have J:(l.map (·.1))[q.1]'(oP u)=n:=(by simp[I]);have C:q.1<(l.map (·.1)).length:=(oP u);have R:l.map (·.1)=(l.map (·.1)).take q.1++n::(l.map (·.1)).drop (q.1+1):=by rw[<- J,<- zX C,xD]
  rw[eraseIdx_eq_take_drop_succ];conv=>lhs;rw[R]
  exact perm_middle
def xo:gc M n=true↔(2<=n/\n<M.j9.2.getD 0 0)/\n∉M.all:=by unfold gc dV.all;simp only[yA,zT,H5,H6,Option.isNone_iff_eq_none,uv,zD,not_or];constructor;rintro⟨⟨⟨⟨⟨G,I⟩,h⟩,u⟩,C⟩,E⟩;exact⟨⟨oJ,oJ⟩,u,C,h,E⟩;rintro⟨⟨G,I⟩,h,u,C,E⟩;exact⟨⟨⟨⟨⟨oJ,oJ⟩,C⟩,h⟩,u⟩,E⟩
def qxs{r:Il}{v:Iz}(u:M.Q1=n::r)(E:M.Wf):(r++(M.J7++(M.Q5++(gM n v M.J8).map (·.1)))).Perm M.all:=by
 have h:n∉M.J8.map (·.1):=λG=>by have C:=E.nodup;rw[u,xI,nodup_cons] at C;exact C.1 (zI _ (zI _ (zI _ G)))
 rw[qs7 h,xM,dV.all,u];show (r++(M.J7++(M.Q5++(M.J8.map (·.1)++[n])))).Perm (n::(r++(M.J7++(M.Q5++M.J8.map (·.1)))));rw[<- zV M.Q5,<- zV M.J7,<- zV r];exact HO n _
def FX{M':dV}(h:M.Wf)(u:M'.j9=M.j9)(C:M'.Q9=M.Q9)(G:∀x∈M'.Q2,gE x)(E:M'.all.Perm M.all)(I:M'.Q1.Pairwise (· < ·))(J:M'.J7.Pairwise (· < ·))(R:∀e∈M'.J8,(0<=e.2.1/\e.2.1<256)/\e.2.2.length<=500/\eI e.2.2):M'.Wf where
 n4:=by rw[u];exact h.n4
 u32:=by rw[u];exact h.u32
 Q2:=G
 cL:=by rw[C];exact h.cL
 Q9:=by rw[C,u];exact h.Q9
 cS:=I
 qA:=J
 nodup:=E.nodup_iff.2 h.nodup
 range:=λx U=>by rw[u];exact h.range x (E.mem_iff.1 U)
 body:=R
def quI{kind:Int}(u:M.Wf)(G:0<=kind/\kind<256)(I:eI body):(fZ M kind body).2.Wf/\(fZ M kind body).2.all.Perm M.all:=by
 unfold fZ;split;exact⟨u,.refl _⟩;split;exact⟨u,.refl _⟩;rename_i R;split;exact⟨u,.refl _⟩;rename_i n r C;have E:=qxs (v:=(kind,body)) C u;refine⟨FX u rfl rfl u.Q2 E ?_ u.qA λe J=>?_,E⟩;have:=u.cS;rw[C,yI] at this;exact this.2;rcases Ci J with h|h;exact u.body e h;rw[h];exact⟨G,by show body.length<=500;omega,I⟩
def qxI{kind:Int}(u:M.Wf)(E:0<=kind/\kind<256)(G:eI body):(jl M n kind body).2.Wf/\(jl M n kind body).2.all.Perm M.all:=by
 unfold jl;split;exact⟨u,.refl _⟩;split;exact⟨u,.refl _⟩;rename_i q I;split;exact⟨u,.refl _⟩;rename_i U;have J:n∈M.J8.map (·.1):=mem_map.2 ⟨_,(tg I).2,rfl⟩;have C:({ M with J8:=gM n (kind,body) M.J8 }:dV).all=M.all:=by show M.Q1++(M.J7++(M.Q5++(gM n (kind,body) M.J8).map (·.1)))=_;rw[qqZ J];rfl
 refine⟨FX u rfl rfl u.Q2 (by rw[C]) u.cS u.qA λe R=>?_,by rw[C]⟩;rcases Ci R with h|h;exact u.body e h;rw[h];exact⟨E,by show body.length<=500;omega,G⟩
def qup(u:M.Wf):(fq M n).2.Wf:=by
 unfold fq;split;exact u;split;rename_i q J;have R:n∈M.J8.map (·.1):=mem_map.2 ⟨_,(tg J).2,rfl⟩;have U:=u.nodup;have G:n∉M.Q1:=λh=>by rw[yL] at U;exact U.2.2 n h n (zI _ (zI _ R)) rfl
 have E:({ M with J8:=jr n M.J8,Q1:=ins n M.Q1 }:dV).all.Perm M.all:=by
  show (ins n M.Q1++(M.J7++(M.Q5++(jr n M.J8).map (·.1)))).Perm (M.Q1++(M.J7++(M.Q5++M.J8.map (·.1))));refine ((wn G).append_right _).trans ?_;have V:=qqb R;have h2:(M.J7++(M.Q5++M.J8.map (·.1))).Perm (n::(M.J7++(M.Q5++(jr n M.J8).map (·.1)))):=by refine ((V.append_left M.Q5).append_left M.J7).trans ?_;rw[<- zV,<- zV];exact perm_middle
  exact (perm_middle.symm.trans (h2.symm.append_left M.Q1))
 exact FX u rfl rfl u.Q2 E (A4 u.cS) u.qA λe he=>u.body e (qsE he);rename_i J;split;rename_i C;have C:=xo.1 C;have I:n∉M.J7:=λh=>C.2 (zI _ (zH _ h));have E:({ M with J7:=ins n M.J7 }:dV).all.Perm (n::M.all):=by show (M.Q1++(ins n M.J7++(M.Q5++M.J8.map (·.1)))).Perm (n::(M.Q1++(M.J7++(M.Q5++M.J8.map (·.1)))));exact (((wn I).append_right _).append_left M.Q1).trans perm_middle
 refine { n4:=u.n4,u32:=u.u32,Q2:=u.Q2,cL:=u.cL,Q9:=u.Q9,cS:=u.cS,qA:=A4 u.qA,nodup:=E.nodup_iff.2 (nodup_cons.2 ⟨C.2,u.nodup⟩),range:=λx hx=>?_,body:=u.body };rcases zG.1 (E.mem_iff.1 hx) with rfl|h;exact C.1;exact u.range x h;exact u
def quM{t:Int}{ov:Bool}(u:M.Wf)(h:jv M=some (y4,Q9))(C:s.2.getD 0 0=M.j9.2.getD 0 0)(E:∀x∈s.2,gE x):(ij s y4 Q9 t ov Q9).Wf:=
 FA (by rw[C];exact CU u h) (by rw[C];exact u.n4) E
def GZ(u:M.Wf)(h:jv M=some (y4,Q9)):∀x∈(fO M y4 Q9).2,gE x:=by
 have E:=CU u h;have G:=u.n4;intro x C;simp only[fO,zD,zG,xW,or_false] at C;rcases C with (rfl|rfl|rfl)|C;exact qsn u.u32 0;cases y4 with
 | nil=>exact⟨oM,oM⟩
 | cons a r=>
  have:=E.rq a oL
  show 0<=a/\a<4294967296;omega
 exact vE _;exact u.Q2 x C
def qy1(u:M.Wf)(h:jv M=some (y4,Q9))(C:M.Q2.length=24)(E:0<=M.j9.1/\M.j9.1<4611686018427387903):kY (fO M y4 Q9)/\(fO M y4 Q9).1=M.j9.1+1:=by have e:wrap .u64 (M.j9.1+1)=M.j9.1+1:=ws _ oJ;refine⟨⟨?_,?_,GZ u h⟩,e⟩;show 0<=wrap .u64 (M.j9.1+1)/\wrap .u64 (M.j9.1+1)<_;rw[e];omega;show ([M.j9.2.getD 0 0,y4.headD 0,wrap .u32 (Q9.length:Int)]++M.Q2).length=27;rw[zF,C];rfl
def qwJ(h:M.Wf):(gC D M).1.2.Wf:=by unfold gC;split;exact h;split;exact h;split;exact h;rename_i x u;obtain⟨y4,Q9⟩:=x;split;exact qAl;exact quM h u rfl (GZ h u)
section
def Aa:Il->Il->Bool
 | a::b::c::r,h::b'::u::r'=>bif (bif a==h then bif b==b' then bif c==u then true else false else false else false) then Aa r r' else false
 | _,_=>true
def quq:∀(n:Nat) (l l':Il),l.length=3*n->l'.length=3*n->Aa l l'=decide (l=l')
 | 0,l,l',h,u=>by have C:l=[]:=HW oJ;have E:l'=[]:=HW oJ;subst C E;simp[Aa]
 | n+1,l,l',h,u=>by
  match l,l',h,u with
  | a::b::c::r,G::b'::I::r',h,u=>
   have:=quq n r r' (by simp at h;omega) (by simp at u;omega);rw[Aa,this];by_cases C:a=G<;>by_cases E:b=b'<;>by_cases h3:c=I<;>by_cases h4:r=r'<;>simp[C,E,h3,h4]
  | [],_,h,_=>simp at h
  | [_],_,h,_=>simp at h;omega
  | [_,_],_,h,_=>simp at h;omega
  | _::_::_::_,[],_,h=>simp at h
  | _::_::_::_,[_],_,h=>simp at h;omega
  | _::_::_::_,[_,_],_,h=>simp at h;omega
abbrev Gt:If:=183
def qBm(a0 a1 a2 a3 a4 a5 a6 a7 a8 a9 h u C E G I J R U V aa ab ac ad b0 b1 b2 b3 b4 b5 b6 b7 b8 b9 ae af ag ah ai aj ak al am an ao ap aq ar:Int): ug prog 3 Gt (.agg (([a0,a1,a2,a3,a4,a5,a6,a7,a8,a9,h,u,C,E,G,I,J,R,U,V,aa,ab,ac,ad]:Il).map (Value.int .u32)).toArray) (.agg (([b0,b1,b2,b3,b4,b5,b6,b7,b8,b9,ae,af,ag,ah,ai,aj,ak,al,am,an,ao,ap,aq,ar]:Il).map (Value.int .u32)).toArray) = some (Aa [a0,a1,a2,a3,a4,a5,a6,a7,a8,a9,h,u,C,E,G,I,J,R,U,V,aa,ab,ac,ad] [b0,b1,b2,b3,b4,b5,b6,b7,b8,b9,ae,af,ag,ah,ai,aj,ak,al,am,an,ao,ap,aq,ar]):=by kernel_rfl
def qxo(h:l.length=24):∃a0 a1 a2 a3 a4 a5 a6 a7 a8 a9 u C E G I J R U V aa ab ac ad ae,l=[a0,a1,a2,a3,a4,a5,a6,a7,a8,a9,u,C,E,G,I,J,R,U,V,aa,ab,ac,ad,ae]:=
 match l,h with
 | [a0,a1,a2,a3,a4,a5,a6,a7,a8,a9,u,C,E,G,I,J,R,U,V,aa,ab,ac,ad,ae],_=>⟨_,_,_,_,_,_,_,_,_,_,_,_,_,_,_,_,_,_,_,_,_,_,_,_,rfl⟩
def qv8{x y:Operand}{K:Bool->Prop}(u:l.length=24)(h:l'.length=24)(k:K (decide (l=l'))): eW [gU.one Cell.bool] (λw'=>(do eqGuard .eql Gt x y (.agg (l.map (Value.int .u32)).toArray) (.agg (l'.map (Value.int .u32)).toArray);binOp .eql Gt (.agg (l.map (Value.int .u32)).toArray) (.agg (l'.map (Value.int .u32)).toArray):Sem Ie).run prog w') w K:=by refine Hi 3 oM (Aa l l') ?_ oK (by rw[quq 8 l l' u h];exact k);obtain⟨a0,a1,a2,a3,a4,a5,a6,a7,a8,a9,C,E,G,I,J,R,U,V,aa,ab,ac,ad,ae,af,rfl⟩:=qxo u;obtain⟨b0,b1,b2,b3,b4,b5,b6,b7,b8,b9,ag,ah,ai,aj,ak,al,am,an,ao,ap,aq,ar,au,av,rfl⟩:=qxo h;exact qBm ..
def qxt{f:List (Int×Ie)}{K:Int->Prop}(h:iG i8 w mb f)(k:K f.length): eW [gU.one .i] (λw'=>(Builtin.len_ #[tN] 3 #[Value.map (some mb)]).run prog w') w K:=by
 obtain⟨u,c,C,E,_⟩:=h;have G:(u.size:Int)=f.length:=by
  have:=H9 List.length E;simp at this;omega
 refine qu (ts:=[gU.one .i]) (u.size:Int) ?_ (by rw[G];exact k);have:=run_len_map (P:=prog) (w:=w) tN 3 mb u c oK C;exact this
section
variable {db:Option Addr} {j9:nI} {sl sn:Sl} {x6:Int} {Q3:Bool} {fb defb mb:Nat} {Q2:Il} {wk:List Ie}
def Cj(u:j9.2.length=27)(C:Q2.length=24):((fw db j9 sl sn x6 Q3 fb defb mb Q2).toList.drop 36).take 24=Q2.map (Value.int .u32):=by have h:((Value.pointer db::eS j9.1 j9.2)++mT sl sn x6 Q3 fb defb mb).length=36:=(by rw[zF,rL u];rfl);show (((Value.pointer db::eS j9.1 j9.2)++mT sl sn x6 Q3 fb defb mb++Q2.map (Value.int .u32)).drop 36).take 24=_;rw[<- h,HV (zM _),drop_length,xH,zS (by rw[zK,C];exact zM _)]
def qxB(h:j9.2.length=27):((fw db j9 sl sn x6 Q3 fb defb mb Q2).toList.drop 5).take 24=(j9.2.drop 3).map (Value.int .u32):=by rw[<- Ai];exact GS h
def qv1{h:nI}(C:j9.2.length=27)(u:h.2.length=27):dS (fj db j9 sl sn x6 Q3 wk) 1 (eS h.1 h.2)=fj db h sl sn x6 Q3 wk:=by
 have:=se (A:=[Value.pointer db]) (X:=eS j9.1 j9.2) (Y:=eS h.1 h.2) (Z:=([sl.v,sn.v,.i x6,.bool Q3]:List Ie)++wk) (by rw[pS C,pS u]);simpa[fj] using this
end
def qvr{q a c:Int}(E:Q2.length=24)(w:Ic):(Instr.build 185 #[(0,.w q),(1,.u a),(3,.u c),(4,.agg (Q2.map (Value.int .u32)).toArray)]).run prog w=.ok (.agg (eS q ([a,0,c]++Q2)).toArray) w:=by
 obtain⟨z,G,h⟩:=yS.1 t5;have C:z.cells=(eS 0 (zs 27)).toArray:=(by rw[<- h]);refine xv (parts:=[(0,.w q),(1,.u a),(3,.u c),(4,.agg (Q2.map (Value.int .u32)).toArray)]) (offs:=#[(0,1),(1,1),(2,1),(3,1),(4,24)]) G oK (λw=>oK) ?_ w;have I:(Value.agg (Q2.map (Value.int .u32)).toArray).cells.size=24:=(by show (Q2.map (Value.int .u32)).toArray.size=24;simp[E]);rw[C,qo (o:=0) (s:=1) rfl rfl (zO rfl),qo (o:=1) (s:=1) rfl rfl (zO rfl),qo (o:=3) (s:=1) rfl rfl (zO rfl),qo (o:=4) (s:=24) rfl I (zO rfl)];refine H9 some ?_;have:=se (A:=[.w q,.u a,.u 0,.u c]) (X:=(zs 24).map (Value.int .u32)) (Z:=[]) (Y:=Q2.map (Value.int .u32)) (by simp[E,ot]);refine Eq.trans ?_ (this.trans ?_);rfl;simp[eS]
def qvp(w:Ic):(Instr.build rh #[(5,.bool true)]).run prog w=.ok (.agg (fj none gy dH dH 0 true (e9 none none none (zs 24)))) w:=by refine xv (parts:=[(5,.bool true)]) (offs:=#[(0,1),(1,28),(29,1),(30,1),(31,1),(32,1),(33,27)]) pgZ oK (λw=>oK) ?_ w;rw[qo (o:=32) (s:=1) rfl rfl (zO rfl)];rfl
def pr (dbk:Nat) (M:dV):Option Addr:=if M.Q3 then none else pW dbk
structure HC (w:Ic) (dbk pb:Nat) (FD F:Ik) (D:dJ) (M:dV) (k:Nat):Prop where
 cN:eQ w dbk FD D
 lim:lK D k
 x8:eB w FD pb (pr dbk M) F M
def Bb (S:Ik) (w w':Ic) (S':Ik):Prop:=Fr S w w'/\∀b∈S',b∈S\/w.heap.size<=b
def qAj:((l.map (Value.int .u32)).all Value.oneCell')=true:=by rw[HX];intro v h;obtain⟨x,_,rfl⟩:=mem_map.1 h;rfl
def qzr:((e9 x y m Q2).all Value.oneCell')=true:=by rw[e9,all_append,qAj];rfl
def qAs(h:(wk.all Value.oneCell')=true):((fj db j9 sl sn x6 Q3 wk).toList.all Value.oneCell')=true:=by show ((((Value.pointer db::eS j9.1 j9.2)++([sl.v,sn.v,.i x6,.bool Q3]:List Ie))++wk).all Value.oneCell')=true;rw[all_append,all_append,h,all_cons,DC];rfl
def eB.tl{X':Ik}(h:eB w X pb db F M)(C:∀b∈X',b∈X):eB w X' pb db F M:=
 h.pd (.refl X w) (λb u=>h.nH b (C b u)) (λb u=>.inl (C b u))
def qts(hdisk:eQ w dbk FD D)(hlim:lK D k)(hpag:eB w X pb (pr dbk M) F M)(hsub:∀b∈FD,b∈X)(hW:M.Wf)(hk6:k+5000<=1000000)(ht:0<=M.x6/\M.x6<=1000000000)(hv:Hv w)(hg:HG∉FD)(kk:∀FD' F' w',eQ w' dbk FD' (gC D M).1.1->lK (gC D M).1.1 (k+5000)->eB w' (FD'++X) pb (pr dbk (gC D M).1.2) F' (gC D M).1.2->Bb (FD++F) w w' (FD'++F')->K (gC D M).2 w'): cW 72 [dG pb] di w K:=by
 have hall:=dV.Wf.all M hW;have same:∀ {e:Int} {w':Ic},gC D M=((D,M),e)->Fr [] w w'->K e w':=by
  intro e w' he hf;have:=kk FD F w' (by rw[he];exact hdisk.q7 hf) (by rw[he];exact hlim.mono oJ) (by rw[he];exact (hpag.q7 hf).tl λb hb=>(zD.1 hb).elim (hsub b) id) ⟨hf.mono (λb hb=>by cases hb),λb hb=>.inl hb⟩;rw[he] at this;exact this
 have hpag0:=hpag;obtain⟨fb,defb,mb,sl,sn,F1,F2,fs,rfl,hx⟩:=hpag;refine qh6 (p:=pW pb)<|fu (io (c:=.bool) hx.cell M.Q3 (vw hx.Q8) ?_);refine dX (λhc=>same (by rw[gC,iP hc]) (.refl _ _)) λhc=>?_;have ho:¬M.Q3=true:=(by rw[hc];decide);have hof:M.Q3=false:=hc;have hdb:pr dbk M=pW dbk:=iN ho;rw[hdb] at hx hpag0;have hxd:=hx.q7 (Fr.refl [] w).drew;have hfl:fs.length=M.J8.length:=(by rw[hx.J8];simp);have hsr:(M.j9.2.drop 3).length=24:=(by rw[yB,hx.Q8]);refine gP (λb w'=>b=decide (M.J8=[]/\M.J7=[]/\M.Q2=M.j9.2.drop 3)/\w'=w.drew) ?_ ?_;refine fu (io (w:=w.drew) (c:=.map) hxd.cell (some mb) (sS hx.Q8) ?_);refine qxt hxd.map ?_;rw[zK,hfl];apply dX<;>intro hc1;have h1:M.J8=[]:=HW (by have:(M.J8.length:Int)=0:=(oP hc1);omega);refine fu (io (w:=w.drew) (c:=.ptr) hxd.cell (pW defb) (Cx hx.Q8) ?_);refine qt5 hxd.J7 ?_;apply dX<;>intro hc2;have h2:M.J7=[]:=HW (by have:(M.J7.length:Int)=0:=(oP hc2);omega);refine fu (nP (b:=pb) (off:=36) hxd.cell (M.Q2.map (Value.int .u32)) (by rw[zK,hx.x7]) (Cj hx.Q8 hx.x7) ?_);refine fu (nP (b:=pb) (off:=5) hxd.cell ((M.j9.2.drop 3).map (Value.int .u32)) (by rw[zK,hsr]) (qxB hx.Q8) ?_);refine qv8 hx.x7 hsr ⟨?_,rfl⟩;simp[h1,h2];have h2:M.J7≠[]:=λe=>by rw[e] at hc2;simp at hc2
 exact⟨by simp[h2],rfl⟩;have h1:M.J8≠[]:=λe=>by rw[e] at hc1;simp at hc1
 exact⟨by simp[h1],rfl⟩;rintro b w1 ⟨rfl,rfl⟩;have f01:Fr [] w w.drew:=(Fr.refl [] w).drew;refine dX (λhc=>same (by rw[gC,iN ho,iP (zC hc)]) f01) λhc=>?_;have hne:=zB hc;refine qyf (hpag0.q7 f01) hW (λhpl w2 f2=>?_) λsp sm y4 Q9 w2 hpl f2 hrd=>?_;exact HK rfl<|same (by rw[gC,iN ho,iN hne,hpl]) (f01.trans f2);refine HM rfl ?_;have hcm:gC D M=if (gF D M.J8 y4 Q9 (fO M y4 Q9)).2≠0 then (((gF D M.J8 y4 Q9 (fO M y4 Q9)).1,tW),(gF D M.J8 y4 Q9 (fO M y4 Q9)).2)
  else (((gF D M.J8 y4 Q9 (fO M y4 Q9)).1,ij (fO M y4 Q9) y4 Q9 (M.x6+1) false Q9),0):=by rw[gC,iN ho,iN hne,hpl]
 have hplan:=hpl;unfold jv at hplan;split at hplan;cases hplan;rename_i hroom;have hpn:=yN hplan;have hpg:y4=M.Q1.take (eK (M.Q1.length+(M.J7++M.Q5).length)):=(H9 Prod.fst hpn).symm;have hnm:Q9=gA ((M.J7++M.Q5)++M.Q1.drop (eK (M.Q1.length+(M.J7++M.Q5).length))):=(H9 Prod.snd hpn).symm;have hplf:y4.length<=M.Q1.length:=(by rw[hpg,yK];omega);have hpl4:y4.length<=4096:=oJ;have hnl4:Q9.length<=4096:=by
  have:=qoc ((M.J7++M.Q5)++M.Q1.drop (eK (M.Q1.length+(M.J7++M.Q5).length)));rw[<- hnm] at this;simp only[zF,yB] at this;omega
 have hpm:∀x∈y4,2<=x/\x<M.j9.2.getD 0 0:=λx hx=>by rw[hpg] at hx;exact hW.range x (zH _ (yU hx))
 have hblk4:=hW.n4;have hpu:∀x∈y4,gE x:=λx hx=>by have:=hpm x hx;constructor<;>omega
 have hns:Q9.Pairwise (· < ·):=(by rw[hnm];exact AV _);have f02:=f01.trans f2;have hx2:=hx.q7 f02;have hx2d:=hx2.q7 (Fr.refl [] w2).drew;refine fu (io (w:=w2.drew) (c:=.w) hx2d.cell M.j9.1 qxA ?_);refine fu (io (w:=w2.drew) (c:=.u) hx2d.cell (M.j9.2.getD 0 0) (Gu hx.Q8 0 oM) ?_);refine fu (nP (b:=pb) (off:=36) hx2d.cell (M.Q2.map (Value.int .u32)) (by rw[zK,hx.x7]) (Cj hx.Q8 hx.x7) ?_);have hmlen:sm.len=Q9.length:=(hrd [] oL).2.1;refine qu (ts:=[gU.jX]) (eS (wrap .u64 (M.j9.1+1)) ([M.j9.2.getD 0 0,0,wrap .u32 (Q9.length:Int)]++M.Q2)) (by rw[<- hmlen];exact qvr hx.x7 _) ?_;have hplen:sp.len=y4.length:=(hrd [] oL).1.1;refine oI (oE [] w2.drew) t5 λr w3 e3 ho3=>?_;have hx3:=hx2d.q7 ho3.fr;refine mQ (vv hx3.cell _ 36 0 (by show _=_;rw[zK,hx.x7];exact Cj hx.Q8 hx.x7)) (by show _=_;simp only[Addr.q9];rw[jp hx3.cell];exact Gu hx.Q8 0 oM) (by show _=_;rw[jp hx3.cell];exact qxA) ?_;have l27:([M.j9.2.getD 0 0,0,wrap .u32 (Q9.length:Int)]++M.Q2).length=27:=(by rw[zF,hx.x7];rfl);have n27:(fO M y4 Q9).2.length=27:=(by show ([M.j9.2.getD 0 0,y4.headD 0,wrap .u32 (Q9.length:Int)]++M.Q2).length=27;rw[zF,hx.x7];rfl);have hG:∀b∈FD++pb::mb::(F1++F2),b<w.heap.size:=λb hb=>by rcases zD.1 hb with h|h;exact hdisk.lt b h;exact hx.lt b h
 have hrdG:=hrd (FD++pb::mb::(F1++F2)) hG;refine Al ho3 0 rfl rfl l27 λw4 ho4=>gP (λ_ w'=>dR [] w2.drew w' [(r,.c (eS (fO M y4 Q9).1 (fO M y4 Q9).2).toArray 185)]) ?_ ?_;apply dX<;>intro hc;have hp0:0<y4.length:=(by have:=zC hc;dsimp only at this;omega);have f24:Fr [] w2 w4:=(Fr.refl [] w2).drew.trans ho4.fr;refine Rd.at ((hrd [] oL).1.q7 f24) 0 rfl (zA hp0)<|oG ho4 0 rfl (eS (fO M y4 Q9).1 (fO M y4 Q9).2).toArray ?_ rfl (by rw[CW l27];exact zO rfl) λw5 ho5 f5=>ho5;have hh:y4.headD 0=y4[0]:=by
  cases y4 with
  | nil=>simp at hp0
  | cons a r=>rfl
 show dS (eS _ ([M.j9.2.getD 0 0]++0::(wrap .u32 (Q9.length:Int)::M.Q2))).toArray 2 [.u y4[0]]=_;have:=qoP (q:=wrap .u64 (M.j9.1+1)) (x:=0) (y:=y4[0]) (A:=[M.j9.2.getD 0 0]) (Z:=wrap .u32 (Q9.length:Int)::M.Q2);refine this.trans ?_;rw[fO,hh];rfl;have hp0:y4=[]:=HW (by have:=zB hc;dsimp only at this;omega);have e:eS (fO M y4 Q9).1 (fO M y4 Q9).2=eS (wrap .u64 (M.j9.1+1)) ([M.j9.2.getD 0 0,0,wrap .u32 (Q9.length:Int)]++M.Q2):=by rw[fO,hp0];rfl
 rw[e];exact ho4;rintro _ w5 ho5;refine uM (ho5.at (i:=0) rfl) n27 ?_;have f25:Fr [] w2 w5:=(Fr.refl [] w2).drew.trans ho5.fr;have f05:=f02.trans f25;have hd5:=hdisk.q7 f05;have hp5:=hpag0.q7 f05;have hq0:0<=(fO M y4 Q9).1:=by show 0<=wrap .u64 (M.j9.1+1);unfold wrap;have:(IntKind.u64.signed)=false:=rfl;simp only[this,Bool.false_and,Bool.false_eq_true,if_false];exact Int.emod_nonneg _ oM
 have hkeyU:∀x∈M.J8.map (·.1),gE x:=λx hx=>by
  have:=hW.range x (zI _ (zI _ (zI _ hx)));constructor<;>omega
 have hkeyN:(M.J8.map (·.1)).Nodup:=hW.nodup.sublist (((sublist_append_right _ _).trans (sublist_append_right _ _)).trans (sublist_append_right _ _));refine qwr (next:=fO M y4 Q9) (D:=D) (DS.refl hd5 hlim) (hp5.tl hsub) hW.body hkeyN hkeyU oJ oJ (hv.q7 f05) hg ((hrdG.2.q7 f25).j6 λb hb=>.inl (zH _ hb)) ((hrdG.1.q7 f25).j6 λb hb=>.inl (zH _ hb)) oJ oJ hpu n27 hq0 λw6 FD6 d6 f6 n6=>?_;have hp6:=hp5.pd (X':=FD6++X) (f6.mono λb hb _=>hsub b hb) (λb hb=>(zD.1 hb).elim (d6.at_.lt b) λhb=>yC (hp5.nH b hb) f6.size) λb hb=>(zD.1 hb).elim (λhb=>(n6 b hb).imp (hsub b) id) .inl;obtain⟨fb6,defb6,mb6,sl6,sn6,G1,G2,fs6,hF6,hx6⟩:=id hp6;have hpbn:pb∉FD6++X:=λhm=>hx6.lQ pb hm oL;have hFD:∀b∈FD6,b∈FD++pb::mb::(F1++F2)\/w.heap.size<=b:=λb hb=>by rcases n6 b hb with h|h;exact .inl (zH _ h);exact .inr (zL f05.size h)
 have hlt6:w.heap.size<=w6.heap.size:=zL f05.size f6.size;have f06:Fr (FD++pb::mb::(F1++F2)) w w6:=(f05.mono λb hb=>by cases hb).trans (f6.mono λb hb _=>zH _ hb);have hend:∀ {F':Ik} {w8 w9:Ic},Fr [pb] w6 w8->Fr [pb] w8 w9->(∀b∈F',b=pb\/w8.heap.size<=b)->Bb (FD++pb::mb::(F1++F2)) w w9 (FD6++F')/\eQ w9 dbk FD6 (gF D M.J8 y4 Q9 (fO M y4 Q9)).1:=by intro F' w8 w9 g8 g9 hF';have g69:=g8.trans g9;refine⟨⟨f06.trans (g69.mono λb hb _=>by simp at hb;subst hb;simp),λb hb=>?_⟩,d6.at_.q8 g69 λb hb=>by simp;rintro rfl;exact hpbn (zH _ hb)⟩;rcases zD.1 hb with hb|hb;exact hFD b hb;rcases hF' b hb with h|h;exact .inl (by rw[h];simp);exact .inr (zL (zL hlt6 g8.size) h)
 have hpX:∀ {w8:Ic},Fr [pb] w6 w8->∀b∈FD6++X,b<w8.heap.size/\b≠pb:=λg8 b hb=>⟨yC (hp6.nH b hb) g8.size,λe=>hpbn (e▸hb)⟩;have hcell6:=hx6.cell;rw[<- Ai] at hcell6;have hwk:(e9 (pW fb6) (pW defb6) (some mb6) M.Q2).length=27:=py hx.x7;have hlim6:lK (gF D M.J8 y4 Q9 (fO M y4 Q9)).1 (k+5000):=d6.lim.mono oJ;apply dX<;>intro hc;have hc:(gF D M.J8 y4 Q9 (fO M y4 Q9)).2≠0:=(oP hc);rw[iP hc] at hcm;rw[hcm] at kk;refine qu (ts:=[gU.jX]) (fj none gy dH dH 0 true (e9 none none none (zs 24))).toList (qvp w6)<|fu ?_;have hsz60:(fj none gy dH dH 0 true (e9 none none none (zs 24))).toList.length=60:=(by rw[Ib,uw rfl];rfl);refine m8 hsz60<|qY (b:=pb) (off:=0) hcell6 (fj none gy dH dH 0 true (e9 none none none (zs 24))) (by rw[k7 (by rw[hsz60,uw hx.Q8,hwk])]) (qAs (qzr)) (by rw[hsz60,uw hx.Q8,hwk];exact zO rfl) λw7 c7 f7=>Eo (X:=FD6++X) (Q5:=[]) (Q9:=[]) c7 rfl (py (ot 24)) oM (hpX f7) (.nil _ _ _ _) (.nil _ _ _ _) oM λF' w8 hp8 f8 n8=>?_;have he:=hend f7 f8 n8;exact kk FD6 F' w8 he.2 hlim6 hp8 he.1;have hc:¬(gF D M.J8 y4 Q9 (fO M y4 Q9)).2≠0:=(oP hc);rw[iN hc] at hcm;rw[hcm] at kk;have hsup6:w6.heap[r]?=some (.c (eS (fO M y4 Q9).1 (fO M y4 Q9).2).toArray 185):=(by rw[f6.block r (eX (ho5.at (i:=0) rfl)) λhm=>by have:=hd5.lt r hm;have:=hdisk.lt r hm;have h1:w.heap.size<=w2.drew.heap.size:=f02.size;omega];exact ho5.at (i:=0) rfl);refine uM hsup6 n27<|fu<|m8 (pS n27)<|qY (b:=pb) (off:=1) hcell6 (fj (pW dbk) (fO M y4 Q9) sl6 sn6 M.x6 M.Q3 (e9 (pW fb6) (pW defb6) (some mb6) M.Q2)) (qv1 hx.Q8 n27) (DC _ _) (by rw[pS n27,uw hx.Q8,hwk];exact zO rfl) λw7 c7 f7=>fu<|qY (b:=pb) (off:=29) c7 (fj (pW dbk) (fO M y4 Q9) sp sn6 M.x6 M.Q3 (e9 (pW fb6) (pW defb6) (some mb6) M.Q2)) (qqT n27) rfl (by rw[uw n27,hwk];exact zO rfl) λw8 c8 f8=>fu<|qY (b:=pb) (off:=30) c8 (fj (pW dbk) (fO M y4 Q9) sp sm M.x6 M.Q3 (e9 (pW fb6) (pW defb6) (some mb6) M.Q2)) (qqU n27) rfl (by rw[uw n27,hwk];exact zO rfl) λw9 c9 f9=>?_;have f69:=(f7.trans f8).trans f9;have hGX:∀b∈X++[pb],b<w.heap.size:=λb hb=>by rcases zD.1 hb with h|h;exact hx.nH b h;rw[zE.1 h];exact eX hx.cell
 have hrdX:=hrd (X++[pb]) hGX;have hst:∀ {s:Sl} {l:Il},Rd (X++[pb]) w2 s l->Rd ((FD6++X)++[pb]) w9 s l:=λhr=>by
  have h5:=hr.q7 f25;have h6:Rd ((FD6++X)++[pb]) w6 _ _:=h5.q8 (f6.mono λb hb _=>zH _ (hsub b hb)) λb hb=>by rcases zD.1 hb with hb|hb;rcases zD.1 hb with hb|hb;rcases n6 b hb with h|h;exact .inl (zH _ (hsub b h));exact .inr h;exact .inl (zH _ hb);exact .inl (zI _ hb)
  exact h6.q8 (f69.mono λb hb _=>zI _ hb) λb hb=>.inl hb
 refine Eo (X:=FD6++X) (Q5:=y4) (Q9:=Q9) c9 n27 hwk ht (hpX f69) (hst hrdX.1) (hst hrdX.2) oJ λF' w10 hp10 f10 n10=>?_;rw[qqn hns,hof] at hp10;have he:=hend f69 f10 n10;exact kk FD6 F' w10 he.2 hlim6 hp10 he.1
end
def eY (M:dV) (t h u C:Int):Int×dV:=
 if M.Q3 then (7,M) else if t<0\/t>7 then (4,M) else (0,{ M with Q2:=M.Q2.take (3*t.toNat)++[h,u,C]++M.Q2.drop (3*t.toNat+3) })
def dI (D:dJ) (M:dV) (n:Int):Int×List Int×Int:=
 if M.Q3 then (0,[],7) else match look n M.J8 with
 | some q=>(q.2.1,q.2.2,0)
 | none=>if gc M n=false then (0,[],10) else if (eE D n).2≠0 then (0,[],(eE D n).2) else eV n (eE D n).1
def qh5(u:D.Ok)(C:∀e∈M.J8,eI e.2.2)(n:Int):eI (dI D M n).2.1:=by have h:eI ([]:Il):=λx E=>nomatch E;unfold dI;split;exact h;split;rename_i q G;exact C _ (tg G).2;split;exact h;split;exact h;exact (qqH (vi u n).1 n).1
def dV.z9 (M:dV):Prop:=(M.Q1++M.J8.map (·.1)).Perm M.Q9
def ql6(s:nI)(y4 numbers:Il)(t:Int)(ov:Bool):(ij s y4 numbers t ov numbers).z9:=by show (numbers++[]).Perm numbers;rw[xG]
def qvM{kd:Int}(G:M.Wf)(h:M.z9):(fZ M kd l).2.z9:=by
 unfold fZ;split;exact h;split;exact h;split;exact h;rename_i n r C;have u:n∉M.J8.map (·.1):=λI=>by have E:=G.nodup;rw[C,xI,nodup_cons] at E;exact E.1 (zI _ (zI _ (zI _ I)))
 show (r++(gM n (kd,l) M.J8).map (·.1)).Perm M.Q9;rw[qs7 u,xM,<- zV];refine (HO n _).trans ?_;have:=h;rw[dV.z9,C] at this;exact this
def qxG{kd:Int}(h:M.z9):(jl M n kd l).2.z9:=by unfold jl;split;exact h;split;exact h;rename_i q u;split;exact h;have C:n∈M.J8.map (·.1):=mem_map.2 ⟨_,(tg u).2,rfl⟩;show (M.Q1++(gM n (kd,l) M.J8).map (·.1)).Perm M.Q9;rw[qqZ C];exact h
def qvy(G:M.Wf)(h:M.z9):(fq M n).2.z9:=by
 unfold fq;split;exact h;split;rename_i q I;have C:n∈M.J8.map (·.1):=mem_map.2 ⟨_,(tg I).2,rfl⟩;have E:=G.nodup;have u:n∉M.Q1:=λh=>by rw[yL] at E;exact E.2.2 n h n (zI _ (zI _ C)) rfl
 show (ins n M.Q1++(jr n M.J8).map (·.1)).Perm M.Q9;refine (((wn u).append_right _).trans ?_).trans h;exact perm_middle.symm.trans ((qqb C).symm.append_left M.Q1);split;exact h;exact h
def dV.z9.mem(h:M.z9)(x:Int):x∈M.Q9↔x∈M.Q1\/x∈M.J8.map (·.1):=by rw[<- h.mem_iff,zD]
def Ca (l:Il):ByteArray:=⟨(Lib.bytesOf l).toArray⟩
end
section
open Go Go.Pt List
open Go.IntKind (wrap)
open Classical
variable {D:dJ} {L:fP} {M:dV} {N Nl Nr:dM} {R R1 R2 b:Il} {h n1 n2:Nat} {kd n p q:Int} {key m:Key} {r:Iz}
def gK {β:Type} (n:Int) (l:List (Int×β)):Option β:=(look n l).map (·.2)
def vu{β:Type}(n:Int)(p:Int×β)(r:List (Int×β)):gK n (p::r)=if n=p.1 then some p.2 else gK n r:=by unfold gK;rw[look];split;rfl;cases look n r<;>rfl
def qxT{β:Type}(n:Int)(v:β)(p:Int×β)(r:List (Int×β)):gM n v (p::r)=if n=p.1 then (n,v)::r else p::gM n v r:=by by_cases h:n=p.1;rw[iP h];unfold gM;rw[look,iP h];rfl;rw[iN h];unfold gM;rw[look,iN h];cases look n r<;>rfl
def qwS{β:Type}(n:Int)(p:Int×β)(r:List (Int×β)):jr n (p::r)=if n=p.1 then r else p::jr n r:=by by_cases h:n=p.1;rw[iP h];unfold jr;rw[look,iP h];rfl;rw[iN h];unfold jr;rw[look,iN h];cases look n r<;>rfl
def G0{β:Type}(n q:Int)(v:β):∀l:List (Int×β),gK q (gM n v l)=if q=n then some v else gK q l
 | []=>by show gK q [(n,v)]=_;rw[vu]
 | p::r=>by rw[qxT];by_cases h:n=p.1;rw[iP h,vu,vu,<- h];by_cases h2:q=n;rw[iP h2,iP h2];rw[iN h2,iN h2,iN h2];rw[iN h,vu,G0 n q v r,vu];by_cases h2:q=p.1;rw[iP h2,iN (λe=>h (by rw[<- e,h2])),iP h2];rw[iN h2,iN h2]
def DR{β:Type}{l:List (Int×β)}:gK n l=none↔n∉l.map (·.1):=by unfold gK;rw[Option.map_eq_none_iff,uv]
def qqz{β:Type}(n q:Int):∀l:List (Int×β),(l.map (·.1)).Nodup->gK q (jr n l)=if q=n then none else gK q l
 | [],_=>by show gK q []=_;split<;>rfl
 | p::r,C=>by have u:=nodup_cons.1 (show (p.1::r.map (·.1)).Nodup from C);rw[qwS];by_cases h:n=p.1;rw[iP h,vu];by_cases h2:q=n;rw[iP h2,h2,h];exact DR.2 u.1;rw[iN h2,iN λe=>h2 (by rw[e,h])];rw[iN h,vu,qqz n q r u.2,vu];by_cases h2:q=p.1;rw[iP h2,iN (λe=>h (by rw[<- e,h2])),iP h2];rw[iN h2,iN h2]
def qxe(n:Int):∀l:Il,l.length<=(ins n l).length
 | []=>yW _
 | a::l=>by
  have:=qxe n l;simp only[ins];split;simp;split;exact zM _;simp only[yH];omega
def rC:gc M n=true↔2<=n/\n<M.j9.2.getD 0 0/\n∉M.Q5/\n∉M.Q1/\n∉M.J7/\gK n M.J8=none:=by unfold gc gK;rw[Option.map_eq_none_iff];simp only[yA,zT,H5,H6,Option.isNone_iff_eq_none];constructor;rintro⟨⟨⟨⟨⟨G,I⟩,h⟩,u⟩,C⟩,E⟩;exact⟨oJ,oJ,h,u,C,E⟩;rintro⟨G,I,h,u,C,E⟩;exact⟨⟨⟨⟨⟨oJ,oJ⟩,h⟩,u⟩,C⟩,E⟩
def dU (M:dV) (x:Int):Prop:=x∈M.J8.map (·.1)\/gc M x=true
def cJ{x:Int}:x∈M.J8.map (·.1)↔∃q,gK x M.J8=some q:=by
 constructor;intro h;cases e:gK x M.J8 with
 | none=>exact absurd h (DR.1 e)
 | some q=>exact⟨q,rfl⟩
 rintro⟨q,e⟩;exact Classical.byContradiction λh=>by rw[DR.2 h] at e;cases e
def DP(h:M.Q3=false)(n:Int):dI D M n=match gK n M.J8 with
  | some q=>(q.1,q.2,0)
  | none=>if gc M n=false then (0,[],10) else if (eE D n).2≠0 then (0,[],(eE D n).2) else eV n (eE D n).1:=by
 unfold dI gK;rw[iN (by rw[h];decide)];cases look n M.J8<;>rfl
def FO(u:M.Q3=false)(h:(dI D M n).2.2=0):dU M n:=by
 rw[DP u] at h;cases e:gK n M.J8 with
 | some q=>exact .inl (cJ.2 ⟨q,e⟩)
 | none=>
  rw[e] at h;dsimp only at h;split at h;cases h;rename_i C;exact .inr (oP C)
def qxK(M:dV)(u:M.Q3=false){q:Iz}(h:gK n M.J8=some q):dI D M n=(q.1,q.2,0):=by rw[DP u,h]
def Ce(M':dV)(u:M.Q3=false)(h:M'.Q3=false)(C:gK n M'.J8=gK n M.J8)(E:gc M' n=gc M n):dI D M' n=dI D M n:=by rw[DP u,DP h,C,E]
def Ct(M':dV)(h:gK n M'.J8=gK n M.J8)(u:gc M' n=gc M n):dU M' n↔dU M n:=by unfold dU;rw[cJ,cJ,h,u]
def AR(u:M.Wf){x:Int}(h:dU M x):2<=x/\x<M.j9.2.getD 0 0:=by rcases h with h|h;exact u.range x (by simp only[zD];exact .inr (.inr (.inr h)));exact⟨(rC.1 h).1,(rC.1 h).2.1⟩
structure mg (D:dJ) (M M':dV) (q p:Int) (r:Option (Iz)):Prop where
 wf:M'.Wf
 Q3:M'.Q3=false
 Q2:M'.Q2=M.Q2
 j9:M'.j9=M.j9
 Q5:M'.Q5=M.Q5
 Q9:M'.Q9=M.Q9
 z9:M.z9->M'.z9
 x6:M'.x6=M.x6
 rest:∀ x,x≠q->x≠p->dI D M' x=dI D M x
 use:∀ x,x≠q->x≠p->(dU M' x↔dU M x)
 pJ:∀ x,gc M' x=true->gc M x=true
 wrote:∀ y,r=some y->dI D M' q=(y.1,y.2,0)/\dU M' q
 left:p≠q->¬ dU M' p
section
variable {D:dJ} {M:dV}
def qtM{E:Il}(R:M.Wf)(I:M.Q3=false)(hk:0<=kd/\kd<256)(hB:eI b)(hl:b.length<=500)(J:M.Q1=n::E): ∃M',fZ M kd b=((n,0),M')/\mg D M M' n n (some (kd,b))/\¬dU M n/\M'.Q1=E/\M'.J7=M.J7:=by
 have e:fZ M kd b=((n,0),{ M with Q1:=E,J8:=gM n (kd,b) M.J8 }):=(by rw[fZ,iN (by rw[I];decide),iN,J]);have hw:=(quI (kind:=kd) (body:=b) R hk hB).1;rw[e] at hw;have U:(n::(E++(M.J7++(M.Q5++M.J8.map (·.1))))).Nodup:=(by have:=R.nodup;rw[J] at this;exact this);have V:=nodup_cons.1 U;have aa:n∉M.J8.map (·.1):=λh=>V.1 (by simp only[zD];exact .inr (.inr (.inr h)));have ab:¬dU M n:=λh=>by rcases h with h|h;exact aa h;exact (rC.1 h).2.2.2.1 (by rw[J];simp)
 have u:∀x,gK x (gM n (kd,b) M.J8)=if x=n then some (kd,b) else gK x M.J8:=λx=>G0 n x _ _
 have G:∀x,x≠n->gc { M with Q1:=E,J8:=gM n (kd,b) M.J8 } x=gc M x:=λx C=>by rw[HR,rC,rC];dsimp only;rw[u,iN C,J,zG];constructor;rintro⟨h1,h2,h3,h4,h5⟩;exact⟨h1,h2,h3,λh=>h.elim C h4,h5⟩;rintro⟨h1,h2,h3,h4,h5⟩;exact⟨h1,h2,h3,λh=>h4 (.inr h),h5⟩
 refine⟨_,e,⟨hw,I,rfl,rfl,rfl,rfl,λh=>?_,rfl,λx C _=>Ce { M with Q1:=E,J8:=gM n (kd,b) M.J8 } I I (by dsimp only;rw[u,iN C]) (G x C),λx C _=>Ct { M with Q1:=E,J8:=gM n (kd,b) M.J8 } (by dsimp only;rw[u,iN C]) (G x C),λx C=>?_,λy hy=>?_,λh=>absurd rfl h⟩,ab,rfl,rfl⟩;have:=qvM (kd:=kd) (l:=b) R h;rw[e] at this;exact this;by_cases hxn:x=n;have:=(rC.1 C).2.2.2.2.2;dsimp only at this;rw[u,iP hxn] at this;cases this;rw[G x hxn] at C;exact C;cases hy;refine⟨?_,.inl (cJ.2 ⟨(kd,b),by dsimp only;rw[u,iP rfl]⟩)⟩;exact qxK { M with Q1:=E,J8:=gM n (kd,b) M.J8 } I (by dsimp only;rw[u,iP rfl])
def qvZ(R:M.Wf)(G:M.Q3=false)(U:0<=kd/\kd<256)(V:eI b)(hl:b.length<=500)(hf:n∈M.J8.map (·.1)): ∃M',jl M n kd b=(0,M')/\mg D M M' n n (some (kd,b))/\M'.Q1=M.Q1/\M'.J7=M.J7:=by
 obtain⟨v,I⟩:=cJ.1 hf;have e:jl M n kd b=(0,{ M with J8:=gM n (kd,b) M.J8 }):=by unfold gK at I;obtain⟨q,hq,_⟩:=yS.1 I;rw[jl,iN (by rw[G];decide),hq];dsimp only;rw[iN]
 have J:=(qxI (n:=n) (kind:=kd) (body:=b) R U V).1;rw[e] at J;have u:∀x,gK x (gM n (kd,b) M.J8)=if x=n then some (kd,b) else gK x M.J8:=λx=>G0 n x _ _
 have E:∀x,gc { M with J8:=gM n (kd,b) M.J8 } x=gc M x:=λx=>by rw[HR,rC,rC];dsimp only;rw[u];by_cases C:x=n;rw[iP C,C,I];simp;rw[iN C]
 refine⟨_,e,⟨J,G,rfl,rfl,rfl,rfl,λh=>?_,rfl,λx C _=>Ce { M with J8:=gM n (kd,b) M.J8 } G G (by dsimp only;rw[u,iN C]) (E x),λx C _=>Ct { M with J8:=gM n (kd,b) M.J8 } (by dsimp only;rw[u,iN C]) (E x),λx C=>by rw[E x] at C;exact C,λy hy=>?_,λh=>absurd rfl h⟩,rfl,rfl⟩;have:=qxG (n:=n) (kd:=kd) (l:=b) h;rw[e] at this;exact this;cases hy;refine⟨?_,.inl (cJ.2 ⟨(kd,b),by dsimp only;rw[u,iP rfl]⟩)⟩;exact qxK { M with J8:=gM n (kd,b) M.J8 } G (by dsimp only;rw[u,iP rfl])
def qxH(h:M.Q3=false)(u:n∉M.J8.map (·.1)):jl M n kd b=(10,M):=by rw[jl,iN (by rw[h];decide),uv.2 u]
def qmd(hW:M.Wf)(V:M.Q3=false)(hu:dU M n)(J:n≠q): ∃M',fq M n=(0,M')/\mg D M M' q n none/\(dI D M' q=dI D M q)/\(dU M' q↔dU M q)/\M.Q1.length<=M'.Q1.length:=by
 have hw:=qup (n:=n) hW;by_cases hf:n∈M.J8.map (·.1);obtain⟨v,hv⟩:=cJ.1 hf;have ai:(M.J8.map (·.1)).Nodup:=hW.y8;have e:fq M n=(0,{ M with J8:=jr n M.J8,Q1:=ins n M.Q1 }):=by unfold gK at hv;obtain⟨y,R,_⟩:=yS.1 hv;rw[fq,iN (by rw[V];decide),R]
 rw[e] at hw;have U:∀x,gK x (jr n M.J8)=if x=n then none else gK x M.J8:=λx=>qqz n x _ ai
 have E:∀x,x≠n->gc { M with J8:=jr n M.J8,Q1:=ins n M.Q1 } x=gc M x:=λx u=>by rw[HR,rC,rC];dsimp only;rw[U,iN u,ze];constructor;rintro⟨h1,h2,h3,h4,h5⟩;exact⟨h1,h2,h3,λh=>h4 (.inr h),h5⟩;rintro⟨h1,h2,h3,h4,h5⟩;exact⟨h1,h2,h3,λh=>h.elim u h4,h5⟩
 have G:¬dU { M with J8:=jr n M.J8,Q1:=ins n M.Q1 } n:=λh=>by rcases h with h|h;obtain⟨y,R⟩:=cJ.1 h;dsimp only at R;rw[U,iP rfl] at R;cases R;exact (rC.1 h).2.2.2.1 (ze.2 (.inl rfl))
 have I:∀x,x≠n->dI D { M with J8:=jr n M.J8,Q1:=ins n M.Q1 } x=dI D M x:=λx u=>Ce { M with J8:=jr n M.J8,Q1:=ins n M.Q1 } V V (by dsimp only;rw[U,iN u]) (E x u);have C:∀x,x≠n->(dU { M with J8:=jr n M.J8,Q1:=ins n M.Q1 } x↔dU M x):=λx u=>Ct { M with J8:=jr n M.J8,Q1:=ins n M.Q1 } (by dsimp only;rw[U,iN u]) (E x u);refine⟨_,e,⟨hw,V,rfl,rfl,rfl,rfl,λh=>?_,rfl,λx _ u=>I x u,λx _ u=>C x u,λx u=>?_,λy R=>(nomatch R),λ_=>G⟩,I q λe=>J e.symm,C q λe=>J e.symm,?_⟩;have:=qvy (n:=n) hW h;rw[e] at this;exact this;by_cases hxn:x=n;subst hxn;exact absurd (.inr u) G;rw[E x hxn] at u;exact u;exact qxe n M.Q1;have af:gc M n=true:=hu.resolve_left hf;have e:fq M n=(0,{ M with J7:=ins n M.J7 }):=by rw[fq,iN (by rw[V];decide),uv.2 hf];dsimp only;rw[iP af]
 rw[e] at hw;have E:∀x,x≠n->gc { M with J7:=ins n M.J7 } x=gc M x:=λx u=>by rw[HR,rC,rC];dsimp only;rw[ze];constructor;rintro⟨h1,h2,h3,h4,h5,h6⟩;exact⟨h1,h2,h3,h4,λh=>h5 (.inr h),h6⟩;rintro⟨h1,h2,h3,h4,h5,h6⟩;exact⟨h1,h2,h3,h4,λh=>h.elim u h5,h6⟩
 have G:¬dU { M with J7:=ins n M.J7 } n:=λh=>by rcases h with h|h;exact hf h;exact (rC.1 h).2.2.2.2.1 (ze.2 (.inl rfl))
 have I:∀x,x≠n->dI D { M with J7:=ins n M.J7 } x=dI D M x:=λx u=>Ce { M with J7:=ins n M.J7 } V V rfl (E x u);have C:∀x,x≠n->(dU { M with J7:=ins n M.J7 } x↔dU M x):=λx u=>Ct { M with J7:=ins n M.J7 } rfl (E x u);refine⟨_,e,⟨hw,V,rfl,rfl,rfl,rfl,λh=>?_,rfl,λx _ u=>I x u,λx _ u=>C x u,λx u=>?_,λy R=>(nomatch R),λ_=>G⟩,I q λe=>J e.symm,C q λe=>J e.symm,zM _⟩;exact h;by_cases hxn:x=n;subst hxn;exact absurd (.inr u) G;rw[E x hxn] at u;exact u
end
noncomputable def dK (D:dJ) (M:dV) (k v:Nat) (p:Int):dM×Int:=
 if (dI D M p).2.2≠0 then (ir,(dI D M p).2.2) else iy (dI D M p).1 (dI D M p).2.1 k v
noncomputable def dP (k v:Nat) (M:dV) (p:Int) (n:dM):Io×dV:=
 if (eO n k v).2.2≠0 then ((0,2),M)
 else if p≠0/\(jl M p (eO n k v).1 (eO n k v).2.1).1≠10 then ((p,(jl M p (eO n k v).1 (eO n k v).2.1).1),(jl M p (eO n k v).1 (eO n k v).2.1).2)
 else if (fZ M (eO n k v).1 (eO n k v).2.1).1.2=0/\p≠0 then (((fZ M (eO n k v).1 (eO n k v).2.1).1.1,(fq (fZ M (eO n k v).1 (eO n k v).2.1).2 p).1),(fq (fZ M (eO n k v).1 (eO n k v).2.1).2 p).2)
 else fZ M (eO n k v).1 (eO n k v).2.1
structure ig (n:dM) (k v:Nat):Prop where
 right:fH n k v
 J6:∀ a∈n.J6,eI a
 Q0:∀ a∈n.Q0,eI a
 J9:∀ x∈n.J9,x<4294967296
def ig.load{k v:Nat}{n:dM}(h:ig n k v)(u:dI D M p=(iE n,gd n,0)):dK D M k v p=(n,0):=by unfold dK;rw[u];exact (iN λh=>h rfl).trans (qv4 h.right h.J9)
def qtd{k v:Nat}{n:dM}(hW:M.Wf)(ho:M.Q3=false)(hn:ig n k v)(hp:p=0\/dU M p)(hf:M.Q1≠[]): ∃q M',dP k v M p n=((q,0),M')/\mg D M M' q (if p=0 then q else p) (some (iE n,gd n))/\(q=p\/¬dU M q)/\M.Q1.length<=M'.Q1.length+1/\(p∈M.J8.map (·.1)->q=p/\M'.Q1=M.Q1):=by
 have hw:eO n k v=(iE n,gd n,0):=(by unfold eO;rw[iP hn.right]);have hB:=qpZ hn.J6 hn.Q0;have hl:=(CA hn.right).2;have hk:0<=iE n/\iE n<256:=(by unfold iE;split<;>exact⟨oM,oM⟩);unfold dP;rw[hw];dsimp only;rw[iN λh=>h rfl];obtain⟨q,fr,I⟩:∃q fr,M.Q1=q::fr:=by
  cases e:M.Q1 with
  | nil=>exact absurd e hf
  | cons q fr=>exact⟨q,fr,rfl⟩
 obtain⟨M1,e1,u,J,ab,_⟩:=qtM (D:=D) hW ho hk hB hl I;rcases hp with rfl|hp;rw[iN λh=>h.1 rfl,iN λh=>h.2 rfl,e1];refine⟨q,M1,rfl,by rw[iP rfl];exact u,.inr J,by rw[I,ab];exact zM _,λh=>?_⟩;have:=(AR hW (.inl h)).1;omega;have E:p≠0:=(by have:=(AR hW hp).1;omega);by_cases hfp:p∈M.J8.map (·.1);obtain⟨M2,e2,C,R,_⟩:=qvZ (D:=D) hW ho hk hB hl hfp;rw[e2,iP ⟨E,(show (0:Int)≠10 by decide)⟩];exact⟨p,M2,rfl,by rw[iN E];exact C,.inl rfl,by rw[R];omega,λ_=>⟨rfl,R⟩⟩;rw[qxH ho hfp,iN λh=>h.2 rfl,e1,iP ⟨rfl,E⟩];have U:p≠q:=λe=>J (e▸hp);have ai:dU M1 p:=(u.use p U U).2 hp;obtain⟨M2,e2,C,aj,ak,R⟩:=qmd (D:=D) u.wf u.Q3 ai U;dsimp only;rw[e2];refine⟨q,M2,rfl,?_,.inr J,by rw[I,yH,<- ab];omega,λh=>absurd h hfp⟩;rw[iN E];exact⟨C.wf,C.Q3,C.Q2.trans u.Q2,C.j9.trans u.j9,C.Q5.trans u.Q5,C.Q9.trans u.Q9,λh=>C.z9 (u.z9 h),C.x6.trans u.x6,λx G V=>(C.rest x G V).trans (u.rest x G G),λx G V=>(C.use x G V).trans (u.use x G G),λx G=>u.pJ x (C.pJ x G),λy hy=>by
  have:=u.wrote y hy;exact⟨aj.trans this.1,ak.2 this.2⟩,λh=>C.left h⟩
section
structure Grown where
 x5:Int
 J8:Bool
 key:Key
 x4:Int
def oq:Grown:=⟨0,false,[],0⟩
def fI {α:Type} (l:List α) (i:Nat) (x:α):List α:=l.take i++[x]++l.drop i
def eT (n:dM) (k v:Nat):Iu:=if n.Q4 then (n.J6.length,(dY k v).1) else (n.J9.length,(dY k v).2)
def ef (n:dM) (mid:Nat):dM×dM×Key:=
 if n.Q4 then ({ n with J6:=n.J6.take mid,Q0:=n.Q0.take mid },{ n with J6:=n.J6.drop mid,Q0:=n.Q0.drop mid },n.J6.getD mid [])
 else ({ n with J9:=n.J9.take mid,J6:=n.J6.take (mid-1) },{ n with J9:=n.J9.drop mid,J6:=n.J6.drop mid },n.J6.getD (mid-1) [])
noncomputable def fX (k v:Nat) (M:dV) (p:Int) (n:dM) (J8:Bool):(Grown×Int)×dV:=
 if (eT n k v).1>(eT n k v).2 then
  if (dP k v M 0 (ef n ((eT n k v).1 / 2)).2.1).1.2≠0 then ((oq,(dP k v M 0 (ef n ((eT n k v).1 / 2)).2.1).1.2),(dP k v M 0 (ef n ((eT n k v).1 / 2)).2.1).2)
  else ((⟨(dP k v (dP k v M 0 (ef n ((eT n k v).1 / 2)).2.1).2 p (ef n ((eT n k v).1 / 2)).1).1.1,J8,(ef n ((eT n k v).1 / 2)).2.2,(dP k v M 0 (ef n ((eT n k v).1 / 2)).2.1).1.1⟩,
    (dP k v (dP k v M 0 (ef n ((eT n k v).1 / 2)).2.1).2 p (ef n ((eT n k v).1 / 2)).1).1.2),
    (dP k v (dP k v M 0 (ef n ((eT n k v).1 / 2)).2.1).2 p (ef n ((eT n k v).1 / 2)).1).2)
 else ((⟨(dP k v M p n).1.1,J8,[],0⟩,(dP k v M p n).1.2),(dP k v M p n).2)
def gx (n:dM) (c:Nat) (g:Grown):dM:=
 if g.x4≠0 then { n with J9:=fI (n.J9.set c g.x5) (c+1) g.x4,J6:=fI n.J6 c g.key } else { n with J9:=n.J9.set c g.x5 }
noncomputable def gV (D:dJ) (k v:Nat) (key val:Key):Nat->dV->Int->(Grown×Int)×dV
 | 0,M,_=>((oq,-1),M)
 | f+1,M,p=>
  if (dK D M k v p).2≠0 then ((oq,(dK D M k v p).2),M)
  else if (dK D M k v p).1.Q4 then
   if (dK D M k v p).1.J6[dO (dK D M k v p).1.J6 key]?=some key then fX k v M p { (dK D M k v p).1 with Q0:=(dK D M k v p).1.Q0.set (dO (dK D M k v p).1.J6 key) val } false
   else fX k v M p { (dK D M k v p).1 with J6:=fI (dK D M k v p).1.J6 (dO (dK D M k v p).1.J6 key) key,Q0:=fI (dK D M k v p).1.Q0 (dO (dK D M k v p).1.J6 key) val } true
  else if (gV D k v key val f M ((dK D M k v p).1.J9.getD (eu (dK D M k v p).1.J6 key) 0)).1.2≠0 then
   ((oq,(gV D k v key val f M ((dK D M k v p).1.J9.getD (eu (dK D M k v p).1.J6 key) 0)).1.2),(gV D k v key val f M ((dK D M k v p).1.J9.getD (eu (dK D M k v p).1.J6 key) 0)).2)
  else if (gV D k v key val f M ((dK D M k v p).1.J9.getD (eu (dK D M k v p).1.J6 key) 0)).1.1.x5=(dK D M k v p).1.J9.getD (eu (dK D M k v p).1.J6 key) 0/\(gV D k v key val f M ((dK D M k v p).1.J9.getD (eu (dK D M k v p).1.J6 key) 0)).1.1.x4=0 then
   ((⟨p,(gV D k v key val f M ((dK D M k v p).1.J9.getD (eu (dK D M k v p).1.J6 key) 0)).1.1.J8,[],0⟩,0),(gV D k v key val f M ((dK D M k v p).1.J9.getD (eu (dK D M k v p).1.J6 key) 0)).2)
  else fX k v (gV D k v key val f M ((dK D M k v p).1.J9.getD (eu (dK D M k v p).1.J6 key) 0)).2 p (gx (dK D M k v p).1 (eu (dK D M k v p).1.J6 key) (gV D k v key val f M ((dK D M k v p).1.J9.getD (eu (dK D M k v p).1.J6 key) 0)).1.1) (gV D k v key val f M ((dK D M k v p).1.J9.getD (eu (dK D M k v p).1.J6 key) 0)).1.1.J8
structure ia where
 x5:Int
 size:Nat
 y3:fP
 y4:Il
abbrev gJ:=Key×ia
def eh (L:fP):dM:=⟨true,L.map (·.1),L.map (·.2),[]⟩
def dN (es:List gJ):dM:=⟨false,(es.map (·.1)).tail,[],es.map (·.2.x5)⟩
structure fM (es:List gJ):Prop where
 pair:es.Pairwise λa b=>fK a.1 b.1/\∀ x∈a.2.y3,fK x.1 b.1
 low:∀ e∈es,∀ x∈e.2.y3,lO e.1 x.1
def minOf (k v:Nat) (h:Nat):Nat:=if h=0 then (dY k v).1 / 2 else (dY k v).2 / 2
def Has (D:dJ) (M:dV) (k v:Nat):Nat->ia->Prop
 | 0,s=>s.y4=[s.x5]/\s.size=s.y3.length/\ig (eh s.y3) k v/\dI D M s.x5=(3,gd (eh s.y3),0)
 | h+1,s=>∃u:List gJ,(u.map (·.1)).head?=some []/\s.size=u.length/\s.y3=u.flatMap (·.2.y3)/\s.y4=s.x5::u.flatMap (·.2.y4)/\ig (dN u) k v/\dI D M s.x5=(4,gd (dN u),0)/\fM u/\
   ∀e∈u,Has D M k v h e.2/\minOf k v h<=e.2.size
def AZ(x:Key):lO [] x:=by unfold lO fK;cases x<;>simp[cmpL]
def qmz{x:Key}:¬fK x []:=AZ x
section
variable {D:dJ} {M M':dV} {k v:Nat}
def Has.mem:∀ {h:Nat} {s:ia},Has D M k v h s->s.x5∈s.y4
 | 0,s,u=>by rw[u.1];simp
 | h+1,s,⟨E,_,_,_,C,_⟩=>by rw[C];simp
def Has.q8:∀ {h:Nat} {s:ia},Has D M k v h s->(∀x∈s.y4,dI D M' x=dI D M x)->Has D M' k v h s
 | 0,s,⟨C,G,u,I⟩,E=>⟨C,G,u,by rw[E s.x5 (by rw[C];simp)];exact I⟩
 | h+1,s,⟨U,V,C,G,u,I,h5,h6,R⟩,E=>⟨U,V,C,G,u,I,by rw[E s.x5 (by rw[u];simp)];exact h5,h6,λe J=>⟨(R e J).1.q8 λx hx=>E x (by rw[u];exact zN _ (yJ.2 ⟨e,J,hx⟩)),(R e J).2⟩⟩
def Has.read:∀ {h:Nat} {s:ia},Has D M k v h s->∀x∈s.y4,(dI D M x).2.2=0
 | 0,s,⟨C,I,E,G⟩,x,u=>by rw[C] at u;rw[zE.1 u,G]
 | h+1,s,⟨V,h0,C,I,E,G,J,h6,R⟩,x,u=>by rw[E] at u;rcases zG.1 u with rfl|u;rw[J];obtain⟨e,U,u⟩:=yJ.1 u;exact (R e U).1.read x u
def Has.J4(u:M.Q3=false){s:ia}(C:Has D M k v h s):∀x∈s.y4,dU M x:=λx E=>FO u (C.read x E)
def fH.xh(h:fH (eh L) k v):L≠[]:=λe=>by
 have:=h.2.2.2;rw[iP (show (eh L).Q4=true from rfl)] at this;have u:=this.2.1;rw[e] at u;exact absurd u oM
def fH.x9{es:List gJ}(h:fH (dN es) k v):2<=es.length/\es.length<=(dY k v).2:=by
 have:=h.2.2.2;rw[iN (show ¬(dN es).Q4=true from λe=>nomatch e)] at this;have u:=this.2.2.1;have C:=this.2.2.2.1;have e:(dN es).J9.length=es.length:=(by show (es.map _).length=_;rw[zK]);rw[e] at u C;exact⟨u,C⟩
def Has.ne:∀ {h:Nat} {s:ia},Has D M k v h s->s.y3≠[]
 | 0,s,⟨G,u,C,E⟩=>C.right.xh
 | h+1,s,⟨I,R,G,u,C,E,U,V,J⟩=>λe=>by
  have:=E.right.x9
  cases I with
  | nil=>simp at this
  | cons a r=>
   rw[u,yG] at e;exact (J a oL).1.ne (append_eq_nil_iff.1 e).1
def fM.mid{A B:List gJ}{e:gJ}(h:fM (A++e::B)):(∀a∈A,∀x∈a.2.y3,fK x.1 e.1)/\(∀b∈B,fK e.1 b.1/\(∀x∈e.2.y3,fK x.1 b.1)/\∀y∈b.2.y3,lO b.1 y.1):=by
 have u:=pairwise_append.1 h.pair;refine⟨λa E x G=>(u.2.2 a E e oL).2 x G,λb C=>?_⟩;have:=(yI.1 u.2.1).1 b C;exact⟨this.1,this.2,h.low b (by simp[C])⟩
def fM.sort:∀ {es:List gJ},fM es->(∀e∈es,fg e.2.y3)->fg (es.flatMap (·.2.y3))
 | [],_,_=>.nil
 | e::es,h,E=>by rw[yG,fg.te];have G:=yI.1 h.pair;refine⟨E e oL,fM.sort ⟨G.2,λe u=>h.low e (zN _ u)⟩ λe u=>E e (zN _ u),λx J y C=>?_⟩;obtain⟨b,I,C⟩:=yJ.1 C;exact rg ((G.1 b I).2 x J) (h.low b (zN _ I) y C)
def Has.sort:∀ {h:Nat} {s:ia},Has D M k v h s->fg s.y3
 | 0,s,⟨E,u,C,G⟩=>C.right.2.2.1
 | h+1,s,⟨U,V,E,u,C,G,h5,I,J⟩=>by rw[u];exact I.sort λe R=>(J e R).1.sort
def me (k v:Nat) (L:fP):Prop:=∀x∈L,x.1.length=k/\x.2.length=v/\eI x.1/\eI x.2
def Has.vU:∀ {h:Nat} {s:ia},Has D M k v h s->me k v s.y3
 | 0,s,⟨G,E,C,I⟩=>λx u=>⟨C.right.1 x.1 (zY u),C.right.2.1 x.2 (zY u),C.J6 x.1 (zY u),C.Q0 x.2 (zY u)⟩
 | h+1,s,⟨U,V,G,E,C,I,h5,h6,J⟩=>λx u=>by rw[E] at u;obtain⟨e,R,u⟩:=yJ.1 u;exact (J e R).1.vU x u
def BB(C:me k v L)(E:fg L)(G:1<=L.length)(I:L.length<=(dY k v).1):ig (eh L) k v:=by refine⟨⟨λa u=>?_,λa u=>?_,E,?_⟩,λa u=>?_,λa u=>?_,λx h=>nomatch h⟩;obtain⟨x,h,rfl⟩:=mem_map.1 u;exact (C x h).1;obtain⟨x,h,rfl⟩:=mem_map.1 u;exact (C x h).2.1;rw[iP (show (eh L).Q4=true from rfl)];refine⟨rfl,?_,?_,?_⟩;show 1<=(L.map _).length;rw[zK];exact G;show (L.map _).length<=_;rw[zK];exact I;show (L.map _).length=(L.map _).length;rw[zK,zK];obtain⟨x,h,rfl⟩:=mem_map.1 u;exact (C x h).2.2.1;obtain⟨x,h,rfl⟩:=mem_map.1 u;exact (C x h).2.2.2
def qz2{es:List gJ}(E:∀a∈(es.map (·.1)).tail,a.length=k/\eI a)(I:fL (es.map (·.1)).tail)(J:2<=es.length)(R:es.length<=(dY k v).2)(G:∀e∈es,2<=e.2.x5/\e.2.x5<4294967296):ig (dN es) k v:=by refine⟨⟨λa h=>(E a h).1,λa h=>(nomatch h),I,?_⟩,λa h=>(E a h).2,λa h=>(nomatch h),λx u=>?_⟩;rw[iN (show ¬(dN es).Q4=true from λe=>nomatch e)];have e1:(dN es).J9.length=es.length:=(by show (es.map _).length=_;rw[zK]);have U:(dN es).J6.length=es.length-1:=(by show ((es.map _).tail).length=_;rw[length_tail,zK]);refine⟨λx u=>?_,rfl,by rw[e1];exact J,by rw[e1];exact R,by rw[e1,U];omega⟩;obtain⟨e,C,rfl⟩:=mem_map.1 u;exact (G e C).1;obtain⟨e,C,rfl⟩:=mem_map.1 u;exact (G e C).2
def fM.rising{es:List gJ}(h:fM es):fL (es.map (·.1)).tail:=by have u:(es.map (·.1)).Pairwise fK:=pairwise_map.2 (h.pair.imp λh=>h.1);exact List.Pairwise.sublist (tail_sublist _) u
structure Step (D:dJ) (M M':dV) (P P':Il):Prop where
 wf:M'.Wf
 Q3:M'.Q3=false
 Q2:M'.Q2=M.Q2
 j9:M'.j9=M.j9
 Q5:M'.Q5=M.Q5
 Q9:M'.Q9=M.Q9
 z9:M.z9->M'.z9
 x6:M'.x6=M.x6
 rest:∀ x,dU M x->x∉P->dI D M' x=dI D M x/\dU M' x/\x∉P'
 use:∀ x,dU M' x->x∈P'\/(dU M x/\x∉P)
 has:∀ x∈P',dU M' x
 new:∀ x∈P',x∈P\/¬ dU M x
 nodup:P'.Nodup
 pJ:∀ x,gc M' x=true->gc M x=true
def Step.refl(C:M.Wf)(E:M.Q3=false){P:Il}(G:∀x∈P,dU M x)(I:P.Nodup):Step D M M P P:=
 ⟨C,E,rfl,rfl,rfl,rfl,id,rfl,λx u J=>⟨rfl,u,J⟩,λx u=>by by_cases h:x∈P;exact .inl h;exact .inr ⟨u,h⟩,G,λx u=>.inl u,I,λx u=>u⟩
def Step.perm{P P' Q I:Il}(h:Step D M M' P P')(G:P.Perm Q)(u:P'.Perm I):Step D M M' Q I:=
 ⟨h.wf,h.Q3,h.Q2,h.j9,h.Q5,h.Q9,h.z9,h.x6,λx C J=>by obtain⟨R,U,V⟩:=h.rest x C λE=>J (G.mem_iff.1 E);exact⟨R,U,λE=>V (u.mem_iff.2 E)⟩,λx C=>(h.use x C).imp (λh=>u.mem_iff.1 h) λh=>⟨h.1,λE=>h.2 (G.mem_iff.2 E)⟩,λx C=>h.has x (u.mem_iff.2 C),λx C=>(h.new x (u.mem_iff.2 C)).imp (λh=>G.mem_iff.1 h) id,u.nodup_iff.1 h.nodup,h.pJ⟩
def Step.beside{P P' Z:Il}(h:Step D M M' P P')(R:∀x∈Z,dU M x)(V:(Z++P).Nodup):Step D M M' (Z++P) (Z++P'):=by have U:=yL.1 V;have E:∀x∈Z,x∉P:=λx u I=>U.2.2 x u x I rfl;refine⟨h.wf,h.Q3,h.Q2,h.j9,h.Q5,h.Q9,h.z9,h.x6,λx u I=>?_,λx u=>?_,λx u=>?_,λx u=>?_,?_,h.pJ⟩;obtain⟨G,J,h3⟩:=h.rest x u λC=>I (zI _ C);exact⟨G,J,λC=>(zD.1 C).elim (λC=>I (zH _ C)) h3⟩;rcases h.use x u with G|⟨G,J⟩;exact .inl (zI _ G);by_cases hz:x∈Z;exact .inl (zH _ hz);exact .inr ⟨G,λC=>(zD.1 C).elim hz J⟩;rcases zD.1 u with u|u;exact (h.rest x (R x u) (E x u)).2.1;exact h.has x u;rcases zD.1 u with u|u;exact .inl (zH _ u);exact (h.new x u).imp (λh=>zI _ h) id;rw[yL];exact⟨U.1,h.nodup,λx u y hy e=>(h.rest x (R x u) (E x u)).2.2 (e▸hy)⟩
def Step.trans{M1:dV}{P Q R:Il}(h:Step D M M1 P Q)(g:Step D M1 M' Q R):Step D M M' P R:=
 ⟨g.wf,g.Q3,g.Q2.trans h.Q2,g.j9.trans h.j9,g.Q5.trans h.Q5,g.Q9.trans h.Q9,λx=>g.z9 (h.z9 x),g.x6.trans h.x6,λx C I=>by
  obtain⟨u,E,G⟩:=h.rest x C I;obtain⟨J,U,V⟩:=g.rest x E G;exact⟨J.trans u,U,V⟩,λx C=>by
  rcases g.use x C with u|⟨u,E⟩;exact .inl u;exact (h.use x u).elim (λG=>absurd G E) .inr,g.has,λx C=>by
  rcases g.new x C with u|u;exact h.new x u;by_cases hP:x∈P;exact .inl hP;by_cases hu:dU M x;exact absurd (h.rest x hu hP).2.1 u;exact .inr hu,g.nodup,λx C=>h.pJ x (g.pJ x C)⟩
def mg.step(J:M.Q3=false)(h:mg D M M' q p (some r))(R:dU M p)(E:q=p\/¬dU M q):Step D M M' [p] [q]:=by
 have I:=h.wrote r rfl;refine⟨h.wf,h.Q3,h.Q2,h.j9,h.Q5,h.Q9,h.z9,h.x6,λx G u=>?_,λx G=>?_,λx G=>?_,λx G=>?_,oL,h.pJ⟩;have u:x≠p:=(oP u);have C:x≠q:=λe=>by rcases E with E|E;exact u (e.trans E);exact E (e▸G)
 exact⟨h.rest x C u,(h.use x C u).2 G,by simpa using C⟩;by_cases C:x=q;exact .inl (by simp[C]);by_cases u:x=p;subst u;exact absurd G (h.left λe=>C e);exact .inr ⟨(h.use x C u).1 G,by simpa using u⟩;rw[zE.1 G];exact I.2;rw[zE.1 G];rcases E with E|E;exact .inl (by simp[E]);exact .inr E
def mg.J8(I:M.Q3=false)(h:mg D M M' q q (some r))(E:¬dU M q):Step D M M' [] [q]:=by have G:=h.wrote r rfl;refine⟨h.wf,h.Q3,h.Q2,h.j9,h.Q5,h.Q9,h.z9,h.x6,λx C _=>?_,λx C=>?_,λx C=>?_,λx C=>?_,oL,h.pJ⟩;have u:x≠q:=λe=>E (e▸C);exact⟨h.rest x u u,(h.use x u u).2 C,by simpa using u⟩;by_cases u:x=q;exact .inl (by simp[u]);exact .inr ⟨(h.use x u u).1 C,oL⟩;rw[zE.1 C];exact G.2;rw[zE.1 C];exact .inr E
end
end
section
section
variable {D:dJ} {M M':dV} {k v:Nat}
def E4{n:dM}(C:M.Wf)(E:M.Q3=false)(G:ig n k v)(h:dU M p)(I:M.Q1≠[]): ∃q M',dP k v M p n=((q,0),M')/\Step D M M' [p] [q]/\dI D M' q=(iE n,gd n,0)/\M.Q1.length<=M'.Q1.length+1/\(p∈M.J8.map (·.1)->q=p/\M'.Q1=M.Q1):=by obtain⟨q,M',e,t,J,R,U⟩:=qtd (D:=D) C E G (.inr h) I;have u:p≠0:=(by have:=(AR C h).1;omega);rw[iN u] at t;exact⟨q,M',e,t.step E h J,(t.wrote _ rfl).1,R,U⟩
def EE{n:dM}(E:M.Wf)(u:M.Q3=false)(G:ig n k v)(I:M.Q1≠[]): ∃q M',dP k v M 0 n=((q,0),M')/\Step D M M' [] [q]/\dI D M' q=(iE n,gd n,0)/\M.Q1.length<=M'.Q1.length+1/\q≠0:=by obtain⟨q,M',e,t,J,R,_⟩:=qtd (D:=D) E u G (.inl rfl) I;rw[iP rfl] at t;have C:=t.wrote _ rfl;have U:=(AR t.wf C.2).1;have h:¬dU M q:=J.resolve_left oJ;exact⟨q,M',e,t.J8 u h,C.1,R,oJ⟩
def qmG{n:dM}{J8:Bool}(h:M.Wf)(u:M.Q3=false)(C:ig n k v)(R:(eT n k v).1<=(eT n k v).2)(E:dU M p)(G:M.Q1≠[]): ∃q M',fX k v M p n J8=((⟨q,J8,[],0⟩,0),M')/\Step D M M' [p] [q]/\dI D M' q=(iE n,gd n,0)/\M.Q1.length<=M'.Q1.length+1:=by obtain⟨q,M',e,st,I,J,_⟩:=E4 (D:=D) h u C E G;refine⟨q,M',?_,st,I,J⟩;unfold fX;rw[iN,e]
def qq4{n:dM}{J8:Bool}{mid:Nat}(hW:M.Wf)(ho:M.Q3=false)(C:(eT n k v).1 / 2=mid)(h1:ig (ef n mid).1 k v)(h2:ig (ef n mid).2.1 k v)(hs:(eT n k v).1>(eT n k v).2)(hp:dU M p)(hf:2<=M.Q1.length): ∃q o M',fX k v M p n J8=((⟨q,J8,(ef n mid).2.2,o⟩,0),M')/\o≠0/\Step D M M' [p] [q,o]/\dI D M' q=(iE (ef n mid).1,gd (ef n mid).1,0)/\dI D M' o=(iE (ef n mid).2.1,gd (ef n mid).2.1,0)/\M.Q1.length<=M'.Q1.length+2:=by
 subst C;obtain⟨o,M1,e1,u,R,E,U⟩:=EE (D:=D) hW ho h2 (λe=>by rw[e] at hf;exact absurd hf oM);have s1:=u.beside (Z:=[p]) (λx V=>by rw[zE.1 V];exact hp) oL;have aa:dU M1 p:=s1.has p oL;obtain⟨q,M2,e2,G,ab,am,_⟩:=E4 (D:=D) u.wf u.Q3 h1 aa (λe=>by rw[e] at E;simp at E;omega);have I:o≠p:=λe=>by rcases u.new o oL with h|h;cases h;exact h (e▸hp)
 have J:dU M1 o:=u.has o oL;have s2:=G.beside (Z:=[o]) (λx V=>by rw[zE.1 V];exact J) (oP I);refine⟨q,o,M2,?_,U,(s1.perm (.refl _) (List.Perm.swap _ _ _)).trans (s2.perm (.refl _) (List.Perm.swap _ _ _)),ab,?_,oJ⟩;unfold fX;rw[iP hs,e1];dsimp only;rw[iN λh=>h rfl,e2];rw[(G.rest o J (oP I)).1];exact R
def qAZ{val:Key}{i:Nat}(h:(dQ L)[i]?=some key):(⟨(eh L).Q4,dQ L,(eh L).Q0.set i val,(eh L).J9⟩:dM)=eh (L.set i (key,val)):=by
 unfold eh;rw[map_set,map_set];have:(L.map (·.1)).set i key=L.map (·.1):=by obtain⟨u,C⟩:=zP.1 h;rw[<- C];exact set_getElem_self u
 rw[this]
def qAc{val:Key}{i:Nat}:(⟨(eh L).Q4,fI (dQ L) i key,fI (eh L).Q0 i val,(eh L).J9⟩:dM)=eh (L.take i++[(key,val)]++L.drop i):=by unfold eh fI;simp only[xM,xO,xP,xN,map_nil]
def qxn{mid:Nat}(h:mid<L.length):ef (eh L) mid=(eh (L.take mid),eh (L.drop mid),L[mid].1):=by unfold ef;rw[iP (show (eh L).Q4=true from rfl)];unfold eh;simp only[xO,xP,Prod.mk.injEq,true_and];rw[yQ,zQ,zA h];rfl
def CI:eT (eh L) k v=(L.length,(dY k v).1):=by unfold eT;rw[iP (show (eh L).Q4=true from rfl)];show ((L.map _).length,_)=_;rw[zK]
def me.sub{L':fP}(h:me k v L)(u:∀x∈L',x∈L):me k v L':=λx C=>h x (u x C)
def fg.take{L:fP}(h:fg L)(n:Nat):fg (L.take n):=by unfold fg dQ;rw[xO];exact fL.take h n
def fg.drop{L:fP}(h:fg L)(n:Nat):fg (L.drop n):=by unfold fg dQ;rw[xP];exact fL.drop h n
def AF(h:ig (eh L) k v)(u:dI D M q=(3,gd (eh L),0)):Has D M k v 0 ⟨q,L.length,L,[q]⟩:=⟨rfl,rfl,h,u⟩
structure vo (D:dJ) (M:dV) (k v:Nat) (h:Nat) (s:ia) (key val:Key) (g:Grown) (M':dV):Prop where
 J8:g.J8=decide (key∉dQ s.y3)
 Q1:M.Q1.length<=M'.Q1.length+2*(h+1)
 C1:(g.x4=0/\∃ n P,Has D M' k v h ⟨g.x5,n,fJ key val s.y3,P⟩/\Step D M M' s.y4 P/\s.size<=n)\/
  (g.x4≠0/\∃ n1 L1 P1 n2 L2 P2,Has D M' k v h ⟨g.x5,n1,L1,P1⟩/\Has D M' k v h ⟨g.x4,n2,L2,P2⟩/\L1++L2=fJ key val s.y3/\(∀ x∈L1,fK x.1 g.key)/\(∀ y∈L2,lO g.key y.1)/\g.key.length=k/\eI g.key/\minOf k v h<=n1/\minOf k v h<=n2/\Step D M M' s.y4 (P1++P2))
structure gY (k v:Nat):Prop where
 Q4:2<=(dY k v).1
 inner:4<=(dY k v).2
def qsU{L':fP}{val:Key}{J8:Bool}(hc:gY k v)(hW:M.Wf)(ho:M.Q3=false)(hp:dU M p)(hf:2<=M.Q1.length)(U:me k v L')(V:fg L')(h1:1<=L'.length)(h2:L'.length<=(dY k v).1+1)(h3:L.length<=L'.length)(he:L'=fJ key val L)(C:J8=decide (key∉dQ L)): ∃g M',fX k v M p (eh L') J8=((g,0),M')/\vo D M k v 0 ⟨p,L.length,L,[p]⟩ key val g M':=by by_cases hb:L'.length<=(dY k v).1;have hn:=BB U V h1 hb;obtain⟨q,M',e,st,hr,hl⟩:=qmG (D:=D) (J8:=J8) hW ho hn (by rw[CI];exact hb) hp (λe=>by rw[e] at hf;exact absurd hf oM);refine⟨_,M',e,C,by show M.Q1.length<=M'.Q1.length+2;omega,.inl ⟨rfl,L'.length,[q],?_,st,h3⟩⟩;rw[<- he];exact AF hn hr;have aj:L'.length=(dY k v).1+1:=oJ;have av:=hc.Q4;have h:L'.length / 2<L'.length:=oJ;have hh:=qxn h;have n1:ig (eh (L'.take (L'.length / 2))) k v:=BB (U.sub λx E=>yU E) (V.take _) (by rw[yK];omega) (by rw[yK];omega);have n2:ig (eh (L'.drop (L'.length / 2))) k v:=BB (U.sub λx E=>yT E) (V.drop _) (by rw[yB];omega) (by rw[yB];omega);obtain⟨q,o,M',e,ad,st,G,I,hl⟩:=qq4 (D:=D) (k:=k) (v:=v) (p:=p) (J8:=J8) (mid:=L'.length / 2) (n:=eh L') hW ho (by rw[CI]) (by rw[hh];exact n1) (by rw[hh];exact n2) (by rw[CI];show L'.length>_;omega) hp hf;rw[hh] at e G I;have J:L'=L'.take (L'.length / 2)++L'.drop (L'.length / 2):=(xD _ _).symm;have hd:=zX h;have u:=V;rw[J] at u;have u:=fg.te.1 u;have R:=U _ (zW h);refine⟨⟨q,J8,L'[L'.length / 2].1,o⟩,M',e,C,by show M.Q1.length<=M'.Q1.length+2;omega,.inr ⟨ad,(L'.take (L'.length / 2)).length,_,[q],(L'.drop (L'.length / 2)).length,_,[o],AF n1 G,AF n2 I,by rw[<- J];exact he,λx E=>u.2.2 x E _ (by rw[hd];exact HQ),λy hy=>?_,R.1,R.2.2.1,?_,?_,st⟩⟩;have h5:=u.2.1;rw[hd] at hy h5;rcases zG.1 hy with rfl|hy;exact qS;exact sO (wq (x:=L'[L'.length / 2].1) (r:=dQ _) h5 y.1 (zY hy));rw[yK];show (dY k v).1 / 2<=_;omega;rw[yB];show (dY k v).1 / 2<=_;omega
def uF{es:List gJ}(u:(es.map (·.1)).head?=some [])(R:fM es):∃A e B,es=A++e::B/\A.length=eu ((es.map (·.1)).tail) key/\lO e.1 key/\(∀b∈B,fK key b.1)/\(es.map (·.2.x5)).getD (eu ((es.map (·.1)).tail) key) 0=e.2.x5:=by
 have U:=R.rising;have C:=zo ((es.map (·.1)).tail) key;have E:es≠[]:=λe=>by rw[e] at u;cases u
 have I:0<es.length:=length_pos_iff.2 E;have h:eu ((es.map (·.1)).tail) key<es.length:=(by rw[length_tail,zK] at C;omega);generalize J:eu ((es.map (·.1)).tail) key=c at h;have G:es=es.take c++es[c]::es.drop (c+1):=(by rw[<- zX h,xD]);refine⟨es.take c,es[c],es.drop (c+1),G,by rw[yK];omega,?_,λb V=>?_,?_⟩;cases c with
 | zero=>
  have:es[0].1=[]:=by
   cases es with
   | nil=>cases u
   | cons a r=>simpa using u
  rw[this];exact AZ _
 | succ c=>
  refine qof (l:=(es.map (·.1)).tail) (k:=key) ?_;rw[J];have h1:(es.map (·.1)).tail[c]?=some es[c+1].1:=(by rw[List.getElem?_tail,zQ,zA h];rfl);refine yE (i:=c) ?_;rw[xA,iP];exact h1
 refine qmo (l:=(es.map (·.1)).tail) U ?_;rw[J];have:(es.map (·.1)).tail.drop c=(es.drop (c+1)).map (·.1):=(by rw[<- drop_one,xC,xP,Nat.add_comm]);rw[this];exact zY V;rw[yQ,zQ,zA h];rfl
def qt{α:Type}{f:gJ->List α}{A B:List gJ}{e:gJ}:(A++e::B).flatMap f=A.flatMap f++(f e++B.flatMap f):=by rw[yP,yG]
def fM.put{A B:List gJ}{e:gJ}{s:ia}(h:fM (A++e::B))(I:lO e.1 key)(J:∀b∈B,fK key b.1)(U:∀x∈s.y3,x.1=key\/x∈e.2.y3):fM (A++(e.1,s)::B):=by have G:=pairwise_append.1 h.pair;have R:=yI.1 G.2.1;refine⟨pairwise_append.2 ⟨G.1,yI.2 ⟨λb u=>⟨(R.1 b u).1,λx E=>?_⟩,R.2⟩,λa V b u=>?_⟩,λb u x E=>?_⟩;rcases U x E with C|C;rw[C];exact J b u;exact (R.1 b u).2 x C;rcases zG.1 u with rfl|u;exact G.2.2 a V e oL;exact G.2.2 a V b (by simp[u]);rcases zD.1 u with u|u;exact h.low b (by simp[u]) x E;rcases zG.1 u with rfl|u;rcases U x E with C|C;rw[C];exact I;exact h.low e oL x C;exact h.low b (by simp[u]) x E
def fM.wv{A B:List gJ}{lo:Key}{s s1 s2:ia}(h:fM (A++(lo,s)::B))(G:s.y3=s1.y3++s2.y3)(h1:∀x∈s1.y3,fK x.1 m)(h2:∀y∈s2.y3,lO m y.1)(I:s1.y3≠[])(J:s2.y3≠[]):fM (A++(lo,s1)::(m,s2)::B):=by have hp:=pairwise_append.1 h.pair;have R:=yI.1 hp.2.1;have U:=h.low (lo,s) oL;obtain⟨x1,V⟩:=exists_mem_of_ne_nil _ I;obtain⟨y1,aa⟩:=exists_mem_of_ne_nil _ J;have hm:fK lo m:=AK (U x1 (by show x1∈s.y3;rw[G];exact zH _ V)) (h1 x1 V);have af:∀b∈B,fK m b.1:=λb u=>AK (h2 y1 aa) ((R.1 b u).2 y1 (by show y1∈s.y3;rw[G];exact zI _ aa));refine⟨pairwise_append.2 ⟨hp.1,yI.2 ⟨λb u=>?_,yI.2 ⟨λb u=>⟨af b u,λx C=>(R.1 b u).2 x (by show x∈s.y3;rw[G];exact zI _ C)⟩,R.2⟩⟩,λa ha b u=>?_⟩,λb u x C=>?_⟩;rcases zG.1 u with rfl|u;exact⟨hm,λx C=>h1 x C⟩;exact⟨(R.1 b u).1,λx C=>(R.1 b u).2 x (by show x∈s.y3;rw[G];exact zH _ C)⟩;have E:=hp.2.2 a ha (lo,s) oL;rcases zG.1 u with rfl|u;exact E;rcases zG.1 u with rfl|u;exact⟨pw E.1 hm,λx C=>pw (E.2 x C) hm⟩;exact hp.2.2 a ha b (by simp[u]);rcases zD.1 u with u|u;exact h.low b (by simp[u]) x C;rcases zG.1 u with rfl|u;exact U x (by show x∈s.y3;rw[G];exact zH _ C);rcases zG.1 u with rfl|u;exact h2 x C;exact h.low b (by simp[u]) x C
def DF{es:List gJ}:eT (dN es) k v=(es.length,(dY k v).2):=by unfold eT;rw[iN (show ¬(dN es).Q4=true from λe=>nomatch e)];show ((es.map _).length,_)=_;rw[zK]
def jG:List gJ->List gJ
 | []=>[]
 | e::r=>([],e.2)::r
def qyR(es:List gJ):dN (jG es)=dN es:=by cases es<;>rfl
def qw9{es:List gJ}{mid:Nat}(E:1<=mid)(h:mid<es.length):ef (dN es) mid=(dN (es.take mid),dN (jG (es.drop mid)),es[mid].1):=by
 unfold ef;rw[iN (show ¬(dN es).Q4=true from λe=>nomatch e),qyR];unfold dN;have e1:(es.map (·.1)).tail.take (mid-1)=((es.take mid).map (·.1)).tail:=by rw[<- drop_one,<- drop_one,xO,drop_take]
 have u:(es.map (·.1)).tail.drop mid=((es.drop mid).map (·.1)).tail:=(by rw[<- drop_one,<- drop_one,xP,xC,xC,Nat.add_comm]);have C:(es.map (·.1)).tail.getD (mid-1) []=es[mid].1:=(by rw[yQ,List.getElem?_tail,zQ,show mid-1+1=mid by omega,zA h];rfl);dsimp only;rw[e1,u,C];simp only[xO,xP]
def fM.take{es:List gJ}(h:fM es)(n:Nat):fM (es.take n):=⟨List.Pairwise.sublist (take_sublist n es) h.pair,λe u=>h.low e (yU u)⟩
def fM.drop{es:List gJ}(h:fM es)(n:Nat):fM (es.drop n):=⟨List.Pairwise.sublist (drop_sublist n es) h.pair,λe u=>h.low e (yT u)⟩
def fM.jG{es:List gJ}(h:fM es):fM (jG es):=by
 cases es with
 | nil=>exact h
 | cons e r=>
  have C:=yI.1 h.pair;refine⟨yI.2 ⟨λb u=>⟨?_,(C.1 b u).2⟩,C.2⟩,λb u x G=>?_⟩;have:=(C.1 b u).1
  cases E:b.1 with
  | nil=>rw[E] at this;exact absurd this qmz
  | cons y l=>show cmpL [] (y::l)<0;simp[cmpL]
  rcases zG.1 u with rfl|u;exact AZ _;exact h.low b (zN _ u) x G
def qoJ{α:Type}{f:ia->List α}(es:List gJ):(jG es).flatMap (λe=>f e.2)=es.flatMap λe=>f e.2:=by cases es<;>rfl
def qqX{P:ia->Prop}{es:List gJ}(h:∀e∈es,P e.2):∀e∈jG es,P e.2:=by
 cases es with
 | nil=>exact h
 | cons a r=>
  intro e u;rcases zG.1 u with rfl|u;exact h a oL;exact h e (zN _ u)
def qv5{es:List gJ}(h:es≠[]):((jG es).map (·.1)).head?=some []:=by cases es with|nil=>exact absurd rfl h|cons a r=>rfl
def qxN(es:List gJ):(jG es).length=es.length:=by cases es<;>rfl
def gu (k:Nat) (es:List gJ):Prop:=∀e∈es.tail,e.1.length=k/\eI e.1
def gu.tail{es:List gJ}(h:gu k es):∀a∈(es.map (·.1)).tail,a.length=k/\eI a:=λa u=>by rw[<- map_tail] at u;obtain⟨e,C,rfl⟩:=mem_map.1 u;exact h e C
def gu.of{es:List gJ}(h:ig (dN es) k v):gu k es:=λe u=>by have:e.1∈(dN es).J6:=(by show e.1∈(es.map (·.1)).tail;rw[<- map_tail];exact zY u);exact⟨h.right.1 _ this,h.J6 _ this⟩
def ud(u:M.Wf){x:Int}(h:dU M x):2<=x/\x<4294967296:=by have C:=AR u h;have E:=u.n4;omega
def zh{es:List gJ}(u:(es.map (·.1)).head?=some [])(C:ig (dN es) k v)(E:dI D M q=(4,gd (dN es),0))(G:fM es)(I:∀e∈es,Has D M k v h e.2/\minOf k v h<=e.2.size): Has D M k v (h+1) ⟨q,es.length,es.flatMap (·.2.y3),q::es.flatMap (·.2.y4)⟩:=⟨es,u,rfl,rfl,rfl,C,E,G,I⟩
def qyQ{A B:List gJ}{e:gJ}{s1 s2:ia}(R:((A++e::B).map (·.1)).head?=some []){g:Grown}(u:g.x5=s1.x5)(C:g.x4=s2.x5)(E:g.key=m)(G:g.x4≠0):gx (dN (A++e::B)) A.length g=dN (A++(e.1,s1)::(m,s2)::B):=by
 unfold gx;rw[iP G,u,C,E];unfold dN fI;dsimp only;congr 1;cases A with
 | nil=>simp
 | cons a A=>
  have:(A.map (·.1)++e.1::B.map (·.1)).take (A.length+1)=A.map (·.1)++[e.1]:=(by rw[show A.map (·.1)++e.1::B.map (·.1)=(A.map (·.1)++[e.1])++B.map (·.1) by simp];exact take_left' oL);have I:(A.map (·.1)++e.1::B.map (·.1)).drop (A.length+1)=B.map (·.1):=(by rw[show A.map (·.1)++e.1::B.map (·.1)=(A.map (·.1)++[e.1])++B.map (·.1) by simp];exact drop_left' oL);simp only[xM,xN,xI,tail_cons,yH];rw[this,I];simp
 have J:(A.map (·.2.x5)).length=A.length:=zK _;have h:(A.map (·.2.x5)++e.2.x5::B.map (·.2.x5)).set A.length s1.x5=(A.map (·.2.x5)++[s1.x5])++B.map (·.2.x5):=(by rw[set_append_right _ _ oJ,J,Nat.sub_self];simp);simp only[xM,xN];rw[h,take_left' oL,drop_left' oL];simp
def qw8{A B:List gJ}{e:gJ}{s1:ia}{g:Grown}(u:g.x5=s1.x5)(C:g.x4=0):gx (dN (A++e::B)) A.length g=dN (A++(e.1,s1)::B):=by unfold gx;rw[iN λh=>h C,u];unfold dN;dsimp only;have E:(A.map (·.2.x5)).length=A.length:=zK _;congr 1;simp;simp only[xM,xN];rw[set_append_right _ _ oJ,E,Nat.sub_self];rfl
def CB{α:Type}{a x b z:List α}:(a++(x++b)).Perm ((a++b)++x):=by rw[zV];exact List.Perm.append_left a perm_append_comm
def Step.node{M1 G:dV}{a x y:Il}{Q:Il}(I:∀z∈p::(a++(x++b)),dU M z)(J:(p::(a++(x++b))).Nodup)(R:Step D M M1 x y)(U:Step D M1 G [p] Q):Step D M G (p::(a++(x++b))) (Q++(a++(y++b))):=by have h:(p::(a++(x++b))).Perm ((p::(a++b))++x):=(by rw[xI];exact (CB (z:=a)).cons p);have C:=(R.beside (Z:=p::(a++b)) (λz E=>I z (h.mem_iff.2 (zH _ E))) (h.nodup_iff.1 J));have u:((p::(a++b))++y).Perm ((a++(y++b))++[p]):=(by refine List.Perm.trans ?_ perm_append_comm;rw[xI];exact ((CB (z:=a)).symm).cons p);have V:=U.beside (Z:=a++(y++b)) (λz E=>C.has z (u.mem_iff.2 (zH _ E))) (u.nodup_iff.1 C.nodup);exact ((C.perm (h.symm) u).trans V).perm (.refl _) perm_append_comm
def qmj{es:List gJ}{J8:Bool}(V:M.Wf)(I:M.Q3=false)(h0:(es.map (·.1)).head?=some [])(J:ig (dN es) k v)(u:es.length<=(dY k v).2)(hs:fM es)(E:∀e∈es,Has D M k v h e.2/\minOf k v h<=e.2.size)(hu:dU M p)(G:p∉es.flatMap (·.2.y4))(R:1<=M.Q1.length): ∃q M',fX k v M p (dN es) J8=((⟨q,J8,[],0⟩,0),M')/\Step D M M' [p] [q]/\Has D M' k v (h+1) ⟨q,es.length,es.flatMap (·.2.y3),q::es.flatMap (·.2.y4)⟩/\M.Q1.length<=M'.Q1.length+1:=by obtain⟨q,M',e,st,hr,hl⟩:=qmG (D:=D) (J8:=J8) V I J (by rw[DF];exact u) hu (λe=>by rw[e] at R;exact absurd R oM);refine⟨q,M',e,st,zh h0 J hr hs λb C=>⟨(E b C).1.q8 λx U=>?_,(E b C).2⟩,hl⟩;exact (st.rest x ((E b C).1.J4 I x U) λhm=>G (yJ.2 ⟨b,C,by rw[<- zE.1 hm];exact U⟩)).1
def Am{es:List gJ}(E:M.Wf)(G:M.Q3=false)(I:gu k es)(J:fM es)(R:2<=es.length)(U:es.length<=(dY k v).2)(u:∀e∈es,Has D M k v h e.2):ig (dN es) k v:=
 qz2 I.tail J.rising R U λe C=>ud E ((u e C).J4 G e.2.x5 (u e C).mem)
def qv6{es:List gJ}(h:gu k es):gu k (jG es):=by cases es<;>exact h
def qxa{es:List gJ}{J8:Bool}(hc:gY k v)(hW:M.Wf)(ho:M.Q3=false)(h0:(es.map (·.1)).head?=some [])(hk:gu k es)(aB:es.length=(dY k v).2+1)(hs:fM es)(R:∀e∈es,Has D M k v h e.2/\minOf k v h<=e.2.size)(hu:dU M p)(ao:p∉es.flatMap (·.2.y4))(hf:2<=M.Q1.length): ∃q o m M' U L1 P1 V L2 P2,fX k v M p (dN es) J8=((⟨q,J8,m,o⟩,0),M')/\o≠0/\Step D M M' [p] [q,o]/\Has D M' k v (h+1) ⟨q,U,L1,q::P1⟩/\Has D M' k v (h+1) ⟨o,V,L2,o::P2⟩/\L1++L2=es.flatMap (·.2.y3)/\P1++P2=es.flatMap (·.2.y4)/\(∀x∈L1,fK x.1 m)/\(∀y∈L2,lO m y.1)/\m.length=k/\eI m/\minOf k v (h+1)<=U/\minOf k v (h+1)<=V/\M.Q1.length<=M'.Q1.length+2:=by
 have aJ:=hc.inner;have C:es.length / 2<es.length:=oJ;have hh:=qw9 (es:=es) (mid:=es.length / 2) oJ C;have lt:(es.take (es.length / 2)).length=es.length / 2:=(by rw[yK];omega);have ld:(jG (es.drop (es.length / 2))).length=es.length-es.length / 2:=(by rw[qxN,yB]);have E:∀e∈es.take (es.length / 2),Has D M k v h e.2/\minOf k v h<=e.2.size:=λe u=>R e (yU u);have au:∀e∈jG (es.drop (es.length / 2)),Has D M k v h e.2/\minOf k v h<=e.2.size:=qqX (P:=λs=>Has D M k v h s/\minOf k v h<=s.size) λe u=>R e (yT u);have aa:=hs.take (es.length / 2);have ab:=(hs.drop (es.length / 2)).jG;have av:gu k (es.take (es.length / 2)):=λe u=>by refine hk e ?_;rw[<- drop_one,drop_take] at u;rw[<- drop_one];exact yU u
 have aw:gu k (jG (es.drop (es.length / 2))):=qv6 λe u=>by refine hk e ?_;rw[<- drop_one,xC,show es.length / 2+1=1+es.length / 2 by omega,<- xC] at u;rw[<- drop_one];exact yT u
 have U:=Am hW ho av aa oJ oJ λe u=>(E e u).1;have V:=Am hW ho aw ab oJ oJ λe u=>(au e u).1;have G:es.take (es.length / 2)++es.drop (es.length / 2)=es:=xD _ _;have hd:=zX C;obtain⟨q,o,M',e,ay,st,ac,ad,hl⟩:=qq4 (D:=D) (k:=k) (v:=v) (p:=p) (J8:=J8) (mid:=es.length / 2) (n:=dN es) hW ho (by rw[DF]) (by rw[hh];exact U) (by rw[hh];exact V) (by rw[DF];show es.length>_;omega) hu hf;rw[hh] at e ac ad;have fr:∀b∈es,∀x∈b.2.y4,dI D M' x=dI D M x:=λb I x J=>
  (st.rest x ((R b I).1.J4 ho x J) λhm=>ao (yJ.2 ⟨b,I,by rw[<- zE.1 hm];exact J⟩)).1
 have f1:∀e∈es.take (es.length / 2),Has D M' k v h e.2/\minOf k v h<=e.2.size:=λe u=>⟨(E e u).1.q8 (fr e (yU u)),(E e u).2⟩;have f2:∀e∈jG (es.drop (es.length / 2)),Has D M' k v h e.2/\minOf k v h<=e.2.size:=qqX (P:=λs=>Has D M' k v h s/\minOf k v h<=s.size) λe u=>⟨(R e (yT u)).1.q8 (fr e (yT u)),(R e (yT u)).2⟩;have az:((es.take (es.length / 2)).map (·.1)).head?=some []:=by
  rw[xO];cases af:es.map (·.1) with
  | nil=>rw[af] at h0;cases h0
  | cons a r=>
   rw[af] at h0;rw[show es.length / 2=(es.length / 2-1)+1 by omega,take_succ_cons];exact h0
 have aA:((jG (es.drop (es.length / 2))).map (·.1)).head?=some []:=qv5 (by rw[hd];exact cons_ne_nil _ _);have ag:=hs;rw[<- G,hd] at ag;have hm:=ag.mid;have ah:=hk es[es.length / 2] (by rw[<- drop_one];exact yE (i:=es.length / 2-1) (by rw[yZ,show 1+(es.length / 2-1)=es.length / 2 by omega,zA C]));have ep:(jG (es.drop (es.length / 2))).flatMap (·.2.y3)=(es.drop (es.length / 2)).flatMap (·.2.y3):=qoJ (f:=ia.y3) _;have eg:(jG (es.drop (es.length / 2))).flatMap (·.2.y4)=(es.drop (es.length / 2)).flatMap (·.2.y4):=qoJ (f:=ia.y4) _;have H2:=zh aA V ad ab f2;refine⟨q,o,es[es.length / 2].1,M',_,_,_,_,_,_,e,ay,st,zh az U ac aa f1,H2,?_,?_,λx J=>?_,λy hy=>?_,ah.1,ah.2,?_,?_,hl⟩;rw[ep,<- yP,G];rw[eg,<- yP,G];obtain⟨a,ha,J⟩:=yJ.1 J;exact hm.1 a ha x J;rw[ep,hd] at hy;obtain⟨b,I,hy⟩:=yJ.1 hy;rcases zG.1 I with rfl|I;exact hs.low _ (zW C) y hy;exact zw (sO (hm.2 b I).1) ((hm.2 b I).2.2 y hy);show (dY k v).2 / 2<=_;omega;show (dY k v).2 / 2<=_;omega
def Gx{A B:List gJ}{e:gJ}{s:ia}(h:gu k (A++e::B)):gu k (A++(e.1,s)::B):=by
 cases A with
 | nil=>exact h
 | cons a A=>
  intro b u;rcases zD.1 (show b∈A++(e.1,s)::B from u) with u|u;exact h b (show b∈A++e::B from zH _ u);rcases zG.1 u with rfl|u;exact h e (show e∈A++e::B from zI _ HQ);exact h b (show b∈A++e::B from zI _ (zN _ u))
def qsy{A B:List gJ}{e:gJ}{s1 s2:ia}(h:gu k (A++e::B))(G:m.length=k/\eI m):gu k (A++(e.1,s1)::(m,s2)::B):=by
 have E:∀b∈(m,s2)::B,(∀c∈B,c.1.length=k/\eI c.1)->b.1.length=k/\eI b.1:=λb u I=>(zG.1 u).elim (λe=>by rw[e];exact G) (I b);cases A with
 | nil=>exact λb u=>E b u λc C=>h c C
 | cons a A=>
  intro b u;rcases zD.1 (show b∈A++(e.1,s1)::(m,s2)::B from u) with u|u;exact h b (show b∈A++e::B from zH _ u);rcases zG.1 u with rfl|u;exact h e (show e∈A++e::B from zI _ HQ);exact E b u λc C=>h c (show c∈A++e::B from zI _ (zN _ C))
def quR(hc:gY k v){key val:Key}(hk:key.length=k/\eI key)(hv:val.length=v/\eI val):∀(h:Nat) (M:dV) (s:ia),Has D M k v h s->M.Wf->M.Q3=false->s.y4.Nodup->s.size<=1000->2*(h+1)<=M.Q1.length-> ∃g M',gV D k v key val (h+1) M s.x5=((g,0),M')/\vo D M k v h s key val g M'
 | 0,M,⟨p,n,L,P⟩,⟨h1,h2,h3,h4⟩,hW,ho,aT,_,hf=>by
  dsimp only at h1 h2 h3 h4;subst h1 h2;have hp:dU M p:=FO ho (by rw[h4]);have hl:dK D M k v p=(eh L,0):=h3.load h4;have hs:fg L:=h3.right.2.2.1;have hL:me k v L:=λx E=>⟨h3.right.1 x.1 (zY E),h3.right.2.1 x.2 (zY E),h3.J6 x.1 (zY E),h3.Q0 x.2 (zY E)⟩;have I:=h3.right.2.2.2;rw[iP (show (eh L).Q4=true from rfl)] at I;have a3:1<=L.length/\L.length<=(dY k v).1:=by have e:(eh L).J6.length=L.length:=zK _;rw[e] at I;exact⟨I.2.1,I.2.2.1⟩
  have aU:(eh L).J6=dQ L:=rfl;have aj:=qvE (v:=val) (k:=key) hs;have az:me k v (fJ key val L):=λx E=>(Bs E).elim (λe=>by rw[e];exact⟨hk.1,hv.1,hk.2,hv.2⟩) (hL x);have aA:=Dq (k:=key) (v:=val) hs;unfold gV;rw[hl];dsimp only;rw[iN λh=>h rfl,iP (show (eh L).Q4=true from rfl),aU];by_cases R:(dQ L)[dO (dQ L) key]?=some key;rw[iP R,qAZ R];rw[iP R] at aj;have ak:=CC (v:=val) hs ((wu hs).1 R);rw[aj] at az aA ak;exact qsU hc hW ho hp oJ az aA oJ oJ oJ aj.symm (by rw[zU λh=>h ((wu hs).1 R)]);rw[iN R,qAc];rw[iN R] at aj;have a4:key∉dQ L:=λh=>R ((wu hs).2 h);have ak:=DQ (v:=val) a4;rw[aj] at az aA ak;exact qsU hc hW ho hp oJ az aA oJ oJ oJ aj.symm (by rw[zZ a4])
 | h+1,M,⟨p,n,L,P⟩,⟨J,h0,h1,h2,h3,h4,h5,h6,h7⟩,hW,ho,aT,h8,hf=>by
  dsimp only at h1 h2 h3 h5 aT h8;subst h1 h2 h3;have hp:dU M p:=FO ho (by rw[h5]);have hl:dK D M k v p=(dN J,0):=h4.load h5;have bT:=h4.right.x9;obtain⟨A,e,B,G,hA,aV,aW,aX⟩:=uF (key:=key) h0 h6;have aY:(dN J).J9.getD (eu (dN J).J6 key) 0=e.2.x5:=aX;have bD:eu (dN J).J6 key=A.length:=hA.symm;have bE:e∈J:=(by rw[G];simp);obtain⟨aC,ao⟩:=h7 e bE;have ac:∀z∈p::J.flatMap (·.2.y4),dU M z:=λz hz=>(zG.1 hz).elim (λe=>by rw[e];exact hp) λhz=>by obtain⟨b,u,hz⟩:=yJ.1 hz;exact (h7 b u).1.J4 ho z hz
  have af:J.flatMap (·.2.y4)=A.flatMap (·.2.y4)++(e.2.y4++B.flatMap (·.2.y4)):=(by rw[G,qt]);have ad:J.flatMap (·.2.y3)=A.flatMap (·.2.y3)++(e.2.y3++B.flatMap (·.2.y3)):=(by rw[G,qt]);have U:=aT;have ah:=ac;rw[af] at U ah;have bF:e.2.size<=1000:=by
   have:=Cd (k:=k) (v:=v)
   cases h with
   | zero=>
    have h9:=aC.2.2.1.right.2.2.2;rw[iP (show (eh e.2.y3).Q4=true from rfl)] at h9;have bG:=h9.2.2.1;have e1:(eh e.2.y3).J6.length=e.2.y3.length:=zK _;rw[e1] at bG;rw[aC.2.1];omega
   | succ h=>
    obtain⟨b0,_,g1,_,_,g4,_⟩:=aC;have:=g4.right.x9;rw[g1];omega
  have a5:e.2.y4.Nodup:=(yL.1 (yL.1 (nodup_cons.1 U).2).2.1).1;obtain⟨g,M1,eg,ok⟩:=quR hc hk hv h M e.2 aC hW ho a5 bF oJ;have bI:=ok.Q1;have ai:=h6;rw[G] at ai;have ap:=ai.mid;have a6:∀x∈A.flatMap (·.2.y3),fK x.1 key:=λx E=>by obtain⟨a,ha,E⟩:=yJ.1 E;exact rg (ap.1 a ha x E) aV
  have a7:∀x∈B.flatMap (·.2.y3),fK key x.1:=λx E=>by obtain⟨b,u,E⟩:=yJ.1 E;exact rg (aW b u) ((ap.2 b u).2.2 x E)
  have aM:fJ key val (J.flatMap (·.2.y3))=A.flatMap (·.2.y3)++(fJ key val e.2.y3++B.flatMap (·.2.y3)):=(by rw[ad,BQ a6,qmk a7]);have aD:g.J8=decide (key∉dQ (J.flatMap (·.2.y3))):=by rw[ok.J8];refine decide_eq_decide.2 (not_congr ⟨λR=>?_,λR=>?_⟩);obtain⟨x,E,rfl⟩:=mem_map.1 R;exact zY (by rw[ad];exact zI _ (zH _ E));obtain⟨x,E,rfl⟩:=mem_map.1 R;rw[ad] at E;rcases zD.1 E with E|E;exact absurd (a6 x E) qS;rcases zD.1 E with E|E;exact zY E;exact absurd (a7 x E) qS
  have aq:p∉e.2.y4:=λR=>(nodup_cons.1 U).1 (zI _ (zH _ R));have a8:∀b,b∈A\/b∈B->∀z∈b.2.y4,z∉e.2.y4:=λb u z hz R=>by have h9:=yL.1 (nodup_cons.1 U).2;rcases u with u|u;exact h9.2.2 z (yJ.2 ⟨b,u,hz⟩) z (zH _ R) rfl;exact (yL.1 h9.2.1).2.2 z R z (yJ.2 ⟨b,u,hz⟩) rfl
  have ae:=gu.of h4;have a9:∀ {MM:dV} {Q:Il},Step D M MM e.2.y4 Q->p∉A.flatMap (·.2.y4)++(Q++B.flatMap (·.2.y4)):=λst R=>by have h9:=(nodup_cons.1 U).1;rcases zD.1 R with R|R;exact h9 (zH _ R);rcases zD.1 R with R|R;exact (st.rest p hp aq).2.2 R;exact h9 (zI _ (zI _ R))
  unfold gV;rw[hl];dsimp only;rw[iN λh=>h rfl,iN (show ¬(dN J).Q4=true from λe=>nomatch e),aY,eg];dsimp only;rw[iN λh=>h rfl,bD];have ab:∀ {MM:dV},(∀x∈p::J.flatMap (·.2.y4),x∉e.2.y4->dI D MM x=dI D M x)->∀b,b∈A\/b∈B->Has D MM k v h b.2/\minOf k v h<=b.2.size:=λhr b u=>by
   have aZ:b∈J:=by rw[G];rcases u with u|u<;>simp[u]
   exact⟨(h7 b aZ).1.q8 λx E=>hr x (zN _ (yJ.2 ⟨b,aZ,E⟩)) (a8 b u x E),(h7 b aZ).2⟩
  rcases ok.C1 with ⟨aE,n',P',aN,st,aO⟩|⟨aE,n1,L1,P1,n2,L2,P2,a',ba,aP,bb,bc,bd,bf,bJ,bK,st⟩;have V:((A++(e.1,(⟨g.x5,n',fJ key val e.2.y3,P'⟩:ia))::B).map (·.1)).head?=some []:=by rw[G] at h0;rw[xM,xN] at h0⊢;exact h0
  have aa:fM (A++(e.1,(⟨g.x5,n',fJ key val e.2.y3,P'⟩:ia))::B):=ai.put aV aW λx E=>(Bs E).imp (λe=>by rw[e]) id;have C:∀x∈p::J.flatMap (·.2.y4),x∉e.2.y4->dI D M1 x=dI D M x:=λx E a0=>(st.rest x (ac x E) a0).1;have I:(A++(e.1,(⟨g.x5,n',fJ key val e.2.y3,P'⟩:ia))::B).length=J.length:=(by rw[G];simp);have au:(A++(e.1,(⟨g.x5,n',fJ key val e.2.y3,P'⟩:ia))::B).flatMap (·.2.y3)=fJ key val (J.flatMap (·.2.y3)):=(by rw[qt,aM]);have ag:(A++(e.1,(⟨g.x5,n',fJ key val e.2.y3,P'⟩:ia))::B).flatMap (·.2.y4)=A.flatMap (·.2.y4)++(P'++B.flatMap (·.2.y4)):=(by rw[qt]);by_cases hsame:g.x5=e.2.x5/\g.x4=0;rw[iP hsame];have bg:dN (A++(e.1,(⟨g.x5,n',fJ key val e.2.y3,P'⟩:ia))::B)=dN J:=(by rw[G];unfold dN;simp[hsame.1]);have bL:dI D M1 p=(4,gd (dN (A++(e.1,(⟨g.x5,n',fJ key val e.2.y3,P'⟩:ia))::B)),0):=(by rw[C p oL aq,h5,bg]);refine⟨_,M1,rfl,aD,oJ,.inl ⟨rfl,J.length,p::(A.flatMap (·.2.y4)++(P'++B.flatMap (·.2.y4))),?_,?_,zM _⟩⟩;have:=zh V (by rw[bg];exact h4) bL aa (h:=h) λb u=>?_;rw[I,au,ag] at this;exact this;rcases zD.1 u with u|u;exact ab C b (.inl u);rcases zG.1 u with rfl|u;exact⟨aN,zL ao aO⟩;exact ab C b (.inr u);show Step D M M1 (p::J.flatMap (·.2.y4)) _;rw[af];have h9:=Step.node (p:=p) ah U st (Step.refl (D:=D) st.wf st.Q3 (P:=[p]) (λx E=>by rw[zE.1 E];exact (st.rest p hp aq).2.1) oL);exact h9;rw[iN hsame,G,qw8 (s1:=⟨g.x5,n',fJ key val e.2.y3,P'⟩) rfl aE];have al:∀b∈A++(e.1,(⟨g.x5,n',fJ key val e.2.y3,P'⟩:ia))::B,Has D M1 k v h b.2/\minOf k v h<=b.2.size:=λb u=>by rcases zD.1 u with u|u;exact ab C b (.inl u);rcases zG.1 u with rfl|u;exact⟨aN,zL ao aO⟩;exact ab C b (.inr u)
  have aH:gu k (A++(e.1,(⟨g.x5,n',fJ key val e.2.y3,P'⟩:ia))::B):=Gx (by rw[<- G];exact ae);have hN:=Am st.wf st.Q3 aH aa oJ oJ λb u=>(al b u).1;obtain⟨q,M2,e2,av,H2,ak⟩:=qmj (J8:=g.J8) st.wf st.Q3 V hN oJ aa al (st.rest p hp aq).2.1 (by rw[ag];exact a9 st) oJ;refine⟨_,M2,e2,by rw[<- G];exact aD,oJ,.inl ⟨rfl,J.length,q::(A.flatMap (·.2.y4)++(P'++B.flatMap (·.2.y4))),?_,?_,Nat.le_of_eq (by rw[G])⟩⟩;rw[I,au,ag] at H2;rw[<- G];exact H2;show Step D M M2 (p::(A++e::B).flatMap (·.2.y4)) _;rw[qt];exact Step.node (p:=p) ah U st av;have bj:L1≠[]:=a'.ne;have bk:L2≠[]:=ba.ne;rw[iN λh=>aE h.2];have aa:fM (A++(e.1,(⟨g.x5,n1,L1,P1⟩:ia))::(g.key,⟨g.x4,n2,L2,P2⟩)::B):=
   (ai.put (s:=⟨0,0,fJ key val e.2.y3,[]⟩) aV aW λx E=>(Bs E).imp (λe=>by rw[e]) id).wv aP.symm bb bc bj bk
  have V:((A++(e.1,(⟨g.x5,n1,L1,P1⟩:ia))::(g.key,⟨g.x4,n2,L2,P2⟩)::B).map (·.1)).head?=some []:=by
   rw[G] at h0;rw[xM,xN] at h0⊢;cases A with
   | nil=>exact h0
   | cons a A=>exact h0
  have C:∀x∈p::J.flatMap (·.2.y4),x∉e.2.y4->dI D M1 x=dI D M x:=λx E a0=>(st.rest x (ac x E) a0).1;have I:(A++(e.1,(⟨g.x5,n1,L1,P1⟩:ia))::(g.key,⟨g.x4,n2,L2,P2⟩)::B).length=J.length+1:=(by rw[G];simp;omega);have au:(A++(e.1,(⟨g.x5,n1,L1,P1⟩:ia))::(g.key,⟨g.x4,n2,L2,P2⟩)::B).flatMap (·.2.y3)=fJ key val (J.flatMap (·.2.y3)):=(by rw[qt,yG,aM,<- aP,zV]);have ag:(A++(e.1,(⟨g.x5,n1,L1,P1⟩:ia))::(g.key,⟨g.x4,n2,L2,P2⟩)::B).flatMap (·.2.y4)=A.flatMap (·.2.y4)++((P1++P2)++B.flatMap (·.2.y4)):=(by rw[qt,yG,zV P1]);have al:∀b∈A++(e.1,(⟨g.x5,n1,L1,P1⟩:ia))::(g.key,⟨g.x4,n2,L2,P2⟩)::B,Has D M1 k v h b.2/\minOf k v h<=b.2.size:=λb u=>by rcases zD.1 u with u|u;exact ab C b (.inl u);rcases zG.1 u with rfl|u;exact⟨a',bJ⟩;rcases zG.1 u with rfl|u;exact⟨ba,bK⟩;exact ab C b (.inr u)
  have aH:gu k (A++(e.1,(⟨g.x5,n1,L1,P1⟩:ia))::(g.key,⟨g.x4,n2,L2,P2⟩)::B):=qsy (by rw[<- G];exact ae) ⟨bd,bf⟩;have bl:p∉(A++(e.1,(⟨g.x5,n1,L1,P1⟩:ia))::(g.key,⟨g.x4,n2,L2,P2⟩)::B).flatMap (·.2.y4):=(by rw[ag];exact a9 st);have bm:=(st.rest p hp aq).2.1;have bN:gx (dN J) A.length g=dN (A++(e.1,(⟨g.x5,n1,L1,P1⟩:ia))::(g.key,⟨g.x4,n2,L2,P2⟩)::B):=(by rw[G];exact qyQ (by rw[<- G];exact h0) rfl rfl rfl aE);rw[bN];have bn:∀ {M2:dV} {Q:Il},Step D M1 M2 [p] Q->Step D M M2 (p::J.flatMap (·.2.y4)) (Q++(A.flatMap (·.2.y4)++((P1++P2)++B.flatMap (·.2.y4)))):=λh2=>by rw[af];exact Step.node (p:=p) ah U st h2
  by_cases u:J.length+1<=(dY k v).2;have hN:=Am st.wf st.Q3 aH aa oJ oJ λb u=>(al b u).1;obtain⟨q,M2,e2,av,H2,ak⟩:=qmj (J8:=g.J8) st.wf st.Q3 V hN oJ aa al bm bl oJ;rw[I,au,ag] at H2;exact⟨_,M2,e2,aD,oJ,.inl ⟨rfl,_,_,H2,bn av,by show J.length<=J.length+1;omega⟩⟩;obtain⟨q,o,m,M2,n3,L3,P3,n4,L4,P4,e2,bO,av,H3,H4,hL,hP,bP,a3,bo,bp,bQ,bR,ak⟩:=qxa (J8:=g.J8) hc st.wf st.Q3 V aH oJ aa al bm bl oJ;rw[au] at hL;rw[ag] at hP;refine⟨_,M2,e2,aD,oJ,.inr ⟨bO,_,_,_,_,_,_,H3,H4,hL,bP,a3,bo,bp,bQ,bR,?_⟩⟩;have:=bn av;rw[<- hP] at this;refine this.perm (.refl _) ?_;show (q::o::(P3++P4)).Perm (q::(P3++o::P4));exact (perm_middle.symm).cons q
end
end
section
def gN {α:Type} (l:List α) (i:Nat):List α:=l.take i++l.drop (i+1)
def oU (n:dM) (k v:Nat):Prop:=(eT n k v).1<(eT n k v).2 / 2
def iT (n:dM) (k v:Nat):Prop:=(eT n k v).1>(eT n k v).2 / 2
def iU (l r:dM) (key:Key):dM×dM×Key:=
 if l.Q4 then
  ({ l with J6:=l.J6.take (l.J6.length-1),Q0:=l.Q0.take (l.J6.length-1) },
  { r with J6:=l.J6.getD (l.J6.length-1) []::r.J6,Q0:=l.Q0.getD (l.J6.length-1) []::r.Q0 },l.J6.getD (l.J6.length-1) [])
 else
  ({ l with J6:=l.J6.take (l.J6.length-1),J9:=l.J9.take (l.J6.length-1+1) },
  { r with J6:=key::r.J6,J9:=l.J9.getD (l.J6.length-1+1) 0::r.J9 },l.J6.getD (l.J6.length-1) [])
def takeN (l r:dM) (key:Key):dM×dM×Key:=
 if l.Q4 then
  ({ l with J6:=l.J6++[r.J6.getD 0 []],Q0:=l.Q0++[r.Q0.getD 0 []] },{ r with J6:=r.J6.drop 1,Q0:=r.Q0.drop 1 },(r.J6.drop 1).getD 0 [])
 else
  ({ l with J6:=l.J6++[key],J9:=l.J9++[r.J9.getD 0 0] },{ r with J6:=r.J6.drop 1,J9:=r.J9.drop 1 },r.J6.getD 0 [])
def kP (l r:dM) (key:Key):dM:=⟨l.Q4,(if l.Q4 then l.J6 else l.J6++[key])++r.J6,l.Q0++r.Q0,l.J9++r.J9⟩
noncomputable def lI (k v:Nat) (M:dV) (n:dM) (i:Nat) (l r:dM):(dM×Int)×dV:=
 if (dP k v M (n.J9.getD i 0) (kP l r (n.J6.getD i []))).1.2≠0 then ((ir,(dP k v M (n.J9.getD i 0) (kP l r (n.J6.getD i []))).1.2),(dP k v M (n.J9.getD i 0) (kP l r (n.J6.getD i []))).2)
 else if (fq (dP k v M (n.J9.getD i 0) (kP l r (n.J6.getD i []))).2 (n.J9.getD (i+1) 0)).1≠0 then ((ir,(fq (dP k v M (n.J9.getD i 0) (kP l r (n.J6.getD i []))).2 (n.J9.getD (i+1) 0)).1),(fq (dP k v M (n.J9.getD i 0) (kP l r (n.J6.getD i []))).2 (n.J9.getD (i+1) 0)).2)
 else (({ n with J9:=gN (n.J9.set i (dP k v M (n.J9.getD i 0) (kP l r (n.J6.getD i []))).1.1) (i+1),J6:=gN n.J6 i },0),(fq (dP k v M (n.J9.getD i 0) (kP l r (n.J6.getD i []))).2 (n.J9.getD (i+1) 0)).2)
noncomputable def nd (k v:Nat) (M:dV) (n:dM) (i:Nat) (r:dM×dM×Key):(dM×Int)×dV:=
 if (dP k v M (n.J9.getD i 0) r.1).1.2≠0 then ((ir,(dP k v M (n.J9.getD i 0) r.1).1.2),(dP k v M (n.J9.getD i 0) r.1).2)
 else (({ n with J6:=n.J6.set i r.2.2,J9:=(n.J9.set i (dP k v M (n.J9.getD i 0) r.1).1.1).set (i+1) (dP k v (dP k v M (n.J9.getD i 0) r.1).2 (n.J9.getD (i+1) 0) r.2.1).1.1 },(dP k v (dP k v M (n.J9.getD i 0) r.1).2 (n.J9.getD (i+1) 0) r.2.1).1.2),(dP k v (dP k v M (n.J9.getD i 0) r.1).2 (n.J9.getD (i+1) 0) r.2.1).2)
noncomputable def jF (D:dJ) (k v:Nat) (M:dV) (n:dM) (side c:Nat) (x:dM):(dM×Int)×dV:=
 if (dK D M k v (n.J9.getD side 0)).2≠0 then ((ir,(dK D M k v (n.J9.getD side 0)).2),M)
 else if side<c then
  if ¬iT (dK D M k v (n.J9.getD side 0)).1 k v then lI k v M n side (dK D M k v (n.J9.getD side 0)).1 x
  else nd k v M n side (iU (dK D M k v (n.J9.getD side 0)).1 x (n.J6.getD side []))
 else
  if ¬iT (dK D M k v (n.J9.getD side 0)).1 k v then lI k v M n c x (dK D M k v (n.J9.getD side 0)).1
  else nd k v M n c (takeN x (dK D M k v (n.J9.getD side 0)).1 (n.J6.getD c []))
noncomputable def hU (D:dJ) (k v:Nat) (key:Key):Nat->dV->Int->(dM×Int)×dV
 | 0,M,_=>((ir,-1),M)
 | f+1,M,p=>
  if (dK D M k v p).2≠0 then ((ir,(dK D M k v p).2),M)
  else if (dK D M k v p).1.Q4 then
   if (dK D M k v p).1.J6[dO (dK D M k v p).1.J6 key]?=some key then (({ (dK D M k v p).1 with J6:=gN (dK D M k v p).1.J6 (dO (dK D M k v p).1.J6 key),Q0:=gN (dK D M k v p).1.Q0 (dO (dK D M k v p).1.J6 key) },0),M)
   else ((ir,5),M)
  else if (hU D k v key f M ((dK D M k v p).1.J9.getD (eu (dK D M k v p).1.J6 key) 0)).1.2≠0 then
   ((ir,(hU D k v key f M ((dK D M k v p).1.J9.getD (eu (dK D M k v p).1.J6 key) 0)).1.2),(hU D k v key f M ((dK D M k v p).1.J9.getD (eu (dK D M k v p).1.J6 key) 0)).2)
  else if ¬oU (hU D k v key f M ((dK D M k v p).1.J9.getD (eu (dK D M k v p).1.J6 key) 0)).1.1 k v then
   (({ (dK D M k v p).1 with J9:=(dK D M k v p).1.J9.set (eu (dK D M k v p).1.J6 key) (dP k v (hU D k v key f M ((dK D M k v p).1.J9.getD (eu (dK D M k v p).1.J6 key) 0)).2 ((dK D M k v p).1.J9.getD (eu (dK D M k v p).1.J6 key) 0) (hU D k v key f M ((dK D M k v p).1.J9.getD (eu (dK D M k v p).1.J6 key) 0)).1.1).1.1 },
    (dP k v (hU D k v key f M ((dK D M k v p).1.J9.getD (eu (dK D M k v p).1.J6 key) 0)).2 ((dK D M k v p).1.J9.getD (eu (dK D M k v p).1.J6 key) 0) (hU D k v key f M ((dK D M k v p).1.J9.getD (eu (dK D M k v p).1.J6 key) 0)).1.1).1.2),
    (dP k v (hU D k v key f M ((dK D M k v p).1.J9.getD (eu (dK D M k v p).1.J6 key) 0)).2 ((dK D M k v p).1.J9.getD (eu (dK D M k v p).1.J6 key) 0) (hU D k v key f M ((dK D M k v p).1.J9.getD (eu (dK D M k v p).1.J6 key) 0)).1.1).2)
  else if eu (dK D M k v p).1.J6 key>0 then
   jF D k v (hU D k v key f M ((dK D M k v p).1.J9.getD (eu (dK D M k v p).1.J6 key) 0)).2 (dK D M k v p).1 (eu (dK D M k v p).1.J6 key-1) (eu (dK D M k v p).1.J6 key) (hU D k v key f M ((dK D M k v p).1.J9.getD (eu (dK D M k v p).1.J6 key) 0)).1.1
  else jF D k v (hU D k v key f M ((dK D M k v p).1.J9.getD (eu (dK D M k v p).1.J6 key) 0)).2 (dK D M k v p).1 (eu (dK D M k v p).1.J6 key+1) (eu (dK D M k v p).1.J6 key) (hU D k v key f M ((dK D M k v p).1.J9.getD (eu (dK D M k v p).1.J6 key) 0)).1.1
section
variable {D:dJ} {M M':dV} {k v:Nat}
def ji (D:dJ) (M:dV) (k v:Nat):Nat->dM->Nat->fP->Il->Prop
 | 0,N,n,L,R=>N=eh L/\n=L.length/\R=[]/\me k v L/\fg L/\n<=(dY k v).1
 | h+1,N,n,L,R=>∃u:List gJ,(u.map (·.1)).head?=some []/\N=dN u/\n=u.length/\L=u.flatMap (·.2.y3)/\R=u.flatMap (·.2.y4)/\gu k u/\fM u/\n<=(dY k v).2/\∀e∈u,Has D M k v h e.2/\minOf k v h<=e.2.size
def oneOf (h:Nat):Nat:=if h=0 then 1 else 2
def ji.size{n:Nat}(u:ji D M k v h N n L R):eT N k v=(n,if h=0 then (dY k v).1 else (dY k v).2):=by
 cases h with
 | zero=>
  obtain⟨rfl,rfl,_⟩:=u;exact CI
 | succ h=>
  obtain⟨C,_,rfl,rfl,_⟩:=u;exact DF
def ji.J4{h:Nat}{N:dM}{n:Nat}{L:fP}{R:Il}(E:M.Q3=false)(C:ji D M k v h N n L R):∀x∈R,dU M x:=by
 cases h with
 | zero=>obtain⟨_,_,rfl,_⟩:=C;exact λx u=>nomatch u
 | succ h=>
  obtain⟨J,_,_,_,_,rfl,_,_,_,G⟩:=C;intro x u;obtain⟨e,I,u⟩:=yJ.1 u;exact (G e I).1.J4 E x u
def ji.q8{h:Nat}{N:dM}{n:Nat}{L:fP}{R:Il}(C:ji D M k v h N n L R)(G:∀x∈R,dI D M' x=dI D M x):ji D M' k v h N n L R:=by
 cases h with
 | zero=>exact C
 | succ h=>
  obtain⟨I,J,U,V,h4,rfl,h6,h7,h8,E⟩:=C;exact⟨I,J,U,V,h4,rfl,h6,h7,h8,λe u=>⟨(E e u).1.q8 λx hx=>G x (yJ.2 ⟨e,u,hx⟩),(E e u).2⟩⟩
def ji.ok{n:Nat}(E:M.Wf)(G:M.Q3=false)(u:ji D M k v h N n L R)(C:oneOf h<=n):ig N k v:=by
 cases h with
 | zero=>
  obtain⟨rfl,rfl,_,I,J,U⟩:=u;exact BB I J C U
 | succ h=>
  obtain⟨es,h2,rfl,rfl,h4,rfl,V,h7,h8,he⟩:=u;exact Am E G V h7 C h8 λe hm=>(he e hm).1
def ji.stored{n:Nat}(G:M.Wf)(I:M.Q3=false)(C:ji D M k v h N n L R)(J:oneOf h<=n)(E:dI D M q=(iE N,gd N,0)):Has D M k v h ⟨q,n,L,q::R⟩:=by
 have u:=C.ok G I J;cases h with
 | zero=>
  obtain⟨rfl,rfl,rfl,hL,hs,hl⟩:=C;exact AF u E
 | succ h=>
  obtain⟨es,U,rfl,rfl,rfl,rfl,h6,V,h8,he⟩:=C;exact zh U u E V he
def Has.load{h:Nat}{s:ia}(V:Has D M k v h s):∃N R,dK D M k v s.x5=(N,0)/\ji D M k v h N s.size s.y3 R/\s.y4=s.x5::R/\N.Q4=decide (h=0)/\oneOf h<=s.size:=by
 cases h with
 | zero=>
  obtain⟨G,I,C,J⟩:=V;have u:=C.right.2.2.2;rw[iP (show (eh s.y3).Q4=true from rfl)] at u;have e:(eh s.y3).J6.length=s.y3.length:=zK _;rw[e] at u;exact⟨eh s.y3,[],C.load J,⟨rfl,I,rfl,λx U=>⟨C.right.1 x.1 (zY U),C.right.2.1 x.2 (zY U),C.J6 x.1 (zY U),C.Q0 x.2 (zY U)⟩,C.right.2.2.1,by rw[I];exact u.2.2.1⟩,G,rfl,by rw[I];exact u.2.1⟩
 | succ h=>
  obtain⟨es,h0,G,I,C,J,h5,h6,h7⟩:=V;have E:=J.right.x9;exact⟨dN es,_,J.load h5,⟨es,h0,rfl,G,I,rfl,gu.of J,h6,by rw[G];exact E.2,h7⟩,C,rfl,by rw[G];exact E.1⟩
def ji.store{n:Nat}(G:M.Wf)(u:M.Q3=false)(C:ji D M k v h N n L R)(I:oneOf h<=n)(V:dU M p)(E:p∉R)(J:1<=M.Q1.length): ∃q M',dP k v M p N=((q,0),M')/\Step D M M' [p] [q]/\Has D M' k v h ⟨q,n,L,q::R⟩/\M.Q1.length<=M'.Q1.length+1:=by obtain⟨q,M',e,st,hr,hl,_⟩:=E4 (D:=D) G u (C.ok G u I) V (λe=>by rw[e] at J;exact absurd J oM);exact⟨q,M',e,st,(C.q8 λx U=>(st.rest x (C.J4 u x U) λhm=>E (by rw[<- zE.1 hm];exact U)).1).stored st.wf st.Q3 I hr,hl⟩
def qAa{h u:fP}{z:Key×Key}:iU (eh (h++[z])) (eh u) key=(eh h,eh (z::u),z.1):=by unfold iU;rw[iP (show (eh _).Q4=true from rfl)];unfold eh;simp
def qAd{h u:fP}{z y:Key×Key}:takeN (eh h) (eh (z::y::u)) key=(eh (h++[z]),eh (y::u),y.1):=by unfold takeN;rw[iP (show (eh _).Q4=true from rfl)];unfold eh;simp
def qAb{h u:fP}:kP (eh h) (eh u) key=eh (h++u):=by unfold kP;unfold eh;simp
def qz3{a z b:gJ}{h u:List gJ}:iU (dN (a::h++[z])) (dN (b::u)) key=(dN (a::h),dN (([],z.2)::(key,b.2)::u),z.1):=by unfold iU;rw[iN (show ¬(dN _).Q4=true from λe=>nomatch e)];unfold dN;simp
def qz5{h u:List gJ}{a z y:gJ}:takeN (dN (a::h)) (dN (z::y::u)) key=(dN (a::h++[(key,z.2)]),dN (([],y.2)::u),y.1):=by unfold takeN;rw[iN (show ¬(dN _).Q4=true from λe=>nomatch e)];unfold dN;simp
def qz4{h u:List gJ}{a b:gJ}:kP (dN (a::h)) (dN (b::u)) key=dN (a::h++(key,b.2)::u):=by unfold kP;unfold dN;simp
def fM.te{a b:List gJ}(u:fM a)(C:fM b)(h:∀x∈a,∀y∈b,fK x.1 y.1/\∀z∈x.2.y3,fK z.1 y.1):fM (a++b):=
 ⟨pairwise_append.2 ⟨u.pair,C.pair,λx E y G=>h x E y G⟩,λe I=>(zD.1 I).elim (u.low e) (C.low e)⟩
def fM.sub{a b:List gJ}(h:fM b)(u:a.Sublist b):fM a:=⟨h.pair.sublist u,λe C=>h.low e (u.subset C)⟩
def Fv{e:gJ}(h:∀x∈e.2.y3,lO e.1 x.1):fM [e]:=⟨pairwise_singleton _ _,λa u=>by rw[zE.1 u];exact h⟩
def quF{a b:Key}(h:fK a b):fK [] b:=by
 cases b with
 | nil=>exact absurd h qmz
 | cons y l=>show cmpL [] (y::l)<0;simp[cmpL]
def fM.head{x:gJ}{r:List gJ}(h:fM (x::r))(E:∀b∈r,fK m b.1)(G:∀y∈x.2.y3,lO m y.1):fM ((m,x.2)::r):=by have C:=yI.1 h.pair;exact⟨yI.2 ⟨λb u=>⟨E b u,(C.1 b u).2⟩,C.2⟩,λb u=>(zG.1 u).elim (λe=>by rw[e];exact G) λu=>h.low b (zN _ u)⟩
def Es{x:gJ}{r:List gJ}(C:fM (x::r))(E:Has D M k v h x.2)(G:∀y∈x.2.y3,lO m y.1):∀b∈r,fK m b.1:=λb I=>by obtain⟨y,u⟩:=exists_mem_of_ne_nil _ E.ne;exact AK (G y u) (((yI.1 C.pair).1 b I).2 y u)
structure tv (D:dJ) (M:dV) (k v:Nat) (h:Nat) (r:dM×dM×Key) (L:fP) (P:Il):Prop where
 C1:∃ n1 L1 R1 n2 L2 R2,ji D M k v h r.1 n1 L1 R1/\ji D M k v h r.2.1 n2 L2 R2/\L1++L2=L/\R1++R2=P/\(∀ x∈L1,fK x.1 r.2.2)/\(∀ y∈L2,lO r.2.2 y.1)/\r.2.2.length=k/\eI r.2.2/\minOf k v h<=n1/\minOf k v h<=n2/\L1≠[]/\L2≠[]
def gY.min(u:gY k v)(h:Nat):oneOf h<=minOf k v h/\1<=minOf k v h:=by have C:=u.Q4;have E:=u.inner;unfold oneOf minOf;split<;>omega
def qzV{es:List gJ}(C:∀e∈es,Has D M k v h e.2/\minOf k v h<=e.2.size)(u:es≠[]):es.flatMap (·.2.y3)≠[]:=by
 cases es with
 | nil=>exact absurd rfl u
 | cons a r=>intro e;rw[yG] at e;exact (C a oL).1.ne (append_eq_nil_iff.1 e).1
def qzX(E:gY k v){L1 L2:fP}(hl:ji D M k v h Nl n1 L1 R1)(hr:ji D M k v h Nr n2 L2 R2)(h1:minOf k v h<n1)(h2:n2+1=minOf k v h)(h3:∀x∈L1,fK x.1 key)(h4:∀y∈L2,lO key y.1)(hk:key.length=k/\eI key): tv D M k v h (iU Nl Nr key) (L1++L2) (R1++R2):=by
 have av:=E.min h;cases h with
 | zero=>
  obtain⟨rfl,rfl,rfl,ak,J,R⟩:=hl;obtain⟨rfl,rfl,rfl,aw,U,al⟩:=hr;have am:L1≠[]:=λe=>by rw[e] at h1;simp at h1
  obtain⟨L,z,rfl⟩:∃L z,L1=L++[z]:=⟨L1.dropLast,L1.getLast am,(xZ am).symm⟩;rw[qAa];have hz:=ak z oL;have an:=fg.te.1 J;rw[zF] at h1 R;have ax:fg (z::L2):=by refine yI.2 ⟨λa ha=>?_,U⟩;obtain⟨y,C,rfl⟩:=mem_map.1 ha;exact rg (h3 z oL) (h4 y C)
  have ay:minOf k v 0=(dY k v).1 / 2:=rfl;refine⟨L.length,L,[],L2.length+1,z::L2,[],⟨rfl,rfl,rfl,ak.sub λx I=>zH _ I,an.1,?_⟩,⟨rfl,rfl,rfl,λx I=>(zG.1 I).elim (λe=>by rw[e];exact hz) (aw x),ax,oJ⟩,oL,rfl,λx I=>an.2.2 x I z oL,λy C=>?_,hz.1,hz.2.2.1,?_,oJ,?_,oL⟩;simp at R;omega;rcases zG.1 C with rfl|C;exact qS;exact sO (rg (h3 z oL) (h4 y C));simp at h1;omega;intro e;rw[e] at h1;simp at h1;omega
 | succ h=>
  obtain⟨ad,az,rfl,rfl,rfl,rfl,ao,J,R,ae⟩:=hl;obtain⟨u,aA,rfl,rfl,rfl,rfl,aB,U,al,af⟩:=hr;obtain⟨a,G,z,rfl⟩:∃a G z,ad=a::G++[z]:=by
   have:2<=ad.length:=(by have:=av.1;unfold oneOf at this;rw[iN] at this;omega);match ad,this with
   | a::b::r,_=>exact⟨a,(b::r).dropLast,(b::r).getLast oL,by rw[xI,xZ]⟩
  obtain⟨b,u,rfl⟩:∃b G,u=b::G:=by
   cases u with
   | nil=>cases aA
   | cons b r=>exact⟨b,r,rfl⟩
  rw[qz3];have hz:=ae z oL;have ap:=ao z (show z∈G++[z] by simp);have aq:=fM.mid (A:=a::G) (e:=z) (B:=[]) J;have V:fK z.1 key:=by obtain⟨x,I⟩:=exists_mem_of_ne_nil _ hz.1.ne;exact AK (J.low z oL x I) (h3 x (yJ.2 ⟨z,oL,I⟩))
  have ar:∀y∈b.2.y3,lO key y.1:=λy C=>h4 y (by rw[yG];exact zH _ C);have ag:∀c∈u,fK key c.1:=Es U (af b oL).1 ar;have ah:fM (([],z.2)::(key,b.2)::u):=by refine fM.te (a:=[([],z.2)]) (Fv λx _=>AZ _) (U.head ag ar) λx I y C=>?_;rw[zE.1 I];rcases zG.1 C with rfl|C;exact⟨quF V,λw hw=>h3 w (yJ.2 ⟨z,oL,hw⟩)⟩;exact⟨quF (ag y C),λw hw=>pw (h3 w (yJ.2 ⟨z,oL,hw⟩)) (ag y C)⟩
  have ay:minOf k v (h+1)=(dY k v).2 / 2:=rfl;simp only[zF,yH,xJ] at h1 h2 R al;have aD:(a::G++[z]).flatMap (·.2.y3)=(a::G).flatMap (·.2.y3)++z.2.y3:=(by simp[yP]);have aE:(a::G++[z]).flatMap (·.2.y4)=(a::G).flatMap (·.2.y4)++z.2.y4:=(by simp[yP]);refine⟨G.length+1,(a::G).flatMap (·.2.y3),(a::G).flatMap (·.2.y4),u.length+2,z.2.y3++(b.2.y3++u.flatMap (·.2.y3)),z.2.y4++(b.2.y4++u.flatMap (·.2.y4)),⟨a::G,az,rfl,rfl,rfl,rfl,λc E=>ao c (show c∈G++[z] from zH _ E),J.sub (sublist_append_left _ _),oJ,λc E=>ae c (zH _ E)⟩,⟨([],z.2)::(key,b.2)::u,rfl,rfl,rfl,rfl,rfl,λc E=>(zG.1 E).elim (λe=>by rw[e];exact hk) (aB c),ah,oJ,λc E=>?_⟩,?_,?_,λx I=>?_,λy C=>?_,ap.1,ap.2,oJ,oJ,?_,?_⟩;rcases zG.1 E with rfl|E;exact hz;rcases zG.1 E with rfl|E;exact af b oL;exact af c (by simp[E]);rw[aD];simp only[yG,zV];rw[aE];simp only[yG,zV];obtain⟨c,E,I⟩:=yJ.1 I;exact aq.1 c E x I;rcases zD.1 C with C|C;exact J.low z oL y C;exact zw (sO V) (h4 y (by rw[yG];exact C));exact qzV (λc E=>ae c (zH _ E)) oL;intro e;exact hz.1.ne (append_eq_nil_iff.1 e).1
def qxj{es:List gJ}(E:fM es)(G:∀e∈es,Has D M k v h e.2/\minOf k v h<=e.2.size)(I:∀x∈es.flatMap (·.2.y3),fK x.1 key):∀e∈es,fK e.1 key:=λe u=>by obtain⟨x,C⟩:=exists_mem_of_ne_nil _ (G e u).1.ne;exact AK (E.low e u x C) (I x (yJ.2 ⟨e,u,C⟩))
def qAy(hc:gY k v){L1 L2:fP}(hl:ji D M k v h Nl n1 L1 R1)(hr:ji D M k v h Nr n2 L2 R2)(h1:n1+1=minOf k v h)(h2:minOf k v h<n2)(h3:∀x∈L1,fK x.1 key)(h4:∀y∈L2,lO key y.1)(hk:key.length=k/\eI key): tv D M k v h (takeN Nl Nr key) (L1++L2) (R1++R2):=by
 have hmn:=hc.min h;cases h with
 | zero=>
  obtain⟨rfl,rfl,rfl,hL1,hs1,hb1⟩:=hl;obtain⟨rfl,rfl,rfl,hL2,hs2,hb2⟩:=hr;obtain⟨z,y,L,rfl⟩:∃z y L,L2=z::y::L:=by
   match L2,h2 with
   | [],h=>simp at h
   | [_],h=>simp at h;omega
   | z::y::L,_=>exact⟨z,y,L,rfl⟩
  rw[qAd];have hz:=hL2 z oL;have hy:=hL2 y oL;have hcs:=yI.1 (show (z.1::dQ (y::L)).Pairwise fK from hs2);simp only[yH] at h2 hb2;have hml:minOf k v 0=(dY k v).1 / 2:=rfl;have hzy:fK z.1 y.1:=hcs.1 y.1 oL;refine⟨L1.length+1,L1++[z],[],L.length+1,y::L,[],⟨rfl,oL,rfl,λx hx=>(zD.1 hx).elim (hL1 x) λhx=>by rw[zE.1 hx];exact hz,?_,oJ⟩,⟨rfl,oL,rfl,λx hx=>hL2 x (zN _ hx),hcs.2,oJ⟩,oL,rfl,λx hx=>?_,λw hw=>?_,hy.1,hy.2.2.1,oJ,oJ,oL,oL⟩;exact fg.te.2 ⟨hs1,pairwise_singleton _ _,λx hx w hw=>by rw[zE.1 hw];exact rg (h3 x hx) (h4 z oL)⟩;rcases zD.1 hx with hx|hx;exact pw (rg (h3 x hx) (h4 z oL)) hzy;rw[zE.1 hx];exact hzy;rcases zG.1 hw with rfl|hw;exact qS;exact sO ((yI.1 (show (y.1::dQ L).Pairwise fK from hcs.2)).1 w.1 (zY hw))
 | succ h=>
  obtain⟨es1,hh1,rfl,rfl,rfl,rfl,hk1,hs1,hb1,hp1⟩:=hl;obtain⟨es2,hh2,rfl,rfl,rfl,rfl,hk2,hs2,hb2,hp2⟩:=hr;obtain⟨a,es,rfl⟩:∃a es,es1=a::es:=by
   cases es1 with
   | nil=>cases hh1
   | cons b r=>exact⟨b,r,rfl⟩
  obtain⟨z,y,es2,rfl⟩:∃z y es,es2=z::y::es:=by
   have h9:=hmn.2;match es2,h2 with
   | [],h=>simp at h
   | [_],h=>simp at h;omega
   | z::y::L,_=>exact⟨z,y,L,rfl⟩
  rw[qz5];have hz:=hp2 z oL;have hyk:=hk2 y (show y∈y::es2 by simp);have hz4:∀w∈z.2.y3,lO key w.1:=λw hw=>h4 w (by rw[yG];exact zH _ hw);have hky:fK key y.1:=Es hs2 hz.1 hz4 y oL;have hcs:=yI.1 hs2.pair;have hcy:=yI.1 hcs.2;have hsl:fM (a::es++[(key,z.2)]):=fM.te hs1 (Fv hz4) λx hx w hw=>by rw[zE.1 hw];exact⟨qxj hs1 hp1 h3 x hx,λq hq=>h3 q (yJ.2 ⟨x,hx,hq⟩)⟩
  have hsr:fM (([],y.2)::es2):=fM.jG (es:=y::es2) (hs2.sub (H0 _ _));have hml:minOf k v (h+1)=(dY k v).2 / 2:=rfl;simp only[yH] at h1 h2 hb1 hb2;refine⟨es.length+2,(a::es).flatMap (·.2.y3)++z.2.y3,(a::es).flatMap (·.2.y4)++z.2.y4,es2.length+1,y.2.y3++es2.flatMap (·.2.y3),y.2.y4++es2.flatMap (·.2.y4),⟨a::es++[(key,z.2)],hh1,rfl,oL,by simp[yP],by simp[yP],λc hc=>?_,hsl,oJ,λc hc=>?_⟩,⟨([],y.2)::es2,rfl,rfl,rfl,rfl,rfl,λc hc=>hk2 c (show c∈y::es2 from zN _ hc),hsr,oJ,λc hc=>?_⟩,?_,?_,λx hx=>?_,λw hw=>?_,hyk.1,hyk.2,oJ,oJ,?_,?_⟩;rcases zD.1 (show c∈es++[(key,z.2)] from hc) with hc|hc;exact hk1 c hc;rw[zE.1 hc];exact hk;rcases zD.1 hc with hc|hc;exact hp1 c hc;rw[zE.1 hc];exact hz;rcases zG.1 hc with rfl|hc;exact hp2 y oL;exact hp2 c (by simp[hc]);simp only[yG,zV];simp only[yG,zV];rcases zD.1 hx with hx|hx;exact pw (h3 x hx) hky;exact (hcs.1 y oL).2 x hx;rcases zD.1 hw with hw|hw;exact hs2.low y oL w hw;obtain⟨c,hc,hw⟩:=yJ.1 hw;exact zw (sO (hcy.1 c hc).1) (hs2.low c (by simp[hc]) w hw);intro e;exact hz.1.ne (append_eq_nil_iff.1 e).2;intro e;exact (hp2 y oL).1.ne (append_eq_nil_iff.1 e).1
def qz6{L1 L2:fP}(hl:ji D M k v h Nl n1 L1 R1)(hr:ji D M k v h Nr n2 L2 R2)(h1:n1+n2<=(if h=0 then (dY k v).1 else (dY k v).2))(h3:∀x∈L1,fK x.1 key)(h4:∀y∈L2,lO key y.1)(hk:key.length=k/\eI key): ji D M k v h (kP Nl Nr key) (n1+n2) (L1++L2) (R1++R2):=by
 cases h with
 | zero=>
  obtain⟨rfl,rfl,rfl,aj,E,ak⟩:=hl;obtain⟨rfl,rfl,rfl,al,G,am⟩:=hr;rw[qAb];exact⟨rfl,oL,rfl,λx U=>(zD.1 U).elim (aj x) (al x),fg.te.2 ⟨E,G,λx U y I=>rg (h3 x U) (h4 y I)⟩,h1⟩
 | succ h=>
  obtain⟨aa,ab,rfl,rfl,rfl,rfl,an,E,ak,ac⟩:=hl;obtain⟨C,ao,rfl,rfl,rfl,rfl,ap,G,am,J⟩:=hr;obtain⟨a,V,rfl⟩:∃a V,aa=a::V:=by
   cases aa with
   | nil=>cases ab
   | cons b r=>exact⟨b,r,rfl⟩
  obtain⟨b,C,rfl⟩:∃b V,C=b::V:=by
   cases C with
   | nil=>cases ao
   | cons b r=>exact⟨b,r,rfl⟩
  rw[qz4];have ad:∀y∈b.2.y3,lO key y.1:=λy I=>h4 y (by rw[yG];exact zH _ I);have R:=Es G (J b oL).1 ad;refine⟨a::V++(key,b.2)::C,ab,rfl,by simp;omega,by simp[yP],by simp[yP],λc u=>?_,fM.te E (G.head R ad) λx U y I=>?_,by simpa using h1,λc u=>?_⟩;rcases zD.1 (show c∈V++(key,b.2)::C from u) with u|u;exact an c u;rcases zG.1 u with rfl|u;exact hk;exact ap c u;have ae:=qxj E ac h3 x U;have af:∀w∈x.2.y3,fK w.1 key:=λw hw=>h3 w (yJ.2 ⟨x,U,hw⟩);rcases zG.1 I with rfl|I;exact⟨ae,af⟩;exact⟨pw ae (R y I),λw hw=>pw (af w hw) (R y I)⟩;rcases zD.1 u with u|u;exact ac c u;rcases zG.1 u with rfl|u;exact J b oL;exact J c (by simp[u])
end
end
section
section
variable {D:dJ} {M M':dV} {k v:Nat}
def Step.part{M1:dV}{a x y:Il}(C:∀z∈a++(x++b),dU M z)(E:(a++(x++b)).Nodup)(h:Step D M M1 x y):Step D M M1 (a++(x++b)) (a++(y++b)):=by have u:(a++(x++b)).Perm ((a++b)++x):=CB (z:=a);exact ((h.beside (Z:=a++b) (λz G=>C z (u.mem_iff.2 (zH _ G))) (u.nodup_iff.1 E)).perm u.symm (CB (z:=a)).symm)
def Step.kid{M1 u:dV}{h Q:Il}(C:∀z∈p::R,dU M z)(E:(p::R).Nodup)(G:Step D M M1 R h)(I:Step D M1 u [p] Q):Step D M u (p::R) (Q++h):=by
 have:=Step.node (D:=D) (p:=p) (a:=[]) (b:=[]) (x:=R) (y:=h) (Q:=Q) (oP C) (oP E) G I;simpa using this
def FS{A B:List gJ}{e1 h:gJ}:((A++e1::h::B).map (·.1)).tail.getD A.length []=h.1:=by
 cases A with
 | nil=>rfl
 | cons a A=>simp
def zj{A B:List gJ}{e1 h:gJ}:((A++e1::h::B).map (·.2.x5)).getD A.length 0=e1.2.x5/\((A++e1::h::B).map (·.2.x5)).getD (A.length+1) 0=h.2.x5:=by constructor;simp;simp
def qAu{A B:List gJ}{e1 h:gJ}{s1 s2:ia}:(⟨false,((A++e1::h::B).map (·.1)).tail.set A.length m,[],(((A++e1::h::B).map (·.2.x5)).set A.length s1.x5).set (A.length+1) s2.x5⟩:dM)=dN (A++(e1.1,s1)::(m,s2)::B):=by
 unfold dN;congr 1;cases A with
 | nil=>rfl
 | cons a A=>simp[set_append_right]
 simp[set_append_right]
def qzR{A B:List gJ}{e1 C:gJ}{s:ia}:(⟨false,gN ((A++e1::C::B).map (·.1)).tail A.length,[],gN (((A++e1::C::B).map (·.2.x5)).set A.length s.x5) (A.length+1)⟩:dM)=dN (A++(e1.1,s)::B):=by
 have G:(A.map (·.2.x5)).length=A.length:=zK _;unfold dN gN;congr 1;cases A with
 | nil=>rfl
 | cons a A=>
  have u:((a::A++e1::C::B).map (·.1)).tail=(A.map (·.1)++[e1.1])++(C.1::B.map (·.1)):=oL;have E:((a::A++(e1.1,s)::B).map (·.1)).tail=(A.map (·.1)++[e1.1])++B.map (·.1):=oL;have h:(A.map (·.1)++[e1.1]).length=(a::A).length:=oL;rw[u,E,take_left' h,<- h,drop_length_add_append];rfl
 have u:((A++e1::C::B).map (·.2.x5)).set A.length s.x5=(A.map (·.2.x5)++[s.x5])++(C.2.x5::B.map (·.2.x5)):=(by rw[xM,set_append_right _ _ oJ,G,Nat.sub_self];simp);have h:(A.map (·.2.x5)++[s.x5]).length=A.length+1:=oL;rw[u,take_left' h,<- h,drop_length_add_append];simp
def qAt{A B:List gJ}{e:gJ}{s:ia}:(⟨false,((A++e::B).map (·.1)).tail,[],((A++e::B).map (·.2.x5)).set A.length s.x5⟩:dM)=dN (A++(e.1,s)::B):=by
 have h:(A.map (·.2.x5)).length=A.length:=zK _;unfold dN;congr 1;cases A with
 | nil=>rfl
 | cons a A=>simp
 rw[xM,set_append_right _ _ oJ,h,Nat.sub_self];simp
structure sG (D:dJ) (M:dV) (k v:Nat) (h:Nat) (A B:List gJ) (e1 e2:gJ) (Nl Nr:dM) (n1 n2:Nat) (L1 L2:fP) (R1 R2:Il):Prop where
 wf:M.Wf
 Q3:M.Q3=false
 head:((A++e1::e2::B).map (·.1)).head?=some []
 J6:gu k (A++e1::e2::B)
 sep:fM (A++(e1.1,⟨0,0,L1,[]⟩)::(e2.1,⟨0,0,L2,[]⟩)::B)
 len:A.length+B.length+2<=(dY k v).2
 rest:∀ b,b∈A\/b∈B->Has D M k v h b.2/\minOf k v h<=b.2.size
 left:ji D M k v h Nl n1 L1 R1
 right:ji D M k v h Nr n2 L2 R2
 use:∀ x∈A.flatMap (·.2.y4)++(((e1.2.x5::R1)++(e2.2.x5::R2))++B.flatMap (·.2.y4)),dU M x
 nodup:(A.flatMap (·.2.y4)++(((e1.2.x5::R1)++(e2.2.x5::R2))++B.flatMap (·.2.y4))).Nodup
def sG.wC{A B:List gJ}{e1 u:gJ}{G I:dM}{E C:fP}{J:Il}(H:sG D M k v h A B e1 u G I n1 n2 E C J R):(∀x∈E,fK x.1 u.1)/\(∀y∈C,lO u.1 y.1)/\u.1.length=k/\eI u.1:=by have U:=pairwise_append.1 H.sep.pair;have V:=yI.1 U.2.1;have hk:=H.J6 u (by cases A<;>simp);exact⟨(V.1 (u.1,⟨0,0,C,[]⟩) oL).2,H.sep.low (u.1,⟨0,0,C,[]⟩) oL,hk⟩
def quh(hc:gY k v){A B:List gJ}{e1 E:gJ}{L1 L2:fP}(H:sG D M k v h A B e1 E Nl Nr n1 n2 L1 L2 R1 R2){r:dM×dM×Key}(hr:tv D M k v h r (L1++L2) (R1++R2))(hf:2<=M.Q1.length): ∃N M' R,nd k v M (dN (A++e1::E::B)) A.length r=((N,0),M')/\ji D M' k v (h+1) N (A.length+B.length+2) (A.flatMap (·.2.y3)++((L1++L2)++B.flatMap (·.2.y3))) R/\ Step D M M' (A.flatMap (·.2.y4)++(((e1.2.x5::R1)++(E.2.x5::R2))++B.flatMap (·.2.y4))) R/\M.Q1.length<=M'.Q1.length+2:=by
 obtain⟨m1,K1,I,m2,K2,J,aN,aO,eL,eR,aP,aQ,aR,aT,aU,aV,aB,aC⟩:=hr.C1;have bh:=hc.min h;have ad:=H.use;have au:=H.nodup;have pm:(((e1.2.x5::R1)++(E.2.x5::R2))).Perm (e1.2.x5::E.2.x5::(R1++R2)):=by rw[xI];exact (perm_middle).cons _
 rw[<- eR] at pm;have aa:∀x,x∈e1.2.x5::E.2.x5::(I++J)->x∈A.flatMap (·.2.y4)++(((e1.2.x5::R1)++(E.2.x5::R2))++B.flatMap (·.2.y4)):=λx C=>zI _ (zH _ (pm.mem_iff.2 C));have aj:(e1.2.x5::E.2.x5::(I++J)).Nodup:=pm.nodup_iff.1 (yL.1 (yL.1 au).2.1).1;have ab:=nodup_cons.1 aj;have ak:=nodup_cons.1 ab.2;have aW:=ad _ (aa e1.2.x5 oL);have aE:=ad _ (aa E.2.x5 oL);obtain⟨G,M1,s1,ae,H1,bj⟩:=aN.store H.wf H.Q3 oJ aW (λhm=>ab.1 (zN _ (zH _ hm))) oJ;have U:∀x,dU M x->x≠e1.2.x5->dI D M1 x=dI D M x/\dU M1 x/\x≠G:=λx C av=>by
  have:=ae.rest x C (oP av);exact⟨this.1,this.2.1,by simpa using this.2.2⟩
 have af:E.2.x5≠e1.2.x5:=λe=>ab.1 (by rw[e];simp);have aY:ji D M1 k v h r.2.1 m2 K2 J:=aO.q8 λx C=>(U x (ad x (aa x (by simp[C]))) λe=>ab.1 (by rw[<- e];simp[C])).1;obtain⟨V,M2,s2,aF,H2,bm⟩:=aY.store ae.wf ae.Q3 oJ (U _ aE af).2.1 (λhm=>ak.1 (zI _ hm)) oJ;have ag:∀x,dU M1 x->x≠E.2.x5->dI D M2 x=dI D M1 x/\dU M2 x/\x≠V:=λx C av=>by
  have:=aF.rest x C (oP av);exact⟨this.1,this.2.1,by simpa using this.2.2⟩
 have al:∀x∈G::I,dU M1 x/\x≠E.2.x5:=λx C=>by refine⟨H1.J4 ae.Q3 x C,λe=>?_⟩;rcases zG.1 C with e'|C;rcases ae.new G oL with h9|h9;exact af (by rw[<- e,e',zE.1 h9]);exact h9 (by rw[<- e',e];exact aE);exact ak.1 (zH _ (e▸C))
 have aZ:Has D M2 k v h ⟨G,m1,K1,G::I⟩:=H1.q8 λx C=>(ag x (al x C).1 (al x C).2).1;have a0:∀b,b∈A\/b∈B->∀x∈b.2.y4,dU M x/\x≠e1.2.x5/\x≠E.2.x5:=λb u x C=>by
  have hd:=yL.1 au;have a1:=yL.1 hd.2.1;have aG:∀z,z=e1.2.x5\/z=E.2.x5->z∈(e1.2.x5::R1)++(E.2.x5::R2):=λz hz=>pm.mem_iff.2 (by rcases hz with rfl|rfl<;>simp);have key:∀z,z=e1.2.x5\/z=E.2.x5->x≠z:=λz hz e=>by rcases u with u|u;exact hd.2.2 x (yJ.2 ⟨b,u,C⟩) z (zH _ (aG z hz)) e;exact a1.2.2 z (aG z hz) x (yJ.2 ⟨b,u,C⟩) e.symm
  refine⟨ad x ?_,key _ (.inl rfl),key _ (.inr rfl)⟩;rcases u with u|u;exact zH _ (yJ.2 ⟨b,u,C⟩);exact zI _ (zI _ (yJ.2 ⟨b,u,C⟩))
 have ah:∀b,b∈A\/b∈B->Has D M2 k v h b.2/\minOf k v h<=b.2.size:=λb u=>⟨(H.rest b u).1.q8 λx C=>by have h9:=a0 b u x C;have h8:=U x h9.1 h9.2.1;exact ((ag x h8.2.1 h9.2.2).1).trans h8.1,(H.rest b u).2⟩;have hL:K1++K2=L1++L2:=eL;have aH:fM (A++(e1.1,(⟨G,m1,K1,G::I⟩:ia))::(r.2.2,⟨V,m2,K2,V::J⟩)::B):=by
  have hS:=H.sep;have hp:=pairwise_append.1 hS.pair;have ai:=yI.1 hp.2.1;have aJ:=yI.1 ai.2;have hj:fM (A++(e1.1,(⟨0,0,L1++L2,[]⟩:ia))::B):=by refine⟨pairwise_append.2 ⟨hp.1,yI.2 ⟨λb u=>⟨(ai.1 b (by simp[u])).1,λx C=>?_⟩,aJ.2⟩,λa ha b u=>?_⟩,λb u x C=>?_⟩;rcases zD.1 C with C|C;exact (ai.1 b (by simp[u])).2 x C;exact (aJ.1 b u).2 x C;rcases zG.1 u with rfl|u;exact hp.2.2 a ha (e1.1,⟨0,0,L1,[]⟩) oL;exact hp.2.2 a ha b (by simp[u]);rcases zD.1 u with u|u;exact hS.low b (by simp[u]) x C;rcases zG.1 u with rfl|u;rcases zD.1 C with C|C;exact hS.low (e1.1,⟨0,0,L1,[]⟩) oL x C;have h9:=hS.low (E.1,⟨0,0,L2,[]⟩) oL x C;exact zw (sO (ai.1 (E.1,⟨0,0,L2,[]⟩) oL).1) h9;exact hS.low b (by simp[u]) x C
  exact hj.wv hL.symm aP aQ aB aC
 have aw:gu k (A++(e1.1,(⟨G,m1,K1,G::I⟩:ia))::(r.2.2,⟨V,m2,K2,V::J⟩)::B):=by
  have h9:gu k (A++e1::B):=λb u=>H.J6 b (by
   cases A with
   | nil=>exact zN _ u
   | cons a A=>
    rcases zD.1 (show b∈A++e1::B from u) with u|u;exact zH (e1::E::B) u;exact zI A ((zG.1 u).elim (λe=>by rw[e];simp) λu=>by simp[u]))
  exact qsy h9 ⟨aR,aT⟩
 have ax:((A++(e1.1,(⟨G,m1,K1,G::I⟩:ia))::(r.2.2,⟨V,m2,K2,V::J⟩)::B).map (·.1)).head?=some []:=by
  have h9:=H.head;cases A with
  | nil=>exact h9
  | cons a A=>exact h9
 refine⟨dN (A++(e1.1,(⟨G,m1,K1,G::I⟩:ia))::(r.2.2,⟨V,m2,K2,V::J⟩)::B),M2,_,?_,⟨_,ax,rfl,by simp;omega,?_,rfl,aw,aH,H.len,λb u=>?_⟩,?_,oJ⟩;have a2:(dN (A++e1::E::B)).J9.getD A.length 0=e1.2.x5:=zj.1;have a3:(dN (A++e1::E::B)).J9.getD (A.length+1) 0=E.2.x5:=zj.2;unfold nd;rw[a2,a3,s1];dsimp only;rw[iN λh=>h rfl,s2];exact H9 (λN=>((N,(0:Int)),M2)) (qAu (s1:=⟨G,m1,K1,G::I⟩) (s2:=⟨V,m2,K2,V::J⟩));rw[qt,yG,<- hL,zV];rcases zD.1 u with u|u;exact ah b (.inl u);rcases zG.1 u with rfl|u;exact⟨aZ,aU⟩;rcases zG.1 u with rfl|u;exact⟨H2,aV⟩;exact ah b (.inr u);have t1:Step D M M1 (e1.2.x5::E.2.x5::(I++J)) ([G]++E.2.x5::(I++J)):=by
  have:=ae.beside (Z:=E.2.x5::(I++J)) (λx C=>ad x (aa x (zN _ C))) (by have p9:(e1.2.x5::E.2.x5::(I++J)).Perm ((E.2.x5::(I++J))++[e1.2.x5]):=(HO _ _).symm;exact p9.nodup_iff.1 aj);exact this.perm (HO _ _) perm_append_comm
 have aK:∀x∈[G]++(I++J),dU M1 x:=λx C=>t1.has x (by rcases zD.1 C with C|C;exact zH _ C;exact zI _ (zN _ C));have p8:([G]++E.2.x5::(I++J)).Perm (([G]++(I++J))++[E.2.x5]):=(by exact perm_middle.trans<|(HO _ _).symm);have t2:=aF.beside (Z:=[G]++(I++J)) aK (p8.nodup_iff.1 t1.nodup);have t3:=(t1.perm (.refl _) p8).trans t2;have p7:(([G]++(I++J))++[V]).Perm ((G::I)++(V::J)):=(by show (G::((I++J)++[V])).Perm (G::(I++V::J));refine List.Perm.cons _ ((HO _ _).trans ?_);exact perm_middle.symm);have t4:=Step.part (D:=D) (a:=A.flatMap (·.2.y4)) (b:=B.flatMap (·.2.y4)) ad au (t3.perm pm.symm p7);rw[qt,yG];refine t4.perm (.refl _) ?_;rw[zV]
end
end
end
end Go.Proofs.YtpcmehldpoljfaaGreatDoor
