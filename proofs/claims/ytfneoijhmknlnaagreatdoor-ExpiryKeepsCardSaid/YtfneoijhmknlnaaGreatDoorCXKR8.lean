/- Conditions: those that stand in each line. -/
import Derived.Test.YtfneoijhmknlnaaGreatDoorCXKR7
set_option linter.unusedVariables false
set_option linter.unusedSimpArgs false
set_option linter.defProp false
namespace Go.Proofs.YtfneoijhmknlnaaGreatDoor
section
open Go Go.Pt List
open Go.IntKind (wrap)
open Classical
def tf:List (HL fS):=[lC,lC]
def sY:List Pn:=[((0:Int),(1:Int),(0:Int),(2:Int),(0:Int),(0:Int),(0:Int)),((0:Int),(1:Int),(0:Int),(5:Int),(3:Int),(0:Int),(0:Int))]
def qAK:(k5 (jm tf sY).due 9 9).length=1:=by kernel_rfl
def qAJ:gO ((eX (jo (jm tf sY) (k5 (jm tf sY).due 9 9) 9) ((0:Int),(1:Int))).getD lC)=((0:Int),(2:Int)):=by kernel_rfl
attribute [local irreducible] ld dT iF pC kc fv st new idx kN kG fZ kJ jX nt ib nn call eF inv run fK i3 join loop held ext kC fl oW pD pG IntKind.wrap
def qyj{α:Type}{enc:α->List Kk}{k:Nat}{w:Kj}{r:Nat}{cs:Array Kk}{T:Kl}{l:List α}(u:∀x,(enc x).length=k)(E:w.heap[r]?=some (.c cs T))(C:cs.toList=l.flatMap enc):eE enc k [] w ⟨pW r,l.length,l.length⟩ l:=by have G:cs.size=l.length*k:=(by rw[<- Ki,C,rQ u]);exact fB.kZ (B:=[r]) u (.inr ⟨r,0,cs,T,rfl,rfl,rfl,E,rfl,zM _,by dsimp only;omega,by rw[xH,C];exact zS (by rw[rQ u];exact zM _)⟩) λ_ _ h=>nomatch h
section
variable {w0 W w w':Kj} {Y F F':Kr} {L L':Kz} {sb c:Nat} {b bs br bs' br':Bk} {ri r':oq}
def pF.init(u:SB W Y sb F c b)(C:RB F W ri b)(f:Fr [] w0 W)(E:∀x∈F,w0.heap.size<=x)(G:w0.heap.size<=sb):pF w0 W Y [] sb F c b b ri:=⟨oF [] W,u,C,f,(λ_ h=>nomatch h),E,G,(λh=>nomatch h)⟩
end
structure AP (b:Bk):Prop where
 snd:tM b
 many:b.many<=258
 gone:b.gn+b.due.length<=25
def AP.built{la:List (HL fS)}{lp:List Pn}(h:la.length<=8)(u:lp.length<=25)(C:∀a∈la,eQ fS a)(E:∀x∈lp,eQ qu x):AP (jm la lp):=by obtain⟨G,I,J,O⟩:=qtU h u C E;exact⟨G,I,oK⟩
def AP.ok{b:Bk}(h:AP b)(first most n:Int):pN c9 b (k5 b.due first most) n:=(h.snd.yv qss (by have:=H7;have:=h.many;omega)).1
def AP.small{b:Bk}(h:AP b):b.size<=258:=zL (Nat.le_add_right _ _) h.many
def qoC{w:Kj}{K:Bool->WP}(hv:Hv w)(kk:∀w',Fr [] w w'->K true w'):cW 8 [] dr w K:=by
 refine qhU ?_;unfold qdW;refine oB (oF [] w) λr1 w1 _ f1 o=>oB o λr3 w2 _ f2 o=>?_;have J:∀a∈tf,eQ fS a:=λa O=>by simp only[tf,zG,xZ,or_false] at O;rcases O with rfl|rfl<;>exact BN
 have Q:∀x∈sY,eQ qu x:=λx R=>by simp only[sY,zG,xZ,or_false] at R;rcases R with rfl|rfl;exact⟨show (0:Int)<=0/\(0:Int)<=255 from⟨oN,oN⟩,show (0:Int)<=1/\(1:Int)<=255 from⟨oN,oN⟩,rG,tc (x:=2) ⟨oN,oN⟩,show (0:Int)<=0/\(0:Int)<=4294967295 from⟨oN,oN⟩,show (0:Int)<=0/\(0:Int)<=255 from⟨oN,oN⟩,AR (x:=0) ⟨oN,oN⟩⟩;exact⟨show (0:Int)<=0/\(0:Int)<=255 from⟨oN,oN⟩,show (0:Int)<=1/\(1:Int)<=255 from⟨oN,oN⟩,rG,tc (x:=5) ⟨oN,oN⟩,show (0:Int)<=3/\(3:Int)<=4294967295 from⟨oN,oN⟩,show (0:Int)<=0/\(0:Int)<=255 from⟨oN,oN⟩,AR (x:=0) ⟨oN,oN⟩⟩
 have C:=AP.built (la:=tf) (lp:=sY) oN oN J Q;have U:IntKind.u64.has 9:=tc (x:=9) ⟨oN,oN⟩;have ae:=C.small;have hg:=C.gone;have af:=C.many;refine qzb (Y:=[]) (la:=tf) (lp:=sY) (λ_ h=>nomatch h) (λh=>nomatch h) (hv.q8 o.fr) (qyj (λ_=>rfl) (o.at (i:=1) rfl) rfl) (qyj (λ_=>rfl) (o.at (i:=0) rfl) rfl) J Q oN oN λsb F ri w3 hS hR nF ns V=>?_;have h:=pF.init hS hR V nF ns;have o:=o.q8 V;refine oB h.own λr7 w4 _ _ u=>u.st' 0 rfl _ (iJ rfl) rfl (zM _) λw5 u _=>JK rfl ?_;have h:=h.J0 u;clear u;refine qyV h.sB U C.snd.due oK (C.ok 9 9 9) λF6 w6 h6 s6=>?_;have h:=h.qB h6 s6;refine FJ h.sB (i0:=0) (i1:=1) ⟨rG,tc (x:=1) ⟨oN,oN⟩⟩ λw7 f7=>?_;have h:=h.q8 f7;refine oB h.own λan w8 _ _ u=>u.st' 0 rfl _ (iJ rfl) rfl (zM _) λw9 u _=>?_;have h:=h.J0 u;clear u;refine Kq h.own 1 rfl ri (qw5 h.rb h.lt C.snd U oK oK λao ap G I=>?_);have h:=h.qa I G;refine oB h.own λaq ar _ _ u=>u.st' 0 rfl _ (iJ rfl) rfl (zM _) λE u _=>?_;have h:=h.J0 u;clear u;rw[qAK];refine JJ rfl (JJ rfl (JJ rfl ?_));refine oC h.own 1 rfl (gO ((eX (jo (jm tf sY) (k5 (jm tf sY).due 9 9) 9) ((0:Int),(1:Int))).getD lC)) rfl<|AI (b:=((0:Int),(2:Int))) ?_;rw[qAJ,yA rfl];have f:Fr [] w E:=(f1.trans f2).trans h.fr;exact kk E f
end
section
open Go Go.Pt List
open Go.IntKind (wrap)
open Classical
attribute [local irreducible] ld dT iF pC kc fv st new idx kN kG fZ kJ jX nt ib nn call eF inv run fK i3 join loop held ext kC fl oW pD pG IntKind.wrap
abbrev c6:Nat:=(600-2)-gV (600-2)
def qCa:500<=c6/\c6<=100000:=by decide
def qpA{w:Kj}{sl Q:Sl}{lp:List Pa}{O:Kt}{K:Bool->WP}(R:Hv w)(hp:eE kM 32 [] w sl lp)(fp:∀p∈lp,eQ fS p.1/\eQ fS p.2.1)(hs:eE (λn=>[Value.int .u64 n]) 1 [] w Q O)(fs:∀x∈O,IntKind.u64.has x)(kk:∀w',Fr [] w w'->K true w'): cW 6 [sl.v,Q.v] dr w K:=by refine qeO ?_;have ai:sl.len=lp.length:=hp.1;have aj:Q.len=O.length:=hs.1;have hz:=xd;have U:=qCa;refine eV (λ_=>qoC R kk) λhc=>?_;have hc:=zB hc;refine qqZ (n:=600) [] (λ_ h=>nomatch h) (λh=>nomatch h) R oN oN λsb pb dbk FD F D w1 hS hM f1 n1=>JK rfl ?_;have h:=pF.start (Y:=[]) (L:=[]) (oF [] w) hS U.2 f1 n1;refine oB h.own λr5 w2 _ _ o=>?_;have h:=h.J0 o;clear o;refine kx (λx W=>∃i:Nat,∃F ri b,x=i/\i<=lp.length/\pF w W [] [(r5,uW ri)] sb F c6 b b ri/\b.size<=4*i) (λx _=>lp.length-x.toNat) ⟨0,F,wO,FP,rfl,yY _,h,zM _⟩ ?_;clear h;rintro x W ⟨i,F,ri,b,rfl,hi,h,ao⟩ X hX;refine eV (λG=>?_) λG=>?_;have C:i<lp.length:=(by have:=zC G;omega);have hx:=zA C;have u:=fp _ (zX C);generalize lp[i]=p at hx u;refine eE.i4 (hp.q8 h.fr) rf i rfl hx (oJ h.own hz λV w3 _ o=>mE (rf p) (o.st' 0 rfl _ (iJ rfl) rfl (zM _) λw4 o _=>?_));have h:=h.J0 o;clear o;refine je (λn w'=>IntKind.u64.has n/\w'=w4) ?_ ?_;refine eV (λI=>?_) λI=>?_;have J:i<O.length:=(by have:=zC I;omega);exact eE.BG (c:=.w) (hs.q8 h.fr) i rfl (zA J) oN rfl ⟨fs _ (zX J),rfl⟩;rw[rz (i:Int) ⟨oK,oK⟩];exact⟨tc (x:=(i:Int)) ⟨oK,oK⟩,rfl⟩;rintro n w' ⟨hn,rfl⟩;refine Kq h.own 1 rfl ri (nI (h.own.at (i:=0) rfl) _ (rf p) rfl (qsb h.rb oK h.lt u.1 u.2 λE w5 h5 f5=>?_));have h:=h.qa f5 h5;refine h.own.st' 1 rfl _ (iJ rfl) rfl (zM _) λw6 o _=>?_;have h:=h.J0 o;clear o;have ax:=EZ (b:=b) (p:=p) (n:=n);have hI:ln (gB p.1):=⟨u.1.1,u.1.2.1⟩;have hJ:ln (gB p.2.1):=⟨u.2.1,u.2.2.1⟩;refine je (λq w'=>q=false/\∃F',pF w w' [] [(V,.c (kM p).toArray qb),(r5,uW E)] sb F' c6 (fI b p n) (fI b p n) E) ?_ ?_;have h:=h.J0 h.own.drew;refine nI (h.own.at (i:=0) rfl) _ (rf p) rfl (quy h.sB u.1 u.2 hn oK λF7 w7 h7 s7=>JK rfl ?_);have h:=h.qB h7 s7;refine Kq h.own 0 rfl (gB p.2.1) (Kq h.own 0 rfl (gB p.1) (Kq h.own 1 rfl E (Kq h.own 0 rfl (gB p.2.1) (Kq h.own 0 rfl (gB p.1) ?_))));refine E1 (i:=gB p.2.1) (j:=gB p.1) h.sB hJ hI λw8 f8=>?_;have h:=h.q8 f8;refine nA (h.own.cells 0) (h.own.cells 0) (h.own.cells 1) (Bs (i:=gB p.2.1) (j:=gB p.1) h.rb oK λw9 f9=>?_);exact Eu (t:=qb) 4 oN oL oL ⟨rfl,F7,h.q8 f9⟩;rintro q w' ⟨rfl,F',h⟩;rw[gu _ oK];exact JK rfl (hX _ _ ⟨i+1,F',E,_,rfl,C,h.sub (.cons _ (.refl _)),oK⟩ oK);have C:i=lp.length:=(by have:=zB G;omega);refine qoC (R.q8 h.fr) λw6 f6=>JJ rfl ?_;have h:=h.q8 f6;exact Kq h.own 0 rfl ri (qy3 h.sB h.rb oK λw7 f7=>kk w7 (h.fr.trans f7))
end
end Go.Proofs.YtfneoijhmknlnaaGreatDoor
