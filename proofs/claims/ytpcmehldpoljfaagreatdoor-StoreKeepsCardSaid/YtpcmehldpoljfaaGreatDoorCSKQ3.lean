/- Conditions: those that stand in each line. -/
import Derived.Test.YtpcmehldpoljfaaGreatDoorCSKQ2
import Derived.Sort.LotC
import Derived.Sort.LotA
import Derived.Sort.LotD1
import Derived.Laws.Bits64b
import Derived.Laws.Closers25b
import Derived.KernelRfl
import Derived.Sort.LotD2
import Derived.Sort.LotB
import Derived.Sort.LotD3
import Derived.Test.YtpcmehldpoljfaaGreatDoorCSKQ1
import Derived.Test.YtpcmehldpoljfaaGreatDoorProg
import Derived.Shelf.Bytes.SlCountOne
import Derived.Laws.CopyRow
import Derived.Laws.IdiomCopy
set_option linter.unusedVariables false
set_option linter.unusedSimpArgs false
set_option linter.defProp false
namespace Go.Proofs.YtpcmehldpoljfaaGreatDoor
open Go.Proofs.Tryz
section
open Go Go.Pt Go.Sort List
attribute [local irreducible] ld dK ij nM jv fg st new idx jw jL fD jO jl mF gF nn call ed inv run eW i9 join loop held ext kH eS nf mY ng IntKind.wrap
variable {K:Int->WP} {a b n:Nat} {d:Array Int} {l:List Int} {p:Int->Bool} {t:Int->World->(Bool->WP)->Prop} {w:World}
section
variable {eH:Nat} {T:kb} {w0 w:World} {d:Array Int} {len cap:Nat}
def qtM{lo hi first:Nat}{K:Unit->WP}(h:gG eH T w0 w d)(hlo:lo<=hi)(hf:first+hi<=len)(hl:len<=d.size/\len<=1152921504606846976)(hk:∀w',gG eH T w0 w' (siftDown ltInt hi first lo d)->(siftDown ltInt hi first lo d).size=d.size->K () w'): cW 242 [.slice (pW eH) len cap,.i lo,.i hi,.i first] [] w K:=by
 refine qfQ (data:=⟨pW eH,len,cap⟩)<|iU (fun x w'=>∃(r:Nat) (d':Array Int),x=r/\r<=hi/\gG eH T w0 w' d'/\d'.size=d.size/\siftDown ltInt hi first r d'=siftDown ltInt hi first lo d) (fun x _=>((hi:Int)-x).toNat)
  ⟨lo,d,rfl,hlo,h,rfl,rfl⟩ ?_
 rintro x w1 ⟨r,d1,rfl,hr,h,hs1,he1⟩ X hX;have e1:IntKind.i64.wrap (IntKind.i64.wrap (2*(r:Int))+1)=((2*r+1:Nat):Int):=(by rw[wi (2*(r:Int)) oJ,wi _ oJ];omega);have e2:IntKind.i64.wrap (((2*r+1:Nat):Int)+1)=((2*r+2:Nat):Int):=(by rw[wi _ oJ];omega);rw[e1,e2];have hd:=siftDown.eq_1 ltInt hi first r d1
 apply dW<;>intro hc;have hc':2*r+1>=hi:=(by have:=zC hc;omega);rw[dif_pos hc'] at hd;rw[hd] at he1;refine hk _ ?_ ?_;rw[<- he1];exact h;rw[<- he1];exact hs1
 ·have hc':¬2*r+1>=hi:=(by have:=zB hc;omega);rw[dif_neg hc'] at hd;refine gW (fun x w'=>x=((if 2*r+1+1<hi&&ltInt d1[first+(2*r+1)]! d1[first+(2*r+1)+1]! then 2*r+2 else 2*r+1:Nat):Int)/\gG eH T w0 w' d1) ?_ ?_
  ·refine gW (fun c w'=>c=(decide (2*r+1+1<hi)&&ltInt d1[first+(2*r+1)]! d1[first+(2*r+1)+1]!)/\gG eH T w0 w' d1) ?_ ?_
   ·apply dW<;>intro hc
    ·have hc2:2*r+1+1<hi:=(by have:=zC hc;omega);exact h.drew.rd (first+(2*r+1)) (by rw[wi _ oJ];omega) oJ oJ<|h.drew.rd (first+(2*r+1)+1) (by rw[wi ((first:Int)+_) oJ,wi _ oJ];omega) oJ oJ<|rP<|⟨by simp[hc2],h.drew⟩
    have hc2:¬2*r+1+1<hi:=(by have:=zB hc;omega);exact⟨by simp[hc2],h.drew⟩
   rintro c w3 ⟨rfl,h⟩;apply dW<;>intro hc;exact⟨by rw[if_pos hc],h⟩;exact⟨by rw[if_neg (oP hc)],h⟩
  ·rintro x w3 ⟨rfl,h⟩;have fin:∀c:Nat,(c=2*r+1\/c=2*r+2)->c<hi->((if !ltInt d1[first+r]! d1[first+c]! then d1 else siftDown ltInt hi first c (swp d1 (first+r) (first+c)))=siftDown ltInt hi first lo d)->
     idx ⟨pW eH,len,cap⟩ (IntKind.i64.wrap (first+r)) 1 fun a_16=>ld .u a_16 w3.drew fun x_17=>idx ⟨pW eH,len,cap⟩ (IntKind.i64.wrap (first+c)) 1 fun a_18=>ld .u a_18 w3.drew fun x_19=>
      cW 218 [.u x_17,.u x_19] dj w3.drew fun b_20 w_21=>
       bif !b_20 then K () w_21 else
        idx ⟨pW eH,len,cap⟩ (IntKind.i64.wrap (first+c)) 1 fun a_22=>ld .u a_22 w_21.drew fun x_23=>idx ⟨pW eH,len,cap⟩ (IntKind.i64.wrap (first+r)) 1 fun a_24=>ld .u a_24 w_21.drew fun x_25=>
         idx ⟨pW eH,len,cap⟩ (IntKind.i64.wrap (first+r)) 1 fun a_26=>st a_26 [.u x_23] w_21.drew fun w_27=>idx ⟨pW eH,len,cap⟩ (IntKind.i64.wrap (first+c)) 1 fun a_28=>st a_28 [.u x_25] w_27 fun w_29=>X c w_29:=by
    intro c hcc hch hceq;refine h.drew.rd (first+r) (by rw[wi _ oJ];omega) oJ oJ<|h.drew.rd (first+c) (by rw[wi _ oJ];omega) oJ oJ<|rP ?_;apply dW<;>intro hc;rw[if_pos hc] at hceq;refine hk _ ?_ ?_;rw[<- hceq];exact h.drew;rw[<- hceq];exact hs1
    ·rw[if_neg (by rw[hc];decide)] at hceq;exact h.drew.drew.swap (first+r) (first+c) (by rw[wi _ oJ];omega) (by rw[wi _ oJ];omega) oJ oJ oJ fun w4 h=>hX _ _ ⟨c,_,rfl,oJ,h,by rw[A9];exact hs1,hceq⟩ oJ
   split;rename_i hcc;rw[if_pos hcc] at hd;have hlt:2*r+2<hi:=(by simp only[yB,decide_eq_true_eq] at hcc;omega);rw[dif_pos hlt] at hd;exact fin _ (.inr rfl) hlt (hd.symm.trans he1);rename_i hcc;rw[if_neg hcc] at hd;exact fin _ (.inl rfl) oJ (hd.symm.trans he1)
def qzi{K:Unit->WP}(h:gG eH T w0 w d)(ac:a<=b)(hb:b<=len)(hl:len<=d.size/\len<=1152921504606846976)(hk:∀w',gG eH T w0 w' (heapSort ltInt d a b)->K () w'): cW 213 [.slice (pW eH) len cap,.i a,.i b] [] w K:=by
 refine qfP (data:=⟨pW eH,len,cap⟩) ?_;dsimp only;have e0:IntKind.i64.wrap ((b:Int)-a)=((b-a:Nat):Int):=(by rw[wi _ oJ];omega);have e2:IntKind.i64.wrap (Int.tdiv (IntKind.i64.wrap (((b-a:Nat):Int)-1)) 2)=(((b-a-1) / 2+1:Nat):Int)-1:=by rw[wi (_-1) oJ];by_cases hn:b-a=0;rw[hn];decide +kernel;rw[Int.tdiv_eq_ediv_of_nonneg oJ,wi _ oJ];omega
 rw[e0,e2];refine iU (fun x w'=>∃(k:Nat) (C:Array Int),x=(k:Int)-1/\k<=(b-a-1) / 2+1/\gG eH T w0 w' C/\C.size=d.size/\heapBuild ltInt (b-a) a k C=heapBuild ltInt (b-a) a ((b-a-1) / 2+1) d) (fun x _=>(x+1).toNat)
  ⟨_,d,rfl,zM _,h,rfl,rfl⟩ ?_
 rintro x w1 ⟨k,U,rfl,V,h,G,I⟩ X hX;apply cD<;>intro E;have u:1<=k:=oJ;obtain⟨j,rfl⟩:∃j,k=j+1:=⟨k-1,oJ⟩;rw[show ((j+1:Nat):Int)-1=(j:Nat) by omega];refine qtM h oJ oJ oJ fun w2 h hs=>?_;rw[wi _ oJ];exact hX _ _ ⟨j,_,rfl,oJ,h,by rw[hs,G],I⟩ oJ;have u:k=0:=oJ;subst u;have J:U=heapBuild ltInt (b-a) a ((b-a-1) / 2+1) d:=I;rw[wi (_-1) oJ];refine iU (fun x w'=>∃(k:Nat) (C:Array Int),x=(k:Int)-1/\k<=b-a/\gG eH T w0 w' C/\C.size=d.size/\heapPop ltInt a k C=heapPop ltInt a (b-a) U) (fun x _=>(x+1).toNat)
  ⟨_,U,rfl,zM _,h,G,rfl⟩ ?_
 rintro x w2 ⟨k,d2,rfl,V,h,ab,R⟩ Z hZ;apply cD<;>intro E;have u:1<=k:=oJ;obtain⟨j,rfl⟩:∃j,k=j+1:=⟨k-1,oJ⟩;rw[show ((j+1:Nat):Int)-1=(j:Nat) by omega];refine h.drew.swap a (a+j) rfl (by rw[wi _ oJ];omega) oJ oJ oJ fun w3 h=>qtM (lo:=0) h oJ oJ (by rw[A9];omega) fun w4 h hs=>?_;rw[wi _ oJ];exact hZ _ _ ⟨j,_,rfl,oJ,h,by rw[hs,A9,ab],R⟩ oJ;have u:k=0:=oJ;subst u;refine hk _ ?_;unfold heapSort;rw[<- J,<- R];exact h
def qAp{K:Unit->WP}(h:gG eH T w0 w d)(R:a<b)(hb:b<=len)(hl:len<=d.size/\len<=1152921504606846976)(U:∀w',gG eH T w0 w' (reverseRange d a b)->K () w'): cW 216 [.slice (pW eH) len cap,.i a,.i b] [] w K:=by
 refine qd8 (data:=⟨pW eH,len,cap⟩) ?_;rw[wi _ oJ];refine iU (fun x w'=>∃(i j:Nat) (G:Array Int),x=((i:Int),(j:Int))/\i<=j+1/\j<b/\gG eH T w0 w' G/\G.size=d.size/\reverseLoop i j G=reverseLoop a (b-1) d) (fun x _=>(x.2-x.1).toNat)
  ⟨a,b-1,d,sQ rfl oJ,oJ,oJ,h,rfl,rfl⟩ ?_
 rintro x w1 ⟨i,j,V,rfl,aa,ab,h,I,C⟩ X hX;have E:=reverseLoop.eq_1 i j V;dsimp only;apply cD<;>intro J;have u:i<j:=oJ;rw[if_pos u] at E;refine h.drew.swap i j rfl rfl oJ oJ oJ fun w2 h=>?_;rw[wi (_+1) oJ,wi (_-1) oJ];exact hX _ _ ⟨i+1,j-1,_,sQ oJ oJ,oJ,oJ,h,by rw[A9,I],E.symm.trans C⟩ oN;have u:¬i<j:=oJ;rw[if_neg u] at E;refine U _ ?_;unfold reverseRange;rw[<- C,E];exact h
end
section
section
variable {eH:Nat} {T:kb} {w0 w:World} {d:Array Int} {len cap:Nat}
def ER{J i0:Nat}{E:Int->WP}(h:gG eH T w0 w d)(hJ:J<=1152921504606846976)(hi0:i0<=J+2)(hT:∀(x:Nat) w Y,i0<=x->gG eH T w0 w d->(∀w',gG eH T w0 w' d->Y (decide (x<=J)&&p d[x]!) w')->t x w Y)(hE:∀w',gG eH T w0 w' d->E (scanUp p d J i0:Nat) w'): loop Int (fun X x w=>join Bool (fun Y=>t x w Y) fun b w'=>bif b then X (IntKind.i64.wrap (x+1)) w' else E x w') i0 w:=by refine iU (fun x w'=>∃i:Nat,x=i/\i0<=i/\i<=J+2/\gG eH T w0 w' d/\scanUp p d J i=scanUp p d J i0) (fun x _=>((J:Int)+2-x).toNat) ⟨i0,rfl,zM _,hi0,h,rfl⟩ ?_;rintro x w1 ⟨i,rfl,hi,hiJ,h,he⟩ X hX;refine gW (fun c w'=>c=(decide (i<=J)&&p d[i]!)/\gG eH T w0 w' d) (hT i w1 _ hi h fun w' h=>⟨rfl,h⟩) ?_;rintro c w2 ⟨rfl,h⟩;have hd:=scanUp.eq_1 p d J i;apply dW<;>intro hc;have hc1:=hc;simp only[yB,decide_eq_true_eq] at hc;rw[if_pos (oP hc1)] at hd;rw[wi _ oJ];exact hX _ _ ⟨i+1,oJ,oJ,oJ,h,hd.symm.trans he⟩ oJ;rw[if_neg (oP hc)] at hd;rw[show (i:Int)=(scanUp p d J i0:Nat) by rw[<- he,hd]];exact hE _ h
def Fw{i j0:Nat}{E:Int->WP}(h:gG eH T w0 w d)(hJ:j0<=1152921504606846976)(hi:1<=i)(hT:∀(x:Nat) w Y,x<=j0->gG eH T w0 w d->(∀w',gG eH T w0 w' d->Y (decide (i<=x)&&p d[x]!) w')->t x w Y)(hE:∀w',gG eH T w0 w' d->E (scanDown p d i j0:Nat) w'): loop Int (fun X x w=>join Bool (fun Y=>t x w Y) fun b w'=>bif b then X (IntKind.i64.wrap (x-1)) w' else E x w') j0 w:=by
 refine iU (fun x w'=>∃j:Nat,x=j/\j<=j0/\gG eH T w0 w' d/\scanDown p d i j=scanDown p d i j0) (fun x _=>x.toNat) ⟨j0,rfl,zM _,h,rfl⟩ ?_;rintro x w1 ⟨j,rfl,hj,h,he⟩ X hX;refine gW (fun c w'=>c=(decide (i<=j)&&p d[j]!)/\gG eH T w0 w' d) (hT j w1 _ hj h fun w' h=>⟨rfl,h⟩) ?_;rintro c w2 ⟨rfl,h⟩;apply dW<;>intro hc;have hc1:=hc;simp only[yB,decide_eq_true_eq] at hc;obtain⟨k,rfl⟩:∃k,j=k+1:=⟨j-1,oJ⟩;rw[wi _ oJ];refine hX _ _ ⟨k,oJ,oJ,h,?_⟩ oJ;rw[<- he,scanDown,if_pos (oP hc1)];rw[show (j:Int)=(scanDown p d i j0:Nat) by
  rw[<- he];cases j with
  | zero=>rfl
  | succ k=>rw[scanDown,if_neg (oP hc)]]
 exact hE _ h
def qzl{pivot:Nat}{K:Int×Bool->WP}(h:gG eH T w0 w d)(hap:a<=pivot)(hpb:pivot<b)(hb:b<=len)(hl:len<=d.size/\len<=1152921504606846976)(hk:∀w',gG eH T w0 w' (Sort.partition ltInt d a b pivot).2.2->K (((Sort.partition ltInt d a b pivot).1:Nat),(Sort.partition ltInt d a b pivot).2.1) w'): cW 220 [.slice (pW eH) len cap,.i a,.i b,.i pivot] du w K:=by
 refine qfo (data:=⟨pW eH,len,cap⟩) ?_;revert hk;unfold Sort.partition;dsimp only;intro hk;refine h.drew.swap a pivot rfl rfl oJ oJ oJ fun w1 h=>?_;have hsz:(swp d a pivot).size=d.size:=Sort.size_swp _ _ _;generalize swp d a pivot=d1 at h hk hsz;have eb:IntKind.i64.wrap ((b:Int)-1)=((b-1:Nat):Int):=(by rw[wi _ oJ];omega);rw[eb,wi ((a:Int)+1) oJ,show (a:Int)+1=((a+1:Nat):Int) by omega];refine ER (p:=fun x=>ltInt x d1[a]!) (J:=b-1) (i0:=a+1) h oJ oJ (fun x w Y hx h hY=>?_) fun w2 h=>?_;apply cD<;>intro hc;have hc':x<=b-1:=oJ;refine h.drew.rd x rfl oJ oJ<|h.drew.rd a rfl oJ oJ<|rP ?_
 have:=hY _ h.drew
 simpa[hc'] using this;have hc':¬x<=b-1:=by omega
 have:=hY _ h.drew
 simpa[hc'] using this;have hu1:=scanUp_ge (fun x=>ltInt x d1[a]!) d1 (b-1) (a+1);generalize scanUp (fun x=>ltInt x d1[a]!) d1 (b-1) (a+1)=i at hk hu1⊢;refine Fw (p:=fun x=>!ltInt x d1[a]!) (i:=i) (j0:=b-1) h oJ oJ (fun x w Y hx h hY=>?_) fun w3 h=>?_;apply cD<;>intro hc;have hc':i<=x:=oJ;refine h.drew.rd x rfl oJ oJ<|h.drew.rd a rfl oJ oJ<|rP ?_
 have:=hY _ h.drew
 simpa[hc'] using this;have hc':¬i<=x:=by omega
 have:=hY _ h.drew
 simpa[hc'] using this;have hv1:=scanDown_le (fun x=>!ltInt x d1[a]!) d1 i (b-1);generalize scanDown (fun x=>!ltInt x d1[a]!) d1 i (b-1)=j at hk hv1⊢;apply cD<;>intro hc;have hc':i>j:=oJ;simp only[if_pos hc'] at hk;exact h.drew.swap j a rfl rfl oJ oJ oJ fun w4 h=>hk _ h;have hc':¬i>j:=oJ;simp only[if_neg hc'] at hk;refine h.drew.swap i j rfl rfl oJ oJ oJ fun w4 h=>?_;have hsz2:(swp d1 i j).size=d1.size:=Sort.size_swp _ _ _;generalize swp d1 i j=d2 at h hk hsz2;rw[wi ((i:Int)+1) oJ,wi ((j:Int)-1) oJ];refine iU (fun s w'=>∃(i' j':Nat) (d':Array Int),s=((i':Int),(j':Int))/\a+1<=i'/\i'<=b/\j'<=b-1/\i'<=j'+2/\gG eH T w0 w' d'/\d'.size=d.size/\partLoop ltInt a i' j' d'=partLoop ltInt a (i+1) (j-1) d2) (fun s _=>(s.2+2-s.1).toNat)
  ⟨i+1,j-1,d2,sQ oJ oJ,oJ,oJ,oJ,oJ,h,oJ,rfl⟩ ?_
 rintro s w5 ⟨i',j',d3,rfl,hi1,hi2,hj1,hij,h,hs3,he⟩ X hX;rw[partLoop_eq ltInt a i' j' d3] at he;dsimp only;refine ER (p:=fun x=>ltInt x d3[a]!) (J:=j') (i0:=i') h oJ oJ (fun x w Y hx h hY=>?_) fun w6 h=>?_;apply cD<;>intro hc;have hc':x<=j':=oJ;refine h.drew.rd x rfl oJ oJ<|h.drew.rd a rfl oJ oJ<|rP ?_
 have:=hY _ h.drew
 simpa[hc'] using this;have hc':¬x<=j':=by omega
 have:=hY _ h.drew
 simpa[hc'] using this;have hu1:=scanUp_ge (fun x=>ltInt x d3[a]!) d3 j' i';generalize scanUp (fun x=>ltInt x d3[a]!) d3 j' i'=i2 at he hu1⊢;refine Fw (p:=fun x=>!ltInt x d3[a]!) (i:=i2) (j0:=j') h oJ oJ (fun x w Y hx h hY=>?_) fun w7 h=>?_;apply cD<;>intro hc;have hc':i2<=x:=oJ;refine h.drew.rd x rfl oJ oJ<|h.drew.rd a rfl oJ oJ<|rP ?_
 have:=hY _ h.drew
 simpa[hc'] using this;have hc':¬i2<=x:=by omega
 have:=hY _ h.drew
 simpa[hc'] using this;have hv1:=scanDown_le (fun x=>!ltInt x d3[a]!) d3 i2 j';generalize scanDown (fun x=>!ltInt x d3[a]!) d3 i2 j'=j2 at he hv1⊢;apply cD<;>intro hc;have hc':i2>j2:=oJ;rw[if_pos hc'] at he;rw[<- he] at hk;exact h.drew.swap j2 a rfl rfl oJ oJ oJ fun w4 h=>hk _ h;have hc':¬i2>j2:=oJ;rw[if_neg hc'] at he;refine h.drew.swap i2 j2 rfl rfl oJ oJ oJ fun w4 h=>?_;rw[wi ((i2:Int)+1) oJ,wi ((j2:Int)-1) oJ];exact hX _ _ ⟨i2+1,j2-1,_,sQ oJ oJ,oJ,oJ,oJ,oJ,h,by rw[Sort.size_swp];exact hs3,he⟩ oN
def qwc{pivot:Nat}(h:gG eH T w0 w d)(hap:a<=pivot)(hpb:pivot<b)(hb:b<=len)(hl:len<=d.size/\len<=1152921504606846976)(hk:∀w',gG eH T w0 w' (Sort.partitionEqual ltInt d a b pivot).2->K ((Sort.partitionEqual ltInt d a b pivot).1:Nat) w'): cW 219 [.slice (pW eH) len cap,.i a,.i b,.i pivot] di w K:=by
 refine qdE (data:=⟨pW eH,len,cap⟩) ?_;revert hk;unfold Sort.partitionEqual;intro hk;refine h.drew.swap a pivot rfl rfl oJ oJ oJ fun w1 h=>?_;have hsz:(swp d a pivot).size=d.size:=Sort.size_swp _ _ _;generalize swp d a pivot=d2 at h hk hsz;rw[wi ((a:Int)+1) oJ,wi ((b:Int)-1) oJ];refine iU (fun s w'=>∃(i' j':Nat) (d':Array Int),s=((i':Int),(j':Int))/\a+1<=i'/\i'<=b/\j'<=b-1/\i'<=j'+2/\gG eH T w0 w' d'/\d'.size=d.size/\partEqLoop ltInt a i' j' d'=partEqLoop ltInt a (a+1) (b-1) d2) (fun s _=>(s.2+2-s.1).toNat)
  ⟨a+1,b-1,d2,sQ oJ oJ,oJ,oJ,oJ,oJ,h,oJ,rfl⟩ ?_
 rintro s w5 ⟨i',j',d3,rfl,hi1,hi2,hj1,hij,h,hs3,he⟩ X hX;rw[partEqLoop_eq ltInt a i' j' d3] at he;dsimp only;refine ER (p:=fun x=>!ltInt d3[a]! x) (J:=j') (i0:=i') h oJ oJ (fun x w Y hx h hY=>?_) fun w6 h=>?_;apply cD<;>intro hc;have hc':x<=j':=oJ;refine h.drew.rd a rfl oJ oJ<|h.drew.rd x rfl oJ oJ<|rP ?_
 have:=hY _ h.drew
 simpa[hc'] using this;have hc':¬x<=j':=by omega
 have:=hY _ h.drew
 simpa[hc'] using this;have hu1:=scanUp_ge (fun x=>!ltInt d3[a]! x) d3 j' i';generalize scanUp (fun x=>!ltInt d3[a]! x) d3 j' i'=i2 at he hu1⊢;refine Fw (p:=fun x=>ltInt d3[a]! x) (i:=i2) (j0:=j') h oJ oJ (fun x w Y hx h hY=>?_) fun w7 h=>?_;apply cD<;>intro hc;have hc':i2<=x:=oJ;refine h.drew.rd a rfl oJ oJ<|h.drew.rd x rfl oJ oJ<|rP ?_
 have:=hY _ h.drew
 simpa[hc'] using this;have hc':¬i2<=x:=by omega
 have:=hY _ h.drew
 simpa[hc'] using this;have hv1:=scanDown_le (fun x=>ltInt d3[a]! x) d3 i2 j';generalize scanDown (fun x=>ltInt d3[a]! x) d3 i2 j'=j2 at he hv1⊢;apply cD<;>intro hc;have hc':i2>j2:=oJ;rw[if_pos hc'] at he;rw[<- he] at hk;exact hk _ h;have hc':¬i2>j2:=oJ;rw[if_neg hc'] at he;refine h.drew.swap i2 j2 rfl rfl oJ oJ oJ fun w4 h=>?_;rw[wi ((i2:Int)+1) oJ,wi ((j2:Int)-1) oJ];exact hX _ _ ⟨i2+1,j2-1,_,sQ oJ oJ,oJ,oJ,oJ,oJ,h,by rw[Sort.size_swp];exact hs3,he⟩ oN
end
end
section
section
variable {eH:Nat} {T:kb} {w0 w:World} {d:Array Int} {len cap:Nat}
def qx0{K:Bool->WP}(h:gG eH T w0 w d)(aA:a<b)(hb:b<=len)(hl:len<=d.size/\len<=1152921504606846976)(hk:∀w',gG eH T w0 w' (Sort.partialInsertionSort ltInt d a b).1->K (Sort.partialInsertionSort ltInt d a b).2 w'): cW 217 [.slice (pW eH) len cap,.i a,.i b] dj w K:=by
 refine qcE (data:=⟨pW eH,len,cap⟩) ?_;revert hk;unfold Sort.partialInsertionSort;intro hk;rw[wi ((a:Int)+1) oJ];refine iU (fun x w'=>∃(i s:Nat) (E:Array Int),x=((i:Int),5-(s:Int))/\s<=5/\a+1<=i/\i<=b/\gG eH T w0 w' E/\E.size=d.size/\partialIns ltInt a b s i E=partialIns ltInt a b 5 (a+1) d) (fun x _=>(5-x.2).toNat)
  ⟨a+1,5,d,sQ oJ oJ,oJ,oJ,oJ,h,rfl,rfl⟩ ?_
 rintro x w1 ⟨i,s,R,rfl,aB,ao,ap,h,aC,C⟩ X hX;dsimp only;apply dW<;>intro u;obtain⟨s,rfl⟩:∃k,s=k+1:=⟨s-1,by have:=zC u;omega⟩;rw[partialIns_succ] at C;refine gW (fun x w'=>∃(i:Nat) (E:Array Int),x=i/\a+1<=i/\i<=b/\gG eH T w0 w' E/\E.size=d.size/\partialIns ltInt a b s i E=partialIns ltInt a b 5 (a+1) d) ?_ ?_;refine iU (fun x w'=>∃k:Nat,x=k/\a+1<=k/\k<=b/\gG eH T w0 w' R/\scanSorted ltInt R b k=scanSorted ltInt R b i) (fun x _=>((b:Int)-x).toNat) ⟨i,rfl,ao,ap,h,rfl⟩ ?_;rintro x w2 ⟨k,rfl,U,V,h,ak⟩ Z hZ;have hd:=scanSorted.eq_1 ltInt R b k;refine gW (fun c w'=>c=(decide (k<b)&&!ltInt R[k]! R[k-1]!)/\gG eH T w0 w' R) ?_ ?_;apply dW<;>intro u;have ac:k<b:=(by have:=zC u;omega);exact h.drew.rd k rfl oJ oJ<|h.drew.rd (k-1) (by rw[wi _ oJ];omega) oJ oJ<|rP<|⟨by simp[ac],h.drew⟩;have ac:¬k<b:=(by have:=zB u;omega);exact⟨by simp[ac],h.drew⟩;rintro c w3 ⟨rfl,h⟩;apply dW<;>intro u;have aq:=u;simp only[yB,decide_eq_true_eq] at u;rw[if_pos (oP aq)] at hd;rw[wi _ oJ];exact hZ _ _ ⟨k+1,oJ,oJ,oJ,h,hd.symm.trans ak⟩ oJ;rw[if_neg (oP u)] at hd;rw[show scanSorted ltInt R b i=k by rw[<- ak,hd]] at C;unfold fixUp fixDown at C;apply dW<;>intro u;have ad:k=b:=(by have:=yP.1 u;omega);rw[if_pos ad] at C;rw[<- C] at hk;exact hk _ h;have ad:¬k=b:=fun e=>by rw[e] at u;simp at u
 rw[if_neg ad] at C;rw[wi ((b:Int)-a) oJ];apply dW<;>intro u;have ae:b-a<50:=(by have:=zC u;omega);rw[if_pos ae] at C;rw[<- C] at hk;exact hk _ h;have ae:¬b-a<50:=(by have:=zB u;omega);rw[if_neg ae] at C;refine h.drew.swap k (k-1) rfl (by rw[wi _ oJ];omega) oJ oJ oJ fun w4 h=>?_;have al:(swp R k (k-1)).size=R.size:=Sort.size_swp _ _ _;generalize swp R k (k-1)=J at h C al;refine gW (fun _ w'=>gG eH T w0 w' (if k-a>=2 then shiftDown ltInt (k-1) J else J)/\(if k-a>=2 then shiftDown ltInt (k-1) J else J).size=J.size) ?_ ?_;rw[wi ((k:Int)-a) oJ];apply dW<;>intro u;have af:k-a>=2:=(by have:=zC u;omega);simp only[if_pos af];rw[wi ((k:Int)-1) oJ];refine iU (fun x w'=>∃(j:Nat) (E:Array Int),x=j/\j<=k-1/\gG eH T w0 w' E/\E.size=J.size/\shiftDown ltInt j E=shiftDown ltInt (k-1) J) (fun x _=>x.toNat) ⟨k-1,J,oJ,oJ,h,rfl,rfl⟩ ?_;rintro x w5 ⟨j,d3,rfl,hj,h,aa,I⟩ Q hQ;apply dW<;>intro u;obtain⟨j,rfl⟩:∃m,j=m+1:=⟨j-1,by have:=zC u;omega⟩;rw[shiftDown] at I;refine h.drew.rd (j+1) rfl oJ oJ<|h.drew.rd j (by rw[wi _ oJ];omega) oJ oJ<|rP ?_;apply dW<;>intro u;rw[if_pos u] at I;rw[<- I];exact⟨h.drew,aa⟩;rw[if_neg (by rw[u];decide)] at I;refine h.drew.drew.swap (j+1) j rfl (by rw[wi _ oJ];omega) oJ oJ oJ fun w6 h=>?_;rw[wi _ oJ];exact hQ _ _ ⟨j,_,oJ,oJ,h,by rw[Sort.size_swp];exact aa,I⟩ oJ;have au:j=0:=(by have:=zB u;omega);subst au;rw[<- I];exact⟨h,aa⟩;have af:¬k-a>=2:=(by have:=zB u;omega);simp only[if_neg af];exact⟨h,trivial⟩;rintro _ w5 ⟨h,aa⟩;generalize (if k-a>=2 then shiftDown ltInt (k-1) J else J)=d3 at h C aa;rw[wi ((b:Int)-k) oJ];apply dW<;>intro u;have ag:b-k>=2:=(by have:=zC u;omega);rw[if_pos ag] at C;rw[wi ((k:Int)+1) oJ];refine iU (fun x w'=>∃(j:Nat) (E:Array Int),x=j/\k+1<=j/\j<=b/\gG eH T w0 w' E/\E.size=d.size/\shiftUp ltInt b j E=shiftUp ltInt b (k+1) d3) (fun x _=>((b:Int)-x).toNat) ⟨k+1,d3,oJ,oJ,oJ,h,oJ,rfl⟩ ?_;rintro x w6 ⟨j,d4,rfl,aG,aH,h,ah,ai⟩ Q hQ;have G:=shiftUp.eq_1 ltInt b j d4;apply dW<;>intro u;have aj:j<b:=(by have:=zC u;omega);rw[if_pos aj] at G;refine h.drew.rd j rfl oJ oJ<|h.drew.rd (j-1) (by rw[wi _ oJ];omega) oJ oJ<|rP ?_;apply dW<;>intro u;rw[if_pos u] at G;rw[<- ai,G] at C;exact⟨k,d4,rfl,U,V,h.drew,ah,C⟩;rw[if_neg (by rw[u];decide)] at G;refine h.drew.drew.swap j (j-1) rfl (by rw[wi _ oJ];omega) oJ oJ oJ fun w6 h=>?_;rw[wi _ oJ];exact hQ _ _ ⟨j+1,_,oJ,oJ,oJ,h,by rw[Sort.size_swp];exact ah,G.symm.trans ai⟩ oJ;have aj:¬j<b:=(by have:=zB u;omega);rw[if_neg aj] at G;rw[<- ai,G] at C;exact⟨k,d4,rfl,U,V,h,ah,C⟩;have ag:¬b-k>=2:=(by have:=zB u;omega);rw[if_neg ag] at C;exact⟨k,d3,rfl,U,V,h,oJ,C⟩;rintro x w2 ⟨k,J,rfl,U,V,h,aw,ax⟩;rw[wi _ oJ];exact hX _ _ ⟨k,s,J,sQ rfl oJ,oJ,U,V,h,aw,ax⟩ oN;have ay:s=0:=(by have:=zB u;omega);subst ay;rw[<- C] at hk;exact hk _ h
end
end
def qzI{s:ByteArray}{i:Int}{K:Int->Prop}(b:UInt8)(u:0<=i)(h:s[i.toNat]?=some b)(k:K (b.toNat:Int)):jw s i K:=by unfold jw;exact⟨b,⟨u,h⟩,k⟩
def F9{k:Nat}(h:2^k<=n):bitsLen n=bitsLen (n / 2^k)+k:=by
 have G:bitsLen n<=bitsLen (n / 2^k)+k:=by
  rw[bitsLen_le_iff,Nat.pow_add]
  have:=lt_two_pow_bitsLen (n / 2^k)
  exact (Nat.div_lt_iff_lt_mul (Nat.two_pow_pos k)).1 this
 have I:bitsLen (n / 2^k)+k<=bitsLen n:=by
  have C:=lt_two_pow_bitsLen n;have E:k<=bitsLen n:=by
   rcases Nat.lt_or_ge (bitsLen n) k with u|u
   have:=Nat.pow_le_pow_right (show 0<2 by decide) (Nat.le_of_lt u);omega
   exact u
  have:bitsLen (n / 2^k)<=bitsLen n-k:=(by rw[bitsLen_le_iff,Nat.div_lt_iff_lt_mul (Nat.two_pow_pos k),<- Nat.pow_add,Nat.sub_add_cancel E];exact C);omega
 omega
def qu5{k:Nat}(h:n<2^k):bitsLen n<=k:=(bitsLen_le_iff n k).2 h
def EC(n k:Nat):Int.fdiv (n:Int) ((k:Nat):Int)=((n / k:Nat):Int):=by rw[Int.fdiv_eq_ediv_of_nonneg _ oJ];rfl
def qxQ(hn:n<18446744073709551616)(hk:K (bitsLen n:Nat) w):cW 222 [.int .u64 n] di w K:=by apply qqU;refine gW (fun t w'=>∃m c:Nat,t=((m:Int),(c:Int))/\w=w'/\m<4294967296/\c<=32/\bitsLen n=bitsLen m+c) ?_ ?_;apply cD<;>intro hc;have h:=hc;refine⟨n / 2^32,32,sQ (EC n (2^32)) rfl,rfl,oJ,oJ,F9 oJ⟩;have h:=hc;exact⟨n,0,rfl,rfl,oJ,oJ,rfl⟩;rintro t w' ⟨m,c,rfl,rfl,hm,hc1,he⟩;dsimp only;refine gW (fun t w'=>∃m c:Nat,t=((m:Int),(c:Int))/\w=w'/\m<65536/\c<=48/\bitsLen n=bitsLen m+c) ?_ ?_;apply cD<;>intro hc;have h:=hc;refine⟨m / 2^16,c+16,sQ (EC m (2^16)) (by rw[wi _ oJ];omega),rfl,oJ,oJ,by rw[he,F9 (n:=m) (k:=16) oJ];omega⟩;have h:=hc;exact⟨m,c,rfl,rfl,oJ,oJ,he⟩;rintro t w' ⟨m,c,rfl,rfl,hm,hc1,he⟩;dsimp only;refine gW (fun t w'=>∃m c:Nat,t=((m:Int),(c:Int))/\w=w'/\m<256/\c<=56/\bitsLen n=bitsLen m+c) ?_ ?_;apply cD<;>intro hc;have h:=hc;refine⟨m / 2^8,c+8,sQ (EC m (2^8)) (by rw[wi _ oJ];omega),rfl,oJ,oJ,by rw[he,F9 (n:=m) (k:=8) oJ];omega⟩;have h:=hc;exact⟨m,c,rfl,rfl,oJ,oJ,he⟩;rintro t w' ⟨m,c,rfl,rfl,hm,hc1,he⟩;dsimp only;have hb:=qu5 (n:=m) (k:=8) oJ;rw[IntWalk.u8_in (m:Int) oJ];refine qzI (UInt8.ofNat (bitsLen m)) oJ ?_ ?_;rw[zJ];clear he hb;revert m;decide +kernel;have e:(UInt8.ofNat (bitsLen m)).toNat=bitsLen m:=oO;rw[e,wi (bitsLen m:Nat) oJ,wi _ oJ];rw[he] at hk;rw[show (c:Int)+(bitsLen m:Nat)=((bitsLen m+c:Nat):Int) by omega];exact hk
def ES(hn:n<18446744073709551616)(hk:K (bitsLen n:Nat) w):cW 178 [.int .u64 n] di w K:=by apply qta;exact qxQ hn hk
section
structure jF (eH:Nat) (T:kb) (w0 w:World) (d:Array Int) (sb:Nat) (k:IntKind) (v:Int):Prop where
 arr:gG eH T w0 w d
 cell:∃ T2,w.heap[sb]?=some (.cells #[.int k v] T2 (0,0))
 ne:sb≠eH
 new:w0.heap.size<=sb
section
variable {eH:Nat} {T:kb} {w0 w:World} {d:Array Int} {len cap sb:Nat} {k:IntKind} {v:Int}
def jF.drew(h:jF eH T w0 w d sb k v):jF eH T w0 w.drew d sb k v:=⟨h.arr.drew,h.cell,h.ne,h.new⟩
def jF.get(h:jF eH T w0 w d sb k v){K:Int->Prop}(u:K v):ld (.int k) (dg sb) w K:=by obtain⟨E,C⟩:=h.cell;exact iA C v rfl u
def jF.put(h:jF eH T w0 w d sb k v)(u:Int){K:WP}(E:∀w',jF eH T w0 w' d sb k u->K w'):st (dg sb) [.int k u] w K:=by
 obtain⟨G,C⟩:=h.cell;unfold st;refine zv (w:=w) [.int k u] 0 0 _ w K C rfl oL (E _ ⟨⟨?_,?_⟩,⟨G,?_⟩,h.ne,h.new⟩);refine h.arr.fr.j8 (T:=[sb]) ⟨rfl,rfl,rfl,by rw[tE];exact zM _,fun j R I=>?_⟩ (fun i J=>.inr ?_);rw[om _ _ _ _ (eZ C),if_neg (oP I)]
 have:=h.new
 simp at J;omega;rw[om _ _ _ _ (eZ C),if_neg (fun e=>h.ne e.symm)];exact h.arr.eH;rw[om _ _ _ _ (eZ C),if_pos rfl];rfl
def jF.mk'(h:gG eH T w0 w d)(C:TypeId)(u:Int){K:Nat->WP}(E:∀b w',jF eH T w0 w' d b k u->K b w'):Pt.new (.cells #[.int k u] C (0,0)) w K:=by
 unfold Pt.new;refine E _ _ ⟨⟨h.fr.alloc _,?_⟩,⟨C,?_⟩,?_,h.fr.size⟩
 have:=eZ h.eH
 rw[wH,iN];exact h.eH;rw[wH,if_pos rfl]
 have:=eZ h.eH
 omega
def ET{K:Int×Int->WP}(h:jF eH T w0 w d sb .i64 v)(G:a<len)(I:b<len)(C:len<=d.size/\len<=1152921504606846976)(E:∀(p q:Nat) u w',(p=a/\q=b\/p=b/\q=a)->jF eH T w0 w' d sb .i64 u->K ((p:Int),(q:Int)) w'): cW 260 [.slice (pW eH) len cap,.i a,.i b,dF sb] dm w K:=by refine qgA (data:=⟨pW eH,len,cap⟩)<|h.arr.drew.rd b rfl I C<|h.arr.drew.rd a rfl G C<|rP ?_;apply dW<;>intro J;exact fv<|h.drew.get<|fv<|h.drew.put _ fun w' h=>E b a _ _ (.inr ⟨rfl,rfl⟩) h;exact E a b _ _ (.inl ⟨rfl,rfl⟩) h.drew
def qpG{c:Nat}(h:jF eH T w0 w d sb .i64 v)(G:a<len)(I:b<len)(J:c<len)(C:len<=d.size/\len<=1152921504606846976)(R:∀(p:Nat) u w',(p=a\/p=b\/p=c)->jF eH T w0 w' d sb .i64 u->K (p:Int) w'): cW 246 [.slice (pW eH) len cap,.i a,.i b,.i c,dF sb] di w K:=by refine qgz (data:=⟨pW eH,len,cap⟩) ?_;dsimp only;refine ET h G I C fun p q u w1 hp h=>?_;dsimp only;refine ET h oJ J C fun p' q' u w1 U h=>?_;dsimp only;exact ET h oJ oJ C fun V aa u w1 E h=>R _ _ _ oJ h
def Gq(h:jF eH T w0 w d sb .i64 v)(G:1<=a)(I:a+1<len)(C:len<=d.size/\len<=1152921504606846976)(E:∀(p:Nat) u w',(a<=p+1/\p<=a+1)->jF eH T w0 w' d sb .i64 u->K (p:Int) w'): cW 245 [.slice (pW eH) len cap,.i a,dF sb] di w K:=by refine qdD (data:=⟨pW eH,len,cap⟩) ?_;dsimp only;rw[wi ((a:Int)-1) oJ,wi ((a:Int)+1) oJ,show (a:Int)-1=((a-1:Nat):Int) by omega,show (a:Int)+1=((a+1:Nat):Int) by omega];exact qpG h oJ oJ oJ C fun p u w' J h=>E p u w' oJ h
def qxY{K:Int×Int->WP}(h:gG eH T w0 w d)(ab:a<b)(hb:b<=len)(I:len<=d.size/\len<=1152921504606846976)(J:∀(p:Nat) (x:Int) w',a<=p/\p<b->gG eH T w0 w' d->K ((p:Int),x) w'): cW 215 [.slice (pW eH) len cap,.i a,.i b] dm w K:=by
 refine qeI (data:=⟨pW eH,len,cap⟩) ?_;dsimp only;have e0:IntKind.i64.wrap ((b:Int)-a)=((b-a:Nat):Int):=(by rw[wi _ oJ];omega);have e4:Int.tdiv ((b-a:Nat):Int) 4=(((b-a) / 4:Nat):Int):=(by rw[Int.tdiv_eq_ediv_of_nonneg oJ];omega);have e1:∀m:Nat,m<=3->IntKind.i64.wrap ((a:Int)+IntKind.i64.wrap (IntKind.i64.wrap (((b-a) / 4:Nat):Int)*(m:Int)))=((a+(b-a) / 4*m:Nat):Int):=by intro m R;have hq:(b-a) / 4*m<=(b-a) / 4*3:=Nat.mul_le_mul_left _ R;have hz:(((b-a) / 4:Nat):Int)*(m:Int)=(((b-a) / 4*m:Nat):Int):=(by push_cast;rfl);rw[wi (((b-a) / 4:Nat):Int) oJ,hz,wi (((b-a) / 4*m:Nat):Int) oJ,wi _ oJ];omega
 have U:=e1 1 oJ;have V:=e1 2 oJ;have f3:=e1 3 oJ;simp only[Int.cast_ofNat_Int] at U V f3;rw[e0,e4,U,V,f3];refine jF.mk' h _ _ fun sb w1 h=>gW (fun x w'=>∃(p:Nat) (u:Int),x=p/\a<=p/\p<b/\jF eH T w0 w' d sb .i64 u) ?_ ?_;apply cD<;>intro C;have h8:b-a>=8:=oJ;refine gW (fun x w'=>∃(p q r:Nat) (u:Int),x=((p:Int),(q:Int),(r:Int))/\a<=p/\p<b/\a<=q/\q<b/\a<=r/\r<b/\jF eH T w0 w' d sb .i64 u) ?_ ?_;apply cD<;>intro C;have af:b-a>=50:=oJ;exact Gq h oJ oJ I fun p u w2 hp h=>Gq h oJ oJ I fun q u w2 hq h=>Gq h oJ oJ I fun r u w2 hr h=>⟨p,q,r,u,rfl,oJ,oJ,oJ,oJ,oJ,oJ,h⟩;exact⟨_,_,_,_,rfl,oJ,oJ,oJ,oJ,oJ,oJ,h⟩;rintro x w2 ⟨p,q,r,u,rfl,E,G,ag,ah,ai,aj,h⟩;dsimp only;exact qpG h oJ oJ oJ I fun m u w3 R h=>⟨m,u,rfl,oJ,oJ,h⟩;exact⟨_,_,rfl,oJ,oJ,h⟩;rintro x w2 ⟨p,u,rfl,E,G,h⟩;refine h.get ?_;apply cD<;>intro C;exact J _ _ _ ⟨E,G⟩ h.arr;apply cD<;>intro C;exact J _ _ _ ⟨E,G⟩ h.arr;exact J _ _ _ ⟨E,G⟩ h.arr
end
end
section
section
variable {eH:Nat} {T:kb} {w0 w:World} {d:Array Int} {len cap sb:Nat} {k:IntKind} {v:Int}
def gG.E2(h:gG eH T w0 w d):gG eH T w w d:=⟨.refl _ _,h.eH⟩
def jF.step(h:jF eH T w0 w d sb k v){w':World}{u:Array Int}(g:gG eH T w w' u):jF eH T w0 w' u sb k v:=by obtain⟨E,C⟩:=h.cell;refine⟨⟨h.arr.fr.trans g.fr,g.eH⟩,⟨E,?_⟩,h.ne,h.new⟩;rw[g.fr.block sb (eZ C) (oP h.ne)];exact C
def qzj(h:jF eH T w0 w d sb .u64 v)(u:∀(x:Int) w',0<=x/\x<=18446744073709551615->jF eH T w0 w' d sb .u64 x->K x w'): cW 244 [dF sb] dl w K:=by refine qgB<|fv (h.drew.get (fv (h.drew.get (fv (h.drew.put _ fun w1 h=>?_)))));refine fv (h.drew.get (fv (h.drew.get (fv (h.drew.put _ fun w1 h=>?_)))));refine fv (h.drew.get (fv (h.drew.get (fv (h.drew.put _ fun w1 h=>?_)))));refine fv (h.get ?_);exact u _ _ (bits_within .xor .u64 _ _) h
def qAo{w:World}(C:1<=n/\n<=1152921504606846976)(h:K ((2^bitsLen n:Nat):Int) w):cW 243 [.i n] dl w K:=by apply qgi;rw[IntWalk.u64_in (n:Int) oJ];refine ES oJ<|mP oJ ?_;have E:=two_pow_bitsLen_le (n:=n) oJ;have G:bitsLen n<=61:=(bitsLen_le_iff n 61).2 oJ;rw[zJ,xR oJ];have e:(1:Int)*2^bitsLen n=((2^bitsLen n:Nat):Int):=(by rw[Int.one_mul];push_cast;rfl);have u:(0:Int)<=((2^bitsLen n:Nat):Int):=Int.natCast_nonneg _;rw[e,IntWalk.u64_in _ oJ];exact h
def qxL{K:Unit->WP}(h:gG eH T w0 w d)(U:a<=b)(hb:b<=len)(hl:len<=d.size/\len<=1152921504606846976)(J:∀E w',PermIn a b d E->gG eH T w0 w' E->K () w'): cW 214 [.slice (pW eH) len cap,.i a,.i b] [] w K:=by
 refine qd1 (data:=⟨pW eH,len,cap⟩) ?_;have e0:IntKind.i64.wrap ((b:Int)-a)=((b-a:Nat):Int):=(by rw[wi _ oJ];omega);rw[e0];apply cD<;>intro C;have h8:b-a>=8:=oJ;have V:Int.tdiv ((b-a:Nat):Int) 4=(((b-a) / 4:Nat):Int):=(by rw[Int.tdiv_eq_ediv_of_nonneg oJ];omega);have e1:IntKind.i64.wrap ((a:Int)+IntKind.i64.wrap (IntKind.i64.wrap (((b-a) / 4:Nat):Int)*2))=((a+(b-a) / 4*2:Nat):Int):=by rw[wi (((b-a) / 4:Nat):Int) oJ,wi ((((b-a) / 4:Nat):Int)*2) oJ,wi _ oJ];omega
 rw[V,e1,IntWalk.u64_in ((b-a:Nat):Int) oJ];refine jF.mk' h _ _ fun sb w1 h=>h.put _ fun w2 h=>qAo oJ ?_;have aa:=two_pow_bitsLen_le (n:=b-a) oJ;have G:=Nat.two_pow_pos (bitsLen (b-a));rw[wi (_-1) oJ,wi (_+1) oJ];refine iU (fun x w'=>∃(i:Nat) (E:Array Int) (u:Int),x=i/\a<=i/\i<=a+(b-a) / 4*2+2/\PermIn a b d E/\jF eH T w0 w' E sb .u64 u) (fun x _=>(((a+(b-a) / 4*2+2:Nat):Int)-x).toNat)
  ⟨a+(b-a) / 4*2-1,d,_,oJ,oJ,oJ,permIn_refl _ _ _,h⟩ ?_
 rintro x w3 ⟨i,R,u,rfl,ab,ac,I,h⟩ X hX;have ae:=I.1;apply cD<;>intro C;have af:i<=a+(b-a) / 4*2+1:=oJ;refine qzj h fun y w4 hy h=>?_;obtain⟨z,rfl⟩:∃z:Nat,y=z:=⟨y.toNat,oJ⟩;have ez:bits .and .u64 (z:Int) (IntKind.u64.wrap (((2^bitsLen (b-a):Nat):Int)-1))=((z%2^bitsLen (b-a):Nat):Int):=by rw[IntWalk.u64_in _ oJ,show ((2^bitsLen (b-a):Nat):Int)-1=((2^bitsLen (b-a)-1:Nat):Int) by omega,bits_and_u64_nat z _ oJ oJ,Nat.and_two_pow_sub_one_eq_mod]
 rw[ez];have hz:=Nat.mod_lt z G;rw[wi ((z%2^bitsLen (b-a):Nat):Int) oJ];refine gW (fun x w'=>∃o:Nat,x=o/\o<b-a/\jF eH T w0 w' R sb .u64 z) ?_ ?_;apply cD<;>intro C
 have:=C
 exact⟨z%2^bitsLen (b-a)-(b-a),by rw[wi _ oJ];omega,oJ,h⟩
 have:=C
 exact⟨z%2^bitsLen (b-a),rfl,oJ,h⟩;rintro x w5 ⟨o,rfl,ho,h⟩;refine h.drew.arr.E2.swap i (a+o) rfl (by rw[wi _ oJ];omega) oJ oJ oJ fun w6 h6=>?_;rw[wi _ oJ];exact hX _ _ ⟨i+1,_,_,oJ,oJ,oJ,permIn_trans _ _ _ _ _ I (swp_permIn _ _ _ _ _ oJ oJ oJ oJ oJ),h.drew.step h6⟩ oJ;exact J R _ I h.arr;exact J d _ (permIn_refl _ _ _) h
end
end
section
section
variable {eH:Nat} {T:kb} {len cap:Nat}
def qAn:∀(n:Nat) {w0 w:World} {d:Array Int} {a b:Nat} {limit:Int} {K:Unit->WP},b-a<=n->gG eH T w0 w d->a<=b->b<=len->(len<=d.size/\len<=1152921504606846976)->Sort.Below ltInt a b d-> (∀d' w',PermIn a b d d'->SortedIn ltInt a b d'->gG eH T w0 w' d'->K () w')-> cW 177 [.slice (pW eH) len cap,.i a,.i b,.i limit] [] w K:=by
 intro n;induction n using Nat.strongRecOn with
 | _ n ih=>
 intro w0 w d a0 b0 limit0 K hn h hab hb hl hB hk;refine qcK (data:=⟨pW eH,len,cap⟩) ?_;dsimp only;refine iU (fun x w'=>∃(a b:Nat) (l:Int) (wb wp:Bool) (d':Array Int),x=((a:Int),(b:Int),l,wb,wp)/\b-a<=n/\a<=b/\b<=len/\d'.size=d.size/\Sort.Below ltInt a b d'/\gG eH T w0 w' d'/\
   ∀R,PermIn a b d' R->SortedIn ltInt a b R->PermIn a0 b0 d R/\SortedIn ltInt a0 b0 R) (fun x _=>(x.2.1-x.1).toNat)
  ⟨a0,b0,limit0,true,true,d,rfl,hn,hab,hb,rfl,hB,h,fun R h1 h2=>⟨h1,h2⟩⟩ ?_
 rintro x w1 ⟨a,b,l,wb,wp,d1,rfl,hn1,hab,hb,hs1,hB,h,hR⟩ X hX;dsimp only;have e0:IntKind.i64.wrap ((b:Int)-a)=((b-a:Nat):Int):=(by rw[wi _ oJ];omega);rw[e0];apply dW<;>intro hc;refine qAl h hab hb oJ fun w2 h=>?_;obtain⟨h1,h2⟩:=insertionSort_holds BA d1 a b hab oJ;obtain⟨h3,h4⟩:=hR _ h1 h2;exact hk _ _ h3 h4 h;have h12:12<b-a:=(by have:=zB hc;omega);apply dW<;>intro hc;refine qzi h hab hb oJ fun w2 h=>?_;obtain⟨h1,h2⟩:=heapSort_holds BA d1 a b hab oJ;obtain⟨h3,h4⟩:=hR _ h1 h2;exact hk _ _ h3 h4 h;refine gW (fun _ w'=>∃d2,PermIn a b d1 d2/\gG eH T w0 w' d2) ?_ ?_;apply dW<;>intro hc;exact qxL h hab hb oJ fun d2 w2 hp h=>⟨d2,hp,h⟩;exact⟨d1,permIn_refl _ _ _,h⟩;rintro lim w2 ⟨d2,hp2,h⟩;have hs2:=hp2.1;refine qxY h oJ hb oJ fun p hint w3 hpp h=>?_;dsimp only;refine gW (fun x w'=>∃(p:Nat) (hint:Int) (d3:Array Int),x=((p:Int),hint)/\a<=p/\p<b/\PermIn a b d1 d3/\gG eH T w0 w' d3) ?_ ?_;apply dW<;>intro hc;refine qAp h oJ hb oJ fun w4 h=>⟨(b-1)-(p-a),1,_,sQ ?_ rfl,oJ,oJ,permIn_trans _ _ _ _ _ hp2 (reverseRange_holds _ _ _ hab oJ),h⟩;rw[wi ((b:Int)-1) oJ,wi ((p:Int)-a) oJ,wi _ oJ];omega;exact⟨p,hint,d2,rfl,hpp.1,hpp.2,hp2,h⟩;rintro x w4 ⟨p,hint,d3,rfl,hp1,hp2,hp3,h⟩;have hs3:=hp3.1;dsimp only;refine gW (fun _ w'=>∃d4,PermIn a b d1 d4/\gG eH T w0 w' d4) ?_ ?_;refine gW (fun _ w'=>gG eH T w0 w' d3) ?_ ?_;apply dW<;>intro hc;apply dW<;>intro hc;exact h;exact h;exact h;rintro c w5 h;apply dW<;>intro hc;refine qx0 h oJ hb oJ fun w6 h=>?_;obtain⟨h1,h2⟩:=partialInsertionSort_holds BA d3 a b oJ oJ (hB.perm oJ hp3);apply dW<;>intro hc;obtain⟨h3,h4⟩:=hR _ (permIn_trans _ _ _ _ _ hp3 h1) (h2 hc);exact hk _ _ h3 h4 h;exact⟨_,permIn_trans _ _ _ _ _ hp3 h1,h⟩;exact⟨d3,hp3,h⟩;rintro _ w5 ⟨d4,hp4,h⟩;have hs4:=hp4.1;have hB4:=hB.perm oJ hp4;refine gW (fun c w'=>c=(decide (0<a)&&!ltInt d4[a-1]! d4[p]!)/\gG eH T w0 w' d4) ?_ ?_;apply dW<;>intro hc;have ha:0<a:=(by have:=zC hc;omega);exact h.drew.rd (a-1) (by rw[wi _ oJ];omega) oJ oJ<|h.drew.rd p rfl oJ oJ<|rP<|⟨by simp[ha],h.drew⟩;have ha:¬0<a:=(by have:=zB hc;omega);exact⟨by simp[ha],h.drew⟩;rintro c w6 ⟨rfl,h⟩;apply dW<;>intro hc;simp only[yB,decide_eq_true_eq,zT] at hc;have hr:=round_eq BA (partitionEqual_holds ltInt) hc.1 hp1 hp2 oJ hB4 hc.2 (mid:=(Sort.partitionEqual ltInt d4 a b p).1) (d4:=(Sort.partitionEqual ltInt d4 a b p).2) rfl;refine qwc h hp1 hp2 hb oJ fun w7 h=>?_;obtain⟨h1,h2,h3,h4,h5⟩:=hr;refine hX _ _ ⟨_,b,lim,wb,wp,_,rfl,oJ,h2,hb,oJ,h4,h,fun R r1 r2=>?_⟩ oN;obtain⟨q1,q2⟩:=h5 R r1 r2;exact hR R (permIn_trans _ _ _ _ _ hp4 q1) q2;have hr:=round_part BA (partition_holds ltInt) hp1 hp2 oJ hB4 (mid:=(Sort.partition ltInt d4 a b p).1) (ap:=(Sort.partition ltInt d4 a b p).2.1) (d4:=(Sort.partition ltInt d4 a b p).2.2) rfl;refine qzl h hp1 hp2 hb oJ fun w7 h=>?_;obtain⟨h1,h2,h3,h4,h5,h6,h7⟩:=hr;dsimp only;generalize (Sort.partition ltInt d4 a b p).1=mid at *
 generalize (Sort.partition ltInt d4 a b p).2.2=d5 at *
 rw[wi ((mid:Int)-a) oJ,wi ((b:Int)-mid) oJ,wi ((mid:Int)+1) oJ,show (mid:Int)+1=((mid+1:Nat):Int) by omega];apply cD<;>intro hc;have hlt:mid-a<b-mid:=oJ;refine ih (mid-a) oJ (zM _) h h1 oJ oJ h4 fun d6 w8 r1 r2 h=>?_;obtain⟨q1,q2⟩:=h6 d6 r1 r2;refine hX _ _ ⟨mid+1,b,lim,_,_,d6,rfl,oJ,oJ,hb,by have:=r1.1;omega,q1,h,fun R s1 s2=>?_⟩ oN;obtain⟨t1,t2⟩:=q2 R s1 s2;exact hR R (permIn_trans _ _ _ _ _ hp4 t1) t2;refine ih (b-(mid+1)) oJ (zM _) h oJ hb oJ h5 fun d6 w8 r1 r2 h=>?_;obtain⟨q1,q2⟩:=h7 d6 r1 r2;refine hX _ _ ⟨a,mid,lim,_,_,d6,rfl,oJ,oJ,oJ,by have:=r1.1;omega,q1,h,fun R s1 s2=>?_⟩ oN;obtain⟨t1,t2⟩:=q2 R s1 s2;exact hR R (permIn_trans _ _ _ _ _ hp4 t1) t2
def qtN{w0:World}{K:Unit->WP}(h:gG eH T w0 w d)(C:len<=d.size/\len<=1152921504606846976)(E:∀u w',PermIn 0 len d u->SortedIn ltInt 0 len u->gG eH T w0 w' u->K () w'): cW 148 [.slice (pW eH) len cap] [] w K:=by refine qio (x:=⟨pW eH,len,cap⟩) ?_;dsimp only;rw[IntWalk.u64_in (len:Int) oJ];exact ES oJ<|qAn len (a:=0) oJ h oJ (zM _) C (.inl rfl) E
def qry{K:Unit->WP}(h:K () w):cW 148 [.slice none 0 0] [] w K:=by refine qio (x:=dG) ?_;dsimp only;rw[IntWalk.u64_in ((0:Nat):Int) oJ];exact ES (n:=0) oJ<|qcK (data:=dG)<|Al fun X u=>cond_true (by decide +kernel)<|qbK (data:=dG)<|Al fun X u=>cond_false (by decide +kernel) h
end
end
def qxM{rb cap:Nat}{T:TypeId}{K:Sl->WP}(I:w.heap[rb]?=some (.cells (ib d) T (0,0)))(ag:n<=d.size)(hn:n<=1000000)(hk:∀b U h T' w',w'.heap[b]?=some (.cells (ib U) T' (0,0))->n<=U.size->n<=h/\h<=U.size->U.toList.take n=d.toList.take n->w.heap.size<=b->Fr [] w w'->K ⟨pW b,n,h⟩ w'): cW 176 [.slice (pW rb) n cap] dh w K:=by
 obtain⟨V,hi,hz,aa,ab⟩:=vI;refine qg7 (s:=⟨pW rb,n,cap⟩)<|cond_false rfl ?_;have C:=oE [] w;refine dQ.new C fun tb w1 et aj C=>?_;have ac:w1.heap[rb]?=some (.cells (ib d) T (0,0)):=(by rw[C.fr.block rb (eZ I) oL];exact I);have G:∀(j:Nat) u,((d.toList.take n).map (Value.int .u32))[j]?=some u->w1.cell? (((dg rb):Addr).add j)=some u:=fun j u E=>by rw[Addr.q9,ji ac,xS];rw[zQ,xB] at E;by_cases hjn:j<n;rw[if_pos hjn] at E;unfold ib;rw[Array.getElem?_map];simpa using E;rw[if_neg hjn] at E;cases E
 have J:((d.toList.take n).map (Value.int .u32)).length=n:=oO;dsimp only;by_cases h0:n=0;subst h0;refine qtT (P:=prog) (e:=63) oK hi [] (C.at (i:=0) rfl) oL (fun j u E=>by simp at E) oL oJ oL ?_;have R:=C.gR (o':=.cells (dR #[] (0+0*V.size) []) 63 (0,0)) 0 rfl
 have:=R.at (i:=0) rfl
 have e:ib #[] = #[]:=(by simp[ib]);exact hk tb #[] 0 63 _ (by rw[e];exact this) oL ⟨zM _,zM _⟩ oL oJ R.fr;refine qrB (P:=prog) (e:=63) oK hi hz [] ((d.toList.take n).map (Value.int .u32)) oL (fun j u E=>by simp at E) (by rw[J,aa];omega) G oJ (by rw[ab];omega) oJ fun q ak al=>?_;rw[qoN _ _ rfl];have ad:([]:List Value).toArray++((d.toList.take n).map (Value.int .u32)).toArray++Array.replicate (q-(0+n)) (.u 0)=ib ((d.toList.take n++List.replicate (q-(0+n)) (0:Int)).toArray):=(by rw[EG];apply Array.ext';simp);rw[ad];have C:=C.drew.alloc (.cells (ib ((d.toList.take n++List.replicate (q-(0+n)) (0:Int)).toArray)) 63 (0,0));have hl:(d.toList.take n).length=n:=oO;rw[xS];refine hk _ _ q _ _ (by have:=C.at (i:=0) rfl;rw[xS] at this;exact this) oO ⟨oJ,by simp;omega⟩ ?_ (by show w.heap.size<=w1.heap.size;omega) (by rw[xS] at C;exact C.fr);show ((d.toList.take n++List.replicate (q-n) (0:Int))).take n=_;rw[take_append_of_le_length oJ,take_take,Nat.min_self]
def EW:∀ {u C:List Int},u.Perm C->u.Pairwise (·<=·)->C.Pairwise (·<=·)->u=C
 | [],C,h,_,_=>h.nil_eq
 | a::u,[],h,_,_=>absurd h.symm.nil_eq oL
 | a::u,b::C,h,R,U=>by
  have E:=yJ.1 R;have G:=yJ.1 U;have I:a=b:=by
   have V:a∈b::C:=h.mem_iff.1 oL;have m2:b∈a::u:=h.mem_iff.2 oL;rcases zG.1 V with e|e;exact e;rcases zG.1 m2 with J|J;exact J.symm
   have:=G.1 a e
   have:=E.1 b J
   omega
  subst I;rw[EW h.cons_inv E.2 G.2]
def Told (w w':World) (s:Sl) (l:List Int):Prop:=
 (l=[]/\s=dG)\/∃b d T cap,s=⟨pW b,l.length,cap⟩/\w'.heap[b]?=some (.cells (ib d) T (0,0))/\l.length<=d.size/\l.length<=cap/\d.toList.take l.length=l/\w.heap.size<=b/\cap<=d.size
def qtL{pb:Nat}{F:List Nat}{K:Sl->WP}(h:gJ w pb F l)(hl:l.length<=1000000)(hk:∀s w',Told w w' s l->Fr [] w w'->K s w'):cW 147 [dF pb] dh w K:=by
 refine qlH ?_;have u:=h.pR;obtain⟨mb,R,d,f,rfl,hr,hm,hp,hh,hf,h1⟩:=h.ex;rcases hr with ⟨h0,hd,hR,I⟩|⟨rb,T,hR,I,J,aq,U⟩;have V:l=[]:=eq_nil_of_length_eq_zero h0;subst V;exact fv<|iA I dG rfl<|qg7<|cond_true rfl<|qry<|hk _ _ (.inl ⟨rfl,rfl⟩) (.refl _ _);refine fv<|iA I ⟨pW rb,l.length,d.size⟩ rfl ?_;dsimp only;refine qxM J U hl fun b d' C T' w' c1 c2 aa c3 c4 c5=>?_;dsimp only;refine qtN (.start c1) ⟨c2,oJ⟩ fun d2 w2 s1 s2 s3=>?_;have ay:=s1.1;refine hk _ _ (.inr ⟨b,d2,T',C,rfl,s3.eH,oJ,aa.1,?_,c4,oJ⟩) (c5.j8 s3.fr fun i E=>by simp at E;subst E;exact .inr c4);refine EW ((A0 s1).trans (by rw[c3];exact hp)) ?_ (u.imp Int.le_of_lt);rw[pairwise_iff_getElem];intro i j E hj ac;have ad:i<l.length:=(by simp at E;omega);have G:j<l.length:=(by simp at hj;omega);have g1:=ya (d:=d2) rfl ad oJ;have g2:=ya (d:=d2) rfl G oJ;rw[zA E] at g1;rw[zA hj] at g2;rw[yO g1,yO g2]
 have:=s2 i j oJ ac G
 simp[ltInt] at this;exact this
abbrev iu:Int->List Value:=fun n=>[Value.int .u32 n]
abbrev Rd (S:List Nat) (w:World) (s:Sl) (l:List Int):Prop:=dZ iu 1 S w s l
abbrev lc (w:World) (s:Sl) (l:List Int) (B:List Nat):Prop:=eQ iu 1 w s l B
def qS:∀x,(iu x).length=1:=fun _=>rfl
def Rd.at{S:List Nat}{s:Sl}(h:Rd S w s l)(n:Nat){i x:Int}{K:Int->Prop}(hi:i=n)(C:l[n]?=some x)(k:K x):idx s i 1 fun a=>ld .u a w K:=
 dZ.get (y:=x) h n hi C rfl k
def EI{s:Sl}{B:List Nat}{x:Int}{T:TypeId}{K:Sl->WP}(h:lc w s l B)(U:l.length<=1000000)(I:∀G B' w',lc w' G (l++[x]) B'->Fr B w w'->(∀b∈B',b∈B\/w.heap.size<=b)->K G w'): Pt.new (.cells #[.u x] T) w fun r w1=>Pt.run dh ((Builtin.append_ #[172,172] 172 #[s.v,.slice (pW r) 1 1]).run prog w1) K:=by obtain⟨i,J,R,C,E⟩:=vI;exact eQ.push (e:=63) h qS (by simp[Value.oneCell']) oK J R C rfl rfl (by rw[E];omega) oJ I
def DD{w0:World}{F F':List Nat}(u:∀b∈F,w0.heap.size<=b)(E:w0.heap.size<=w.heap.size)(h:∀b∈F',b∈F\/w.heap.size<=b):∀b∈F',w0.heap.size<=b:=by intro b C;rcases h b C with h|h;exact u b h;omega
end
section
set_option maxRecDepth 100000
open Go Go.Pt
end
section
set_option maxRecDepth 100000
open Go Go.Pt
variable {K:Int->WP} {id0 id1:Int} {read:Value} {s:Option Addr} {w:World}
@[reducible] def pM:List Cell:=iT
@[reducible] def qy4:List Cell:=ll
@[reducible] def vF:List Cell:=i7
@[reducible] def BQ:List Cell:=mt
@[reducible] def qA2:List Cell:=rQ
@[reducible] def BI:List Cell:=AO

def qsQ{p:Option Addr}{K:((Option Addr))->WP}(hF:new (.cells #[.pointer p] 100) w fun a b=>K (pW a) b):cW 63 [.pointer p] dy w K:=eA (an:=[]) func63 hF

def qoE{t:Int}{k:Sl}{K:((HL pM)×Bool)->WP}(hF:new (.cells cv 74) w fun b c=>nn s fun d=>ld .ptr d c fun e=>cW 47 ([.pointer e,.i t,k.v]) dk c fun (f:Sl×Int) g=>cond (!f.snd==0) (new (.cells cv 74) g fun h i=>dK (pM) (dg h) i fun j=>st (dg b) (HL.mk pM j) i fun l=>dK (pM) (dg b) l fun m=>K ((m,false)) l) (ed prog read ([k.v,f.fst.v]) ([.agg pM,.one .bool]) g fun (n:(Int×Int×Int×Int×Int×Int×Int×Int×Int×Int×Int×Int×Int×Int×Int)×Bool) o=>st (dg b) (HL.mk pM n.fst) o fun p=>dK (pM) (dg b) p fun q=>K ((q,n.snd)) p)):cW 54 [.pointer s,.i t,k.v,read] [.agg pM,.one .bool] w K:=eA (an:=[]) func54 hF

def qoF{t:Int}{k:Sl}{K:((List Value)×Bool)->WP}(hF:fg prog 79 w fun b c=>nn s fun d=>ld .ptr d c fun e=>cW 47 ([.pointer e,.i t,k.v]) dk c fun (f:Sl×Int) g=>cond (!f.snd==0) (fg prog 79 g fun h i=>ij 18 (dg h) i fun j=>gF (List.length j=18)<|st (dg b) j i fun l=>ij 18 (dg b) l fun m=>K ((m,false)) l) (ed prog read ([k.v,f.fst.v]) dw g fun (n:List Value×Bool) o=>gF (List.length n.fst=18)<|st (dg b) n.fst o fun p=>ij 18 (dg b) p fun q=>K ((q,n.snd)) p)):cW 57 [.pointer s,.i t,k.v,read] dw w K:=eA (an:=[]) func57 hF

def qhC{K:((HL pM)×Bool)->WP}(hF:new (.cells #[.int .u64 id0,.int .u64 id1] 39) w fun b c=>new (.cells cv 74) c fun d e=>dK df (dg b) e fun f=>cW 55 ([de f.fst f.snd]) dh e fun g h=>cW 54 ([.pointer s,.i 0,g.v,Value.func (Fn.func 56) #[] #[]]) ([.agg pM,.one .bool]) h fun (i:(Int×Int×Int×Int×Int×Int×Int×Int×Int×Int×Int×Int×Int×Int×Int)×Bool) j=>st (dg d) (HL.mk pM i.fst) j fun k=>dK (pM) (dg d) k fun l=>K ((l,i.snd)) k):cW 22 [.pointer s,de id0 id1] [.agg pM,.one .bool] w K:=eA (an:=[]) func22 hF

def qfR{a:HL pM}(hF:new (.cells (List.toArray (HL.mk pM a)) 74) w fun b c=>dK (pM) (dg b) c fun d=>cW 52 ([fG pM d]) dq c fun (e:Sl×Sl) f=>nn s fun g=>ld .ptr g f fun h=>cW 50 ([.pointer h,.i 0,e.fst.v,e.snd.v]) di f fun (i:Int) j=>K i j):cW 20 [.pointer s,fG pM a] di w K:=eA (an:=[]) func20 hF

def qgC{K:((List Value)×Bool)->WP}(hF:new (.cells #[.int .u64 id0,.int .u64 id1] 39) w fun b c=>fg prog 79 c fun d e=>dK df (dg b) e fun f=>cW 55 ([de f.fst f.snd]) dh e fun g h=>cW 57 ([.pointer s,.i 1,g.v,Value.func (Fn.func 58) #[] #[]]) dw h fun (i:List Value×Bool) j=>gF (List.length i.fst=18)<|st (dg d) i.fst j fun k=>ij 18 (dg d) k fun l=>K ((l,i.snd)) k):cW 23 [.pointer s,de id0 id1] dw w K:=eA (an:=[]) func23 hF

def qfp{x:List Value}(hF:new (.cells (List.toArray x) 79) w fun b c=>dK (qy4) (dg b) c fun d=>new (.cells cw 77) c fun e f=>st (dg e) (HL.mk qy4 d) f fun g=>ij 18 (dg b) g fun h=>cW 59 ([.agg (List.toArray h)]) dq g fun (i:Sl×Sl) j=>nn s fun k=>ld .ptr k j fun l=>cW 50 ([.pointer l,.i 1,i.fst.v,i.snd.v]) di j fun (m:Int) n=>cond (!m==0) (K m n) (nn s fun o=>ld .ptr o n.drew fun p=>dK df (dg e 2) n.drew fun q=>ld (.int .u64) (dg e 15) n.drew fun (r:Int)=>dK df (dg e) n.drew fun t=>cW 38 ([de q.fst q.snd,.int .u64 r]) dh n.drew fun u v=>held [jn (dg e) 0 ([.int .u64 t.fst,.int .u64 t.snd]),dS o (.pointer p)] v<|cW 55 ([de t.fst t.snd]) dh v fun A B=>held [dS o (.pointer p)] B<|cW 50 ([.pointer p,.i 4,u.v,A.v]) di B fun (D:Int) E=>cond (!D==0) (K D E) (nn s fun F=>ld .ptr F E.drew fun G=>dK df (dg e 4) E.drew fun H=>ld (.int .u64) (dg e 15) E.drew fun (I:Int)=>dK df (dg e) E.drew fun J=>cW 38 ([de H.fst H.snd,.int .u64 I]) dh E.drew fun L M=>held [jn (dg e) 0 ([.int .u64 J.fst,.int .u64 J.snd]),dS F (.pointer G)] M<|cW 55 ([de J.fst J.snd]) dh M fun P Q=>held [dS F (.pointer G)] Q<|cW 50 ([.pointer G,.i 5,L.v,P.v]) di Q fun (S:Int) T=>K S T))):cW 24 [.pointer s,.agg x.toArray] di w K:=eA (an:=aS [(9,.o [[0,1,2,3,4,5,6,7,9,10,8,11,12,13]]),(3,.o [[0,1,2,3,4,5,6,7,9,10,8,11,12,13]])]) func24 hF

def qiv(hF:new (.cells #[.int .u64 id0,.int .u64 id1] 39) w fun b c=>nn s fun d=>ld .ptr d c.drew fun e=>dK df (dg b) c.drew fun f=>cW 55 ([de f.fst f.snd]) dh c.drew fun g h=>held [dS d (.pointer e)] h<|cW 47 ([.pointer e,.i 2,g.v]) dk h fun (j:Sl×Int) k=>cond (!j.snd==0) (K 0 k) (idx j.fst 0 1 fun l=>ld .b l k fun (m:Int)=>K m k)):cW 29 [.pointer s,de id0 id1] [.one .b] w K:=eA (an:=[]) func29 hF

def qgl{state:Int}(hF:new (.cells #[.int .u64 id0,.int .u64 id1] 39) w fun b c=>(nn s fun d=>ld .ptr d c.drew fun e=>dK df (dg b) c.drew fun f=>cW 55 ([de f.fst f.snd]) dh c.drew fun g h=>held [dS d (.pointer e)] h<|new (.cells #[.b state] 5) h fun j k=>held [jn (dg b) 0 ([.int .u64 f.fst,.int .u64 f.snd]),dS d (.pointer e)] k<|cW 50 ([.pointer e,.i 2,g.v,.slice (pW j) 1 1]) di k fun (n:Int) o=>K n o)/\(nn s fun p=>ld .ptr p c.drew fun q=>dK df (dg b) c.drew fun r=>new (.cells #[.b state] 5) c.drew fun t u=>held [jn (dg b) 0 ([.int .u64 r.fst,.int .u64 r.snd]),dS p (.pointer q)] u<|cW 55 ([de r.fst r.snd]) dh u fun y z=>held [dS p (.pointer q)] z<|cW 50 ([.pointer q,.i 2,y.v,.slice (pW t) 1 1]) di z fun (B:Int) C=>K B C)):cW 67 [.pointer s,de id0 id1,.b state] di w K:=eA (an:=[.n,.n,.o [[0,1,2,3,4,6,5,7,8,9],[0,1,2,3,4,6,7,5,8,9]]]) func67 hF

def qit{d0 d1 d2 d3:Int}(hF:new (.cells #[.int .u64 d0,.int .u64 d1,.int .u64 d2,.int .u64 d3] 41) w fun b c=>dK (vF) (dg b) c fun d=>cW 60 ([fG vF d]) dq c fun (e:Sl×Sl) f=>nn s fun g=>ld .ptr g f fun h=>cW 50 ([.pointer h,.i 3,e.fst.v,e.snd.v]) di f fun (i:Int) j=>K i j):cW 26 [.pointer s,.agg #[.int .u64 d0,.int .u64 d1,.int .u64 d2,.int .u64 d3]] di w K:=eA (an:=[]) func26 hF

def qis{d0 d1 d2 d3:Int}(hF:new (.cells #[.int .u64 d0,.int .u64 d1,.int .u64 d2,.int .u64 d3] 41) w fun b c=>dK (vF) (dg b) c fun d=>cW 60 ([fG vF d]) dq c fun (e:Sl×Sl) f=>nn s fun g=>ld .ptr g f fun h=>cW 61 ([.pointer h,.i 3,e.fst.v]) di f fun (i:Int) j=>K i j):cW 25 [.pointer s,.agg #[.int .u64 d0,.int .u64 d1,.int .u64 d2,.int .u64 d3]] di w K:=eA (an:=[]) func25 hF

def qk0{J0 most:Int}{K:Sl->WP}(hF:nn s fun b=>ld .ptr b w.drew fun c=>cW 35 ([.int .u64 J0,.int .u64 18446744073709551615]) dh w.drew fun d e=>held [dS b (.pointer c)] e<|cW 34 ([.pointer c,.i 3,.slice none 0 0,d.v,.bool false,.i most]) dh e fun g h=>loop (Sl×Int) (fun i (j:Sl×Int) k=>cond (decide (j.snd<(↑g.len:Int))) (join (Sl) (fun l=>idx g j.snd 2 fun m=>dK ([.slice,.slice]) m k fun n=>new (.cells dc 104) k fun o p=>st (dg o) ([n.fst.v,n.snd.v]) p fun q=>ld .slice (dg o) q fun r=>ld .slice (dg o 1) q fun t=>cW 36 ([r.v,t.v]) ([.agg vF,.one .bool]) q fun (u:(Int×Int×Int×Int)×Bool) v=>new (.cells c6 41) v fun x y=>st (dg x) (HL.mk vF u.fst) y fun z=>cond u.snd (dK (vF) (dg x) z fun A=>new (.cells (List.toArray (HL.mk vF A)) 41) z fun B C=>iR (#[29,29]) 29 (#[j.fst.v,.slice (pW B) 1 1]) C fun D E=>l D E) (l j.fst z)) fun F G=>i ((F,IntKind.wrap .i64 (j.snd+1))) G) (K j.fst k)) (({ a:=none,len:=0,cap:=0 },0)) h):cW 10 [.pointer s,.int .u64 J0,.i most] dh w K:=eA (an:=aS [(4,.o [[0,1,2,3,4,6,9,5,7,8]]),(0,.l [(7,.one .slice),(21,.one .i)]),(2,.j [(7,.one .slice)])]) func10 hF

def qiu{account0 account1:Int}{r:HL BQ}(hF:new (.cells #[.int .u64 account0,.int .u64 account1] 39) w fun b c=>new (.cells (List.toArray (HL.mk BQ r)) 62) c fun d e=>dK df (dg b) e fun f=>dK (BQ) (dg d) e fun g=>cW 111 ([de f.fst f.snd,fG BQ g]) dq e fun (h:Sl×Sl) i=>nn s fun j=>ld .ptr j i fun k=>cW 50 ([.pointer k,.i 6,h.fst.v,h.snd.v]) di i fun (l:Int) m=>K l m):cW 71 [.pointer s,de account0 account1,fG BQ r] di w K:=eA (an:=[]) func71 hF

def qir{K:((HL BI))->WP}(hF:new (.cells dd 64) w fun a b=>new (.cells dd 64) b fun c d=>loop (Int) (fun e (f:Int) g=>cond (decide (f<8)) (nn s fun h=>ld .ptr h g fun i=>cW 46 ([.pointer i,.i f]) ([.agg qA2]) g fun (j:Int×Int×Int) k=>gF (0<=f/\f<(↑8:Int))<|st (Addr.add (dg c) (Int.toNat f*1)) ([.u j.snd.fst]) k fun l=>e (IntKind.wrap .i64 (f+1)) l) (dK (BI) (dg c) g fun m=>st (dg a) (HL.mk BI m) g fun n=>dK (BI) (dg a) n fun o=>K o n)) 0 d):cW 16 [.pointer s] [.agg BI] w K:=eA (an:=aS [(4,.l [(5,.one .i)])]) func16 hF
end
section
set_option maxRecDepth 100000
open Go Go.Pt
end
section
set_option maxRecDepth 100000
open Go Go.Pt

variable {s:Option Addr} {w:World}
def qhK{blocks:Int}{K:((Option Addr)×(Option Addr))->WP}(hF:cW 62 ([.i blocks]) dz w fun (a:Option Addr×Option Addr) b=>cond (Option.isNone a.snd) (K ((none,none)) b) (cW 63 ([.pointer a.snd]) dy b fun c d=>K ((c,a.snd)) d)):cW 32 [.i blocks] dz w K:=eA (an:=[]) func32 hF
@[reducible] def iF:List Cell:=fO
variable {K:((Option Addr)×(HL iF)×Bool)->WP}
@[reducible] def rG:List Cell:=iT
@[reducible] def te:List Cell:=i7
@[reducible] def At:List Cell:=mt
@[reducible] def zg:List Cell:=AO

def qhD{n:Int}{K:Int->WP}(hF:(nn s fun b=>ld .ptr b w.drew fun c=>new (.cells #[.b 1] 5) w.drew fun d e=>held [dS b (.pointer c)] e<|cW 51 ([.int .u64 n]) dh e fun g h=>held [dS b (.pointer c)] h<|cW 50 ([.pointer c,.i 7,.slice (pW d) 1 1,g.v]) di h fun (j:Int) k=>K j k)/\(nn s fun l=>ld .ptr l w.drew fun m=>cW 51 ([.int .u64 n]) dh w.drew fun o p=>held [dS l (.pointer m)] p<|new (.cells #[.b 1] 5) p fun r t=>held [dS l (.pointer m)] t<|cW 50 ([.pointer m,.i 7,.slice (pW r) 1 1,o.v]) di t fun (v:Int) x=>K v x)):cW 19 [.pointer s,.int .u64 n] di w K:=eA (an:=[.n,.n,.o [[0,1,2,3,5,4,6,7,8],[0,1,2,3,5,6,4,7,8]]]) func19 hF

def qjZ{K:Int->WP}(hF:nn s fun b=>ld .ptr b w fun c=>new (.cells #[.b 1] 5) w fun d e=>cW 47 ([.pointer c,.i 7,.slice (pW d) 1 1]) dk e fun (f:Sl×Int) g=>cond (!f.snd==0) (K 0 g) (iR (#[101,101]) 101 (#[f.fst.v,f.fst.v]) g fun h i=>cW 48 ([h.v]) dx i fun (j:Int×Int×Bool) k=>K j.fst k)):cW 17 [.pointer s] dl w K:=eA (an:=[]) func17 hF

def qhL{p:Option Addr}{b:HL iF}{o:List Value}{K:((HL iF)×Bool)->WP}(hF:new (.cells (List.toArray (HL.mk iF b)) 34) w fun a c=>new (.cells (List.toArray o) 81) c fun d e=>new (.cells cq 34) e fun f g=>ld .b (dg d) g fun (h:Int)=>cond (Int.tmod h 8==0) (dK (iF) (dg a) g.drew fun i=>dK (rG) (dg d 1) g.drew fun j=>dK (rG) (dg d 1) g.drew fun k=>cW 64 ([fG iF i,fG rG j]) ([.agg iF]) g.drew fun (l:Sl×Sl×Sl×Sl×Sl×Sl×Sl×Int×Bool×Sl) m=>held [jn (dg d 1) 0 (HL.mk rG k)] m<|cW 20 ([.pointer s,fG rG k]) di m fun (q:Int) r=>st (dg f) (HL.mk iF l) r fun t=>dK (iF) (dg f) t fun u=>K ((u,q==0)) t) (cond (Int.tmod h 8==1) (dK (iF) (dg a) g.drew fun v=>ij 18 (dg d 16) g.drew fun x=>ij 18 (dg d 16) g.drew fun y=>cW 65 ([fG iF v,.agg (List.toArray x)]) ([.agg iF]) g.drew fun (z:Sl×Sl×Sl×Sl×Sl×Sl×Sl×Int×Bool×Sl) A=>held [jn (dg d 16) 0 y] A<|cW 24 ([.pointer s,.agg (List.toArray y)]) di A fun (C:Int) D=>st (dg f) (HL.mk iF z) D fun E=>dK (iF) (dg f) E fun F=>K ((F,C==0)) E) (cond (Int.tmod h 8==2) (dK (iF) (dg a) g.drew fun G=>dK df (dg d 34) g.drew fun H=>ld .b (dg d 36) g.drew fun (I:Int)=>dK df (dg d 34) g.drew fun J=>ld .b (dg d 36) g.drew fun (L:Int)=>cW 66 ([fG iF G,de H.fst H.snd,.b I]) ([.agg iF]) g.drew fun (M:Sl×Sl×Sl×Sl×Sl×Sl×Sl×Int×Bool×Sl) N=>held [dS (dg d 36) (.b L),jn (dg d 34) 0 ([.int .u64 J.fst,.int .u64 J.snd])] N<|cW 67 ([.pointer s,de J.fst J.snd,.b L]) di N fun (Q:Int) R=>st (dg f) (HL.mk iF M) R fun S=>dK (iF) (dg f) S fun T=>K ((T,Q==0)) S) (cond (Int.tmod h 8==3) (dK (iF) (dg a) g.drew fun U=>dK (te) (dg d 37) g.drew fun V=>dK (te) (dg d 37) g.drew fun W=>cW 68 ([fG iF U,fG te V]) ([.agg iF]) g.drew fun (X:Sl×Sl×Sl×Sl×Sl×Sl×Sl×Int×Bool×Sl) Y=>held [jn (dg d 37) 0 (HL.mk te W)] Y<|cW 26 ([.pointer s,fG te W]) di Y fun (aa:Int) ab=>st (dg f) (HL.mk iF X) ab fun ac=>dK (iF) (dg f) ac fun ad=>K ((ad,aa==0)) ac) (cond (Int.tmod h 8==4) (dK (iF) (dg a) g fun ae=>dK (te) (dg d 37) g fun af=>cW 69 ([fG iF ae,fG te af]) ([.agg iF,.one .bool]) g fun (ag:(Sl×Sl×Sl×Sl×Sl×Sl×Sl×Int×Bool×Sl)×Bool) ah=>new (.cells cq 34) ah fun ai aj=>st (dg ai) (HL.mk iF ag.fst) aj fun ak=>join (Int) (fun al=>cond ag.snd (al 0 ak) (al 5 ak)) fun (am:Int) an=>dK (iF) (dg ai) an.drew fun ao=>dK (te) (dg d 37) an.drew fun ap=>cW 25 ([.pointer s,fG te ap]) di an.drew fun (aq:Int) ar=>held [jn (dg ai) 0 (HL.mk iF ao)] ar<|st (dg f) (HL.mk iF ao) ar fun av=>dK (iF) (dg f) av fun aw=>K ((aw,aq==am)) av) (cond (Int.tmod h 8==5) (dK (iF) (dg a) g.drew fun ax=>dK df (dg d 34) g.drew fun ay=>dK (At) (dg d 41) g.drew fun az=>dK df (dg d 34) g.drew fun aA=>dK (At) (dg d 41) g.drew fun aB=>cW 70 ([fG iF ax,de ay.fst ay.snd,fG At az]) ([.agg iF]) g.drew fun (aC:Sl×Sl×Sl×Sl×Sl×Sl×Sl×Int×Bool×Sl) aD=>held [jn (dg d 41) 0 (HL.mk At aB),jn (dg d 34) 0 ([.int .u64 aA.fst,.int .u64 aA.snd])] aD<|cW 71 ([.pointer s,de aA.fst aA.snd,fG At aB]) di aD fun (aG:Int) aH=>st (dg f) (HL.mk iF aC) aH fun aI=>dK (iF) (dg f) aI fun aJ=>K ((aJ,aG==0)) aI) (cond (Int.tmod h 8==6) (ld (.int .u64) (dg d 51) g fun (aL:Int)=>st (dg a 7) ([.int .u64 aL]) g fun aM=>st (dg a 8) ([.bool true]) aM fun aN=>dK (iF) (dg a) aN.drew fun aO=>ld (.int .u64) (dg d 51) aN.drew fun (aP:Int)=>cW 19 ([.pointer s,.int .u64 aP]) di aN.drew fun (aQ:Int) aR=>held [jn (dg a) 0 (HL.mk iF aO)] aR<|st (dg f) (HL.mk iF aO) aR fun aT=>dK (iF) (dg f) aT fun aU=>K ((aU,aQ==0)) aT) (dK (iF) (dg a) g.drew fun aV=>cW 72 ([.pointer p]) di g.drew fun (aW:Int) aX=>held [jn (dg a) 0 (HL.mk iF aV)] aX<|st (dg f) (HL.mk iF aV) aX fun aZ=>dK (iF) (dg f) aZ fun ba=>K ((ba,aW==0)) aZ)))))))):cW 33 [.pointer s,.pointer p,fG iF b,.agg o.toArray] [.agg iF,.one .bool] w K:=eA (an:=aS [(5,.o [[0,1,2,4,5,6,3,7,8,9,10]]),(2,.o [[0,1,2,4,5,6,3,7,8,9,10]]),(2,.o [[0,1,2,3,4,6,7,8,9,10,5,11,12,13,14]]),(2,.o [[0,1,2,4,5,6,3,7,8,9,10]]),(3,.j [(12,.one .i)]),(2,.o [[0,1,2,3,5,4,6,7,8]]),(2,.o [[0,1,2,3,4,6,7,8,9,10,5,11,12,13,14]])]) func33 hF

def qhn{ops:Sl}(hF:new (.cells cq 34) w fun a b=>cW 32 ([.i 900]) dz b fun (c:Option Addr×Option Addr) d=>cond (Option.isNone c.fst) (st (dg a) ([.slice none 0 0,.slice none 0 0,.slice none 0 0,.slice none 0 0,.slice none 0 0,.slice none 0 0,.slice none 0 0,.int .u64 0,.bool false,.slice none 0 0]) d fun e=>dK (iF) (dg a) e fun f=>K ((none,f,false)) e) (new (.cells cq 34) d fun g h=>loop (Int) (fun i (j:Int) k=>cond (decide (j<(↑ops.len:Int))) (idx ops j 52 fun l=>ij 52 l k fun m=>fg prog 81 k fun n o=>gF (List.length m=52)<|st (dg n) m o fun p=>dK (iF) (dg g) p fun q=>ij 52 (dg n) p fun r=>cW 33 ([.pointer c.fst,.pointer c.snd,fG iF q,.agg (List.toArray r)]) ([.agg iF,.one .bool]) p fun (s:(Sl×Sl×Sl×Sl×Sl×Sl×Sl×Int×Bool×Sl)×Bool) t=>new (.cells cq 34) t fun u v=>st (dg u) (HL.mk iF s.fst) v fun x=>cond (!s.snd) (dK (iF) (dg g) x.drew fun y=>st (dg a) (HL.mk iF y) x.drew fun z=>dK (iF) (dg a) z fun A=>K ((none,A,false)) z) (dK (iF) (dg u) x fun B=>st (dg g) (HL.mk iF B) x fun C=>i (IntKind.wrap .i64 (j+1)) C)) (dK (iF) (dg g) k.drew fun D=>st (dg a) (HL.mk iF D) k.drew fun E=>dK (iF) (dg a) E fun F=>K ((c.fst,F,true)) E)) 0 h)):cW 9 [ops.v] [.one .ptr,.agg iF,.one .bool] w K:=eA (an:=aS [(8,.l [(21,.one .i)])]) func9 hF
def qdJ  (K:Bool->WP) (w:World):Prop:=cW 32 ([.i 40]) dz w fun (a:Option Addr×Option Addr) b=>join (Bool) (fun c=>cond (Option.isNone a.fst) (c true b) (cW 26 ([.pointer a.fst,.agg #[.int .u64 9,.int .u64 2,.int .u64 0,.int .u64 0]]) di b fun (d:Int) e=>cond (!d==0) (c true e) (cW 26 ([.pointer a.fst,.agg #[.int .u64 5,.int .u64 3,.int .u64 0,.int .u64 0]]) di e fun (f:Int) g=>c (!f==0) g))) fun (h:Bool) i=>cond h (K false i) (cW 10 ([.pointer a.fst,.int .u64 9,.i 1]) dh i fun j k=>cond ((↑j.len:Int)==1) (idx j 0 4 fun l=>dK (te) l k fun (m:Int×Int×Int×Int)=>eW dj (fun n=>(do eqGuard BinOp.eql 41 (Operand.tmp 30) (Operand.tmp 31) (fG te m) (.agg #[.int .u64 5,.int .u64 3,.int .u64 0,.int .u64 0]);binOp BinOp.eql 41 (fG te m) (.agg #[.int .u64 5,.int .u64 3,.int .u64 0,.int .u64 0])).run prog n) k fun (o:Bool)=>K o k) (K false k))
def qho{w K}(hF:qdJ  K w):cW 8 [] dj w K:=eA (an:=aS [(3,.j [(21,.one .bool)])]) func8 hF

def qeU{ops:Sl}{other0 other1:Int}{K:Bool->WP}(hF:new (.cells #[.int .u64 other0,.int .u64 other1] 39) w fun b c=>cond (decide ((↑ops.len:Int)>60)) (cW 8 [] dj c fun (d:Bool) e=>K d e) (cW 9 ([ops.v]) ([.one .ptr,.agg iF,.one .bool]) c fun (f:Option Addr×(Sl×Sl×Sl×Sl×Sl×Sl×Sl×Int×Bool×Sl)×Bool) g=>new (.cells cq 34) g fun h i=>st (dg h) (HL.mk iF f.snd.fst) i fun j=>cond (!f.snd.snd) (K false j) (dK df (dg b) j fun k=>new (.cells #[.int .u64 k.fst,.int .u64 k.snd] 39) j fun l m=>loop (Sl×Int) (fun n (o:Sl×Int) p=>cond (decide (o.snd<(↑ops.len:Int))) (idx ops o.snd 52 fun q=>ij 52 q p fun r=>fg prog 81 p fun s t=>gF (List.length r=52)<|st (dg s) r t fun u=>dK df (dg s 1) u fun v=>dK df (dg s 16) u fun x=>dK df (dg s 34) u fun y=>new (.cells #[.int .u64 v.fst,.int .u64 v.snd,.int .u64 x.fst,.int .u64 x.snd,.int .u64 y.fst,.int .u64 y.snd] 39) u fun z A=>iR (#[89,89]) 89 (#[o.fst.v,.slice (pW z) 3 3]) A fun B C=>n ((B,IntKind.wrap .i64 (o.snd+1))) C) (loop (Int) (fun D (E:Int) F=>cond (decide (E<(↑o.fst.len:Int))) (idx o.fst E 2 fun G=>dK df G F fun H=>new (.cells cX 39) F fun I J=>st (dg I) ([.int .u64 H.fst,.int .u64 H.snd]) J fun L=>dK df (dg I) L fun M=>cW 22 ([.pointer f.fst,de M.fst M.snd]) ([.agg rG,.one .bool]) L fun (N:(Int×Int×Int×Int×Int×Int×Int×Int×Int×Int×Int×Int×Int×Int×Int)×Bool) O=>new (.cells cv 74) O fun P Q=>st (dg P) (HL.mk rG N.fst) Q fun R=>dK (iF) (dg h) R fun S=>dK df (dg I) R fun T=>cW 27 ([fG iF S,de T.fst T.snd]) ([.agg rG,.one .bool]) R fun (U:(Int×Int×Int×Int×Int×Int×Int×Int×Int×Int×Int×Int×Int×Int×Int)×Bool) V=>new (.cells cv 74) V fun W X=>st (dg W) (HL.mk rG U.fst) X fun Y=>dK df (dg I) Y fun Z=>cW 23 ([.pointer f.fst,de Z.fst Z.snd]) dw Y fun (aa:List Value×Bool) ab=>fg prog 79 ab fun ac ad=>gF (List.length aa.fst=18)<|st (dg ac) aa.fst ad fun ae=>dK (iF) (dg h) ae fun af=>dK df (dg I) ae fun ag=>cW 28 ([fG iF af,de ag.fst ag.snd]) dw ae fun (ah:List Value×Bool) ai=>fg prog 79 ai fun aj ak=>gF (List.length ah.fst=18)<|st (dg aj) ah.fst ak fun al=>join (Bool) (fun am=>dK (rG) (dg P) al.drew fun an=>dK (rG) (dg W) al.drew fun ao=>eW dj (fun ap=>(do eqGuard BinOp.neq 74 (Operand.tmp 84) (Operand.tmp 85) (fG rG an) (fG rG ao);binOp BinOp.neq 74 (fG rG an) (fG rG ao)).run prog ap) al.drew fun (aq:Bool)=>cond aq (am true al.drew) (cond (!N.snd==U.snd) (am true al.drew) (ij 18 (dg ac) al.drew fun ar=>ij 18 (dg aj) al.drew fun au=>eW dj (fun av=>(do eqGuard BinOp.neq 79 (Operand.tmp 93) (Operand.tmp 94) (.agg (List.toArray ar)) (.agg (List.toArray au));binOp BinOp.neq 79 (.agg (List.toArray ar)) (.agg (List.toArray au))).run prog av) al.drew fun (aw:Bool)=>cond aw (am true al.drew) (cond (!aa.snd==ah.snd) (am true al.drew) (dK df (dg I) al.drew fun ax=>dK (iF) (dg h) al.drew fun ay=>dK df (dg I) al.drew fun az=>cW 29 ([.pointer f.fst,de ax.fst ax.snd]) ([.one .b]) al.drew fun (aA:Int) aB=>held [jn (dg I) 0 ([.int .u64 az.fst,.int .u64 az.snd]),jn (dg h) 0 (HL.mk iF ay)] aB<|cW 30 ([fG iF ay,de az.fst az.snd]) ([.one .b]) aB fun (aE:Int) aF=>am (!aA==aE) aF))))) fun (aG:Bool) aH=>cond aG (K false aH) (D (IntKind.wrap .i64 (E+1)) aH)) (cW 8 [] dj F.drew fun (aI:Bool) aJ=>cond aI (ld (.int .u64) (dg h 7) aJ fun (aL:Int)=>cW 17 ([.pointer f.fst]) dl aJ fun (aM:Int) aN=>held [dS (dg h 7) (.int .u64 aL)] aN<|cond (aM==aL) (dK (iF) (dg h) aN fun aP=>cW 16 ([.pointer f.fst]) ([.agg zg]) aN fun (aQ:Int×Int×Int×Int×Int×Int×Int×Int) aR=>held [jn (dg h) 0 (HL.mk iF aP)] aR<|cW 31 ([fG iF aP]) ([.agg zg]) aR fun (aT:Int×Int×Int×Int×Int×Int×Int×Int) aU=>eW dj (fun aV=>(do eqGuard BinOp.eql 64 (Operand.tmp 122) (Operand.tmp 124) (fG zg aQ) (fG zg aT);binOp BinOp.eql 64 (fG zg aQ) (fG zg aT)).run prog aV) aU fun (aW:Bool)=>K aW aU) (K false aN)) (K false aJ))) 0 p)) (({ a:=pW l,len:=1,cap:=1 },0)) m))):cW 7 [ops.v,de other0 other1] dj w K:=eA (an:=aS [(11,.l [(8,.one .slice),(37,.one .i)]),(6,.l [(56,.one .i)]),(8,.j [(110,.one .bool)]),(0,.o [[0,1,2,3,4,5,6,7,8,9,10,11,12,13,14,15,16,17,18,19,20,22,23,21,24,25,26]]),(2,.o [[0,1,2,4,5,3,6,7,8,9,11,10,12,13,14,15]])]) func7 hF
end
section
set_option maxRecDepth 100000
open Go Go.Pt
end
section
open Go Go.Pt List
open Go.IntKind (wrap)
attribute [local irreducible] ld dK ij nM jv fg st new idx jw jL fD jO jl mF gF nn call ed inv run eW i9 join loop held ext kH eS nf mY ng IntKind.wrap
variable {K:Sl->Prop} {L:List (Nat×Obj)} {S:List Nat} {T:TypeId} {body l:List Int} {number:Int} {s:Sl} {w:World}
abbrev encB:Int->List Value:=fun n=>[Value.int .u8 n]
abbrev eh (S:List Nat) (w:World) (s:Sl) (l:List Int):Prop:=dZ encB 1 S w s l
abbrev fQ (w:World) (s:Sl) (l:List Int) (B:List Nat):Prop:=eQ encB 1 w s l B
def kW:∀x,(encB x).length=1:=fun _=>rfl
def fR (l:List Int):Array Value:=(l.map (Value.int .u8)).toArray
def yd(l:List Int):(fR l).size=l.length:=by simp[fR]
def qX(l:List Int):l.flatMap encB=l.map (Value.int .u8):=by
 induction l with
 | nil=>rfl
 | cons a l ih=>rw[yH,ih];rfl
def uO:∃i,prog.info? 5=some i/\i.zero=some (.b 0)/\i.size=1/\i.bytes=1:=sK oK
def eh.at(h:eh S w s l)(n:Nat){i x:Int}{K:Int->Prop}(hi:i=n)(u:l[n]?=some x)(k:K x):idx s i 1 fun a=>ld .b a w K:=
 dZ.get (y:=x) h n hi u rfl k
def vo{b o n cap:Nat}{L:List Int}{u:Nat×Nat}(C:w.heap[b]?=some (.cells (fR L) T u))(J:o+n<=L.length)(E:n<=cap)(G:b∉S):eh S w ⟨some (dg b o),n,cap⟩ ((L.drop o).take n):=by
 refine⟨by rw[yL,yC];dsimp only;omega,E,.inr ⟨b,o,_,T,_,rfl,C,G,fun i x h=>?_⟩⟩;have I:=(zP.1 h).1;rw[yL,yC] at I;rw[xB,iP,xA] at h;rw[xT];apply ext_getElem?;intro j;rw[xB,xA];match j with
 | 0=>simp[fR,h]
 | j+1=>simp
def Cy{b o len cap:Nat}{lo hi:Int}{h:Nat}(u:0<=lo)(C:lo<=hi)(E:hi<=cap)(G:lo<cap)(k:K ⟨some ⟨b,o+lo.toNat*h,none⟩,hi.toNat-lo.toNat,cap-lo.toNat⟩):fD ⟨some (dg b o),len,cap⟩ (some lo) (some hi) none h K:=by unfold fD;refine⟨by simpa using ⟨u,C,E⟩,?_⟩;simp only[xW,xV,zJ];rw[iN];simp only[Option.map_some,Addr.q9];exact k
def Ce{b o len cap:Nat}{lo:Int}{h:Nat}(u:0<=lo)(C:lo<=len)(E:len<=cap)(G:lo<cap)(k:K ⟨some ⟨b,o+lo.toNat*h,none⟩,len-lo.toNat,cap-lo.toNat⟩):fD ⟨some (dg b o),len,cap⟩ (some lo) none none h K:=by unfold fD;refine⟨by simp;omega,?_⟩;simp only[xW,xV,zJ];rw[iN];simp only[Option.map_some,Addr.q9];exact k
def dZ.part{α:Type}{enc:α->List Value}{k:Nat}{l:List α}(h:dZ enc k S w s l){lo hi:Option Int}(a b:Nat)(u:lo.getD 0=a)(C:hi.getD s.len=b)(aa:a<=b)(U:b<=l.length)(kk:∀E,E.len=b-a->dZ enc k S w E ((l.take b).drop a)->(s.a.isNone=true->E.a.isNone=true)->K E):fD s lo hi none k K:=by
 obtain⟨h1,h2,I⟩:=h;unfold fD;refine⟨by rw[u,C];simp;omega,kk _ ?_ ⟨?_,?_,?_⟩ ?_⟩;rw[u,C];simp;rw[u,C];simp;omega;rw[u,C];simp;omega;by_cases he:(l.take b).drop a=[];exact .inl he;right;have ac:a<b:=by rcases Nat.lt_or_ge a b with h|h;exact h;exact absurd (by rw[vE];simp;omega) he
 rcases I with I|⟨bl,o,cs,T,fr,ha,J,R,hc⟩;rw[I] at U;simp at U;omega;refine⟨bl,o+a*k,cs,T,fr,?_,J,R,fun i x G=>?_⟩;rw[u];simp only[xW,zJ];rw[iN,ha];simp[Addr.q9];rw[xA,xB] at G;split at G
 have:=hc (a+i) x G
 rw[<- this,xU,Nat.add_assoc];cases G;intro V;rw[Option.isNone_iff_eq_none] at V;rw[V];simp
def gu (n:Int) (j:Nat):Int:=wrap .u8 (Int.fdiv n (2^min (8*j) 32))
def be (n:Int) (k:Nat):List Int:=(List.range k).map fun i=>gu n (k-1-i)
def jZ(n:Int)(k:Nat):(be n k).length=k:=by simp[be]
def gg(n:Int)(h:-1000000000000000<=n/\n<=1000000000000000):wrap .i64 n=n:=by rw[IntWalk.i64_in];omega
def Ff{w0:World}{b o k cap:Nat}{A X Z:List Int}{n:Int}{K:Unit->WP}(h:dQ S w0 w L)(i:Nat)(hi:L[i]?=some (b,.cells (fR (A++X++Z)) T (0,0)))(ho:A.length=o)(hX:X.length=k)(aa:k<=4)(hk:∀w',dQ S w0 w' (L.set i (b,.cells (fR (A++be n k++Z)) T (0,0)))->K () w'): cW 181 [.slice (some (dg b o)) k cap,.u n] [] w K:=by
 refine qtz (b:=⟨some (dg b o),k,cap⟩)<|iU (fun x w'=>∃j:Nat,x=j/\j<=k/\dQ S w0 w' (L.set i (b,.cells (fR (A++((be n k).take j++X.drop j)++Z)) T (0,0)))) (fun x _=>((k:Int)-x).toNat) ⟨0,rfl,oJ,?_⟩ ?_;have:L.set i (b,.cells (fR (A++((be n k).take 0++X.drop 0)++Z)) T (0,0))=L:=by
  apply ext_getElem?;intro j;rw[List.getElem?_set];by_cases hij:i=j;subst hij;rw[if_pos rfl,hi]
  have:=(zP.1 hi).1
  simp[this];rw[if_neg hij]
 rw[this];exact h;rintro x w1 ⟨j,rfl,hj,E⟩ Y hY;have R:=(zP.1 hi).1;dsimp only;apply cD<;>intro U;have G:j<k:=oJ;have e1:wrap .i64 (8*wrap .i64 (wrap .i64 ((k:Int)-1)-j))=((8*(k-1-j):Nat):Int):=by rw[gg ((k:Int)-1) oJ,gg ((k:Int)-1-j) oJ,gg (8*((k:Int)-1-j)) oJ];omega
 rw[e1,gg _ oJ];refine mP oJ<|uj oJ oJ ?_;rw[zJ,xT,zJ];have I:X.drop j=X[j]::X.drop (j+1):=zY oJ;have V:(be n k).take (j+1)=(be n k).take j++[gu n (k-1-j)]:=by rw[yG (by rw[jZ];exact G)];simp[be]
 have C:((be n k).take j).length=j:=(by rw[yL,jZ];omega);refine oH E i (by rw[List.getElem?_set,if_pos rfl,if_pos R]) (fR (A++((be n k).take (j+1)++X.drop (j+1))++Z)) ?_ rfl ?_ fun w2 J _=>?_;rw[dR,dR];apply Array.ext';rw[Array.toList_setIfInBounds];show (fR _).toList.set _ _=(fR _).toList;unfold fR;simp only[toList_toArray];rw[<- map_set,I,V,zV A,set_append_right _ _ oJ];rw[show o+j-A.length=j by omega,zV ((be n k).take j),set_append_right _ _ oJ,C,Nat.sub_self,xJ,set_cons_zero];simp only[zV,xJ,xI,gu];refine Nat.ble_eq_true_of_le ?_;rw[yd,I];simp only[zF,yI,xK,C];omega;refine hY _ _ ⟨j+1,oJ,oJ,?_⟩ oJ;rw[set_set] at J;exact J;have G:j=k:=oJ;subst G;rw[zS (by rw[jZ];exact zM _),drop_of_length_le oJ,xH] at E;exact hk _ E
def gO (l:List Int):Int:=l.foldl (fun r x=>bits .or .u32 (wrap .u32 (r*2^8)) (wrap .u32 x)) 0
def Fx{K:Int->WP}(h:eh S w s l)(V:l.length<=100000)(R:K (gO l) w):cW 188 [s.v] dt w K:=by refine qty ?_;have I:=h.1;refine iU (fun x w'=>w'=w/\∃i:Nat,x.2=i/\i<=l.length/\x.1=gO (l.take i)) (fun x _=>((l.length:Int)-x.2).toNat) ⟨rfl,0,rfl,oJ,rfl⟩ ?_;rintro⟨r,ii⟩ w' ⟨rfl,i,E,hi,J⟩ X U;simp only at E J;subst E J;apply cD<;>intro G;have C:i<l.length:=oJ;refine eh.at h i rfl (zA C) ?_;rw[gg _ oJ];refine U _ _ ⟨rfl,i+1,oL,oJ,?_⟩ oN;rw[yG C,gO,gO,foldl_append];rfl;have C:i=l.length:=oJ;subst C;rw[xZ];exact R
def ql1{K:Sl->World->Prop}(h:eh S w s l)(hl:l.length<=1000000)(hk:∀s' B w',fQ w' s' l B->Fr [] w w'->(∀b∈B,w.heap.size<=b)->(s.a.isNone=true->s'=dG)->(s.a.isNone=false->s'.a.isNone=false)->K s' w'): cond (Option.isNone s.a) (K dG w) (new (.cells #[] 5) w fun r w1=>Pt.run dh ((Builtin.append_ #[101,101] 101 #[.slice (some (dg r)) 0 0,.slice s.a s.len s.cap]).run prog w1) fun s' w'=>K s' w'):=by
 obtain⟨i5,hi,hz,hsz,hby⟩:=uO;apply dW<;>intro hc;have hl0:l=[]:=by rcases h.2.2 with h3|⟨b,o,cs,T,fr,ha,_⟩;exact h3;rw[ha] at hc;cases hc
 subst hl0;exact hk _ [] w (.nil _ _ _) (.refl _ _) oL (fun _=>rfl) (fun h=>by rw[hc] at h;cases h);obtain⟨a,ha⟩:∃a,s.a=some a:=by cases hs:s.a with|none=>rw[hs] at hc;cases hc|some a=>exact⟨a,rfl⟩
 have ho:=oE [] w;refine dQ.new ho fun r w1 e1 s1 ho=>?_;have h1:eh S w1 s l:=h.q7 ho.fr;have hb:fQ w1 ⟨some (dg r),0,0⟩ [] [r]:=eQ.fresh kW (ho.at (i:=0) rfl) rfl (zM _) oL oL;have hlen:=h.1;rw[ha];refine eQ.j1 (s:=⟨some (dg r),0,0⟩) (ys:=l) (e:=5) hb kW oK hi hz hsz rfl (.ofSlice _ (e':=5) oK a s.len s.cap _ ?_ (h1.cells kW ha) ?_) hlen (by rw[hby,hlen];simp;omega) (by rw[hlen];simp;omega) fun s' B w' g1 g2 g3 g4=>?_;rw[qX];simp[hlen];intro u hu;rw[qX] at hu;obtain⟨x,_,rfl⟩:=List.mem_map.1 hu;rfl;have hBn:∀b∈B,w.heap.size<=b:=fun b hb=>by rcases g3 b hb with h|h;simp at h;omega;omega
 refine hk s' B w' (oP g1) (ho.fr.j8 g2 (fun b hb=>by simp at hb;subst hb;exact .inr oJ)) hBn (fun h=>by rw[hc] at h;cases h) (fun _=>?_);rcases g4 with hn|hn;exact hn;simp at hn
def Ag{K:Sl->WP}(h:eh S w s l)(C:l.length<=1000000)(E:∀u B w',fQ w' u l B->Fr [] w w'->(∀b∈B,w.heap.size<=b)->(s.a.isNone=true->u=dG)->(s.a.isNone=false->u.a.isNone=false)->K u w'): cW 154 [s.v] dh w K:=by exact qnh<|ql1 h C E
def zo{K:Sl->WP}(h:eh S w s l)(C:l.length<=1000000)(E:∀u B w',fQ w' u l B->Fr [] w w'->(∀b∈B,w.heap.size<=b)->(s.a.isNone=true->u=dG)->(s.a.isNone=false->u.a.isNone=false)->K u w'): cW 75 [s.v] dh w K:=by exact qoU<|ql1 h C E
def kP:List Int:=[0,274646895,549293790,820201905,1098587580,1361435347,1640403810,1905808397,2197175160,2460548119,2722870694,2987750089,3280807620,3553878443,3811616794,4084100981]
abbrev HG:Nat:=1
def Hv (w:World):Prop:=∃T h,w.heap[HG]?=some (.cells (kP.map (Value.int .u32)).toArray T h)
def Hv.q8{w':World}(h:Hv w)(f:Fr S w w')(C:HG∉S):Hv w':=by obtain⟨T,E,u⟩:=h;exact⟨T,E,by rw[f.block HG (eZ u) C];exact u⟩
def Hv.q7{w':World}(h:Hv w)(f:Fr [] w w'):Hv w':=h.q8 f oL
def Hv.lt(h:Hv w):HG<w.heap.size:=by obtain⟨T,C,u⟩:=h;exact eZ u
def GH(x:Int):0<=bits .and .u32 x 15/\bits .and .u32 x 15<16:=by have h:(BitVec.ofInt 32 x&&& BitVec.ofInt 32 15).toNat<16:=(by rw[BitVec.toNat_and];exact Nat.lt_of_le_of_lt Nat.and_le_right oM);have u:bits .and .u32 x 15=((BitVec.ofInt 32 x&&& BitVec.ofInt 32 15).toNat:Int):=(by show wrap .u32 _=_;unfold wrap;have:(IntKind.u32.signed)=false:=rfl;simp only[this,Bool.false_and,Bool.false_eq_true,if_false];have e:((2:Int)^IntKind.u32.bits)=4294967296:=rfl;rw[e];exact Int.emod_eq_of_lt oJ (by have:(BitVec.ofInt IntKind.u32.bits x&&& BitVec.ofInt IntKind.u32.bits 15).toNat<16:=h;omega));rw[u];omega
def half (x:Int):Int:=kP.getD x.toNat 0
def vK (r:Int):Int:=bits .xor .u32 (Int.fdiv r (2^4)) (half (bits .and .u32 r 15))
def sd (r x:Int):Int:=vK (vK (bits .xor .u32 r (wrap .u32 x)))
def tN (h:Int) (l:List Int):Int:=bits .xor .u32 (l.foldl sd (bits .xor .u32 h 4294967295)) 4294967295
def nG (l:List Int):Int:=tN 0 l
def qt8{x:Int}{K:Int->Prop}(h:Hv w)(k:K (half (bits .and .u32 x 15))):ld .u (Addr.add (dg HG) (Int.toNat (bits .and .u32 x 15)*1)) w K:=by obtain⟨T,J,E⟩:=h;obtain⟨G,I⟩:=GH x;rw[Addr.q9];refine iA E _ ?_ k;generalize bits .and .u32 x 15=y at G I;have C:y.toNat<kP.length:=(by show y.toNat<16;omega);rw[xS,xT];simp only[List.getElem?_toArray,zQ,zA C,Option.map_some,half,yR,xV];rfl
def qzY{E:Int}{K:Int->WP}(h:eh S w s l)(J:Hv w)(hl:l.length<=100000)(V:K (tN E l) w): cW 225 [.u E,s.v] dt w K:=by refine qtf ?_;have R:=h.1;refine iU (fun x w'=>w'=w/\∃i:Nat,x.2=i/\i<=l.length/\x.1=(l.take i).foldl sd (bits .xor .u32 E 4294967295)) (fun x _=>((l.length:Int)-x.2).toNat) ⟨rfl,0,rfl,oJ,rfl⟩ ?_;rintro⟨r,ii⟩ w' ⟨rfl,i,G,hi,U⟩ X hX;simp only at G U;subst G U;apply cD<;>intro I;have C:i<l.length:=oJ;refine eh.at h i rfl (zA C)<|mP (GH _)<|qt8 J<|mP (GH _)<|qt8 J ?_;rw[gg _ oJ];refine hX _ _ ⟨rfl,i+1,oL,oJ,?_⟩ oN;rw[yG C,foldl_append];rfl;have C:i=l.length:=oJ;subst C;rw[xZ];exact V
def qxE{K:Int->WP}(h:eh S w s l)(C:Hv w)(E:l.length<=100000)(G:K (nG l) w): cW 182 [s.v] dt w K:=by exact qvc<|qzY h C E G
def E6{α:Type}(A X Y Z:List α)(h:X.length=Y.length):(A++X++Z).take A.length++Y++(A++X++Z).drop (A.length+Y.length)=A++Y++Z:=by have u:(A++X++Z).take A.length=A:=(by rw[zV,take_append_of_le_length (zM _),zS (zM _)]);have C:(A++X++Z).drop (A.length+Y.length)=Z:=(by rw[<- h,<- zF,drop_append_of_le_length (zM _),drop_of_length_le (zM _),xI]);rw[u,C]
def qkZ{A X Y Z:List Int}(h:X.length=Y.length):dR (fR (A++X++Z)) A.length (Y.map (Value.int .u8))=fR (A++Y++Z):=by
 apply Array.ext';rw[pN _ _ _ (by rw[yd];simp only[zF,zK];omega)]
 have:=E6 (A.map (Value.int .u8)) (X.map (Value.int .u8)) (Y.map (Value.int .u8)) (Z.map (Value.int .u8)) (oP h)
 simpa only[fR,xN,toList_toArray,zK] using this
def zs (n:Nat):List Int:=List.replicate n 0
def oZ(n:Nat):(zs n).length=n:=length_replicate
def Ai(a b:Nat):zs (a+b)=zs a++zs b:=replicate_append_replicate.symm
def qAZ:zs 1=[0]:=rfl
def qs3(n:Nat):(List.replicate n (Value.int .u8 0)).toArray=fR (zs n):=by unfold fR zs;rw[map_replicate]
def dQ.bytes{w0:World}{b:Nat}{l':List Int}(h:dQ S w0 w ((b,.cells (fR l) T (0,0))::L))(e:l=l'):dQ S w0 w ((b,.cells (fR l') T (0,0))::L):=by rw[<- e];exact h
def kQ (number kind:Int) (body:List Int):List Int:=be number 4++[kind]++be (wrap .u32 body.length) 2++[0]++body++zs (500-body.length)
def eE (number kind:Int) (body:List Int):List Int:=be (nG (kQ number kind body)) 4++kQ number kind body
def Dg{kind:Int}(h:body.length<=500):(kQ number kind body).length=508:=by simp only[kQ,jZ,oZ,zF,yI,xK];omega
def wy{kind:Int}(h:body.length<=500):(eE number kind body).length=512:=by rw[eE,zF,jZ,Dg h]
def E4{kind:Int}{K:Sl×Int->WP}(h:eh S w s l)(R:Hv w)(hl:l.length<=100000)(I:500<l.length->K (dG,3) w)(hk:l.length<=500->∀b T w',w'.heap[b]?=some (.cells (fR (eE number kind l)) T (0,0))->Fr [] w w'->w.heap.size<=b->K (⟨pW b,512,512⟩,0) w'): cW 150 [.u number,.b kind,s.v] dk w K:=by
 refine qss ?_;have G:=h.1;refine dW (fun U=>I (by have:=zC U;omega)) (fun U=>?_);have E:l.length<=500:=(by have:=zB U;omega);refine dQ.Gf (oE [] w) oM oM oM oM fun b w1 eb C=>?_;rw[qs3] at C;replace C:=dQ.bytes (l':=zs 4++zs 4++zs 504) C (by rw[<- Ai,<- Ai];rfl);refine Cy oM oM oM oM<|Ff (k:=4) C 0 rfl (oZ 4) (oZ 4) oM fun w2 C=>?_;replace C:=dQ.bytes (l':=(zs 4++be number 4)++zs 1++zs 503) C (by rw[show (504:Nat)=1+503 from rfl,Ai,zV,zV,zV]);refine uj oJ oL<|oH C 0 rfl _ (qkZ (A:=zs 4++be number 4) (X:=zs 1) (Y:=[kind]) rfl) rfl (by rw[yd];simp only[zF,oZ,jZ];rfl) fun w3 C _=>?_;replace C:=dQ.bytes (l':=(zs 4++be number 4++[kind])++zs 2++zs 501) C (by rw[show (503:Nat)=2+501 from rfl,Ai,zV,zV,zV,zV,zV]);refine Cy oJ oJ oL oL<|Ff (k:=2) C 0 rfl (by simp only[zF,oZ,jZ];rfl) (oZ 2) oM fun w4 C=>?_;replace C:=dQ.bytes (l':=(zs 4++be number 4++[kind]++be (wrap .u32 s.len) 2++[0])++zs l.length++zs (500-l.length)) C (by rw[show (501:Nat)=1+(l.length+(500-l.length)) by omega,Ai,Ai,qAZ];simp only[zV]);refine Ce oJ oL oL oL ?_;have h4:eh S w4 s l:=h.q7 C.fr;have e6:(zs 4++be number 4++[kind]++be (wrap .u32 s.len) 2++[0]).length=12:=(by simp only[zF,oZ,jZ];rfl);refine dQ.vd (el:=5) (vs:=l.map (Value.int .u8)) C 0 rfl oK oK (by rw[zK,G];exact (xR (by show l.length<=500;omega)).symm) (fun J=>?_) (fun v R=>by obtain⟨x,_,rfl⟩:=mem_map.1 R;rfl) (by rw[yd,zF,zF,e6,oZ,oZ,zK];omega) fun w5 C=>?_;rcases h4.2.2 with h3|⟨bb,o,cs,T,fr,ha,_⟩;rw[h3] at J;exact absurd rfl J;refine⟨_,ha,?_⟩
 have:=h4.cells kW ha
 rw[qX] at this;exact this;have e5:=qkZ (A:=zs 4++be number 4++[kind]++be (wrap .u32 s.len) 2++[0]) (X:=zs l.length) (Y:=l) (Z:=zs (500-l.length)) (oZ _);rw[e6] at e5;have e7:(0:Nat)+Int.toNat 12*1=12:=rfl;rw[e7,e5] at C;replace C:=dQ.bytes (l':=[]++zs 4++kQ number kind l) C (by simp only[kQ,G,zV,xI]);refine zj ⟨oJ,oL⟩<|Ce oJ oL oL oL ?_;have V:=C.drew;have hr:eh [] w5.drew ⟨some ⟨b,0+Int.toNat 4*1,none⟩,(512:Int).toNat-Int.toNat 4,(512:Int).toNat-Int.toNat 4⟩ (kQ number kind l):=by
  have:=vo (S:=[]) (o:=4) (n:=508) (cap:=508) (V.at (i:=0) rfl) (by rw[zF,zF,oZ,Dg E];simp) (zM _) oL
  rw[xI,drop_append_of_le_length (by rw[oZ];exact zM _),drop_of_length_le (by rw[oZ];exact zM _),xI,zS (by rw[Dg E];exact zM _)] at this;exact this
 have aa:Hv w5.drew:=R.q7 V.fr;refine qxE hr aa (by rw[Dg E];decide)<|Ff (k:=4) V 0 rfl rfl (oZ 4) oM fun w6 C=>hk E b _ w6 (C.at (i:=0) rfl) C.fr oJ
def eF (l:List Int):Prop:=∀x∈l,0<=x/\x<256
def eF.take{l:List Int}(h:eF l)(n:Nat):eF (l.take n):=fun x u=>h x (yV u)
def eF.drop{l:List Int}(h:eF l)(n:Nat):eF (l.drop n):=fun x u=>h x (yU u)
def qwo(h:eF l):((Lib.countByte (Lib.bytesOf l) (0:Int).toNat.toUInt8:Nat):Int)=l.length↔∀x∈l,x=0:=by
 have key:∀l:List Int,eF l->((Lib.bytesOf l).count (0:UInt8)<=l.length/\((Lib.bytesOf l).count (0:UInt8)=l.length↔∀x∈l,x=0)):=by
  intro l;induction l with
  | nil=>intro _;simp[Lib.bytesOf]
  | cons a l ih=>
   intro u;obtain⟨J,C⟩:=ih (fun x E=>u x (zN _ E));have R:=u a oL;have e:Lib.bytesOf (a::l)=UInt8.ofNat a.toNat::Lib.bytesOf l:=rfl;rw[e,count_cons];have G:(UInt8.ofNat a.toNat==0)=decide (a=0):=by
    by_cases h0:a=0;subst h0;rfl;rw[zU h0,zR];intro I
    have:=congrArg UInt8.toNat I
    simp at this;omega
   rw[G];by_cases h0:a=0;subst h0;simp only[decide_true,if_true,yI,zG,forall_eq_or_imp,true_and];exact⟨oJ,by rw[<- C];omega⟩;simp only[h0,decide_false,Bool.false_eq_true,if_false,yI,zG,forall_eq_or_imp,false_and,iff_false];omega
 have:=(key l h).2
 show (((Lib.bytesOf l).count _:Nat):Int)=_↔_;rw[<- this];exact Int.ofNat_inj
def qoW{b2 cap2:Nat}{K:Int->World->Prop}(h:eh S w s l)(hB:eF l)(hc2:w.cell? (dg b2)=some (.int .u8 0))(hk:∀c:Int,(c=l.length↔∀x∈l,x=0)->K c w): call prog 189 [.slice s.a s.len s.cap,.slice (some (dg b2)) 1 cap2] [.one (.int .i64)] w K:=by
 refine qoV (s:=s) (sep:=⟨some (dg b2),1,cap2⟩) ?_;have hlen:=h.1;refine cond_false (by rfl)<|cond_true (by rfl)<|uj oJ oL<|pr (c:=.int .u8) 0 hc2 ?_;have hcount:(Extern.BytealgCount.count #[.slice s.a s.len s.cap,.int .u8 0]).run prog w=.ok (.int .i64 (Lib.countByte (Lib.bytesOf l) (0:Int).toNat.toUInt8)) w:=by
  cases ha:s.a with
  | none=>
   have hl0:l=[]:=by rcases h.2.2 with h3|⟨b,o,cs,T,fr,ha',_⟩;exact h3;rw[ha] at ha';cases ha'
   subst hl0;exact Lib.run_countNil w _ _ _
  | some a=>
   refine Lib.run_countAt w a s.len s.cap l hlen.symm (fun i hi=>?_) 0
   have:=h.cells kW ha i (.int .u8 (l.getD i 0)) ?_
   exact this;rw[qX,zQ,yR,zA oJ];rfl
 exact CR (e:=Extern.BytealgCount.count) func230 oK oK oK oK (((Lib.countByte (Lib.bytesOf l) (0:Int).toNat.toUInt8:Nat):Int)) w hcount<|hk _ (qwo hB)
def eU (number:Int) (b:List Int):Int×List Int×Int:=
 if b.length≠512 then (0,[],1)
 else if gO (b.take 4)≠nG (b.drop 4) then (0,[],8)
 else if gO ((b.take 8).drop 4)≠number then (0,[],4)
 else if gO ((b.take 11).drop 9)>500\/b.getD 11 0≠0 then (0,[],2)
 else if ∃x∈b.drop (12+(gO ((b.take 11).drop 9)).toNat),x≠0 then (0,[],2)
 else (b.getD 8 0,(b.take (12+(gO ((b.take 11).drop 9)).toNat)).drop 12,0)
def lN(x:Int)(h:0<=x/\x<4294967296):wrap .u32 x=x:=by unfold wrap;have:(IntKind.u32.signed)=false:=rfl;simp only[this,Bool.false_and,Bool.false_eq_true,if_false];exact Int.emod_eq_of_lt h.1 h.2
def vv(x:Int):0<=wrap .u32 x/\wrap .u32 x<4294967296:=by unfold wrap;have:(IntKind.u32.signed)=false:=rfl;simp only[this,Bool.false_and,Bool.false_eq_true,if_false];exact⟨Int.emod_nonneg _ oM,Int.emod_lt_of_pos _ oM⟩
def CT(h:BinOp)(x y:Int):0<=bits h .u32 x y/\bits h .u32 x y<4294967296:=vv _
def qvj(l:List Int):0<=gO l/\gO l<4294967296:=by
 unfold gO;have:∀(l:List Int) (a:Int),0<=a/\a<4294967296->0<=l.foldl (fun r x=>bits .or .u32 (wrap .u32 (r*2^8)) (wrap .u32 x)) a/\l.foldl (fun r x=>bits .or .u32 (wrap .u32 (r*2^8)) (wrap .u32 x)) a<4294967296:=by
  intro l;induction l with
  | nil=>intro a h;exact h
  | cons x l ih=>intro a _;exact ih _ (CT _ _ _)
 exact this l 0 oM
def EB{K:Int×Sl×Int->WP}(h:eh S w s l)(hv:Hv w)(hB:eF l)(hl:l.length<=100000)(hk:∀s' B w',fQ w' s' (eU number l).2.1 B->Fr [] w w'->(∀b∈B,w.heap.size<=b)->K ((eU number l).1,s',(eU number l).2.2) w'): cW 157 [.u number,s.v] dp w K:=by
 refine qsr ?_;have J:=h.1;have E:∀ {e:Int} {w':World},eU number l=(0,[],e)->Fr [] w w'->K (0,dG,e) w':=by
  intro e w' he hf
  have:=hk dG [] w' (by rw[he];exact .nil _ _ _) hf oL
  rw[he] at this;exact this
 apply dW<;>intro C;refine E ?_ (.refl _ _);have:l.length≠512:=(by simp at C;omega);simp[eU,this];have R:l.length=512:=(by simp at C;omega);refine dZ.part h 0 4 rfl rfl oJ oJ fun s1 l1 r1 _=>dZ.part h 4 512 rfl (by rw[J,R];rfl) oJ oJ fun s2 l2 r2 _=>?_;rw[zS oJ] at r2;rw[xF] at r1;have fd:Fr [] w w.drew:=(Fr.refl _ _).drew;have ak:Hv w.drew:=hv.q7 fd;refine Fx (w:=w.drew) r1 (by rw[yL];omega)<|qxE (w:=w.drew) r2 ak (by rw[yC];omega) ?_;have h0:¬l.length≠512:=oJ;apply dW<;>intro C;refine E ?_ fd;have:gO (l.take 4)≠nG (l.drop 4):=(oP C);rw[eU,if_neg h0,if_pos this];have h1:¬gO (l.take 4)≠nG (l.drop 4):=(oP C);have hd:eh S w.drew s l:=h;refine dZ.part hd 4 8 rfl rfl oJ oJ fun s3 l3 r3 _=>Fx r3 (by rw[yC,yL];omega) ?_;apply dW<;>intro C;refine E ?_ fd;have:gO ((l.take 8).drop 4)≠number:=(oP C);rw[eU,if_neg h0,if_neg h1,if_pos this];have h2:¬gO ((l.take 8).drop 4)≠number:=(oP C);refine dZ.part hd 9 11 rfl rfl oJ oJ fun s4 l4 r4 _=>Fx r4 (by rw[yC,yL];omega) ?_;have hn:=qvj ((l.take 11).drop 9);have am:l[11]?=some (l.getD 11 0):=(by rw[yR,zA oJ];rfl);have g8:l[8]?=some (l.getD 8 0):=(by rw[yR,zA oJ];rfl);refine gW (fun b w'=>b=decide (gO ((l.take 11).drop 9)>500\/l.getD 11 0≠0)/\w'=w.drew) ?_ ?_;apply dW<;>intro C;exact⟨by rw[yA (Or.inl (zC C))],rfl⟩;refine eh.at hd 11 rfl am ⟨?_,rfl⟩
 have:=zB C
 generalize l.getD 11 0=z;by_cases hz:z=0<;>simp[this,hz];rintro b w1 ⟨rfl,rfl⟩;apply dW<;>intro C;refine E ?_ fd;rw[eU,if_neg h0,if_neg h1,if_neg h2,if_pos (zC C)];have h3:=zB C;have U:gO ((l.take 11).drop 9)<=500:=by rcases Int.lt_or_le 500 (gO ((l.take 11).drop 9)) with h|h;exact absurd (Or.inl h) h3;exact h
 have ov:eU number l=if ∃x∈l.drop (12+(gO ((l.take 11).drop 9)).toNat),x≠0 then (0,[],2) else (l.getD 8 0,(l.take (12+(gO ((l.take 11).drop 9)).toNat)).drop 12,0):=by rw[eU,if_neg h0,if_neg h1,if_neg h2,if_neg h3]
 generalize gO ((l.take 11).drop 9)=n at hn U ov;obtain⟨m,rfl⟩:∃m:Nat,n=m:=⟨n.toNat,oJ⟩;rw[lN _ oJ];rw[zJ] at ov;refine dZ.part hd (12+m) 512 oL (by rw[J,R];rfl) oJ oJ fun s5 l5 r5 _=>?_;rw[zS oJ] at r5;have ho:=oE [] w.drew;refine dQ.new ho fun zb w2 ez sz ho=>?_;have ao:eh S w2 s5 (l.drop (12+m)):=r5.q7 ho.fr;refine qoW ao (hB.drop _) (ho.cell (off:=0) 0 rfl rfl) fun c ae=>?_;have I:Fr [] w w2:=fd.trans ho.fr;have af:=r5.1;apply dW<;>intro C;refine E ?_ I;have ap:¬ ∀x∈l.drop (12+m),x=0:=by rw[<- ae];intro e;rw[e,af] at C;simp at C
 rw[ov,if_pos];exact Classical.byContradiction fun aq=>ap fun x hx=>Classical.byContradiction fun au=>aq ⟨x,hx,au⟩;have ag:∀x∈l.drop (12+m),x=0:=by rw[<- ae];rw[af] at C;simpa using C
 rw[if_neg (by rintro⟨x,hx,h0⟩;exact h0 (ag x hx))] at ov;have ah:eh S w2.drew s l:=(h.q7 I).drew;obtain⟨_,b8,o8,aw,_,ai,T8,ax,V,ay⟩:=dZ.at ah 8 g8;have aa:ai[o8+8]?=some (.b (l.getD 8 0)):=by
  have:=congrArg (·[0]?) ay
  simpa using this
 refine qj aw ⟨oJ,oJ⟩ ?_;have G:∀ {w':World},w'.heap[b8]?=some (.cells ai T8 ax)->w'.cell? ⟨b8,o8+Int.toNat 8*1,none⟩=some (.b (l.getD 8 0)):=fun hb=>by rw[ji hb];exact aa
 refine pr (l.getD 8 0) (G V)<|dZ.part ah 12 (12+m) rfl oL oJ oJ fun s6 l6 r6 _=>?_;have lm:((l.take (12+m)).drop 12).length=m:=(by rw[yC,yL];omega);refine zo r6 (by rw[lm];omega) fun s7 B w3 aA f7 n7 _ _=>ig (G (by show _=_;rw[f7.block b8 (eZ V) oL];exact V)) ?_;have e1:(w2.drew).heap.size=w2.heap.size:=rfl
 have:=hk s7 B w3 (by rw[ov];exact aA) (I.drew.trans f7) (fun b hb=>by have:=n7 b hb;have:=I.size;omega)
 rw[ov] at this;exact this
end
section
open Go Go.Pt List
open Go.IntKind (wrap)
variable {K:Int×Int->WP} {a b body:List Int} {n number:Int}
def Aj(x:Int):wrap .u8 x=x%256:=by unfold wrap;have:(IntKind.u8.signed)=false:=rfl;simp only[this,Bool.false_and,Bool.false_eq_true,if_false];rfl
def qAO{r x:Int}(h:0<=r/\r<16777216)(u:0<=x/\x<256):bits .or .u32 (wrap .u32 (r*2^8)) (wrap .u32 x)=r*256+x:=by rw[lN x oJ,lN (r*2^8) oJ];obtain⟨a,rfl⟩:∃a:Nat,r=a:=⟨r.toNat,oJ⟩;obtain⟨b,rfl⟩:∃b:Nat,x=b:=⟨x.toNat,oJ⟩;have e1:((a:Int)*2^8)=((2^8*a:Nat):Int):=oJ;rw[e1];show wrap .u32 ((BitVec.ofInt 32 ((2^8*a:Nat):Int)||| BitVec.ofInt 32 (b:Int)).toNat:Nat)=_;rw[BitVec.toNat_or,BitVec.ofInt_natCast,BitVec.ofInt_natCast,BitVec.toNat_ofNat,BitVec.toNat_ofNat,Nat.mod_eq_of_lt (show 2^8*a<2^32 by omega),Nat.mod_eq_of_lt (show b<2^32 by omega),<- Nat.two_pow_add_eq_or_of_lt (show b<2^8 by omega)];rw[lN _ oJ];omega
def nP (l:List Int):Int:=l.foldl (fun r x=>r*256+x) 0
def BT:∀ {l:List Int},eF l->l.length<=4->gO l=nP l:=by
 have key:∀(l:List Int) (r:Int) (k:Nat),eF l->l.length<=k->k<=4->0<=r->r<256^(4-k)->
   l.foldl (fun r x=>bits .or .u32 (wrap .u32 (r*2^8)) (wrap .u32 x)) r=l.foldl (fun r x=>r*256+x) r:=by
  intro l;induction l with
  | nil=>intros;rfl
  | cons x l ih=>
   intro r k u h C G E;have I:=u x oL;simp only[yI] at h;have J:r<16777216:=by
    have:(256:Int)^(4-k)<=256^3:=by
     have:(4-k)<=3:=oJ;match k,C,h with
     | 1,_,_=>decide
     | 2,_,_=>decide
     | 3,_,_=>decide
     | 4,_,_=>decide
    have e:(256:Int)^3=16777216:=oM;omega
   rw[foldl_cons,foldl_cons,qAO ⟨G,J⟩ I];match k,C,h,E with
   | k+1,C,h,E=>
    refine ih _ k (fun y R=>u y (zN _ R)) oJ oJ oJ ?_;have e:4-k=(4-(k+1))+1:=oJ;rw[e,Int.pow_succ];omega
 intro l u h;exact key l 0 4 u h oM oM oM
def xf(h:0<=n)(j:Nat)(u:j<=3):gu n j=n / 256^j%256:=by
 unfold gu;rw[Aj,Int.fdiv_eq_ediv_of_nonneg _ (by exact Int.pow_nonneg oM)];match j,u with
 | 0,_=>rfl
 | 1,_=>rfl
 | 2,_=>rfl
 | 3,_=>rfl
def Bc(h:0<=n):be n 4=[n / 16777216%256,n / 65536%256,n / 256%256,n%256]:=by have e:be n 4=[gu n 3,gu n 2,gu n 1,gu n 0]:=rfl;rw[e,xf h 3 oM,xf h 2 oM,xf h 1 oM,xf h 0 oM];simp
def be2(h:0<=n):be n 2=[n / 256%256,n%256]:=by have e:be n 2=[gu n 1,gu n 0]:=rfl;rw[e,xf h 1 oM,xf h 0 oM];simp
def sJ(n:Int)(k:Nat):eF (be n k):=by intro x h;obtain⟨i,_,rfl⟩:=mem_map.1 h;unfold gu;rw[Aj];omega
def Fq(h:0<=n/\n<4294967296):gO (be n 4)=n:=by rw[BT (sJ _ _) (by rw[jZ];exact zM _),Bc h.1];show (((0*256+_)*256+_)*256+_)*256+_=n;omega
def qr3(h:0<=n/\n<65536):gO (be n 2)=n:=by rw[BT (sJ _ _) (by rw[jZ];decide),be2 h.1];show (0*256+_)*256+_=n;omega
def qvX(l:List Int):0<=nG l/\nG l<4294967296:=by unfold nG tN;exact CT _ _ _
def eF.append(h:eF a)(k:eF b):eF (a++b):=fun x C=>by rcases zD.1 C with u|u;exact h x u;exact k x u
def eF.zs(n:Nat):eF (zs n):=fun x h=>by
 have:=eq_of_mem_replicate h
 omega
def eF.one{x:Int}(h:0<=x/\x<256):eF [x]:=fun y u=>by simp at u;subst u;exact h
def qxv{kind:Int}(h:0<=kind/\kind<256)(u:eF body):eF (kQ number kind body):=
 (((((sJ _ _).append (.one h)).append (sJ _ _)).append (.one oM)).append u).append (.zs _)
def Ch{kind:Int}(h:0<=kind/\kind<256)(u:eF body):eF (eE number kind body):=(sJ _ _).append (qxv h u)
def D9{kind:Int}(I:0<=number/\number<4294967296)(J:body.length<=500):eU number (eE number kind body)=(kind,body,0):=by
 have u:wrap .u32 (body.length:Int)=(body.length:Int):=lN _ oJ;have e0:eE number kind body=be (nG (kQ number kind body)) 4++(be number 4++([kind]++(be body.length 2++([0]++(body++zs (500-body.length)))))):=by
  rw[eE];conv=>lhs;rhs;rw[kQ]
  rw[u];simp only[zV]
 have l4:=jZ (nG (kQ number kind body)) 4;have e1:(eE number kind body).take 4=be (nG (kQ number kind body)) 4:=(by rw[eE,take_append_of_le_length (by rw[jZ];exact zM _),zS (by rw[jZ];exact zM _)]);have R:(eE number kind body).drop 4=kQ number kind body:=(by rw[eE,drop_append_of_le_length (by rw[jZ];exact zM _),drop_of_length_le (by rw[jZ];exact zM _),xI]);have G:∀n,∃a b c d,be n 4=[a,b,c,d]:=fun n=>⟨_,_,_,_,rfl⟩;have U:∀n,∃a b,be n 2=[a,b]:=fun n=>⟨_,_,rfl⟩;obtain⟨V,a1,a2,a3,ha⟩:=G (nG (kQ number kind body));obtain⟨n0,n1,n2,n3,C⟩:=G number;obtain⟨l0,l1,E⟩:=U body.length;have h:eE number kind body=V::a1::a2::a3::n0::n1::n2::n3::kind::l0::l1::0::(body++zs (500-body.length)):=by rw[e0,ha,C,E];rfl
 have g1:gO ((eE number kind body).take 4)=nG ((eE number kind body).drop 4):=(by rw[e1,R,Fq (qvX _)]);have g2:gO (((eE number kind body).take 8).drop 4)=number:=(by have:((eE number kind body).take 8).drop 4=be number 4:=(by rw[h,C];rfl);rw[this,Fq I]);have g3:gO (((eE number kind body).take 11).drop 9)=body.length:=(by have:((eE number kind body).take 11).drop 9=be body.length 2:=(by rw[h,E];rfl);rw[this,qr3 oJ]);have g4:(eE number kind body).getD 11 0=0:=(by rw[h];rfl);have g5:(eE number kind body).getD 8 0=kind:=(by rw[h];rfl);have g6:(eE number kind body).drop (12+body.length)=zs (500-body.length):=(by rw[h,Nat.add_comm];show (body++zs (500-body.length)).drop body.length=_;rw[drop_append_of_le_length (zM _),drop_length,xI]);have g7:((eE number kind body).take (12+body.length)).drop 12=body:=(by rw[h,Nat.add_comm];show (body++zs (500-body.length)).take body.length=_;rw[take_append_of_le_length (zM _),xZ]);rw[eU,if_neg (by rw[wy J];simp),if_neg (by rw[g1];simp),if_neg (by rw[g2];simp),g3,g4,if_neg oO,zJ,g6,if_neg,g5,g7];rintro⟨x,hx,h0⟩;exact h0 (eq_of_mem_replicate hx)
def cmpL:List Int->List Int->Int
 | [],[]=>0
 | [],_::_=>-1
 | _::_,[]=>1
 | a::r,b::s=>if a<b then -1 else if b<a then 1 else cmpL r s
abbrev fI (a b:List Int):Prop:=cmpL a b<0
def Ft:∀a b:List Int,cmpL a b=-1\/cmpL a b=0\/cmpL a b=1
 | [],[]=>.inr (.inl rfl)
 | [],_::_=>.inl rfl
 | _::_,[]=>.inr (.inr rfl)
 | a::r,b::s=>by rw[cmpL];split;exact .inl rfl;split;exact .inr (.inr rfl);exact Ft r s
def Fe:∀a:List Int,cmpL a a=0
 | []=>rfl
 | a::r=>by rw[cmpL,iN,iN];exact Fe r
def En:∀ {a b:List Int},cmpL a b=0->a=b
 | [],[],_=>rfl
 | [],_::_,h=>by simp[cmpL] at h
 | _::_,[],h=>by simp[cmpL] at h
 | a::r,b::s,h=>by rw[cmpL] at h;split at h;cases h;split at h;cases h;rw[En h,show a=b by omega]
def um:∀a b:List Int,cmpL b a =-cmpL a b
 | [],[]=>rfl
 | [],_::_=>rfl
 | _::_,[]=>rfl
 | a::r,b::s=>by rw[cmpL,cmpL];by_cases h1:a<b;rw[if_neg (show ¬b<a by omega),if_pos h1,if_pos h1];rfl;by_cases h2:b<a;rw[if_pos h2,if_neg h1,if_pos h2];rw[if_neg h2,if_neg h1,if_neg h1,if_neg h2];exact um r s
def qC:¬fI a a:=by unfold fI;rw[Fe];decide
def pf:∀ {a b c:List Int},fI a b->fI b c->fI a c
 | [],[],_,h,_=>by simp[fI,cmpL] at h
 | [],_::_,[],_,h=>by simp[fI,cmpL] at h
 | [],_::_,_::_,_,_=>by simp[fI,cmpL]
 | _::_,[],_,h,_=>by simp[fI,cmpL] at h
 | _::_,_::_,[],_,h=>by simp[fI,cmpL] at h
 | a::r,b::s,c::t,h,g=>by unfold fI at h g⊢;rw[cmpL] at h g⊢;by_cases h1:a<b;by_cases g1:b<c;rw[iP];decide;rw[if_neg g1] at g;by_cases g2:c<b;rw[if_pos g2] at g;omega;rw[iP];decide;rw[if_neg h1] at h;by_cases h2:b<a;rw[if_pos h2] at h;omega;rw[if_neg h2] at h;by_cases g1:b<c;rw[iP];decide;rw[if_neg g1] at g;by_cases g2:c<b;rw[if_pos g2] at g;omega;rw[if_neg g2] at g;rw[iN,iN];exact pf (a:=r) (b:=s) (c:=t) h g
def sE(h:fI a b):¬fI b a:=fun g=>qC (pf h g)
def zz(h:fI a b):a≠b:=fun e=>by rw[e] at h;exact qC h
def qwZ(a b:List Int):fI a b\/a=b\/fI b a:=by rcases Ft a b with h|h|h;exact .inl (by unfold fI;omega);exact .inr (.inl (En h));refine .inr (.inr ?_);unfold fI;rw[um];omega
def AF:¬fI a b↔a=b\/fI b a:=by constructor;intro h;rcases qwZ a b with u|u|u;exact absurd u h;exact .inl u;exact .inr u;rintro (rfl|h);exact qC;exact sE h
abbrev lJ (a b:List Int):Prop:=¬fI b a
def Ay{c:List Int}(h:lJ a b)(g:fI b c):fI a c:=by rcases AF.1 h with u|u;rw[<- u];exact g;exact pf u g
def qY{c:List Int}(h:fI a b)(g:lJ b c):fI a c:=by rcases AF.1 g with u|u;rw[u];exact h;exact pf h u
def zt{c:List Int}(h:lJ a b)(g:lJ b c):lJ a c:=fun k=>by rcases AF.1 h with u|u;subst u;exact g k;exact g (pf k u)
abbrev Key:=List Int
variable {k:Key}
abbrev fN:=List (List Int×List Int)
variable {l:fN}
def dN (l:List Key) (k:Key):Nat:=(l.takeWhile fun a=>decide (fI a k)).length
def en (l:List Key) (k:Key):Nat:=(l.takeWhile fun a=>decide (lJ a k)).length
def fJ (l:List Key):Prop:=l.Pairwise fI
def qgp{α:Type}(p:α->Bool)(l:List α):(l.takeWhile p).length<=l.length:=(takeWhile_sublist p).length_le
def G5(l:List Key)(k:Key):dN l k<=l.length:=qgp _ l
def yi(l:List Key)(k:Key):en l k<=l.length:=qgp _ l
def FE{α:Type}(p:α->Bool):∀l:List α,l.take (l.takeWhile p).length=l.takeWhile p
 | []=>rfl
 | a::r=>by
  rw[takeWhile_cons];cases h:p a with
  | true=>simp[FE p r]
  | false=>simp
def GK{α:Type}{p:α->Bool}:∀ {l:List α} {x:α},x∈l.takeWhile p->p x=true
 | a::r,x,h=>by
  rw[takeWhile_cons] at h;cases u:p a with
  | true=>
   rw[u] at h;rcases zG.1 h with rfl|h;exact u;exact GK h
  | false=>rw[u] at h;cases h
def Eu{α:Type}{p:α->Bool}:∀ {l:List α} {x:α} {r:List α},l.drop (l.takeWhile p).length=x::r->p x=false
 | a::s,x,r,h=>by
  rw[takeWhile_cons] at h;cases u:p a with
  | true=>
   rw[u] at h;exact Eu (l:=s) (oP h)
  | false=>
   rw[u] at h;simp at h;rw[<- h.1];exact u
def qsv{l:List Key}{a:Key}(h:a∈l.take (dN l k)):fI a k:=by unfold dN at h;rw[FE] at h;exact zC (p:=fI a k) (GK (p:=fun a=>decide (fI a k)) h)
def qn1{l:List Key}{a:Key}(h:a∈l.take (en l k)):lJ a k:=by unfold en at h;rw[FE] at h;exact zC (p:=lJ a k) (GK (p:=fun a=>decide (lJ a k)) h)
def wn{x:Key}{r:List Key}(h:fJ (x::r)):∀a∈r,fI x a:=(yJ.1 h).1
def fJ.drop{l:List Key}(h:fJ l)(n:Nat):fJ (l.drop n):=List.Pairwise.sublist (drop_sublist n l) h
def fJ.take{l:List Key}(h:fJ l)(n:Nat):fJ (l.take n):=List.Pairwise.sublist (take_sublist n l) h
def qq6{l:List Key}{a:Key}(E:fJ l)(h:a∈l.drop (dN l k)):lJ k a:=by
 have u:=E.drop (dN l k);cases e:l.drop (dN l k) with
 | nil=>rw[e] at h;cases h
 | cons x r=>
  have C:lJ k x:=zB (Eu (p:=fun a=>decide (fI a k)) e);rw[e] at h u;rcases zG.1 h with rfl|h;exact C;exact zt C (sE (wn u a h))
def qmf{l:List Key}{a:Key}(E:fJ l)(h:a∈l.drop (en l k)):fI k a:=by
 have u:=E.drop (en l k);cases e:l.drop (en l k) with
 | nil=>rw[e] at h;cases h
 | cons x r=>
  have C:fI k x:=Classical.not_not.1 (zB (Eu (p:=fun a=>decide (lJ a k)) e));rw[e] at h u;rcases zG.1 h with rfl|h;exact C;exact pf C (wn u a h)
def fH (k v:Key):fN->fN
 | []=>[(k,v)]
 | x::r=>if fI k x.1 then (k,v)::x::r else if k=x.1 then (k,v)::r else x::fH k v r
def gi (k:Key) (l:fN):fN:=l.filter fun x=>decide (x.1≠k)
abbrev dP (l:fN):List Key:=l.map (·.1)
def e9 (l:fN):Prop:=fJ (dP l)
def AR{k v:Key}:∀ {a:fN} {l:fN},(∀x∈a,fI x.1 k)->fH k v (a++l)=a++fH k v l
 | [],l,_=>rfl
 | x::a,l,h=>by have u:=h x oL;rw[xJ,fH,if_neg (sE u),if_neg (fun e=>zz u e.symm),AR fun y C=>h y (zN _ C),xJ]
def qmb{k v:Key}{b:fN}(h:∀x∈b,fI k x.1):∀l:fN,fH k v (l++b)=fH k v l++b
 | []=>by
  cases b with
  | nil=>rfl
  | cons x r=>
   show fH k v (x::r)=(k,v)::x::r;rw[fH,if_pos (h x oL)]
 | x::l=>by rw[xJ,fH,fH];split;rfl;split;rfl;rw[qmb h l,xJ]
def E1{v w:Key}{a r:fN}(h:∀x∈a,fI x.1 k):fH k v (a++(k,w)::r)=a++(k,v)::r:=by rw[AR h,fH,if_neg qC,if_pos rfl]
def qwR{v:Key}{a b:fN}(h:∀x∈a,fI x.1 k)(u:∀x∈b,fI k x.1):fH k v (a++b)=a++(k,v)::b:=by
 rw[AR h];cases b with
 | nil=>rfl
 | cons x r=>rw[fH,if_pos (u x oL)]
def Ar{k v:Key}{x:Key×Key}:∀ {l:fN},x∈fH k v l->x=(k,v)\/x∈l
 | [],h=>.inl (by simpa[fH] using h)
 | y::l,h=>by rw[fH] at h;split at h;rcases zG.1 h with h|h;exact .inl h;exact .inr h;split at h;rcases zG.1 h with h|h;exact .inl h;exact .inr (zN _ h);rcases zG.1 h with h|h;exact .inr (by rw[h];simp);rcases Ar h with h|h;exact .inl h;exact .inr (zN _ h)
def Dd{k v:Key}:∀ {l:fN},e9 l->e9 (fH k v l)
 | [],_=>pairwise_singleton _ _
 | x::l,h=>by have C:=yJ.1 (show (x.1::dP l).Pairwise fI from h);rw[fH];split;rename_i E;refine yJ.2 ⟨fun a u=>?_,h⟩;rcases zG.1 u with rfl|u;exact E;exact pf E (C.1 a u);split;rename_i E;refine yJ.2 ⟨fun a u=>?_,C.2⟩;show fI k a;rw[E];exact C.1 a u;rename_i G I;refine yJ.2 ⟨fun a u=>?_,Dd C.2⟩;obtain⟨y,J,rfl⟩:=mem_map.1 u;rcases Ar J with rfl|J;rcases AF.1 G with e|e;exact absurd e I;exact e;exact C.1 _ (zZ J)
def Dl{k v:Key}:∀ {l:fN},k∉dP l->(fH k v l).length=l.length+1
 | [],_=>rfl
 | x::l,h=>by rw[fH];split;rfl;split;rename_i e;exact absurd (by rw[e];simp) h;rw[yI,Dl fun u=>h (zN _ u),yI]
def DF{k v:Key}:∀ {l:fN},e9 l->k∈dP l->(fH k v l).length=l.length
 | x::l,E,h=>by have C:=yJ.1 (show (x.1::dP l).Pairwise fI from E);rw[fH];split;rename_i u;rcases zG.1 h with e|e;rw[e] at u;exact absurd u qC;exact absurd u (sE (C.1 k e));split;rfl;rename_i u;rcases zG.1 h with e|e;exact absurd e u;rw[yI,DF C.2 e,yI]
def qnF{a:fN}(h:∀x∈a,fI x.1 k):gi k (a++l)=a++gi k l:=by unfold gi;rw[xC,filter_eq_self.2];intro x u;exact yA (zz (h x u))
def ql2{b:fN}(h:∀x∈b,fI k x.1):gi k (l++b)=gi k l++b:=by unfold gi;rw[xC];congr 1;rw[filter_eq_self];intro x u;exact yA fun e=>zz (h x u) e.symm
def qyh{w:Key}{a b:fN}(h:∀x∈a,fI x.1 k)(u:∀x∈b,fI k x.1):gi k (a++(k,w)::b)=a++b:=by rw[qnF h,show (k,w)::b=[(k,w)]++b from rfl,ql2 u];unfold gi;simp
def qpR(h:e9 l):e9 (gi k l):=List.Pairwise.sublist (List.Sublist.map _ filter_sublist) h
def DX{x:Key×Key}:x∈gi k l↔x∈l/\x.1≠k:=by unfold gi;rw[mem_filter];simp
def e9.sY{a b:fN}:e9 (a++b)↔e9 a/\e9 b/\∀x∈a,∀y∈b,fI x.1 y.1:=by unfold e9 fJ dP;rw[xN,pairwise_append];constructor;rintro⟨h,u,C⟩;exact⟨h,u,fun x E y G=>C _ (zZ E) _ (zZ G)⟩;rintro⟨h,u,C⟩;refine⟨h,u,fun a I b J=>?_⟩;obtain⟨x,E,rfl⟩:=mem_map.1 I;obtain⟨y,G,rfl⟩:=mem_map.1 J;exact C x E y G
def Ae(u:e9 l):(∀x∈l.take (dN (dP l) k),fI x.1 k)/\∀x∈l.drop (dN (dP l) k),lJ k x.1:=by refine⟨fun x h=>qsv (l:=dP l) ?_,fun x h=>qq6 (l:=dP l) u ?_⟩;rw[<- xP];exact zZ h;rw[<- xQ];exact zZ h
def qvm{v:Key}(U:e9 l):fH k v l=if (dP l)[dN (dP l) k]?=some k then l.set (dN (dP l) k) (k,v) else l.take (dN (dP l) k)++[(k,v)]++l.drop (dN (dP l) k):=by
 obtain⟨E,V⟩:=Ae (k:=k) U;have G:e9 (l.drop (dN (dP l) k)):=(by unfold e9 dP;rw[xQ];exact fJ.drop U _);generalize hi:dN (dP l) k=i at E V G;have I:l=l.take i++l.drop i:=(xE i l).symm;cases e:l.drop i with
 | nil=>
  have hn:l.length<=i:=drop_eq_nil_iff.1 e;rw[if_neg (by rw[yS (by rw[zK];exact hn)];simp)];conv=>lhs;rw[I,e]
  rw[AR E];simp[fH]
 | cons x r=>
  have hx:=V x (by rw[e];simp);have u:i<l.length:=by rcases Nat.lt_or_ge i l.length with h|h;exact h;rw[vE h] at e;cases e
  have hg:l[i]=x:=by
   have:=zY u
   rw[e] at this;exact (vC this).1.symm
  have hr:l.drop (i+1)=r:=by
   have:=zY u
   rw[e] at this;exact (vC this).2.symm
  have J:(dP l)[i]?=some x.1:=(by rw[zQ,zA u,hg];rfl);rw[J];by_cases hk:x.1=k
  ·rw[if_pos (by rw[hk])];conv=>lhs;rw[I,e]
   obtain⟨a,w⟩:=x;dsimp only at hk;subst hk;rw[E1 E,set_eq_take_append_cons_drop,if_pos u,hr]
  ·rw[if_neg (fun h=>hk (yO h))];have C:fI k x.1:=by rcases AF.1 hx with h|h;exact absurd h hk;exact h
   conv=>lhs;rw[I,e]
   rw[qwR E];simp;intro y R;rcases zG.1 R with rfl|R;exact C;rw[e] at G;exact pf C (wn (x:=x.1) (r:=dP r) G y.1 (zZ R))
def vZ(E:e9 l):(dP l)[dN (dP l) k]?=some k↔k∈dP l:=by
 constructor;exact fun h=>yF h;intro J;obtain⟨R,U⟩:=Ae (k:=k) E;obtain⟨x,C,rfl⟩:=mem_map.1 J;have u:x∈l.drop (dN (dP l) x.1):=by rw[<- xE (dN (dP l) x.1) l,zD] at C;rcases C with C|C;exact absurd (R x C) qC;exact C
 have G:e9 (l.drop (dN (dP l) x.1)):=(by unfold e9 dP;rw[xQ];exact fJ.drop E _);cases e:l.drop (dN (dP l) x.1) with
 | nil=>rw[e] at u;cases u
 | cons y r=>
  have V:=U y (by rw[e];simp);rw[e] at u G;have he:y.1=x.1:=by rcases zG.1 u with rfl|u;rfl;exact absurd (wn (x:=y.1) (r:=dP r) G x.1 (zZ u)) V
  have I:(l.drop (dN (dP l) x.1))[0]?=some y:=(by rw[e];rfl);rw[xA] at I;rw[zQ,show l[dN (dP l) x.1]?=some y by simpa using I,<- he];rfl
def qnG(C:e9 l)(J:k∈dP l):gi k l=l.take (dN (dP l) k)++l.drop (dN (dP l) k+1):=by
 have u:=(vZ C).2 J;obtain⟨I,R⟩:=Ae (k:=k) C;generalize dN (dP l) k=i at I R u;have h:i<l.length:=by
  have:=(zP.1 u).1
  simpa using this
 have U:l=l.take i++l[i]::l.drop (i+1):=(by rw[<- zY h,xE]);have E:l[i].1=k:=(by rw[zQ,zA h] at u;exact yO u);have G:e9 (l.drop i):=(by unfold e9 dP;rw[xQ];exact fJ.drop C _);rw[zY h] at G;conv=>lhs;rw[U]
 obtain⟨a,w,e⟩:∃a w,l[i]=(a,w):=⟨_,_,rfl⟩;rw[e] at E G⊢;dsimp only at E;subst E;exact qyh I fun y V=>wn (x:=a) (r:=dP (l.drop (i+1))) G y.1 (zZ V)
def rm (t:Int):Int×Int:=
 if t=0 then (16,88) else if t=1 then (16,108) else if t=2 then (16,1) else if t=3 then (16,16)
 else if t=4 then (24,16) else if t=5 then (24,16) else if t=6 then (24,65) else if t=7 then (1,8) else (0,0)
def qxA(t:Int):t=0\/t=1\/t=2\/t=3\/t=4\/t=5\/t=6\/t=7\/(t≠0/\t≠1/\t≠2/\t≠3/\t≠4/\t≠5/\t≠6/\t≠7):=by omega
def qrw{t:Int}{w:World}(h:K (rm t) w):cW 74 [.i t] dm w K:=by apply qq9;rcases qxA t with rfl|rfl|rfl|rfl|rfl|rfl|rfl|rfl|⟨u,C,E,G,I,J,R,U⟩<;>simpa[rm, *] using h
def tl (k v:Int):Int×Int:=if k<1\/k>24\/v<0\/v>108 then (0,0) else (498 / (k+v),(498+k) / (4+k))
def qzb{k v:Int}{w:World}(h:∀w',m7 w w'->K (tl k v) w'):cW 122 [.i k,.i v] dm w K:=by
 apply qsk;by_cases hc:k<1\/k>24\/v<0\/v>108;refine ui true w (fun M u=>?_) ?_;by_cases h1:k<1;simpa[h1] using u;by_cases h2:k>24;simpa[h1,h2] using u;by_cases h3:v<0;simpa[h1,h2,h3] using u;have C:v>108:=oJ;simpa[h1,h2,h3,C] using u
 have:=h w (.refl w)
 simpa[tl,hc] using this;refine ui false w (fun M u=>?_) ?_;simpa[show ¬k<1 by omega,show ¬k>24 by omega,show ¬v<0 by omega,show ¬v>108 by omega] using u
 have:=h w.drew (m7.refl w).drew
 simp only[tl,hc,if_false] at this;have e1:IntKind.i64.wrap (k+v)=k+v:=IntWalk.i64_in _ oJ;have E:IntKind.i64.wrap (4+k)=4+k:=IntWalk.i64_in _ oJ;have G:IntKind.i64.wrap (498+k)=498+k:=IntWalk.i64_in _ oJ;have R:0<k+v:=oJ;have U:0<4+k:=oJ;have I:(498:Int).tdiv (k+v)=498 / (k+v):=Int.tdiv_eq_ediv_of_nonneg oJ;have J:(498+k).tdiv (4+k)=(498+k) / (4+k):=Int.tdiv_eq_ediv_of_nonneg oJ;have V:498 / (k+v)<=498:=Int.ediv_le_self _ oJ;have b2:(498+k) / (4+k)<=498+k:=Int.ediv_le_self _ oJ;have b3:0<=498 / (k+v):=Int.ediv_nonneg oJ oJ;have b4:0<=(498+k) / (4+k):=Int.ediv_nonneg oJ oJ;rw[e1,E,G,I,J,IntWalk.i64_in _ ⟨oJ,oJ⟩,IntWalk.i64_in _ ⟨oJ,oJ⟩];exact⟨oJ,oJ,this⟩
abbrev Aq (t:Int):Prop:=0<=t/\t<=7
end
section
open Go Go.Pt List
open Go.IntKind (wrap)
attribute [local irreducible] ld dK ij nM jv fg st new idx jw jL fD jO jl mF gF nn call ed inv run eW i9 join loop held ext kH eS nf mY ng IntKind.wrap
variable {B F F1 F2 S X:List Nat} {K:Int->WP} {L:List (Nat×Obj)} {T:TypeId} {Z:List Value} {body c l t:List Int} {cs:Array Value} {db:Option Addr} {defb fb mb pb r:Nat} {f:List (Int×Value)} {n q:Int} {s sl sn:Sl} {w w' w0:World}
def eI (n:Nat):Nat:=if n=0 then 0 else (n-1) / 124+1
def qrm{n:Nat}(E:n<=1000000)(h:K (eI n) w):cW 141 [.i n] di w K:=by
 refine qmT ?_;apply cD<;>intro u
 have:=u
 have C:n=0:=oJ;subst C;exact h
 have:=u
 have C:n≠0:=oJ;rw[eI,if_neg C] at h;rw[gg ((n:Int)-1) oJ];have e:Int.tdiv ((n:Int)-1) 124=(((n-1) / 124:Nat):Int):=(by rw[Int.tdiv_eq_ediv_of_nonneg oJ];omega);rw[e,gg (((n-1) / 124:Nat):Int) oJ,gg ((((n-1) / 124:Nat):Int)+1) oJ];exact h
def iB:Int->List Int->Bool
 | _,[]=>true
 | a,x::r=>decide (a<x)&&iB x r
def qsH{K:Bool->WP}(h:Rd S w s l)(V:l.length<=1000000)(G:K (iB 1 l) w): cW 206 [s.v] dj w K:=by
 refine qlG ?_;have R:=h.1;refine iU (fun x w'=>w'=w/\∃i:Nat,x.2=i/\i<=l.length/\iB x.1 (l.drop i)=iB 1 l) (fun x _=>((l.length:Int)-x.2).toNat) ⟨rfl,0,rfl,oJ,oL⟩ ?_;rintro⟨a,ii⟩ w' ⟨rfl,i,E,hi,C⟩ X U;simp only at E C;subst E;apply cD<;>intro I;have u:i<l.length:=oJ;refine Rd.at h i rfl (zA u) ?_;rw[zY u,iB] at C;apply cD<;>intro J
 have:=J
 rw[show decide (a<l[i])=false by rw[decide_eq_false_iff_not];omega,Bool.false_and] at C;rw[<- C] at G;exact G
 have:=J
 rw[show decide (a<l[i])=true by rw[yN];omega,Bool.true_and] at C;rw[gg _ oJ];exact U _ _ ⟨rfl,i+1,oL,oJ,C⟩ oN;have u:i=l.length:=oJ;subst u;rw[drop_length] at C;rw[<- C] at G;exact G
def qzy(n:Int):gu n 0=wrap .u8 n:=by
 unfold gu;have:Int.fdiv n (2^min (8*0) 32)=n:=by show Int.fdiv n (2^0)=n;simp
 rw[this]
def qqy{K:Sl->WP}(h:fQ w s l B)(hl:l.length<=1000000)(hk:∀C B' w',fQ w' C (l++be n 4) B'->Fr B w w'->(∀b∈B',b∈B\/w.heap.size<=b)->K C w'): new (.cells #[.b (wrap .u8 (Int.fdiv n (2^24))),.b (wrap .u8 (Int.fdiv n (2^16))),.b (wrap .u8 (Int.fdiv n (2^8))),.b (wrap .u8 n)] 5) w fun r w2=> Pt.run dh ((Builtin.append_ #[101,101] 101 #[s.v,.slice (pW r) 4 4]).run prog w2) fun C w'=>K C w':=by obtain⟨i5,E,hz,G,I⟩:=uO;refine oB (oE [] w) fun r w1 e1 J ho=>?_;have R:be n 4=[gu n 3,gu n 2,gu n 1,gu n 0]:=rfl;have ae:=J.size;refine eQ.j1 (ys:=be n 4) (e:=5) (h.q7 J) kW oK E hz G rfl (.ofSlice _ (e':=5) oK _ 4 4 _ (by rw[qX];simp[jZ]) (fun j u V=>?_) (fun u hu=>?_)) (jZ n 4).symm (by rw[I];omega) oJ fun C B' w' g1 g2 g3 _=>?_;rw[Addr.q9,ji (ho.at (i:=0) rfl),xS];rw[qX,R,qzy] at V;rw[List.getElem?_toArray];exact V;rw[qX] at hu;obtain⟨x,_,rfl⟩:=mem_map.1 hu;rfl;refine hk C B' w' g1 ((J.mono (fun i E _=>by cases E)).j8 g2 (fun b U=>.inl U)) (fun b U=>?_);rcases g3 b U with h|h;exact .inl h;exact .inr oJ
def qt6{K:Sl->WP}(h:fQ w s l B)(E:l.length<=1000000)(G:∀C B' w',fQ w' C (l++be n 4) B'->Fr B w w'->(∀b∈B',b∈B\/w.heap.size<=b)->K C w'): cW 208 [s.v,.u n] dh w K:=by exact qnR<|qqy h E G
def Ep{A B:Int}(k:Nat)(G:0<=A)(C:A%2^k=0)(I:0<=B)(h:B<2^k)(J:A+B<4294967296):bits .or .u32 A B=A+B:=by
 obtain⟨a,rfl⟩:∃a:Nat,A=a:=⟨A.toNat,oJ⟩;obtain⟨b,rfl⟩:∃b:Nat,B=b:=⟨B.toNat,oJ⟩;have E:a%2^k=0:=by have:((a:Int)%((2^k:Nat):Int))=0:=(by rw[Int.natCast_pow];exact C);omega
 have u:b<2^k:=(by have:(b:Int)<((2^k:Nat):Int):=(by rw[Int.natCast_pow];exact h);omega);obtain⟨q,rfl⟩:∃q,a=2^k*q:=⟨a / 2^k,by have:=Nat.div_add_mod a (2^k);omega⟩;show wrap .u32 ((BitVec.ofInt 32 ((2^k*q:Nat):Int)||| BitVec.ofInt 32 (b:Int)).toNat:Nat)=_;rw[BitVec.toNat_or,BitVec.ofInt_natCast,BitVec.ofInt_natCast,BitVec.toNat_ofNat,BitVec.toNat_ofNat,Nat.mod_eq_of_lt (show 2^k*q<2^32 by omega),Nat.mod_eq_of_lt (show b<2^32 by omega),<- Nat.two_pow_add_eq_or_of_lt u];rw[lN _ oJ];omega
def od (a b c d:Int):Int:=bits .or .u32 (bits .or .u32 (bits .or .u32 (wrap .u32 (wrap .u32 a*2^24)) (wrap .u32 (wrap .u32 b*2^16))) (wrap .u32 (wrap .u32 c*2^8))) (wrap .u32 d)
def qr1{a b c d:Int}(h:0<=a/\a<256)(u:0<=b/\b<256)(C:0<=c/\c<256)(E:0<=d/\d<256):od a b c d=((a*256+b)*256+c)*256+d:=by unfold od;rw[lN a oJ,lN b oJ,lN c oJ,lN d oJ,lN (a*2^24) oJ,lN (b*2^16) oJ,lN (c*2^8) oJ];rw[Ep (A:=a*2^24) (B:=b*2^16) 24 oJ oJ oJ oJ oJ];rw[Ep (B:=c*2^8) 16 oJ oJ oJ oJ oJ];rw[Ep (B:=d) 8 oJ oJ oJ oJ oJ];omega
def qx7(h:0<=n/\n<4294967296):od (n / 16777216%256) (n / 65536%256) (n / 256%256) (n%256)=n:=by rw[qr1 oJ oJ oJ oJ];omega
def fl (l:List Int):Int:=od (l.getD 0 0) (l.getD 1 0) (l.getD 2 0) (l.getD 3 0)
def getD_some{n:Nat}(h:n<l.length):l[n]?=some (l.getD n 0):=by rw[yR,zA h];rfl
def qwJ(h:eh S w s l)(J:4<=l.length)(u:K (fl l) w): (idx s 0 1 fun a=>ld .b a w fun C=>idx s 1 1 fun a=>ld .b a w fun E=>idx s 2 1 fun a=>ld .b a w fun G=>idx s 3 1 fun a=>ld .b a w fun I=>K (od C E G I) w):=by exact eh.at h 0 rfl (getD_some oJ)<|eh.at h 1 rfl (getD_some oJ)<|eh.at h 2 rfl (getD_some oJ)<|eh.at h 3 rfl (getD_some oJ)<|u
def qt5(h:eh S w s l)(C:4<=l.length)(E:K (fl l) w.drew):cW 211 [s.v] dt w K:=by exact qnQ<|qwJ (w:=w.drew) h C E
def qsq{A B:Int}(k:Nat)(G:0<=A)(C:A%2^k=0)(I:0<=B)(h:B<2^k)(J:A+B<4294967296):bits .or .i64 A B=A+B:=by
 obtain⟨a,rfl⟩:∃a:Nat,A=a:=⟨A.toNat,oJ⟩;obtain⟨b,rfl⟩:∃b:Nat,B=b:=⟨B.toNat,oJ⟩;have E:a%2^k=0:=by have:((a:Int)%((2^k:Nat):Int))=0:=(by rw[Int.natCast_pow];exact C);omega
 have u:b<2^k:=(by have:(b:Int)<((2^k:Nat):Int):=(by rw[Int.natCast_pow];exact h);omega);obtain⟨q,rfl⟩:∃q,a=2^k*q:=⟨a / 2^k,by have:=Nat.div_add_mod a (2^k);omega⟩;show wrap .i64 ((BitVec.ofInt 64 ((2^k*q:Nat):Int)||| BitVec.ofInt 64 (b:Int)).toNat:Nat)=_;rw[BitVec.toNat_or,BitVec.ofInt_natCast,BitVec.ofInt_natCast,BitVec.toNat_ofNat,BitVec.toNat_ofNat,Nat.mod_eq_of_lt (show 2^k*q<2^64 by omega),Nat.mod_eq_of_lt (show b<2^64 by omega),<- Nat.two_pow_add_eq_or_of_lt u];rw[gg _ oJ];omega
def kI (l:List Int):Int:=l.getD 4 0*256+l.getD 5 0
def jS (l:List Int) (n:Nat):List Int:=(List.range n).map fun i=>fl (l.drop (6+4*i))
def hU (l:List Int):Int×List Int×Int:=
 if l.length<6 then (0,[],2) else
 if fl l=1\/kI l>123\/(l.length:Int)≠6+4*kI l then (0,[],2) else
 if iB 1 (jS l (kI l).toNat) then (fl l,jS l (kI l).toNat,0) else (0,[],2)
def qv5{K:Int×Sl×Int->WP}(h:eh S w s l)(hB:eF l)(hl:l.length<=100000)(hk:∀s' B w',lc w' s' (hU l).2.1 B->Fr [] w w'->(∀b∈B,w.heap.size<=b)->K ((hU l).1,s',(hU l).2.2) w'): cW 175 [s.v] dE w K:=by
 refine qlE ?_;have I:=h.1;have R:∀ {e:Int} {w':World},hU l=(0,[],e)->Fr [] w w'->K (0,dG,e) w':=by
  intro e w' he hf
  have:=hk dG [] w' (by rw[he];exact .nil _ _ _) hf oL
  rw[he] at this;exact this
 apply dW<;>intro C
 have:=zC C
 exact R (by rw[hU,iP]) (.refl _ _);have h6:¬l.length<6:=(by have:=zB C;omega);have fd:Fr [] w w.drew:=(Fr.refl _ _).drew;have E:Fr [] w w.drew.drew:=fd.drew;obtain⟨_,b4,o4,ak,aK,al,T4,aL,aa,am⟩:=dZ.at h 4 (getD_some (l:=l) (n:=4) oJ);obtain⟨_,b5,o5,an,aM,ao,T5,aN,ab,ap⟩:=dZ.at h 5 (getD_some (l:=l) (n:=5) oJ);have g4:al[o4+4]?=some (.b (l.getD 4 0)):=(by have:=congrArg (·[0]?) am;simpa using this);have g5:ao[o5+5]?=some (.b (l.getD 5 0)):=(by have:=congrArg (·[0]?) ap;simpa using this);have c4:∀ {w':World},Fr [] w w'->w'.cell? ⟨b4,o4+Int.toNat 4*1,none⟩=some (.b (l.getD 4 0)):=fun f=>by rw[ji (by rw[f.block b4 (eZ aa) oL];exact aa)];exact g4
 have c5:∀ {w':World},Fr [] w w'->w'.cell? ⟨b5,o5+Int.toNat 5*1,none⟩=some (.b (l.getD 5 0)):=fun f=>by rw[ji (by rw[f.block b5 (eZ ab) oL];exact ab)];exact g5
 refine qj ak ⟨oJ,oJ⟩<|pr (l.getD 4 0) (c4 fd)<|qj an ⟨oJ,oJ⟩<|pr (l.getD 5 0) (c5 fd)<|qt5 (w:=w.drew) (S:=S) h oJ<|ko (c5 E) (c4 E) ?_;have r4:0<=l.getD 4 0/\l.getD 4 0<256:=hB _ (yF (getD_some (l:=l) (n:=4) oJ));have r5:0<=l.getD 5 0/\l.getD 5 0<256:=hB _ (yF (getD_some (l:=l) (n:=5) oJ));have ac:bits .or .i64 (wrap .i64 (wrap .i64 (l.getD 4 0)*2^8)) (wrap .i64 (l.getD 5 0))=kI l:=by rw[gg (l.getD 4 0) oJ,gg (l.getD 5 0) oJ,gg (l.getD 4 0*2^8) oJ,qsq 8 oJ oJ oJ oJ oJ];rfl
 have aH:0<=kI l/\kI l<65536:=(by unfold kI;omega);rw[ac];refine gW (fun b w'=>b=decide (fl l=1\/kI l>123\/(l.length:Int)≠6+4*kI l)/\w'=w.drew.drew) ?_ ?_;apply dW<;>intro C;exact⟨by rw[yA (Or.inl (oP C))],rfl⟩;have aq:¬fl l=1:=(oP C);apply cD<;>intro U;exact⟨by rw[yA (Or.inr (Or.inl (U)))],rfl⟩;have ad:¬kI l>123:=U;refine⟨?_,rfl⟩;rw[gg (4*kI l) oJ,gg (6+4*kI l) oJ,I];by_cases h3:(l.length:Int)=6+4*kI l<;>simp[aq,ad,h3];rintro b w1 ⟨rfl,rfl⟩;refine dW (fun C=>R (by rw[hU,if_neg h6,if_pos (zC C)]) E) (fun C=>?_);have V:=zB C;have ae:kI l<=123:=by rcases Int.lt_or_le 123 (kI l) with h|h;exact absurd (Or.inr (Or.inl h)) V;exact h
 have ar:(l.length:Int)=6+4*kI l:=Classical.byContradiction fun h=>V (Or.inr (Or.inr h));have pv:hU l=if iB 1 (jS l (kI l).toNat) then (fl l,jS l (kI l).toNat,0) else (0,[],2):=by rw[hU,if_neg h6,if_neg V]
 obtain⟨n,hn⟩:∃n:Nat,kI l=n:=⟨(kI l).toNat,oJ⟩;rw[hn] at ae ar pv⊢;rw[zJ] at pv;refine iU (fun x w'=>∃(i:Nat) (B:List Nat),x.2=i/\i<=n/\lc w' x.1 (jS l i) B/\Fr [] w w'/\∀b∈B,w.heap.size<=b) (fun x _=>((n:Int)-x.2).toNat)
  ⟨0,[],rfl,oJ,.nil _ _ _,E,oL⟩ ?_
 rintro⟨s1,ii⟩ w2 ⟨i,B,af,hi,J,f2,n2⟩ X hX;simp only at af J;subst af;apply cD<;>intro C;have ag:i<n:=oJ;rw[gg (4*(i:Int)) oJ,gg (6+4*(i:Int)) oJ];have h2:eh S w2 s l:=h.q7 f2;refine dZ.part h2 (6+4*i) l.length oL (by rw[I];rfl) oJ oJ fun s3 l3 r3 _=>?_;rw[xZ] at r3;refine qt5 r3 (by rw[yC];omega) ?_;have ah:Fr [] w w2.drew:=f2.drew;refine EI (w:=w2.drew) (B:=B) J (by simp[jS];omega) fun s4 B4 w4 g1 g2 g3=>?_;rw[gg _ oJ];have aZ:=ah.size;refine hX _ _ ⟨i+1,B4,oL,oJ,?_,ah.j8 g2 (fun b J=>.inr (n2 b J)),fun b J=>?_⟩ oN;have:jS l (i+1)=jS l i++[fl (l.drop (6+4*i))]:=(by simp[jS,range_succ]);rw[this];exact g1;rcases g3 b J with h|h;exact n2 b h;omega;have ag:i=n:=oJ;subst ag;refine qsH (S:=[]) (J.jo qS oL) (by simp[jS];omega) ?_;apply dW<;>intro hr;have G:¬iB 1 (jS l i)=true:=(oP hr);exact R (by rw[pv,if_neg G]) f2;have G:iB 1 (jS l i)=true:=by simpa using hr
 have:=hk s1 B w2 (by rw[pv,if_pos G];exact J) f2 n2
 rw[pv,if_pos G] at this;exact this
def tr:Sl->List Value:=fun s=>[s.v]
def qrP:∀x,(tr x).length=1:=fun _=>rfl
def qA4:∃i,prog.info? 101=some i/\i.zero=some (.slice none 0 0)/\i.size=1/\i.bytes=24:=sK oK
def jq (S:List Nat) (w:World) (s:Sl) (u:List (List Int)) (B:List Nat):Prop:=
 ∃h:List Sl,eQ tr 1 w s h B/\h.length=u.length/\∀(i:Nat) sl l,h[i]?=some sl->u[i]?=some l->eh (S++B) w sl l
def jq.nil(S:List Nat)(w:World):jq S w dG [] []:=⟨[],.nil _ _ _,rfl,fun i sl l h=>by simp at h⟩
def jq.q8{S S':List Nat}{w w':World}{s:Sl}{G:List (List Int)}{B:List Nat}(h:jq S w s G B)(f:Fr S w w')(I:∀b∈B,b∉S)(C:∀b∈S',b∈S\/w.heap.size<=b):jq S' w' s G B:=by obtain⟨E,J,R,U⟩:=h;refine⟨E,J.q8 f I,R,fun i sl l V hl=>(U i sl l V hl).q8 (f.mono fun b u _=>zH _ u) fun b u=>?_⟩;rcases zD.1 u with u|u;rcases C b u with h|h;exact .inl (zH _ h);exact .inr h;exact .inl (zI _ u)
def jq.push{S:List Nat}{w:World}{s sl:Sl}{J:List (List Int)}{B:List Nat}{l:List Int}{T:TypeId}{K:Sl->WP}(h:jq S w s J B)(hr:eh (S++B) w sl l)(hl:J.length<=1000000)(kk:∀I B' w',jq S w' I (J++[l]) B'->Fr B w w'->(∀b∈B',b∈B\/w.heap.size<=b)->K I w'): Pt.new (.cells #[sl.v] T) w fun r w1=>Pt.run dh ((Builtin.append_ #[171,171] 171 #[s.v,.slice (pW r) 1 1]).run prog w1) K:=by
 obtain⟨i,hi,hz,R,U⟩:=qA4;obtain⟨G,h1,V,h3⟩:=h;refine eQ.push (e:=101) (x:=sl) h1 qrP (by simp[tr,Value.oneCell']) oK hi hz R rfl rfl (by rw[U];omega) oJ fun I B' w' b' f' n'=>kk I B' w' ⟨_,b',by simp[V],fun j sj lj C u=>?_⟩ f' n';have hw:∀b∈S++B',b∈S++B\/w.heap.size<=b:=fun b E=>by rcases zD.1 E with E|E;exact .inl (zH _ E);rcases n' b E with h|h;exact .inl (zI _ h);exact .inr h
 have hf:Fr (S++B) w w':=f'.mono fun b E _=>zI _ E;by_cases hjl:j<G.length;rw[yZ hjl] at C;rw[yZ oJ] at u;exact (h3 j sj lj C u).q8 hf hw;by_cases hje:j=G.length;subst hje;rw[yY (zM _),Nat.sub_self] at C;rw[V,yY (zM _),Nat.sub_self] at u;simp at C u;subst C u;exact hr.q8 hf hw;rw[yS (by rw[zF];simp;omega)] at C;cases C
def iI (next:Int) (c:List Int):List Int:=be next 4++[wrap .u8 (Int.fdiv c.length (2^8)),wrap .u8 c.length]++c.flatMap (be · 4)
def gl (numbers y4:List Int) (k:Nat):List (List Int):=(List.range k).map fun i=>iI (y4.getD (i+1) 0) ((numbers.drop (123*i)).take 123)
def gj (numbers y4:List Int):List (List Int)×Int:=
 if iB 1 numbers=false\/numbers.length>123*y4.length then ([],1) else if ∃p∈y4,p<2 then ([],1) else (gl numbers y4 y4.length,0)
def qxX{K:Value->WP}(E:∀u C w',Fr [] w w'->(∀S w0 L,dQ S w0 w L->dQ S w0 w' ((u,.cells #[.i n] 3 (0,0))::(C,.cells #[s.v] 172 (0,0))::L))->K (.func (.func 240) #[] #[dF u,dF C]) w'): cW 207 [s.v,.i n] dv w K:=by exact qlF<|Pt.DD<|Pt.DD<|E _ _ _ (((Fr.refl [] w).alloc _).alloc _) fun S w0 L h=>(h.alloc _).alloc _
def A2:∀l:List Int,(l.flatMap (be · 4)).length=l.length*4
 | []=>rfl
 | x::l=>by rw[yH,zF,jZ,A2 l,yI];omega
def qAg(a b:Int):([a,b]:List Int).length=2:=rfl
def quC{G:List Nat}{sp:Sl}{numbers y4:List Int}{K:Sl×Int->WP}(hn:Rd S w sn numbers)(hp:Rd S w sp y4)(b5:numbers.length<=100000)(b6:y4.length<=100000)(hG:∀b∈G,b<w.heap.size)(hk:∀s' B w',jq G w' s' (gj numbers y4).1 B->Fr [] w w'->(∀b∈B,w.heap.size<=b)->K (s',(gj numbers y4).2) w'): cW 172 [sn.v,sp.v] dk w K:=by
 refine qks ?_;have bl:=hn.1;have bm:=hp.1;have aX:∀ {w':World},gj numbers y4=([],1)->Fr [] w w'->K (dG,1) w':=by
  intro w' he hf
  have:=hk dG [] w' (by rw[he];exact .nil _ _) hf oL
  rw[he] at this;exact this
 refine oB (oE [] w) fun r1 w1 e1 f1 ho=>?_;have bn:Rd S w1 sn numbers:=hn.q7 ho.fr;have bo:Rd S w1 sp y4:=hp.q7 ho.fr;refine gW (fun b w'=>b=decide (iB 1 numbers=false\/numbers.length>123*y4.length)/\w'=w1) ?_ ?_;refine qsH bn oJ ?_;apply dW<;>intro hc;have hr:iB 1 numbers=false:=(oP hc);exact⟨by rw[yA (Or.inl hr)],rfl⟩;have hr:iB 1 numbers=true:=(oP hc);refine oA ho 0 rfl sp rfl ⟨?_,rfl⟩;rw[gg (123*(sp.len:Int)) oJ,bl,bm];have e:decide ((numbers.length:Int)>123*(y4.length:Int))=decide (numbers.length>123*y4.length):=by by_cases h:numbers.length>123*y4.length;rw[yA h,yA];omega;rw[zU h,zU];omega
 rw[e];by_cases h:numbers.length>123*y4.length<;>simp[hr,h];rintro b w2 ⟨rfl,rfl⟩;refine dW (fun hc=>aX (by rw[gj,if_pos (zC hc)]) ho.fr) (fun hc=>?_);have aY:=zB hc;refine oA ho 0 rfl sp rfl<|iU (fun x w'=>w'=w2/\∃i:Nat,x.2.2=i/\i<=y4.length/\∀p∈y4.take i,¬p<2) (fun x _=>((y4.length:Int)-x.2.2).toNat) ⟨rfl,0,rfl,oJ,oL⟩ ?_;rintro⟨sx,ex,ii⟩ w3 ⟨rfl,i,aZ,hi,ar⟩ X hX;simp only at aZ;subst aZ;dsimp only;apply cD<;>intro hc;have au:i<y4.length:=oJ;refine Rd.at bo i rfl (zA au) ?_;apply cD<;>intro hx;exact aX (by rw[gj,if_neg aY,if_pos ⟨y4[i],zX au,hx⟩]) ho.fr;rw[gg _ oJ];refine hX _ _ ⟨rfl,i+1,oL,oJ,fun p hp=>?_⟩ oN;rw[yG au] at hp;rcases zD.1 hp with hp|hp;exact ar p hp;simp at hp;subst hp;exact hx;have au:i=y4.length:=oJ;subst au;rw[xZ] at ar;have bv:gj numbers y4=(gl numbers y4 y4.length,0):=by rw[gj,if_neg aY,if_neg];rintro⟨p,hp,h2⟩;exact ar p hp h2
 rw[bv] at hk;refine oB ho fun ro w4 eo fo ho=>oA ho 1 rfl sp rfl<|qxX fun rp rl w5 f5 a0=>?_;have bx:=a0 _ _ _ ho;refine dQ.kH (lb:=[dF rp,dF rl]) bx rfl oK fun Dm l R Bz J E E0 w6 el eD b8 a1 hy=>qiU<|oA a1 2 rfl sp.len rfl<|iU (fun x w'=>∃(j:Nat) (cl so:Sl) (Bo:List Nat),x=j/\j<=y4.length/\Rd [] w cl (numbers.drop (123*j))/\jq ([l,Dm,rp,rl,ro,r1]++G) w' so (gl numbers y4 j) Bo/\(∀b∈Bo,w.heap.size<=b/\b∉[l,Dm,rp,rl,ro,r1])/\
   dQ [] w w' [(l,R),(Dm,.deferred (some [])),(rp,.cells #[.i sp.len] 3 (0,0)),(rl,.cells #[cl.v] 172 (0,0)),(ro,.cells #[so.v] 171 (0,0)),(r1,.cells #[sp.v] 172 (0,0))]) (fun x _=>((y4.length:Int)-x).toNat)
  ⟨0,sn,dG,[],rfl,oJ,hn.j6 (fun b C=>by cases C),.nil _ _,oL,a1⟩ ?_
 rintro x w7 ⟨j,cl,so,Bo,rfl,hj,aL,av,ao,ac⟩ X hX;have al:∀b∈Bo,b∉[l,Dm,rp,rl,ro,r1]++G:=fun b C U=>by
  rcases zD.1 U with U|U;exact (ao b C).2 U
  have:=hG b U;have:=(ao b C).1;omega
 have bA:=aL.1;rw[yC] at bA;apply cD<;>intro hc
 ·have cc:j<y4.length:=oJ;refine oA ac 3 rfl cl rfl<|oA ac 3 rfl cl rfl ?_;obtain⟨m,U,ab⟩:∃m:Nat,(if (123:Int)<(cl.len:Int) then 123 else (cl.len:Int))=m/\m=Nat.min 123 cl.len:=(by by_cases h:123<cl.len;exact⟨123,by rw[iP];rfl,(xR oJ).symm⟩;exact⟨cl.len,by rw[iN],(Nat.min_eq_right oJ).symm⟩);rw[U];have bB:m<=123:=(by rw[ab];exact Nat.min_le_left _ _);have bW:m<=cl.len:=(by rw[ab];exact Nat.min_le_right _ _);refine dZ.part aL 0 m rfl rfl oJ (by rw[yC];omega) fun cs bX aD _=>?_;rw[xF] at aD;have am:(numbers.drop (123*j)).take m=(numbers.drop (123*j)).take 123:=(by by_cases h:123<cl.len;rw[ab];congr 1;exact xR oJ;have:m=cl.len:=(by rw[ab];exact Nat.min_eq_right oJ);rw[this,zS (by rw[yC];omega),zS (by rw[yC];omega)]);generalize bC:(numbers.drop (123*j)).take m=chunk at aD am;have a2:chunk.length=m:=(by rw[<- bC,yL,yC];omega);have aJ:cs.len=m:=oJ;refine hy ((j:Int),cs) w7 _ (ac.at (i:=0) rfl) ?_;dsimp only;refine⟨ac.at (i:=0) rfl,?_⟩;have I:=ac.gR (o':=Bz) 0 rfl;have V:=I.uZ [];have a3:Rd [] (Pt.gR w7 l Bz) sp y4:=(hp.j6 (fun b C=>by cases C)).q7 I.fr;have aw:jq ([l,Dm,rp,rl,ro,r1]++G) (Pt.gR w7 l Bz) so (gl numbers y4 j) Bo:=av.q8 ((sh (eZ (ac.at (i:=0) rfl)) Bz).mono fun b C _=>by simp at C;subst C;simp) al (fun b C=>.inl C);have a4:=av.choose_spec.1.lt;refine gW (fun x w'=>x=y4.getD (j+1) 0/\w'=Pt.gR w7 l Bz) ?_ ?_;refine oA V 5 rfl sp rfl ?_;rw[gg ((j:Int)+1) oJ];apply cD<;>intro aM;have h2:j+1<y4.length:=oJ;exact oA V 5 rfl sp rfl<|Rd.at a3 (j+1) oJ (getD_some h2)<|⟨rfl,rfl⟩;have h2:¬j+1<y4.length:=oJ;exact⟨by rw[yR,yS oJ];rfl,rfl⟩;rintro x w8 ⟨rfl,rfl⟩;generalize bD:y4.getD (j+1) 0=next
  have hW:(Pt.gR w7 l Bz).heap.size=w7.heap.size:=tE _ _ _;generalize ce:Pt.gR w7 l Bz=w8 at I V a3 hW aw;have bY:Rd [] w8 cs chunk:=aD.q7 I.fr;have an:∀p∈[l,Dm,rp,rl,ro,r1],p<w8.heap.size:=fun p hp=>by have ap:=fun (k:Nat) (q:Nat×Obj) (hq:_[k]?=some q)=>eZ (I.at (i:=k) hq);simp only[zG,xX,or_false] at hp;rcases hp with rfl|rfl|rfl|rfl|rfl|rfl;exact ap 0 _ rfl;exact ap 1 _ rfl;exact ap 2 _ rfl;exact ap 3 _ rfl;exact ap 4 _ rfl;exact ap 5 _ rfl
  obtain⟨i5,bE,bF,a5,a6⟩:=uO;refine qt6 (s:=dG) (l:=[]) (B:=[]) (.nil _ _ _) oL fun s9 B9 w9 b9 f9 n9=>?_;rw[xI] at b9;have V:=V.q7 f9;refine oB V fun r2 ch ci a7 V=>?_;have aO:∀b∈B9,w8.heap.size<=b:=fun b C=>by rcases n9 b C with h|h;cases h;exact h
  refine eQ.j1 (ys:=[wrap .u8 (Int.fdiv chunk.length (2^8)),wrap .u8 chunk.length]) (e:=5) (b9.q7 a7) kW oK bE bF a5 rfl (.ofSlice _ (e':=5) oK _ 2 2 _ (by rw[qX];rfl) (fun q u hq=>?_) (fun u hu=>?_)) rfl (by rw[a6,jZ];decide) (by rw[jZ];decide) fun cj a8 ck bH bI bJ _=>?_;rw[Addr.q9,ji (V.at (i:=0) rfl),xS,aJ,<- a2];rw[qX] at hq;rw[List.getElem?_toArray];exact hq;rw[qX] at hu;obtain⟨x,_,rfl⟩:=mem_map.1 hu;rfl;have cm:=f9.size;have b1:=a7.size;have bK:=b9.lt;have V:=(V.sub (sublist_cons_self _ _)).q8 bI (fun b C=>.inr (aO b C)) (fun p hp C=>by have h1:=an p.1 (zZ (f:=(·.1)) hp);have h2:=aO _ C;omega);have a9:∀b∈a8,w8.heap.size<=b:=fun b C=>by rcases bJ b C with h|h;exact aO b h;omega
  refine iU (fun x w'=>∃(q:Nat) (Bq:List Nat),x.2=q/\q<=m/\fQ w' x.1 (be next 4++[wrap .u8 (Int.fdiv chunk.length (2^8)),wrap .u8 chunk.length]++(chunk.take q).flatMap (be · 4)) Bq/\(∀b∈Bq,w8.heap.size<=b)/\
    dQ ([l,Dm,rp,rl,ro,r1]++[]) w8 w' [(l,Bz),(Dm,.deferred (some [])),(rp,.cells #[.i sp.len] 3 (0,0)),(rl,.cells #[cl.v] 172 (0,0)),(ro,.cells #[so.v] 171 (0,0)),(r1,.cells #[sp.v] 172 (0,0))]) (fun x _=>((m:Int)-x.2).toNat)
   ⟨0,a8,rfl,oJ,by simpa using bH,a9,V⟩ ?_
  rintro⟨bM,qq⟩ aP ⟨q,Bq,a',cn,bq,nq,hq⟩ Y hY;simp only at a' bq;subst a';dsimp only;rw[aJ];apply cD<;>intro aQ
  ·have ax:q<chunk.length:=oJ;have aR:Rd [] aP cs chunk:=aD.q7 (I.vQ (T:=[]) oL hq.fr);refine Rd.at aR q rfl (zA ax) ?_;have aT:(be next 4++[wrap .u8 (Int.fdiv chunk.length (2^8)),wrap .u8 chunk.length]++(chunk.take q).flatMap (be · 4)).length<=1000000:=(by rw[zF,zF,jZ,A2,yL,qAg];omega);refine qt6 bq aT fun ba aE aF aU aV aW=>?_;rw[gg _ oJ];refine hY _ _ ⟨q+1,aE,oL,oJ,?_,fun b C=>?_,hq.q8 aV (fun b C=>.inr (nq b C)) (fun p hp C=>?_)⟩ oN;rw[yG ax,yQ,flatMap_singleton,<- zV];exact aU;rcases aW b C with h|h;exact nq b h;exact zL hq.fr.size h;have h1:=an p.1 (zZ (f:=(·.1)) hp);have h2:=nq _ C;omega
  ·have bN:q=m:=oJ;subst bN;rw[zS oJ] at bq;refine oA hq 4 rfl so rfl ?_;have bb:eh (([l,Dm,rp,rl,ro,r1]++G)++Bo) aP bM (iI next chunk):=bq.jo kW fun b C U=>by
    have h2:=nq _ C;rcases zD.1 U with U|U;rcases zD.1 U with U|U
    have:=an b U;omega
    have:=hG b U;have:=I.fr.size;omega
    have:=a4 b U;omega
   have aG:jq ([l,Dm,rp,rl,ro,r1]++G) aP so (gl numbers y4 j) Bo:=aw.q8 (hq.fr.mono fun b C _=>by rw[xH] at C;exact zH _ C) al (fun b C=>.inl C);refine jq.push aG bb (by rw[gl,zK,length_range];omega) fun ba aE aF aU aV aW=>?_;have ay:=(I.vY (T:=[]) oL hq).q8 aV (fun b C=>.inr (ao b C).1) (fun p hp C=>(ao _ C).2 (zZ (f:=(·.1)) hp));refine oD ay 4 rfl _ fun cp ay bO=>⟨ay.at (i:=0) rfl,?_⟩;have ax:=ay.gR (o':=R) 0 rfl;refine cond_false rfl<|oA ax 3 rfl cl rfl<|dZ.part aL q (numbers.drop (123*j)).length rfl (by rw[yC];show (cl.len:Int)=_;omega) (by rw[yC];omega) (zM _) fun cr b3 bc _=>oD ax 3 rfl _ fun bP bQ bR=>?_;rw[gg _ oJ];have az:∀b∈aE,w.heap.size<=b/\b∉[l,Dm,rp,rl,ro,r1]:=fun b C=>by
    rcases aW b C with h|h;exact ao b h;have h1:=hq.fr.size;refine⟨?_,fun U=>?_⟩
    have:=I.fr.size;omega
    have:=an b U;omega
   have ff:Fr [l,Dm,rp,rl,ro,r1] aF bP:=
    (bO.mono fun b C _=>by simp at C;subst C;simp).j8 ((sh (eZ (ay.at (i:=0) rfl)) R).mono (T:=[l,Dm,rp,rl,ro,r1]) fun b C _=>by simp at C;subst C;simp) (fun b C=>.inl C) |>.j8 (bR.mono (T:=[l,Dm,rp,rl,ro,r1]) fun b C _=>by simp at C;subst C;simp) (fun b C=>.inl C)
   have aH:=aU.q8 (ff.mono fun b C _=>zH _ C) (fun b C U=>by
    rcases zD.1 U with U|U;exact (az b C).2 U
    have:=hG b U;have:=(az b C).1;omega) (fun b C=>.inl C)
   have bd:((numbers.drop (123*j)).take (numbers.drop (123*j)).length).drop q=numbers.drop (123*(j+1)):=(by rw[xZ,xD];by_cases h:123<cl.len;rw[show q=123 by rw[ab];exact xR oJ,Nat.mul_add];have:q=cl.len:=(by rw[ab];exact Nat.min_eq_right oJ);rw[vE oJ,vE oJ]);rw[bd] at bc;have aT:gl numbers y4 (j+1)=gl numbers y4 j++[iI next chunk]:=(by rw[gl,range_succ,xN,map_singleton,bD,<- am];rfl);refine hX _ _ ⟨j+1,cr,ba,aE,oL,oJ,bc,by rw[aT];exact aH,az,bQ⟩ oJ
 have bS:j=y4.length:=oJ;subst bS;refine .inl ⟨ac.at (i:=0) rfl,?_⟩;have I:=ac.gR (o':=E0) 0 rfl;refine oA I 4 rfl so rfl<|dQ.eS I.ln 1 rfl fun aF hd=>?_;have bT:jq ([l,Dm,rp,rl,ro,r1]++G) (Pt.gR w7 l E0) so (gl numbers y4 y4.length) Bo:=av.q8 ((sh (eZ (ac.at (i:=0) rfl)) E0).mono fun b C _=>by simp at C;subst C;simp) al (fun b C=>.inl C);exact hk so Bo aF (bT.q8 (S':=G) (hd.fr.mono fun b C _=>zH _ C) al (fun b C=>.inl (zI _ C))) (I.back hd.fr) (fun b C=>(ao b C).1)
def eT (q:Int) (t:List Int):List Value:=.int .u64 q::t.map (Value.int .u32)
def gq (q:Int) (t:List Int):List Int:=be (wrap .u32 (Int.fdiv q (2^32))) 4++be (wrap .u32 q) 4++t.flatMap (be · 4)
def xv(h:t.length=27):(gq q t).length=116:=by rw[gq,zF,zF,jZ,jZ,A2,h]
def pE(h:t.length=27):(eT q t).length=28:=by simp[eT,h]
def AC(n:Nat)(h:n<t.length):(eT q t).toArray[n+1]?=some (.u (t.getD n 0)):=by simp[eT,yR,zA h]
def Cx(q:Int)(t:List Int):((eT q t).all Value.oneCell')=true:=by rw[all_eq_true];intro v h;rcases zG.1 h with rfl|h;rfl;obtain⟨x,_,rfl⟩:=mem_map.1 h;rfl
def qrF{α:Type}{enc:α->List Value}{k:Nat}{l:List α}(h:eQ enc k w s l B):eQ enc k w.drew s l B:=h
def na (w0:World) (L:List (Nat×Obj)) (B:List Nat):Prop:=∀b∈B,w0.heap.size<=b/\b∉L.map (·.1)
def na.cons{o:Obj}(h:na w0 L B)(E:r∉B):na w0 ((r,o)::L) B:=fun b u=>⟨(h b u).1,fun C=>by rcases zG.1 C with rfl|C;exact E u;exact (h b u).2 C⟩
def na.tail{p:Nat×Obj}(h:na w0 (p::L) B):na w0 L B:=fun b u=>⟨(h b u).1,fun C=>(h b u).2 (zN _ C)⟩
def D3{j:Nat}(h:j+3<=l.length):l.drop j=l.getD j 0::l.getD (j+1) 0::l.getD (j+2) 0::l.drop (j+3):=by rw[zY oJ,zY (i:=j+1) oJ,zY (i:=j+1+1) oJ];simp only[yR];rw[zA (show j<l.length by omega),zA (show j+1<l.length by omega),zA (show j+2<l.length by omega)];rfl
def qy{j:Nat}(h:j+3<=l.length):l.take (j+3)=l.take j++[l.getD j 0,l.getD (j+1) 0,l.getD (j+2) 0]:=by rw[take_add,D3 h];rfl
def qBg{j:Nat}(h:j+3<=l.length):(l.map (Value.int .u32)).extract j (j+3)=[.u (l.getD j 0),.u (l.getD (j+1) 0),.u (l.getD (j+2) 0)]:=by rw[extract_eq_take_drop,<- xQ,D3 h,show j+3-j=3 by omega];rfl
def vL{K:Sl->WP}(G:dQ [] w0 w L)(h:fQ w s l B)(I:na w0 L B)(U:l.length<=1000000)(V:∀E B' w',dQ [] w0 w' L->fQ w' E (l++be n 4) B'->na w0 L B'->K E w'): cW 209 [s.v,.u n] dh w K:=by
 refine qsS<|qqy h U fun E B' w' b' f' n'=>V E B' w' (G.q8 f' (fun b C=>.inr (I b C).1) (fun p J C=>(I _ C).2 (zZ J))) b' fun b C=>?_;rcases n' b C with R|R;exact I b R;refine⟨zL G.fr.size R,fun hm=>?_⟩;obtain⟨p,J,rfl⟩:=mem_map.1 hm
 have:=eZ (G.eH p J)
 omega
def qwi{K:Sl->WP}(hv:Hv w)(J:t.length=27)(hk:∀b T w',w'.heap[b]?=some (.cells (fR (eE (wrap .u32 (Int.tmod q 2)) 1 (gq q t))) T (0,0))->Fr [] w w'->w.heap.size<=b->K ⟨pW b,512,512⟩ w'): cW 173 [.agg (eT q t).toArray] dh w K:=by
 refine qpu<|oB (oE [] w) fun r1 w1 e1 f1 C=>?_;have c0:(eT q t).toArray[0]?=some (.int .u64 q):=rfl;have I:=fun n (h:n<27)=>AC (q:=q) (t:=t) n oJ;refine oA C.drew 0 rfl q c0<|oA C.drew 0 rfl q c0<|vL (s:=dG) (l:=[]) (B:=[]) C.drew (.nil _ _ _) (fun b E=>by cases E) oL fun s5 B5 w6 C b5 R=>ig (C.cell (off:=0) 0 rfl c0)<|vL C b5 R (by simp[jZ]) fun s8 B8 w9 C b8 n8=>oA C.drew 0 rfl (t.getD 0 0) (I 0 oM)<|oA C.drew 0 rfl (t.getD 1 0) (I 1 oM)<|oA C.drew 0 rfl (t.getD 2 0) (I 2 oM)<|vL C.drew (qrF b8) n8 (by simp[jZ]) fun aC aD aE C ad ae=>ko (C.cell (off:=3) 0 rfl (I 2 oM)) (C.cell (off:=2) 0 rfl (I 1 oM))<|vL C ad ae (by simp[jZ]) fun aF aG aH C af ag=>ig (C.cell (off:=3) 0 rfl (I 2 oM))<|vL C af ag (by simp[jZ]) fun aI ah aJ C U ai=>?_;have hr:((eT q t).toArray.toList.drop 4).take 24=(t.drop 3).map (Value.int .u32):=by show (List.drop 3 (t.map (Value.int .u32))).take 24=_;rw[xQ,zS (by rw[yC,zK,J];decide)]
 refine nJ (C.at (i:=0) rfl) ((t.drop 3).map (Value.int .u32)) (by rw[zK,yC,J]) hr ?_;have aj:(t.drop 3).length=24:=(by rw[yC,J]);have ak:t=[t.getD 0 0,t.getD 1 0,t.getD 2 0]++t.drop 3:=by
  have:=D3 (l:=t) (j:=0) oJ
  rw[xF] at this;exact this
 have base:[]++be (wrap .u32 (Int.fdiv q (2^32))) 4++be (wrap .u32 q) 4++be (t.getD 0 0) 4++be (t.getD 1 0) 4++be (t.getD 2 0) 4=be (wrap .u32 (Int.fdiv q (2^32))) 4++be (wrap .u32 q) 4++[t.getD 0 0,t.getD 1 0,t.getD 2 0].flatMap (be · 4):=oL;rw[base] at U;refine iU (fun x w'=>∃(i:Nat) (B:List Nat),x.2=i/\i<=8/\fQ w' x.1 (be (wrap .u32 (Int.fdiv q (2^32))) 4++be (wrap .u32 q) 4++[t.getD 0 0,t.getD 1 0,t.getD 2 0].flatMap (be · 4)++((t.drop 3).take (3*i)).flatMap (be · 4)) B/\dQ [] w w' [(r1,.cells (eT q t).toArray 185 (0,0))]/\na w [(r1,.cells (eT q t).toArray 185 (0,0))] B) (fun x _=>(8-x.2).toNat)
  ⟨0,ah,rfl,oJ,by simpa using U,C,ai⟩ ?_
 rintro⟨s,ii⟩ w2 ⟨i,B,V,aL,G,C,nb⟩ X hX;simp only at V G;subst V;dsimp only;have ao:(be (wrap .u32 (Int.fdiv q (2^32))) 4++be (wrap .u32 q) 4++[t.getD 0 0,t.getD 1 0,t.getD 2 0].flatMap (be · 4)++((t.drop 3).take (3*i)).flatMap (be · 4)).length<=200:=by rw[zF,zF,zF,jZ,jZ,A2,A2,yL,aj];show 4+4+3*4+_<=200;omega
 apply cD<;>intro hc;have hi:i<8:=oJ;refine mP ⟨oJ,oJ⟩ ?_;have h3:3*i+3<=(t.drop 3).length:=oJ;refine qzE ((t.drop 3).getD (3*i) 0,(t.drop 3).getD (3*i+1) 0,(t.drop 3).getD (3*i+2) 0) ?_ ?_
 have:=qBg h3
 rw[show Int.toNat (i:Int)*3=3*i by simp;omega];exact this;refine oB C fun r2 w3 e3 f3 u=>oD u 0 rfl _ fun w4 u f4=>?_;have am:=G.lt;have aa:r2∉B:=fun E=>by have:=am _ E;omega
 have G:=(G.q7 f3).q8 f4 (fun b E hm=>by simp only[zE] at hm;subst hm;exact aa E);refine oA u.drew 0 rfl ((t.drop 3).getD (3*i) 0) rfl<|oA u.drew 0 rfl ((t.drop 3).getD (3*i+1) 0) rfl<|oA u.drew 0 rfl ((t.drop 3).getD (3*i+2) 0) rfl<|vL u.drew (qrF G) (nb.cons aa) oJ fun s5 B5 w5 u b5 R=>ko (u.cell (off:=2) 0 rfl rfl) (u.cell (off:=1) 0 rfl rfl)<|vL u b5 R (by rw[zF,jZ];omega) fun s6 B6 w6 u b6 n6=>ig (u.cell (off:=2) 0 rfl rfl)<|vL u b6 n6 (by rw[zF,zF,jZ,jZ];omega) fun s7 B7 w7 u b7 n7=>?_;rw[gg _ oJ];refine hX _ _ ⟨i+1,B7,oL,oJ,?_,u.sub (sublist_cons_self _ _),n7.tail⟩ oN;rw[show 3*(i+1)=3*i+3 by omega,qy h3,yQ];have e:([(t.drop 3).getD (3*i) 0,(t.drop 3).getD (3*i+1) 0,(t.drop 3).getD (3*i+2) 0]:List Int).flatMap (be · 4)=be ((t.drop 3).getD (3*i) 0) 4++be ((t.drop 3).getD (3*i+1) 0) 4++be ((t.drop 3).getD (3*i+2) 0) 4:=oL;rw[e];simpa only[zV] using b7;obtain rfl:i=8:=by omega
 rw[zS oJ,zV,<- yQ,<- ak] at G;refine oA C 0 rfl q c0 ?_;have E:=G.jo (S:=[]) kW oL;refine E4 E (hv.q7 C.fr) (by show (gq q t).length<=_;rw[xv J];decide) (fun h=>?_) fun _ b T w5 h5 f5 R=>?_;have h':500<(gq q t).length:=h;rw[xv J] at h';exact absurd h' oM;exact hk b T w5 h5 (C.fr.j8 f5 oL) (zL C.fr.size R)
def vh(J:dQ [] w0 w L)(i:Nat)(hi:L[i]?=some (r,.cells #[s.v] 101 (0,0)))(h:eh [] w0 s l)(R:4<=l.length)(U:∀E w',eh [] w0 E (l.drop 4)->dQ [] w0 w' (L.set i (r,.cells #[E.v] 101 (0,0)))->K (fl l) w'): ed prog (.func (.func 259) #[] #[dF r]) [] dt w K:=by refine rS (lb:=[dF r]) rfl oK<|qlR ?_;have C:=J.drew;have G:eh [] w.drew s l:=h.q7 C.fr;exact oA C i hi s rfl<|eh.at G 0 rfl (getD_some oJ)<|oA C i hi s rfl<|eh.at G 1 rfl (getD_some oJ)<|oA C i hi s rfl<|eh.at G 2 rfl (getD_some oJ)<|oA C i hi s rfl<|eh.at G 3 rfl (getD_some oJ)<|oA C i hi s rfl<|dZ.drop h 4 rfl R oJ fun E V=>oH C i hi _ rfl rfl rfl fun w' I _=>U E w' V I
def iq (l:List Int):Int:=bits .or .u64 (wrap .u64 (wrap .u64 (fl l)*2^32)) (wrap .u64 (fl (l.drop 4)))
def lw (l:List Int):List Int:=(List.range 27).map fun i=>fl (l.drop (8+4*i))
def td(l:List Int):(lw l).length=27:=by simp[lw]
def k6 (q:Int) (f:Nat->Int) (n:Nat):Array Value:=(eT q ((List.range n).map f++zs (27-n))).toArray
def qoC{x y:Int}{A Z:List Int}:dR (eT q (A++x::Z)).toArray (A.length+1) [.u y]=(eT q (A++y::Z)).toArray:=by
 apply Array.ext'
 have:=E6 (.int .u64 q::A.map (Value.int .u32)) [Value.int .u32 x] [Value.int .u32 y] (Z.map (Value.int .u32)) rfl
 rw[pN _ _ _ (by simp[eT])];simpa[eT] using this
def xi{f:Nat->Int}{n:Nat}(h:n<27):dR (k6 q f n) (n+1) [.u (f n)]=k6 q f (n+1):=by
 have C:zs (27-n)=0::zs (27-(n+1)):=by rw[show 27-n=(27-(n+1))+1 by omega];rfl
 have:=qoC (q:=q) (x:=0) (y:=f n) (A:=(List.range n).map f) (Z:=zs (27-(n+1)))
 rw[zK,length_range] at this;rw[k6,C,this,k6,range_succ,xN,zV];rfl
def qxG{h:Int}{f:Nat->Int}{n:Nat}:dR (k6 q f n) 0 [.int .u64 h]=k6 h f n:=by apply Array.ext';rw[pN _ _ _ (by simp[k6,eT])];simp[k6,eT]
def Ah{f:Nat->Int}{n:Nat}(h:n<=27):(k6 q f n).size=28:=by simp[k6,eT,oZ];omega
def qxF{f:Nat->Int}:k6 q f 27=(eT q ((List.range 27).map f)).toArray:=by show (eT q ((List.range 27).map f++[])).toArray=_;rw[xH]
def qwh{K:List Value->WP}(h:eh S w s l)(hl:l.length=116)(hk:∀w',Fr [] w w'->K (eT (iq l) (lw l)) w'): cW 241 [s.v] [.kF] w K:=by
 refine qpv ?_;have h0:eh [] w s l:=h.j6 oL;have R:((prog.info? 185).bind (·.zero)).map (fun z=>z.cells.toList)=some (eT 0 (zs 27)):=oK;refine oB (oE [] w) fun r1 w1 e1 f1 u=>oI u R fun r3 w2 e3 u=>oI u R fun E w3 e5 u=>vh u 2 rfl h0 oJ fun s1 w4 h1 u=>?_;have G:∀(q:Int),(eT q (zs 27)).toArray=k6 q (fun i=>fl (l.drop (8+4*i))) 0:=fun q=>rfl;refine oG u 0 rfl (k6 (wrap .u64 (wrap .u64 (fl l)*2^32)) (fun i=>fl (l.drop (8+4*i))) 0) ?_ rfl ?_ fun w5 u _=>?_;rw[G 0];exact qxG;exact zO rfl;refine oA u.drew 0 rfl (wrap .u64 (wrap .u64 (fl l)*2^32)) rfl<|vh u.drew 2 rfl h1 (by rw[yC];omega) fun s2 w6 U u=>ig (u.cell (off:=0) 0 rfl rfl)<|oG u 0 rfl (k6 (iq l) (fun i=>fl (l.drop (8+4*i))) 0) qxG rfl (zO rfl) fun w7 u _=>?_;rw[xD] at U;refine vh u 2 rfl U (by rw[yC];omega) fun s3 w8 V u=>oG u 0 rfl (k6 (iq l) (fun i=>fl (l.drop (8+4*i))) 1) (xi oM) rfl (by show 1+1<=_;rw[Ah oM];decide) fun w9 u _=>?_;rw[xD] at V;refine vh u 2 rfl V (by rw[yC];omega) fun s4 ak h4 u=>oG u 0 rfl (k6 (iq l) (fun i=>fl (l.drop (8+4*i))) 2) (xi oM) rfl (by show 2+1<=_;rw[Ah oM];decide) fun al u _=>?_;rw[xD] at h4;refine vh u 2 rfl h4 (by rw[yC];omega) fun s5 an h5 u=>oG u 0 rfl (k6 (iq l) (fun i=>fl (l.drop (8+4*i))) 3) (xi oM) rfl (by show 3+1<=_;rw[Ah oM];decide) fun ao u _=>?_;rw[xD] at h5;refine iU (fun x w'=>∃(i:Nat) (I:Sl),x=i/\i<=8/\eh [] w I (l.drop (20+12*i))/\
   dQ [] w w' [(E,.cells (k6 (iq l) (fun i=>fl (l.drop (8+4*i))) (3+3*i)) 185 (0,0)),(r3,.cells (eT 0 (zs 27)).toArray 185 (0,0)),(r1,.cells #[I.v] 101 (0,0))]) (fun x _=>(8-x).toNat)
  ⟨0,s5,rfl,oJ,h5,u⟩ ?_
 rintro x ap ⟨i,I,rfl,aq,hx,u⟩ X hX;apply cD<;>intro J;have hi:i<8:=oJ;refine mP ⟨oJ,oJ⟩ ?_;simp only[Addr.q9];have av:Int.toNat (i:Int)=i:=oJ;refine vh u 2 rfl hx (by rw[yC];omega) fun s6 C h6 u=>?_;show Pt.st ⟨E,4+Int.toNat (i:Int)*3+0,none⟩ _ _ _;refine oG u 0 rfl (k6 (iq l) (fun i=>fl (l.drop (8+4*i))) (3+3*i+1)) ?_ rfl ?_ fun aw u _=>?_;rw[show 20+12*i=8+4*(3+3*i) by omega,show 4+Int.toNat (i:Int)*3+0=(3+3*i)+1 by omega];exact xi (f:=fun i=>fl (l.drop (8+4*i))) oJ;rw[Ah oJ];show _+1<=28;omega;rw[xD] at h6;refine vh u 2 rfl h6 (by rw[yC];omega) fun s7 ax h7 u=>?_;show Pt.st ⟨E,0+4+Int.toNat (i:Int)*3+1,none⟩ _ _ _;refine oG u 0 rfl (k6 (iq l) (fun i=>fl (l.drop (8+4*i))) (3+3*i+2)) ?_ rfl ?_ fun ay u _=>?_;rw[show 20+12*i+4=8+4*(3+3*i+1) by omega];show dR _ (0+4+Int.toNat (i:Int)*3+1) _=_;rw[show 0+4+Int.toNat (i:Int)*3+1=(3+3*i+1)+1 by omega];exact xi (f:=fun i=>fl (l.drop (8+4*i))) oJ;rw[Ah oJ];show 0+4+Int.toNat (i:Int)*3+1+1<=28;omega;rw[xD] at h7;refine vh u 2 rfl h7 (by rw[yC];omega) fun s8 aA h8 u=>?_;show Pt.st ⟨E,0+4+Int.toNat (i:Int)*3+2,none⟩ _ _ _;refine oG u 0 rfl (k6 (iq l) (fun i=>fl (l.drop (8+4*i))) (3+3*i+3)) ?_ rfl ?_ fun aB u _=>?_;rw[show 20+12*i+4+4=8+4*(3+3*i+2) by omega];show dR _ (0+4+Int.toNat (i:Int)*3+2) _=_;rw[show 0+4+Int.toNat (i:Int)*3+2=(3+3*i+2)+1 by omega];exact xi (f:=fun i=>fl (l.drop (8+4*i))) oJ;rw[Ah oJ];show 0+4+Int.toNat (i:Int)*3+2+1<=28;omega;rw[xD] at h8;rw[gg _ oJ];refine hX _ _ ⟨i+1,s8,oL,oJ,?_,?_⟩ oJ;rw[show 20+12*(i+1)=20+12*i+4+4+4 by omega];exact h8;rw[show 3+3*(i+1)=3+3*i+3 by omega];exact u;obtain rfl:i=8:=by omega
 rw[show 3+3*8=27 from rfl,qxF] at u;refine nJ (u.at (i:=0) rfl) (eT (iq l) (lw l)) (pE (td l)) (by rw[xF];exact zS (Nat.le_of_eq (pE (td l))))<|mP (pE (td l))<|oG u 1 rfl (eT (iq l) (lw l)).toArray ?_ (Cx _ _) ?_ fun C u _=>?_;apply Array.ext';rw[pN _ _ _ (by rw[pE (td l)];decide),pE (td l),take_zero,xI,drop_of_length_le oM,xH];rw[pE (td l)];decide;exact nJ (u.at (i:=1) rfl) (eT (iq l) (lw l)) (pE (td l)) (by rw[xF];exact zS (Nat.le_of_eq (pE (td l))))<|hk C u.fr
def tC:((prog.info? 185).bind (·.zero)).map (fun z=>z.cells.toList)=some (eT 0 (zs 27)):=by kernel_rfl
def qvQ{P:Program}{t:TypeId}{z:Value}{offs:Array (Nat×Nat)}(u:(P.info? t).bind (·.zero)=some z)(C:P.underlying t=some (.struct (fieldsOf P t)))(h:∀w,((fieldsOf P t).mapM fun f=>do pure (f.offset,<- sizeOf f.type):Sem (Array (Nat×Nat))).run P w=.ok offs w)(w:World): (Instr.build t #[]).run P w=.ok (.agg z.cells) w:=by simp only[Instr.build,Sem.run_bind,uG u,Result.andThen_ok,run_underlying C,h,Instr.fill,Sem.run_pure]
def xp{K:List Value->Prop}(k:K (eT 0 (zs 27))):eW [gN.kF] (fun w'=>(Instr.build 185 #[]).run prog w') w K:=by
 obtain⟨z,u,h⟩:=yT.1 tC;refine qm (ts:=[gN.kF]) (eT 0 (zs 27)) ?_ k
 have:=qvQ (P:=prog) (t:=185) (offs:=#[(0,1),(1,1),(2,1),(3,1),(4,24)]) u oK (fun w=>oK) w
 rw[this];show Result.ok (Value.agg z.cells) w=.ok (Value.agg (eT 0 (zs 27)).toArray) w;rw[<- h]
def kj{vs:List Value}(h:vs.length=cs.size):dR cs 0 vs=vs.toArray:=by apply Array.ext';rw[pN _ _ _ oJ,take_zero,xI,drop_of_length_le (by rw[Array.length_toList];omega),xH]
def CU(h:t.length=27):(eT q t).toArray.size=28:=by rw[size_toArray];exact pE h
def uL{u:Nat×Nat}{K:List Value->Prop}(C:w.heap[r]?=some (.cells (eT q t).toArray T u))(h:t.length=27)(k:K (eT q t)):ij 28 (dg r) w K:=
 nJ C (eT q t) (pE h) (by rw[xF,zS (Nat.le_of_eq (pE h))]) k
def Aa{G:Int}{C:List Int}{K:WP}(I:dQ [] w0 w L)(i:Nat)(hi:L[i]?=some (r,.cells (eT G C).toArray T (0,0)))(E:C.length=27)(h:t.length=27)(J:∀w',dQ [] w0 w' (L.set i (r,.cells (eT q t).toArray T (0,0)))->K w'):gF ((eT q t).length=28) (st (dg r) (eT q t) w K):=by refine mP (pE h)<|oG I i hi (eT q t).toArray (kj (by rw[CU E,pE h])) (Cx _ _) (by rw[CU E,pE h];decide) fun w' u _=>J w' u
def t9{I:Int}{E:List Int}{K:List Value->WP}(J:dQ [] w0 w L)(i:Nat)(hi:L[i]?=some (r,.cells (eT I E).toArray T (0,0)))(R:E.length=27)(G:t.length=27)(U:∀w',Fr [] w0 w'->K (eT q t) w'):gF ((eT q t).length=28) (st (dg r) (eT q t) w fun w'=>ij 28 (dg r) w' fun vs=>K vs w'):=by
 refine Aa J i hi R G fun w' u=>?_;have C:i<L.length:=by rcases Nat.lt_or_ge i L.length with h|h;exact h;rw[yS h] at hi;cases hi
 exact uL (u.at (i:=i) (by rw[List.getElem?_set_self C])) G (U w' u.fr)
abbrev nC:=Int×List Int
def gx:nC:=(0,zs 27)
def eY (place:Int) (l:List Int):nC×Int:=
 if (eU place l).2.2≠0 then (gx,(eU place l).2.2)
 else if (eU place l).1≠1\/(eU place l).2.1.length≠116 then (gx,2)
 else if Int.tmod (iq (eU place l).2.1) 2≠place then (gx,2)
 else ((iq (eU place l).2.1,lw (eU place l).2.1),0)
def v9(place:Int)(l:List Int):(eY place l).1.2.length=27:=by unfold eY;split<;>(try rfl);split<;>(try rfl);split<;>rfl
def gP (a b:List Int):nC×Int:=
 if (eY 0 a).2≠0/\(eY 1 b).2≠0 then (gx,5)
 else if (eY 0 a).2≠0\/((eY 1 b).2=0/\(eY 1 b).1.1>(eY 0 a).1.1) then ((eY 1 b).1,0)
 else ((eY 0 a).1,0)
def qmi(a b:List Int):(gP a b).1.2.length=27:=by unfold gP;split<;>(try rfl);split<;>exact v9 _ _
def qrv{place:Int}{K:List Value×Int->WP}(h:eh S w s l)(hv:Hv w)(hB:eF l)(hl:l.length<=100000)(U:place=0\/place=1)(hk:∀w',Fr [] w w'->K (eT (eY place l).1.1 (eY place l).1.2,(eY place l).2) w'): cW 210 [.i place,s.v] dB w K:=by
 refine qq8<|oI (oE [] w) tC fun r1 w1 e1 u=>?_;have V:wrap .u32 place=place:=by rcases U with rfl|rfl<;>kernel_rfl
 have aa:wrap .u64 place=place:=by rcases U with rfl|rfl<;>kernel_rfl
 rw[V,aa];refine gW (fun b w'=>b=false/\w'=w1) ?_ ?_;rcases U with rfl|rfl;exact cond_false rfl ⟨rfl,rfl⟩;exact cond_true rfl ⟨rfl,rfl⟩;rintro b w2 ⟨rfl,rfl⟩;refine cond_false rfl ?_;have E:∀ {e:Int} {w':World},eY place l=(gx,e)->Fr [] w w'->K (eT 0 (zs 27),e) w':=by
  intro e w' G hf
  have:=hk w' hf
  rw[G] at this;exact this
 refine EB (h.q7 u.fr) (hv.q7 u.fr) hB hl fun s3 B3 w3 b3 f3 n3=>?_;have u:=u.q7 f3;apply dW<;>intro C;have G:(eU place l).2.2≠0:=(oP C);exact xp<|t9 u 0 rfl rfl rfl fun w4 f4=>E (by rw[eY,if_pos G]) f4;have G:¬(eU place l).2.2≠0:=(oP C);refine gW (fun b w'=>b=decide ((eU place l).1≠1\/(eU place l).2.1.length≠116)/\w'=w3) ?_ ?_;apply dW<;>intro C;have R:(eU place l).1≠1:=(oP C);exact⟨by simp[R],rfl⟩;have R:(eU place l).1=1:=(oP C);have ab:s3.len=(eU place l).2.1.length:=b3.len;refine⟨?_,rfl⟩;dsimp only;rw[ab];by_cases hx:(eU place l).2.1.length=116;rw[hx];simp[R];have:¬(((eU place l).2.1.length:Int)=116):=oJ;simp[R,hx,this];rintro b w4 ⟨rfl,rfl⟩;apply dW<;>intro C;exact xp<|t9 u 0 rfl rfl rfl fun w5 f5=>E (by rw[eY,if_neg G,if_pos (zC C)]) f5;have I:=zB C;have J:(eU place l).2.1.length=116:=by rcases Nat.decEq (eU place l).2.1.length 116 with h|h;exact absurd (Or.inr h) I;exact h
 have ad:=b3.jo (S:=[]) kW oL;refine qwh ad J fun w5 f5=>?_;have u:=u.q7 f5;refine oI u tC fun r6 w6 e6 u=>Aa u 0 rfl rfl (td _) fun w7 u=>oA u 0 rfl (iq (eU place l).2.1) rfl ?_;apply dW<;>intro C;have hq:Int.tmod (iq (eU place l).2.1) 2≠place:=(oP C);exact xp<|t9 u 1 rfl rfl rfl fun w8 f8=>E (by rw[eY,if_neg G,if_neg I,if_pos hq]) f8;have hq:¬Int.tmod (iq (eU place l).2.1) 2≠place:=(oP C);refine uL (u.at (i:=0) rfl) (td _)<|t9 u 1 rfl rfl (td _) fun w8 f8=>?_
 have:=hk w8 f8
 rw[eY,if_neg G,if_neg I,if_neg hq] at this;exact this
def quX{sa sb:Sl}{a b:List Int}{K:List Value×Int->WP}(ha:eh S w sa a)(hb:eh S w sb b)(hv:Hv w)(J:eF a)(R:eF b)(U:a.length<=100000)(V:b.length<=100000)(hk:∀w',Fr [] w w'->K (eT (gP a b).1.1 (gP a b).1.2,(gP a b).2) w'): cW 174 [sa.v,sb.v] dB w K:=by
 refine qoG<|oI (oE [] w) tC fun r1 w1 e1 h=>qrv (ha.q7 h.fr) (hv.q7 h.fr) J U (.inl rfl) fun w2 f2=>?_;have h:=h.q7 f2;refine oI h tC fun r3 w3 e3 h=>Aa h 0 rfl rfl (v9 _ _) fun w4 h=>qrv (hb.q7 h.fr) (hv.q7 h.fr) R V (.inr rfl) fun w5 f5=>?_;have h:=h.q7 f5;refine oI h tC fun r6 w6 e6 h=>Aa h 0 rfl rfl (v9 _ _) fun w7 h=>gW (fun c w'=>c=decide ((eY 0 a).2≠0/\(eY 1 b).2≠0)/\w'=w7) ?_ ?_;apply dW<;>intro u;have C:(eY 0 a).2≠0:=(oP u);refine⟨?_,rfl⟩;by_cases I:(eY 1 b).2=0<;>simp[C,I];have C:(eY 0 a).2=0:=(oP u);exact⟨by simp[C],rfl⟩;rintro c w8 ⟨rfl,rfl⟩;apply dW<;>intro u;refine xp<|t9 h 2 rfl rfl rfl fun w9 f9=>?_
 have:=hk w9 f9
 rw[gP,if_pos (zC u)] at this;exact this;have hn:=zB u;refine gW (fun c w'=>c=decide ((eY 0 a).2≠0\/((eY 1 b).2=0/\(eY 1 b).1.1>(eY 0 a).1.1))/\w'=w8) ?_ ?_;apply dW<;>intro u;have C:(eY 0 a).2≠0:=(oP u);exact⟨by simp[C],rfl⟩;have C:(eY 0 a).2=0:=(oP u);apply dW<;>intro u;have I:(eY 1 b).2=0:=(oP u);refine oA h 0 rfl (eY 1 b).1.1 rfl<|oA h 1 rfl (eY 0 a).1.1 rfl<|⟨?_,rfl⟩;by_cases h3:(eY 1 b).1.1>(eY 0 a).1.1<;>simp[C,I,h3];have I:(eY 1 b).2≠0:=(oP u);exact⟨by simp[C,I],rfl⟩;rintro c w9 ⟨rfl,rfl⟩;apply cD<;>intro u;refine uL (h.at (i:=0) rfl) (v9 _ _)<|t9 h 2 rfl rfl (v9 _ _) fun E G=>?_
 have:=hk E G
 rw[gP,if_neg hn,if_pos (u)] at this;exact this;refine uL (h.at (i:=1) rfl) (v9 _ _)<|t9 h 2 rfl rfl (v9 _ _) fun E G=>?_
 have:=hk E G
 rw[gP,if_neg hn,if_neg (u)] at this;exact this
abbrev rB:TypeId:=191
abbrev BB:TypeId:=187
def look {β:Type} (n:Int):List (Int×β)->Option (Nat×β)
 | []=>none
 | p::r=>if n=p.1 then some (0,p.2) else (look n r).map fun q=>(q.1+1,q.2)
def gL {β:Type} (n:Int) (v:β) (l:List (Int×β)):List (Int×β):=match look n l with|some q=>l.set q.1 (n,v)|none=>l++[(n,v)]
def jk {β:Type} (n:Int) (l:List (Int×β)):List (Int×β):=match look n l with|some q=>l.eraseIdx q.1|none=>l
def vp{β γ:Type}(g:β->γ)(n:Int):∀l:List (Int×β),look n (l.map fun e=>(e.1,g e.2))=(look n l).map fun q=>(q.1,g q.2)
 | []=>rfl
 | p::r=>by simp only[xO,look];by_cases h:n=p.1;simp[h];rw[if_neg h,if_neg h,vp g n r];cases look n r<;>rfl
def wW(n:Int):∀l:List (Int×Value),posOf n l=look n l
 | []=>rfl
 | p::r=>by simp only[posOf,look,wW n r]
def sS{β:Type}{n:Int}:∀ {l:List (Int×β)} {q:Nat×β},look n l=some q->l[q.1]?=some (n,q.2)/\(n,q.2)∈l
 | p::r,q,h=>by simp only[look] at h;by_cases hp:n=p.1;rw[if_pos hp] at h;cases h;subst hp;exact⟨rfl,oL⟩;rw[if_neg hp] at h;obtain⟨x,u,rfl⟩:=yT.1 h;obtain⟨C,E⟩:=sS u;exact⟨by simpa using C,zN _ E⟩
def uh{β:Type}{n:Int}:∀ {l:List (Int×β)},look n l=none↔n∉l.map (·.1)
 | []=>by simp[look]
 | p::r=>by simp only[look,xO,zG,not_or];by_cases hp:n=p.1;simp[hp];rw[if_neg hp,Option.map_eq_none_iff,uh (l:=r)];simp[hp]
def BX{β γ:Type}(g:β->γ)(n:Int)(v:β)(l:List (Int×β)):(gL n v l).map (fun e=>(e.1,g e.2))=gL n (g v) (l.map fun e=>(e.1,g e.2)):=by
 unfold gL;rw[vp];cases look n l with
 | none=>simp
 | some q=>simp[map_set]
def qrL{β γ:Type}(g:β->γ)(n:Int)(l:List (Int×β)):(jk n l).map (fun e=>(e.1,g e.2))=jk n (l.map fun e=>(e.1,g e.2)):=by
 unfold jk;rw[vp];cases look n l with
 | none=>rfl
 | some q=>simp only[Option.map_some];exact uN _ l q.1
def CD{β:Type}{v:β}{l:List (Int×β)}{e:Int×β}(h:e∈gL n v l):e∈l\/e=(n,v):=by unfold gL at h;split at h;exact mem_or_eq_of_mem_set h;rcases zD.1 h with h|h;exact .inl h;exact .inr (oP h)
def qsi{β:Type}{l:List (Int×β)}{e:Int×β}(h:e∈jk n l):e∈l:=by unfold jk at h;split at h;exact mem_of_mem_eraseIdx h;exact h
def Eb{t et:TypeId}{v:Value}(ht:prog.underlying t=some (.map 63 et)){b:Nat}(h:i4 jh w b f)(x:Int): ∃o,(Instr.mapUpdate t (.map (some b)) (jh x) v).run prog w=.ok () (gR w b o)/\i4 jh (gR w b o) b (gL x v f):=by
 have K:=uQ;cases I:posOf x f with
 | none=>
  obtain⟨o,J,h2⟩:=i4.new ht K h x (v:=v) I;refine⟨o,J,?_⟩;rw[wW] at I;rw[gL,I];exact h2
 | some q=>
  obtain⟨C,c,U,he,hs,hc⟩:=h;have V:=I;rw[wW] at V;obtain⟨J,_⟩:=sS V;have G:=he;simp only[mw] at G;have hi:C[q.1]?.map (·.key)=some (jh x):=by
   have:=congrArg (·[q.1]?) G
   simp only[zQ,J,Option.map_some] at this;rw[<- xL];cases E:C.toList[q.1]? with
   | none=>rw[E] at this;cases this
   | some e=>rw[E] at this;simp at this;simp[this.1]
  refine⟨.map (C.modify q.1 fun e=>{ e with key:=jh x,val:=v }) c,?_,C.modify q.1 fun e=>{ e with key:=jh x,val:=v },c,?_,?_,?_,?_⟩;simp[Instr.mapUpdate,run_underlying ht,Go.MapKept.run_getObj_map U,K.check,tH K he,I,hi,Instr.keyThatStays,Instr.sameBits,Go.MapKept.run_setObj_map _ U];rfl;rw[om _ _ _ _ (eZ U),if_pos rfl];rw[gL,V];show ((C.modify q.1 _).toList).map _=(f.set q.1 (x,v)).map _;rw[Array.toList_modify];apply ext_getElem?;intro j;have u:=congrArg (·[j]?) G;simp only[zQ] at u;rw[zQ,zQ,List.getElem?_modify,List.getElem?_set];by_cases hqj:q.1=j;subst hqj;have aa:=(zP.1 J).1;rw[J] at u;cases E:C.toList[q.1]? with
  | none=>rw[E] at u;cases u
  | some e=>simp[aa]
  simp only[hqj,if_false];rw[<- u];cases C.toList[j]?<;>rfl;have e:(C.modify q.1 fun e=>{ e with key:=jh x,val:=v }).toList.map (·.born)=C.toList.map (·.born):=by rw[Array.toList_modify];apply ext_getElem?;intro j;rw[zQ,zQ,List.getElem?_modify];by_cases hqj:q.1=j;subst hqj;cases C.toList[q.1]?<;>simp;simp[hqj]
  rw[e];exact hs;intro e R;rw[Array.toList_modify] at R;obtain⟨j,u⟩:=mem_iff_getElem?.1 R;rw[List.getElem?_modify] at u;by_cases hqj:q.1=j;subst hqj;cases E:C.toList[q.1]? with
  | none=>rw[E] at u;simp at u
  | some e0=>
   rw[E] at u;simp at u;subst u;exact hc e0 (yF E)
  simp[hqj] at u;exact hc e (yF (by rw[xL];exact u))
section
structure dY where
 j9:nC
 Q5:List Int
 Q9:List Int
 x6:Int
 Q3:Bool
 Q1:List Int
 J7:List Int
 J8:List (Int×Int×List Int)
 Q2:List Int
abbrev kY:=Int×Sl×List Int
def lg (x:kY):Value:=.agg #[.b x.1,x.2.1.v]
def mN (sl sn:Sl) (x6:Int) (Q3:Bool) (fb defb mb:Nat):List Value:=
 [sl.v,sn.v,.i x6,.bool Q3,dF fb,dF defb,.map (some mb)]
def fL (db:Option Addr) (j9:nC) (sl sn:Sl) (x6:Int) (Q3:Bool) (fb defb mb:Nat) (Q2:List Int):Array Value:=
 ((.pointer db::eT j9.1 j9.2)++mN sl sn x6 Q3 fb defb mb++Q2.map (Value.int .u32)).toArray
section
variable {db:Option Addr} {j9:nC} {sl sn:Sl} {x6:Int} {Q3:Bool} {fb defb mb:Nat} {Q2:List Int}
def se(h:j9.2.length=27):(Value.pointer db::eT j9.1 j9.2).length=29:=by rw[yI,pE h]
def qup(h:j9.2.length=27):(fL db j9 sl sn x6 Q3 fb defb mb Q2).size=36+Q2.length:=by rw[fL,size_toArray,zF,zF,se h,zK];rfl
def Cv:(fL db j9 sl sn x6 Q3 fb defb mb Q2)[0]?=some (.pointer db):=rfl
def qxf:(fL db j9 sl sn x6 Q3 fb defb mb Q2)[1]?=some (.int .u64 j9.1):=rfl
def Gx(C:j9.2.length=27)(n:Nat)(h:n<27):(fL db j9 sl sn x6 Q3 fb defb mb Q2)[n+2]?=some (.u (j9.2.getD n 0)):=by
 rw[fL,List.getElem?_toArray,zV,yZ (by rw[se C];omega),List.getElem?_cons_succ]
 have:=AC (q:=j9.1) (t:=j9.2) n oJ
 rw[List.getElem?_toArray] at this;exact this
def yc(u:j9.2.length=27)(j:Nat)(h:j<7):(fL db j9 sl sn x6 Q3 fb defb mb Q2)[29+j]?=(mN sl sn x6 Q3 fb defb mb)[j]?:=by rw[fL,List.getElem?_toArray,zV,yY (by rw[se u];omega),se u,vD,yZ (by exact h)]
def FR(h:j9.2.length=27):(fL db j9 sl sn x6 Q3 fb defb mb Q2)[29]?=some sl.v:=yc h 0 oM
def qyH(h:j9.2.length=27):(fL db j9 sl sn x6 Q3 fb defb mb Q2)[30]?=some sn.v:=yc h 1 oM
def yh(h:j9.2.length=27):(fL db j9 sl sn x6 Q3 fb defb mb Q2)[32]?=some (.bool Q3):=yc h 3 oM
def yw(h:j9.2.length=27):(fL db j9 sl sn x6 Q3 fb defb mb Q2)[33]?=some (dF fb):=yc h 4 oM
def DC(h:j9.2.length=27):(fL db j9 sl sn x6 Q3 fb defb mb Q2)[34]?=some (dF defb):=yc h 5 oM
def sO(h:j9.2.length=27):(fL db j9 sl sn x6 Q3 fb defb mb Q2)[35]?=some (.map (some mb)):=yc h 6 oM
end
structure Rows (F:List Nat) (w:World) (sl sn:Sl) (Q5 Q9:List Int) (fs:List (Int×kY)):Prop where
 Q5:Rd F w sl Q5
 Q9:Rd F w sn Q9
 y7:∀ e∈fs,eh F w e.2.2.1 e.2.2.2
def Rows.q8{F F':List Nat}{w w':World}{sl sn:Sl}{Q5 Q9:List Int}{C:List (Int×kY)}(h:Rows F w sl sn Q5 Q9 C)(f:Fr F w w')(u:∀b∈F',b∈F\/w.heap.size<=b):Rows F' w' sl sn Q5 Q9 C:=
 ⟨h.Q5.q8 f u,h.Q9.q8 f u,fun e E=>(h.y7 e E).q8 f u⟩
structure nE (w:World) (X:List Nat) (pb:Nat) (db:Option Addr) (M:dY) (fb defb mb:Nat) (sl sn:Sl) (F1 F2:List Nat) (fs:List (Int×kY)):Prop where
 cell:w.heap[pb]?=some (.cells (fL db M.j9 sl sn M.x6 M.Q3 fb defb mb M.Q2) rB (0,0))
 Q1:gJ w fb F1 M.Q1
 J7:gJ w defb F2 M.J7
 map:i4 jh w mb (fs.map fun e=>(e.1,lg e.2))
 J8:M.J8=fs.map fun e=>(e.1,e.2.1,e.2.2.2)
 rows:Rows (X++pb::mb::(F1++F2)) w sl sn M.Q5 M.Q9 fs
 og:∀ b∈X,b<w.heap.size
 mo:∀ b∈X,b∉pb::mb::(F1++F2)
 sep:pb≠mb/\(∀ b∈F1,b≠pb/\b≠mb/\b∉F2)/\(∀ b∈F2,b≠pb/\b≠mb)
 Q8:M.j9.2.length=27
 x7:M.Q2.length=24
def eG (w:World) (X:List Nat) (pb:Nat) (db:Option Addr) (F:List Nat) (M:dY):Prop:=
 ∃fb defb mb sl sn h F2 u,F=pb::mb::(h++F2)/\nE w X pb db M fb defb mb sl sn h F2 u
def nE.cV{M:dY}{u:List (Int×kY)}(h:nE w X pb db M fb defb mb sl sn F1 F2 u):mb<w.heap.size:=by exact h.map.lt
def nE.lt{w:World}{X:List Nat}{pb:Nat}{db:Option Addr}{M:dY}{fb defb mb:Nat}{sl sn:Sl}{F1 F2:List Nat}{C:List (Int×kY)}(h:nE w X pb db M fb defb mb sl sn F1 F2 C):∀b∈pb::mb::(F1++F2),b<w.heap.size:=by intro b u;rcases zG.1 u with rfl|u;exact eZ h.cell;rcases zG.1 u with rfl|u;exact h.cV;rcases zD.1 u with u|u;exact h.Q1.lt b u;exact h.J7.lt b u
def eG.lt{w:World}{X:List Nat}{pb:Nat}{db:Option Addr}{F:List Nat}{M:dY}(h:eG w X pb db F M):∀b∈F,b<w.heap.size:=by obtain⟨fb,defb,mb,sl,sn,C,F2,E,rfl,u⟩:=h;exact u.lt
def nE.q8{w w':World}{S X:List Nat}{pb:Nat}{db:Option Addr}{M:dY}{fb defb mb:Nat}{sl sn:Sl}{F1 F2:List Nat}{E:List (Int×kY)}(h:nE w X pb db M fb defb mb sl sn F1 F2 E)(f:Fr S w w')(C:∀b∈pb::mb::(F1++F2),b∉S)(G:Rows (X++pb::mb::(F1++F2)) w' sl sn M.Q5 M.Q9 E):nE w' X pb db M fb defb mb sl sn F1 F2 E where
 cell:=by rw[f.block pb (eZ h.cell) (C pb oL)];exact h.cell
 Q1:=h.Q1.q8 f fun b u=>C b (by simp[u])
 J7:=h.J7.q8 f fun b u=>C b (by simp[u])
 map:=h.map.q8 f (C mb oL)
 J8:=h.J8
 rows:=G
 og:=fun b u=>yD (h.og b u) f.size
 mo:=h.mo
 sep:=h.sep
 Q8:=h.Q8
 x7:=h.x7
def nE.q7{M:dY}{C:List (Int×kY)}(h:nE w X pb db M fb defb mb sl sn F1 F2 C)(f:Fr [] w w'):nE w' X pb db M fb defb mb sl sn F1 F2 C:=
 h.q8 f oL (h.rows.q8 (f.mono (fun b u=>by cases u)) (fun b u=>.inl u))
def eG.q7{w w':World}{X:List Nat}{pb:Nat}{db:Option Addr}{F:List Nat}{M:dY}(h:eG w X pb db F M)(f:Fr [] w w'):eG w' X pb db F M:=by obtain⟨fb,defb,mb,sl,sn,u,F2,C,rfl,E⟩:=h;exact⟨fb,defb,mb,sl,sn,u,F2,C,rfl,E.q7 f⟩
def CV{u:List Nat}(n1:∀b∈u,b∈F1\/w.heap.size<=b):∀b∈pb::mb::(u++F2),b∈pb::mb::(F1++F2)\/w.heap.size<=b:=fun b h=>by simp only[zG,zD] at h⊢;rcases h with h|h|h|h;exact .inl (.inl h);exact .inl (.inr (.inl h));rcases n1 b h with C|C;exact .inl (.inr (.inr (.inl C)));exact .inr C;exact .inl (.inr (.inr (.inr h)))
def FZ{u:List Nat}(n1:∀b∈u,b∈F2\/w.heap.size<=b):∀b∈pb::mb::(F1++u),b∈pb::mb::(F1++F2)\/w.heap.size<=b:=fun b h=>by simp only[zG,zD] at h⊢;rcases h with h|h|h|h;exact .inl (.inl h);exact .inl (.inr (.inl h));exact .inl (.inr (.inr (.inl h)));rcases n1 b h with C|C;exact .inl (.inr (.inr (.inr C)));exact .inr C
def Ad{F':List Nat}(n:∀b∈F',b∈F\/w.heap.size<=b):∀b∈X++F',b∈X++F\/w.heap.size<=b:=fun b u=>by rcases zD.1 u with h|h;exact .inl (zH _ h);rcases n b h with h|h;exact .inl (zI _ h);exact .inr h
def FY{F':List Nat}(C:∀b∈X,b<w.heap.size)(E:∀b∈X,b∉F)(n:∀b∈F',b∈F\/w.heap.size<=b):∀b∈X,b∉F':=fun b u h=>by
 rcases n b h with h|h;exact E b u h
 have:=C b u;omega
def nE.pU{M:dY}{C:List Nat}{I:List (Int×kY)}(h:nE w X pb db M fb defb mb sl sn F1 F2 I)(f:Fr F1 w w')(R:gJ w' fb C l)(E:∀b∈C,b∈F1\/w.heap.size<=b): nE w' X pb db { M with Q1:=l } fb defb mb sl sn C F2 I where
 cell:=by rw[f.block pb (eZ h.cell) (fun u=>(h.sep.2.1 pb u).1 rfl)];exact h.cell
 Q1:=R
 J7:=h.J7.q8 f fun b u G=>(h.sep.2.1 b G).2.2 u
 map:=h.map.q8 f (fun u=>(h.sep.2.1 mb u).2.1 rfl)
 J8:=h.J8
 rows:=h.rows.q8 (f.mono fun b u _=>by simp[u]) (Ad (CV E))
 og:=fun b u=>yD (h.og b u) f.size
 mo:=FY h.og h.mo (CV E)
 sep:=⟨h.sep.1,fun b u=>by rcases E b u with J|J;exact h.sep.2.1 b J;have V:=eZ h.cell;have l2:=h.cV;exact⟨oJ,oJ,fun U=>by have:=h.J7.lt b U;omega⟩,h.sep.2.2⟩
 Q8:=h.Q8
 x7:=h.x7
def nE.wl{M:dY}{C:List Nat}{J:List (Int×kY)}(h:nE w X pb db M fb defb mb sl sn F1 F2 J)(f:Fr F2 w w')(R:gJ w' defb C l)(G:∀b∈C,b∈F2\/w.heap.size<=b): nE w' X pb db { M with J7:=l } fb defb mb sl sn F1 C J where
 cell:=by rw[f.block pb (eZ h.cell) (fun u=>(h.sep.2.2 pb u).1 rfl)];exact h.cell
 Q1:=h.Q1.q8 f fun b u I=>(h.sep.2.1 b u).2.2 I
 J7:=R
 map:=h.map.q8 f (fun u=>(h.sep.2.2 mb u).2 rfl)
 J8:=h.J8
 rows:=h.rows.q8 (f.mono fun b u _=>by simp[u]) (Ad (FZ G))
 og:=fun b u=>yD (h.og b u) f.size
 mo:=FY h.og h.mo (FZ G)
 sep:=⟨h.sep.1,fun b u=>⟨(h.sep.2.1 b u).1,(h.sep.2.1 b u).2.1,fun U=>by
  rcases G b U with E|E;exact (h.sep.2.1 b u).2.2 E
  have:=h.Q1.lt b u;omega⟩,fun b u=>by
  rcases G b u with E|E;exact h.sep.2.2 b E;have V:=eZ h.cell;have l2:=h.cV;exact⟨oJ,oJ⟩⟩
 Q8:=h.Q8
 x7:=h.x7
def nE.rr{o:Obj}{M:dY}{I C:List (Int×kY)}(h:nE w X pb db M fb defb mb sl sn F1 F2 I)(R:i4 jh (gR w mb o) mb (C.map fun e=>(e.1,lg e.2)))(u:∀e∈C,e∈I\/eh (X++pb::mb::(F1++F2)) w e.2.2.1 e.2.2.2): nE (gR w mb o) X pb db { M with J8:=C.map fun e=>(e.1,e.2.1,e.2.2.2) } fb defb mb sl sn F1 F2 C:=by
 have f:Fr [mb] w (gR w mb o):=wX h.cV o;have J:Fr (X++pb::mb::(F1++F2)) w (gR w mb o):=f.mono fun b u _=>by simp only[zE] at u;subst u;simp
 have E:=h.rows.q8 J (F':=X++pb::mb::(F1++F2)) (fun b u=>.inl u);exact {
  cell:=by rw[f.block pb (eZ h.cell) (oP h.sep.1)];exact h.cell
  Q1:=h.Q1.q8 f fun b u=>by simpa using (h.sep.2.1 b u).2.1
  J7:=h.J7.q8 f fun b u=>by simpa using (h.sep.2.2 b u).2
  map:=R
  J8:=rfl
  rows:=⟨E.Q5,E.Q9,fun e U=>by rcases u e U with G|G;exact E.y7 e G;exact G.q8 J (fun b u=>.inl u)⟩
  og:=fun b u=>yD (h.og b u) f.size
  mo:=h.mo
  sep:=h.sep
  Q8:=h.Q8
  x7:=h.x7 }
def eG.oT{X':List Nat}{M:dY}(h:eG w X pb db F M)(f:Fr X w w')(C:∀b∈X',b<w'.heap.size)(G:∀b∈X',b∈X\/w.heap.size<=b):eG w' X' pb db F M:=by
 obtain⟨fb,defb,mb,sl,sn,I,F2,R,rfl,h⟩:=h;have U:∀b∈pb::mb::(I++F2),b∉X:=fun b u C=>h.mo b C u;have E:=h.q8 (w':=w') f U (h.rows.q8 (f.mono fun b u _=>zH _ u) (fun b u=>.inl u));refine⟨fb,defb,mb,sl,sn,I,F2,R,rfl,{ E with rows:=h.rows.q8 (f.mono fun b u _=>zH _ u) (fun b u=>?_),og:=C,mo:=fun b u J=>?_ }⟩;rcases zD.1 u with u|u;rcases G b u with u|u;exact .inl (zH _ u);exact .inr u;exact .inl (zI _ u);rcases G b u with u|u;exact h.mo b u J
 have:=h.lt b J;omega
def eG.sep{M:dY}(h:eG w X pb db F M):∀b∈X,b∉F:=by obtain⟨fb,defb,mb,sl,sn,u,F2,C,rfl,h⟩:=h;exact h.mo
end
section
def qxP(h:Rd S w s l)(U:l.length<=1000000)(I:∀x:Int,(decide (x>=0)=decide (n∈l))->K x w): cW 227 [s.v,.u n] di w K:=by refine qoA ?_;have J:=h.1;refine iU (fun x w'=>w'=w/\∃i:Nat,x=i/\i<=l.length/\n∉l.take i) (fun x _=>((l.length:Int)-x).toNat) ⟨rfl,0,rfl,oJ,oL⟩ ?_;rintro x w' ⟨rfl,i,rfl,V,C⟩ X R;apply dW<;>intro E;have G:i<l.length:=(by have:=zC E;omega);refine Rd.at h i rfl (zA G) ?_;apply dW<;>intro E;have e:n=l[i]:=(oP E);refine I _ ?_;rw[yA (show (i:Int)>=0 by omega),yA (by rw[e];exact zX G)];have e:n≠l[i]:=(oP E);rw[gg _ oJ];refine R _ _ ⟨rfl,i+1,oL,oJ,?_⟩ oJ;rw[yG G];simp only[zD,zE,not_or];exact⟨C,e⟩;have:i=l.length:=(by have:=zB E;omega);subst this;rw[xZ] at C;refine I _ ?_;rw[zU oM,zU C]
def qs5{K:Bool->WP}(h:Rd S w s l)(C:l.length<=1000000)(E:K (decide (n∈l)) w): cW 186 [s.v,.u n] dj w K:=by refine qkW<|qxP h C fun x G=>?_;rw[G];exact E
def qAK:∀w,(zeroValue 247).run prog w=.ok (.agg #[.b 0,.slice none 0 0]) w:=fun w=>by kernel_rfl
def xu:prog.underlying BB=some (.map 63 247):=by kernel_rfl
def Df{C:List (Int×kY)}{K:((Int×Sl)×Bool)->Prop}(h:kL jh w mb (C.map fun e=>(e.1,lg e.2)))(G:∀q,look n C=some q->K ((q.2.1,q.2.2.1),true))(I:look n C=none->K ((0,dG),false)): eW [gN.agg [Cell.int .u8,Cell.slice],gN.one Cell.bool] (fun w'=>(Instr.lookup BB (.map (some mb)) (.u n) true).run prog w') w K:=by
 have:=qsJ (P:=prog) xu qAK uQ h n
 rw[wW,vp] at this;cases E:look n C with
 | none=>
  rw[E] at this;exact qm (ts:=[gN.agg [Cell.int .u8,Cell.slice],gN.one Cell.bool]) ((0,dG),false) this (I E)
 | some q=>
  rw[E] at this;exact qm (ts:=[gN.agg [Cell.int .u8,Cell.slice],gN.one Cell.bool]) ((q.2.1,q.2.2.1),true) this (G q E)
section
variable {w:World} {X:List Nat} {pb:Nat} {db:Option Addr} {F:List Nat} {M:dY}
def qxV(h:eG w X pb db F M)(C:K M.Q1.length w):cW 129 [dF pb] di w K:=by obtain⟨fb,defb,mb,sl,sn,E,F2,G,rfl,u⟩:=h;refine qjT<|fv (iA u.cell (pW fb) (yw u.Q8) ?_);exact qtK u.Q1 C
def gc (M:dY) (n:Int):Bool:=!(decide (n<2)||decide (n>=M.j9.2.getD 0 0)||decide (n∈M.Q5)||decide (n∈M.Q1)||decide (n∈M.J7))&&(look n M.J8).isNone
def qrr{K:Bool->WP}(h:eG w X pb db F M)(hl:M.Q5.length<=1000000)(V:∀w',Fr [] w w'->K (gc M n) w'):cW 155 [dF pb,.u n] dj w K:=by
 obtain⟨fb,defb,mb,sl,sn,F1,F2,fs,rfl,C⟩:=h;refine qjX<|gW (fun b w'=>b=(decide (n<2)||decide (n>=M.j9.2.getD 0 0)||decide (n∈M.Q5)||decide (n∈M.Q1)||decide (n∈M.J7))/\w'=w) ?_ ?_;refine dW (fun E=>⟨by rw[E];rfl,rfl⟩) fun E=>fv ?_;simp only[Addr.q9];refine iA C.cell (M.j9.2.getD 0 0) (Gx C.Q8 0 oM)<|dW (fun G=>⟨by rw[E,G];rfl,by trivial⟩) fun G=>fv (iA C.cell sl (FR C.Q8) ?_);refine qs5 C.rows.Q5 hl<|dW (fun I=>⟨by rw[E,G,I];rfl,by trivial⟩) fun I=>fv (iA C.cell (pW fb) (yw C.Q8) ?_);refine GE C.Q1<|dW (fun J=>⟨by rw[E,G,I,J];rfl,by trivial⟩) fun J=>fv<|iA C.cell (pW defb) (DC C.Q8)<|GE C.J7 ⟨by rw[E,G,I,J];rfl,by trivial⟩;rintro b w' ⟨rfl,rfl⟩;have U:(look n M.J8).isNone=(look n fs).isNone:=by rw[C.J8,vp (fun x:kY=>(x.1,x.2.2))];cases look n fs<;>rfl
 apply dW<;>intro E
 have:=V w' (.refl _ _)
 rw[gc,E] at this;exact this;refine fv ?_;simp only[Addr.q9];refine iA C.cell (some mb) (sO C.Q8)<|Df C.map.at (fun q hq=>?_) (fun hq=>?_);refine oB (oE [] w') fun r w1 e1 f1 R=>oH R 0 rfl _ rfl rfl rfl fun w2 R _=>?_
 have:=V w2 R.fr
 rw[gc,E,U,hq] at this;exact this;refine oB (oE [] w') fun r w1 e1 f1 R=>oH R 0 rfl _ rfl rfl rfl fun w2 R _=>?_
 have:=V w2 R.fr
 rw[gc,E,U,hq] at this;exact this
def fZ (M:dY) (kind:Int) (body:List Int):(Int×Int)×dY:=
 if M.Q3 then ((0,7),M) else if body.length>500 then ((0,3),M) else
 match M.Q1 with
 | []=>((0,6),M)
 | n::r=>((n,0),{ M with Q1:=r,J8:=gL n (kind,body) M.J8 })
def qxT{kind:Int}{K:Int×Int->WP}(h:eG w X pb db F M)(hb:eh (X++F) w s body)(hl:body.length<=100000)(hf:M.Q1.length<=1000000)(hk:∀F' w',eG w' X pb db F' (fZ M kind body).2->Fr F w w'->(∀b∈F',b∈F\/w.heap.size<=b)->K (fZ M kind body).1 w'): cW 164 [dF pb,.b kind,s.v] dr w K:=by
 have h0:=h;obtain⟨fb,defb,mb,sl,sn,F1,F2,fs,rfl,hx⟩:=h;have hlen:=hb.1;refine qjR (p:=pW pb) (body:=s) ?_;have same:∀ {e:Int},fZ M kind body=((0,e),M)->K (0,e) w:=by
  intro e he
  have:=hk _ w (by rw[he];exact h0) (.refl _ _) (fun b hb=>.inl hb)
  rw[he] at this;exact this
 refine fv (iA (c:=.bool) hx.cell M.Q3 (yh hx.Q8) ?_);refine dW (fun hc=>same (by rw[fZ,if_pos hc])) (fun hc=>?_);have ho:¬M.Q3=true:=(by rw[hc];decide);apply cD<;>intro hc
 have:=hc
 exact same (by rw[fZ,if_neg ho,iP]);have hb5:¬body.length>500:=oJ;refine fv (iA (c:=.ptr) hx.cell (pW fb) (yw hx.Q8) ?_);refine qzu hx.Q1 hf fun F1' w1 hp1 f1 n1=>?_;have hx1:=hx.pU f1 hp1 n1;have fF:Fr (pb::mb::(F1++F2)) w w1:=f1.mono fun b hb _=>by simp[hb]
 have nF:=CV (w:=w) (pb:=pb) (mb:=mb) (F2:=F2) n1;cases hfr:M.Q1 with
 | nil=>
  have hmv:fZ M kind body=((0,6),M):=(by rw[fZ,if_neg ho,if_neg hb5,hfr]);rw[hfr] at hp1 hx1;refine cond_true rfl ?_;have hM:{ M with Q1:=(tD []).2 }=M:=(by show { M with Q1:=[] }=M;rw[<- hfr]);rw[hM] at hx1
  have:=hk _ w1 (by rw[hmv];exact⟨fb,defb,mb,sl,sn,F1',F2,fs,rfl,hx1⟩) fF nF
  rw[hmv] at this;exact this
 | cons n r=>
  have hmv:fZ M kind body=((n,0),{ M with Q1:=r,J8:=gL n (kind,body) M.J8 }):=(by rw[fZ,if_neg ho,if_neg hb5,hfr]);rw[hfr] at hp1 hx1;refine cond_false rfl<|fv ?_;simp only[Addr.q9];have c1:w1.heap[pb]?=_:=hx1.cell;refine iA (w:=w1.drew) (c:=.map) c1 (some mb) (sO hx.Q8) ?_;have hb1:eh (X++pb::mb::(F1'++F2)) w1.drew s body:=hb.q8 (fF.drew.mono fun b hb _=>zI _ hb) (Ad nF);refine Ag hb1 oJ fun s2 B2 w2 b2 f2 n2 _ _=>?_;have f12:Fr [] w1 w2:=((Fr.refl [] w1).drew).trans f2;have hx2:=hx1.q7 f12;refine ig (by show _=_;rw[ji hx2.cell];exact sO hx.Q8) ?_;obtain⟨o,hr,hm⟩:=Eb (v:=lg (kind,s2,body)) xu hx2.map n;refine B0 _ hr ?_;have hm':i4 jh (gR w2 mb o) mb ((gL n (kind,s2,body) fs).map fun e=>(e.1,lg e.2)):=(by rw[BX lg];exact hm);have hx3:=hx2.rr hm' fun e he=>by
   rcases CD he with h1|h1;exact .inl h1;subst h1;refine .inr (b2.jo kW fun b hb hb2=>?_);have l2:w1.heap.size<=b:=n2 b hb;rcases zD.1 hb2 with hb2|hb2
   have:=hx1.og b hb2;omega
   have:=hx1.lt b hb2;omega
  have hM:(gL n (kind,s2,body) fs).map (fun e=>(e.1,e.2.1,e.2.2.2))=gL n (kind,body) M.J8:=(by rw[hx.J8];exact BX (fun x:kY=>(x.1,x.2.2)) n (kind,s2,body) fs);rw[hM] at hx3;have f3:Fr (pb::mb::(F1++F2)) w (gR w2 mb o):=(fF.j8 f12 oL).j8 (wX hx2.cV o) fun b hb=>by simp only[zE] at hb;subst hb;exact .inl oL
  have:=hk _ (gR w2 mb o) (by rw[hmv];exact⟨fb,defb,mb,sl,sn,F1',F2,_,rfl,hx3⟩) f3 nF
  rw[hmv] at this;exact this
end
end
section
def nE.cJ{M:dY}{u:List (Int×kY)}(h:nE w X pb db M fb defb mb sl sn F1 F2 u)(n:Int):look n M.J8=(look n u).map fun q=>(q.1,q.2.1,q.2.2.2):=by rw[h.J8,vp (fun x:kY=>(x.1,x.2.2))]
section
variable {w:World} {X:List Nat} {pb:Nat} {db:Option Addr} {F:List Nat} {M:dY}
def jf (M:dY) (n kind:Int) (body:List Int):Int×dY:=
 if M.Q3 then (7,M) else match look n M.J8 with
 | none=>(10,M)
 | some _=>if body.length>500 then (3,M) else (0,{ M with J8:=gL n (kind,body) M.J8 })
def qzk{kind:Int}(h:eG w X pb db F M)(E:eh (X++F) w s body)(hl:body.length<=100000)(hk:∀w',eG w' X pb db F (jf M n kind body).2->Fr F w w'->K (jf M n kind body).1 w'): cW 163 [dF pb,.u n,.b kind,s.v] di w K:=by
 have h0:=h;obtain⟨fb,defb,mb,sl,sn,F1,F2,fs,rfl,G⟩:=h;have ap:=E.1;refine qkK ?_;have I:∀ {e:Int} {w':World},jf M n kind body=(e,M)->Fr [] w w'->K e w':=by
  intro e w' he hf
  have:=hk w' (by rw[he];exact h0.q7 hf) (hf.mono (fun b E=>by cases E))
  rw[he] at this;exact this
 have J:=G.cJ n;refine fv (iA G.cell M.Q3 (yh G.Q8) ?_);refine dW (fun V=>I (by rw[jf,if_pos V]) (.refl _ _)) (fun V=>?_);have ho:¬M.Q3=true:=(by rw[V];decide);refine fv ?_;simp only[Addr.q9];refine iA G.cell (some mb) (sO G.Q8)<|Df G.map.at (fun q hq=>?_) (fun hq=>?_);rw[hq] at J;refine oB (oE [] w) fun r w1 e1 f1 C=>oH C 0 rfl _ rfl rfl rfl fun w2 C _=>cond_false rfl ?_;apply cD<;>intro V
 have:=V
 exact I (by rw[jf,if_neg ho,J];dsimp only [Option.map_some];rw[iP]) C.fr;have al:¬body.length>500:=oJ;have ab:jf M n kind body=(0,{ M with J8:=gL n (kind,body) M.J8 }):=(by rw[jf,if_neg ho,J];dsimp only [Option.map_some];rw[if_neg al]);have aa:=G.q7 C.drew.fr;refine fv<|iA (w:=w2.drew) (c:=.map) aa.cell (some mb) (sO G.Q8)<|Ag (E.q7 C.drew.fr) oJ fun s2 B2 w3 b2 f2 n2 _ _=>?_;have ac:Fr [] w w3:=C.drew.fr.trans f2;have U:=G.q7 ac;refine ig (by show _=_;simp only[Addr.q9];rw[ji U.cell];exact sO G.Q8) ?_;obtain⟨o,hr,hm⟩:=Eb (v:=lg (kind,s2,body)) xu U.map n;refine B0 _ hr ?_;have am:i4 jh (gR w3 mb o) mb ((gL n (kind,s2,body) fs).map fun e=>(e.1,lg e.2)):=(by rw[BX lg];exact hm);have ad:=U.rr am fun e he=>by rcases CD he with h1|h1;exact .inl h1;subst h1;refine .inr (b2.jo kW fun b E R=>?_);have l2:w2.drew.heap.size<=b:=n2 b E;rcases zD.1 R with R|R;have:b<w2.heap.size:=aa.og b R;have:w2.drew.heap.size=w2.heap.size:=rfl;omega;have:b<w2.heap.size:=aa.lt b R;have:w2.drew.heap.size=w2.heap.size:=rfl;omega
 have hM:(gL n (kind,s2,body) fs).map (fun e=>(e.1,e.2.1,e.2.2.2))=gL n (kind,body) M.J8:=(by rw[G.J8];exact BX (fun x:kY=>(x.1,x.2.2)) n (kind,s2,body) fs);rw[hM] at ad;have f4:Fr (pb::mb::(F1++F2)) w (gR w3 mb o):=(ac.mono (T:=pb::mb::(F1++F2)) (fun b E=>by cases E)).j8 (wX U.cV o) fun b E=>by simp only[zE] at E;subst E;exact .inl oL
 have:=hk (gR w3 mb o) (by rw[ab];exact⟨fb,defb,mb,sl,sn,F1,F2,_,rfl,ad⟩) f4
 rw[ab] at this;exact this;rw[hq] at J;exact oB (oE [] w) fun r w1 e1 f1 C=>oH C 0 rfl _ rfl rfl rfl fun w2 C _=>cond_true rfl<|I (by rw[jf,if_neg ho,J];rfl) C.fr
def fk (M:dY) (n:Int):Int×dY:=
 if M.Q3 then (7,M) else match look n M.J8 with
 | some _=>(0,{ M with J8:=jk n M.J8,Q1:=ins n M.Q1 })
 | none=>if gc M n then (0,{ M with J7:=ins n M.J7 }) else (10,M)
def qxR(h:eG w X pb db F M)(hl:M.Q5.length<=1000000)(hf:M.Q1.length<=1000000)(hd:M.J7.length<=1000000)(hk:∀F' w',eG w' X pb db F' (fk M n).2->Fr F w w'->(∀b∈F',b∈F\/w.heap.size<=b)->K (fk M n).1 w'): cW 137 [dF pb,.u n] di w K:=by
 have h0:=h;obtain⟨fb,defb,mb,sl,sn,F1,F2,fs,rfl,I⟩:=h;refine qjQ ?_;have aa:∀ {e:Int} {w':World},fk M n=(e,M)->Fr [] w w'->K e w':=by
  intro e w' he hf
  have:=hk _ w' (by rw[he];exact h0.q7 hf) (hf.mono (fun b E=>by cases E)) (fun b E=>.inl E)
  rw[he] at this;exact this
 have J:=I.cJ n;refine fv (iA I.cell M.Q3 (yh I.Q8) ?_);refine dW (fun hc=>aa (by rw[fk,if_pos hc]) (.refl _ _)) (fun hc=>?_);have ho:¬M.Q3=true:=(by rw[hc];decide);refine fv ?_;simp only[Addr.q9];refine iA I.cell (some mb) (sO I.Q8)<|Df I.map.at (fun q hq=>?_) (fun hq=>?_);rw[hq] at J;refine oB (oE [] w) fun r w1 e1 f1 C=>oH C 0 rfl _ rfl rfl rfl fun w2 C _=>cond_true rfl ?_;have R:fk M n=(0,{ M with J8:=jk n M.J8,Q1:=ins n M.Q1 }):=(by rw[fk,if_neg ho,J];rfl);have U:=I.q7 C.fr;refine fv<|iA U.cell (some mb) (sO I.Q8) ?_;obtain⟨o,hr,hm⟩:=i4.del (ty:=0) xu uQ U.map n;refine Fv (ts:=[]) () _ hr ?_;have aq:i4 jh (gR w2 mb o) mb ((jk n fs).map fun e=>(e.1,lg e.2)):=by
  rw[qrL lg];rw[wW] at hm;unfold jk;cases hl:look n (fs.map fun e=>(e.1,lg e.2)) with
  | none=>rw[hl] at hm;exact hm
  | some q=>rw[hl] at hm;exact hm
 have G:=U.rr aq fun e he=>.inl (qsi he);have hM:(jk n fs).map (fun e=>(e.1,e.2.1,e.2.2.2))=jk n M.J8:=by rw[I.J8];exact qrL (fun x:kY=>(x.1,x.2.2)) n fs
 rw[hM] at G;have f3:Fr (pb::mb::(F1++F2)) w (gR w2 mb o):=(C.fr.mono (T:=pb::mb::(F1++F2)) (fun b E=>by cases E)).j8 (wX U.cV o) fun b E=>by simp only[zE] at E;subst E;exact .inl oL
 refine fv (iA G.cell (pW fb) (yw I.Q8) ?_);refine EP G.Q1 hf fun au w4 ac f4 n4=>?_;have ad:=G.pU f4 ac n4;have hs:w.heap.size<=(gR w2 mb o).heap.size:=by rw[tE];exact C.fr.size
 have:=hk _ w4 (by rw[R];exact⟨fb,defb,mb,sl,sn,au,F2,_,rfl,ad⟩) (f3.j8 f4 fun b E=>.inl (by simp[E])) fun b E=>by rcases CV n4 b E with h1|h1;exact .inl h1;exact .inr (zL hs h1)
 rw[R] at this;exact this;rw[hq] at J;refine oB (oE [] w) fun r w1 e1 f1 C=>oH C 0 rfl _ rfl rfl rfl fun w2 C _=>cond_false rfl<|qrr (h0.q7 C.fr) hl fun w3 f3=>?_;have V:=C.fr.trans f3;apply dW<;>intro hc;have hu:gc M n=false:=(oP hc);exact aa (by rw[fk,if_neg ho,J];show (if gc M n then _ else _)=_;rw[hu];rfl) V;have hu:gc M n=true:=(oP hc);have R:fk M n=(0,{ M with J7:=ins n M.J7 }):=by rw[fk,if_neg ho,J];show (if gc M n then _ else _)=_;rw[hu];rfl
 have G:=I.q7 V;refine fv (iA G.cell (pW defb) (DC I.Q8) ?_);refine EP G.J7 hd fun ax w4 ac f4 n4=>?_;have ad:=G.wl f4 ac n4
 have:=hk _ w4 (by rw[R];exact⟨fb,defb,mb,sl,sn,F1,ax,_,rfl,ad⟩) ((V.mono (T:=pb::mb::(F1++F2)) (fun b E=>by cases E)).j8 f4 fun b E=>.inl (by simp[E])) fun b E=>by rcases FZ n4 b E with h1|h1;exact .inl h1;exact .inr (zL V.size h1)
 rw[R] at this;exact this
end
end
def qE (e:MapEntry):Int:=match e.key with | .int _ n=>n|_=>0
def qyx{es:List MapEntry}(h:mw jh es f):es.map qE=f.map (·.1)/\∀e∈es,e.key=jh (qE e):=by
 induction es generalizing f with
 | nil=>cases f with
  | nil=>exact⟨rfl,oL⟩
  | cons p f=>simp[mw] at h
 | cons e es ih=>cases f with
  | nil=>simp[mw] at h
  | cons p f=>
   simp only[mw,xO,List.cons.injEq,Prod.mk.injEq] at h;obtain⟨⟨C,U⟩,G⟩:=h;obtain⟨I,J⟩:=ih G;have E:qE e=p.1:=(by unfold qE;rw[C]);refine⟨by rw[xO,xO,E,I],fun R u=>?_⟩;rcases zG.1 u with rfl|u;rw[E];exact C;exact J R u
def qqu{β:Type}{g:β->Nat}:∀ {l:List β} {e:β},(l.map g).Pairwise (· < ·)->e∈l->l.Perm (e::l.filter fun x=>!(g x==g e))
 | x::l,e,u,C=>by
  rw[xO,yJ] at u;rcases zG.1 C with rfl|C;have:(e::l).filter (fun x=>!(g x==g e))=l:=by
   rw[filter_cons_of_neg oL];exact filter_eq_self.2 fun y E=>by
    have:=u.1 (g y) (zZ E)
    have h:g y≠g e:=oJ;simp[h]
  rw[this];have G:=u.1 (g e) (zZ C);have h:g x≠g e:=oJ;rw[filter_cons_of_pos (by simp[h])];exact ((qqu u.2 C).cons x).trans (List.Perm.swap e x _)
def left (es:Array MapEntry) (seen:Array Nat):List MapEntry:=es.toList.filter fun e=>!seen.toList.contains e.born
def qw1{es:Array MapEntry}{seen:Array Nat}{e:MapEntry}(hs:(es.toList.map (·.born)).Pairwise (· < ·))(he:e∈es.toList)(hn:e.born∉seen.toList):(left es seen).Perm (e::left es (seen.push e.born)):=by have h1:left es (seen.push e.born)=(left es seen).filter fun x=>!(x.born==e.born):=(by rw[left,left,filter_filter];congr 1;funext x;rw[Array.toList_push];by_cases h:x.born=e.born<;>simp[h]);rw[h1];refine qqu (g:=fun x:MapEntry=>x.born) ?_ (mem_filter.2 ⟨he,by simpa using hn⟩);exact hs.sublist (filter_sublist.map _)
def seenAt (w:World) (u:Nat):Nat:=match w.heap[u]? with|some (.mapIter _ _ h _)=>h.size|_=>0
def qqG{C:Nat}{a:Option Nat}{b c:Nat}{u:Array Nat}(h:w.heap[C]?=some (.mapIter a b u c)):seenAt w C=u.size:=by unfold seenAt;rw[h]
def qqS{rk:Nat}{K:Sl->WP}(hm:i4 jh w mb f)(hrk:w.heap[rk]?=some (.cells #[.map (some mb)] T (0,0)))(hf:f.length<=100000)(hk:∀s' B l' w',lc w' s' l' B->l'.Perm (f.map (·.1))->Fr [] w w'->(∀b∈B,w.heap.size<=b)->K s' w'): cW 248 [.slice none 0 0,.func (.func 224) #[] #[dF rk]] dh w K:=by
 refine qjY (s:=dG) ?_;obtain⟨es,c,hb,he,hs,hc⟩:=hm;obtain⟨hkm,hkey⟩:=qyx he;have hesl:es.toList.length=f.length:=(by have:=congrArg List.length hkm;simpa using this);have hbW:∀ {w':World},Fr [] w w'->w'.heap[mb]?=some (.map es c):=fun f=>by rw[f.block mb (eZ hb) oL];exact hb
 have hrW:∀ {w':World},Fr [] w w'->w'.heap[rk]?=some (.cells #[.map (some mb)] T (0,0)):=fun f=>by rw[f.block rk (eZ hrk) oL];exact hrk
 refine oB (oE [] w) fun r1 w1 e1 f1 ho=>dQ.kH (lb:=[dF rk]) ho rfl oK fun Dm l R Bz J E E0 w6 el eD f56 ho6 hy=>qn5<|iA (c:=.map) (hrW ho6.fr) (some mb) rfl<|Fv (ts:=dv) _ _ (qxy xu (hbW ho6.fr)) ?_;have ho7:=ho6.alloc (.mapIter (some mb) c #[] c);generalize hit:w6.heap.size=it at ho7;refine iU (fun _ w'=>∃(seen:Array Nat) (so:Sl) (xs:List Int) (Bo:List Nat),
   dQ [] w w' [(it,.mapIter (some mb) c seen c),(l,R),(Dm,.deferred (some [])),(r1,.cells #[so.v] 172 (0,0))]/\(xs++(left es seen).map qE).Perm (f.map (·.1))/\xs.length=seen.size/\lc w' so xs Bo/\
   ∀b∈Bo,w.heap.size<=b/\b∉[it,l,Dm,r1]) (fun _ w'=>f.length-seenAt w' it)
  ⟨#[],dG,[],[],ho7,?_,rfl,.nil _ _ _,oL⟩ ?_
 have:left es #[]=es.toList:=(by unfold left;exact filter_eq_self.2 oL);rw[this,hkm];exact .refl _;rintro _ w8 ⟨seen,so,xs,Bo,ho8,hperm,hxl,hbu,hBo⟩ X hX;have hxs:xs.length+(left es seen).length=f.length:=(by have:=hperm.length_eq;simpa using this);refine qAN (hbW ho8.fr) (ho8.at (i:=0) rfl) hc (fun hall=>?_) (fun e hem hne w9 hsame=>?_);have hl0:left es seen=[]:=filter_eq_nil_iff.2 fun e he=>by simpa using hall e he
 rw[hl0,map_nil,xH] at hperm;refine .inl ⟨ho8.at (i:=1) rfl,?_⟩;have ho9:=ho8.gR (o':=E0) 1 rfl;have hbu9:=hbu.q8 (sh (eZ (ho8.at (i:=1) rfl)) E0) (fun b hb hm=>by simp only[zE] at hm;subst hm;exact (hBo _ hb).2 oL);exact oA (c:=.slice) ho9 3 rfl so rfl<|dQ.eS ho9.ln 2 rfl fun w10 hd=>hk so Bo xs w10 (hbu9.q8 hd.fr (fun b hb=>(hBo b hb).2)) hperm (ho9.back hd.fr) (fun b hb=>(hBo b hb).1);have ho9:=(ho8.q7 (.of_same hsame)).gR (o':=.mapIter (some mb) c (seen.push e.born) c) 0 rfl;have hbu9:lc (Pt.gR w9 it (.mapIter (some mb) c (seen.push e.born) c)) so xs Bo:=(hbu.q7 (.of_same hsame)).q8 (sh (eZ ((ho8.q7 (.of_same hsame)).at (i:=0) rfl)) _) (fun b hb hm=>by simp only[zE] at hm;subst hm;exact (hBo _ hb).2 oL);generalize hw10:Pt.gR w9 it (.mapIter (some mb) c (seen.push e.born) c)=w10 at ho9 hbu9;refine qAt (hbW ho9.fr) (ho9.at (i:=0) rfl) hem hs ?_;rw[hkey e hem];refine hy (qE e) w10 _ (ho9.at (i:=1) rfl) ?_;dsimp only;refine⟨ho9.at (i:=1) rfl,?_⟩;have hoA:=ho9.gR (o':=Bz) 1 rfl;have hbuA:=hbu9.q8 (sh (eZ (ho9.at (i:=1) rfl)) Bz) (fun b hb hm=>by simp only[zE] at hm;subst hm;exact (hBo _ hb).2 oL);refine oA (c:=.slice) hoA 3 rfl so rfl<|EI hbuA oJ fun s11 B11 w11 b11 f11 n11=>?_;have hLlt:∀p∈[it,l,Dm,r1],p<(Pt.gR w10 l Bz).heap.size:=fun p hp=>by have hlt:=fun (k:Nat) (q:Nat×Obj) (hq:_[k]?=some q)=>eZ (hoA.at (i:=k) hq);simp only[zG,xX,or_false] at hp;rcases hp with rfl|rfl|rfl|rfl;exact hlt 0 _ rfl;exact hlt 1 _ rfl;exact hlt 2 _ rfl;exact hlt 3 _ rfl
 have hB11:∀b∈B11,w.heap.size<=b/\b∉[it,l,Dm,r1]:=fun b hb=>by rcases n11 b hb with h|h;exact hBo b h;refine⟨zL hoA.fr.size h,fun hm=>?_⟩;exact Nat.lt_irrefl _ (yD (hLlt b hm) h)
 have hoB:=hoA.q8 f11 (fun b hb=>.inr (hBo b hb).1) (fun p hp hb=>(hBo _ hb).2 (zZ (f:=(·.1)) hp));refine oD hoB 3 rfl _ fun w12 hoC f12=>⟨hoC.at (i:=1) rfl,?_⟩;have hoD:=hoC.gR (o':=R) 1 rfl;have b12:=(b11.q8 f12 (fun b hb hm=>by simp only[zE] at hm;subst hm;exact (hB11 _ hb).2 oL)).q8 (sh (eZ (hoC.at (i:=1) rfl)) R) (fun b hb hm=>by simp only[zE] at hm;subst hm;exact (hB11 _ hb).2 oL);refine cond_false rfl ?_;have hpk:=qw1 hs hem hne;refine hX _ _ ⟨seen.push e.born,s11,xs++[qE e],B11,hoD,?_,by simp[hxl],b12,hB11⟩ ?_;refine List.Perm.trans ?_ hperm;rw[zV];exact (hpk.symm.map qE).append_left xs;have h1:=qqG (ho8.at (i:=0) rfl);have h2:seenAt (Pt.gR w12 l R) it=(seen.push e.born).size:=qqG (hoD.at (i:=0) rfl);have h3:=hpk.length_eq;rw[yI] at h3;show f.length-seenAt (Pt.gR w12 l R) it<f.length-seenAt w8 it;rw[h1,h2,Array.size_push];omega
abbrev lM:={l:List Int // l.length=512}
def i6 (b:lM):List Value:=b.1.map (Value.int .u8)
def sH(b:lM):(i6 b).length=512:=by rw[i6,zK,b.2]
def lP (x:Int×lM):List Value:=Value.int .i64 x.1::i6 x.2
def uA(x:Int×lM):(lP x).length=513:=by rw[lP,yI,sH]
def lM.zero:lM:=⟨zs 512,oZ 512⟩
structure dI where
 Q6:List lM
 Q7:List (Int×lM)
 y5:Int
 down:Bool
 writes:Int
variable {D:dI}
structure dI.Ok (D:dI):Prop where
 at_:∀ x∈D.Q7,0<=x.1/\x.1<D.Q6.length
 y5:-1<=D.y5/\D.y5<=1000000000
 Q6:D.Q6.length<=4096
 Q7:D.Q7.length<=1000000
 writes:0<=D.writes/\D.writes<=1000000000
 nH:∀ b∈D.Q6,eF b.1
 nD:∀ x∈D.Q7,eF x.2.1
abbrev DT:TypeId:=263
def jr (D:dI) (sb:Nat) (h:Sl):Array Value:=#[.slice (pW sb) D.Q6.length D.Q6.length,h.v,.i D.y5,.bool D.down,.i D.writes]
def eO (w:World) (db:Nat) (F:List Nat) (D:dI):Prop:=
 ∃(sb:Nat) (T:TypeId) (h:Sl) (B:List Nat),F=db::sb::B/\(db::sb::B).Nodup/\w.heap[db]?=some (.cells (jr D sb h) DT (0,0))/\w.heap[sb]?=some (.cells (D.Q6.flatMap i6).toArray T (0,0))/\eQ lP 513 w h D.Q7 B
def eO.q8{w w':World}{db:Nat}{F S:List Nat}{D:dI}(h:eO w db F D)(f:Fr S w w')(u:∀b∈F,b∉S):eO w' db F D:=by obtain⟨sb,T,C,B,rfl,I,E,G,J⟩:=h;exact⟨sb,T,C,B,rfl,I,by rw[f.block db (eZ E) (u _ oL)];exact E,by rw[f.block sb (eZ G) (u _ oL)];exact G,J.q8 f (fun b R=>u b (by simp[R]))⟩
def eO.q7{db:Nat}(h:eO w db F D)(f:Fr [] w w'):eO w' db F D:=h.q8 f (fun _ _ h=>by cases h)
def eO.lt{w:World}{db:Nat}{F:List Nat}{D:dI}(h:eO w db F D):∀b∈F,b<w.heap.size:=by obtain⟨sb,T,C,B,rfl,J,E,G,I⟩:=h;intro b u;simp only[zG] at u;rcases u with rfl|rfl|u;exact eZ E;exact eZ G;exact I.lt b u
def eO.cell{db:Nat}(h:eO w db F D):∃sb u,w.heap[db]?=some (.cells (jr D sb u) DT (0,0)):=by obtain⟨sb,T,u,B,rfl,E,C,G,I⟩:=h;exact⟨sb,u,C⟩
def eO.mem{db:Nat}(h:eO w db F D):db∈F:=by obtain⟨sb,T,u,B,rfl,_⟩:=h;simp
def rV (D:dI) (sb c:Nat) (h:Sl):Array Value:=#[.slice (pW sb) D.Q6.length c,h.v,.i D.y5,.bool D.down,.i D.writes]
def vS (w:World) (db:Nat) (F:List Nat) (D:dI) (c:Nat) (Z:List Value):Prop:=
 ∃(sb:Nat) (T:TypeId) (h:Sl) (B:List Nat),F=db::sb::B/\(db::sb::B).Nodup/\w.heap[db]?=some (.cells (rV D sb c h) DT (0,0))/\w.heap[sb]?=some (.cells (D.Q6.flatMap i6++Z).toArray T (0,0))/\eQ lP 513 w h D.Q7 B
def eO.z{db:Nat}(h:eO w db F D):vS w db F D D.Q6.length []:=by obtain⟨sb,T,u,B,rfl,C,E,G,I⟩:=h;exact⟨sb,T,u,B,rfl,C,E,by rw[xH];exact G,I⟩
def eO.x6{db:Nat}{D':dI}{sb:Nat}{C:Sl}(h:eO w db F D)(hc:w.heap[db]?=some (.cells (jr D sb C) DT (0,0)))(f:Fr [db] w w')(hs:D'.Q6=D.Q6)(hw:D'.Q7=D.Q7)(J:w'.heap[db]?=some (.cells (jr D' sb C) DT (0,0))):eO w' db F D':=by
 obtain⟨E,T,u,B,rfl,G,h1,V,h3⟩:=h;have I:E=sb/\u=C:=by have q:=h1.symm.trans hc;have q0:=congrArg (fun o=>match o with|some (Obj.cells R _ _)=>(match R[0]? with|some (Value.slice (some a) _ _)=>a.block|_=>0)|_=>0) q;have q1:=congrArg (fun o=>match o with|some (Obj.cells R _ _)=>R[1]? | _=>none) q;refine⟨q0,?_⟩;have q2:Value.slice u.a u.len u.cap=Value.slice C.a C.len C.cap:=yO q1;cases C;cases u;simp only[Value.slice.injEq] at q2;obtain⟨rfl,rfl,rfl⟩:=q2;rfl
 obtain⟨rfl,rfl⟩:=I;have U:E≠db:=fun e=>by rw[e] at G;simp at G
 have hB:∀b∈B,b∉[db]:=fun b hb I=>by simp at I;subst I;simp at G;exact G.1.2 hb
 exact⟨E,T,u,B,rfl,G,J,by rw[hs,f.block E (eZ V) (oP U)];exact V,by rw[hw];exact h3.q8 f hB⟩
def EQ{db:Nat}(h:eO w db F D)(u:K D.Q6.length w):cW 140 [dF db] di w K:=by refine qjO ?_;obtain⟨sb,C,E⟩:=h.cell;refine fv (iA E ⟨pW sb,D.Q6.length,D.Q6.length⟩ rfl ?_);exact u
def mM (h:Nat):dI:=⟨List.replicate h .zero,[],-1,false,0⟩
def qz0{n:Nat}(h:n<=4096):(mM n).Ok:=
 ⟨fun _ h=>(by cases h),⟨by show (-1:Int)<=-1;decide,by show (-1:Int)<=1000000000;decide⟩,by rw[mM];simpa using h,by simp[mM],by simp[mM],fun b u=>by rw[eq_of_mem_replicate u];exact eF.zs 512,fun _ h=>(by cases h)⟩
def qtl(n:Nat)(b:lM):(List.replicate n (i6 b)).flatten=(List.replicate n b).flatMap i6:=by rw[flatMap_def,map_replicate]
set_option maxRecDepth 100000 in
def qzd{h:Int}{K:Option Addr×Int->WP}(E:(h<8\/h>4096)->K (none,1) w)(J:8<=h->h<=4096->∀db F w',eO w' db F (mM h.toNat)->Fr [] w w'->(∀b∈F,w.heap.size<=b)->K (pW db,0) w'): cW 106 [.i h] dC w K:=by
 refine qth<|gW (fun b w'=>b=decide (h<8\/h>4096)/\w'=w) ?_ ?_;apply dW<;>intro C;exact⟨by rw[yA (Or.inl (zC C))],rfl⟩
 have:=zB C
 exact⟨by simp[this],rfl⟩;rintro b w1 ⟨rfl,rfl⟩;refine dW (fun C=>E (zC C)) (fun C=>?_);have hr:=zB C;have R:8<=h:=oJ;have U:h<=4096:=oJ;obtain⟨n,rfl⟩:∃n:Nat,h=n:=⟨h.toNat,oJ⟩;refine dQ.mkN (zero:=i6 lM.zero) (oE [] w1) (sH _) oJ oJ oJ oJ fun sb w2 e2 u=>dQ.new u fun db V e3 s3 u=>?_;have G:(List.replicate (n:Int).toNat (i6 lM.zero)).flatten=((mM n).Q6).flatMap i6:=(by rw[zJ];exact qtl n _);refine J R U db [db,sb] V ⟨sb,296,dG,[],rfl,?_,?_,?_,.nil _ _ _⟩ u.fr (fun b I=>?_)
 have:=u.nodup;simpa using this
 have:=u.at (i:=0) rfl
 rw[this];simp[jr,mM]
 have:=u.at (i:=1) rfl
 rw[this,zJ,<- G,zJ];simp at I
 have:=u.own
 rcases I with rfl|rfl
 have:=u.own (b,_) (yF (i:=0) rfl)
 simpa using this
 have:=u.own (b,_) (yF (i:=1) rfl)
 simpa using this
def gS (D:dI):dI×Bool:=if D.y5=0 then ({ D with down:=true },true) else if D.y5>0 then ({ D with y5:=D.y5-1 },false) else (D,false)
def qwk{db:Nat}{K:Bool->WP}(h:eO w db F D)(hD:D.y5<=1000000000)(U:∀w',eO w' db F (gS D).1->Fr [db] w w'->K (gS D).2 w'): cW 171 [dF db] dj w K:=by
 refine qmO ?_;obtain⟨sb,G,I⟩:=h.cell;have u:dQ [db] w w [(db,.cells (jr D sb G) DT (0,0))]:=⟨by simpa using I,oL,.refl _ _,oL⟩;refine fv (oA u 0 rfl D.y5 rfl ?_);apply dW<;>intro J;have C:D.y5=0:=(oP J);refine fv<|oH u 0 rfl _ rfl rfl rfl fun w1 u _=>?_
 have:=U w1 (by rw[gS,if_pos C];exact h.x6 I u.fr rfl rfl (u.at (i:=0) rfl)) u.fr
 rw[gS,if_pos C] at this;exact this;have C:¬D.y5=0:=(oP J);refine gW (fun _ w'=>eO w' db F (gS D).1/\Fr [db] w w') ?_ ?_;refine fv (oA u 0 rfl D.y5 rfl ?_);apply cD<;>intro R;have E:D.y5>0:=R;refine fv (oA u 0 rfl D.y5 rfl ?_);refine fv ?_;rw[gg _ oJ];refine oH u 0 rfl _ rfl rfl rfl fun w1 u _=>⟨?_,u.fr⟩;rw[gS,if_neg C,if_pos E];exact h.x6 I u.fr rfl rfl (u.at (i:=0) rfl);have E:¬D.y5>0:=R;refine⟨?_,.refl _ _⟩;rw[gS,if_neg C,if_neg E];exact h;rintro _ w1 ⟨V,h2⟩
 have:=U w1 V h2
 have e:(gS D).2=false:=(by rw[gS,if_neg C];split<;>rfl);rw[e] at this;exact this
def qy8:∃i,prog.info? 298=some i/\(∃z,i.zero=some z/\z.cells.size=513)/\i.size=513/\i.bytes=520:=by have h:(prog.info? 298).map (fun i=>(i.zero.map (fun z=>z.cells.size),i.size,i.bytes))=some (some 513,513,520):=oK;obtain⟨i,E,u⟩:=yT.1 h;simp only[Prod.mk.injEq] at u;obtain⟨z,G,C⟩:=yT.1 u.1;exact⟨i,E,⟨z,G,C⟩,u.2.1,u.2.2⟩
def lz (D:dI) (n:Int) (b:lM):dI:={ D with Q7:=D.Q7++[(n,b)],writes:=D.writes+1 }
def eu (D:dI) (n:Int) (l:List Int):dI×Int:=
 if D.down then (D,7) else if n<0\/n>=D.Q6.length then (D,4) else
 if h:l.length=512 then ((gS (lz D n ⟨l,h⟩)).1,if (gS (lz D n ⟨l,h⟩)).2 then 7 else 0) else (D,1)
def qtb(n:Int)(b:lM)(w:World):(Instr.build 298 #[(0,.i n),(1,.agg (i6 b).toArray)]).run prog w=.ok (.agg (lP (n,b)).toArray) w:=by
 obtain⟨z,hz,hzs⟩:∃z,(prog.info? 298).bind (·.zero)=some z/\z.cells.size=513:=by obtain⟨i,hi,⟨z,hz,hzs⟩,_⟩:=qy8;exact⟨z,by rw[hi];exact hz,hzs⟩
 have:=qoy (P:=prog) (a:=.i n) (b:=.agg (i6 b).toArray) (o1:=1) (s0:=1) (s1:=512) hz oK (fun w=>oK) rfl (by show (i6 b).toArray.size=512;rw[size_toArray,sH]) rfl hzs w
 exact this
def qlB(l:List Int):((l.map (Value.int .u8)).all Value.oneCell')=true:=by rw[all_eq_true];intro v h;obtain⟨x,_,rfl⟩:=mem_map.1 h;rfl
def qrN(b:lM):((i6 b).all Value.oneCell')=true:=qlB _
def FP(x:Int×lM):((lP x).all Value.oneCell')=true:=by rw[lP,all_cons,qrN];rfl
def qxo(h:eh S w s l)(E:l≠[]):∃b o u T C,s.a=some (dg b o)/\w.heap[b]?=some (.cells u T C)/\b∉S/\(u.toList.drop o).take l.length=l.map (Value.int .u8):=by
 rcases h.2.2 with G|⟨b,o,u,T,C,I,J,R,U⟩;exact absurd G E;refine⟨b,o,u,T,C,I,J,R,?_⟩;apply ext_getElem?;intro i;rw[xB,zQ];by_cases hi:i<l.length;rw[if_pos hi,xA,zA hi]
 have:=U i l[i] (zA hi)
 rw[xT] at this
 have:=congrArg (·[0]?) this
 simpa using this;rw[if_neg hi,yS oJ];rfl
def qpF{db:Nat}(h:eO w db F D)(hD:D.Ok)(hs:eh S w s l)(hk:∀F' w',eO w' db F' (eu D n l).1->Fr F w w'->(∀b∈F',b∈F\/w.heap.size<=b)->K (eu D n l).2 w'): cW 138 [dF db,.i n,s.v] di w K:=by
 refine qki (d:=pW db) (b:=s) ?_;have hlen:=hs.1;have hdb:=h.mem;obtain⟨sb,T,wsl,B,hF,hn,hc,hsb,hbuf⟩:=h;have h:eO w db F D:=⟨sb,T,wsl,B,hF,hn,hc,hsb,hbuf⟩;have ho:dQ F w w [(db,.cells (jr D sb wsl) DT (0,0))]:=⟨by simpa using hc,oL,.refl _ _,by simp[hdb]⟩;refine fv (oA (c:=.bool) ho 0 rfl D.down rfl ?_);have same:∀ {e:Int},eu D n l=(D,e)->∀ {w'},w'=w->K e w':=by
  rintro e he w' rfl
  have:=hk F w' (by rw[he];exact h) (.refl _ _) (fun b hb=>.inl hb)
  rw[he] at this;exact this
 refine dW (fun hd=>same (by rw[eu,if_pos hd]) rfl) fun hd=>gW (fun b w'=>b=decide (n<0\/n>=D.Q6.length)/\w'=w) ?_ ?_;apply dW<;>intro hc;exact⟨by rw[yA (Or.inl (zC hc))],rfl⟩;refine fv (oA (c:=.slice) ho 0 rfl ⟨pW sb,D.Q6.length,D.Q6.length⟩ rfl ⟨?_,rfl⟩)
 have:=zB hc
 by_cases h2:n>=D.Q6.length<;>simp[this,h2];rintro b w1 ⟨rfl,rfl⟩;refine dW (fun hr=>same (by rw[eu,if_neg (oP hd),if_pos (zC hr)]) rfl) (fun hr=>?_);have hr':=zB hr;refine dW (fun hq=>same ?_ rfl) (fun hq=>?_);have:¬l.length=512:=(by simp at hq;omega);rw[eu,if_neg (oP hd),if_neg hr',dif_neg this];have h512:l.length=512:=(by simp at hq;omega);obtain⟨eH,hblk⟩:∃eH:lM,eH.1=l:=⟨⟨l,h512⟩,rfl⟩;have hw:eu D n l=((gS (lz D n eH)).1,if (gS (lz D n eH)).2 then 7 else 0):=by rw[eu,if_neg (oP hd),if_neg hr',dif_pos h512];have:eH=⟨l,h512⟩:=Subtype.ext hblk;rw[this]
 rw[hw] at hk;have hd1:=ho.drew;refine fv (oA (c:=.slice) hd1 0 rfl wsl rfl ?_);obtain⟨sbk,so,scs,sT,sfr,hsa,hsbk,hsS,hscs⟩:=qxo hs (by rw[<- length_pos_iff];omega);obtain⟨sa,slen,scap⟩:=s;simp only at hsa hlen;subst hsa;refine qAS oJ<|nJ (n:=512) (w:=w1.drew) hsbk (i6 eH) (sH _) (by rw[<- h512,hscs,i6,hblk])<|qm (ts:=[.kF]) (lP (n,eH)) (qtb n eH _)<|mP (uA _)<|oB hd1 fun r w2 er fr2 ho2=>ig (ho2.cell (off:=1) 1 rfl rfl) ?_;obtain⟨iW,hi,⟨z,hz,hzs⟩,hsz,hby⟩:=qy8;have hwl:=hD.Q7;have hwr:=hD.writes;have hfz:=hD.y5;have fr2':Fr [] w1 w2:=(Fr.refl [] w1).drew.trans fr2;have hbuf2:eQ lP 513 w2 wsl D.Q7 B:=hbuf.q7 fr2';have hsb2:w2.heap[sb]?=some (.cells (D.Q6.flatMap i6).toArray T (0,0)):=(by rw[fr2'.block sb (eZ hsb) oL];exact hsb);have hBF:∀b∈B,b∈F:=fun b hb=>by rw[hF];simp[hb]
 have hdbB:∀b∈B,b≠db:=fun b hb e=>by subst e;simp at hn;exact hn.1.2 hb
 have hsbB:∀b∈B,b≠sb:=fun b hb e=>by subst e;simp at hn;exact hn.2.1 hb
 have hrB:∀b∈B,b≠r:=fun b hb e=>by have:=hbuf.lt b hb;have e1:w1.drew.heap.size=w1.heap.size:=rfl;omega
 refine eQ.j1 (ys:=[(n,eH)]) (e:=298) hbuf2 uA oK hi hz hsz hzs (.ofSlice _ (e':=298) oK _ 1 1 _ ?_ ?_ ?_) rfl (by rw[hby];omega) oJ fun s' B' w3 g1 g2 g3 _=>?_;simp[uA];intro j u hj;rw[Addr.q9,ji (ho2.at (i:=0) rfl),xS];have:(lP (n,eH))[j]?=some u:=(oP hj);simpa using this;intro u hu;have:u∈lP (n,eH):=(oP hu);exact all_eq_true.1 (FP (n,eH)) u this;have ho3:dQ F w1 w3 [(r,.cells (lP (n,eH)).toArray 298 (0,0)),(db,.cells (jr D sb wsl) DT (0,0))]:=
  ho2.q8 g2 (fun b hb=>.inl (hBF b hb)) (fun p hp=>by simp at hp;rcases hp with rfl|rfl;exact fun hb=>hrB _ hb rfl;exact fun hb=>hdbB _ hb rfl)
 have hsb3:w3.heap[sb]?=some (.cells (D.Q6.flatMap i6).toArray T (0,0)):=(by rw[g2.block sb (eZ hsb2) (fun hb=>hsbB _ hb rfl)];exact hsb2);have hc3:=ho3.at (i:=1) rfl;refine fv<|qP hc3 (jr { D with Q7:=D.Q7++[(n,eH)] } sb s') rfl rfl (zO rfl) fun w4 hc4 f4=>fv (iA (c:=.i) hc4 D.writes rfl ?_);refine fv ?_;rw[gg (D.writes+1) oJ];refine qP hc4 (jr (lz D n eH) sb s') rfl rfl (zO rfl) fun w5 hc5 f5=>?_;have hs2:=fr2'.size;have hs3:=g2.size;have hne:sb≠db:=fun e=>by rw[e] at hn;simp at hn
 have f35:Fr [db] w3 w5:=f4.trans f5;have hB'db:∀b∈B',b≠db:=fun b hb e=>by
  rcases g3 b hb with h'|h';exact hdbB b h' e
  have:=eZ hc;omega
 have hB'sb:∀b∈B',b≠sb:=fun b hb e=>by
  rcases g3 b hb with h'|h';exact hsbB b h' e
  have:=eZ hsb;omega
 have hB'n:B'.Nodup:=by rcases g1 with ⟨_,_,rfl⟩|⟨b',o',cs',T',rfl,_⟩;simp;simp
 have h5:eO w5 db (db::sb::B') (lz D n eH):=(by refine⟨sb,T,s',B',rfl,?_,hc5,?_,?_⟩;simp only[nodup_cons,zG,not_or];exact⟨⟨fun e=>hne e.symm,fun hb=>hB'db _ hb rfl⟩,fun hb=>hB'sb _ hb rfl,hB'n⟩;rw[f35.block sb (eZ hsb3) (oP hne)];exact hsb3;exact g1.q8 f35 (fun b hb=>by simpa using hB'db b hb));have hF':∀b∈db::sb::B',b∈F\/w1.heap.size<=b:=fun b hb=>by simp only[zG] at hb;rcases hb with rfl|rfl|hb;exact .inl hdb;exact .inl (by rw[hF];simp);rcases g3 b hb with h'|h';exact .inl (hBF b h');exact .inr oJ
 have f15:Fr F w1 w5:=((fr2'.mono (fun i hi _=>by cases hi)).j8 g2 (fun b hb=>.inl (hBF b hb))).j8 f35 (fun b hb=>by simp at hb;subst hb;exact .inl hdb);refine qwk h5 (by show D.y5<=_;omega) fun w6 h6 f6=>?_
 have:=hk (db::sb::B') w6 h6 (f15.j8 f6 (fun b hb=>by simp at hb;subst hb;exact .inl hdb)) hF'
 apply dW<;>intro ha;rw[ha] at this;exact this;rw[ha] at this;exact this
def fX (s:List lM) (x:Int×lM):List lM:=s.set x.1.toNat x.2
def BE(l:List (Int×lM)):∀s:List lM,(l.foldl fX s).length=s.length:=by
 induction l with
 | nil=>intro s;rfl
 | cons x l ih=>intro s;rw[foldl_cons,ih,fX,xG]
def fU (D:dI):dI×Int:=
 if D.down then (D,7) else if (gS D).2 then ((gS D).1,7) else ({ (gS D).1 with Q6:=D.Q7.foldl fX D.Q6,Q7:=[] },0)
def xk(D:dI):(gS D).1.Q6=D.Q6/\(gS D).1.Q7=D.Q7:=by unfold gS;split;exact⟨rfl,rfl⟩;split<;>exact⟨rfl,rfl⟩
def qrl{db:Nat}(h:eO w db F D)(hD:D.Ok)(hk:∀F' w',eO w' db F' (fU D).1->Fr F w w'->(∀b∈F',b∈F)->K (fU D).2 w'): cW 139 [dF db] di w K:=by
 refine qlD ?_;have ah:=h.mem;have aJ:=hD.y5;refine gW (fun b w'=>(D.down=true/\b=true/\w'=w)\/(D.down=false/\b=(gS D).2/\eO w' db F (gS D).1/\Fr [db] w w')) ?_ ?_;obtain⟨sb,C,hc⟩:=h.cell;refine fv (iA hc D.down rfl ?_);exact dW (fun U=>.inl ⟨U,rfl,rfl⟩) fun U=>qwk h oJ fun w1 h1 f1=>.inr ⟨U,rfl,h1,f1⟩;rintro b w1 (⟨U,rfl,rfl⟩|⟨U,rfl,h1,f1⟩);refine cond_true rfl ?_
 have:=hk F w1 (by rw[fU,if_pos U];exact h) (.refl _ _) (fun b hb=>hb)
 rw[fU,if_pos U] at this;exact this;have fF:Fr F w w1:=f1.mono (fun i E _=>by simp at E;subst E;exact ah);apply dW<;>intro ha
 have:=hk F w1 (by rw[fU,if_neg (by simp[U]),if_pos ha];exact h1) fF (fun b hb=>hb)
 rw[fU,if_neg (by simp[U]),if_pos ha] at this;exact this;have ax:fU D=({ (gS D).1 with Q6:=D.Q7.foldl fX D.Q6,Q7:=[] },0):=(by rw[fU,if_neg (by simp[U]),if_neg (by simp[ha])]);rw[ax] at hk;obtain⟨aa,ak⟩:=xk D;generalize (gS D).1=D1 at h1 aa ak hk;obtain⟨sb,T,C,B,hF,hn,hc,am,G⟩:=h1;rw[aa] at am;rw[ak] at G;have ad:sb≠db:=fun e=>by rw[e] at hn;simp at hn
 have hB:∀b∈B,b∉[sb]:=fun b hb he=>by simp at he;subst he;simp at hn;exact hn.2.1 hb
 have aL:=G.len;have ay:=hD.Q7;have az:=hD.Q6;refine fv (iA hc C rfl ?_);refine iU (fun x w'=>∃i:Nat,x=i/\i<=D.Q7.length/\w'.heap[sb]?=some (.cells (((D.Q7.take i).foldl fX D.Q6).flatMap i6).toArray T (0,0))/\Fr [sb] w1 w') (fun x _=>((D.Q7.length:Int)-x).toNat)
  ⟨0,rfl,oJ,am,.refl _ _⟩ ?_
 rintro x w2 ⟨i,rfl,E,I,f2⟩ X hX;have ae:w2.heap[db]?=some (.cells (jr D1 sb C) DT (0,0)):=(by rw[f2.block db (eZ hc) (by simpa using fun e=>ad e.symm)];exact hc);apply cD<;>intro J;have R:i<D.Q7.length:=oJ;have aA:dZ lP 513 [] w2 C D.Q7:=(G.q8 f2 hB).jo uA oL;have an:=zA R;have aN:=hD.at_ D.Q7[i] (zX R);refine aA.gO uA i rfl an<|dQ.rO (oE [] w2) oK (uA _) (FP _) fun r V er ho=>?_;have aB:V.heap[sb]?=some (.cells (((D.Q7.take i).foldl fX D.Q6).flatMap i6).toArray T (0,0)):=(by rw[ho.fr.block sb (eZ I) oL];exact I);have af:V.heap[db]?=some (.cells (jr D1 sb C) DT (0,0)):=(by rw[ho.fr.block db (eZ ae) oL];exact ae);refine fv (iA (w:=V.drew) af ⟨pW sb,D1.Q6.length,D1.Q6.length⟩ rfl ?_);have ao:=ho.at (i:=0) rfl;refine iA (w:=V.drew) ao D.Q7[i].1 rfl<|nJ (n:=512) (w:=V.drew) ao (i6 D.Q7[i].2) (sH _) (by rw[show (lP D.Q7[i]).toArray.toList.drop 1=i6 D.Q7[i].2 from rfl,zS (by rw[sH];exact zM _)]) ?_;have u:=BE (D.Q7.take i) D.Q6;refine uj oJ (by rw[aa];omega)<|mP (sH _) ?_;have ab:0+Int.toNat D.Q7[i].1*512+(i6 D.Q7[i].2).length<=(((D.Q7.take i).foldl fX D.Q6).flatMap i6).toArray.size:=by rw[size_toArray,pQ sH,sH,u];omega
 refine qP (w:=V.drew) aB (((((D.Q7.take i).foldl fX D.Q6).set D.Q7[i].1.toNat D.Q7[i].2).flatMap i6).toArray) (by rw[xS];exact qtF sH ((D.Q7.take i).foldl fX D.Q6) D.Q7[i].1.toNat D.Q7[i].2 (by rw[u];omega)) (qrN _) ab fun w4 aC f4=>?_;rw[gg _ oJ];refine hX _ _ ⟨i+1,oL,oJ,?_,?_⟩ oJ;rw[yG R,foldl_append];exact aC;have aD:Fr [sb] w2 V.drew:=ho.fr.drew.mono (fun i E _=>by cases E);exact f2.trans (aD.trans f4);have R:i=D.Q7.length:=oJ;subst R;rw[xZ] at I;refine fv ?_;have u:=BE D.Q7 D.Q6;refine qP ae (jr { D1 with Q6:=D.Q7.foldl fX D.Q6,Q7:=[] } sb dG) (by simp[dR,jr,u,aa]) rfl (zO rfl) fun V af f3=>?_;have aE:Fr F w V:=(fF.trans (f2.mono (fun i E _=>by simp at E;subst E;rw[hF];simp))).trans (f3.mono (fun i E _=>by simp at E;subst E;exact ah));refine hk [db,sb] V ⟨sb,T,dG,[],rfl,by simpa using fun e=>ad e.symm,af,?_,.nil _ _ _⟩ aE (fun b hb=>by rw[hF];simp at hb;rcases hb with rfl|rfl<;>simp);rw[f3.block sb (eZ I) (oP ad)];exact I
def iD (n:Int):List (Int×lM)->Option lM
 | []=>none
 | x::r=>match iD n r with|some b=>some b|none=>if x.1=n then some x.2 else none
def qqg{n:Int}:∀(l:List (Int×lM)) (i:Nat) (h:i<l.length),iD n (l.drop (i+1))=none->l[i].1=n->iD n l=some l[i].2
 | x::l,0,h,u,C=>by simp only[xS,drop_succ_cons,xF] at u;simp only[getElem_cons_zero] at C⊢;simp[iD,u,C]
 | x::l,i+1,h,u,C=>by
  have:=qqg l i (oP h) (oP u) (oP C)
  simp only[iD,this,getElem_cons_succ]
def qvr:∀(l:List (Int×lM)) (i:Nat) (h:i<l.length),iD n (l.drop (i+1))=none->l[i].1≠n->iD n (l.drop i)=none:=by intro l i h C u;rw[zY h,iD,C];simp[u]
def eB (D:dI) (n:Int):List Int×Int:=
 if D.down then ([],7) else if n<0\/n>=D.Q6.length then ([],4) else
 match iD n D.Q7 with|some b=>(b.1,0)|none=>((D.Q6.getD n.toNat .zero).1,0)
def qsN{b o n:Nat}{h:Nat}{K:Sl->Prop}(u:0<n)(k:K ⟨some (dg b o),n,n⟩):jl (dg b o) n none none none h K:=by unfold jl;refine⟨oL,?_⟩;simp only[xW,zJ,Int.toNat_zero,Nat.sub_zero,Nat.zero_mul];rw[iN,FF];exact k
def qrO{b o:Nat}{h:Nat×Nat}{x:lM}(G:w.heap[b]?=some (.cells cs T h))(I:(cs.toList.drop o).take 512=i6 x)(J:b∉S):eh S w ⟨some (dg b o),512,512⟩ x.1:=by
 refine⟨x.2.symm,zM _,.inr ⟨b,o,cs,T,h,rfl,G,J,fun i v u=>?_⟩⟩;have C:=(zP.1 u).1;rw[x.2] at C;rw[xT];have E:(i6 x)[i]?=some (.b v):=(by rw[i6,zQ,u];rfl);rw[<- I,xB,if_pos C,xA] at E;apply ext_getElem?;intro j;rw[xB,xA];match j with
 | 0=>simpa using E
 | j+1=>simp
def qs4{K:Value->WP}(u:∀rb w',(∀S w0 L,dQ S w0 w L->dQ S w0 w' ((rb,.cells #[s.v] 261 (0,0))::L))->K (.func (.func 228) #[] #[dF rb]) w'): cW 187 [s.v] dv w K:=by exact qkV<|Pt.DD (u _ _ fun S w0 L h=>h.alloc _)
def qtk(l:List lM)(i:Nat)(x:lM)(h:l[i]?=some x):((l.flatMap i6++Z).drop (i*512)).take 512=i6 x:=by have C:=(zP.1 h).1;have u:(l.flatMap i6).length=l.length*512:=pQ sH l;rw[drop_append_of_le_length (by rw[u];omega),take_append_of_le_length (by rw[yC,u];omega)];exact FL sH l i x h
def qv4{db c:Nat}{K:Sl×Int->WP}(h:vS w db F D c Z)(hD:D.Ok)(hk:∀s' B w',fQ w' s' (eB D n).1 B->Fr [] w w'->(∀b∈B,w.heap.size<=b)->K (s',(eB D n).2) w'): cW 156 [dF db,.i n] dk w K:=by
 refine qlC<|oB (oE [] w) fun r1 w1 e1 f1 G=>oB G fun r3 w2 e2 f2 G=>oB G fun r5 w3 e3 f3 G=>?_;obtain⟨sb,T,ac,B,hF,hn,hc,aA,al⟩:=h;have ai:∀ {w':World},Fr [] w w'->w'.heap[db]?=some (.cells (rV D sb c ac) DT (0,0)):=fun f=>by rw[f.block db (eZ hc) oL];exact hc
 have aB:∀ {w':World},Fr [] w w'->w'.heap[sb]?=some (.cells (D.Q6.flatMap i6++Z).toArray T (0,0)):=fun f=>by rw[f.block sb (eZ aA) oL];exact aA
 have aC:∀ {e:Int} {w':World} {L'},eB D n=([],e)->dQ [] w w' L'->L'[1]?=some (r3,.cells #[.slice none 0 0] 101 (0,0))->L'[0]?=some (r5,.cells #[.i e] 69 (0,0))->ld Cell.slice (dg r3) w' fun s=>ld .i (dg r5) w' fun x=>K (s,x) w':=by
  intro e w' L' he G h1 h0;refine oA G 1 h1 dG rfl<|oA G 0 h0 e rfl ?_
  have:=hk dG [] w' (by rw[he];exact .nil _ _ _) G.fr oL
  rw[he] at this;exact this
 refine fv (iA (ai G.fr) D.down rfl ?_);apply dW<;>intro hd;exact oH G 1 rfl _ rfl rfl rfl fun w4 G _=>oH G 0 rfl _ rfl rfl rfl fun w5 G _=>aC (by rw[eB,if_pos hd]) G rfl rfl;refine gW (fun b w'=>b=decide (n<0\/n>=D.Q6.length)/\w'=w3.drew) ?_ ?_;refine oA G.drew 2 rfl n rfl<|dW (fun hc=>?_) (fun aT=>?_);exact⟨by rw[yA (Or.inl (zC hc))],rfl⟩;refine oA G.drew 2 rfl n rfl<|fv (iA (ai G.drew.fr) ⟨pW sb,D.Q6.length,c⟩ rfl ⟨?_,rfl⟩)
 have:=zB aT
 by_cases h2:n>=D.Q6.length<;>simp[this,h2];rintro b w4 ⟨rfl,rfl⟩;apply cD<;>intro hr;exact oH G.drew 1 rfl _ rfl rfl rfl fun w4 G _=>oH G 0 rfl _ rfl rfl rfl fun w5 G _=>aC (by rw[eB,if_neg (oP hd),if_pos (hr)]) G rfl rfl;have aV:=hr;have aW:0<=n:=oJ;have aX:n<D.Q6.length:=oJ;have aY:=hD.Q7;have aZ:=hD.Q6;have a0:=al.len;have aG:eB D n=match iD n D.Q7 with|some b=>(b.1,0)|none=>((D.Q6.getD n.toNat .zero).1,0):=by rw[eB,if_neg (oP hd),if_neg aV]
 refine fv (iA (ai G.drew.fr) ac rfl ?_);refine qs4 fun rb w5 a1=>?_;have a2:=a1 _ _ _ G.drew;refine dQ.kH (lb:=[dF rb]) a2 rfl oK fun Dm l R Bz J E E0 w6 el eD bk aK hy=>qil<|oA aK 2 rfl ac rfl ?_;rw[gg _ oJ];have aL:∀ {bl:lM} {s7:Sl} {Bf:List Nat} {ad wz:World} {aj:List (Nat×Obj)},eB D n=(bl.1,0)->dQ [] w ad aj->fQ ad s7 bl.1 Bf->(∀b∈Bf,w.heap.size<=b)->(∀b∈Bf,b∉aj.map (·.1))->Fr (aj.map (·.1)) ad wz->K (s7,0) wz:=by
  intro bl s7 Bf ad wz aj he a4 af U V fz
  have:=hk s7 Bf wz (by rw[he];exact af.q8 fz V) (a4.back fz) U
  rw[he] at this;exact this
 refine iU (fun x w'=>∃i:Nat,x=(i:Int)-1/\i<=D.Q7.length/\iD n (D.Q7.drop i)=none/\dQ [] w w' [(l,R),(Dm,.deferred (some [])),(rb,.cells #[ac.v] 261 (0,0)),(r5,.cells #[.i 0] 69 (0,0)),(r3,.cells #[.slice none 0 0] 101 (0,0)),(r1,.cells #[.i n] 3 (0,0))]) (fun x _=>(x+1).toNat)
  ⟨D.Q7.length,by rw[a0],zM _,by rw[drop_length];rfl,aK⟩ ?_
 rintro x w7 ⟨i,rfl,hi,ak,ae⟩ X hX;apply cD<;>intro ap;have bo:=ap;obtain⟨i,rfl⟩:∃k,i=k+1:=⟨i-1,oJ⟩;have aq:i<D.Q7.length:=oJ;refine oA ae 2 rfl ac rfl ?_;have a5:dZ lP 513 [] w7 ac D.Q7:=(al.q7 ae.fr).jo uA oL;refine a5.gO uA i oJ (zA aq)<|hy ((((i+1:Nat):Int)-1),lP D.Q7[i]) w7 _ (ae.at (i:=0) rfl) ?_;dsimp only;refine dQ.rO ae oK (uA _) (FP _) fun r w8 er I=>⟨I.at (i:=1) rfl,?_⟩;have aa:=I.gR (o':=Bz) 1 rfl;refine oA aa 0 rfl D.Q7[i].1 rfl<|oA aa 6 rfl n rfl ?_;apply dW<;>intro hm;have au:D.Q7[i].1=n:=(oP hm);have av:=qqg D.Q7 i aq ak au;have ag:eB D n=(D.Q7[i].2.1,0):=(by rw[aG,av]);refine qsN oM ?_;have aw:eh [] (Pt.gR w8 l Bz) ⟨some (dg r 1),512,512⟩ D.Q7[i].2.1:=
  qrO (x:=D.Q7[i].2) (aa.at (i:=0) rfl) (by rw[show (lP D.Q7[i]).toArray.toList.drop 1=i6 D.Q7[i].2 from rfl,zS (by rw[sH];exact zM _)]) oL
 refine Ag (s:=⟨some (dg r 1),512,512⟩) aw (by rw[D.Q7[i].2.2];decide) fun s7 Bf ad af ax ah _ _=>?_;have ab:=aa.q7 ax;have u:=ab.ln;have U:∀b∈Bf,w.heap.size<=b:=fun b hb=>by have h1:(Pt.gR w8 l Bz).heap.size<=b:=ah b hb;have:=aa.fr.size;omega
 have V:∀b∈Bf,b∉[r,l,Dm,rb,r5,r3,r1]:=fun b hb hm=>by
  have h1:(Pt.gR w8 l Bz).heap.size<=b:=ah b hb;have h2:∀p∈[r,l,Dm,rb,r5,r3,r1],p<(Pt.gR w8 l Bz).heap.size:=fun p hp=>by have C:=fun (k:Nat) (q:Nat×Obj) (hq:_[k]?=some q)=>eZ (aa.at (i:=k) hq);simp only[zG,xX,or_false] at hp;rcases hp with rfl|rfl|rfl|rfl|rfl|rfl|rfl;exact C 0 _ rfl;exact C 1 _ rfl;exact C 2 _ rfl;exact C 3 _ rfl;exact C 4 _ rfl;exact C 5 _ rfl;exact C 6 _ rfl
  have:=h2 b hm
  omega
 refine oH u 5 rfl _ rfl rfl rfl fun a7 u _=>oH u 4 rfl _ rfl rfl rfl fun a8 u _=>⟨u.at (i:=1) rfl,?_⟩;have u:=u.gR (o':=J 0) 1 rfl;refine cond_true rfl<|.inr ⟨0,_,rfl,u.at (i:=1) rfl,?_⟩;have u:=u.gR (o':=E 0) 1 rfl;exact dQ.eS u 2 rfl fun a9 u=>oA u 5 rfl s7 rfl<|oA u 4 rfl 0 rfl<|aL ag ab af U V u.fr;have au:D.Q7[i].1≠n:=(oP hm);refine⟨aa.at (i:=1) rfl,?_⟩;have a':=aa.gR (o':=R) 1 rfl;refine cond_false rfl ?_;rw[gg _ oJ];refine hX _ _ ⟨i,oJ,oJ,qvr D.Q7 i aq ak au,a'.sub (sublist_cons_self _ _)⟩ oJ;have C:=ap;obtain rfl:i=0:=by omega
 rw[xF] at ak;refine .inl ⟨ae.at (i:=0) rfl,?_⟩;have I:=(ae.gR (o':=E0) 0 rfl).drew;have ag:eB D n=((D.Q6.getD n.toNat .zero).1,0):=(by rw[aG,ak]);have aN:n.toNat<D.Q6.length:=oJ;have ba:D.Q6[n.toNat]?=some (D.Q6.getD n.toNat .zero):=(by rw[yR,zA aN];rfl);refine fv (iA (ai I.fr) ⟨pW sb,D.Q6.length,c⟩ rfl ?_);refine oA I 5 rfl n rfl<|uj aW aX<|qsN oM ?_;have aw:eh [] (Pt.gR w7 l E0).drew ⟨some ⟨sb,0+n.toNat*512,none⟩,512,512⟩ (D.Q6.getD n.toNat .zero).1:=
  qrO (aB I.fr) (by rw[xS];exact qtk D.Q6 n.toNat _ ba) oL
 refine Ag (s:=⟨some ⟨sb,0+n.toNat*512,none⟩,512,512⟩) aw (by rw[(D.Q6.getD n.toNat .zero).2];decide) fun s7 Bf ad af ax ah _ _=>?_;have ab:=I.q7 ax;have u:=ab.ln;have U:∀b∈Bf,w.heap.size<=b:=fun b hb=>by have h1:(Pt.gR w7 l E0).drew.heap.size<=b:=ah b hb;have:=I.fr.size;omega
 have V:∀b∈Bf,b∉[l,Dm,rb,r5,r3,r1]:=fun b hb hm=>by
  have h1:(Pt.gR w7 l E0).drew.heap.size<=b:=ah b hb;have h2:∀p∈[l,Dm,rb,r5,r3,r1],p<(Pt.gR w7 l E0).drew.heap.size:=fun p hp=>by have C:=fun (k:Nat) (q:Nat×Obj) (hq:_[k]?=some q)=>eZ (I.at (i:=k) hq);simp only[zG,xX,or_false] at hp;rcases hp with rfl|rfl|rfl|rfl|rfl|rfl;exact C 0 _ rfl;exact C 1 _ rfl;exact C 2 _ rfl;exact C 3 _ rfl;exact C 4 _ rfl;exact C 5 _ rfl
  have:=h2 b hm
  omega
 exact oH u 4 rfl _ rfl rfl rfl fun a7 u _=>oH u 3 rfl _ rfl rfl rfl fun a8 u _=>dQ.eS u 1 rfl fun a9 u=>oA u 4 rfl s7 rfl<|oA u 3 rfl 0 rfl<|aL ag ab af U V u.fr
def CM{db:Nat}{K:Sl×Int->WP}(h:eO w db F D)(C:D.Ok)(E:∀u B w',fQ w' u (eB D n).1 B->Fr [] w w'->(∀b∈B,w.heap.size<=b)->K (u,(eB D n).2) w'): cW 156 [dF db,.i n] dk w K:=qv4 h.z C E
abbrev gC (n:Int):Prop:=0<=n/\n<4294967296
def Dy(h:gC n)(r:List Int):fl (be n 4++r)=n:=by rw[Bc h.1];exact qx7 h
def qp2:∀(c:List Int) (i:Nat),(c.flatMap (be · 4)).drop (4*i)=(c.drop i).flatMap (be · 4)
 | [],i=>by simp
 | a::c,0=>by simp
 | a::c,i+1=>by rw[yH,drop_succ_cons,<- qp2 c i,drop_append,jZ,vE (by rw[jZ];omega),xI];congr 1
def qyn(c:List Int):(c.flatMap (be · 4)).length=4*c.length:=by
 induction c with
 | nil=>rfl
 | cons a c ih=>rw[yH,zF,jZ,ih,yI];omega
def ql7{i:Nat}(h:i<c.length)(u:∀x∈c,gC x):fl ((c.flatMap (be · 4)).drop (4*i))=c[i]:=by rw[qp2,zY h,yH];exact Dy (u _ (zX h)) _
def Co(next:Int)(c:List Int):(iI next c).length=6+4*c.length:=by rw[iI,zF,zF,jZ,qyn];rfl
def qrW(c:List Int):eF (c.flatMap (be · 4)):=by
 induction c with
 | nil=>exact fun x h=>by cases h
 | cons a c ih=>rw[yH];exact (sJ _ _).append ih
def qAk(x:Int):0<=wrap .u8 x/\wrap .u8 x<256:=by rw[Aj];omega
def qpK(next:Int)(c:List Int):eF (iI next c):=by refine ((sJ _ _).append fun x h=>?_).append (qrW c);simp only[zG,xX,or_false] at h;rcases h with rfl|rfl<;>exact qAk _
def qst{next:Int}(C:gC next)(I:next≠1)(J:∀x∈c,gC x)(R:iB 1 c=true)(hl:c.length<=123):hU (iI next c)=(next,c,0):=by
 have E:=Co next c
 have e:iI next c=be next 4++([wrap .u8 (Int.fdiv c.length (2^8)),wrap .u8 c.length]++c.flatMap (be · 4)):=by rw[iI,zV]
 have G:fl (iI next c)=next:=by rw[e];exact Dy C _
 have h:kI (iI next c)=c.length:=(by have U:(iI next c).getD 4 0=wrap .u8 (Int.fdiv c.length (2^8)):=(by rw[e,Bc C.1];rfl);have V:(iI next c).getD 5 0=wrap .u8 c.length:=(by rw[e,Bc C.1];rfl);have hd:Int.fdiv (c.length:Int) (2^8)=0:=(by rw[Int.fdiv_eq_ediv_of_nonneg _ oM];omega);rw[kI,U,V,Aj,Aj,hd];omega);have u:jS (iI next c) c.length=c:=by
  apply ext_getElem;simp[jS];intro i I h2;have:(iI next c).drop (6+4*i)=(c.flatMap (be · 4)).drop (4*i):=by have h6:(iI next c).drop 6=c.flatMap (be · 4):=(by rw[e,Bc C.1];rfl);rw[<- h6,xD]
  simp only[jS,getElem_map,getElem_range,this];exact ql7 h2 J
 rw[hU,iN,if_neg (by rw[G,h];omega),h,zJ,u,if_pos R,G]
def wQ(x:Int)(h:0<=x/\x<18446744073709551616):wrap .u64 x=x:=by unfold wrap;have:(IntKind.u64.signed)=false:=rfl;simp only[this,Bool.false_and,Bool.false_eq_true,if_false];exact Int.emod_eq_of_lt h.1 h.2
def qqr{A B:Int}(k:Nat)(G:0<=A)(C:A%2^k=0)(I:0<=B)(h:B<2^k)(J:A+B<18446744073709551616):bits .or .u64 A B=A+B:=by
 obtain⟨a,rfl⟩:∃a:Nat,A=a:=⟨A.toNat,oJ⟩;obtain⟨b,rfl⟩:∃b:Nat,B=b:=⟨B.toNat,oJ⟩;have E:a%2^k=0:=by have:((a:Int)%((2^k:Nat):Int))=0:=(by rw[Int.natCast_pow];exact C);omega
 have u:b<2^k:=(by have:(b:Int)<((2^k:Nat):Int):=(by rw[Int.natCast_pow];exact h);omega);obtain⟨q,rfl⟩:∃q,a=2^k*q:=⟨a / 2^k,by have:=Nat.div_add_mod a (2^k);omega⟩;show wrap .u64 ((BitVec.ofInt 64 ((2^k*q:Nat):Int)||| BitVec.ofInt 64 (b:Int)).toNat:Nat)=_;rw[BitVec.toNat_or,BitVec.ofInt_natCast,BitVec.ofInt_natCast,BitVec.toNat_ofNat,BitVec.toNat_ofNat,Nat.mod_eq_of_lt (show 2^k*q<2^64 by omega),Nat.mod_eq_of_lt (show b<2^64 by omega),<- Nat.two_pow_add_eq_or_of_lt u];rw[wQ _ oJ];omega
abbrev np (n:Int):Prop:=0<=n/\n<18446744073709551616
def C9:gq q t=be (wrap .u32 (Int.fdiv q (2^32))) 4++(be (wrap .u32 q) 4++t.flatMap (be · 4)):=by rw[gq,zV]
def qjD(I:np q):iq (gq q t)=q:=by have h:Int.fdiv q (2^32)=q / 4294967296:=(by rw[Int.fdiv_eq_ediv_of_nonneg _ oM];rfl);have u:fl (gq q t)=q / 4294967296:=(by rw[C9,h,lN _ oJ];exact Dy (by constructor<;>omega) _);have C:(gq q t).drop 4=be (wrap .u32 q) 4++t.flatMap (be · 4):=(by rw[C9,drop_append,jZ,vE (by rw[jZ];exact zM _)];rfl);have E:wrap .u32 q=q%4294967296:=(by unfold wrap;have:(IntKind.u32.signed)=false:=rfl;simp only[this,Bool.false_and,Bool.false_eq_true,if_false];rfl);have G:fl ((gq q t).drop 4)=q%4294967296:=(by rw[C,E];exact Dy (by constructor<;>omega) _);rw[iq,u,G,wQ (q / 4294967296) oJ,wQ (q%4294967296) oJ,wQ (q / 4294967296*2^32) oJ];rw[qqr 32 oJ oJ oJ oJ oJ];omega
def qvY(q:Int)(t:List Int):eF (gq q t):=by rw[C9];exact (sJ _ _).append ((sJ _ _).append (qrW t))
def qq5(h:t.length=27)(u:∀x∈t,gC x):lw (gq q t)=t:=by
 apply ext_getElem;rw[td,h];intro i G C;have E:(gq q t).drop 8=t.flatMap (be · 4):=by rw[C9,<- zV,drop_append,zF,jZ,jZ,vE (by rw[zF,jZ,jZ];exact zM _)];rfl
 have:(gq q t).drop (8+4*i)=(t.flatMap (be · 4)).drop (4*i):=(by rw[<- E,xD]);simp only[lw,getElem_map,getElem_range,this];exact ql7 C u
def qtB{place:Int}(h:np q)(u:t.length=27)(G:∀x∈t,gC x)(E:Int.tmod q 2=place):eY place (eE place 1 (gq q t))=((q,t),0):=by have C:gC place:=(by rw[<- E,Int.tmod_eq_emod_of_nonneg h.1];constructor<;>omega);have I:=D9 (kind:=1) (body:=gq q t) C (by rw[xv u];decide);rw[eY,I,if_neg oL,if_neg (by simp[xv u]),if_neg (by rw[qjD h,E];simp),qjD h,qq5 u G]
end
section
open Go Go.Pt List
open Go.IntKind (wrap)
open Classical
variable {k v:Nat}
def qx8{a b:Int}(h:eF [a,b]):be (gO [a,b]) 2=[a,b]/\gO [a,b]=a*256+b:=by
 have u:=h a oL;have C:=h b oL;have e:gO [a,b]=a*256+b:=by rw[BT h (zO rfl)];show ((0*256+a)*256+b)=_;omega
 refine⟨?_,e⟩;rw[e,be2 oJ];congr 1;omega;congr 1;omega
structure dL where
 Q4:Bool
 J6:List Key
 Q0:List Key
 J9:List Int
variable {n:dL}
def ip:dL:=⟨false,[],[],[]⟩
def dV (k v:Nat):Nat×Nat:=if k<1\/k>24\/v>108 then (0,0) else (498 / (k+v),(498+k) / (4+k))
def fC (n:dL) (k v:Nat):Prop:=
 (∀a∈n.J6,a.length=k)/\(∀a∈n.Q0,a.length=v)/\fJ n.J6/\
 if n.Q4 then n.J9=[]/\1<=n.J6.length/\n.J6.length<=(dV k v).1/\n.Q0.length=n.J6.length
 else (∀x∈n.J9,2<=x)/\n.Q0=[]/\2<=n.J9.length/\n.J9.length<=(dV k v).2/\n.J6.length+1=n.J9.length
def kz (J6 Q0:List Key):List Int:=(J6.zip Q0).flatMap fun x=>x.1++x.2
def gd (n:dL):List Int:=if n.Q4 then be n.J6.length 2++kz n.J6 n.Q0 else be n.J9.length 2++n.J9.flatMap (fun x=>be x 4)++n.J6.flatten
def iC (n:dL):Int:=if n.Q4 then 3 else 4
noncomputable def eM (n:dL) (k v:Nat):Int×List Int×Int:=if fC n k v then (iC n,gd n,0) else (0,[],1)
def iK (k v:Nat):Nat->List Int->List Key×List Key
 | 0,_=>([],[])
 | c+1,b=>(b.take k::(iK k v c (b.drop (k+v))).1,(b.drop k).take v::(iK k v c (b.drop (k+v))).2)
def y6:Nat->List Int->List Int
 | 0,_=>[]
 | c+1,b=>gO (b.take 4)::y6 c (b.drop 4)
def kV (k:Nat):Nat->List Int->List Key
 | 0,_=>[]
 | c+1,b=>b.take k::kV k c (b.drop k)
def fB (b:List Int):Nat:=(b.getD 0 0*256+b.getD 1 0).toNat
def mz (k v:Nat) (b:List Int):dL:=⟨true,(iK k v (fB b) (b.drop 2)).1,(iK k v (fB b) (b.drop 2)).2,[]⟩
def kZ (k:Nat) (b:List Int):dL:=⟨false,kV k (fB b-1) ((b.drop 2).drop (fB b*4)),[],y6 (fB b) (b.drop 2)⟩
noncomputable def iv (kind:Int) (b:List Int) (k v:Nat):dL×Int:=
 if (dV k v).1=0\/b.length<2\/b.length>500 then (ip,2)
 else if kind=3/\(b.drop 2).length=fB b*(k+v)/\fC (mz k v b) k v then (mz k v b,0)
 else if kind=4/\1<=fB b/\(b.drop 2).length=fB b*4+(fB b-1)*k/\fC (kZ k b) k v then (kZ k b,0)
 else (ip,2)
def qsD{kind:Int}{b:List Int}(h:(iv kind b k v).2=0):fC (iv kind b k v).1 k v:=by unfold iv at h⊢;split at h;cases h;rename_i E;rw[if_neg E];split at h;rename_i u;rw[if_pos u];exact u.2.2;rename_i u;rw[if_neg u];split at h;rename_i C;rw[if_pos C];exact C.2.2.2;cases h
def G8{k v:Nat}:∀ {J6 Q0:List Key},(∀a∈J6,a.length=k)->(∀a∈Q0,a.length=v)->J6.length=Q0.length->(kz J6 Q0).length=J6.length*(k+v)
 | [],[],_,_,_=>by simp[kz]
 | a::r,b::s,C,E,G=>by
  have:=G8 (J6:=r) (Q0:=s) (fun x u=>C x (zN _ u)) (fun x u=>E x (zN _ u)) (oP G)
  unfold kz at this⊢;rw[zip_cons_cons,yH,zF,zF,C a oL,E b oL,this,yI,xU];omega
 | [],_::_,_,_,h=>by simp at h
 | _::_,[],_,_,h=>by simp at h
def quj{k v:Nat}:∀ {J6 Q0:List Key},(∀a∈J6,a.length=k)->(∀a∈Q0,a.length=v)->J6.length=Q0.length->iK k v J6.length (kz J6 Q0)=(J6,Q0)
 | [],[],_,_,_=>rfl
 | a::r,b::s,C,E,R=>by have ih:=quj (k:=k) (v:=v) (J6:=r) (Q0:=s) (fun x u=>C x (zN _ u)) (fun x u=>E x (zN _ u)) (oP R);have G:=C a oL;have I:=E b oL;have e:kz (a::r) (b::s)=a++(b++kz r s):=(by unfold kz;rw[zip_cons_cons,yH,zV]);rw[yI,iK,e];have e1:(a++(b++kz r s)).take k=a:=(by rw[<- G,take_left'];rfl);have J:(a++(b++kz r s)).drop k=b++kz r s:=(by rw[<- G,drop_left'];rfl);have U:(a++(b++kz r s)).drop (k+v)=kz r s:=(by rw[<- xD,J,<- I,drop_left'];rfl);have V:(b++kz r s).take v=b:=(by rw[<- I,take_left'];rfl);rw[U,ih,e1,J,V]
 | [],_::_,_,_,h=>by simp at h
 | _::_,[],_,_,h=>by simp at h
def qug{r:List Int}:∀ {l:List Int},(∀x∈l,0<=x/\x<4294967296)->y6 l.length (l.flatMap (fun x=>be x 4)++r)=l
 | [],_=>rfl
 | a::l,h=>by have ih:=qug (r:=r) (l:=l) fun x C=>h x (zN _ C);have u:=jZ a 4;rw[yI,y6,yH,zV];generalize l.flatMap (fun x=>be x 4)++r=R at ih⊢;have e1:(be a 4++R).take 4=be a 4:=take_left' u;have E:(be a 4++R).drop 4=R:=drop_left' u;rw[e1,E,ih,Fq (h a oL)]
def quf{k:Nat}:∀ {l:List Key},(∀a∈l,a.length=k)->kV k l.length l.flatten=l
 | [],_=>rfl
 | a::l,h=>by have ih:=quf (k:=k) (l:=l) fun x C=>h x (zN _ C);have u:=h a oL;rw[yI,kV,flatten_cons];have e1:(a++l.flatten).take k=a:=(by rw[<- u];exact take_left);have E:(a++l.flatten).drop k=l.flatten:=(by rw[<- u];exact drop_left);rw[e1,E,ih]
def EA(l:List Int):(l.flatMap fun x=>be x 4).length=l.length*4:=by
 induction l with
 | nil=>rfl
 | cons a l ih=>rw[yH,zF,ih,jZ,yI];omega
def Fh{k:Nat}:∀ {l:List Key},(∀a∈l,a.length=k)->l.flatten.length=l.length*k
 | [],_=>by simp
 | a::l,h=>by rw[flatten_cons,zF,Fh fun x u=>h x (zN _ u),h a oL,yI,xU];omega
def qpM{n:Nat}(h:n<65536)(r:List Int):fB (be (n:Int) 2++r)=n:=by
 have E:=jZ (n:Int) 2;obtain⟨a,b,e⟩:∃a b,be (n:Int) 2=[a,b]:=by
  match be (n:Int) 2,E with
  | [a,b],_=>exact⟨a,b,rfl⟩
 have u:=sJ (n:Int) 2;have C:=qr3 (n:=(n:Int)) ⟨oJ,oJ⟩;rw[e] at u C
 have:=(qx8 u).2
 rw[C] at this;unfold fB;rw[e];show (a*256+b).toNat=n;omega
def qt1{n:Int}{r:List Int}:(be n 2++r).drop 2=r:=by
 have:=drop_left (l₁:=be n 2) (l₂:=r)
 rw[jZ] at this;exact this
def ql3(a b:Nat):a / b*b<=a:=Nat.div_mul_le_self a b
def qwl{c:Nat}(h:c<=(dV k v).1):c*(k+v)<=498:=by unfold dV at h;split at h;rw[show c=0 from Nat.le_zero.1 h];omega;exact zL (Nat.mul_le_mul_right _ h) (ql3 _ _)
def qvb{c:Nat}(h:c<=(dV k v).2):c*4+(c-1)*k<=498:=by
 unfold dV at h;split at h;rw[show c=0 from Nat.le_zero.1 h];omega;have u:c*(4+k)<=498+k:=zL (Nat.mul_le_mul_right _ h) (ql3 _ _);cases c with
 | zero=>omega
 | succ c=>
  rw[Nat.add_sub_cancel];rw[xU,Nat.mul_add] at u;rw[xU];omega
def AS:(dV k v).1<=498/\(dV k v).2<=498:=by unfold dV;split;exact⟨oM,oM⟩;exact⟨Nat.div_le_self _ _,Nat.div_le_of_le_mul (by have:(498+k)<=(4+k)*498:=(by rw[xU];omega);exact this)⟩
def C7(h:fC n k v):2<=(gd n).length/\(gd n).length<=500:=by
 obtain⟨C,G,I,u⟩:=h;unfold gd;cases E:n.Q4 with
 | true=>
  rw[E,if_pos rfl] at u;rw[if_pos rfl,zF,jZ,G8 C G u.2.2.2.symm]
  have:=qwl u.2.2.1
  omega
 | false=>
  rw[E,if_neg oM] at u;rw[if_neg oM,zF,zF,jZ,EA,Fh C]
  have:=qvb u.2.2.2.1
  have e:n.J6.length=n.J9.length-1:=oJ;rw[e];omega
def qsm:(⟨n.Q4,n.J6,n.Q0,n.J9⟩:dL)=n:=rfl
def qvL(h:fC n k v)(hk:∀x∈n.J9,x<4294967296):iv (iC n) (gd n) k v=(n,0):=by
 have V:=C7 h;have h0:=h;obtain⟨R,h2,h3,G⟩:=h;have af:=(AS (k:=k) (v:=v));unfold iv;cases E:n.Q4 with
 | true=>
  rw[E,if_pos rfl] at G;have u:fB (gd n)=n.J6.length:=(by unfold gd;rw[E,if_pos rfl];exact qpM oJ _);have C:(gd n).drop 2=kz n.J6 n.Q0:=(by unfold gd;rw[E,if_pos rfl];exact qt1);have I:mz k v (gd n)=n:=by unfold mz;rw[u,C,quj R h2 G.2.2.2.symm];rw[<- qsm (n:=n),E,G.1]
  rw[iN,if_pos ⟨by unfold iC;rw[E];rfl,by rw[u,C,G8 R h2 G.2.2.2.symm],by rw[I];exact h0⟩,I]
 | false=>
  rw[E,if_neg oM] at G;have hb:gd n=be n.J9.length 2++(n.J9.flatMap (fun x=>be x 4)++n.J6.flatten):=(by unfold gd;rw[E,if_neg oM,zV]);have u:fB (gd n)=n.J9.length:=(by rw[hb];exact qpM oJ _);have C:(gd n).drop 2=n.J9.flatMap (fun x=>be x 4)++n.J6.flatten:=(by rw[hb];exact qt1);have J:n.J6.length=n.J9.length-1:=oJ;have I:kZ k (gd n)=n:=by unfold kZ;have e:(n.J9.flatMap (fun x=>be x 4)++n.J6.flatten).drop (n.J9.length*4)=n.J6.flatten:=(by rw[<- EA];exact drop_left);rw[u,C,qug fun x hx=>⟨by have:=G.1 x hx;omega,hk x hx⟩,e,<- J,quf R];rw[<- qsm (n:=n),E,G.2.1]
  have ag:1<=(dV k v).1:=(by have U:=G.2.2.2.1;have h6:=G.2.2.1;unfold dV at U⊢;by_cases hc:k<1\/k>24\/v>108;rw[if_pos hc] at U;have h8:n.J9.length<=0:=U;omega;rw[if_neg hc];have h7:k+v<=498:=oJ;exact (Nat.le_div_iff_mul_le (show 0<k+v by omega)).2 (by rw[Nat.one_mul];exact h7));rw[iN,if_neg (fun h=>by unfold iC at h;rw[E] at h;exact absurd h.1 oM),if_pos ⟨by unfold iC;rw[E];rfl,by rw[u];omega,by rw[u,C,zF,EA,Fh R,J],by rw[I];exact h0⟩,I]
def eF.flat{l:List Key}(h:∀a∈l,eF a):eF l.flatten:=fun x u=>by obtain⟨a,C,u⟩:=mem_flatten.1 u;exact h a C x u
def qpJ(u:∀a∈n.J6,eF a)(E:∀a∈n.Q0,eF a):eF (gd n):=by unfold gd;split;refine (sJ _ _).append fun x h=>?_;obtain⟨y,G,h⟩:=yK.1 h;have C:=of_mem_zip (a:=y.1) (b:=y.2) G;rcases zD.1 h with h|h;exact u _ C.1 x h;exact E _ C.2 x h;refine ((sJ _ _).append fun x h=>?_).append (eF.flat u);obtain⟨y,_,h⟩:=yK.1 h;exact sJ _ _ x h
end
end Go.Proofs.YtpcmehldpoljfaaGreatDoor
